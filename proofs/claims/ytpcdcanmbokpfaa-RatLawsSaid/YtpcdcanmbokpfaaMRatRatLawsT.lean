import Derived.Test.YtpcdcanmbokpfaaPRatx8
import Derived.Test.YtpcdcanmbokpfaaPRatx9
import Derived.Test.YtpcdcanmbokpfaaPRatx12
import Derived.Test.YtpcdcanmbokpfaaPRatx13
import Derived.Test.YtpcdcanmbokpfaaPRatx27
import Derived.Test.YtpcdcanmbokpfaaMRatRatT
namespace Go.Proofs.Ytpcdcanmbokpfaa.PRat
open Go Go.RowKit Go.Proofs.YtpcdcanmbokpfaaW.PrintWords Go.Proofs.YtpcdcanmbokpfaaW.PrintLast Go.Proofs.YtpcdcanmbokpfaaW.PrintMore
open BallQ (In64 Right q out fits put)
namespace Laws
theorem out_in (x : Rat) : In64 (out x).1 ∧ In64 (out x).2.1 := by
  by_cases h : fits x
  · rw [out_ok h]; exact ⟨(BallQ.right_fits h).2.1, (BallQ.right_fits h).2.2⟩
  · rw [out_over h]; exact ⟨⟨by decide, by decide⟩, ⟨by decide, by decide⟩⟩
theorem add_r {x y : Rat} (hx : fits x) (hy : fits y) : Ev (fun k => rat_Add.f k x.num x.den y.num y.den) (out (x + y)) :=
  Ev_cast (add_ev _ _ _ _ (BallQ.right_fits hx).2.1 (BallQ.right_fits hx).2.2 (BallQ.right_fits hy).2.1 (BallQ.right_fits hy).2.2) (addS_fits hx hy)
theorem mul_r {x y : Rat} (hx : fits x) (hy : fits y) : Ev (fun k => rat_Mul.f k x.num x.den y.num y.den) (out (x * y)) :=
  Ev_cast (mul_ev _ _ _ _ (BallQ.right_fits hx).2.1 (BallQ.right_fits hx).2.2 (BallQ.right_fits hy).2.1 (BallQ.right_fits hy).2.2) (mulS_fits hx hy)
theorem sub_r {x y : Rat} (hx : fits x) (hy : fits y) : Ev (fun k => rat_Sub.f k x.num x.den y.num y.den) (out (x - y)) :=
  Ev_cast (sub_ev' _ _ _ _ (BallQ.right_fits hx).2.1 (BallQ.right_fits hx).2.2 (BallQ.right_fits hy).2.1 (BallQ.right_fits hy).2.2) (by
    unfold subS
    rw [if_pos ⟨(BallQ.right_fits hx).1, (BallQ.right_fits hy).1⟩, BallQ.q_self, BallQ.q_self])
theorem div_r {x y : Rat} (hx : fits x) (hy : fits y) (h0 : y.num ≠ 0) : Ev (fun k => rat_Div.f k x.num x.den y.num y.den) (out (x / y)) :=
  Ev_cast (div_ev _ _ _ _ (BallQ.right_fits hx).2.1 (BallQ.right_fits hx).2.2 (BallQ.right_fits hy).2.1 (BallQ.right_fits hy).2.2) (by
    unfold divS
    rw [if_pos ⟨⟨(BallQ.right_fits hx).1, (BallQ.right_fits hy).1⟩, h0⟩, BallQ.q_self, BallQ.q_self])
theorem j8_true (a b c d : Int) : Ev (fun k => ballcocklaw01_RatLaws.j8 k true a b c d) true :=
  Ev.step (fun k => by rw [ballcocklaw01_RatLaws.j8]) (Ev_pos rfl (Ev.now _))
theorem j8_same (t : Bool) (a b : Int) : Ev (fun k => ballcocklaw01_RatLaws.j8 k t a b a b) true := by
  refine Ev.step (fun k => by rw [ballcocklaw01_RatLaws.j8]) ?_
  cases t
  · exact Ev_neg (by simp) (Ev_some fun _ => by simp)
  · exact Ev_pos rfl (Ev.now _)
theorem j8_zero (a b c d : Int) : Ev (fun k => ballcocklaw01_RatLaws.j8 k ((0 : Int) == 0) a b c d) true := j8_true a b c d
theorem j7_ev {x y z : Rat} (hx : fits x) (hy : fits y) (hz : fits z) :
    Ev (fun k => ballcocklaw01_RatLaws.j7 k x.num x.den y.num y.den z.num z.den (out (x + y)).1 (out (x + y)).2.1) true := by
  refine Ev.step (fun k => by rw [ballcocklaw01_RatLaws.j7]) ?_
  refine Ev.bind (mul_r hx hz) (Ev.bind (mul_r hy hz) ?_)
  refine Ev.bind (add_ev _ _ _ _ (out_in _).1 (out_in _).2 (out_in _).1 (out_in _).2) ?_
  refine Ev.bind (mul_ev _ _ _ _ (out_in _).1 (out_in _).2 (BallQ.right_fits hz).2.1 (BallQ.right_fits hz).2.2) ?_
  by_cases h1 : fits (x * z)
  · rw [out_ok h1]
    refine Ev_pos rfl ?_
    by_cases h2 : fits (y * z)
    · rw [out_ok h2]
      refine Ev_pos rfl ?_
      dsimp only
      rw [addS_fits h1 h2]
      by_cases h3 : fits (x + y)
      · rw [out_ok h3]
        dsimp only
        rw [mulS_fits h3 hz, ← Rat.add_mul]
        by_cases h4 : fits ((x + y) * z)
        · rw [out_ok h4]
          exact Ev_pos rfl (Ev_pos rfl (j8_same _ _ _))
        · rw [out_over h4]
          exact Ev_neg (by decide) (j8_true _ _ _ _)
      · rw [out_over h3]
        dsimp only
        by_cases h4 : fits (x * z + y * z)
        · rw [out_ok h4]
          refine Ev_pos rfl ?_
          have e : ∀ c : Int × Int × Int, Ev (fun k => if c.2.2 = 0 then ballcocklaw01_RatLaws.j8 k ((0 : Int) == 0) (x * z + y * z).num ((x * z + y * z).den : Int) c.1 c.2.1 else ballcocklaw01_RatLaws.j8 k true (x * z + y * z).num ((x * z + y * z).den : Int) c.1 c.2.1) true := by
            intro c
            by_cases h : c.2.2 = 0
            · exact Ev_pos h (j8_zero _ _ _ _)
            · exact Ev_neg h (j8_true _ _ _ _)
          exact e _
        · rw [out_over h4]
          exact Ev_neg (by decide) (j8_true _ _ _ _)
    · rw [out_over h2]
      exact Ev_neg (by decide) (j8_true _ _ _ _)
  · rw [out_over h1]
    exact Ev_neg (by decide) (j8_true _ _ _ _)
theorem num_ne {y : Rat} (h : y.num ≠ 0) : y ≠ 0 := by intro e; apply h; rw [e]; rfl
theorem j3_ev {x y z : Rat} (hx : fits x) (hy : fits y) (hz : fits z) :
    Ev (fun k => ballcocklaw01_RatLaws.j3 k x.num x.den y.num y.den z.num z.den (out (x + y)).1 (out (x + y)).2.1) true := by
  refine Ev.step (fun k => by rw [ballcocklaw01_RatLaws.j3]) ?_
  have m2 := mul_r hy hx
  rw [Rat.mul_comm y x] at m2
  refine Ev.bind (mul_r hx hy) (Ev.bind m2 ?_)
  refine Ev_neg (by simp) ?_
  rw [show ((out (x * y)).2.2 != (out (x * y)).2.2) = false by simp]
  refine Ev.step (fun k => by rw [ballcocklaw01_RatLaws.j4]) (Ev_neg (by simp) ?_)
  by_cases h : fits (x * y)
  · rw [out_ok h]
    refine Ev_pos rfl (Ev.step (fun k => by rw [ballcocklaw01_RatLaws.j5]) ?_)
    by_cases h0 : y.num = 0
    · exact Ev_neg (by simp [h0]) (j7_ev hx hy hz)
    · refine Ev_pos (by simp [h0]) ?_
      have d := div_r h hy h0
      have e : x * y / y = x := by
        have := num_ne h0
        rw [Rat.div_def, Rat.mul_assoc, Rat.mul_inv_cancel _ this, Rat.mul_one]
      rw [e, out_ok hx] at d
      refine Ev.bind d (Ev_pos rfl ?_)
      refine Ev.step (fun k => by rw [ballcocklaw01_RatLaws.j6]) (Ev_neg (by simp) (j7_ev hx hy hz))
  · rw [out_over h]
    refine Ev_neg (by decide) (Ev.step (fun k => by rw [ballcocklaw01_RatLaws.j5]) ?_)
    exact Ev_neg (by simp) (j7_ev hx hy hz)
theorem j0_ev {x y z : Rat} (hx : fits x) (hy : fits y) (hz : fits z) :
    Ev (fun k => ballcocklaw01_RatLaws.j0 k false x.num x.den y.num y.den z.num z.den) true := by
  refine Ev.step (fun k => by rw [ballcocklaw01_RatLaws.j0]) (Ev_neg (by simp) ?_)
  have m2 := add_r hy hx
  rw [Rat.add_comm y x] at m2
  refine Ev.bind (add_r hx hy) (Ev.bind m2 ?_)
  refine Ev_neg (by simp) ?_
  rw [show ((out (x + y)).2.2 != (out (x + y)).2.2) = false by simp]
  have J := j3_ev hx hy hz
  refine Ev.step (fun k => by rw [ballcocklaw01_RatLaws.j1]) (Ev_neg (by simp) ?_)
  by_cases h : fits (x + y)
  · rw [out_ok h] at J ⊢
    refine Ev_pos rfl ?_
    have d := sub_r h hy
    have e : x + y - y = x := by grind
    rw [e, out_ok hx] at d
    refine Ev.bind d (Ev_pos rfl ?_)
    exact Ev.step (fun k => by rw [ballcocklaw01_RatLaws.j2]) (Ev_neg (by simp) J)
  · rw [out_over h] at J ⊢
    exact Ev_neg (by decide) J
theorem pure_holds (a0 a1 b0 b1 c0 c1 : Int) (h1 : (Lit.int .i64 a0).wf = true) (h2 : (Lit.int .i64 a1).wf = true) (h3 : (Lit.int .i64 b0).wf = true) (h4 : (Lit.int .i64 b1).wf = true) (h5 : (Lit.int .i64 c0).wf = true) (h6 : (Lit.int .i64 c1).wf = true) : ∃ k, ballcocklaw01_RatLaws.f k a0 a1 b0 b1 c0 c1 = some true := by
  apply Ev.rounds
  have i1 := in_of_wf h1; have i2 := in_of_wf h2; have i3 := in_of_wf h3; have i4 := in_of_wf h4; have i5 := in_of_wf h5; have i6 := in_of_wf h6
  have bad : Ev (fun k => ballcocklaw01_RatLaws.j0 k true a0 a1 b0 b1 c0 c1) true := Ev.step (fun k => by rw [ballcocklaw01_RatLaws.j0]) (Ev_pos rfl (Ev.bind awake_ev (Ev.now _)))
  unfold ballcocklaw01_RatLaws.f
  refine Ev.bind awake_ev (Ev_pos rfl (Ev.bind (right_ev a0 a1 i1 i2) ?_))
  by_cases ra : Right a0 a1
  · refine Ev_pos (decide_eq_true ra) (Ev.bind (right_ev b0 b1 i3 i4) ?_)
    by_cases rb : Right b0 b1
    · refine Ev_pos (decide_eq_true rb) (Ev.bind (right_ev c0 c1 i5 i6) ?_)
      by_cases rc : Right c0 c1
      · rw [decide_eq_true rc]
        obtain ⟨x, hx, rfl, rfl⟩ := right_rat ra i1 i2
        obtain ⟨y, hy, rfl, rfl⟩ := right_rat rb i3 i4
        obtain ⟨z, hz, rfl, rfl⟩ := right_rat rc i5 i6
        exact j0_ev hx hy hz
      · rw [decide_eq_false rc]
        exact bad
    · exact Ev_neg (by simp [rb]) bad
  · exact Ev_neg (by simp [ra]) bad
end Laws
end Go.Proofs.Ytpcdcanmbokpfaa.PRat
