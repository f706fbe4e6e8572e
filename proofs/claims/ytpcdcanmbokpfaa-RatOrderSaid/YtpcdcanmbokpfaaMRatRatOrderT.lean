import Derived.Test.YtpcdcanmbokpfaaPRatx28
import Derived.Test.YtpcdcanmbokpfaaMRatRatT
namespace Go.Proofs.Ytpcdcanmbokpfaa.PRat
open Go Go.RowKit Go.Proofs.YtpcdcanmbokpfaaW.PrintWords Go.Proofs.YtpcdcanmbokpfaaW.PrintLast Go.Proofs.YtpcdcanmbokpfaaW.PrintMore
open BallQ (In64 Right q out fits put)
namespace Order
theorem cmp_swap (x y : Rat) : cmpQ y x = -cmpQ x y ∧ -1 ≤ cmpQ x y ∧ cmpQ x y ≤ 1 := by
  unfold cmpQ
  by_cases h1 : x < y
  · have h2 : ¬ y < x := by grind
    have h3 : y ≠ x := by grind
    simp [h1, h2, h3]
  · by_cases h2 : x = y
    · subst h2; simp [Rat.lt_irrefl]
    · have h3 : y < x := by grind
      simp [h1, h2, h3]
theorem cmp_zero (x y : Rat) : cmpQ x y = 0 ↔ x = y := by
  unfold cmpQ
  by_cases h1 : x < y
  · have : x ≠ y := by grind
    simp [h1, this]
  · by_cases h2 : x = y <;> simp [h1, h2]
theorem cmp_pos (x y : Rat) : 0 < cmpQ x y ↔ y < x := by
  unfold cmpQ
  by_cases h1 : x < y
  · have : ¬ y < x := by grind
    simp [h1, this]
  · by_cases h2 : x = y
    · subst h2; simp [Rat.lt_irrefl]
    · have : y < x := by grind
      simp [h1, h2, this]
theorem cmp_add (x y z : Rat) : cmpQ (x + z) (y + z) = cmpQ x y := by
  unfold cmpQ
  have e1 : x + z < y + z ↔ x < y := by constructor <;> intro h <;> grind
  have e2 : x + z = y + z ↔ x = y := by constructor <;> intro h <;> grind
  simp only [e1, e2]
theorem same_eq (x y : Rat) : (x.num == y.num && ((x.den : Int) == (y.den : Int))) = decide (x = y) := by
  by_cases h : x = y
  · subst h; simp
  · rw [decide_eq_false h]
    rw [Bool.and_eq_false_iff, beq_eq_false_iff_ne, beq_eq_false_iff_ne]
    by_cases e : x.num = y.num
    · right; intro e2; exact h (Rat.ext e (by omega))
    · exact .inl e
theorem num_pos_sub (x y : Rat) : (x - y).num > 0 ↔ y < x := by
  have : 0 < (x - y).num ↔ 0 < x - y := by
    rw [Rat.lt_iff]
    simp
  have e : 0 < x - y ↔ y < x := by constructor <;> intro h <;> grind
  exact this.trans e
theorem subS_fits {x y : Rat} (hx : fits x) (hy : fits y) : subS x.num x.den y.num y.den = out (x - y) := by
  unfold subS
  rw [if_pos ⟨(BallQ.right_fits hx).1, (BallQ.right_fits hy).1⟩, BallQ.q_self, BallQ.q_self]
theorem pure_holds (a0 a1 b0 b1 c0 c1 : Int) (h1 : (Lit.int .i64 a0).wf = true) (h2 : (Lit.int .i64 a1).wf = true) (h3 : (Lit.int .i64 b0).wf = true) (h4 : (Lit.int .i64 b1).wf = true) (h5 : (Lit.int .i64 c0).wf = true) (h6 : (Lit.int .i64 c1).wf = true) : ∃ k, ballcocklaw01_RatOrder.f k a0 a1 b0 b1 c0 c1 = some true := by
  apply Ev.rounds
  have i1 := in_of_wf h1; have i2 := in_of_wf h2; have i3 := in_of_wf h3; have i4 := in_of_wf h4; have i5 := in_of_wf h5; have i6 := in_of_wf h6
  have bad : Ev (fun k => ballcocklaw01_RatOrder.j0 k true a0 a1 b0 b1 c0 c1) true := Ev.step (fun k => by rw [ballcocklaw01_RatOrder.j0]) (Ev_pos rfl (Ev.bind awake_ev (Ev.now _)))
  unfold ballcocklaw01_RatOrder.f
  refine Ev.bind awake_ev (Ev_pos rfl (Ev.bind (right_ev a0 a1 i1 i2) ?_))
  by_cases ra : Right a0 a1
  · refine Ev_pos (decide_eq_true ra) (Ev.bind (right_ev b0 b1 i3 i4) ?_)
    by_cases rb : Right b0 b1
    · refine Ev_pos (decide_eq_true rb) (Ev.bind (right_ev c0 c1 i5 i6) ?_)
      by_cases rc : Right c0 c1
      · rw [decide_eq_true rc]
        clear bad
        obtain ⟨x, hx, rfl, rfl⟩ := right_rat ra i1 i2
        obtain ⟨y, hy, rfl, rfl⟩ := right_rat rb i3 i4
        obtain ⟨z, hz, rfl, rfl⟩ := right_rat rc i5 i6
        obtain ⟨s1, s2, s3⟩ := cmp_swap x y
        have c1 := Ev_cast (compare_ev _ _ _ _ i1 i2 i3 i4) (cmpS_fits hx hy)
        have c2 := Ev_cast (compare_ev _ _ _ _ i3 i4 i1 i2) ((cmpS_fits hy hx).trans s1)
        refine Ev.step (fun k => by rw [ballcocklaw01_RatOrder.j0]) (Ev_neg (by simp) (Ev.bind c1 (Ev.bind c2 ?_)))
        have ew : wrap64 (- -cmpQ x y) = cmpQ x y := by rw [Int.neg_neg]; exact w64 (by omega) (by omega)
        have eb : ((cmpQ x y == 0) != (x.num == y.num && ((x.den : Int) == (y.den : Int)))) = false := by
          rw [same_eq]
          by_cases h : x = y
          · have := (cmp_zero x y).2 h
            rw [this, decide_eq_true h]; rfl
          · have : (cmpQ x y == 0) = false := beq_eq_false_iff_ne.2 (fun e => h ((cmp_zero x y).1 e))
            rw [this, decide_eq_false h]; rfl
        rw [ew, eb]
        refine Ev_pos rfl (Ev.step (fun k => by rw [ballcocklaw01_RatOrder.j1]) (Ev_neg (by simp) (Ev.bind (Ev_cast (sub_ev' _ _ _ _ i1 i2 i3 i4) (subS_fits hx hy)) ?_)))
        have last : Ev (fun k => ballcocklaw01_RatOrder.j2 k (cmpQ x y) false x.num x.den y.num y.den z.num z.den) true := by
          refine Ev.step (fun k => by rw [ballcocklaw01_RatOrder.j2]) (Ev_neg (by simp) ?_)
          refine Ev.bind (Ev_cast (add_ev _ _ _ _ i1 i2 i5 i6) (addS_fits hx hz)) (Ev.bind (Ev_cast (add_ev _ _ _ _ i3 i4 i5 i6) (addS_fits hy hz)) ?_)
          by_cases f1 : fits (x + z)
          · rw [out_ok f1]
            refine Ev_pos rfl ?_
            by_cases f2 : fits (y + z)
            · rw [out_ok f2]
              have j1 := BallQ.right_fits f1
              have j2 := BallQ.right_fits f2
              refine Ev_pos rfl (Ev.bind (Ev_cast (compare_ev _ _ _ _ j1.2.1 j1.2.2 j2.2.1 j2.2.2) (cmpS_fits f1 f2)) (Ev_some fun _ => ?_))
              rw [cmp_add]; simp
            · rw [out_over f2]; exact Ev_neg (by simp) (Ev.now _)
          · rw [out_over f1]; exact Ev_neg (by simp) (Ev.now _)
        by_cases fd : fits (x - y)
        · rw [out_ok fd]
          refine Ev_pos rfl ?_
          have : ((decide ((x - y).num > 0)) != (decide (cmpQ x y > 0))) = false := by
            have : decide ((x - y).num > 0) = decide (cmpQ x y > 0) := by
              rw [decide_eq_decide, num_pos_sub]; exact (cmp_pos x y).symm
            rw [this]; simp
          show Ev (fun k => ballcocklaw01_RatOrder.j2 k (cmpQ x y) ((decide ((x - y).num > 0)) != (decide (cmpQ x y > 0))) x.num x.den y.num y.den z.num z.den) true
          rw [this]; exact last
        · rw [out_over fd]; exact Ev_neg (by simp) last
      · rw [decide_eq_false rc]; exact bad
    · exact Ev_neg (by simpa using rb) bad
  · exact Ev_neg (by simpa using ra) bad
end Order
end Go.Proofs.Ytpcdcanmbokpfaa.PRat
