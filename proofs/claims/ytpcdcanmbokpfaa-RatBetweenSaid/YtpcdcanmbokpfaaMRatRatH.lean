import Derived.Test.YtpcdcanmbokpfaaPRatx18
import Derived.Test.YtpcdcanmbokpfaaPRatx19
import Derived.Test.YtpcdcanmbokpfaaMRatRatG
namespace Go.Proofs.Ytpcdcanmbokpfaa.PRat
open Go Go.RowKit Go.Proofs.YtpcdcanmbokpfaaW.PrintWords Go.Proofs.YtpcdcanmbokpfaaW.PrintLast Go.Proofs.YtpcdcanmbokpfaaW.PrintMore
open BallQ (In64 Right q out fits put)
/-- How two fractions stand to each other. -/
def cmpQ (x y : Rat) : Int := if x < y then -1 else if x = y then 0 else 1
def cmpS (aN aD bN bD : Int) : Int := if Right aN aD ∧ Right bN bD then cmpQ (q aN aD) (q bN bD) else 0
theorem q_lt {a b c d : Int} (h : Right a b) (ha : In64 a) (hb : In64 b) (k : Right c d) (hc : In64 c) (hd : In64 d) : q a b < q c d ↔ a * d < c * b := by
  obtain ⟨h0, h1, _⟩ := BallQ.q_right h ha hb
  obtain ⟨k0, k1, _⟩ := BallQ.q_right k hc hd
  rw [Rat.lt_iff, h0, h1, k0, k1]
theorem compare_ev (aN aD bN bD : Int) (h1 : In64 aN) (h2 : In64 aD) (h3 : In64 bN) (h4 : In64 bD) : Ev (fun k => rat_Compare.f k aN aD bN bD) (cmpS aN aD bN bD) := by
  have bad : Ev (fun k => rat_Compare.j0 k true aN aD bN bD) 0 := Ev.step (fun k => by rw [rat_Compare.j0]) (Ev_pos rfl (Ev.now _))
  unfold rat_Compare.f cmpS
  by_cases hra : Right aN aD
  · refine Ev.bind (Ev_cast (right_ev aN aD h1 h2) (decide_eq_true hra)) (Ev_pos rfl ?_)
    by_cases hrb : Right bN bD
    · rw [if_pos ⟨hra, hrb⟩]
      refine Ev.bind (Ev_cast (right_ev bN bD h3 h4) (decide_eq_true hrb)) (Ev_pos rfl ?_)
      have hlt := q_lt hra h1 h2 hrb h3 h4
      by_cases he : aN = bN ∧ aD = bD
      · have : (aN == bN && (aD == bD)) = true := by simp [he.1, he.2]
        rw [this]
        refine Ev_cast bad ?_
        unfold cmpQ
        rw [he.1, he.2]
        rw [if_neg (Rat.lt_irrefl), if_pos rfl]
      · have : (aN == bN && (aD == bD)) = false := by
          rw [Bool.and_eq_false_iff, beq_eq_false_iff_ne, beq_eq_false_iff_ne]
          by_cases e : aN = bN
          · exact .inr (fun e2 => he ⟨e, e2⟩)
          · exact .inl e
        rw [this]
        have hne : q aN aD ≠ q bN bD := fun e => he (BallQ.right_inj hra h1 h2 hrb h3 h4 e)
        have hb : In64 (-bN) := by have := hrb.2.1; have := h3.1; have := h3.2; exact ⟨by omega, by omega⟩
        have ew : wrap64 (-bN) = -bN := w64 (by have := hb.1; omega) (by have := hb.2; omega)
        obtain ⟨m, hs, hm⟩ := sum_ev aN bD (-bN) aD h1 h4 hb h2 _ rfl
        refine Ev.step (fun k => by rw [rat_Compare.j0, ew]) (Ev_neg (by simp) (Ev.bind hs ?_))
        have hgt := q_lt hrb h3 h4 hra h1 h2
        have e1 : aN * bD + -bN * aD = aN * bD - bN * aD := by rw [Int.neg_mul]; rfl
        have hv : aN * bD + -bN * aD ≠ 0 := by
          rw [e1]
          intro h0
          apply hne
          have e2 : aN * bD = bN * aD := by omega
          have n1 : ¬ q aN aD < q bN bD := by rw [hlt]; omega
          have n2 : ¬ q bN bD < q aN aD := by rw [hgt]; omega
          exact Rat.le_antisymm (Rat.not_lt.1 n2) (Rat.not_lt.1 n1)
        have hm := hm hv
        rw [e1] at hm
        unfold cmpQ
        by_cases hl : q aN aD < q bN bD
        · have : m = true := by rw [hm, decide_eq_true]; have := hlt.1 hl; omega
          rw [if_pos hl]
          exact Ev_pos this (Ev.now _)
        · have : m = false := by rw [hm, decide_eq_false]; intro h; apply hl; rw [hlt]; omega
          rw [if_neg hl, if_neg hne]
          exact Ev_neg (by simp [this]) (Ev.now _)
    · rw [if_neg (fun h => hrb h.2)]
      refine Ev.bind (Ev_cast (right_ev bN bD h3 h4) (decide_eq_false hrb)) (Ev_neg (by simp) bad)
  · rw [if_neg (fun h => hra h.1)]
    refine Ev.bind (Ev_cast (right_ev aN aD h1 h2) (decide_eq_false hra)) (Ev_neg (by simp) bad)
theorem out_ok {x : Rat} (h : fits x) : out x = (x.num, (x.den : Int), 0) := by unfold BallQ.out; rw [if_pos h]
theorem out_over {x : Rat} (h : ¬ fits x) : out x = (0, 0, 3) := by unfold BallQ.out; rw [if_neg h]
theorem addS_fits {x y : Rat} (hx : fits x) (hy : fits y) : addS x.num x.den y.num y.den = out (x + y) := by
  unfold addS
  rw [if_pos ⟨(BallQ.right_fits hx).1, (BallQ.right_fits hy).1⟩, BallQ.q_self, BallQ.q_self]
theorem mulS_fits {x y : Rat} (hx : fits x) (hy : fits y) : mulS x.num x.den y.num y.den = out (x * y) := by
  unfold mulS
  rw [if_pos ⟨(BallQ.right_fits hx).1, (BallQ.right_fits hy).1⟩, BallQ.q_self, BallQ.q_self]
theorem cmpS_fits {x y : Rat} (hx : fits x) (hy : fits y) : cmpS x.num x.den y.num y.den = cmpQ x y := by
  unfold cmpS
  rw [if_pos ⟨(BallQ.right_fits hx).1, (BallQ.right_fits hy).1⟩, BallQ.q_self, BallQ.q_self]
/-- A right pair is a fraction's own numbers. -/
theorem right_rat {n d : Int} (h : Right n d) (hn : In64 n) (hd : In64 d) : ∃ x : Rat, fits x ∧ n = x.num ∧ d = (x.den : Int) := by
  obtain ⟨h0, h1, h2⟩ := BallQ.q_right h hn hd
  exact ⟨q n d, h2, h0.symm, h1.symm⟩
theorem in_of_wf {a : Int} (h : (Lit.int .i64 a).wf = true) : In64 a := by
  simp [Lit.wf, IntKind.min, IntKind.max, IntKind.signed, IntKind.bits] at h
  exact ⟨by omega, by omega⟩
theorem awake_ev : Ev (fun k => ballcocklaw01_awake.f k) true := by
  unfold ballcocklaw01_awake.f
  have e1 : addS 1 2 1 3 = (5, 6, 0) := by decide +kernel
  have e2 : mulS 4611686018427387904 1 2 1 = (0, 0, 3) := by decide +kernel
  have h1 := add_ev 1 2 1 3 ⟨by decide, by decide⟩ ⟨by decide, by decide⟩ ⟨by decide, by decide⟩ ⟨by decide, by decide⟩
  have h2 := mul_ev 4611686018427387904 1 2 1 ⟨by decide, by decide⟩ ⟨by decide, by decide⟩ ⟨by decide, by decide⟩ ⟨by decide, by decide⟩
  rw [e1] at h1
  rw [e2] at h2
  exact Ev.bind h1 (Ev.bind h2 (Ev_some fun _ => by decide))
end Go.Proofs.Ytpcdcanmbokpfaa.PRat
