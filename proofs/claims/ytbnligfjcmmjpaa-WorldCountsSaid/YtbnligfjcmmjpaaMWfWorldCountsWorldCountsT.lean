import Derived.Test.YtbnligfjcmmjpaaPWfWorldCountsx3
import Derived.Test.YtbnligfjcmmjpaaMWfWorldCountsWorldT
namespace Go.Proofs.Ytbnligfjcmmjpaa.PWfWorldCounts
open Go Go.RowKit Go.Proofs.YtbnligfjcmmjpaaW.PrintWords Go.Proofs.YtbnligfjcmmjpaaW.PrintLast Go.Proofs.YtbnligfjcmmjpaaW.PrintMore
set_option linter.unusedVariables false
namespace World21
theorem j3_ev (x1 s : List Int) (u i : Nat) (hu : u ≤ s.length) (hs : s.length ≤ 255) (hi : i < 61) (H : Ev (fun k => ballcocklaw21_WorldCounts.l0 k x1 s (u : Int) ((i + 1 : Nat) : Int) s (u : Int)) true) : Ev (fun k => ballcocklaw21_WorldCounts.j3 k x1 s (u : Int) (i : Int) s (u : Int)) true := by
  refine Ev.step (fun k => by rw [ballcocklaw21_WorldCounts.j3]) ?_
  refine Ev_bnd rfl (Ev_pos rfl (Ev_bnd rfl ?_))
  refine Ev.step (fun k => by rw [ballcocklaw21_WorldCounts.j4]) (Ev_neg (by simp) ?_)
  rw [wsucc i (by omega)]
  exact H
theorem l0_ev (x1 s : List Int) (hs : s.length ≤ 255) (hz : ∀ u : Nat, rd s (u : Int) = 0) (h1 : x1.length ≤ 60) : ∀ m i : Nat, i + m = x1.length → ∀ u : Nat, u ≤ s.length → Ev (fun k => ballcocklaw21_WorldCounts.l0 k x1 s (u : Int) (i : Int) s (u : Int)) true := by
  intro m
  induction m with
  | zero =>
    intro i hi u hu
    exact Ev.step (fun k => by rw [ballcocklaw21_WorldCounts.l0]) (Ev_neg (by omega) (Ev.now _))
  | succ m ih =>
    intro i hi u hu
    refine Ev.step (fun k => by rw [ballcocklaw21_WorldCounts.l0]) (Ev_pos (by omega) (Ev_pos (by omega) ?_))
    by_cases hn : rd x1 (i : Int) < 1
    · refine Ev.bind (choose_low s _ _ hn) (Ev_pos rfl (Ev_neg (by omega) ?_))
      refine Ev.step (fun k => by rw [ballcocklaw21_WorldCounts.j2]) (Ev_neg (by decide) ?_)
      exact j3_ev x1 s u i hu hs (by omega) (ih (i + 1) (by omega) u hu)
    · by_cases he : u = s.length
      · subst he
        refine Ev.bind (choose_end s _) (Ev_pos rfl (Ev_pos (by omega) ?_))
        refine Ev.step (fun k => by rw [ballcocklaw21_WorldCounts.j2]) (Ev_neg (by simp) ?_)
        exact j3_ev x1 s _ i hu hs (by omega) (ih (i + 1) (by omega) _ hu)
      · have t0 : Int.tmod (rd s (u : Int)) (rd x1 (i : Int)) = 0 := by rw [hz u]; exact Int.zero_tmod _
        have c := choose_mid s u (rd x1 (i : Int)) (by omega) (by omega) (by omega) (by omega)
        rw [t0] at c
        refine Ev.bind c (Ev_pos rfl (Ev_pos (by omega) ?_))
        refine Ev.step (fun k => by rw [ballcocklaw21_WorldCounts.j2]) (Ev_pos (by simp; omega) ?_)
        rw [wsucc u (by omega)]
        exact j3_ev x1 s (u + 1) i (by omega) hs (by omega) (ih (i + 1) (by omega) (u + 1) (by omega))
theorem counts (a0 : Int) (l1 : List Int) (h0 : (Lit.int .u8 a0).wf = true) (_h1 : l1.length ≤ maxLen) (_h2 : l1.length * 8 ≤ 140737488351232) (_h3 : ∀ x ∈ l1, (Lit.int .i64 x).wf = true) : ∃ k, ballcocklaw21_WorldCounts.f k a0 l1 = some true := by
  apply Ev.rounds
  have ha : 0 ≤ a0 ∧ a0 ≤ 255 := by
    simp [Lit.wf, IntKind.min, IntKind.max, IntKind.signed, IntKind.bits] at h0
    omega
  unfold ballcocklaw21_WorldCounts.f
  refine Ev.bind awake_ev (Ev_pos rfl ?_)
  by_cases h : (l1.length : Int) > 60
  · rw [decide_eq_true h]
    exact Ev.step (fun k => by rw [ballcocklaw21_WorldCounts.j0]) (Ev_pos rfl (Ev.bind awake_ev (Ev.now _)))
  · rw [decide_eq_false h]
    refine Ev.step (fun k => by rw [ballcocklaw21_WorldCounts.j0]) (Ev_neg (by simp) ?_)
    rw [w64 (x := a0) (by omega) (by omega)]
    refine Ev_pos (by omega) (Ev_pos (by omega) (Ev_bnd rfl ?_))
    refine Ev_bnd (new_eq _ (by simp; omega)) ?_
    refine l0_ev l1 _ (by simp; omega) ?_ (by omega) l1.length 0 (by omega) 0 (by omega)
    intro u
    unfold rd
    simp only [List.getD_eq_getElem?_getD, List.getElem?_replicate]
    split <;> rfl
end World21
end Go.Proofs.Ytbnligfjcmmjpaa.PWfWorldCounts
