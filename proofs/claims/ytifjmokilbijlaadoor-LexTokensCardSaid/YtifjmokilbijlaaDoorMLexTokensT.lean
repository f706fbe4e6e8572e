-- The law LexTokens, plainly.
import Derived.Test.YtifjmokilbijlaaDoorPLexx10
import Derived.Test.YtifjmokilbijlaaDoorMLexRefT
namespace Go.Proofs.YtifjmokilbijlaaDoor.PLex
open Go Go.RowKit Go.Proofs.YtifjmokilbijlaaDoorW.PrintWords Go.Proofs.YtifjmokilbijlaaDoorW.PrintLast Go.Proofs.YtifjmokilbijlaaDoorW.PrintMore BallLex
set_option linter.unusedVariables false
theorem same_ev (l : List S32) (hl : l.length ≤ 1000000) (n : Nat) : ∀ i, i + n = l.length → Ev (fun k => ballcockref05_Same.l0 k l l (i : Int)) true := by
  induction n with
  | zero => intro i hi; exact Ev.step (fun k => by rw [ballcockref05_Same.l0]) (Ev_neg (by omega) (Ev.now _))
  | succ n ih =>
    intro i hi
    refine Ev.step (fun k => by rw [ballcockref05_Same.l0]) (Ev_pos (by omega) (Ev_pos (by omega) (Ev_pos (by omega) (Ev_neg (by simp) ?_))))
    rw [wsucc i (by omega)]
    exact ih (i + 1) (by omega)
theorem law_Tokens : ballcocklaw05_LexTokens.Pure := by
  intro s hs
  refine Ev_and (g := fun k => ballcocklaw05_LexTokens.f k s) ?_
  unfold ballcocklaw05_LexTokens.f
  refine Ev_bnd awake_true (Ev_pos rfl ?_)
  refine Ev.step (fun k => by rw [ballcocklaw05_LexTokens.j0]) ?_
  by_cases h : (s.size : Int) > 7000
  · exact Ev_pos (decide_eq_true h) (Ev_bnd awake_true (Ev.now _))
  · refine Ev_neg (by simpa using h) ?_
    have ht := tokR_len s
    refine Ev_bnd (a := tokR s) (by unfold lex_Tokens.f; rw [if_pos hs]) ?_
    refine Ev.bind (ref_tokens s) ?_
    refine Ev_pos (by simp) ?_
    refine Ev.bind (a := true) ?_ (Ev.now _)
    unfold ballcockref05_Same.f
    exact Ev_pos rfl (same_ev _ (by omega) _ 0 (Nat.zero_add _))
end Go.Proofs.YtifjmokilbijlaaDoor.PLex
