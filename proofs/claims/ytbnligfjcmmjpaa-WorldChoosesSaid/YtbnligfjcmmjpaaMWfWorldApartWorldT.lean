import Derived.Test.YtbnligfjcmmjpaaPWfWorldApartx1
import Derived.Test.YtbnligfjcmmjpaaPWfWorldApartx2
import Derived.Test.YtbnligfjcmmjpaaMWfWorldApartEvT
namespace Go.Proofs.Ytbnligfjcmmjpaa.PWfWorldApart
open Go Go.RowKit Go.Proofs.YtbnligfjcmmjpaaW.PrintWords Go.Proofs.YtbnligfjcmmjpaaW.PrintLast Go.Proofs.YtbnligfjcmmjpaaW.PrintMore
set_option linter.unusedVariables false
namespace World21
theorem choose_low (l : List Int) (u n : Int) (h : n < 1) : Ev (fun k => world_World_Choose.f k l u n) (0, u) := by
  unfold world_World_Choose.f
  exact Ev_pos h (Ev.step (fun k => by rw [world_World_Choose.j0]) (Ev_pos rfl (Ev.now _)))
theorem choose_end (l : List Int) (n : Int) : Ev (fun k => world_World_Choose.f k l (l.length : Int) n) (0, (l.length : Int)) := by
  by_cases h : n < 1
  · exact choose_low l _ n h
  · unfold world_World_Choose.f
    exact Ev_neg h (Ev.step (fun k => by rw [world_World_Choose.j0]) (Ev_pos (by simp) (Ev.now _)))
theorem choose_mid (l : List Int) (u : Nat) (n : Int) (hn : 1 ≤ n) (hu : u < l.length) (hl : l.length ≤ 10000) (h0 : 0 ≤ Int.tmod (rd l u) n) : Ev (fun k => world_World_Choose.f k l (u : Int) n) (Int.tmod (rd l u) n, ((u + 1 : Nat) : Int)) := by
  unfold world_World_Choose.f
  refine Ev_neg (by omega) (Ev.step (fun k => by rw [world_World_Choose.j0]) ?_)
  refine Ev_neg (by simp; omega) (Ev_pos (by omega) (Ev_pos (by omega) (Ev_neg (by omega) (Ev_neg (by omega) ?_))))
  rw [wsucc u (by omega)]
  exact Ev.now _
theorem choose_neg (l : List Int) (u : Nat) (n : Int) (hn : 1 ≤ n) (hu : u < l.length) (hl : l.length ≤ 10000) (h0 : Int.tmod (rd l u) n < 0) : Ev (fun k => world_World_Choose.f k l (u : Int) n) (wrap64 (Int.tmod (rd l u) n + n), ((u + 1 : Nat) : Int)) := by
  unfold world_World_Choose.f
  refine Ev_neg (by omega) (Ev.step (fun k => by rw [world_World_Choose.j0]) ?_)
  refine Ev_neg (by simp; omega) (Ev_pos (by omega) (Ev_pos (by omega) (Ev_neg (by omega) (Ev_pos h0 ?_))))
  rw [wsucc u (by omega)]
  exact Ev.now _
theorem new_eq (l : List Int) (h : l.length ≤ 10000) : world_New.f l = some (l, 0) := by
  unfold world_New.f
  rw [if_pos (by omega)]
theorem awake_ev : Ev (fun k => ballcocklaw21_awake.f k) true := by
  unfold ballcocklaw21_awake.f
  refine Ev_bnd (new_eq [5, -1] (by decide)) ?_
  have c1 := choose_mid [5, -1] 0 3 (by decide) (by decide) (by decide) (by decide)
  have c2 := choose_neg [5, -1] 1 3 (by decide) (by decide) (by decide) (by decide)
  have c3 := choose_end [5, -1] 3
  have e1 : (Int.tmod (rd [5, -1] ((0 : Nat) : Int)) 3, ((0 + 1 : Nat) : Int)) = ((2 : Int), ((1 : Nat) : Int)) := by decide
  have e2 : (wrap64 (Int.tmod (rd [5, -1] ((1 : Nat) : Int)) 3 + 3), ((1 + 1 : Nat) : Int)) = ((2 : Int), (([5, -1] : List Int).length : Int)) := by decide +kernel
  refine Ev.bind (Ev_cast c1 e1) (Ev_pos rfl ?_)
  refine Ev.bind (Ev_cast c2 e2) (Ev_pos rfl ?_)
  refine Ev.bind c3 (Ev_pos rfl ?_)
  exact Ev_bnd rfl (Ev_some fun _ => by decide)
end World21
end Go.Proofs.Ytbnligfjcmmjpaa.PWfWorldApart
