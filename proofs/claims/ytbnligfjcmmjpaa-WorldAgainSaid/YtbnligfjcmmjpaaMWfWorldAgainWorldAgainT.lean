import Derived.Test.YtbnligfjcmmjpaaPWfWorldAgainx2
import Derived.Test.YtbnligfjcmmjpaaPWfWorldAgainx3
import Derived.Test.YtbnligfjcmmjpaaMWfWorldAgainWorldT
namespace Go.Proofs.Ytbnligfjcmmjpaa.PWfWorldAgain
open Go Go.RowKit Go.Proofs.YtbnligfjcmmjpaaW.PrintWords Go.Proofs.YtbnligfjcmmjpaaW.PrintLast Go.Proofs.YtbnligfjcmmjpaaW.PrintMore
set_option linter.unusedVariables false
namespace World21
theorem rd_mem (l : List Int) (i : Nat) (h : i < l.length) : rd l (i : Int) ∈ l := by
  unfold rd
  simp [h]
theorem tmod_in {v n : Int} (hv : 0 ≤ v) (hn : 1 ≤ n) : 0 ≤ Int.tmod v n ∧ Int.tmod v n < n := by
  rw [Int.tmod_eq_emod_of_nonneg hv]
  exact ⟨Int.emod_nonneg _ (by omega), Int.emod_lt_of_pos _ (by omega)⟩
theorem l1_ev (n : Int) (l : List Int) (hn : 1 ≤ n) (hl : l.length ≤ 60) (hz : ∀ z ∈ l, 0 ≤ z ∧ z < n) : ∀ m i : Nat, i + m = l.length → Ev (fun k => ballcocklaw21_WorldAgain.l1 k n l (i : Int) l (i : Int)) true := by
  intro m
  induction m with
  | zero =>
    intro i hi
    have e : i = l.length := by omega
    subst e
    refine Ev.step (fun k => by rw [ballcocklaw21_WorldAgain.l1]) (Ev_neg (by omega) ?_)
    refine Ev.bind (choose_end l n) (Ev_pos rfl ?_)
    have hw : wrap64 ((l.length : Int) - (l.length : Int)) = 0 := by rw [Int.sub_self]; decide +kernel
    refine Ev_bnd (g := world_World_Left.f l (l.length : Int)) (a := (0, (l.length : Int))) (by unfold world_World_Left.f; rw [hw]) (Ev_pos rfl ?_)
    exact Ev_bnd rfl (Ev_some fun _ => by simp)
  | succ m ih =>
    intro i hi
    have hlt : i < l.length := by omega
    have hm := hz _ (rd_mem l i hlt)
    have et : Int.tmod (rd l i) n = rd l i := Int.tmod_eq_of_lt hm.1 hm.2
    refine Ev.step (fun k => by rw [ballcocklaw21_WorldAgain.l1]) (Ev_pos (by omega) ?_)
    have c := choose_mid l i n hn hlt (by omega) (by rw [et]; exact hm.1)
    rw [et] at c
    refine Ev.bind c (Ev_pos (by omega) (Ev_pos rfl ?_))
    rw [wsucc i (by omega)]
    exact ih (i + 1) (by omega)
theorem l0_ev (x0 : List Int) (n : Int) (hn : 1 ≤ n) (hl : x0.length ≤ 60) (hx : ∀ z ∈ x0, 0 ≤ z ∧ z ≤ 255) : ∀ m i : Nat, i + m = x0.length → ∀ l : List Int, l.length = i → (∀ z ∈ l, 0 ≤ z ∧ z < n) → Ev (fun k => ballcocklaw21_WorldAgain.l0 k x0 n l (i : Int)) true := by
  intro m
  induction m with
  | zero =>
    intro i hi l hli hz
    refine Ev.step (fun k => by rw [ballcocklaw21_WorldAgain.l0]) (Ev_neg (by omega) ?_)
    refine Ev_bnd (new_eq l (by omega)) ?_
    exact l1_ev n l hn (by omega) hz l.length 0 (by omega)
  | succ m ih =>
    intro i hi l hli hz
    have hlt : i < x0.length := by omega
    have hm := hx _ (rd_mem x0 i hlt)
    have hw : wrap64 (rd x0 i) = rd x0 i := w64 (by omega) (by omega)
    refine Ev.step (fun k => by rw [ballcocklaw21_WorldAgain.l0]) (Ev_pos (by omega) (Ev_pos (by omega) (Ev_neg (by omega) (Ev_pos (by omega) ?_))))
    rw [wsucc i (by omega), hw]
    refine ih (i + 1) (by omega) _ (by simp [hli]) ?_
    intro z hzm
    rw [List.mem_append] at hzm
    rcases hzm with h | h
    · exact hz z h
    · rw [List.mem_singleton] at h
      rw [h]
      exact tmod_in hm.1 hn
theorem again (l0 : List Int) (a1 : Int) (_h1 : l0.length ≤ maxLen) (_h2 : l0.length * 1 ≤ 140737488351232) (h3 : ∀ x ∈ l0, (Lit.int .u8 x).wf = true) (h4 : (Lit.int .u8 a1).wf = true) : ∃ k, ballcocklaw21_WorldAgain.f k l0 a1 = some true := by
  apply Ev.rounds
  have u8 : ∀ x : Int, (Lit.int .u8 x).wf = true → 0 ≤ x ∧ x ≤ 255 := by
    intro x h
    simp [Lit.wf, IntKind.min, IntKind.max, IntKind.signed, IntKind.bits] at h
    omega
  unfold ballcocklaw21_WorldAgain.f
  refine Ev.bind awake_ev (Ev_pos rfl ?_)
  by_cases h : (l0.length : Int) > 60
  · rw [decide_eq_true h]
    exact Ev.step (fun k => by rw [ballcocklaw21_WorldAgain.j0]) (Ev_pos rfl (Ev.bind awake_ev (Ev.now _)))
  · rw [decide_eq_false h]
    have ha := u8 a1 h4
    refine Ev.step (fun k => by rw [ballcocklaw21_WorldAgain.j0]) (Ev_neg (by simp) ?_)
    rw [w64 (x := a1) (by omega) (by omega), w64 (x := 1 + a1) (by omega) (by omega)]
    exact l0_ev l0 (1 + a1) (by omega) (by omega) (fun z hz => u8 z (h3 z hz)) l0.length 0 (by omega) [] rfl (by simp)
end World21
end Go.Proofs.Ytbnligfjcmmjpaa.PWfWorldAgain
