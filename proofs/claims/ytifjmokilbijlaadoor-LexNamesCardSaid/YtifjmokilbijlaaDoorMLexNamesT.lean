-- The law LexNames, plainly.
import Derived.Test.YtifjmokilbijlaaDoorPLexx13
import Derived.Test.YtifjmokilbijlaaDoorMLexRefT
namespace Go.Proofs.YtifjmokilbijlaaDoor.PLex
open Go Go.RowKit Go.Proofs.YtifjmokilbijlaaDoorW.PrintWords Go.Proofs.YtifjmokilbijlaaDoorW.PrintLast Go.Proofs.YtifjmokilbijlaaDoorW.PrintMore BallLex
set_option linter.unusedVariables false
theorem keys_kws : ballcockref05_Keys.f = some kws := by decide +kernel
theorem key_loop (s : ByteArray) (l : List ByteArray) (hl : l.length ≤ 1000) (n : Nat) : ∀ i, i + n = l.length → ∀ b : Bool, (b = true ↔ s ∈ l.drop i) → Ev (fun k => ballcockref05_Key.l0 k s l (i : Int)) b := by
  induction n with
  | zero =>
    intro i hi b hb
    refine Ev.step (fun k => by rw [ballcockref05_Key.l0]) (Ev_neg (by omega) ?_)
    rw [List.drop_eq_nil_of_le (by omega)] at hb
    refine Ev_cast (Ev.now _) ?_
    cases b with
    | false => rfl
    | true => exact absurd (hb.1 rfl) (by simp)
  | succ n ih =>
    intro i hi b hb
    have e : l.drop i = l[i]'(by omega) :: l.drop (i + 1) := List.drop_eq_getElem_cons (by omega)
    have er : rdOf ByteArray.empty l (i : Int) = l[i]'(by omega) := by
      unfold rdOf
      rw [Int.toNat_natCast, List.getD_eq_getElem?_getD, List.getElem?_eq_getElem (by omega)]; rfl
    refine Ev.step (fun k => by rw [ballcockref05_Key.l0]) (Ev_pos (by omega) (Ev_pos (by omega) ?_))
    rw [er]
    rw [e] at hb
    by_cases h : l[i]'(by omega) = s
    · refine Ev_pos (by rw [h]) (Ev_cast (Ev.now true) ?_)
      exact (hb.2 (by rw [h]; simp)).symm
    · refine Ev_neg (fun h2 => h (ByteArray.ext (by rw [ByteArray.toList_eq, ByteArray.toList_eq] at h2; exact Array.toList_inj.1 h2))) ?_
      rw [wsucc i (by omega)]
      refine ih (i + 1) (by omega) b ?_
      rw [hb, List.mem_cons]
      exact ⟨fun h2 => h2.resolve_left (fun h3 => h h3.symm), .inr⟩
theorem key_ev (s : ByteArray) : Ev (fun k => ballcockref05_Key.f k s) (keyB s) := by
  unfold ballcockref05_Key.f
  refine Ev_bnd keys_kws ?_
  refine key_loop s kws (by rw [kws_len]; decide) kws.length 0 (by omega) (keyB s) ?_
  rw [List.drop_zero]
  unfold keyB
  exact Lib.containsS_iff kws s
theorem name_loop (s : ByteArray) (hs : s.size ≤ 1000) (n : Nat) : ∀ i, i + n = s.size → Ev (fun k => ballcockref05_Name.l0 k s (i : Int)) ((rp word s i == s.size) && !keyB s) := by
  induction n with
  | zero =>
    intro i hi
    refine Ev.step (fun k => by rw [ballcockref05_Name.l0]) (Ev_neg (by omega) ?_)
    rw [rp_stop (by omega), show (i == s.size) = true by simp; omega, Bool.true_and]
    exact Ev.bind (key_ev s) (Ev.now _)
  | succ n ih =>
    intro i hi
    have no : word (by_ s i) = false → Ev (fun k => ballcockref05_Name.j2 k s (i : Int) true) ((rp word s i == s.size) && !keyB s) := by
      intro h
      rw [rp_stop (by rintro ⟨_, h2⟩; rw [h] at h2; cases h2), show (i == s.size) = false by simp; omega, Bool.false_and]
      exact Ev.step (fun k => by rw [ballcockref05_Name.j2]) (Ev_pos rfl (Ev.now _))
    have yes : word (by_ s i) = true → Ev (fun k => ballcockref05_Name.j2 k s (i : Int) false) ((rp word s i == s.size) && !keyB s) := by
      intro h
      rw [rp_go (by omega) h]
      refine Ev.step (fun k => by rw [ballcockref05_Name.j2]) (Ev_neg (by decide) ?_)
      rw [wsucc i (by omega)]
      exact ih (i + 1) (by omega)
    refine Ev.step (fun k => by rw [ballcockref05_Name.l0]) (Ev_pos (by omega) (Ev_pos (by omega) ?_))
    rw [bt_nat]
    refine Ev_bnd (ref_letter _) ?_
    cases h1 : letter (by_ s i) with
    | true => exact Ev_pos rfl (yes (by unfold word; rw [h1]; rfl))
    | false =>
      refine Ev_neg (by decide) (Ev_bnd (ref_digit _) ?_)
      cases h2 : digit (by_ s i) with
      | true => exact yes (by unfold word; rw [h1, h2]; rfl)
      | false => exact no (by unfold word; rw [h1, h2]; rfl)
theorem name_ev (s : ByteArray) (hs : s.size ≤ 1000) : Ev (fun k => ballcockref05_Name.f k s) (nameB s) := by
  unfold ballcockref05_Name.f
  have no : nameB s = false → Ev (fun k => ballcockref05_Name.j0 k s true) (nameB s) := by
    intro h; rw [h]
    exact Ev.step (fun k => by rw [ballcockref05_Name.j0]) (Ev_pos rfl (Ev.now _))
  by_cases h0 : s.size = 0
  · exact Ev_pos (by omega) (no (by unfold nameB; simp [h0]))
  · refine Ev_neg (by omega) ?_
    by_cases h16 : 16 < s.size
    · exact Ev_pos (by omega) (no (by unfold nameB; simp [show ¬ s.size ≤ 16 by omega]))
    · refine Ev_neg (by omega) (Ev_pos (by omega) ?_)
      have e : bt s 0 = ((by_ s 0 : Nat) : Int) := bt_nat s 0
      rw [e]
      refine Ev_bnd (ref_letter _) ?_
      cases hl : letter (by_ s 0) with
      | false => exact no (by unfold nameB; simp [hl])
      | true =>
        refine Ev.step (fun k => by rw [ballcockref05_Name.j0]) (Ev_neg (by decide) ?_)
        refine Ev_cast (name_loop s hs (s.size - 1) 1 (by omega)) ?_
        unfold nameB
        rw [hl, beq_eq_false_iff_ne.2 h0, decide_eq_true (show s.size ≤ 16 by omega), rp_go (s := s) (i := 0) (by omega) (show word (by_ s 0) = true by unfold word; rw [hl]; rfl)]
        simp only [Bool.not_false, Bool.true_and, Nat.zero_add]
        rw [Bool.and_comm]
theorem name_key (s : ByteArray) (h : keyB s = true) : nameB s = false := by unfold nameB; simp [h]
theorem law_Names : ballcocklaw05_LexNames.Pure := by
  intro s hs
  refine Ev_and (g := fun k => ballcocklaw05_LexNames.f k s) ?_
  unfold ballcocklaw05_LexNames.f
  refine Ev_bnd awake_true (Ev_pos rfl ?_)
  refine Ev.step (fun k => by rw [ballcocklaw05_LexNames.j0]) ?_
  by_cases h : (s.size : Int) > 200
  · exact Ev_pos (decide_eq_true h) (Ev_bnd awake_true (Ev.now _))
  · refine Ev_neg (by simpa using h) ?_
    have hn : lex_Name.f s = some (nameB s) := by unfold lex_Name.f; rw [if_pos (by omega)]
    refine Ev_bnd (a := keyB s) rfl (Ev.bind (key_ev s) (Ev_pos (by simp) (Ev_bnd hn (Ev.bind (name_ev s (by omega)) (Ev_pos (by simp) (Ev_bnd (a := keyB s) rfl ?_))))))
    cases hk : keyB s with
    | true => exact Ev_pos rfl (Ev_bnd hn (by rw [name_key s hk]; exact Ev.now _))
    | false => exact Ev_neg (by decide) (Ev.now _)
end Go.Proofs.YtifjmokilbijlaaDoor.PLex
