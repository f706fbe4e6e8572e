-- The law LexNumbers, plainly.
import Derived.Test.YtifjmokilbijlaaDoorPLexx18
import Derived.Test.YtifjmokilbijlaaDoorMLexRefT
namespace Go.Proofs.YtifjmokilbijlaaDoor.PLex
open Go Go.RowKit Go.Proofs.YtifjmokilbijlaaDoorW.PrintWords Go.Proofs.YtifjmokilbijlaaDoorW.PrintLast Go.Proofs.YtifjmokilbijlaaDoorW.PrintMore BallLex
set_option linter.unusedVariables false
/-- No word of the language bears a 7. -/
theorem keys_seven : (kws.all fun w => !(w.data.toList.contains 55)) = true := by decide +kernel
theorem key_seven {X : ByteArray} {m : Nat} (hm : m < X.size) (h : by_ X m = 55) : keyB X = false := by
  cases hk : keyB X with
  | false => rfl
  | true =>
    unfold keyB at hk
    rw [Lib.containsS_iff] at hk
    have := List.all_eq_true.1 keys_seven X hk
    rw [Bool.not_eq_true', List.contains_eq_mem, decide_eq_false_iff_not] at this
    refine absurd ?_ this
    rw [BallLex.by_at hm] at h
    have e : (55 : UInt8) = X[m] := by apply UInt8.toNat_inj.1; rw [h]; rfl
    rw [e]
    exact List.mem_iff_getElem.2 ⟨m, by rw [Array.length_toList]; exact hm, rfl⟩
/-- The text as far as it is made. -/
def Made (b : Bool) (X : ByteArray) (i : Nat) : Prop := X.size = i + (if b = true then 1 else 0) ∧ (b = true → by_ X 0 = 110) ∧ ∀ m, (if b = true then 1 else 0) ≤ m → m < X.size → by_ X m = 55
theorem made_more {b : Bool} {X : ByteArray} {i : Nat} (h : Made b X i) : Made b (X ++ (⟨#[55]⟩ : ByteArray)) (i + 1) := by
  obtain ⟨h1, h2, h3⟩ := h
  have es : (X ++ (⟨#[55]⟩ : ByteArray)).size = X.size + 1 := by rw [ByteArray.size_append]; rfl
  refine ⟨by rw [es, h1]; omega, fun hb => ?_, fun m hm hm2 => ?_⟩
  · have := h2 hb
    rw [by_left (by rw [h1, if_pos hb]; omega)]; exact this
  · by_cases hlt : m < X.size
    · rw [by_left hlt]; exact h3 m hm hlt
    · rw [by_right (j := 0) (by show 0 < 1; omega) (by omega)]; decide +kernel
theorem numbers_end (b : Bool) (X : ByteArray) (n : Nat) (hn : 1 ≤ n) (hn2 : n ≤ 30) (hX : Made b X n) (i : Nat) (hi : i = n) : Ev (fun k => ballcocklaw05_LexNumbers.l0 k b (n : Int) X (i : Int)) true := by
  subst hi
  obtain ⟨h1, h2, h3⟩ := hX
  have hsz : X.size ≤ 31 := by rw [h1]; split <;> omega
  refine Ev.step (fun k => by rw [ballcocklaw05_LexNumbers.l0]) (Ev_neg (by omega) ?_)
  have ht : lex_Tokens.f X = some (cont X [] 0) := by unfold lex_Tokens.f tokR; rw [if_pos (by omega), if_neg (by omega)]
  refine Ev_bnd ht ?_
  have hnm : lex_Name.f X = some (nameB X) := by unfold lex_Name.f; rw [if_pos (by omega)]
  have ee : X.extract 0 X.size = X := by
    apply ba_ext
    · rw [ext_size (Nat.le_refl _)]; omega
    · intro m hm
      rw [ext_size (Nat.le_refl _)] at hm
      rw [by_extract (by omega) (Nat.le_refl _), Nat.zero_add]
  cases b with
  | true =>
    simp only [if_true] at h1 h3
    obtain ⟨w1, w2⟩ := toks_word (s := X) (by omega) (h2 rfl) (fun m hm hm2 => h3 m hm hm2)
    have hc : cont X [] 0 = ([⟨0, X, 0⟩, ⟨3, (⟨#[]⟩ : ByteArray), (X.size : Int)⟩], 0, 0) := by
      unfold cont; rw [w1]
      simp only [List.nil_append, List.map_cons, List.map_nil, s32, ee, ext_nil]
      rfl
    rw [hc]
    refine Ev_pos rfl ?_
    refine Ev.step (fun k => by rw [ballcocklaw05_LexNumbers.j2]) ?_
    refine Ev_neg (by decide) ?_
    refine Ev_pos rfl ?_
    refine Ev_pos rfl ?_
    refine Ev_pos (by show (0 : Int) < 2; decide) ?_
    refine Ev_pos rfl ?_
    refine Ev_pos rfl ?_
    refine Ev_bnd hnm ?_
    refine Ev_pos rfl ?_
    refine Ev_cast (Ev.now _) ?_
    have e : nameB X = decide ((X.size : Int) ≤ 16) := by
      unfold nameB
      rw [h2 rfl, key_seven (X := X) (m := 1) (by omega) (h3 1 (by omega) (by omega)), show (rp word X 0 == X.size) = true by rw [beq_iff_eq]; exact w2, beq_eq_false_iff_ne.2 (show X.size ≠ 0 by omega)]
      by_cases h16 : X.size ≤ 16
      · rw [decide_eq_true h16, decide_eq_true (by omega)]; rfl
      · rw [decide_eq_false h16, decide_eq_false (by omega)]; rfl
    rw [e]; simp
  | false =>
    simp only [Bool.false_eq_true, if_false, Nat.add_zero] at h1 h3
    have w1 := toks_digits (s := X) (by omega) (fun m hm => h3 m (Nat.zero_le _) hm)
    refine Ev_neg (by decide) ?_
    by_cases h18 : 18 < X.size
    · rw [if_pos h18] at w1
      have hc : cont X [] 0 = ([], 10, 0) := by unfold cont; rw [w1]; rfl
      rw [hc, decide_eq_true (show (i : Int) > 18 by omega)]
      refine Ev.step (fun k => by rw [ballcocklaw05_LexNumbers.j2]) ?_
      refine Ev_pos rfl ?_
      refine Ev_pos rfl ?_
      exact Ev.now _
    · rw [if_neg h18] at w1
      have hc : cont X [] 0 = ([⟨1, X, 0⟩, ⟨3, (⟨#[]⟩ : ByteArray), (X.size : Int)⟩], 0, 0) := by
        unfold cont; rw [w1]
        simp only [List.nil_append, List.map_cons, List.map_nil, s32, ee, ext_nil]
        rfl
      rw [hc, decide_eq_false (show ¬ (i : Int) > 18 by omega)]
      refine Ev.step (fun k => by rw [ballcocklaw05_LexNumbers.j2]) ?_
      refine Ev_neg (by decide) ?_
      refine Ev_pos rfl ?_
      refine Ev_pos rfl ?_
      refine Ev_pos (by show (0 : Int) < 2; decide) ?_
      refine Ev_pos rfl ?_
      refine Ev_pos rfl ?_
      refine Ev_bnd hnm ?_
      refine Ev_neg (by decide) ?_
      refine Ev_cast (Ev.now _) ?_
      have e : nameB X = false := by
        unfold nameB
        rw [h3 0 (by omega) (by omega)]
        simp [letter]
      rw [e]; rfl
theorem numbers_loop (b : Bool) (n : Nat) (hn : 1 ≤ n) (hn2 : n ≤ 30) (d : Nat) : ∀ (i : Nat) (X : ByteArray), i + d = n → Made b X i → Ev (fun k => ballcocklaw05_LexNumbers.l0 k b (n : Int) X (i : Int)) true := by
  induction d with
  | zero => intro i X hi hX; obtain rfl : i = n := by omega
            exact numbers_end b X i hn hn2 hX i rfl
  | succ d ih =>
    intro i X hi hX
    have hsz : X.size ≤ 31 := by rw [hX.1]; split <;> omega
    refine Ev.step (fun k => by rw [ballcocklaw05_LexNumbers.l0]) (Ev_pos (by omega) (Ev_pos (by omega) ?_))
    rw [wsucc i (by omega)]
    exact ih (i + 1) _ (by omega) (made_more hX)
theorem law_Numbers : ballcocklaw05_LexNumbers.Pure := by
  intro a b ha
  have hr : 0 ≤ a ∧ a < 256 := by
    simp [Lit.wf, IntKind.min, IntKind.max, IntKind.signed, IntKind.bits] at ha
    omega
  obtain ⟨m, rfl⟩ := Int.eq_ofNat_of_zero_le hr.1
  refine Ev_and (g := fun k => ballcocklaw05_LexNumbers.f k (m : Int) b) ?_
  unfold ballcocklaw05_LexNumbers.f
  refine Ev_bnd awake_true (Ev_pos rfl ?_)
  have e : wrap64 (1 + Int.tmod (wrap64 (m : Int)) 30) = ((1 + m % 30 : Nat) : Int) := by
    rw [w64 (x := (m : Int)) (by omega) (by omega), Int.tmod_eq_emod_of_nonneg (by omega), w64 (by omega) (by omega)]
    omega
  rw [e]
  cases b with
  | true =>
    refine Ev_pos rfl (Ev.step (fun k => by rw [ballcocklaw05_LexNumbers.j0]) ?_)
    exact numbers_loop true _ (by omega) (by omega) (1 + m % 30) 0 _ (by omega) ⟨rfl, fun _ => by decide +kernel, fun q h1 h2 => absurd h2 (by show ¬ q < 1; simp only [if_true] at h1; omega)⟩
  | false =>
    refine Ev_neg (by decide) (Ev.step (fun k => by rw [ballcocklaw05_LexNumbers.j0]) ?_)
    exact numbers_loop false _ (by omega) (by omega) (1 + m % 30) 0 _ (by omega) ⟨rfl, (fun h => by cases h), fun q h1 h2 => absurd h2 (by show ¬ q < 0; omega)⟩
end Go.Proofs.YtifjmokilbijlaaDoor.PLex
