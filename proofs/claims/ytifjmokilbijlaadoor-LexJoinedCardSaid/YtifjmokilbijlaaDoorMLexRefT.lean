-- What ballcockref05's functions tell, by the plain tokens of a text.
import Derived.Test.YtifjmokilbijlaaDoorPLexx9
import Derived.Test.YtifjmokilbijlaaDoorMLexEvT
import Derived.Test.YtifjmokilbijlaaDoorMLexLexJT
namespace Go.Proofs.YtifjmokilbijlaaDoor.PLex
open Go Go.RowKit Go.Proofs.YtifjmokilbijlaaDoorW.PrintWords Go.Proofs.YtifjmokilbijlaaDoorW.PrintLast Go.Proofs.YtifjmokilbijlaaDoorW.PrintMore BallLex
set_option linter.unusedVariables false
theorem bt_nat (s : ByteArray) (i : Nat) : bt s (i : Int) = ((by_ s i : Nat) : Int) := by
  unfold bt by_
  rw [Int.toNat_natCast]
  split <;> rfl
theorem in_ev (c : Nat) (s : ByteArray) (hs : s.size ≤ 1000000) (n : Nat) : ∀ i, i + n = s.size → Ev (fun k => ballcockref05_in.l0 k (c : Int) s (i : Int)) ((s.data.toList.drop i).any (fun b => b.toNat == c)) := by
  induction n with
  | zero =>
    intro i hi
    refine Ev.step (fun k => by rw [ballcockref05_in.l0]) (Ev_neg (by omega) ?_)
    rw [List.drop_eq_nil_of_le (by rw [Array.length_toList]; show s.size ≤ i; omega)]
    exact Ev.now false
  | succ n ih =>
    intro i hi
    have hl : i < s.data.toList.length := by rw [Array.length_toList]; show i < s.size; omega
    have e : s.data.toList.drop i = s.data.toList[i] :: s.data.toList.drop (i + 1) := List.drop_eq_getElem_cons hl
    have eb : by_ s i = (s.data.toList[i]).toNat := by rw [BallLex.by_at (s := s) (i := i) (by omega)]; rfl
    refine Ev.step (fun k => by rw [ballcockref05_in.l0]) (Ev_pos (by omega) (Ev_pos (by omega) ?_))
    rw [bt_nat, e, List.any_cons, ← eb]
    by_cases h : by_ s i = c
    · refine Ev_pos (by omega) ?_
      rw [show (by_ s i == c) = true by simp [h], Bool.true_or]
      exact Ev.now true
    · refine Ev_neg (by omega) ?_
      rw [show (by_ s i == c) = false by simp [h], Bool.false_or, wsucc i (by omega)]
      exact ih (i + 1) (by omega)
theorem in_blank (c : Nat) : Ev (fun k => ballcockref05_in.f k (c : Int) (⟨#[32, 9, 10, 13]⟩ : ByteArray)) (BallLex.blank c) := by
  have h := in_ev c (⟨#[32, 9, 10, 13]⟩ : ByteArray) (by decide) 4 0 rfl
  have e : (((⟨#[32, 9, 10, 13]⟩ : ByteArray).data.toList.drop 0).any (fun b => b.toNat == c)) = BallLex.blank c := by
    show ((32 : Nat) == c || ((9 : Nat) == c || ((10 : Nat) == c || ((13 : Nat) == c || false)))) = _
    unfold BallLex.blank
    rw [Bool.eq_iff_iff]
    simp only [Bool.or_eq_true, beq_iff_eq, Bool.or_false]
    omega
  rw [e] at h
  exact h
theorem in_sign (c : Nat) : Ev (fun k => ballcockref05_in.f k (c : Int) (⟨#[123, 125, 40, 41, 59, 44, 46, 58, 61, 60, 43, 45, 42, 47, 124, 38]⟩ : ByteArray)) (sign c) := by
  have h := in_ev c (⟨#[123, 125, 40, 41, 59, 44, 46, 58, 61, 60, 43, 45, 42, 47, 124, 38]⟩ : ByteArray) (by decide) 16 0 rfl
  have e : (((⟨#[123, 125, 40, 41, 59, 44, 46, 58, 61, 60, 43, 45, 42, 47, 124, 38]⟩ : ByteArray).data.toList.drop 0).any (fun b => b.toNat == c)) = sign c := by
    show (([123, 125, 40, 41, 59, 44, 46, 58, 61, 60, 43, 45, 42, 47, 124, 38] : List UInt8).any (fun b => b.toNat == c)) = _
    unfold sign
    rw [Bool.eq_iff_iff]
    simp [List.any_cons]
    omega
  rw [e] at h
  exact h
theorem ref_letter (c : Nat) : ballcockref05_letter.f (c : Int) = some (letter c) := by
  unfold ballcockref05_letter.f letter
  repeat' split
  all_goals (congr 1; rw [Bool.eq_iff_iff]; simp only [Bool.or_eq_true, Bool.and_eq_true, decide_eq_true_eq, beq_iff_eq, true_iff]; omega)
theorem ref_digit (c : Nat) : ballcockref05_digit.f (c : Int) = some (digit c) := by
  unfold ballcockref05_digit.f digit
  repeat' split
  all_goals (congr 1; rw [Bool.eq_iff_iff]; simp only [Bool.and_eq_true, decide_eq_true_eq, Bool.false_eq_true, false_iff]; omega)
theorem lex_letter_nat (c : Nat) : lex_letter.f (c : Int) = some (letter c) := by
  unfold lex_letter.f letter
  repeat' split
  all_goals (congr 1; rw [Bool.eq_iff_iff]; simp only [Bool.or_eq_true, Bool.and_eq_true, decide_eq_true_eq, beq_iff_eq, true_iff]; omega)
theorem cont_nb {s : ByteArray} {l : List S32} {i j : Nat} (h : nb s i = nb s j) : cont s l i = cont s l j := by
  unfold cont; rw [toks_of_nb h]
section
variable {s : ByteArray} (hs : s.size ≤ 6000)
include hs
/-- To a line's end. -/
theorem line_ev {l : List S32} {r : List S32 × Int × Int} (n : Nat) : ∀ j, j + n = s.size → Ev (fun k => ballcockref05_Tokens.l0 k s l (rp inLine s j : Nat)) r → Ev (fun k => ballcockref05_Tokens.l1 k s l (j : Int)) r := by
  induction n with
  | zero =>
    intro j hj h
    rw [rp_stop (by omega)] at h
    refine Ev.step (fun k => by rw [ballcockref05_Tokens.l1]) (Ev_neg (by omega) ?_)
    exact Ev.step (fun k => by rw [ballcockref05_Tokens.j2]) (Ev_neg (by decide) h)
  | succ n ih =>
    intro j hj h
    refine Ev.step (fun k => by rw [ballcockref05_Tokens.l1]) (Ev_pos (by omega) (Ev_pos (by omega) ?_))
    rw [bt_nat]
    refine Ev.step (fun k => by rw [ballcockref05_Tokens.j2]) ?_
    by_cases hb : by_ s j = 10
    · rw [rp_stop (by rintro ⟨_, h2⟩; rw [hb] at h2; exact absurd h2 (by decide))] at h
      exact Ev_neg (by rw [hb]; decide) h
    · refine Ev_pos (by simp; omega) ?_
      rw [rp_go (by omega) (by simp [inLine, hb])] at h
      rw [wsucc j (by omega)]
      exact ih (j + 1) (by omega) h
theorem word_ev {l : List S32} {r : List S32 × Int × Int} (hl : l.length ≤ 100000) (i : Nat) (kd : Int) (n : Nat) : ∀ j, i ≤ j → j + n = s.size →
    Ev (fun k => ballcockref05_Tokens.l0 k s (l ++ [⟨kd, s.extract i (rp (fun c => letter c || digit c) s j), (i : Int)⟩]) (rp (fun c => letter c || digit c) s j : Nat)) r → Ev (fun k => ballcockref05_Tokens.l2 k s l (i : Int) (j : Int) kd) r := by
  induction n with
  | zero =>
    intro j hi hj h
    rw [rp_stop (by omega)] at h
    refine Ev.step (fun k => by rw [ballcockref05_Tokens.l2]) (Ev_neg (by omega) ?_)
    refine Ev.step (fun k => by rw [ballcockref05_Tokens.j4]) (Ev_neg (by decide) (Ev_pos (by omega) (Ev_pos (by omega) (Ev_pos (by omega) (Ev_pos (by omega) ?_)))))
    simpa only [Int.toNat_natCast] using h
  | succ n ih =>
    intro j hi hj h
    have stop : (letter (by_ s j) || digit (by_ s j)) = false → Ev (fun k => ballcockref05_Tokens.j4 k s l (i : Int) (j : Int) kd false) r := by
      intro e
      rw [rp_stop (by rintro ⟨_, h2⟩; rw [e] at h2; cases h2)] at h
      refine Ev.step (fun k => by rw [ballcockref05_Tokens.j4]) (Ev_neg (by decide) (Ev_pos (by omega) (Ev_pos (by omega) (Ev_pos (by omega) (Ev_pos (by omega) ?_)))))
      simpa only [Int.toNat_natCast] using h
    have go : (letter (by_ s j) || digit (by_ s j)) = true → Ev (fun k => ballcockref05_Tokens.j4 k s l (i : Int) (j : Int) kd true) r := by
      intro e
      rw [rp_go (by omega) e] at h
      refine Ev.step (fun k => by rw [ballcockref05_Tokens.j4]) (Ev_pos rfl ?_)
      rw [wsucc j (by omega)]
      exact ih (j + 1) (by omega) (by omega) h
    refine Ev.step (fun k => by rw [ballcockref05_Tokens.l2]) (Ev_pos (by omega) (Ev_pos (by omega) ?_))
    rw [bt_nat]
    refine Ev_bnd (ref_letter _) ?_
    cases hl2 : letter (by_ s j) with
    | true => exact Ev_pos rfl (go (by rw [hl2]; rfl))
    | false =>
      refine Ev_neg (by decide) (Ev_bnd (ref_digit _) ?_)
      cases hd : digit (by_ s j) with
      | true => exact go (by rw [hl2, hd]; rfl)
      | false => exact stop (by rw [hl2, hd]; rfl)
theorem num_ev {l : List S32} {r : List S32 × Int × Int} (hl : l.length ≤ 100000) (i : Nat) (kd : Int) (n : Nat) : ∀ j, i ≤ j → j + n = s.size →
    (18 < rp digit s j - i → r = ([], 10, (i : Int))) → (¬ 18 < rp digit s j - i → Ev (fun k => ballcockref05_Tokens.l0 k s (l ++ [⟨kd, s.extract i (rp digit s j), (i : Int)⟩]) (rp digit s j : Nat)) r) → Ev (fun k => ballcockref05_Tokens.l3 k s l (i : Int) (j : Int) kd) r := by
  have stop : ∀ j, i ≤ j → j ≤ s.size → (18 < j - i → r = ([], 10, (i : Int))) → (¬ 18 < j - i → Ev (fun k => ballcockref05_Tokens.l0 k s (l ++ [⟨kd, s.extract i j, (i : Int)⟩]) (j : Nat)) r) → Ev (fun k => ballcockref05_Tokens.j6 k s l (i : Int) (j : Int) kd false) r := by
    intro j hi hj hb h
    refine Ev.step (fun k => by rw [ballcockref05_Tokens.j6]) (Ev_neg (by decide) ?_)
    rw [w64 (by omega) (by omega)]
    by_cases h18 : 18 < j - i
    · rw [hb h18]
      exact Ev_pos (by omega) (Ev.now _)
    · refine Ev_neg (by omega) (Ev_pos (by omega) (Ev_pos (by omega) (Ev_pos (by omega) (Ev_pos (by omega) ?_))))
      simpa only [Int.toNat_natCast] using h h18
  induction n with
  | zero =>
    intro j hi hj hb h
    rw [rp_stop (by omega)] at h hb
    exact Ev.step (fun k => by rw [ballcockref05_Tokens.l3]) (Ev_neg (by omega) (stop j hi (by omega) hb h))
  | succ n ih =>
    intro j hi hj hb h
    refine Ev.step (fun k => by rw [ballcockref05_Tokens.l3]) (Ev_pos (by omega) (Ev_pos (by omega) ?_))
    rw [bt_nat]
    refine Ev_bnd (ref_digit _) ?_
    cases hd : digit (by_ s j) with
    | true =>
      rw [rp_go (by omega) hd] at h hb
      refine Ev.step (fun k => by rw [ballcockref05_Tokens.j6]) (Ev_pos rfl ?_)
      rw [wsucc j (by omega)]
      exact ih (j + 1) (by omega) (by omega) hb h
    | false =>
      rw [rp_stop (by rintro ⟨_, h2⟩; rw [hd] at h2; cases h2)] at h hb
      exact stop j hi (by omega) hb h
end
theorem two_list {s : ByteArray} {i : Nat} (h : i + 1 < s.size) (x y : UInt8) : ((s.extract i (i + 2)).toList = [x, y]) ↔ (by_ s i = x.toNat ∧ by_ s (i + 1) = y.toNat) := by
  have e : s.extract i (i + 2) = ⟨#[s[i], s[i + 1]]⟩ := by
    apply ba_ext
    · rw [ext_size (by omega)]; show i + 2 - i = 2; omega
    · intro m hm
      rw [ext_size (by omega)] at hm
      rw [by_extract hm (by omega)]
      rcases (show m = 0 ∨ m = 1 by omega) with rfl | rfl
      · rw [BallLex.by_at (show i + 0 < s.size by omega), BallLex.by_at (show 0 < (⟨#[s[i], s[i + 1]]⟩ : ByteArray).size from Nat.zero_lt_succ _)]; rfl
      · rw [BallLex.by_at (show i + 1 < s.size by omega), BallLex.by_at (show 1 < (⟨#[s[i], s[i + 1]]⟩ : ByteArray).size from Nat.succ_lt_succ (Nat.zero_lt_succ _))]; rfl
  rw [e, BallLex.by_at (show i < s.size by omega), BallLex.by_at h, UInt8.toNat_inj, UInt8.toNat_inj]
  have e2 : (⟨#[s[i], s[i + 1]]⟩ : ByteArray).toList = [s[i], s[i + 1]] := by
    rw [ByteArray.toList_eq]
  rw [e2]
  simp
theorem rd_get (l : List S32) (i : Nat) (h : i < l.length) : rd_T32 l (i : Int) = l[i] := by
  unfold rd_T32
  rw [Int.toNat_natCast, List.getD_eq_getElem?_getD, List.getElem?_eq_getElem h]; rfl
theorem ext_nil (s : ByteArray) (n : Nat) : s.extract n n = (⟨#[]⟩ : ByteArray) := by
  apply ba_ext
  · rw [ByteArray.size_extract]; show _ = 0; omega
  · intro q hq; rw [ByteArray.size_extract] at hq; omega
/-- One token more. -/
theorem more_ev {s : ByteArray} {l : List S32} {i k j : Nat} (hn : nb s i = i) (hi : i < s.size) (ht : tokAt s i = some (k, j)) : cont s l i = cont s (l ++ [⟨(k : Int), s.extract i j, (i : Int)⟩]) j := by
  have h := cont_more (l := l) (s := s) (i := i) (k := k) (j := j) (by rw [hn]; exact hi) (by rw [hn]; exact ht)
  rw [hn] at h
  exact h
theorem bad_ev {s : ByteArray} {l : List S32} {i : Nat} (hn : nb s i = i) (hi : i < s.size) (ht : tokAt s i = none) : cont s l i = ([], 10, (i : Int)) := by
  have h := cont_bad (l := l) (s := s) (i := i) (by rw [hn]; exact hi) (by rw [hn]; exact ht)
  rw [hn] at h
  exact h
theorem loop_ev {s : ByteArray} (hs : s.size ≤ 6000) (n : Nat) : ∀ (i : Nat) (l : List S32), i ≤ s.size → s.size - i = n → l.length ≤ i → Ev (fun k => ballcockref05_Tokens.l0 k s l (i : Int)) (cont s l i) := by
  induction n using Nat.strongRecOn with
  | ind n ih =>
    intro i l hi hn hl
    by_cases hlt : i < s.size
    · refine Ev.step (fun k => by rw [ballcockref05_Tokens.l0]) (Ev_pos (by omega) (Ev_pos (by omega) ?_))
      rw [bt_nat]
      refine Ev.bind (in_blank _) ?_
      cases hb : BallLex.blank (by_ s i) with
      | true =>
        refine Ev_pos rfl ?_
        rw [wsucc i (by omega), cont_nb (nb_blank hlt hb)]
        exact ih (s.size - (i + 1)) (by omega) (i + 1) l (by omega) rfl (by omega)
      | false =>
        refine Ev_neg (by decide) ?_
        by_cases hm : by_ s i = 35
        · refine Ev_pos (by omega) ?_
          have h1 := rp_gt (p := inLine) hlt (by rw [hm]; rfl)
          have h2 := rp_le inLine s i (by omega)
          rw [cont_nb (show nb s i = nb s (rp inLine s i) by rw [nb_mark hlt hm])]
          exact line_ev hs (s.size - i) i (by omega) (ih (s.size - rp inLine s i) (by omega) _ l h2 rfl (by omega))
        · refine Ev_neg (by omega) ?_
          have hnb := nb_stop hlt hb hm
          have ht0 : tokAt s i = tokAt s i := rfl
          unfold tokAt at ht0
          refine Ev_bnd (ref_letter _) ?_
          have next : ∀ k j, tokAt s i = some (k, j) → Ev (fun q => ballcockref05_Tokens.l0 q s (l ++ [⟨(k : Int), s.extract i j, (i : Int)⟩]) (j : Nat)) (cont s l i) := by
            intro k j ht
            have hg := tokAt_gt hlt ht
            rw [more_ev hnb hlt ht]
            exact ih (s.size - j) (by omega) j _ hg.2 rfl (by rw [List.length_append]; simp only [List.length_cons, List.length_nil]; omega)
          cases c1 : letter (by_ s i) with
          | true =>
            refine Ev_pos rfl (word_ev hs (by omega) i 0 (s.size - i) i (Nat.le_refl _) (by omega) ?_)
            exact next 0 _ (by unfold tokAt; rw [if_pos c1])
          | false =>
            refine Ev_neg (by decide) (Ev_bnd (ref_digit _) ?_)
            cases c2 : digit (by_ s i) with
            | true =>
              refine Ev_pos rfl (num_ev hs (by omega) i 1 (s.size - i) i (Nat.le_refl _) (by omega) (fun h18 => ?_) (fun h18 => ?_))
              · exact bad_ev hnb hlt (by unfold tokAt; rw [if_neg (by rw [c1]; decide), if_pos c2, if_pos h18])
              · exact next 1 _ (by unfold tokAt; rw [if_neg (by rw [c1]; decide), if_pos c2, if_neg h18])
            | false =>
              refine Ev_neg (by decide) ?_
              have tk : tokAt s i = if pair s i = true then some (2, i + 2) else if sign (by_ s i) = true then some (2, i + 1) else none := by
                unfold tokAt; rw [if_neg (by rw [c1]; decide), if_neg (by rw [c2]; decide)]
              have yes : pair s i = true → Ev (fun k => ballcockref05_Tokens.j7 k s l (i : Int) ((by_ s i : Nat) : Int) 2 true) (cont s l i) := by
                intro hp
                have h2 : i + 1 < s.size := by simp [pair] at hp; exact hp.1
                have e2 : wrap64 ((i : Int) + 2) = ((i + 2 : Nat) : Int) := by unfold wrap64; omega
                refine Ev.step (fun k => by rw [ballcockref05_Tokens.j7]) (Ev_pos rfl (Ev_pos (by omega) ?_))
                rw [e2]
                refine Ev_pos (by omega) (Ev_pos (by omega) (Ev_pos (by omega) ?_))
                rw [Int.toNat_natCast, Int.toNat_natCast]
                exact next 2 _ (by rw [tk, if_pos hp])
              have no : pair s i = false → Ev (fun k => ballcockref05_Tokens.j7 k s l (i : Int) ((by_ s i : Nat) : Int) 2 false) (cont s l i) := by
                intro hp
                have e1 : wrap64 ((i : Int) + 1) = ((i + 1 : Nat) : Int) := by unfold wrap64; omega
                refine Ev.step (fun k => by rw [ballcockref05_Tokens.j7]) (Ev_neg (by decide) (Ev.bind (in_sign _) ?_))
                cases c4 : sign (by_ s i) with
                | true =>
                  refine Ev_pos rfl (Ev_pos (by omega) ?_)
                  rw [e1]
                  refine Ev_pos (by omega) (Ev_pos (by omega) (Ev_pos (by omega) ?_))
                  rw [Int.toNat_natCast, Int.toNat_natCast]
                  exact next 2 _ (by rw [tk, if_neg (by rw [hp]; decide), if_pos c4])
                | false =>
                  refine Ev_neg (by decide) ?_
                  rw [bad_ev hnb hlt (by rw [tk, if_neg (by rw [hp]; decide), if_neg (by rw [c4]; decide)])]
                  exact Ev.now _
              by_cases h2 : i + 1 < s.size
              · have e1 : wrap64 ((i : Int) + 1) = ((i + 1 : Nat) : Int) := by unfold wrap64; omega
                have e2 : wrap64 ((i : Int) + 2) = ((i + 2 : Nat) : Int) := by unfold wrap64; omega
                rw [e1, e2, Int.toNat_natCast, Int.toNat_natCast]
                refine Ev_pos (by omega) (Ev_pos (by omega) (Ev_pos (by omega) ?_))
                have t1 := two_list h2 61 61
                have t2 := two_list h2 45 62
                by_cases q1 : (s.extract i (i + 2)).toList = ([61, 61] : List UInt8)
                · refine Ev_pos q1 (yes ?_)
                  have := t1.1 q1
                  unfold pair; rw [this.1, this.2, decide_eq_true h2]; rfl
                · refine Ev_neg q1 ?_
                  by_cases q2 : (s.extract i (i + 2)).toList = ([45, 62] : List UInt8)
                  · rw [show ((s.extract i (i + 2)).toList == ([45, 62] : List UInt8)) = true by simp [q2]]
                    have := t2.1 q2
                    exact yes (by unfold pair; rw [this.1, this.2, decide_eq_true h2]; rfl)
                  · rw [show ((s.extract i (i + 2)).toList == ([45, 62] : List UInt8)) = false by simp [q2]]
                    refine no ?_
                    cases hp : pair s i with
                    | false => rfl
                    | true =>
                      simp [pair] at hp
                      rcases hp.2 with h | h
                      · exact absurd (t1.2 h) q1
                      · exact absurd (t2.2 h) q2
              · have e1 : wrap64 ((i : Int) + 1) = ((i + 1 : Nat) : Int) := by unfold wrap64; omega
                rw [e1]
                refine Ev_neg (by omega) (no ?_)
                unfold pair
                rw [decide_eq_false h2]; rfl
    · have e : i = s.size := by omega
      subst e
      refine Ev.step (fun k => by rw [ballcockref05_Tokens.l0]) (Ev_neg (by omega) (Ev_pos (by omega) ?_))
      rw [cont_end (by rw [nb_end (by omega)]; omega)]
      exact Ev.now _
/-- The reference's tokens are the plain ones. -/
theorem ref_tokens (s : ByteArray) : Ev (fun k => ballcockref05_Tokens.f k s) (tokR s) := by
  unfold ballcockref05_Tokens.f tokR
  by_cases h : 6000 < s.size
  · rw [if_pos h]
    exact Ev_pos (by omega) (Ev.now _)
  · rw [if_neg h]
    exact Ev_neg (by omega) (loop_ev (by omega) s.size 0 [] (by omega) rfl (by simp))
theorem awake_true : ballcocklaw05_awake.f = some true := by
  decide +kernel
theorem tokR_len (s : ByteArray) : (tokR s).1.length ≤ s.size + 1 := by
  unfold tokR
  split
  · exact Nat.zero_le _
  · unfold cont
    rcases toks_shape s 0 with ⟨l, hl⟩ | ⟨e, he⟩
    · rw [hl]
      simp only [List.nil_append, List.length_map, List.length_append, List.length_cons, List.length_nil]
      have hc := toks_chain s 0 l hl
      have : ∀ (m : List Tk) (i : Nat), i ≤ s.size → Chain s i m → i + m.length ≤ s.size := by
        intro m
        induction m with
        | nil => intro i h _; exact h
        | cons x r ihm =>
          intro i h hx
          obtain ⟨h1, h2, h3, _, _, _, h5⟩ := hx
          have := ihm x.b h3 h5
          simp only [List.length_cons]; omega
      have := this l 0 (by omega) hc
      omega
    · rw [he]; exact Nat.zero_le _
end Go.Proofs.YtifjmokilbijlaaDoor.PLex
