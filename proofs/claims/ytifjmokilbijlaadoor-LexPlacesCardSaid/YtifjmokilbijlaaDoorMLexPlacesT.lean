-- The law LexPlaces, plainly.
import Derived.Test.YtifjmokilbijlaaDoorPLexx16
import Derived.Test.YtifjmokilbijlaaDoorMLexRefT
namespace Go.Proofs.YtifjmokilbijlaaDoor.PLex
open Go Go.RowKit Go.Proofs.YtifjmokilbijlaaDoorW.PrintWords Go.Proofs.YtifjmokilbijlaaDoorW.PrintLast Go.Proofs.YtifjmokilbijlaaDoorW.PrintMore BallLex
set_option linter.unusedVariables false
theorem ba_nil {x : ByteArray} (h : 0 < x.size) : (x.toList == ([] : List UInt8)) = false := by
  rw [ByteArray.toList_eq]
  cases hx : x.data.toList with
  | nil =>
    have e : x.data.toList.length = 0 := by rw [hx]; rfl
    rw [Array.length_toList] at e
    exact absurd h (by show ¬ 0 < x.data.size; omega)
  | cons a r => rfl
theorem places_loop (s : ByteArray) (hs : s.size ≤ 2000) (x : List S32) (l : List Tk) (hl : l.length ≤ 10000) (hx : x = l.map (s32 s) ++ [(⟨3, (⟨#[]⟩ : ByteArray), (s.size : Int)⟩ : S32)]) (n : Nat) :
    ∀ (i e : Nat), i + n = l.length → e ≤ s.size → Chain s e (l.drop i) → Ev (fun k => ballcocklaw05_LexPlaces.l0 k s x (e : Int) (i : Int)) true := by
  have hxl : x.length = l.length + 1 := by rw [hx]; simp
  have hlast : rd_T32 x (l.length : Int) = ⟨3, (⟨#[]⟩ : ByteArray), (s.size : Int)⟩ := by
    rw [rd_get x l.length (by omega)]
    subst hx
    rw [List.getElem_append_right (by simp)]
    simp
  induction n with
  | zero =>
    intro i e hi he _
    obtain rfl : i = l.length := by omega
    refine Ev.step (fun k => by rw [ballcocklaw05_LexPlaces.l0]) (Ev_pos (by omega) (Ev_pos (by omega) ?_))
    rw [hlast, hxl]
    simp only
    rw [show (((⟨#[]⟩ : ByteArray).size : Nat) : Int) = 0 from rfl, Int.add_zero, w64 (by omega) (by omega), w64 (by omega) (by omega), Int.toNat_natCast, ext_nil]
    refine Ev_neg (by omega) (Ev_neg (by omega) (Ev_pos (by omega) (Ev_pos (by omega) (Ev_pos (by omega) (Ev_pos rfl ?_)))))
    refine Ev_neg (by simp) ?_
    refine Ev.step (fun k => by rw [ballcocklaw05_LexPlaces.j2]) (Ev_neg (by rw [ByteArray.toList_eq]; decide) ?_)
    rw [wsucc _ (by omega)]
    refine Ev.step (fun k => by rw [ballcocklaw05_LexPlaces.l0]) (Ev_neg (by omega) (Ev_pos (by omega) ?_))
    rw [hxl, w64 (by omega) (by omega), show (((l.length + 1 : Nat) : Int) - 1) = (l.length : Int) by omega, hlast]
    exact Ev_pos (by omega) (Ev_pos (by omega) (Ev_cast (Ev.now _) (by simp)))
  | succ n ih =>
    intro i e hi he hc
    have hlt : i < l.length := by omega
    rw [List.drop_eq_getElem_cons hlt] at hc
    obtain ⟨h1, h2, h3, h4, _, _, h7⟩ := hc
    have ex : rd_T32 x (i : Int) = s32 s l[i] := by
      rw [rd_get x i (by omega)]
      subst hx
      rw [List.getElem_append_left (by simpa using hlt), List.getElem_map]
    have es := ext_size (s := s) (a := l[i].a) (b := l[i].b) h3
    refine Ev.step (fun k => by rw [ballcocklaw05_LexPlaces.l0]) (Ev_pos (by omega) (Ev_pos (by omega) ?_))
    rw [ex, hxl]
    simp only [s32]
    have hb : wrap64 ((l[i].a : Int) + ((s.extract l[i].a l[i].b).size : Int)) = ((l[i].b : Nat) : Int) := by rw [es, w64 (by omega) (by omega)]; omega
    have hL : wrap64 (((l.length + 1 : Nat) : Int) - 1) = (l.length : Int) := by unfold wrap64; omega
    simp only [hb, hL, Int.toNat_natCast]
    have HB := Aside0.mk hb
    have HE := Aside0.mk es
    clear hb hL ex es hlast hx
    have hk : (((l[i].k : Nat) : Int) == 3) = false := by simp; omega
    refine Ev_neg (by omega) (Ev_neg (by omega) (Ev_pos (by omega) (Ev_pos (by omega) (Ev_pos (by omega) (Ev_pos trivial ?_)))))
    rw [hk]
    refine Ev_neg (by simp; omega) ?_
    rw [ba_nil (by rw [HE.out]; omega)]
    refine Ev.step (fun k => by rw [ballcocklaw05_LexPlaces.j2]) (Ev_neg (by decide) ?_)
    simp only [HB.out, wsucc i (show i ≤ 10000000 by omega)]
    exact ih (i + 1) l[i].b (by omega) h3 h7
theorem law_Places : ballcocklaw05_LexPlaces.Pure := by
  intro s hs
  refine Ev_and (g := fun k => ballcocklaw05_LexPlaces.f k s) ?_
  unfold ballcocklaw05_LexPlaces.f
  refine Ev_bnd awake_true (Ev_pos rfl ?_)
  refine Ev.step (fun k => by rw [ballcocklaw05_LexPlaces.j0]) ?_
  by_cases h : (s.size : Int) > 2000
  · exact Ev_pos (decide_eq_true h) (Ev_bnd awake_true (Ev.now _))
  · have ht : lex_Tokens.f s = some (cont s [] 0) := by unfold lex_Tokens.f tokR; rw [if_pos hs, if_neg (by omega)]
    refine Ev_neg (by simpa using h) (Ev_bnd ht ?_)
    have hlen := tokR_len s
    unfold tokR at hlen
    rw [if_neg (by omega)] at hlen
    unfold cont at hlen ⊢
    rcases toks_shape s 0 with ⟨l, hl⟩ | ⟨e, he⟩
    · rw [hl] at hlen ⊢
      refine Ev_pos rfl ?_
      have hll : l.length ≤ 10000 := by simp at hlen; omega
      refine places_loop s (by omega) _ l hll ?_ l.length 0 0 (by omega) (by omega) (by rw [List.drop_zero]; exact toks_chain s 0 l hl)
      simp only [List.nil_append, List.map_append, List.map_cons, List.map_nil, s32]
      congr 3
      exact ext_nil s s.size
    · have hlt := inr_lt s 0 e he
      rw [he]
      refine Ev_neg (by show ¬ ((10 : Int) = 0); decide) (Ev_pos rfl (Ev_pos (by show ((e : Nat) : Int) ≥ 0; omega) ?_))
      exact Ev_cast (Ev.now _) (decide_eq_true (by show ((e : Nat) : Int) < _; omega))
where
  inr_lt (s : ByteArray) (i e : Nat) (h : toks s i = .inr e) : e < s.size := by
    have := toks_shift (s := s) (t := s) (s.size - i) i i
    by_cases hi : i ≤ s.size
    · have h2 := this (by omega) (fun m hm => ⟨by omega, rfl⟩) (.inl (by omega))
      rw [h] at h2
      exact h2.1
    · rw [toks_end (by have := nb_ge s i; omega)] at h; cases h
end Go.Proofs.YtifjmokilbijlaaDoor.PLex
