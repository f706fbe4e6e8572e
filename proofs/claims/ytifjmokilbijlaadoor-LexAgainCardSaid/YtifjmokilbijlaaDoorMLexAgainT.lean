-- The law LexAgain, plainly.
import Derived.Test.YtifjmokilbijlaaDoorPLexx14
import Derived.Test.YtifjmokilbijlaaDoorMLexRefT
namespace Go.Proofs.YtifjmokilbijlaaDoor.PLex
open Go Go.RowKit Go.Proofs.YtifjmokilbijlaaDoorW.PrintWords Go.Proofs.YtifjmokilbijlaaDoorW.PrintLast Go.Proofs.YtifjmokilbijlaaDoorW.PrintMore BallLex
set_option linter.unusedVariables false
/-- What stands between. -/
def gapOf (f : Bool) : ByteArray := if f = true then (⟨#[35, 32, 120, 10]⟩ : ByteArray) else (⟨#[32]⟩ : ByteArray)
theorem gap_is (f : Bool) : Gap (gapOf f) := by
  cases f with
  | true => exact .inr ⟨rfl, by decide +kernel, by decide +kernel, by decide +kernel, by decide +kernel⟩
  | false => exact .inl ⟨rfl, by decide +kernel⟩
theorem gap_size (f : Bool) : (gapOf f).size ≤ 4 := by cases f <;> decide
theorem cmp_loop (x m : List S32) (hl : x.length ≤ 1000000) (hm : m.length = x.length) (he : ∀ i (h : i < x.length), (m[i]'(by omega)).f0 = x[i].f0 ∧ (m[i]'(by omega)).f1 = x[i].f1) (n : Nat) :
    ∀ i, i + n = x.length → Ev (fun k => ballcocklaw05_LexAgain.l1 k x m (i : Int)) true := by
  induction n with
  | zero => intro i hi; exact Ev.step (fun k => by rw [ballcocklaw05_LexAgain.l1]) (Ev_neg (by omega) (Ev.now _))
  | succ n ih =>
    intro i hi
    obtain ⟨e0, e1⟩ := he i (by omega)
    refine Ev.step (fun k => by rw [ballcocklaw05_LexAgain.l1]) (Ev_pos (by omega) (Ev_pos (by omega) (Ev_pos (by omega) ?_)))
    rw [rd_get x i (by omega), rd_get m i (by omega)]
    refine Ev_pos e0 ?_
    refine Ev.step (fun k => by rw [ballcocklaw05_LexAgain.j4]) (Ev_neg (by rw [e1]; simp) ?_)
    rw [wsucc i (by omega)]
    exact ih (i + 1) (by omega)
theorem end_ev (s X : ByteArray) (l : List Tk) (hl : l.length ≤ 100000) (m : List Tk) (h1 : toks X 0 = .inl m)
    (h2 : m.map (fun y => (y.k, X.extract y.a y.b)) = l.map (fun x => (x.k, s.extract x.a x.b)) ++ [(3, (⟨#[]⟩ : ByteArray))])
    (f : Bool) (x : List S32) (hx : x = l.map (s32 s) ++ [(⟨3, (⟨#[]⟩ : ByteArray), (s.size : Int)⟩ : S32)]) (i : Nat) (hi : i = l.length) :
    Ev (fun k => ballcocklaw05_LexAgain.l0 k f x X (i : Int)) true := by
  have hxl : x.length = l.length + 1 := by rw [hx]; simp
  have hml : m.length = l.length + 1 := by have := congrArg List.length h2; simpa using this
  refine Ev.step (fun k => by rw [ballcocklaw05_LexAgain.l0]) ?_
  rw [hxl, w64 (by omega) (by omega)]
  refine Ev_neg (by omega) ?_
  by_cases hbig : 6000 < X.size
  · exact Ev_pos (by omega) (Ev.now _)
  · refine Ev_neg (by omega) ?_
    have ht : lex_Tokens.f X = some (m.map (s32 X), 0, 0) := by
      unfold lex_Tokens.f tokR cont
      rw [if_pos (by omega), if_neg hbig, h1]; rfl
    refine Ev_bnd ht (Ev_neg (by show ¬ ((!((0 : Int) == 0) || !((0 : Int) == 0)) = true); decide) ?_)
    refine Ev.step (fun k => by rw [ballcocklaw05_LexAgain.j2]) (Ev_neg (by simp [hml]) ?_)
    refine cmp_loop x (m.map (s32 X)) (by omega) (by rw [List.length_map]; omega) (fun q hq => ?_) x.length 0 (by omega)
    have hq1 : q < m.length := by omega
    have e := congrArg (fun z => z[q]?) h2
    simp only [List.getElem?_map, List.getElem?_eq_getElem hq1, Option.map_some] at e
    rw [List.getElem_map]
    subst hx
    by_cases hlt : q < l.length
    · rw [List.getElem?_append_left (by simpa using hlt), List.getElem?_map, List.getElem?_eq_getElem hlt] at e
      have e2 := Option.some.inj e
      rw [List.getElem_append_left (by simpa using hlt), List.getElem_map]
      simp only [Prod.mk.injEq] at e2
      exact ⟨by show ((m[q].k : Nat) : Int) = _; rw [e2.1]; rfl, e2.2⟩
    · have hq2 : q = l.length := by omega
      rw [List.getElem?_append_right (by simp; omega)] at e
      simp only [hq2, List.length_map, Nat.sub_self, List.getElem?_cons_zero, Option.some.injEq, Prod.mk.injEq] at e
      rw [List.getElem_append_right (by simp; omega)]
      simp only [hq2, List.length_map, Nat.sub_self, List.getElem_cons_zero]
      exact ⟨by show ((m[l.length].k : Nat) : Int) = 3; rw [e.1]; rfl, e.2⟩
theorem weave_ev (s : ByteArray) (hs : s.size ≤ 2000) (f : Bool) (l : List Tk) (hl : l.length ≤ 10000) (hc : Chain s 0 l) (x : List S32) (hx : x = l.map (s32 s) ++ [(⟨3, (⟨#[]⟩ : ByteArray), (s.size : Int)⟩ : S32)]) (n : Nat) :
    ∀ i (X : ByteArray), i + n = l.length → X.size ≤ i * 10000 → X ++ wove s (gapOf f) (l.drop i) = wove s (gapOf f) l → Ev (fun k => ballcocklaw05_LexAgain.l0 k f x X (i : Int)) true := by
  have hxl : x.length = l.length + 1 := by rw [hx]; simp
  induction n with
  | zero =>
    intro i X hi hX he
    rw [List.drop_eq_nil_of_le (by omega)] at he
    have e : X = wove s (gapOf f) l := by rw [← he]; show X = X ++ (⟨#[]⟩ : ByteArray); exact (ByteArray.append_empty).symm
    obtain ⟨m, h1, h2⟩ := toks_wove (gap_is f) l 0 hc (⟨#[]⟩ : ByteArray)
    have e2 : (⟨#[]⟩ : ByteArray) ++ wove s (gapOf f) l = X := by rw [e]; exact ByteArray.empty_append
    rw [e2] at h1 h2
    exact end_ev s X l (by omega) m h1 h2 f x hx i (by omega)
  | succ n ih =>
    intro i X hi hX he
    have hlt : i < l.length := by omega
    have ex : rd_T32 x (i : Int) = s32 s l[i] := by
      rw [rd_get x i (by omega)]
      subst hx
      rw [List.getElem_append_left (by simpa using hlt), List.getElem_map]
    have hsz : (s.extract l[i].a l[i].b).size ≤ 2000 := by rw [ByteArray.size_extract]; omega
    have gs := gap_size f
    rw [List.drop_eq_getElem_cons hlt] at he
    have next : Ev (fun k => ballcocklaw05_LexAgain.l0 k f x (X ++ s.extract l[i].a l[i].b ++ gapOf f) (wrap64 ((i : Int) + 1))) true := by
      rw [wsucc i (by omega)]
      refine ih (i + 1) _ (by omega) (by rw [ByteArray.size_append, ByteArray.size_append]; omega) ?_
      rw [← he]
      show _ = X ++ (s.extract l[i].a l[i].b ++ gapOf f ++ wove s (gapOf f) (l.drop (i + 1)))
      rw [ByteArray.append_assoc, ByteArray.append_assoc, ByteArray.append_assoc]
    refine Ev.step (fun k => by rw [ballcocklaw05_LexAgain.l0]) ?_
    rw [hxl, w64 (by omega) (by omega)]
    refine Ev_pos (by omega) (Ev_pos (by omega) (Ev_pos (by omega) ?_))
    rw [ex]
    have X9 : X.size ≤ 100000000 := by omega
    refine Ev_pos (by show X.size + (s.extract l[i].a l[i].b).size ≤ _; omega) ?_
    have hsum : (X ++ (s32 s l[i]).f1).size ≤ 100002000 := by rw [ByteArray.size_append]; show X.size + (s.extract l[i].a l[i].b).size ≤ _; omega
    cases f with
    | true => exact Ev_pos rfl (Ev_pos (by omega) next)
    | false => exact Ev_neg (by decide) (Ev_pos (by omega) next)
theorem law_Again : ballcocklaw05_LexAgain.Pure := by
  intro s f hs
  refine Ev_and (g := fun k => ballcocklaw05_LexAgain.f k s f) ?_
  unfold ballcocklaw05_LexAgain.f
  refine Ev_bnd awake_true (Ev_pos rfl ?_)
  refine Ev.step (fun k => by rw [ballcocklaw05_LexAgain.j0]) ?_
  by_cases h : (s.size : Int) > 2000
  · exact Ev_pos (decide_eq_true h) (Ev_bnd awake_true (Ev.now _))
  · refine Ev_neg (by simpa using h) (Ev.bind (ref_tokens s) ?_)
    have hlen := tokR_len s
    unfold tokR at hlen ⊢
    rw [if_neg (by omega)] at hlen ⊢
    unfold cont at hlen ⊢
    rcases toks_shape s 0 with ⟨l, hl⟩ | ⟨e, he⟩
    · rw [hl] at hlen ⊢
      refine Ev_pos rfl ?_
      have hll : l.length ≤ 10000 := by simp at hlen; omega
      refine weave_ev s (by omega) f l hll (toks_chain s 0 l hl) _ ?_ l.length 0 (⟨#[]⟩ : ByteArray) (by omega) (by show 0 ≤ 0 * 10000; omega) ?_
      · simp only [List.nil_append, List.map_append, List.map_cons, List.map_nil, s32]
        congr 3
        apply ba_ext
        · rw [ByteArray.size_extract]; show _ = 0; omega
        · intro q hq; rw [ByteArray.size_extract] at hq; omega
      · rw [List.drop_zero]; exact ByteArray.empty_append
    · rw [he]
      exact Ev_neg (by show ¬ ((10 : Int) = 0); decide) (Ev.now _)
end Go.Proofs.YtifjmokilbijlaaDoor.PLex
