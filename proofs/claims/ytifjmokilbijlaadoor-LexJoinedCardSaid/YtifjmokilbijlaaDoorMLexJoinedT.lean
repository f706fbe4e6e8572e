-- The law LexJoined, plainly.
import Derived.Test.YtifjmokilbijlaaDoorPLexJ
import Derived.Test.YtifjmokilbijlaaDoorMLexRefT
namespace Go.Proofs.YtifjmokilbijlaaDoor.PLex
open Go Go.RowKit Go.Proofs.YtifjmokilbijlaaDoorW.PrintWords Go.Proofs.YtifjmokilbijlaaDoorW.PrintLast Go.Proofs.YtifjmokilbijlaaDoorW.PrintMore BallLex
set_option linter.unusedVariables false
theorem joined_loop (a : ByteArray) (ha : a.size ≤ 3000) (xs ys zs : List S32) (hx : xs.length ≤ 100000) (hy : ys.length ≤ 100000) (x1 : 1 ≤ xs.length) (hz : zs.length = xs.length - 1 + ys.length)
    (h1 : ∀ i (h : i < xs.length - 1), zs[i]'(by omega) = xs[i]'(by omega))
    (h2 : ∀ j (h : j < ys.length), zs[xs.length - 1 + j]'(by omega) = ⟨ys[j].f0, ys[j].f1, ys[j].f2 + ((a.size + 1 : Nat) : Int)⟩ ∧ 0 ≤ ys[j].f2 ∧ ys[j].f2 ≤ 100000) (n : Nat) :
    ∀ i, i + n = zs.length → Ev (fun k => ballcocklaw05_LexJoined.l0 k a xs ys zs (i : Int)) true := by
  induction n with
  | zero => intro i hi; exact Ev.step (fun k => by rw [ballcocklaw05_LexJoined.l0]) (Ev_neg (by omega) (Ev.now _))
  | succ n ih =>
    intro i hi
    have hlt : i < zs.length := by omega
    have three : ∀ p : S32, zs[i] = p → Ev (fun k => ballcocklaw05_LexJoined.j3 k a xs ys zs (i : Int) p.f0 p.f1 p.f2) true := by
      intro p hp
      refine Ev.step (fun k => by rw [ballcocklaw05_LexJoined.j3]) (Ev_pos (by omega) (Ev_pos (by omega) ?_))
      rw [rd_get zs i hlt, hp]
      refine Ev_neg (by simp) ?_
      rw [wsucc i (by omega)]
      exact ih (i + 1) (by omega)
    refine Ev.step (fun k => by rw [ballcocklaw05_LexJoined.l0]) (Ev_pos (by omega) ?_)
    rw [show wrap64 ((xs.length : Int) - 1) = (xs.length : Int) - 1 from w64 (by omega) (by omega)]
    by_cases hc : i < xs.length - 1
    · refine Ev_pos (by omega) (Ev_pos (by omega) (Ev_pos (by omega) ?_))
      rw [rd_get xs i (by omega)]
      exact three _ (h1 i hc)
    · refine Ev_neg (by omega) ?_
      obtain ⟨j, rfl⟩ : ∃ j, i = xs.length - 1 + j := ⟨i - (xs.length - 1), by omega⟩
      have hj : j < ys.length := by omega
      obtain ⟨p1, p2, p3⟩ := h2 j hj
      rw [show wrap64 (((xs.length - 1 + j : Nat) : Int) - (xs.length : Int)) = ((xs.length - 1 + j : Nat) : Int) - (xs.length : Int) from w64 (by omega) (by omega),
        show wrap64 (((xs.length - 1 + j : Nat) : Int) - (xs.length : Int) + 1) = (j : Int) from (w64 (by omega) (by omega)).trans (by omega),
        show wrap64 ((a.size : Int) + 1) = ((a.size + 1 : Nat) : Int) from (w64 (by omega) (by omega)).trans (by omega)]
      refine Ev_pos (by omega) (Ev_pos (by omega) ?_)
      rw [rd_get ys j hj]
      rw [show wrap64 (ys[j].f2 + ((a.size + 1 : Nat) : Int)) = ys[j].f2 + ((a.size + 1 : Nat) : Int) from w64 (by omega) (by omega)]
      exact three ⟨ys[j].f0, ys[j].f1, ys[j].f2 + ((a.size + 1 : Nat) : Int)⟩ p1
theorem ext_left (a b : ByteArray) (p q : Nat) (h : q ≤ a.size) : (a ++ nl ++ b).extract p q = a.extract p q := by
  apply ba_ext
  · rw [ByteArray.size_extract, ByteArray.size_extract, join_size]; omega
  · intro m hm
    rw [ByteArray.size_extract, join_size] at hm
    rw [by_extract (by omega) (by rw [join_size]; omega), by_extract (by omega) h, join_left a b (by omega)]
theorem ext_right (a b : ByteArray) (p q : Nat) (h : q ≤ b.size) : (a ++ nl ++ b).extract (p + (a.size + 1)) (q + (a.size + 1)) = b.extract p q := by
  apply ba_ext
  · rw [ByteArray.size_extract, ByteArray.size_extract, join_size]; omega
  · intro m hm
    rw [ByteArray.size_extract, join_size] at hm
    rw [by_extract (by omega) (by rw [join_size]; omega), by_extract (by omega) h, show p + (a.size + 1) + m = a.size + 1 + (p + m) by omega, join_right a b (by omega)]
theorem bounds (s : ByteArray) (m : List Tk) (h : toks s 0 = .inl m) : ∀ x ∈ m, x.b ≤ s.size ∧ x.a ≤ s.size := by
  rcases toks_shape s 0 with ⟨l, hl⟩ | ⟨e, he⟩
  · rw [hl] at h
    obtain rfl := Sum.inl.inj h
    intro x hx
    rcases List.mem_append.1 hx with h1 | h1
    · have := chain_mem (toks_chain s 0 l hl) x h1; omega
    · obtain rfl := List.mem_singleton.1 h1; exact ⟨Nat.le_refl _, Nat.le_refl _⟩
  · rw [he] at h; cases h
theorem shape_len (s : ByteArray) (m : List Tk) (h : toks s 0 = .inl m) : 1 ≤ m.length := by
  rcases toks_shape s 0 with ⟨l, hl⟩ | ⟨e, he⟩
  · rw [hl] at h
    obtain rfl := Sum.inl.inj h
    simp
  · rw [he] at h; cases h
theorem law_Joined : ballcocklaw05_LexJoined.Pure := by
  intro a b ha hb
  refine Ev_and (g := fun k => ballcocklaw05_LexJoined.f k a b) ?_
  unfold ballcocklaw05_LexJoined.f
  refine Ev_bnd awake_true (Ev_pos rfl ?_)
  rw [show wrap64 ((a.size : Int) + (b.size : Int)) = (a.size : Int) + (b.size : Int) from w64 (by omega) (by omega)]
  refine Ev.step (fun k => by rw [ballcocklaw05_LexJoined.j0]) ?_
  by_cases h : (a.size : Int) + (b.size : Int) > 2000
  · exact Ev_pos (decide_eq_true h) (Ev_bnd awake_true (Ev.now _))
  · have hX : (a ++ nl ++ b).size ≤ 2001 := by rw [join_size]; omega
    have tX : lex_Tokens.f ((a ++ (⟨#[10]⟩ : ByteArray)) ++ b) = some (tokR (a ++ nl ++ b)) := by
      unfold lex_Tokens.f
      show (if (a ++ nl ++ b).size ≤ _ then _ else _) = _
      rw [if_pos (by omega)]; rfl
    refine Ev_neg (by simpa using h) (Ev.bind (ref_tokens a) (Ev.bind (ref_tokens b) (Ev_pos (by omega) (Ev_pos ?_ (Ev_bnd tX ?_)))))
    · rw [ByteArray.size_append]; show (a.size + 1) + b.size ≤ _; omega
    have hj := toks_joined a b
    have la := tokR_len a
    have lb := tokR_len b
    unfold tokR at la lb ⊢
    rw [if_neg (show ¬ 6000 < a.size by omega)] at la ⊢
    rw [if_neg (show ¬ 6000 < b.size by omega)] at lb ⊢
    rw [if_neg (show ¬ 6000 < (a ++ nl ++ b).size by omega)]
    unfold cont at la lb ⊢
    cases ea : toks a 0 with
    | inr e =>
      rw [ea] at hj
      simp only at hj
      rw [hj.2]
      refine Ev_neg (by show ¬ ((10 : Int) = 0); decide) (Ev_cast (Ev.now _) (by simp))
    | inl x =>
      rw [ea] at hj la
      simp only at hj
      cases eb : toks b 0 with
      | inr f =>
        rw [eb] at hj
        simp only at hj
        rw [hj.2]
        refine Ev_pos rfl (Ev_neg (by show ¬ ((10 : Int) = 0); decide) (Ev_cast (Ev.now _) ?_))
        have w1 := Aside0.mk (show wrap64 ((f : Int) + (a.size : Int)) = (f : Int) + (a.size : Int) from w64 (by omega) (by omega))
        have w2 := Aside0.mk (show wrap64 ((f : Int) + (a.size : Int) + 1) = ((f + (a.size + 1) : Nat) : Int) from (w64 (by omega) (by omega)).trans (by omega))
        show _ = _
        simp only [w1.out, w2.out]
        simp
      | inl y =>
        rw [eb] at hj lb
        simp only at hj
        rw [hj]
        have x1 := shape_len a x ea
        have bx := bounds a x ea
        have bY := bounds b y eb
        have lx : x.length ≤ 3000 := by simp at la; omega
        have ly : y.length ≤ 3000 := by simp at lb; omega
        refine Ev_pos rfl (Ev_pos rfl (Ev_neg (by show ¬ ((!((0 : Int) == 0) || !((0 : Int) == 0)) = true); decide) ?_))
        simp only [List.nil_append]
        have hz : ((x.dropLast ++ y.map (Tk.sh 0 (a.size + 1))).map (s32 (a ++ nl ++ b))).length = (x.map (s32 a)).length - 1 + (y.map (s32 b)).length := by simp
        have n1 : (x.map (s32 a)).length = x.length := List.length_map ..
        have n2 : (y.map (s32 b)).length = y.length := List.length_map ..
        have k1 : ((((x.dropLast ++ y.map (Tk.sh 0 (a.size + 1))).map (s32 (a ++ nl ++ b))).length : Int) != wrap64 (wrap64 (((x.map (s32 a)).length : Int) + ((y.map (s32 b)).length : Int)) - 1)) = false := by
          rw [show wrap64 (((x.map (s32 a)).length : Int) + ((y.map (s32 b)).length : Int)) = ((x.map (s32 a)).length : Int) + ((y.map (s32 b)).length : Int) from w64 (by omega) (by omega), show wrap64 (((x.map (s32 a)).length : Int) + ((y.map (s32 b)).length : Int) - 1) = ((x.map (s32 a)).length : Int) + ((y.map (s32 b)).length : Int) - 1 from w64 (by omega) (by omega), hz]
          have : ((((x.map (s32 a)).length - 1 + (y.map (s32 b)).length : Nat)) : Int) = ((x.map (s32 a)).length : Int) + ((y.map (s32 b)).length : Int) - 1 := by omega
          rw [this]; simp
        rw [k1]
        refine Ev.step (fun k => by rw [ballcocklaw05_LexJoined.j1]) (Ev_neg (by decide) ?_)
        refine joined_loop a (by omega) (x.map (s32 a)) (y.map (s32 b)) ((x.dropLast ++ y.map (Tk.sh 0 (a.size + 1))).map (s32 (a ++ nl ++ b))) (by omega) (by omega) (by omega) hz (fun i hi => ?_) (fun j hj2 => ?_) _ 0 (Nat.zero_add _)
        · have hi2 : i < x.dropLast.length := by rw [List.length_dropLast]; omega
          rw [List.getElem_map, List.getElem_map, List.getElem_append_left hi2, List.getElem_dropLast]
          have := bx _ (List.getElem_mem (show i < x.length by omega))
          unfold s32
          rw [ext_left a b _ _ this.1]
        · have hj3 : j < y.length := by omega
          have := bY _ (List.getElem_mem hj3)
          rw [List.getElem_map, List.getElem_map]
          have e : (x.dropLast ++ y.map (Tk.sh 0 (a.size + 1)))[(x.map (s32 a)).length - 1 + j]'(by simp; omega) = Tk.sh 0 (a.size + 1) y[j] := by
            rw [List.getElem_append_right (by rw [List.length_dropLast]; omega), List.getElem_map]
            congr 1
            congr 1
            rw [List.length_dropLast]; omega
          rw [e]
          refine ⟨?_, by show (0 : Int) ≤ ((y[j].a : Nat) : Int); omega, by show ((y[j].a : Nat) : Int) ≤ 100000; omega⟩
          unfold s32 Tk.sh
          simp only [Nat.sub_zero]
          rw [ext_right a b _ _ this.1]
          simp only [S32.mk.injEq, true_and]
          omega
end Go.Proofs.YtifjmokilbijlaaDoor.PLex
