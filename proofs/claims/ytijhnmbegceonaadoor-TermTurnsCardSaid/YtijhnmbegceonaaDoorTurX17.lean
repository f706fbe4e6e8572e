-- Words and walks printed by the kit and by programs of this session, and texts by hand, cut to what this law uses (wip/pack.py).
import Derived.Test.YtijhnmbegceonaaDoorTurX15
import Derived.Test.YtijhnmbegceonaaDoorTurX14
import Derived.Test.YtijhnmbegceonaaDoorTurX13
import Derived.Test.YtijhnmbegceonaaDoorTurX16
namespace Go.Proofs.YtijhnmbegceonaaDoor.PTerm
open Go Go.RowKit Go.Proofs.YtijhnmbegceonaaDoorW.PrintWords Go.Proofs.YtijhnmbegceonaaDoorW.PrintLast Go.Proofs.YtijhnmbegceonaaDoorW.PrintMore
open BallQ (In64 Right q out)
open PRat (Ev_pos Ev_neg Ev_bnd Ev_bndc Ev_some Ev_cast w64 wsucc addS mulS)
set_option linter.unusedVariables false
theorem awake_at : ballcocklaw02_awake.f 20 = some true := by decide +kernel
theorem awake_ev : Ev (fun k => ballcocklaw02_awake.f k) true := Ev.of (fun k => ballcocklaw02_awake.mono k) awake_at
def RightL (l : List (S24)) : Prop := ∀ x ∈ l, Right x.f0 x.f1
theorem rightT_iff (l : List (S24)) (n d : Int) : rightT l n d = true ↔ l.length ≤ 8 ∧ Right n d ∧ RightL l := by
  unfold rightT RightL
  simp only [Bool.and_eq_true, decide_eq_true_eq, List.all_eq_true]
theorem right01 : Right 0 1 := ⟨by decide, by decide, by decide⟩
theorem in0 : In64 0 := ⟨by decide, by decide⟩
theorem nought {d : Int} (h : Right 0 d) : d = 1 := by
  obtain ⟨h0, _, h2⟩ := h
  rw [Int.natAbs_zero, Nat.gcd_zero_left] at h2
  omega
theorem cutN_pos (l : List (S24)) : ∀ n c, cutN l n = c + 1 → (l.getD c ⟨0, 0⟩).f0 ≠ 0
  | 0, c, h => by unfold cutN at h; omega
  | n + 1, c, h => by
    unfold cutN at h
    split at h
    · exact cutN_pos l n c h
    · rename_i hn; obtain rfl : n = c := by omega
      exact hn
theorem cutN_zero (l : List (S24)) : ∀ n i, cutN l n ≤ i → i < n → (l.getD i ⟨0, 0⟩).f0 = 0
  | 0, i, _, h => by omega
  | n + 1, i, h1, h2 => by
    unfold cutN at h1
    split at h1
    · rename_i hn
      by_cases hi : i = n
      · subst hi; exact hn
      · exact cutN_zero l n i h1 (by omega)
    · omega
theorem trim_len (l : List (S24)) : (trimT l).length = cutN l l.length := by
  unfold trimT; rw [List.length_take]; have := cutN_le l l.length; omega
theorem trim_mem {l : List (S24)} {x : S24} (h : x ∈ trimT l) : x ∈ l := List.mem_of_mem_take h
theorem getD_lt {l : List (S24)} {i : Nat} (h : i < l.length) (z : S24) : l.getD i z = l[i] := by
  rw [List.getD_eq_getElem?_getD, List.getElem?_eq_getElem h]; rfl
theorem getD_ge {l : List (S24)} {i : Nat} (h : l.length ≤ i) (z : S24) : l.getD i z = z := by
  rw [List.getD_eq_getElem?_getD, List.getElem?_eq_none h]; rfl
theorem trim_get {l : List (S24)} {i : Nat} (h : i < cutN l l.length) (z : S24) : (trimT l).getD i z = l.getD i z := by
  have h1 := cutN_le l l.length
  rw [getD_lt (by rw [trim_len]; exact h), getD_lt (by omega)]
  unfold trimT
  rw [List.getElem_take]
theorem trim_at {l : List (S24)} (hr : RightL l) (i : Nat) : (trimT l).getD i ⟨0, 1⟩ = l.getD i ⟨0, 1⟩ := by
  by_cases h : i < cutN l l.length
  · exact trim_get h _
  · rw [getD_ge (by rw [trim_len]; omega)]
    by_cases h2 : i < l.length
    · rw [getD_lt h2]
      have h3 := cutN_zero l l.length i (by omega) h2
      rw [getD_lt h2] at h3
      have h4 := hr _ (List.getElem_mem h2)
      generalize l[i] = y at h3 h4 ⊢
      obtain ⟨y0, y1⟩ := y
      simp only at h3 h4
      subst h3
      rw [nought h4]
    · rw [getD_ge (by omega)]
theorem each_of {f : Nat → Int × Int × Int} {n : Nat} (g : Nat → S24) (h : ∀ i, i ≤ n → f i = ((g i).f0, (g i).f1, 0)) : eachT f n = (trimT ((List.range n).map (fun i => g (i + 1))), (g 0).f0, (g 0).f1, 0) := by
  rw [each_good (fun j hj => by rw [h j (by omega)])]
  rw [h 0 (by omega)]
  have e : (List.range n).map (fun i => (⟨(f (i + 1)).1, (f (i + 1)).2.1⟩ : S24)) = (List.range n).map (fun i => g (i + 1)) := by
    apply List.map_congr_left
    intro i hi
    rw [h (i + 1) (by have := List.mem_range.1 hi; omega)]
  rw [e]
def gT (l : List (S24)) (n d : Int) : Nat → S24
  | 0 => ⟨n, d⟩
  | i + 1 => l.getD i ⟨0, 1⟩
theorem one_g (l : List (S24)) (n d : Int) (i : Nat) : oneT l n d i = ((gT l n d i).f0, (gT l n d i).f1) := by cases i <;> rfl
theorem g_right {l : List (S24)} {n d : Int} (hn : Right n d) (hl : RightL l) (i : Nat) : Right (gT l n d i).f0 (gT l n d i).f1 := by
  cases i with
  | zero => exact hn
  | succ i =>
    show Right (l.getD i ⟨0, 1⟩).f0 (l.getD i ⟨0, 1⟩).f1
    by_cases h : i < l.length
    · rw [getD_lt h]; exact hl _ (List.getElem_mem h)
    · rw [getD_ge (by omega)]; exact right01
theorem g_in {l : List (S24)} {n d : Int} (hn : In64 n) (hd : In64 d) (hl : inAll l) (i : Nat) : In64 (gT l n d i).f0 ∧ In64 (gT l n d i).f1 := by
  have := one_in hl hn hd i
  rw [one_g] at this
  exact this
theorem right_f {l : List (S24)} {n d : Int} (hl : inAll l) (h8 : l.length < 1000000) (hn : In64 n) (hd : In64 d) : term_Right.f l n d = some (rightT l n d) := by
  unfold term_Right.f; rw [if_pos ⟨hl, h8, hn, hd⟩]
theorem equal_l0 (l : List (S24)) (h8 : l.length < 1000000) (m : Nat) : ∀ i, i + m = l.length → Ev (fun k => api_Rat_34.l0 k l l (l.length : Int) (i : Int)) true := by
  induction m with
  | zero => intro i hi; exact Ev.step (fun k => by rw [api_Rat_34.l0]) (Ev_neg (by omega) (Ev.now _))
  | succ m ih =>
    intro i hi
    refine Ev.step (fun k => by rw [api_Rat_34.l0]) (Ev_pos (by omega) (Ev_pos (by omega) (Ev_pos (by omega) (Ev_pos (by omega) (Ev_neg (by simp) ?_)))))
    rw [wsucc i (by omega)]
    exact ih (i + 1) (by omega)
theorem same_ev {l0 l1 : List (S24)} {n d : Int} (h0 : inAll l0) (h1 : inAll l1) (k0 : l0.length < 1000000) (k1 : l1.length < 1000000) (hn : In64 n) (hd : In64 d) (r0 : rightT l0 n d = true) (r1 : rightT l1 n d = true) (e : trimT l0 = trimT l1) :
    Ev (fun k => term_Same.f k l0 n d l1 n d) true := by
  unfold term_Same.f
  refine Ev_bnd (right_f h0 k0 hn hd) ?_
  rw [r0]
  refine Ev_pos rfl (Ev_bnd (right_f h1 k1 hn hd) ?_)
  rw [r1]
  refine Ev_pos rfl (Ev_pos (by simp) (Ev.bind (trim_ev l0 n d k0) (Ev.bind (trim_ev l1 n d k1) ?_)))
  rw [e]
  refine Ev.bind (a := true) ?_ (Ev.now _)
  unfold api_Rat_34.f
  refine Ev_pos rfl ?_
  show Ev (fun k => api_Rat_34.l0 k (trimT l1) (trimT l1) ((trimT l1).length : Int) ((0 : Nat) : Int)) true
  exact equal_l0 (trimT l1) (by have := trim_len l1; have := cutN_le l1 l1.length; omega) (trimT l1).length 0 (Nat.zero_add _)
theorem small_f (l : List (S24)) (n d : Int) : ballcockref02_Small.f l n d = some (decide ((l.length : Int) ≤ 12)) := rfl
end Go.Proofs.YtijhnmbegceonaaDoor.PTerm
namespace Go.Proofs.YtijhnmbegceonaaDoor.PTerm
open Go Go.RowKit Go.Proofs.YtijhnmbegceonaaDoorW.PrintWords Go.Proofs.YtijhnmbegceonaaDoorW.PrintLast Go.Proofs.YtijhnmbegceonaaDoorW.PrintMore
open BallQ (In64 Right q out fits)
open PRat (Ev_pos Ev_neg Ev_bnd Ev_bndc Ev_some Ev_cast w64 wsucc addS mulS)
set_option linter.unusedVariables false
def toS (x : Rat) : S24 := ⟨x.num, (x.den : Int)⟩
theorem toS_right {x : Rat} (h : fits x) : Right (toS x).f0 (toS x).f1 ∧ In64 (toS x).f0 ∧ In64 (toS x).f1 := BallQ.right_fits h
theorem q_toS (x : Rat) : q (toS x).f0 (toS x).f1 = x := BallQ.q_self x
def V (l : List (S24)) (n d : Int) (i : Nat) : Rat := q (gT l n d i).f0 (gT l n d i).f1
theorem first_bad {f : Nat → Int × Int × Int} {n : Nat} : ∀ i, i ≤ n → (f i).2.2 ≠ 0 → ∃ j, j ≤ n ∧ (∀ m, m < j → (f m).2.2 = 0) ∧ (f j).2.2 ≠ 0 := by
  intro i
  induction i using Nat.strongRecOn with
  | ind i ih =>
    intro hi hb
    by_cases h : ∀ m, m < i → (f m).2.2 = 0
    · exact ⟨i, hi, h, hb⟩
    · have : ∃ m, m < i ∧ (f m).2.2 ≠ 0 := by
        by_cases hx : ∃ m, m < i ∧ (f m).2.2 ≠ 0
        · exact hx
        · exact absurd (fun m hm => Decidable.byContradiction (fun h0 => hx ⟨m, hm, h0⟩)) h
      obtain ⟨m, hm, h0⟩ := this
      exact ih m hm (by omega) h0
theorem each_ok {f : Nat → Int × Int × Int} {h : Nat → Rat} {n : Nat} (hf : ∀ i, i ≤ n → f i = out (h i)) (he : (eachT f n).2.2.2 = 0) : (∀ i, i ≤ n → fits (h i)) ∧ eachT f n = (trimT ((List.range n).map (fun i => toS (h (i + 1)))), (h 0).num, ((h 0).den : Int), 0) := by
  have hfit : ∀ i, i ≤ n → fits (h i) := by
    intro i hi
    by_cases hx : fits (h i)
    · exact hx
    · exfalso
      have hb : (f i).2.2 ≠ 0 := by rw [hf i hi]; unfold BallQ.out; rw [if_neg hx]; decide
      obtain ⟨j, hj, h0, h1⟩ := first_bad i hi hb
      rw [each_bad hj h0 h1] at he
      exact h1 he
  refine ⟨hfit, ?_⟩
  rw [each_of (fun i => toS (h i)) (fun i hi => by rw [hf i hi]; unfold BallQ.out; rw [if_pos (hfit i hi)]; rfl)]
  rfl
theorem map_at (h : Nat → Rat) (n i : Nat) : ((List.range n).map (fun i => toS (h (i + 1)))).getD i ⟨0, 1⟩ = if i < n then toS (h (i + 1)) else ⟨0, 1⟩ := by
  by_cases hi : i < n
  · rw [if_pos hi, getD_lt (by simpa using hi), List.getElem_map, List.getElem_range]
  · rw [if_neg hi, getD_ge (by simpa using (show n ≤ i by omega))]
theorem q01 : q 0 1 = 0 := by decide +kernel
theorem made {h : Nat → Rat} {n : Nat} (hfit : ∀ i, i ≤ n → fits (h i)) (h8 : n ≤ 8) (hz : ∀ i, n < i → h i = 0) :
    rightT (trimT ((List.range n).map (fun i => toS (h (i + 1))))) (h 0).num ((h 0).den : Int) = true ∧ inAll (trimT ((List.range n).map (fun i => toS (h (i + 1))))) ∧ In64 (h 0).num ∧ In64 ((h 0).den : Int) ∧
    ∀ i, V (trimT ((List.range n).map (fun i => toS (h (i + 1))))) (h 0).num ((h 0).den : Int) i = h i := by
  have hR : RightL ((List.range n).map (fun i => toS (h (i + 1)))) := by
    intro x hx
    obtain ⟨j, hj, rfl⟩ := List.mem_map.1 hx
    exact (toS_right (hfit (j + 1) (by have := List.mem_range.1 hj; omega))).1
  have h0 := toS_right (hfit 0 (Nat.zero_le _))
  refine ⟨?_, fun x hx => ?_, h0.2.1, h0.2.2, fun i => ?_⟩
  · rw [rightT_iff]
    refine ⟨?_, h0.1, fun x hx => hR x (trim_mem hx)⟩
    have := trim_len ((List.range n).map (fun i => toS (h (i + 1))))
    have := cutN_le ((List.range n).map (fun i => toS (h (i + 1)))) ((List.range n).map (fun i => toS (h (i + 1)))).length
    simp only [List.length_map, List.length_range] at *
    omega
  · obtain ⟨j, hj, rfl⟩ := List.mem_map.1 (trim_mem hx)
    exact (toS_right (hfit (j + 1) (by have := List.mem_range.1 hj; omega))).2
  · cases i with
    | zero => exact q_toS (h 0)
    | succ i =>
      show q ((trimT ((List.range n).map (fun i => toS (h (i + 1))))).getD i ⟨0, 1⟩).f0 ((trimT ((List.range n).map (fun i => toS (h (i + 1))))).getD i ⟨0, 1⟩).f1 = h (i + 1)
      rw [trim_at hR, map_at]
      by_cases hi : i < n
      · rw [if_pos hi]; exact q_toS _
      · rw [if_neg hi, hz (i + 1) (by omega)]; exact q01
theorem V_far {l : List (S24)} {n d : Int} {i : Nat} (h : l.length < i) : V l n d i = 0 := by
  cases i with
  | zero => omega
  | succ i =>
    show q (l.getD i ⟨0, 1⟩).f0 (l.getD i ⟨0, 1⟩).f1 = 0
    rw [getD_ge (by omega)]; exact q01
theorem addS_out {a b c d : Int} (h : Right a b) (k : Right c d) : addS a b c d = out (q a b + q c d) := by unfold PRat.addS; rw [if_pos ⟨h, k⟩]
theorem mulS_out {a b c d : Int} (h : Right a b) (k : Right c d) : mulS a b c d = out (q a b * q c d) := by unfold PRat.mulS; rw [if_pos ⟨h, k⟩]
theorem add_f {l0 l1 : List (S24)} {n0 d0 n1 d1 : Int} (h0 : rightT l0 n0 d0 = true) (h1 : rightT l1 n1 d1 = true) (i : Nat) : addF l0 n0 d0 l1 n1 d1 i = out (V l0 n0 d0 i + V l1 n1 d1 i) := by
  obtain ⟨_, a, b⟩ := (rightT_iff _ _ _).1 h0
  obtain ⟨_, c, e⟩ := (rightT_iff _ _ _).1 h1
  unfold addF
  rw [one_g, one_g]
  exact addS_out (g_right a b i) (g_right c e i)
theorem scale_f {l0 : List (S24)} {n0 d0 n1 d1 : Int} (h0 : rightT l0 n0 d0 = true) (h1 : Right n1 d1) (i : Nat) : scaleF l0 n0 d0 n1 d1 i = out (V l0 n0 d0 i * q n1 d1) := by
  obtain ⟨_, a, b⟩ := (rightT_iff _ _ _).1 h0
  unfold scaleF
  rw [one_g]
  exact mulS_out (g_right a b i) h1
def Good (r : List (S24) × Int × Int × Int) (v : Nat → Rat) : Prop := rightT r.1 r.2.1 r.2.2.1 = true ∧ inAll r.1 ∧ In64 r.2.1 ∧ In64 r.2.2.1 ∧ ∀ i, V r.1 r.2.1 r.2.2.1 i = v i
theorem add_ok {l0 l1 : List (S24)} {n0 d0 n1 d1 : Int} (he : (addT l0 n0 d0 l1 n1 d1).2.2.2 = 0) : rightT l0 n0 d0 = true ∧ rightT l1 n1 d1 = true ∧ Good (addT l0 n0 d0 l1 n1 d1) (fun i => V l0 n0 d0 i + V l1 n1 d1 i) := by
  cases h0 : rightT l0 n0 d0 with
  | false => unfold addT at he; rw [h0, Bool.false_and, if_neg (by decide)] at he; exact absurd he (by decide)
  | true =>
    cases h1 : rightT l1 n1 d1 with
    | false => unfold addT at he; rw [h0, h1, if_neg (by decide)] at he; exact absurd he (by decide)
    | true =>
      have e : addT l0 n0 d0 l1 n1 d1 = eachT (addF l0 n0 d0 l1 n1 d1) (max l0.length l1.length) := by unfold addT; rw [h0, h1]; exact if_pos rfl
      rw [e] at he ⊢
      obtain ⟨hfit, er⟩ := each_ok (fun i _ => add_f h0 h1 i) he
      rw [er]
      have a8 := ((rightT_iff _ _ _).1 h0).1
      have b8 := ((rightT_iff _ _ _).1 h1).1
      exact ⟨rfl, rfl, made hfit (by omega) (fun i hi => by rw [V_far (by omega), V_far (by omega)]; grind)⟩
theorem scale_ok {l0 : List (S24)} {n0 d0 n1 d1 : Int} (he : (scaleT l0 n0 d0 n1 d1).2.2.2 = 0) : rightT l0 n0 d0 = true ∧ Right n1 d1 ∧ Good (scaleT l0 n0 d0 n1 d1) (fun i => V l0 n0 d0 i * q n1 d1) := by
  cases h0 : rightT l0 n0 d0 with
  | false => unfold scaleT at he; rw [h0, Bool.false_and, if_neg (by decide)] at he; exact absurd he (by decide)
  | true =>
    by_cases h1 : Right n1 d1
    · have e : scaleT l0 n0 d0 n1 d1 = eachT (scaleF l0 n0 d0 n1 d1) l0.length := by unfold scaleT; rw [h0, decide_eq_true h1]; exact if_pos rfl
      rw [e] at he ⊢
      obtain ⟨hfit, er⟩ := each_ok (fun i _ => scale_f h0 h1 i) he
      rw [er]
      have a8 := ((rightT_iff _ _ _).1 h0).1
      exact ⟨rfl, h1, made hfit (by omega) (fun i hi => by rw [V_far (by omega)]; grind)⟩
    · unfold scaleT at he; rw [h0, decide_eq_false h1, if_neg (by decide)] at he; exact absurd he (by decide)
def InR (r : List (S24) × Int × Int × Int) : Prop := inAll r.1 ∧ r.1.length < 800000 ∧ In64 r.2.1 ∧ In64 r.2.2.1
theorem each_in {f : Nat → Int × Int × Int} {h : Nat → Rat} {n : Nat} (hf : ∀ i, i ≤ n → f i = out (h i)) (h8 : n ≤ 8) : InR (eachT f n) := by
  by_cases he : (eachT f n).2.2.2 = 0
  · obtain ⟨hfit, er⟩ := each_ok hf he
    rw [er]
    have h0 := toS_right (hfit 0 (Nat.zero_le _))
    refine ⟨fun x hx => ?_, ?_, h0.2.1, h0.2.2⟩
    · obtain ⟨j, hj, rfl⟩ := List.mem_map.1 (trim_mem hx)
      exact (toS_right (hfit (j + 1) (by have := List.mem_range.1 hj; omega))).2
    · have := trim_len ((List.range n).map (fun i => toS (h (i + 1))))
      have := cutN_le ((List.range n).map (fun i => toS (h (i + 1)))) ((List.range n).map (fun i => toS (h (i + 1)))).length
      simp only [List.length_map, List.length_range] at *
      omega
  · have hne : ∃ i, i ≤ n ∧ (f i).2.2 ≠ 0 := by
      by_cases hx : ∃ i, i ≤ n ∧ (f i).2.2 ≠ 0
      · exact hx
      · exfalso
        exact he (by rw [each_good (fun j hj => Decidable.byContradiction (fun h0 => hx ⟨j, by omega, h0⟩))])
    obtain ⟨i, hi, hb⟩ := hne
    obtain ⟨j, hj, h0, h1⟩ := first_bad i hi hb
    rw [each_bad hj h0 h1]
    exact ⟨fun x hx => (by cases hx), by simp, in0, in0⟩
theorem none_in (e : Int) : InR (([] : List (S24)), 0, 0, e) := ⟨fun x hx => (by cases hx), by simp, in0, in0⟩
theorem add_in {l0 l1 : List (S24)} {n0 d0 n1 d1 : Int} : InR (addT l0 n0 d0 l1 n1 d1) := by
  unfold addT
  split
  · rename_i h
    rw [Bool.and_eq_true] at h
    have a8 := ((rightT_iff _ _ _).1 h.1).1
    have b8 := ((rightT_iff _ _ _).1 h.2).1
    exact each_in (fun i _ => add_f h.1 h.2 i) (by omega)
  · exact none_in 2
theorem scale_in {l0 : List (S24)} {n0 d0 n1 d1 : Int} : InR (scaleT l0 n0 d0 n1 d1) := by
  unfold scaleT
  split
  · rename_i h
    rw [Bool.and_eq_true, decide_eq_true_eq] at h
    have a8 := ((rightT_iff _ _ _).1 h.1).1
    exact each_in (fun i _ => scale_f h.1 h.2 i) a8
  · exact none_in 2
theorem cut_le {l m : List (S24)} (h : ∀ i, l.getD i ⟨0, 1⟩ = m.getD i ⟨0, 1⟩) : cutN m m.length ≤ cutN l l.length := by
  by_cases hc : cutN m m.length ≤ cutN l l.length
  · exact hc
  · exfalso
    obtain ⟨c, hcc⟩ : ∃ c, cutN m m.length = c + 1 := ⟨cutN m m.length - 1, by omega⟩
    have h1 := cutN_pos m _ c hcc
    have hlt : c < m.length := by have := cutN_le m m.length; omega
    have h2 := h c
    rw [getD_lt hlt] at h1 h2
    rw [← h2] at h1
    by_cases hl : c < l.length
    · have h3 := cutN_zero l l.length c (by omega) hl
      rw [getD_lt hl] at h1 h3
      exact h1 h3
    · rw [getD_ge (by omega)] at h1
      exact h1 rfl
theorem trim_ext {l m : List (S24)} (h : ∀ i, l.getD i ⟨0, 1⟩ = m.getD i ⟨0, 1⟩) : trimT l = trimT m := by
  have e : cutN l l.length = cutN m m.length := Nat.le_antisymm (cut_le (fun i => (h i).symm)) (cut_le h)
  apply List.ext_getElem
  · rw [trim_len, trim_len, e]
  · intro i h1 h2
    have a1 := trim_get (l := l) (i := i) (by rw [trim_len] at h1; exact h1) ⟨0, 1⟩
    have a2 := trim_get (l := m) (i := i) (by rw [trim_len] at h2; exact h2) ⟨0, 1⟩
    rw [getD_lt h1] at a1
    rw [getD_lt h2] at a2
    rw [a1, a2, h i]
theorem V_same {l m : List (S24)} {n d a b : Int} (h0 : rightT l n d = true) (h1 : rightT m a b = true) (i0 : inAll l ∧ In64 n ∧ In64 d) (i1 : inAll m ∧ In64 a ∧ In64 b) (h : ∀ i, V l n d i = V m a b i) : n = a ∧ d = b ∧ trimT l = trimT m := by
  obtain ⟨_, r0, R0⟩ := (rightT_iff _ _ _).1 h0
  obtain ⟨_, r1, R1⟩ := (rightT_iff _ _ _).1 h1
  have g : ∀ i, gT l n d i = gT m a b i := by
    intro i
    have j0 := g_in i0.2.1 i0.2.2 i0.1 i
    have j1 := g_in i1.2.1 i1.2.2 i1.1 i
    have := BallQ.right_inj (g_right r0 R0 i) j0.1 j0.2 (g_right r1 R1 i) j1.1 j1.2 (h i)
    generalize gT l n d i = x at this ⊢
    generalize gT m a b i = y at this ⊢
    obtain ⟨x0, x1⟩ := x
    obtain ⟨y0, y1⟩ := y
    simp only at this
    rw [this.1, this.2]
  have g0 := g 0
  simp only [gT, S24.mk.injEq] at g0
  exact ⟨g0.1, g0.2, trim_ext (fun i => g (i + 1))⟩
end Go.Proofs.YtijhnmbegceonaaDoor.PTerm
namespace Go.Proofs.YtijhnmbegceonaaDoor.PTerm
open Go Go.RowKit Go.Proofs.YtijhnmbegceonaaDoorW.PrintWords Go.Proofs.YtijhnmbegceonaaDoorW.PrintLast Go.Proofs.YtijhnmbegceonaaDoorW.PrintMore
open BallQ (In64 Right q out fits)
open PRat (Ev_pos Ev_neg Ev_bnd Ev_bndc Ev_some Ev_cast w64 wsucc addS mulS)
set_option linter.unusedVariables false
theorem equal2_l0 (l : List (S24)) (n d : Int) (h8 : l.length < 1000000) (m : Nat) : ∀ i, i + m = l.length → Ev (fun k => ballcockref02_Equal.l0 k (i : Int) l n d l n d) true := by
  induction m with
  | zero => intro i hi; exact Ev.step (fun k => by rw [ballcockref02_Equal.l0]) (Ev_neg (by omega) (Ev.now _))
  | succ m ih =>
    intro i hi
    refine Ev.step (fun k => by rw [ballcockref02_Equal.l0]) (Ev_pos (by omega) (Ev_pos (by omega) (Ev_pos (by omega) (Ev_neg (by simp) ?_))))
    rw [wsucc i (by omega)]
    exact ih (i + 1) (by omega)
theorem equal_ev (l : List (S24)) (n d : Int) (h8 : l.length < 1000000) : Ev (fun k => ballcockref02_Equal.f k l n d l n d) true := by
  unfold ballcockref02_Equal.f
  refine Ev_neg (by simp) ?_
  refine Ev.step (fun k => by rw [ballcockref02_Equal.j0]) (Ev_neg (by simp) ?_)
  exact equal2_l0 l n d h8 l.length 0 (Nat.zero_add _)
theorem addS_comm (a b c d : Int) : addS a b c d = addS c d a b := by
  unfold PRat.addS
  by_cases h : Right a b ∧ Right c d
  · rw [if_pos h, if_pos h.symm, Rat.add_comm]
  · rw [if_neg h, if_neg (fun h2 => h h2.symm)]
theorem add_comm_ (l0 : List (S24)) (n0 d0 : Int) (l1 : List (S24)) (n1 d1 : Int) : addT l0 n0 d0 l1 n1 d1 = addT l1 n1 d1 l0 n0 d0 := by
  unfold addT
  rw [Bool.and_comm, Nat.max_comm]
  have e : addF l0 n0 d0 l1 n1 d1 = addF l1 n1 d1 l0 n0 d0 := by
    funext i; unfold addF; exact addS_comm _ _ _ _
  rw [e]
theorem call_add {l0 l1 : List (S24)} {n0 d0 n1 d1 : Int} (h0 : inAll l0) (k0 : l0.length < 800000) (a0 : In64 n0) (b0 : In64 d0) (h1 : inAll l1) (k1 : l1.length < 800000) (a1 : In64 n1) (b1 : In64 d1) : term_Add.f l0 n0 d0 l1 n1 d1 = some (addT l0 n0 d0 l1 n1 d1) := by
  unfold term_Add.f; rw [if_pos ⟨⟨h0, k0, a0, b0⟩, h1, k1, a1, b1⟩]
theorem call_scale {l0 : List (S24)} {n0 d0 n1 d1 : Int} (h0 : inAll l0) (k0 : l0.length < 800000) (a0 : In64 n0) (b0 : In64 d0) (a1 : In64 n1) (b1 : In64 d1) : term_Scale.f l0 n0 d0 n1 d1 = some (scaleT l0 n0 d0 n1 d1) := by
  unfold term_Scale.f; rw [if_pos ⟨⟨h0, k0, a0, b0⟩, a1, b1⟩]
theorem done_ (b : Bool) : Ev (fun k => ballcocklaw02_TermTurns.j2 k b) b := Ev.step (fun k => by rw [ballcocklaw02_TermTurns.j2]) (Ev.now _)
section
variable {l0 l1 : List (S24)} {n0 d0 n1 d1 n2 d2 : Int} (h0 : inAll l0) (k0 : l0.length ≤ 12) (a0 : In64 n0) (b0 : In64 d0) (h1 : inAll l1) (k1 : l1.length ≤ 12) (a1 : In64 n1) (b1 : In64 d1) (a2 : In64 n2) (b2 : In64 d2)
include h0 k0 a0 b0 h1 k1 a1 b1 a2 b2
theorem turns_end : Ev (fun k => ballcocklaw02_TermTurns.j1 k (addT l0 n0 d0 l1 n1 d1).2.2.2 false l0 n0 d0 l1 n1 d1 n2 d2 (addT l0 n0 d0 l1 n1 d1).1 (addT l0 n0 d0 l1 n1 d1).2.1 (addT l0 n0 d0 l1 n1 d1).2.2.1) true := by
  have hs := add_in (l0 := l0) (l1 := l1) (n0 := n0) (d0 := d0) (n1 := n1) (d1 := d1)
  have hso := add_ok (l0 := l0) (l1 := l1) (n0 := n0) (d0 := d0) (n1 := n1) (d1 := d1)
  generalize addT l0 n0 d0 l1 n1 d1 = s at hs hso ⊢
  have hy := scale_in (l0 := l0) (n0 := n0) (d0 := d0) (n1 := n2) (d1 := d2)
  have hyo := scale_ok (l0 := l0) (n0 := n0) (d0 := d0) (n1 := n2) (d1 := d2)
  have hz := scale_in (l0 := l1) (n0 := n1) (d0 := d1) (n1 := n2) (d1 := d2)
  have hzo := scale_ok (l0 := l1) (n0 := n1) (d0 := d1) (n1 := n2) (d1 := d2)
  have hx := scale_in (l0 := s.1) (n0 := s.2.1) (d0 := s.2.2.1) (n1 := n2) (d1 := d2)
  have hxo := scale_ok (l0 := s.1) (n0 := s.2.1) (d0 := s.2.2.1) (n1 := n2) (d1 := d2)
  refine Ev.step (fun k => by rw [ballcocklaw02_TermTurns.j1]) (Ev_neg (by decide) ?_)
  refine Ev_bnd (call_scale hs.1 hs.2.1 hs.2.2.1 hs.2.2.2 a2 b2) ?_
  refine Ev_bnd (call_scale h0 (by omega) a0 b0 a2 b2) ?_
  refine Ev_bnd (call_scale h1 (by omega) a1 b1 a2 b2) ?_
  generalize scaleT s.1 s.2.1 s.2.2.1 n2 d2 = x at hx hxo ⊢
  generalize scaleT l0 n0 d0 n2 d2 = y at hy hyo ⊢
  generalize scaleT l1 n1 d1 n2 d2 = z at hz hzo ⊢
  refine Ev_bnd (call_add hy.1 hy.2.1 hy.2.2.1 hy.2.2.2 hz.1 hz.2.1 hz.2.2.1 hz.2.2.2) ?_
  have hw := add_in (l0 := y.1) (n0 := y.2.1) (d0 := y.2.2.1) (l1 := z.1) (n1 := z.2.1) (d1 := z.2.2.1)
  have hwo := add_ok (l0 := y.1) (n0 := y.2.1) (d0 := y.2.2.1) (l1 := z.1) (n1 := z.2.1) (d1 := z.2.2.1)
  generalize addT y.1 y.2.1 y.2.2.1 z.1 z.2.1 z.2.2.1 = u at hw hwo ⊢
  by_cases e1 : s.2.2.2 = 0
  rotate_left
  · exact Ev_neg e1 (done_ true)
  refine Ev_pos e1 ?_
  by_cases e2 : x.2.2.2 = 0
  rotate_left
  · exact Ev_neg e2 (done_ true)
  refine Ev_pos e2 ?_
  by_cases e3 : y.2.2.2 = 0
  rotate_left
  · exact Ev_neg e3 (done_ true)
  refine Ev_pos e3 ?_
  by_cases e4 : z.2.2.2 = 0
  rotate_left
  · exact Ev_neg e4 (done_ true)
  refine Ev_pos e4 ?_
  by_cases e5 : u.2.2.2 = 0
  rotate_left
  · exact Ev_neg e5 (done_ true)
  refine Ev_pos e5 ?_
  obtain ⟨_, _, gs⟩ := hso e1
  obtain ⟨_, _, gx⟩ := hxo e2
  obtain ⟨_, _, gy⟩ := hyo e3
  obtain ⟨_, _, gz⟩ := hzo e4
  obtain ⟨_, _, gu⟩ := hwo e5
  have hv : ∀ i, V x.1 x.2.1 x.2.2.1 i = V u.1 u.2.1 u.2.2.1 i := by
    intro i
    have p1 : V x.1 x.2.1 x.2.2.1 i = V s.1 s.2.1 s.2.2.1 i * q n2 d2 := gx.2.2.2.2 i
    have p2 : V s.1 s.2.1 s.2.2.1 i = V l0 n0 d0 i + V l1 n1 d1 i := gs.2.2.2.2 i
    have p3 : V u.1 u.2.1 u.2.2.1 i = V y.1 y.2.1 y.2.2.1 i + V z.1 z.2.1 z.2.2.1 i := gu.2.2.2.2 i
    have p4 : V y.1 y.2.1 y.2.2.1 i = V l0 n0 d0 i * q n2 d2 := gy.2.2.2.2 i
    have p5 : V z.1 z.2.1 z.2.2.1 i = V l1 n1 d1 i * q n2 d2 := gz.2.2.2.2 i
    rw [p1, p2, p3, p4, p5]
    grind
  obtain ⟨f1, f2, f3⟩ := V_same gx.1 gu.1 ⟨gx.2.1, gx.2.2.1, gx.2.2.2.1⟩ ⟨gu.2.1, gu.2.2.1, gu.2.2.2.1⟩ hv
  have gur := gu.1
  rw [← f1, ← f2] at gur ⊢
  exact Ev.bind (same_ev gx.2.1 gu.2.1 (by have := hx.2.1; omega) (by have := hw.2.1; omega) gx.2.2.1 gx.2.2.2.1 gx.1 gur f3) (done_ true)
theorem turns_main : Ev (fun k => ballcocklaw02_TermTurns.j0 k false l0 n0 d0 l1 n1 d1 n2 d2) true := by
  have hs := add_in (l0 := l0) (l1 := l1) (n0 := n0) (d0 := d0) (n1 := n1) (d1 := d1)
  refine Ev.step (fun k => by rw [ballcocklaw02_TermTurns.j0]) (Ev_neg (by decide) ?_)
  refine Ev_bnd (call_add h0 (by omega) a0 b0 h1 (by omega) a1 b1) ?_
  refine Ev_bnd (call_add h1 (by omega) a1 b1 h0 (by omega) a0 b0) ?_
  rw [← add_comm_ l0 n0 d0 l1 n1 d1]
  refine Ev_pos rfl (Ev.bind (equal_ev _ _ _ (by have := hs.2.1; omega)) ?_)
  exact turns_end h0 k0 a0 b0 h1 k1 a1 b1 a2 b2
end
theorem turns_holds (l0 : List (S24)) (n0 d0 : Int) (l1 : List (S24)) (n1 d1 : Int) (n2 d2 : Int) (h0 : inAll l0) (a0 : In64 n0) (b0 : In64 d0) (h1 : inAll l1) (a1 : In64 n1) (b1 : In64 d1) (a2 : In64 n2) (b2 : In64 d2) : ∃ k, ballcocklaw02_TermTurns.f k l0 n0 d0 l1 n1 d1 n2 d2 = some true := by
  refine PRat.Ev_and (g := fun k => ballcocklaw02_TermTurns.f k l0 n0 d0 l1 n1 d1 n2 d2) ?_
  unfold ballcocklaw02_TermTurns.f
  have stop : Ev (fun k => ballcocklaw02_TermTurns.j0 k true l0 n0 d0 l1 n1 d1 n2 d2) true := Ev.step (fun k => by rw [ballcocklaw02_TermTurns.j0]) (Ev_pos rfl (Ev.bind awake_ev (Ev.now _)))
  refine Ev.bind awake_ev (Ev_pos rfl (Ev_bnd (small_f l0 n0 d0) ?_))
  by_cases k0 : (l0.length : Int) ≤ 12
  · refine Ev_pos (decide_eq_true k0) (Ev_bnd (small_f l1 n1 d1) ?_)
    by_cases k1 : (l1.length : Int) ≤ 12
    · rw [decide_eq_true k1]
      exact turns_main h0 (by omega) a0 b0 h1 (by omega) a1 b1 a2 b2
    · rw [decide_eq_false k1]; exact stop
  · exact Ev_neg (by simpa using k0) stop
end Go.Proofs.YtijhnmbegceonaaDoor.PTerm
