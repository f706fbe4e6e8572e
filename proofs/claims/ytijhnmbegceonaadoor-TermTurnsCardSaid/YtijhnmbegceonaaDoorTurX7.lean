-- Words and walks printed by the kit and by programs of this session, and texts by hand, cut to what this law uses (wip/pack.py).
import Derived.Test.YtijhnmbegceonaaDoorProg
import Derived.Below
import Derived.Deep.Draws
import Derived.Deep.AppendLies
import Derived.Maps.AppendAt
import Derived.OwnWalk
import Derived.Laws.BytesArg
import Derived.Laws.MakeOwn
import Derived.Laws.OwnMore
import Derived.Deep.OwnRows
import Derived.Tactics
import Derived.Lib.ConvBytes
import Derived.Laws.Slices
import Derived.WalkKit
import Derived.KernelRfl
import Derived.RowKit3
import Derived.Deep.LoopGhost
import Derived.Deep.QuietTactic
import Derived.BigQuiet
import Derived.WideLaws
import Derived.Deep.DeepCutAuto
import Derived.Deep.CutBlock
import Derived.Deep.RegionHeld3
import Derived.Laws.Rows
import Derived.Lib.AppendStr
import Derived.ArgAppend
import Derived.Laws.IdiomCopy
import Derived.OrdersHeld
import Derived.Laws.BitsLemmas
import Derived.RowKit
import Derived.Test.YtijhnmbegceonaaDoorTurX4
import Derived.Test.YtijhnmbegceonaaDoorTurX2
import Derived.Test.YtijhnmbegceonaaDoorTurX6
import Derived.Test.YtijhnmbegceonaaDoorTurX5
import Derived.Test.YtijhnmbegceonaaDoorTurX0
import Derived.Test.YtijhnmbegceonaaDoorTurX1
namespace Go.Proofs.YtijhnmbegceonaaDoor.PRef
open Go.RowKit Go.Proofs.YtijhnmbegceonaaDoorW.PrintWords Go.Proofs.YtijhnmbegceonaaDoorW.PrintLast Go.Proofs.YtijhnmbegceonaaDoorW.PrintMore
attribute [local go_sem] max2_int min2_int max_two min_two max_three min_three max_four min_four
set_option linter.unusedVariables false
set_option linter.unusedSimpArgs false
def errW : Option Int → Value
  | none => .nilIface
  | some c => .iface 0 (.int .i64 c)
theorem errW_none : errW none = .nilIface := rfl
theorem errW_some (c : Int) : errW (some c) = .iface 0 (.int .i64 c) := rfl
end Go.Proofs.YtijhnmbegceonaaDoor.PRef
namespace Go.Proofs.YtijhnmbegceonaaDoor.PRef
open Go.RowKit Go.Proofs.YtijhnmbegceonaaDoorW.PrintWords Go.Proofs.YtijhnmbegceonaaDoorW.PrintLast Go.Proofs.YtijhnmbegceonaaDoorW.PrintMore
attribute [local go_sem] max2_int min2_int max_two min_two max_three min_three max_four min_four
set_option linter.unusedVariables false
set_option linter.unusedSimpArgs false
def ballcockref01_Less.l0 : Nat → List Bool → List Bool → Int → Option (Bool)
  | 0, _, _, _ => none
  | k + 1, x0, x1, x5 => if x5 ≥ 0 then (if 0 ≤ x5 then (if x5 < (x0.length : Int) then (if x5 < (x1.length : Int) then (if ((rdOf false x0 x5) != (rdOf false x1 x5)) = true then (some (rdOf false x1 x5)) else (ballcockref01_Less.l0 k x0 x1 (wrap64 (x5 - 1)))) else (none)) else (none)) else (none)) else (some false)
def ballcockref01_Less.f (k : Nat) (l0 : List Bool) (l1 : List Bool) : Option (Bool) := if (l0.length : Int) = (l1.length : Int) then (ballcockref01_Less.l0 k l0 l1 (wrap64 ((l0.length : Int) - 1))) else (some (decide ((l0.length : Int) < (l1.length : Int))))
end Go.Proofs.YtijhnmbegceonaaDoor.PRef
namespace Go.Proofs.YtijhnmbegceonaaDoor.PRef
open Go.RowKit Go.Proofs.YtijhnmbegceonaaDoorW.PrintWords Go.Proofs.YtijhnmbegceonaaDoorW.PrintLast Go.Proofs.YtijhnmbegceonaaDoorW.PrintMore
attribute [local go_sem] max2_int min2_int max_two min_two max_three min_three max_four min_four
set_option linter.unusedVariables false
set_option linter.unusedSimpArgs false
def ballcockref01_trim.l0 : Nat → List Bool → Int → Option (List Bool)
  | 0, _, _ => none
  | k + 1, x0, x3 => if x3 > 0 then (if 0 ≤ (wrap64 (x3 - 1)) then (if (wrap64 (x3 - 1)) < (x0.length : Int) then (if (rdOf false x0 (wrap64 (x3 - 1)) = true) then (if 0 ≤ x3 then (if x3 ≤ (x0.length : Int) then (some (x0.take (x3 : Int).toNat)) else (none)) else (none)) else (ballcockref01_trim.l0 k x0 (wrap64 (x3 - 1)))) else (none)) else (none)) else (if 0 ≤ x3 then (if x3 ≤ (x0.length : Int) then (some (x0.take (x3 : Int).toNat)) else (none)) else (none))
def ballcockref01_trim.f (k : Nat) (l0 : List Bool) : Option (List Bool) := ballcockref01_trim.l0 k l0 (l0.length : Int)
def ballcockref01_bit.f (l0 : List Bool) (a1 : Int) : Option (Bool) := if a1 < (l0.length : Int) then (if 0 ≤ a1 then (some (rdOf false l0 a1)) else (none)) else (some false)
end Go.Proofs.YtijhnmbegceonaaDoor.PRef
namespace Go.Proofs.YtijhnmbegceonaaDoor.PRef
open Go.RowKit Go.Proofs.YtijhnmbegceonaaDoorW.PrintWords Go.Proofs.YtijhnmbegceonaaDoorW.PrintLast Go.Proofs.YtijhnmbegceonaaDoorW.PrintMore
attribute [local go_sem] max2_int min2_int max_two min_two max_three min_three max_four min_four
set_option linter.unusedVariables false
set_option linter.unusedSimpArgs false
mutual
def ballcockref01_Sub.l0 : Nat → List Bool → List Bool → List Bool → Int → Int → Option (List Bool)
  | 0, _, _, _, _, _ => none
  | k + 1, x0, x1, x5, x6, x7 => if x7 < (x0.length : Int) then ((ballcockref01_bit.f x0 x7).bind fun t115 => (if t115 = true then (ballcockref01_Sub.j1 k x0 x1 x5 x7 (wrap64 ((wrap64 (-x6)) + 1))) else (ballcockref01_Sub.j1 k x0 x1 x5 x7 (wrap64 (-x6))))) else ((ballcockref01_trim.f k x5).bind fun t112 => (some t112))
def ballcockref01_Sub.j1 : Nat → List Bool → List Bool → List Bool → Int → Int → Option (List Bool)
  | 0, _, _, _, _, _ => none
  | k + 1, x0, x1, x5, x7, x8 => (ballcockref01_bit.f x1 x7).bind fun t116 => (if t116 = true then (if (wrap64 (x8 - 1)) < 0 then (if x5.length < 140737488355328 then (ballcockref01_Sub.l0 k x0 x1 (x5 ++ [((wrap64 ((wrap64 (x8 - 1)) + 2)) == 1)]) 1 (wrap64 (x7 + 1))) else (none)) else (if x5.length < 140737488355328 then (ballcockref01_Sub.l0 k x0 x1 (x5 ++ [((wrap64 (x8 - 1)) == 1)]) 0 (wrap64 (x7 + 1))) else (none))) else (if x8 < 0 then (if x5.length < 140737488355328 then (ballcockref01_Sub.l0 k x0 x1 (x5 ++ [((wrap64 (x8 + 2)) == 1)]) 1 (wrap64 (x7 + 1))) else (none)) else (if x5.length < 140737488355328 then (ballcockref01_Sub.l0 k x0 x1 (x5 ++ [(x8 == 1)]) 0 (wrap64 (x7 + 1))) else (none))))
end
def ballcockref01_Sub.f (k : Nat) (l0 : List Bool) (l1 : List Bool) : Option (List Bool) := ballcockref01_Sub.l0 k l0 l1 ([] : List Bool) 0 0
end Go.Proofs.YtijhnmbegceonaaDoor.PRef
namespace Go.Proofs.YtijhnmbegceonaaDoor.PRef
open Go.RowKit Go.Proofs.YtijhnmbegceonaaDoorW.PrintWords Go.Proofs.YtijhnmbegceonaaDoorW.PrintLast Go.Proofs.YtijhnmbegceonaaDoorW.PrintMore
attribute [local go_sem] max2_int min2_int max_two min_two max_three min_three max_four min_four
set_option linter.unusedVariables false
set_option linter.unusedSimpArgs false
def ballcockref01_Divide.l0 : Nat → List Bool → List Bool → List Bool → List Bool → Int → Option (List Bool × List Bool)
  | 0, _, _, _, _, _ => none
  | k + 1, x0, x1, x6, x7, x8 => if x8 ≥ 0 then (if 0 ≤ x8 then (if x8 < (x0.length : Int) then ((some (([rdOf false x0 x8] : List Bool) : List Bool)).bind fun y133 => (if y133.length + x7.length < 140737488355328 then ((ballcockref01_trim.f k (y133 ++ x7)).bind fun t139 => ((ballcockref01_Less.f k t139 x1).bind fun t142 => (if t142 = true then ((some (([!t142] : List Bool) : List Bool)).bind fun y143 => (if y143.length + x6.length < 140737488355328 then (ballcockref01_Divide.l0 k x0 x1 (y143 ++ x6) t139 (wrap64 (x8 - 1))) else (none))) else ((ballcockref01_Sub.f k t139 x1).bind fun t149 => ((some (([!t142] : List Bool) : List Bool)).bind fun y152 => (if y152.length + x6.length < 140737488355328 then (ballcockref01_Divide.l0 k x0 x1 (y152 ++ x6) t149 (wrap64 (x8 - 1))) else (none))))))) else (none))) else (none)) else (none)) else ((ballcockref01_trim.f k x6).bind fun t129 => (some (t129, x7)))
def ballcockref01_Divide.f (k : Nat) (l0 : List Bool) (l1 : List Bool) : Option (List Bool × List Bool) := if (l1.length : Int) = 0 then (some (([] : List Bool), ([] : List Bool))) else (ballcockref01_Divide.l0 k l0 l1 ([] : List Bool) ([] : List Bool) (wrap64 ((l0.length : Int) - 1)))
def ballcockref01_Common.l0 : Nat → List Bool → List Bool → Option (List Bool)
  | 0, _, _ => none
  | k + 1, x0, x1 => if (x1.length : Int) > 0 then ((ballcockref01_Divide.f k x0 x1).bind fun bt158 => (ballcockref01_Common.l0 k x1 bt158.2)) else (some x0)
def ballcockref01_Common.f (k : Nat) (l0 : List Bool) (l1 : List Bool) : Option (List Bool) := ballcockref01_Common.l0 k l0 l1
end Go.Proofs.YtijhnmbegceonaaDoor.PRef
namespace Go.Proofs.YtijhnmbegceonaaDoor.PRef
open Go.RowKit Go.Proofs.YtijhnmbegceonaaDoorW.PrintWords Go.Proofs.YtijhnmbegceonaaDoorW.PrintLast Go.Proofs.YtijhnmbegceonaaDoorW.PrintMore
attribute [local go_sem] max2_int min2_int max_two min_two max_three min_three max_four min_four
set_option linter.unusedVariables false
set_option linter.unusedSimpArgs false
mutual
def ballcockref01_Add.l0 : Nat → List Bool → List Bool → List Bool → Int → Int → Option (List Bool)
  | 0, _, _, _, _, _ => none
  | k + 1, x0, x1, x5, x6, x7 => if x7 < (x0.length : Int) then (ballcockref01_Add.j1 k x0 x1 x5 x6 x7 true) else (if x7 < (x1.length : Int) then (ballcockref01_Add.j1 k x0 x1 x5 x6 x7 true) else (ballcockref01_Add.j1 k x0 x1 x5 x6 x7 (decide (x6 > 0))))
def ballcockref01_Add.j1 : Nat → List Bool → List Bool → List Bool → Int → Int → Bool → Option (List Bool)
  | 0, _, _, _, _, _, _ => none
  | k + 1, x0, x1, x5, x6, x7, x21 => if x21 = true then ((ballcockref01_bit.f x0 x7).bind fun t167 => (if t167 = true then ((ballcockref01_bit.f x1 x7).bind fun t168 => (if t168 = true then (if x5.length < 140737488355328 then (ballcockref01_Add.l0 k x0 x1 (x5 ++ [((Int.tmod (wrap64 ((wrap64 (x6 + 1)) + 1)) 2) == 1)]) (wrap64 (Int.tdiv (wrap64 ((wrap64 (x6 + 1)) + 1)) 2)) (wrap64 (x7 + 1))) else (none)) else (if x5.length < 140737488355328 then (ballcockref01_Add.l0 k x0 x1 (x5 ++ [((Int.tmod (wrap64 (x6 + 1)) 2) == 1)]) (wrap64 (Int.tdiv (wrap64 (x6 + 1)) 2)) (wrap64 (x7 + 1))) else (none)))) else ((ballcockref01_bit.f x1 x7).bind fun t175 => (if t175 = true then (if x5.length < 140737488355328 then (ballcockref01_Add.l0 k x0 x1 (x5 ++ [((Int.tmod (wrap64 (x6 + 1)) 2) == 1)]) (wrap64 (Int.tdiv (wrap64 (x6 + 1)) 2)) (wrap64 (x7 + 1))) else (none)) else (if x5.length < 140737488355328 then (ballcockref01_Add.l0 k x0 x1 (x5 ++ [((Int.tmod x6 2) == 1)]) (wrap64 (Int.tdiv x6 2)) (wrap64 (x7 + 1))) else (none)))))) else ((ballcockref01_trim.f k x5).bind fun t164 => (some t164))
end
def ballcockref01_Add.f (k : Nat) (l0 : List Bool) (l1 : List Bool) : Option (List Bool) := ballcockref01_Add.l0 k l0 l1 ([] : List Bool) 0 0
end Go.Proofs.YtijhnmbegceonaaDoor.PRef
namespace Go.Proofs.YtijhnmbegceonaaDoor.PRef
open Go.RowKit Go.Proofs.YtijhnmbegceonaaDoorW.PrintWords Go.Proofs.YtijhnmbegceonaaDoorW.PrintLast Go.Proofs.YtijhnmbegceonaaDoorW.PrintMore
attribute [local go_sem] max2_int min2_int max_two min_two max_three min_three max_four min_four
set_option linter.unusedVariables false
set_option linter.unusedSimpArgs false
def ballcockref01_Mul.l0 : Nat → List Bool → List Bool → List Bool → Int → Option (List Bool)
  | 0, _, _, _, _ => none
  | k + 1, x0, x1, x5, x6 => if x6 ≥ 0 then ((some (([false] : List Bool) : List Bool)).bind fun y237 => (if y237.length + x5.length < 140737488355328 then ((ballcockref01_trim.f k (y237 ++ x5)).bind fun t243 => (if 0 ≤ x6 then (if x6 < (x1.length : Int) then (if rdOf false x1 x6 = true then ((ballcockref01_Add.f k t243 x0).bind fun t247 => (ballcockref01_Mul.l0 k x0 x1 t247 (wrap64 (x6 - 1)))) else (ballcockref01_Mul.l0 k x0 x1 t243 (wrap64 (x6 - 1)))) else (none)) else (none))) else (none))) else (some x5)
def ballcockref01_Mul.f (k : Nat) (l0 : List Bool) (l1 : List Bool) : Option (List Bool) := ballcockref01_Mul.l0 k l0 l1 ([] : List Bool) (wrap64 ((l1.length : Int) - 1))
end Go.Proofs.YtijhnmbegceonaaDoor.PRef
namespace Go.Proofs.YtijhnmbegceonaaDoor.PRef
open Go Go.RowKit Go.Proofs.YtijhnmbegceonaaDoorW.PrintWords Go.Proofs.YtijhnmbegceonaaDoorW.PrintLast Go.Proofs.YtijhnmbegceonaaDoorW.PrintMore BallBits
theorem rd_nat (l : List Bool) (i : Nat) : rdOf false l (i : Int) = l.getD i false := by simp [rdOf]
theorem trim_loop (l : List Bool) (hl : l.length ≤ 1000000) (i : Nat) : i ≤ l.length → Ev (fun k => ballcockref01_trim.l0 k l (i : Int)) (bof (nv (l.take i))) := by
  induction i with
  | zero =>
    intro _
    refine Ev.step (fun k => by rw [ballcockref01_trim.l0]) ?_
    refine Ev_neg (by omega) (Ev_pos (by omega) (Ev_pos (by omega) ?_))
    exact Ev_some fun _ => by simp [nv, bof_zero]
  | succ i ih =>
    intro hi
    have hw : wrap64 (((i + 1 : Nat) : Int) - 1) = (i : Int) := by unfold wrap64; omega
    refine Ev.step (fun k => by rw [ballcockref01_trim.l0, hw, rd_nat]) ?_
    refine Ev_pos (by omega) (Ev_pos (by omega) (Ev_pos (by omega) ?_))
    by_cases hb : l.getD i false = true
    · refine Ev_pos hb (Ev_pos (by omega) (Ev_pos (by omega) ?_))
      exact Ev_some fun _ => by rw [take_one_bof l i hi hb]; simp
    · refine Ev_neg hb (Ev_cast (ih (by omega)) ?_)
      rw [nv_take_succ l i hi]
      have hb' := Bool.eq_false_iff.mpr hb
      rw [hb']
      simp
theorem trim_ev (l : List Bool) (hl : l.length ≤ 1000000) : Ev (fun k => ballcockref01_trim.f k l) (bof (nv l)) := by
  have := trim_loop l hl l.length (Nat.le_refl _)
  rw [List.take_length] at this
  exact this
theorem bit_ev (l : List Bool) (i : Nat) : ballcockref01_bit.f l (i : Int) = some (l.getD i false) := by
  unfold ballcockref01_bit.f
  rw [rd_nat]
  by_cases h : i < l.length
  · rw [if_pos (by omega), if_pos (by omega)]
  · rw [if_neg (by omega)]
    simp [List.getD_eq_getElem?_getD, List.getElem?_eq_none (by omega : l.length ≤ i)]
theorem half_of (c : Int) (n : Nat) (h : c = (n : Int)) (hn : n ≤ 3) : ((Int.tmod c 2) == 1) = (n % 2 == 1) ∧ wrap64 (Int.tdiv c 2) = ((n / 2 : Nat) : Int) := by
  subst h
  have : n = 0 ∨ n = 1 ∨ n = 2 ∨ n = 3 := by omega
  unfold wrap64
  rcases this with rfl | rfl | rfl | rfl <;> decide
theorem add_arith {p c u v x y q s o t : Nat} (h : c + u + v = q + 2 * s) (h4 : o + p * (c + (u + 2 * x) + (v + 2 * y)) = t) : o + p * q + p * 2 * (s + x + y) = t := by
  rw [← h4]
  have : c + (u + 2 * x) + (v + 2 * y) = q + 2 * (s + x + y) := by omega
  rw [this, Nat.mul_add p q, Nat.mul_assoc, Nat.add_assoc]
theorem add_loop (a b : List Bool) (ha : a.length ≤ 100000) (hb : b.length ≤ 100000) (d : Nat) : ∀ (out : List Bool) (c : Nat), c ≤ 1 → max a.length b.length + 1 ≤ out.length + d → out.length ≤ max a.length b.length + 1 → (out.length = max a.length b.length + 1 → c = 0) →
    nv out + 2 ^ out.length * (c + nv (a.drop out.length) + nv (b.drop out.length)) = nv a + nv b → Ev (fun k => ballcockref01_Add.l0 k a b out (c : Int) (out.length : Int)) (bof (nv a + nv b)) := by
  induction d with
  | zero =>
    intro out c hc h1 h2 h3 h4
    have e : out.length = max a.length b.length + 1 := by omega
    have hc0 := h3 e
    subst hc0
    refine Ev.step (fun k => by rw [ballcockref01_Add.l0]) ?_
    refine Ev_neg (by omega) (Ev_neg (by omega) ?_)
    refine Ev.step (fun k => by rw [ballcockref01_Add.j1]) ?_
    refine Ev_neg (by simp) ?_
    refine Ev_bndc (trim_ev out (by omega)) ?_
    rw [← h4, List.drop_eq_nil_of_le (by omega), List.drop_eq_nil_of_le (by omega)]
    simp [nv]
  | succ d ih =>
    intro out c hc h1 h2 h3 h4
    by_cases hend : ¬ out.length < a.length ∧ ¬ out.length < b.length ∧ c = 0
    · obtain ⟨e1, e2, rfl⟩ := hend
      refine Ev.step (fun k => by rw [ballcockref01_Add.l0]) ?_
      refine Ev_neg (by omega) (Ev_neg (by omega) ?_)
      refine Ev.step (fun k => by rw [ballcockref01_Add.j1]) ?_
      refine Ev_neg (by simp) ?_
      refine Ev_bndc (trim_ev out (by omega)) ?_
      rw [← h4, List.drop_eq_nil_of_le (by omega), List.drop_eq_nil_of_le (by omega)]
      simp [nv]
    · have hgo : Ev (fun k => ballcockref01_Add.j1 k a b out (c : Int) (out.length : Int) true) (bof (nv a + nv b)) := by
        have hlt : out.length < max a.length b.length + 1 := by
          rcases Nat.lt_or_ge out.length (max a.length b.length + 1) with h | h
          · exact h
          · exfalso; apply hend; refine ⟨by omega, by omega, h3 (by omega)⟩
        have da := nv_drop' a out.length
        have db := nv_drop' b out.length
        rw [da, db] at h4
        have H4 := Aside0.mk h4
        clear h4 da db
        have hi := wsucc out.length (by omega)
        have key : ∀ n : Nat, n = c + (a.getD out.length false).toNat + (b.getD out.length false).toNat → Ev (fun k => ballcockref01_Add.l0 k a b (out ++ [n % 2 == 1]) ((n / 2 : Nat) : Int) ((out.length + 1 : Nat) : Int)) (bof (nv a + nv b)) := by
          intro n hn
          have ba := Bool.toNat_le (a.getD out.length false)
          have bb := Bool.toNat_le (b.getD out.length false)
          have hnv : nv (out ++ [n % 2 == 1]) = nv out + 2 ^ out.length * (n % 2) := by
            rw [nv_append]; rcases Nat.mod_two_eq_zero_or_one n with e | e <;> simp [nv, e]
          have := ih (out ++ [n % 2 == 1]) (n / 2) (by omega) (by simp; omega) (by simp; omega) ?_ ?_
          · simpa using this
          · simp only [List.length_append, List.length_singleton]
            intro e
            have ea : a.getD out.length false = false := by
              simp [List.getD_eq_getElem?_getD, List.getElem?_eq_none (by omega : a.length ≤ out.length)]
            have eb : b.getD out.length false = false := by
              simp [List.getD_eq_getElem?_getD, List.getElem?_eq_none (by omega : b.length ≤ out.length)]
            rw [ea, eb] at hn
            simp at hn
            omega
          · rw [hnv]
            simp only [List.length_append, List.length_singleton, Nat.pow_succ]
            exact add_arith (by have := Nat.mod_add_div n 2; omega) H4.out
        refine Ev.step (fun k => by rw [ballcockref01_Add.j1, bit_ev, bit_ev, hi]) ?_
        refine Ev_pos rfl (Ev_bnd rfl ?_)
        rw [wsucc c (by omega), wsucc (c + 1) (by omega)]
        have hL : out.length < 140737488355328 := by omega
        cases hA : a.getD out.length false <;> cases hB : b.getD out.length false <;> rw [hA, hB] at key
        · refine Ev_neg (by simp) (Ev_bnd rfl (Ev_neg (by simp) (Ev_pos hL ?_)))
          obtain ⟨k1, k2⟩ := half_of (c : Int) c rfl (by omega)
          rw [k1, k2]; exact key c (by simp)
        · refine Ev_neg (by simp) (Ev_bnd rfl (Ev_pos rfl (Ev_pos hL ?_)))
          obtain ⟨k1, k2⟩ := half_of ((c + 1 : Nat) : Int) (c + 1) rfl (by omega)
          rw [k1, k2]; exact key (c + 1) (by simp)
        · refine Ev_pos rfl (Ev_bnd rfl (Ev_neg (by simp) (Ev_pos hL ?_)))
          obtain ⟨k1, k2⟩ := half_of ((c + 1 : Nat) : Int) (c + 1) rfl (by omega)
          rw [k1, k2]; exact key (c + 1) (by simp)
        · refine Ev_pos rfl (Ev_bnd rfl (Ev_pos rfl (Ev_pos hL ?_)))
          obtain ⟨k1, k2⟩ := half_of ((c + 2 : Nat) : Int) (c + 2) rfl (by omega)
          rw [k1, k2]; exact key (c + 2) (by simp)
      refine Ev.step (fun k => by rw [ballcockref01_Add.l0]) ?_
      by_cases e1 : out.length < a.length
      · exact Ev_pos (by omega) hgo
      · refine Ev_neg (by omega) ?_
        by_cases e2 : out.length < b.length
        · exact Ev_pos (by omega) hgo
        · refine Ev_neg (by omega) ?_
          have : decide ((c : Int) > 0) = true := decide_eq_true (by omega)
          rw [this]; exact hgo
theorem add_ev (a b : List Bool) (ha : a.length ≤ 100000) (hb : b.length ≤ 100000) : Ev (fun k => ballcockref01_Add.f k a b) (bof (nv a + nv b)) := by
  have := add_loop a b ha hb (max a.length b.length + 1) [] 0 (by omega) (by simp) (by simp) (by simp) (by simp [nv])
  exact this
theorem less_loop (a b : List Bool) (hl : a.length = b.length) (ha : a.length ≤ 1000000) (i : Nat) : i ≤ a.length → Ev (fun k => ballcockref01_Less.l0 k a b ((i : Int) - 1)) (decide (nv (a.take i) < nv (b.take i))) := by
  induction i with
  | zero =>
    intro _
    refine Ev.step (fun k => by rw [ballcockref01_Less.l0]) ?_
    refine Ev_neg (by omega) (Ev_some fun _ => by simp [nv])
  | succ i ih =>
    intro hi
    have e0 : ((i + 1 : Nat) : Int) - 1 = (i : Int) := by omega
    refine Ev.step (fun k => by rw [ballcockref01_Less.l0, e0, rd_nat, rd_nat, wpred i (by omega)]) ?_
    refine Ev_pos (by omega) (Ev_pos (by omega) (Ev_pos (by omega) (Ev_pos (by omega) ?_)))
    have ta := nv_take_succ a i (by omega)
    have tb := nv_take_succ b i (by omega)
    have la := nv_lt (a.take i)
    have lb := nv_lt (b.take i)
    rw [List.length_take, Nat.min_eq_left (by omega)] at la lb
    rw [ta, tb]
    have ih := ih (by omega)
    cases hA : a.getD i false <;> cases hB : b.getD i false
    · refine Ev_neg (by simp) (Ev_cast ih ?_)
      simp
    · refine Ev_pos (by simp) (Ev_some fun _ => ?_)
      simp; omega
    · refine Ev_pos (by simp) (Ev_some fun _ => ?_)
      simp; omega
    · refine Ev_neg (by simp) (Ev_cast ih ?_)
      simp
theorem less_ev (m n : Nat) (hm : (bof m).length ≤ 100000) : Ev (fun k => ballcockref01_Less.f k (bof m) (bof n)) (decide (m < n)) := by
  unfold ballcockref01_Less.f
  by_cases h : (bof m).length = (bof n).length
  · refine Ev_pos (by omega) ?_
    rw [wpred _ (by omega)]
    have := less_loop (bof m) (bof n) h (by omega) (bof m).length (Nat.le_refl _)
    rw [List.take_length, h, List.take_length, nv_bof, nv_bof] at this
    rw [h]; exact this
  · refine Ev_neg (by omega) (Ev_some fun _ => ?_)
    congr 1
    rw [decide_eq_decide]
    constructor
    · intro h1; exact bof_length_eq_of (by omega)
    · intro h1
      rcases Nat.lt_or_ge (bof m).length (bof n).length with h2 | h2
      · omega
      · have := bof_length_eq_of (a := n) (b := m) (by omega)
        omega
theorem sub_arith {o p x y u v s w q : Nat} (h4 : o + x = y + w * p) (h : q + v + w = u + 2 * s) : o + p * q + (x + p * v) = y + p * u + s * (p * 2) := by
  have e1 : p * q + p * v + w * p = p * u + s * (p * 2) := by
    have : p * (q + v + w) = p * (u + 2 * s) := by rw [h]
    grind
  omega
theorem bit_of (q : Nat) (h : q ≤ 1) : ((q : Int) == 1) = (q == 1) := by
  have : q = 0 ∨ q = 1 := by omega
  rcases this with rfl | rfl <;> rfl
theorem sub_j1 (a b out : List Bool) (x : Int) (h0 : -1 ≤ x) (h1 : x ≤ 1) (hL : out.length ≤ 100000) (q s : Nat) (hq : q ≤ 1) (hs : s ≤ 1) (he : (q : Int) + (b.getD out.length false).toNat = x + 2 * s) {r : List Bool}
    (H : Ev (fun k => ballcockref01_Sub.l0 k a b (out ++ [q == 1]) (s : Int) ((out.length + 1 : Nat) : Int)) r) : Ev (fun k => ballcockref01_Sub.j1 k a b out (out.length : Int) x) r := by
  refine Ev.step (fun k => by rw [ballcockref01_Sub.j1, bit_ev, wsucc out.length (by omega)]) ?_
  refine Ev_bnd rfl ?_
  rw [← bit_of q hq] at H
  cases hB : b.getD out.length false <;> rw [hB] at he <;> simp at he
  · refine Ev_neg (by simp) ?_
    by_cases hx : x < 0
    · obtain rfl : s = 1 := by omega
      refine Ev_pos hx (Ev_pos (by omega) ?_)
      have : wrap64 (x + 2) = (q : Int) := by unfold wrap64; omega
      rw [this]; exact H
    · obtain rfl : s = 0 := by omega
      refine Ev_neg hx (Ev_pos (by omega) ?_)
      have : x = (q : Int) := by omega
      rw [this]; exact H
  · have e : wrap64 (x - 1) = x - 1 := by unfold wrap64; omega
    rw [e]
    refine Ev_pos (by simp) ?_
    by_cases hx : x - 1 < 0
    · obtain rfl : s = 1 := by omega
      refine Ev_pos hx (Ev_pos (by omega) ?_)
      have : wrap64 (x - 1 + 2) = (q : Int) := by unfold wrap64; omega
      rw [this]; exact H
    · obtain rfl : s = 0 := by omega
      refine Ev_neg hx (Ev_pos (by omega) ?_)
      have : x - 1 = (q : Int) := by omega
      rw [this]; exact H
theorem sub_loop (a b : List Bool) (ha : a.length ≤ 100000) (hle : nv b ≤ nv a) (d : Nat) : ∀ (out : List Bool) (w : Nat), w ≤ 1 → out.length + d = a.length →
    nv out + nv (b.take out.length) = nv (a.take out.length) + w * 2 ^ out.length → Ev (fun k => ballcockref01_Sub.l0 k a b out (w : Int) (out.length : Int)) (bof (nv a - nv b)) := by
  induction d with
  | zero =>
    intro out w hw hd h4
    have hd : out.length = a.length := by omega
    refine Ev.step (fun k => by rw [ballcockref01_Sub.l0]) ?_
    refine Ev_neg (by omega) ?_
    refine Ev_bndc (trim_ev out (by omega)) ?_
    rw [hd, List.take_length] at h4
    have lo := nv_lt out
    rw [hd] at lo
    have sp := nv_split b a.length
    have la := nv_lt a
    have hbt : nv (b.take a.length) = nv b := by
      rcases Nat.lt_or_ge a.length b.length with h | h
      · rw [Nat.min_eq_left (by omega)] at sp
        rcases Nat.eq_zero_or_pos (nv (b.drop a.length)) with e | e
        · rw [e] at sp; simpa using sp.symm
        · have : 2 ^ a.length * 1 ≤ 2 ^ a.length * nv (b.drop a.length) := Nat.mul_le_mul_left _ e
          omega
      · rw [List.take_of_length_le h]
    rw [hbt] at h4
    have : w = 0 := by
      rcases Nat.eq_zero_or_pos w with e | e
      · exact e
      · have : w = 1 := by omega
        subst this; omega
    subst this
    have : nv out = nv a - nv b := by omega
    rw [this]
  | succ d ih =>
    intro out w hw hd h4
    have H4 := Aside0.mk h4
    clear h4
    have key : ∀ (q s : Nat), s ≤ 1 → q ≤ 1 → q + (b.getD out.length false).toNat + w = (a.getD out.length false).toNat + 2 * s → Ev (fun k => ballcockref01_Sub.l0 k a b (out ++ [q == 1]) (s : Int) ((out.length + 1 : Nat) : Int)) (bof (nv a - nv b)) := by
      intro q s hs hq he
      have hnv : nv (out ++ [q == 1]) = nv out + 2 ^ out.length * q := by
        rw [nv_append]
        have : q = 0 ∨ q = 1 := by omega
        rcases this with e | e <;> simp [nv, e]
      have := ih (out ++ [q == 1]) s hs (by simp; omega) ?_
      · simpa using this
      · rw [hnv]
        simp only [List.length_append, List.length_singleton]
        rw [nv_take_succ a _ (by omega), Nat.pow_succ]
        have hb2 : nv (b.take (out.length + 1)) = nv (b.take out.length) + 2 ^ out.length * (b.getD out.length false).toNat := by
          by_cases h : out.length < b.length
          · exact nv_take_succ b _ h
          · rw [List.take_of_length_le (by omega), List.take_of_length_le (by omega)]
            simp [List.getD_eq_getElem?_getD, List.getElem?_eq_none (by omega : b.length ≤ out.length)]
        rw [hb2]
        exact sub_arith H4.out he
    have hw2 : wrap64 (-(w : Int)) = -(w : Int) := by unfold wrap64; omega
    have hw3 : wrap64 (-(w : Int) + 1) = -(w : Int) + 1 := by unfold wrap64; omega
    refine Ev.step (fun k => by rw [ballcockref01_Sub.l0, bit_ev, hw2, hw3]) ?_
    refine Ev_pos (by omega) (Ev_bnd rfl ?_)
    obtain ⟨q, s, hs, hq, he⟩ : ∃ q s : Nat, s ≤ 1 ∧ q ≤ 1 ∧ q + (b.getD out.length false).toNat + w = (a.getD out.length false).toNat + 2 * s := by
      have := Bool.toNat_le (a.getD out.length false)
      have := Bool.toNat_le (b.getD out.length false)
      generalize (a.getD out.length false).toNat = u at *
      generalize (b.getD out.length false).toNat = v at *
      by_cases h : u < v + w
      · exact ⟨u + 2 - v - w, 1, by omega, by omega, by omega⟩
      · exact ⟨u - v - w, 0, by omega, by omega, by omega⟩
    have K := key q s hs hq he
    cases hA : a.getD out.length false <;> rw [hA] at he <;> simp only [Bool.toNat_false, Bool.toNat_true] at he
    · exact Ev_neg (by simp) (sub_j1 a b out _ (by omega) (by omega) (by omega) q s hq hs (by omega) K)
    · exact Ev_pos rfl (sub_j1 a b out _ (by omega) (by omega) (by omega) q s hq hs (by omega) K)
theorem sub_ev (a b : List Bool) (ha : a.length ≤ 100000) (hle : nv b ≤ nv a) : Ev (fun k => ballcockref01_Sub.f k a b) (bof (nv a - nv b)) :=
  sub_loop a b ha hle a.length [] 0 (by omega) (by simp) (by simp [nv])
theorem bof_len_mul (m : Nat) (x : List Bool) (L : Nat) (hL : (bof m).length ≤ L) : (bof (m * nv x)).length ≤ L + x.length := by
  apply length_bof_le
  have h1 : m < 2 ^ L := lt_of_length hL
  have h2 := nv_lt x
  rw [Nat.pow_add]
  calc m * nv x ≤ m * 2 ^ x.length := Nat.mul_le_mul_left _ (by omega)
    _ < 2 ^ L * 2 ^ x.length := Nat.mul_lt_mul_of_pos_right h1 (Nat.pow_pos (by omega))
theorem bof_len_nv (x : List Bool) : (bof (nv x)).length ≤ x.length := length_bof_le (nv_lt x)
theorem mul_loop (a b : List Bool) (ha : a.length ≤ 10000) (hb : b.length ≤ 10000) (i : Nat) : i ≤ b.length → Ev (fun k => ballcockref01_Mul.l0 k a b (bof (nv a * nv (b.drop i))) ((i : Int) - 1)) (bof (nv a * nv b)) := by
  induction i with
  | zero =>
    intro _
    refine Ev.step (fun k => by rw [ballcockref01_Mul.l0]) ?_
    exact Ev_neg (by omega) (Ev_some fun _ => by simp)
  | succ i ih =>
    intro hi
    have e0 : ((i + 1 : Nat) : Int) - 1 = (i : Int) := by omega
    have hlen : (bof (nv a * nv (b.drop (i + 1)))).length ≤ 20000 := by
      have := bof_len_mul (nv a) (b.drop (i + 1)) a.length (bof_len_nv a)
      simp at this; omega
    refine Ev.step (fun k => by rw [ballcockref01_Mul.l0, e0, rd_nat, wpred i (by omega)]) ?_
    refine Ev_pos (by omega) (Ev_bnd rfl (Ev_pos (by simp; omega) ?_))
    have ht := trim_ev ([false] ++ bof (nv a * nv (b.drop (i + 1)))) (by simp; omega)
    have e1 : nv ([false] ++ bof (nv a * nv (b.drop (i + 1)))) = 2 * (nv a * nv (b.drop (i + 1))) := by simp [nv, nv_bof]
    rw [e1] at ht
    refine Ev.bind ht (Ev_pos (by omega) (Ev_pos (by omega) ?_))
    have ih := ih (by omega)
    rw [nv_drop b i (by omega)] at ih
    cases hB : b.getD i false <;> rw [hB] at ih
    · refine Ev_neg (by simp) ?_
      have e2 : nv a * (false.toNat + 2 * nv (b.drop (i + 1))) = 2 * (nv a * nv (b.drop (i + 1))) := by simp; grind
      rw [e2] at ih
      exact ih
    · refine Ev_pos rfl ?_
      have hlen2 : (bof (2 * (nv a * nv (b.drop (i + 1))))).length ≤ 100000 := by
        have := bof_len_nv ([false] ++ bof (nv a * nv (b.drop (i + 1))))
        rw [e1] at this
        simp at this; omega
      have hadd := add_ev (bof (2 * (nv a * nv (b.drop (i + 1))))) a hlen2 (by omega)
      rw [nv_bof] at hadd
      have e2 : nv a * (true.toNat + 2 * nv (b.drop (i + 1))) = 2 * (nv a * nv (b.drop (i + 1))) + nv a := by simp; grind
      rw [e2] at ih
      exact Ev.bind hadd ih
theorem mul_ev (a b : List Bool) (ha : a.length ≤ 10000) (hb : b.length ≤ 10000) : Ev (fun k => ballcockref01_Mul.f k a b) (bof (nv a * nv b)) := by
  have := mul_loop a b ha hb b.length (Nat.le_refl _)
  rw [List.drop_length] at this
  unfold ballcockref01_Mul.f
  rw [wpred _ (by omega)]
  simp only [nv, Nat.mul_zero, bof_zero] at this
  exact this
theorem div_step {A A' u m : Nat} (hA : A = u + 2 * A') (hu : u ≤ 1) (_hm : 0 < m) : (u + 2 * (A' % m) < m → A / m = 2 * (A' / m) ∧ A % m = u + 2 * (A' % m)) ∧ (¬ u + 2 * (A' % m) < m → A / m = 2 * (A' / m) + 1 ∧ A % m = u + 2 * (A' % m) - m) := by
  have h1 := Nat.mod_add_div A' m
  have h2 := Nat.mod_lt A' _hm
  generalize A' % m = R at *
  generalize A' / m = Q at *
  have h3 : u + 2 * R + m * (2 * Q) = A := by rw [hA, ← h1]; grind
  constructor
  · intro h
    exact (Nat.div_mod_unique _hm).2 ⟨h3, h⟩
  · intro h
    refine (Nat.div_mod_unique _hm).2 ⟨?_, by omega⟩
    rw [Nat.mul_add]; omega
theorem divide_loop (a : List Bool) (m : Nat) (hm : 0 < m) (ha : a.length ≤ 10000) (hb : (bof m).length ≤ 10000) (i : Nat) : i ≤ a.length → ∀ q : List Bool, q.length + i = a.length → nv q = nv (a.drop i) / m →
    Ev (fun k => ballcockref01_Divide.l0 k a (bof m) q (bof (nv (a.drop i) % m)) ((i : Int) - 1)) (bof (nv a / m), bof (nv a % m)) := by
  induction i with
  | zero =>
    intro _ q hq hn
    refine Ev.step (fun k => by rw [ballcockref01_Divide.l0]) ?_
    refine Ev_neg (by omega) (Ev_bndc (trim_ev q (by omega)) ?_)
    rw [hn]; simp
  | succ i ih =>
    intro hi q hq hn
    have e0 : ((i + 1 : Nat) : Int) - 1 = (i : Int) := by omega
    have hA := nv_drop a i (by omega)
    have hu := Bool.toNat_le (a.getD i false)
    obtain ⟨d1, d2⟩ := div_step hA hu hm
    have hR := Nat.mod_lt (nv (a.drop (i + 1))) hm
    have hlen := Nat.le_trans (length_bof_le (Nat.lt_trans hR (lt_of_length (Nat.le_refl _)))) hb
    refine Ev.step (fun k => by rw [ballcockref01_Divide.l0, e0, rd_nat, wpred i (by omega)]) ?_
    refine Ev_pos (by omega) (Ev_pos (by omega) (Ev_pos (by omega) (Ev_bnd rfl (Ev_pos (by simp; omega) ?_))))
    have ht := trim_ev ([a.getD i false] ++ bof (nv (a.drop (i + 1)) % m)) (by simp; omega)
    have e1 : nv ([a.getD i false] ++ bof (nv (a.drop (i + 1)) % m)) = (a.getD i false).toNat + 2 * (nv (a.drop (i + 1)) % m) := by simp only [List.singleton_append, nv, nv_bof]
    have hl2 := bof_len_nv ([a.getD i false] ++ bof (nv (a.drop (i + 1)) % m))
    rw [e1] at ht hl2
    have hl3 : (bof ((a.getD i false).toNat + 2 * (nv (a.drop (i + 1)) % m))).length ≤ 10001 := by simp at hl2 ⊢; omega
    refine Ev.bind ht (Ev.bind (less_ev _ m (by omega)) ?_)
    by_cases hlt : (a.getD i false).toNat + 2 * (nv (a.drop (i + 1)) % m) < m
    · obtain ⟨q1, q2⟩ := d1 hlt
      rw [decide_eq_true hlt]
      refine Ev_pos rfl (Ev_bnd rfl (Ev_pos (by simp; omega) ?_))
      have := ih (by omega) ([!true] ++ q) (by simp; omega) (by simp [nv, hn, q1])
      rw [q2] at this
      exact this
    · obtain ⟨q1, q2⟩ := d2 hlt
      rw [decide_eq_false hlt]
      refine Ev_neg (by simp) ?_
      have hs := sub_ev (bof ((a.getD i false).toNat + 2 * (nv (a.drop (i + 1)) % m))) (bof m) (by omega) (by rw [nv_bof, nv_bof]; omega)
      rw [nv_bof, nv_bof] at hs
      refine Ev.bind hs (Ev_bnd rfl (Ev_pos (by simp; omega) ?_))
      have := ih (by omega) ([!false] ++ q) (by simp; omega) (by simp [nv, hn, q1]; omega)
      rw [q2] at this
      exact this
theorem divide_ev (a : List Bool) (m : Nat) (hm : 0 < m) (ha : a.length ≤ 10000) (hb : (bof m).length ≤ 10000) : Ev (fun k => ballcockref01_Divide.f k a (bof m)) (bof (nv a / m), bof (nv a % m)) := by
  unfold ballcockref01_Divide.f
  have h0 : (bof m).length ≠ 0 := by
    intro h; have := bof_eq_nil.1 (List.length_eq_zero_iff.1 h); omega
  refine Ev_neg (by omega) ?_
  rw [wpred _ (by omega)]
  have := divide_loop a m hm ha hb a.length (Nat.le_refl _) [] (by simp) (by simp [nv])
  rw [List.drop_length] at this
  simp only [nv, Nat.zero_mod, bof_zero] at this
  exact this
end Go.Proofs.YtijhnmbegceonaaDoor.PRef
namespace Go.Proofs.YtijhnmbegceonaaDoor.PRef
open Go Go.RowKit Go.Proofs.YtijhnmbegceonaaDoorW.PrintWords Go.Proofs.YtijhnmbegceonaaDoorW.PrintLast Go.Proofs.YtijhnmbegceonaaDoorW.PrintMore BallBits
def Sz (n : Nat) : Prop := (bof n).length ≤ 2000
theorem len_le (L : Nat) {m n : Nat} (h : (bof n).length ≤ L) (hm : m ≤ n) : (bof m).length ≤ L := length_bof_le (Nat.lt_of_le_of_lt hm (lt_of_length h))
theorem Sz.le {m n : Nat} (h : Sz n) (hm : m ≤ n) : Sz m := len_le 2000 h hm
theorem common_ev : ∀ (b a : Nat), Sz a → Sz b → Ev (fun k => ballcockref01_Common.f k (bof a) (bof b)) (bof (Nat.gcd a b)) := by
  intro b
  induction b using Nat.strongRecOn with
  | _ b ih =>
    intro a ha hb
    unfold ballcockref01_Common.f
    refine Ev.step (fun k => by rw [ballcockref01_Common.l0]) ?_
    by_cases h : b = 0
    · subst h
      rw [Nat.gcd_zero_right]
      exact Ev_neg (by rw [bof_zero]; simp) (Ev.now _)
    · have hp : 0 < b := by omega
      have hl : (bof b).length ≠ 0 := fun h0 => h (bof_eq_nil.1 (List.length_eq_zero_iff.1 h0))
      refine Ev_pos (by omega) ?_
      have hd := divide_ev (bof a) b hp (by unfold Sz at ha; omega) (by unfold Sz at hb; omega)
      rw [nv_bof] at hd
      refine Ev.bind hd ?_
      have hlt := Nat.mod_lt a hp
      have := ih (a % b) hlt b hb (Sz.le hb (Nat.le_of_lt hlt))
      unfold ballcockref01_Common.f at this
      rw [show Nat.gcd a b = Nat.gcd b (a % b) by rw [Nat.gcd_comm a b, Nat.gcd_rec, Nat.gcd_comm]]
      exact this
end Go.Proofs.YtijhnmbegceonaaDoor.PRef
