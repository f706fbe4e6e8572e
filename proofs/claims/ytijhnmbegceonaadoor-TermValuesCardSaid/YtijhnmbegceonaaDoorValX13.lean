-- Words and walks, cut to what this law uses (wip/pack.py).
import Derived.Test.YtijhnmbegceonaaDoorValX6
import Derived.ChangeArms
import Derived.ChangeSame
import Derived.Lib.SmallJoins
import Derived.ChangeOld
import Derived.Below
namespace Go.Proofs.YtijhnmbegceonaaDoor.Opn
open Go Go.RowKit Go.Proofs.YtijhnmbegceonaaDoorW.PrintWords Go.ChangeShapes Go.WideShapes
set_option linter.unusedVariables false
variable {α β : Type} {P : Program}
def zdL (P : Program) (t : TypeId) (d : Kd α) (ok : α → Prop) : Prop :=
 ∀ (H : Type) (enc : TypeId × Value → H) (W : World) (base : Nat) (spare : Nat → Bool) (held : Bool) (fuel : Nat) (cs : List Value) (x : DataW H × List MemPlace), DataW.trod enc P W base spare held fuel t cs = some x → ∃ a, d.K W a cs ∧ ok a
theorem opens_int {t : TypeId} {k : IntKind} (ht : P.underlying t = some (.int k)) : zdL P t (Kd.int k) (fun n => (Lit.int k n).wf = true) := by
 intro H enc W base spare held fuel cs x h
 obtain ⟨n, rfl, _, hw⟩ := DataW.trod_int ht h
 exact ⟨n, rfl, hw⟩
theorem add_add (a : Addr) (x y : Nat) : (a.add x).add y = a.add (x + y) := by
 unfold Addr.add
 by_cases hx : x = 0
 ·subst hx; simp
 ·by_cases hy : y = 0
  ·subst hy; simp
  ·rw [if_neg hx, if_neg hy, if_neg (by omega)]
   simp only [Addr.mk.injEq, and_true, true_and]
   omega
theorem zgf {W : World} {base : Nat} {a : Addr} {n : Nat} {c : List Value} (h : W.cells? base a n = some c) : c.length = n ∧ ∀ (j : Nat) (u : Value), c[j]? = some u → W.cell? (a.add j) = some u := by
 unfold World.cells? at h
 split at h
 ·refine ⟨by simpa using mapM_some_length h, fun j u hj => ?_⟩
  have hl := mapM_some_length h
  have hjl : j < c.length := (List.getElem?_eq_some_iff.1 hj).1
  have := mapM_some_get h j j (by rw [List.getElem?_range]; rw [hl] at hjl; simpa using hjl)
  rw [this]; exact hj
 ·cases h
theorem rows {t : TypeId} {d : Kd α} {ok : α → Prop} (he : zdL P t d ok) (hsz : d.sz = P.cellsOf t) {H : Type} {enc : TypeId × Value → H} {W : World} {base : Nat} {spare : Nat → Bool} {held : Bool} {n : Nat} {a : Addr} {elems : List (DataW H × List MemPlace)} (m : Nat) (hm : m ≤ elems.length)
  (hel : ∀ i, i < elems.length → (W.cells? base (a.add (i * P.cellsOf t)) (P.cellsOf t)).bind (DataW.trod enc P W base spare held n t) = elems[i]?) :
  ∃ l : List α, l.length = m ∧ (∀ x ∈ l, ok x) ∧ ∀ (j : Nat) (p : α), l[j]? = some p → ∃ c : List Value, c.length = d.sz ∧ d.K W p c ∧ ∀ (i : Nat) (u : Value), c[i]? = some u → W.cell? (a.add (j * d.sz + i)) = some u := by
 induction m with
 | zero => exact ⟨[], rfl, by simp, by simp⟩
 | succ m ih =>
  obtain ⟨l, h1, h2, h3⟩ := ih (by omega)
  have hk := hel m (by omega)
  rw [List.getElem?_eq_getElem (by omega)] at hk
  obtain ⟨c, hc, ht⟩ := Option.bind_eq_some_iff.1 hk
  obtain ⟨x, hx, hok⟩ := he H enc W base spare held n c _ ht
  obtain ⟨c1, c2⟩ := zgf hc
  refine ⟨l ++ [x], by simp [h1], fun y hy => ?_, fun j p hj => ?_⟩
  ·rcases List.mem_append.1 hy with h | h
   ·exact h2 y h
   ·obtain rfl := List.mem_singleton.1 h; exact hok
  ·by_cases hjm : j < m
   ·rw [List.getElem?_append_left (by omega)] at hj
    exact h3 j p hj
   ·have hj2 : j = m := by have := (List.getElem?_eq_some_iff.1 hj).1; simp [h1] at this; omega
    subst hj2
    rw [List.getElem?_append_right (by omega), h1, Nat.sub_self] at hj
    obtain rfl := Option.some.inj hj
    refine ⟨c, by rw [c1, hsz], hx, fun i u hi => ?_⟩
    have := c2 i u hi
    rw [add_add, ← hsz] at this
    exact this
theorem zhq {t e : TypeId} {d : Kd α} {ok : α → Prop} (he : zdL P e d ok) (hsz : d.sz = P.cellsOf e) (ht : P.underlying t = some (.slice e)) : zdL P t (Kd.slice e d) (fun l => ∀ x ∈ l, ok x) := by
 intro H enc W base spare held fuel cs x h
 rcases DataW.trod_slice ht h with ⟨rfl, _⟩ | ⟨a, len, cap, elems, rest, n, _, rfl, _, hb, hl, hm, hlen, hel, _⟩
 ·exact ⟨[], ⟨none, 0, rfl, Nat.le_refl _, rfl, by simp, fun h => absurd h (by simp)⟩, by simp⟩
 ·subst hlen
  obtain ⟨l, h1, h2, h3⟩ := rows he hsz elems.length (Nat.le_refl _) hel
  exact ⟨l, ⟨some a, cap, by rw [h1], by rw [h1]; exact hl, rfl, by rw [h1]; unfold maxLen at hm; omega, fun _ => ⟨a, rfl, h3⟩⟩, h2⟩
theorem opens_pair {t : TypeId} {f0 f1 : Field} {d0 : Kd α} {d1 : Kd β} {ok0 : α → Prop} {ok1 : β → Prop} (h0 : zdL P f0.type d0 ok0) (h1 : zdL P f1.type d1 ok1) (ht : P.underlying t = some (.struct #[f0, f1]))
  (o0 : f0.offset = 0) (o1 : f1.offset = P.cellsOf f0.type) (hs : P.cellsOf t = P.cellsOf f0.type + P.cellsOf f1.type) : zdL P t (Kd.pair d0 d1) (fun x => ok0 x.1 ∧ ok1 x.2) := by
 intro H enc W base spare held fuel cs x h
 obtain ⟨y0, y1, n, _, hl, e0, e1⟩ := trod_struct2 ht h
 obtain ⟨a, ha, oa⟩ := h0 H enc W base spare held n _ _ e0
 obtain ⟨b, hb, ob⟩ := h1 H enc W base spare held n _ _ e1
 rw [o0, List.drop_zero] at ha
 rw [o1] at hb
 have e : (cs.drop (P.cellsOf f0.type)).take (P.cellsOf f1.type) = cs.drop (P.cellsOf f0.type) := List.take_of_length_le (by rw [List.length_drop]; omega)
 rw [e] at hb
 exact ⟨(a, b), ⟨_, _, (List.take_append_drop _ _).symm, ha, hb⟩, oa, ob⟩
theorem opens_iso {t : TypeId} {d : Kd α} {ok : α → Prop} (h : zdL P t d ok) (f : β → α) (g : α → β) (hg : ∀ x, f (g x) = x) : zdL P t (Kd.iso d f) (fun y => ok (f y)) := by
 intro H enc W base spare held fuel cs x hx
 obtain ⟨a, ha, oa⟩ := h H enc W base spare held fuel cs x hx
 exact ⟨g a, by show d.K W (f (g a)) cs; rw [hg]; exact ha, by show ok (f (g a)); rw [hg]; exact oa⟩
theorem opens_arg {t : TypeId} {d : Kd α} {ok : α → Prop} (h : zdL P t d ok) {fs : Array Field} (hs : P.underlying t = some (.struct fs)) {H : Type} {enc : TypeId × Value → H} {W : World} {base : Nat} {spare : Nat → Bool} {held : Bool} {r : Reach} {b0 : Nat} {v : Value} {dd : DataW H} {p : List MemPlace}
  (hv : Value.okWide P W r b0 t v) (hd : DataW.Trod enc P W base spare held t v dd p) : ∃ a cs, v = .agg cs ∧ d.K W a cs.toList ∧ ok a := by
 obtain ⟨cs, rfl, hsz⟩ := okWide_struct hs hv
 obtain ⟨fuel, hf⟩ := hd
 obtain ⟨a, ha, oa⟩ := h H enc W base spare held fuel _ _ hf
 exact ⟨a, cs, rfl, by simpa [Value.cells] using ha, oa⟩
end Go.Proofs.YtijhnmbegceonaaDoor.Opn
