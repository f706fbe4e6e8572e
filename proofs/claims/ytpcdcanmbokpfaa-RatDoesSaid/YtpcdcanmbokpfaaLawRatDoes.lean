/-
Of any two fractions, also ones that are not right, rat.Add, rat.Sub, rat.Mul and rat.Div answer as the document's Do: the law RatDoes answers true. No condition.
-/
import Derived.Test.YtpcdcanmbokpfaaRows
import Derived.Test.YtpcdcanmbokpfaaMRefRatDoesT
import Derived.Test.YtpcdcanmbokpfaaMRefRatDoesT
import Derived.WalkKit
import Derived.ProofKit
import Derived.OpenShut
import Derived.ShutString
import Derived.ChangeOld
import Derived.Below
import Derived.SizedLaws
import Derived.Lib.SmallJoins
namespace Go.Proofs.Ytpcdcanmbokpfaa.ratDoes
open Go.ChangeShapes Go.WideShapes Go.ChangeAt Go.RowKit Go.Joins
set_option linter.unusedVariables false
theorem own : ownKnob Try.prog.godebug = none := by kernel_rfl
theorem cellsR : Try.prog.cellsOf 23 = 2 := by kernel_rfl
set_option maxRecDepth 100000 in
theorem lifted (os : Os) (started : os.Started) (H : Type) (enc : TypeId × Value → H) :
    ReturnsInHanded {} Try.checked os 4 .any (Rows.ratDoesSpec.pre6 enc Try.prog Try.f4 Rows.ratDoesRow.domain false) (Rows.ratDoesSpec.post enc Try.prog Try.f4 false true false false) := by
  refine returnsInHanded_of_change_sized (C := Try.checked) own started (by kernel_rfl) Try.func4
    (ChangeSpec.witness6 (enc := enc) (C := Try.checked) false ⟨#[], #[.agg #[.int .i64 0, .int .i64 0], .agg #[.int .i64 0, .int .i64 0]], []⟩ 8 (by kernel_rfl) (by kernel_rfl) (by kernel_rfl) (by kernel_rfl)) ?_
  intro W base args ds gs before hval0 hW hcnd hsz0 _
  have hval : ∀ (j : Nat) t v, Try.f4.params[j]? = some t → args[j]? = some v → Value.okWide Try.prog W .any base t v := hval0
  have hW' := hW
  obtain ⟨p, q, hA0, hV, rfl, hfz, hnd⟩ := hW
  have hA : DataW.TrodAll enc Try.prog W 0 (fun _ => true) true Try.f4.params.toList args.toList ds p := hA0
  rw [Try.params4] at hA hval
  obtain ⟨v0, vs0, d0, ds0, p0, q0, hargs, rfl, rfl, h0, r0⟩ := trodAll_cons hA
  obtain ⟨v1, vs1, d1, ds1, p1, q1, rfl, rfl, rfl, h1, r1⟩ := trodAll_cons r0
  obtain ⟨rfl, rfl, rfl⟩ := trodAll_nil r1
  obtain rfl : args = #[v0, v1] := by cases args; simp_all
  obtain ⟨rfl, rfl⟩ := trodVars_none hV
  obtain ⟨x0, y0, m0, n0, f0, rfl, rfl, rfl, u0, t0⟩ := open_agg2 Try.underlying23 (by kernel_rfl) cellsR (hval 0 23 v0 rfl rfl) h0
  obtain ⟨a0_0, e0_0, rfl, w0_0⟩ := DataW.trod_int Try.underlying2 u0
  obtain ⟨a0_1, e0_1, rfl, w0_1⟩ := DataW.trod_int Try.underlying2 t0
  simp at e0_0 e0_1
  subst e0_0 e0_1
  obtain ⟨x1, y1, m1, n1, f1, rfl, rfl, rfl, u1, t1⟩ := open_agg2 Try.underlying23 (by kernel_rfl) cellsR (hval 1 23 v1 rfl rfl) h1
  obtain ⟨a1_0, e1_0, rfl, w1_0⟩ := DataW.trod_int Try.underlying2 u1
  obtain ⟨a1_1, e1_1, rfl, w1_1⟩ := DataW.trod_int Try.underlying2 t1
  simp at e1_0 e1_1
  subst e1_0 e1_1
  clear hA0 hval0 hsz0
  simp only [List.append_nil] at hW'
  have hk := PRef.pure_holds a0_0 a0_1 a1_0 a1_1 w0_0 w0_1 w1_0 w1_1
  refine (PRef.ballcocklaw01_RatDoes.calls a0_0 a0_1 a1_0 a1_1 true W hk).mono fun e W' ⟨he, bel⟩ => ?_
  subst he
  exact ⟨_, rfl, _, _, _, [], [], [], hW', trodAll_mk1 (shut_bool Try.underlying4 _), (trodAll_cons_mk (shut_agg2 (y0 := (.lit (.int .i64 a0_0), [])) (y1 := (.lit (.int .i64 a0_1), [])) Try.underlying23 (by kernel_rfl) cellsR ⟨1, by simp [DataW.trod, Try.underlying2, w0_0]⟩ ⟨1, by simp [DataW.trod, Try.underlying2, w0_1]⟩) (trodAll_cons_mk (shut_agg2 (y0 := (.lit (.int .i64 a1_0), [])) (y1 := (.lit (.int .i64 a1_1), [])) Try.underlying23 (by kernel_rfl) cellsR ⟨1, by simp [DataW.trod, Try.underlying2, w1_0]⟩ ⟨1, by simp [DataW.trod, Try.underlying2, w1_1]⟩) trodAll_mk0)), rfl, bel.frame _, fun h => by cases h⟩
theorem over : Rows.ratDoesRow.holds Try.pinned (OpenSpec.ofChange Rows.ratDoesSpec) :=
  OpenClaim.holds_of_wide 4 Try.f4 rfl rfl rfl rfl rfl rfl rfl ⟨rfl, rfl, rfl, rfl, rfl⟩ rfl rfl rfl rfl rfl (by kernel_rfl) Try.func4 (by kernel_rfl)
    (of_decide_eq_true (by kernel_rfl)) (by unfold Func.isWrapper; first | (rw [if_pos (by decide +kernel)]; kernel_rfl) | (rw [if_neg (by decide +kernel)]; exact ⟨rfl, rfl⟩))
    (fun os started H enc _ => lifted os started H enc)
end Go.Proofs.Ytpcdcanmbokpfaa.ratDoes
namespace Go.Proofs.Ytpcdcanmbokpfaa
/-- The row, under a short name, for the claim. -/
theorem ratDoes_holds : Rows.RatDoesSaid := ratDoes.over
#print axioms ratDoes_holds
end Go.Proofs.Ytpcdcanmbokpfaa
