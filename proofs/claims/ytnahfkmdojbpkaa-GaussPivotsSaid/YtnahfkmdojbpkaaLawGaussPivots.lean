import Derived.Test.YtnahfkmdojbpkaaRows
import Derived.Test.YtnahfkmdojbpkaaMO
import Derived.Test.YtnahfkmdojbpkaaMT3
import Derived.Test.YtnahfkmdojbpkaaMPB
import Derived.WalkKit
import Derived.ProofKit
import Derived.OpenShut
import Derived.ShutString
import Derived.ChangeOld
import Derived.Below
import Derived.Carry
import Derived.SizedLaws
import Derived.Lib.SmallJoins
namespace Go.Proofs.Ytnahfkmdojbpkaa.gaussPivots
open Go.ChangeShapes Go.WideShapes Go.ChangeAt Go.RowKit Go.Joins Go.Eng Go.E
set_option linter.all false
theorem own : ownKnob Try.prog.godebug = none := by kernel_rfl
theorem laidOut : laidOutB Try.prog = true := by kernel_rfl
set_option maxRecDepth 100000 in
theorem lifted (os : Os) (started : os.Started) (H : Type) (enc : TypeId × Value → H) :
    ReturnsInHanded {} Try.checked os 6 .any (Rows.gaussPivotsSpec.pre6 enc Try.prog Try.f6 Rows.gaussPivotsRow.domain false) (Rows.gaussPivotsSpec.post enc Try.prog Try.f6 false true false false) := by
  refine returnsInHanded_of_change_sized (C := Try.checked) own started (by kernel_rfl) Try.func6
    (ChangeSpec.witness6 (enc := enc) (C := Try.checked) false ⟨#[], #[.slice none 0 0], []⟩ 8 (by kernel_rfl) (by kernel_rfl) (by kernel_rfl) (by kernel_rfl)) ?_
  intro W base args ds gs before hval0 hW hcnd hsz0 _
  have hsz : (DataW.weightsEach Try.prog (Try.f6.params.toList ++ Rows.gaussPivotsSpec.plain.varTypes Try.prog) (ds ++ gs)).all (· ≤ reachBytes) = true := hsz0
  have hval : ∀ (j : Nat) t v, Try.f6.params[j]? = some t → args[j]? = some v → Value.okWide Try.prog W .any base t v := hval0
  have hW' := hW
  obtain ⟨p, q, hA0, hV, rfl, hfz, hnd⟩ := hW
  have hA : DataW.TrodAll enc Try.prog W 0 (fun _ => true) true Try.f6.params.toList args.toList ds p := hA0
  rw [Try.params6] at hA hval hsz
  obtain ⟨v0, vs0, d0, ds0, p0, q0, hargs, rfl, rfl, h0, r0⟩ := trodAll_cons hA
  obtain ⟨rfl, rfl, rfl⟩ := trodAll_nil r0
  obtain rfl : args = #[v0] := by cases args; simp_all
  obtain ⟨rfl, rfl⟩ := trodVars_none hV
  simp only [List.cons_append, List.nil_append, Array.toList, List.append_nil] at hsz
  unfold DataW.weightsEach at hsz
  rw [List.all_append, Bool.and_eq_true] at hsz
  obtain ⟨s0, hsz⟩ := hsz
  have k0 := h0
  have lt0 : ∀ x ∈ p0, x.block < W.heap.size := by obtain ⟨m, hm⟩ := k0; exact DataW.trod_lt m _ _ _ hm
  obtain ⟨z0, z1, z2, rfl⟩ := okWide_slice Try.underlying22 (hval 0 22 v0 rfl rfl)
  obtain ⟨a0, w0, o0⟩ := opens_arg1 (opens_slice (t := 22) (e := 39) op_TTerm_39 (fun _ => by rw [show Try.prog.cellsOf 39 = 3 from by kernel_rfl]; rfl) (by rw [show Try.prog.cellsOf 39 = 3 from by kernel_rfl]; decide) (k := 40) (by kernel_rfl) Try.underlying22) rfl h0 s0
  clear hA0 hval0 hsz0 hsz
  refine (law_calls Try.func6 rfl (by kernel_rfl) (m_law03_GaussPivots_ev a0 true (P_GaussPivots a0 o0) 0 empty) (fun M hm G R d => by unfold VRs; exact ⟨w0 M hm G R d, by unfold VRs; trivial⟩)).mono fun e W' ⟨he, bel⟩ => ?_
  subst he
  exact ⟨_, rfl, _, _, _, [], _, [], hW', trodAll_mk1 (shut_bool Try.underlying4 _), (trodAll_cons_mk (Below.trod laidOut (by kernel_rfl) (of_decide_eq_true (by kernel_rfl)) k0 bel lt0) trodAll_mk0), rfl, bel.frame _, fun h => by cases h⟩
theorem over : Rows.gaussPivotsRow.holds Try.pinned (OpenSpec.ofChange Rows.gaussPivotsSpec) :=
  OpenClaim.holds_of_wide 6 Try.f6 rfl rfl rfl rfl rfl rfl rfl ⟨rfl, rfl, rfl, rfl, rfl⟩ rfl rfl rfl rfl rfl (by kernel_rfl) Try.func6 (by kernel_rfl)
    (of_decide_eq_true (by kernel_rfl)) (by unfold Func.isWrapper; first | (rw [if_pos (by decide +kernel)]; kernel_rfl) | (rw [if_neg (by decide +kernel)]; exact ⟨rfl, rfl⟩))
    (fun os started H enc _ => lifted os started H enc)
end Go.Proofs.Ytnahfkmdojbpkaa.gaussPivots
namespace Go.Proofs.Ytnahfkmdojbpkaa
/-- The row, under a short name, for the claim. -/
theorem gaussPivots_holds : Rows.GaussPivotsSaid := gaussPivots.over
#print axioms gaussPivots_holds
end Go.Proofs.Ytnahfkmdojbpkaa
