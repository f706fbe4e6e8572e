import Derived.Test.YtfcehcjhilmlgaaRows
import Derived.WalkKit
import Derived.ProofKit
import Derived.OpenShut
import Derived.ShutString
import Derived.ChangeOld
import Derived.Below
import Derived.Carry
import Derived.SizedLaws
import Derived.Lib.SmallJoins
import Derived.Test.YtfcehcjhilmlgaaSc11
namespace Go.Proofs.Ytfcehcjhilmlgaa.lendOne
open Go.ChangeShapes Go.WideShapes Go.ChangeAt Go.RowKit Go.Joins Go.Eng Go.E
set_option linter.all false
theorem own : ownKnob Try.prog.godebug = none := by kernel_rfl
theorem laidOut : laidOutB Try.prog = true := by kernel_rfl
set_option maxRecDepth 100000 in
theorem lifted (os : Os) (started : os.Started) (H : Type) (enc : TypeId × Value → H) :
    ReturnsInHanded {} Try.checked os 7 .any (Rows.lendOneSpec.pre6 enc Try.prog Try.f7 Rows.lendOneRow.domain false) (Rows.lendOneSpec.post enc Try.prog Try.f7 false true false false) := by
  refine returnsInHanded_of_change_sized (C := Try.checked) own started (by kernel_rfl) Try.func7
    (ChangeSpec.witness6 (enc := enc) (C := Try.checked) false ⟨#[], #[.int .u32 0, .slice none 0 0], []⟩ 8 (by kernel_rfl) (by kernel_rfl) (by kernel_rfl) (by kernel_rfl)) ?_
  intro W base args ds gs before hval0 hW hcnd hsz0 _
  have hsz : (DataW.weightsEach Try.prog (Try.f7.params.toList ++ Rows.lendOneSpec.plain.varTypes Try.prog) (ds ++ gs)).all (· ≤ reachBytes) = true := hsz0
  have hval : ∀ (j : Nat) t v, Try.f7.params[j]? = some t → args[j]? = some v → Value.okWide Try.prog W .any base t v := hval0
  have hW' := hW
  obtain ⟨p, q, hA0, hV, rfl, hfz, hnd⟩ := hW
  have hA : DataW.TrodAll enc Try.prog W 0 (fun _ => true) true Try.f7.params.toList args.toList ds p := hA0
  rw [Try.params7] at hA hval hsz
  obtain ⟨v0, vs0, d0, ds0, p0, q0, hargs, rfl, rfl, h0, r0⟩ := trodAll_cons hA
  obtain ⟨v1, vs1, d1, ds1, p1, q1, rfl, rfl, rfl, h1, r1⟩ := trodAll_cons r0
  obtain ⟨rfl, rfl, rfl⟩ := trodAll_nil r1
  obtain rfl : args = #[v0, v1] := by cases args; simp_all
  obtain ⟨rfl, rfl⟩ := trodVars_none hV
  simp only [List.cons_append, List.nil_append, Array.toList, List.append_nil] at hsz
  unfold DataW.weightsEach at hsz
  rw [List.all_append, Bool.and_eq_true] at hsz
  obtain ⟨s0, hsz⟩ := hsz
  have k0 := h0
  have lt0 : ∀ x ∈ p0, x.block < W.heap.size := by obtain ⟨m, hm⟩ := k0; exact DataW.trod_lt m _ _ _ hm
  obtain ⟨fu0, hf0⟩ := h0
  obtain ⟨a0, w0, o0⟩ := opens_arg1 (opens_int Try.underlying44) (by obtain ⟨x, rfl⟩ := okWide_int Try.underlying44 (hval 0 44 v0 rfl rfl); rfl) ⟨fu0, hf0⟩ s0
  unfold DataW.weightsEach at hsz
  rw [List.all_append, Bool.and_eq_true] at hsz
  obtain ⟨s1, hsz⟩ := hsz
  have k1 := h1
  have lt1 : ∀ x ∈ p1, x.block < W.heap.size := by obtain ⟨m, hm⟩ := k1; exact DataW.trod_lt m _ _ _ hm
  obtain ⟨z0, z1, z2, rfl⟩ := okWide_slice Try.underlying45 (hval 1 45 v1 rfl rfl)
  obtain ⟨a1, w1, o1⟩ := opens_arg1 (opens_slice (t := 45) (e := 59) op_TContract_59 (fun _ => by rw [show Try.prog.cellsOf 59 = 9 from by kernel_rfl]; rfl) (by rw [show Try.prog.cellsOf 59 = 9 from by kernel_rfl]; decide) (k := 80) (by kernel_rfl) Try.underlying45) rfl h1 s1
  clear hA0 hval0 hsz0 hsz
  refine (law_calls Try.func7 rfl (by kernel_rfl) (m_law18_LendOne_ev a0 a1 true (P_LendOne a0 a1 o0 o1) 0 empty) (fun M hm G R d => by unfold VRs; exact ⟨w0 M hm G R d, by unfold VRs; exact ⟨w1 M hm G R d, by unfold VRs; trivial⟩⟩)).mono fun e W' ⟨he, bel⟩ => ?_
  subst he
  exact ⟨_, rfl, _, _, _, [], _, [], hW', trodAll_mk1 (shut_bool Try.underlying4 _), (trodAll_cons_mk (Below.trod laidOut (by kernel_rfl) (of_decide_eq_true (by kernel_rfl)) k0 bel lt0) (trodAll_cons_mk (Below.trod laidOut (by kernel_rfl) (of_decide_eq_true (by kernel_rfl)) k1 bel lt1) trodAll_mk0)), rfl, bel.frame _, fun h => by cases h⟩
theorem over : Rows.lendOneRow.holds Try.pinned (OpenSpec.ofChange Rows.lendOneSpec) :=
  OpenClaim.holds_of_wide 7 Try.f7 rfl rfl rfl rfl rfl rfl rfl ⟨rfl, rfl, rfl, rfl, rfl⟩ rfl rfl rfl rfl rfl (by kernel_rfl) Try.func7 (by kernel_rfl)
    (of_decide_eq_true (by kernel_rfl)) (by unfold Func.isWrapper; first | (rw [if_pos (by decide +kernel)]; kernel_rfl) | (rw [if_neg (by decide +kernel)]; exact ⟨rfl, rfl⟩))
    (fun os started H enc _ => lifted os started H enc)
end Go.Proofs.Ytfcehcjhilmlgaa.lendOne
namespace Go.Proofs.Ytfcehcjhilmlgaa
/-- The row, under a short name, for the claim. -/
theorem lendOne_holds : Rows.LendOneSaid := lendOne.over
#print axioms lendOne_holds
end Go.Proofs.Ytfcehcjhilmlgaa
