import Derived.Test.YtfcehcjhilmlgaaRows
import Derived.WalkKit
import Derived.ProofKit
import Derived.OpenShut
import Derived.ShutString
import Derived.ChangeOld
import Derived.Below
import Derived.Carry
import Derived.SizedLaws
import Derived.Lib.SmallJoins
import Derived.Test.YtfcehcjhilmlgaaScLawLendOne
namespace Go.Proofs.Ytfcehcjhilmlgaa.lendKeeps
open Go.ChangeShapes Go.WideShapes Go.ChangeAt Go.RowKit Go.Joins Go.Eng Go.E
set_option linter.all false
theorem own : ownKnob Try.prog.godebug = none := by kernel_rfl
theorem laidOut : laidOutB Try.prog = true := by kernel_rfl
set_option maxRecDepth 100000 in
theorem lifted (os : Os) (started : os.Started) (H : Type) (enc : TypeId × Value → H) :
    ReturnsInHanded {} Try.checked os 8 .any (Rows.lendKeepsSpec.pre6 enc Try.prog Try.f8 Rows.lendKeepsRow.domain false) (Rows.lendKeepsSpec.post enc Try.prog Try.f8 false true false false) := by
  refine returnsInHanded_of_change_sized (C := Try.checked) own started (by kernel_rfl) Try.func8
    (ChangeSpec.witness6 (enc := enc) (C := Try.checked) false ⟨#[], #[.agg #[.slice none 0 0, .slice none 0 0, .slice none 0 0], .slice none 0 0, .slice none 0 0], []⟩ 8 (by kernel_rfl) (by kernel_rfl) (by kernel_rfl) (by kernel_rfl)) ?_
  intro W base args ds gs before hval0 hW hcnd hsz0 _
  have hsz : (DataW.weightsEach Try.prog (Try.f8.params.toList ++ Rows.lendKeepsSpec.plain.varTypes Try.prog) (ds ++ gs)).all (· ≤ reachBytes) = true := hsz0
  have hval : ∀ (j : Nat) t v, Try.f8.params[j]? = some t → args[j]? = some v → Value.okWide Try.prog W .any base t v := hval0
  have hW' := hW
  obtain ⟨p, q, hA0, hV, rfl, hfz, hnd⟩ := hW
  have hA : DataW.TrodAll enc Try.prog W 0 (fun _ => true) true Try.f8.params.toList args.toList ds p := hA0
  rw [Try.params8] at hA hval hsz
  obtain ⟨v0, vs0, d0, ds0, p0, q0, hargs, rfl, rfl, h0, r0⟩ := trodAll_cons hA
  obtain ⟨v1, vs1, d1, ds1, p1, q1, rfl, rfl, rfl, h1, r1⟩ := trodAll_cons r0
  obtain ⟨v2, vs2, d2, ds2, p2, q2, rfl, rfl, rfl, h2, r2⟩ := trodAll_cons r1
  obtain ⟨rfl, rfl, rfl⟩ := trodAll_nil r2
  obtain rfl : args = #[v0, v1, v2] := by cases args; simp_all
  obtain ⟨rfl, rfl⟩ := trodVars_none hV
  simp only [List.cons_append, List.nil_append, Array.toList, List.append_nil] at hsz
  unfold DataW.weightsEach at hsz
  rw [List.all_append, Bool.and_eq_true] at hsz
  obtain ⟨s0, hsz⟩ := hsz
  have k0 := h0
  have lt0 : ∀ x ∈ p0, x.block < W.heap.size := by obtain ⟨m, hm⟩ := k0; exact DataW.trod_lt m _ _ _ hm
  obtain ⟨a0, w0, o0⟩ := opens_arg op_TBallcocklaw18_Case_62 Try.underlying62 (hval 0 62 v0 rfl rfl) h0 s0
  unfold DataW.weightsEach at hsz
  rw [List.all_append, Bool.and_eq_true] at hsz
  obtain ⟨s1, hsz⟩ := hsz
  have k1 := h1
  have lt1 : ∀ x ∈ p1, x.block < W.heap.size := by obtain ⟨m, hm⟩ := k1; exact DataW.trod_lt m _ _ _ hm
  obtain ⟨z0, z1, z2, rfl⟩ := okWide_slice Try.underlying46 (hval 1 46 v1 rfl rfl)
  obtain ⟨a1, w1, o1⟩ := opens_arg1 (opens_slice (t := 46) (e := 3) (opens_int Try.underlying3) (fun _ => by rw [show Try.prog.cellsOf 3 = 1 from by kernel_rfl]; rfl) (by rw [show Try.prog.cellsOf 3 = 1 from by kernel_rfl]; decide) (k := 8) (by kernel_rfl) Try.underlying46) rfl h1 s1
  unfold DataW.weightsEach at hsz
  rw [List.all_append, Bool.and_eq_true] at hsz
  obtain ⟨s2, hsz⟩ := hsz
  have k2 := h2
  have lt2 : ∀ x ∈ p2, x.block < W.heap.size := by obtain ⟨m, hm⟩ := k2; exact DataW.trod_lt m _ _ _ hm
  obtain ⟨z0, z1, z2, rfl⟩ := okWide_slice Try.underlying45 (hval 2 45 v2 rfl rfl)
  obtain ⟨a2, w2, o2⟩ := opens_arg1 (opens_slice (t := 45) (e := 59) op_TContract_59 (fun _ => by rw [show Try.prog.cellsOf 59 = 9 from by kernel_rfl]; rfl) (by rw [show Try.prog.cellsOf 59 = 9 from by kernel_rfl]; decide) (k := 80) (by kernel_rfl) Try.underlying45) rfl h2 s2
  clear hA0 hval0 hsz0 hsz
  refine (law_calls Try.func8 rfl (by kernel_rfl) (m_law18_LendKeeps_ev a0 a1 a2 true (P_LendKeeps a0 a1 a2 o0 o1 o2) 0 empty) (fun M hm G R d => by unfold VRs; exact ⟨w0 M hm G R d, by unfold VRs; exact ⟨w1 M hm G R d, by unfold VRs; exact ⟨w2 M hm G R d, by unfold VRs; trivial⟩⟩⟩)).mono fun e W' ⟨he, bel⟩ => ?_
  subst he
  exact ⟨_, rfl, _, _, _, [], _, [], hW', trodAll_mk1 (shut_bool Try.underlying4 _), (trodAll_cons_mk (Below.trod laidOut (by kernel_rfl) (of_decide_eq_true (by kernel_rfl)) k0 bel lt0) (trodAll_cons_mk (Below.trod laidOut (by kernel_rfl) (of_decide_eq_true (by kernel_rfl)) k1 bel lt1) (trodAll_cons_mk (Below.trod laidOut (by kernel_rfl) (of_decide_eq_true (by kernel_rfl)) k2 bel lt2) trodAll_mk0))), rfl, bel.frame _, fun h => by cases h⟩
theorem over : Rows.lendKeepsRow.holds Try.pinned (OpenSpec.ofChange Rows.lendKeepsSpec) :=
  OpenClaim.holds_of_wide 8 Try.f8 rfl rfl rfl rfl rfl rfl rfl ⟨rfl, rfl, rfl, rfl, rfl⟩ rfl rfl rfl rfl rfl (by kernel_rfl) Try.func8 (by kernel_rfl)
    (of_decide_eq_true (by kernel_rfl)) (by unfold Func.isWrapper; first | (rw [if_pos (by decide +kernel)]; kernel_rfl) | (rw [if_neg (by decide +kernel)]; exact ⟨rfl, rfl⟩))
    (fun os started H enc _ => lifted os started H enc)
end Go.Proofs.Ytfcehcjhilmlgaa.lendKeeps
namespace Go.Proofs.Ytfcehcjhilmlgaa
/-- The row, under a short name, for the claim. -/
theorem lendKeeps_holds : Rows.LendKeepsSaid := lendKeeps.over
#print axioms lendKeeps_holds
end Go.Proofs.Ytfcehcjhilmlgaa
