/-
Halves of any permission, over all permissions by value.
-/
import Derived.Test.YtpcdcanmbokpfaaRows
import Derived.Test.YtpcdcanmbokpfaaPPHx16
import Derived.Test.YtpcdcanmbokpfaaMPHPermHalvesPT
import Derived.WalkKit
import Derived.ProofKit
import Derived.OpenShut
import Derived.ShutString
import Derived.ChangeOld
import Derived.Below
import Derived.SizedLaws
import Derived.Lib.SmallJoins
namespace Go.Proofs.Ytpcdcanmbokpfaa.permHalves
open Go.ChangeShapes Go.WideShapes Go.ChangeAt Go.RowKit Go.Joins
set_option linter.unusedVariables false
theorem own : ownKnob Try.prog.godebug = none := by kernel_rfl
theorem cR : Try.prog.cellsOf 23 = 2 := by kernel_rfl
theorem cP : Try.prog.cellsOf 40 = 5 := by kernel_rfl
theorem cI : Try.prog.cellsOf 3 = 1 := by kernel_rfl
theorem cL : Try.prog.cellsOf 2 = 1 := by kernel_rfl
theorem cU : Try.prog.cellsOf 38 = 1 := by kernel_rfl
theorem array5 {α : Type} {cs : Array α} (h : cs.size = 5) : ∃ c0 c1 c2 c3 c4, cs = #[c0, c1, c2, c3, c4] := by
  obtain ⟨l⟩ := cs
  match l, h with
  | [c0, c1, c2, c3, c4], _ => exact ⟨c0, c1, c2, c3, c4, rfl⟩
section
variable {H : Type} {enc : TypeId × Value → H} {w : World} {base : Nat} {spare : Nat → Bool} {held : Bool}
theorem openP {r : Reach} {b0 : Nat} {v : Value} {d : DataW H} {p : List MemPlace} (hv : Value.okWide Try.prog w r b0 40 v) (h : DataW.Trod enc Try.prog w base spare held 40 v d p) :
    ∃ a0 a1 a2 a3 a4, v = .agg #[.int .i64 a0, .int .i64 a1, .int .i64 a2, .int .i64 a3, .int .u32 a4] ∧ d = .agg [.lit (.int .i64 a0), .agg [.lit (.int .i64 a1), .lit (.int .i64 a2)], .lit (.int .i64 a3), .lit (.int .u32 a4)] ∧ p = [] ∧ (Lit.int .i64 a0).wf = true ∧ (Lit.int .i64 a1).wf = true ∧ (Lit.int .i64 a2).wf = true ∧ (Lit.int .i64 a3).wf = true ∧ (Lit.int .u32 a4).wf = true := by
  obtain ⟨cs, rfl, hsz⟩ := okWide_struct Try.underlying40 hv
  obtain ⟨c0, c1, c2, c3, c4, rfl⟩ := array5 (hsz.trans cP)
  obtain ⟨fuel, hf⟩ := h
  obtain ⟨y0, y1, y2, y3, n, hx, _, h0, h1, h2, h3⟩ := trod_struct4 Try.underlying40 hf
  have k0 : DataW.trod enc Try.prog w base spare held n 3 [c0] = some y0 := by simpa [Value.cells, cI] using h0
  have k1 : DataW.trod enc Try.prog w base spare held n 23 [c1, c2] = some y1 := by simpa [Value.cells, cR] using h1
  have k2 : DataW.trod enc Try.prog w base spare held n 3 [c3] = some y2 := by simpa [Value.cells, cI] using h2
  have k3 : DataW.trod enc Try.prog w base spare held n 38 [c4] = some y3 := by simpa [Value.cells, cU] using h3
  clear h0 h1 h2 h3 hf hv
  obtain ⟨z0, z1, m, hz, _, g0, g1⟩ := trod_struct2 Try.underlying23 k1
  have j0 : DataW.trod enc Try.prog w base spare held m 2 [c1] = some z0 := by simpa [cL] using g0
  have j1 : DataW.trod enc Try.prog w base spare held m 2 [c2] = some z1 := by simpa [cL] using g1
  clear g0 g1 k1
  obtain ⟨a0, e0, rfl, w0⟩ := DataW.trod_int Try.underlying3 k0
  obtain ⟨a1, e1, rfl, w1⟩ := DataW.trod_int Try.underlying2 j0
  obtain ⟨a2, e2, rfl, w2⟩ := DataW.trod_int Try.underlying2 j1
  obtain ⟨a3, e3, rfl, w3⟩ := DataW.trod_int Try.underlying3 k2
  obtain ⟨a4, e4, rfl, w4⟩ := DataW.trod_int Try.underlying38 k3
  simp at e0 e1 e2 e3 e4
  subst e0 e1 e2 e3 e4
  subst hz
  simp only [Prod.mk.injEq] at hx
  exact ⟨a0, a1, a2, a3, a4, rfl, hx.1, by simpa using hx.2, w0, w1, w2, w3, w4⟩
theorem shutP {a0 a1 a2 a3 a4 : Int} (hw : (Lit.int .i64 a0).wf = true ∧ (Lit.int .i64 a1).wf = true ∧ (Lit.int .i64 a2).wf = true ∧ (Lit.int .i64 a3).wf = true ∧ (Lit.int .u32 a4).wf = true) : DataW.Trod enc Try.prog w base spare held 40 (.agg #[.int .i64 a0, .int .i64 a1, .int .i64 a2, .int .i64 a3, .int .u32 a4]) (.agg [.lit (.int .i64 a0), .agg [.lit (.int .i64 a1), .lit (.int .i64 a2)], .lit (.int .i64 a3), .lit (.int .u32 a4)]) [] := by
  obtain ⟨w0, w1, w2, w3, w4⟩ := hw
  have r := trod_struct2_mk (enc := enc) (w := w) (base := base) (spare := spare) (held := held) (n := 1) (cs := [.int .i64 a1, .int .i64 a2]) (y0 := (.lit (.int .i64 a1), [])) (y1 := (.lit (.int .i64 a2), [])) Try.underlying23 (by simp [cR]) (by simp [cL, DataW.trod, Try.underlying2, w1]) (by simp [cL, DataW.trod, Try.underlying2, w2])
  have t := trod_struct4_mk (enc := enc) (w := w) (base := base) (spare := spare) (held := held) (n := 2) (cs := [.int .i64 a0, .int .i64 a1, .int .i64 a2, .int .i64 a3, .int .u32 a4]) (y0 := (.lit (.int .i64 a0), [])) (y1 := (.agg [.lit (.int .i64 a1), .lit (.int .i64 a2)], [])) (y2 := (.lit (.int .i64 a3), [])) (y3 := (.lit (.int .u32 a4), [])) Try.underlying40 (by simp [cP]) (by simp [cI, DataW.trod, Try.underlying3, w0]) (by simpa [cR] using r) (by simp [cI, DataW.trod, Try.underlying3, w3]) (by simp [cU, DataW.trod, Try.underlying38, w4])
  exact ⟨_, by simpa [Value.cells] using t⟩
end
set_option maxRecDepth 100000 in
theorem lifted (os : Os) (started : os.Started) (H : Type) (enc : TypeId × Value → H) :
    ReturnsInHanded {} Try.checked os 10 .any (Rows.permHalvesSpec.pre6 enc Try.prog Try.f10 Rows.permHalvesRow.domain false) (Rows.permHalvesSpec.post enc Try.prog Try.f10 false true false false) := by
  refine returnsInHanded_of_change_sized (C := Try.checked) own started (by kernel_rfl) Try.func10
    (ChangeSpec.witness6 (enc := enc) (C := Try.checked) false ⟨#[], #[.agg #[.int .i64 0, .int .i64 0, .int .i64 0, .int .i64 0, .int .u32 0], .int .u8 0, .int .u8 0], []⟩ 8 (by kernel_rfl) (by kernel_rfl) (by kernel_rfl) (by kernel_rfl)) ?_
  intro W base args ds gs before hval0 hW hcnd hsz0 _
  have hval : ∀ (j : Nat) t v, Try.f10.params[j]? = some t → args[j]? = some v → Value.okWide Try.prog W .any base t v := hval0
  have hW' := hW
  obtain ⟨p, q, hA0, hV, rfl, hfz, hnd⟩ := hW
  have hA : DataW.TrodAll enc Try.prog W 0 (fun _ => true) true Try.f10.params.toList args.toList ds p := hA0
  rw [Try.params10] at hA hval
  obtain ⟨v0, vs0, d0, ds0, p0, q0, hargs, rfl, rfl, h0, r0⟩ := trodAll_cons hA
  obtain ⟨v1, vs1, d1, ds1, p1, q1, rfl, rfl, rfl, h1, r1⟩ := trodAll_cons r0
  obtain ⟨v2, vs2, d2, ds2, p2, q2, rfl, rfl, rfl, h2, r2⟩ := trodAll_cons r1
  obtain ⟨rfl, rfl, rfl⟩ := trodAll_nil r2
  obtain rfl : args = #[v0, v1, v2] := by cases args; simp_all
  obtain ⟨rfl, rfl⟩ := trodVars_none hV
  obtain ⟨a0_0, a0_1, a0_2, a0_3, a0_4, rfl, rfl, rfl, w0_0, w0_1, w0_2, w0_3, w0_4⟩ := openP (hval 0 40 v0 rfl rfl) h0
  obtain ⟨a1, rfl, rfl, rfl, w1⟩ := open_int Try.underlying5 (hval 1 5 v1 rfl rfl) h1
  obtain ⟨a2, rfl, rfl, rfl, w2⟩ := open_int Try.underlying5 (hval 2 5 v2 rfl rfl) h2
  clear hA0 hval0 hsz0
  simp only [List.append_nil] at hW'
  obtain ⟨k, hk⟩ := PPH.Halves.pure_holds a0_0 a0_1 a0_2 a0_3 a0_4 a1 a2 w0_0 w0_1 w0_2 w0_3 w0_4 w1 w2
  refine (PPH.ballcocklaw15_PermHalves.calls k a0_0 a0_1 a0_2 a0_3 a0_4 a1 a2 true W rfl hk).mono fun e W' ⟨he, bel⟩ => ?_
  subst he
  exact ⟨_, rfl, _, _, _, [], [], [], hW', trodAll_mk1 (shut_bool Try.underlying4 _), (trodAll_cons_mk (shutP ⟨w0_0, w0_1, w0_2, w0_3, w0_4⟩) (trodAll_cons_mk (shut_int Try.underlying5 w1) (trodAll_cons_mk (shut_int Try.underlying5 w2) trodAll_mk0))), rfl, bel.frame _, fun h => by cases h⟩
theorem over : Rows.permHalvesRow.holds Try.pinned (OpenSpec.ofChange Rows.permHalvesSpec) :=
  OpenClaim.holds_of_wide 10 Try.f10 rfl rfl rfl rfl rfl rfl rfl ⟨rfl, rfl, rfl, rfl, rfl⟩ rfl rfl rfl rfl rfl (by kernel_rfl) Try.func10 (by kernel_rfl)
    (of_decide_eq_true (by kernel_rfl)) (by unfold Func.isWrapper; first | (rw [if_pos (by decide +kernel)]; kernel_rfl) | (rw [if_neg (by decide +kernel)]; exact ⟨rfl, rfl⟩))
    (fun os started H enc _ => lifted os started H enc)
end Go.Proofs.Ytpcdcanmbokpfaa.permHalves
namespace Go.Proofs.Ytpcdcanmbokpfaa
/-- The row, under a short name, for the claim. -/
theorem permHalves_holds : Rows.PermHalvesSaid := permHalves.over
#print axioms permHalves_holds
end Go.Proofs.Ytpcdcanmbokpfaa
