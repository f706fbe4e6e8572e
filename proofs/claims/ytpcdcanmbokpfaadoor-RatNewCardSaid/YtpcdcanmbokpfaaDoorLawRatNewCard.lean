/-
Of any two numbers and any fraction, rat.New, Right, Compare and Show answer as the document says: the law RatNew answers true. Condition: the row's own: three library tables read as they are laid.
-/
import Derived.Test.YtpcdcanmbokpfaaDoorRows
import Derived.Test.YtpcdcanmbokpfaaDoorMRefRatNewAT
import Derived.WalkKit
import Derived.ProofKit
import Derived.OpenShut
import Derived.ShutString
import Derived.ChangeOld
import Derived.Below
import Derived.SizedLaws
import Derived.Lib.SmallJoins
import Derived.LaidMore
import Derived.Lay
import Derived.MakeChecks
import Derived.Lib.LaidTab
import Derived.Stop.LaidErr
import Derived.Test.YtpcdcanmbokpfaaDoorCards
import Derived.Test.YtpcdcanmbokpfaaDoorTie
import Derived.SevenTiedAt
namespace Go.Proofs.YtpcdcanmbokpfaaDoor.ratNew
open Go.ChangeShapes Go.WideShapes Go.ChangeAt Go.RowKit Go.Joins
set_option linter.unusedVariables false
theorem own : ownKnob Tryd.prog.godebug = none := by kernel_rfl
theorem cellsR : Tryd.prog.cellsOf 23 = 2 := by kernel_rfl
theorem gT : Tryd.prog.globalNamed "internal/strconv.uint64pow10" = some 2 := by kernel_rfl
theorem gTType : (Tryd.prog.globals[2]?).map (·.type) = some 78 := by kernel_rfl
theorem in_wf {a : Int} (h : (Lit.int .i64 a).wf = true) : BallQ.In64 a := by
  simp [Lit.wf, IntKind.min, IntKind.max, IntKind.signed, IntKind.bits] at h
  unfold BallQ.In64; omega
set_option maxRecDepth 100000 in
theorem lifted (os : Os) (started : os.Started) (H : Type) (enc : TypeId × Value → H) :
    ReturnsInHanded {} Tryd.checked os 4 .any (fun w args => (Rows.ratNewSpec.pre enc Tryd.prog Tryd.f4 Rows.ratNewRow.domain false w args ∧ laidMetH Tryd.prog Rows.ratNewRow.laid w) ∧ sizedMet enc Tryd.prog Tryd.f4 (OpenSpec.ofChange Rows.ratNewSpec) false w args)
      (Rows.ratNewSpec.post enc Tryd.prog Tryd.f4 false true false false) := by
  refine returnsInHanded_of_change_and (C := Tryd.checked) (X := fun w _ => laidMetH Tryd.prog Rows.ratNewRow.laid w) (fun _ _ _ hh h => h.of_heap hh) own started (by kernel_rfl) Tryd.func4
    (ChangeSpec.witness_shaped (enc := enc) (C := Tryd.checked) (os := os) (X := fun w _ => laidMetH Tryd.prog Rows.ratNewRow.laid w) false (World.laidAll Tryd.prog os Rows.ratNewRow.laid) #[.int .i64 0, .int .i64 0, .agg #[.int .i64 0, .int .i64 0]] 8 (World.laidAll_os _ _ _)
      (World.shaped_of_ZipB (by kernel_rfl) (by kernel_rfl)) (by kernel_rfl) (by kernel_rfl) (by kernel_rfl)
      (by rw [MakeChecks.laidMetH_plain _ _ _ (by kernel_rfl)]; exact laidMet_laidAll _ (by kernel_rfl) (by kernel_rfl))) ?_
  intro W base args ds gs before hval0 hW hc _ hL0 _
  have hval : ∀ (j : Nat) t v, Tryd.f4.params[j]? = some t → args[j]? = some v → Value.okWide Tryd.prog W .any base t v := hval0
  have hW' := hW
  obtain ⟨p, q, hA0, hV, rfl, hfz, hnd⟩ := hW
  have hA : DataW.TrodAll enc Tryd.prog W 0 (fun _ => true) true Tryd.f4.params.toList args.toList ds p := hA0
  rw [Tryd.params4] at hA hval
  obtain ⟨v0, vs0, d0, ds0, p0, q0, hargs, rfl, rfl, h0, r0⟩ := trodAll_cons hA
  obtain ⟨v1, vs1, d1, ds1, p1, q1, rfl, rfl, rfl, h1, r1⟩ := trodAll_cons r0
  obtain ⟨v2, vs2, d2, ds2, p2, q2, rfl, rfl, rfl, h2, r2⟩ := trodAll_cons r1
  obtain ⟨rfl, rfl, rfl⟩ := trodAll_nil r2
  obtain rfl : args = #[v0, v1, v2] := by cases args; simp_all
  obtain ⟨rfl, rfl⟩ := trodVars_none hV
  obtain ⟨b0, rfl, rfl, rfl, z0⟩ := open_int Tryd.underlying2 (hval 0 2 v0 rfl rfl) h0
  obtain ⟨b1, rfl, rfl, rfl, z1⟩ := open_int Tryd.underlying2 (hval 1 2 v1 rfl rfl) h1
  obtain ⟨x0, y0, m0, n0, f0, rfl, rfl, rfl, u0, t0⟩ := open_agg2 Tryd.underlying23 (by kernel_rfl) cellsR (hval 2 23 v2 rfl rfl) h2
  obtain ⟨a0, e0, rfl, w0⟩ := DataW.trod_int Tryd.underlying2 u0
  obtain ⟨a1, e1, rfl, w1⟩ := DataW.trod_int Tryd.underlying2 t0
  simp at e0 e1
  subst e0 e1
  rw [MakeChecks.laidMetH_plain _ _ _ (by kernel_rfl)] at hL0
  have hL : laidMet Tryd.prog [("math/bits.deBruijn32tab", Rows.laid_math_bits_deBruijn32tab), ("math/bits.deBruijn64tab", Rows.laid_math_bits_deBruijn64tab), ("internal/strconv.uint64pow10", Lib.tabData .u64 Lib.pow10Tab)] W := hL0
  have htab : Lib.TabIs Tryd.prog W "internal/strconv.uint64pow10" .u64 Lib.pow10Tab := Lib.tabIs_of_head gT gTType Tryd.underlying78 Tryd.underlying35 (by kernel_rfl) (by kernel_rfl) hL.tail.tail
  clear hA0 hval0 hL hL0
  simp only [List.append_nil] at hW'
  refine (PRef.new_law b0 b1 a0 a1 ⟨in_wf z0, in_wf z1, in_wf w0, in_wf w1⟩ W (Lib.tabBelow_of_tabIs htab)).mono fun e W' ⟨he, bel⟩ => ?_
  subst he
  exact ⟨_, rfl, _, _, _, [], [], [], hW', trodAll_mk1 (shut_bool Tryd.underlying4 _), (trodAll_cons_mk (shut_int Tryd.underlying2 z0) (trodAll_cons_mk (shut_int Tryd.underlying2 z1) (trodAll_cons_mk (shut_agg2 (y0 := (.lit (.int .i64 a0), [])) (y1 := (.lit (.int .i64 a1), [])) Tryd.underlying23 (by kernel_rfl) cellsR ⟨1, by simp [DataW.trod, Tryd.underlying2, w0]⟩ ⟨1, by simp [DataW.trod, Tryd.underlying2, w1]⟩) trodAll_mk0))), rfl, bel.frame _, fun h => by cases h⟩
theorem over : Rows.ratNewRow.holds Tryd.pinned (OpenSpec.ofChange Rows.ratNewSpec) :=
  OpenClaim.holds_of_wide 4 Tryd.f4 rfl rfl rfl rfl rfl rfl rfl ⟨rfl, rfl, rfl, rfl, rfl⟩ rfl rfl rfl rfl rfl (by kernel_rfl) Tryd.func4 (by kernel_rfl)
    (of_decide_eq_true (by kernel_rfl)) (by unfold Func.isWrapper; first | (rw [if_pos (by decide +kernel)]; kernel_rfl) | (rw [if_neg (by decide +kernel)]; exact ⟨rfl, rfl⟩))
    (fun os started H enc _ => lifted os started H enc)
end Go.Proofs.YtpcdcanmbokpfaaDoor.ratNew
namespace Go.Proofs.YtpcdcanmbokpfaaDoor
/-- The row, under a short name, for the claim. -/
theorem ratNew_holds : Rows.RatNewSaid := ratNew.over
open Go
/-- The tied card. -/
theorem ratNewCard_holds : Rows.RatNewCardSaid :=
  Claim7.holds_tied_plain_at .later [] [.data, .data, .data] true (true, "168af39121c3f7277165b2f7e7f0f79de1b9a0f6283401acaa57fbdc23420d9f") false
    ratNew_holds (fun _ h => by cases h) (by kernel_rfl) (fun _ h => by cases h) ratNew_row_tie rfl ⟨rfl, rfl⟩ (by kernel_rfl) rfl
    (fun f fn hf hfn => by
      obtain rfl : f = 4 := Option.some.inj ((show Tryd.prog.funcNamed "ballcock/ballcocklaw01.RatNew" = some 4 by kernel_rfl).symm.trans hf) |>.symm
      obtain rfl : fn = Tryd.f4 := (Option.some.inj (Tryd.func4.symm.trans hfn)).symm
      exact ⟨by kernel_rfl, fun j t ht => by
        rw [Tryd.params4] at ht
        have hm : t ∈ [2, 2, 23] := by simpa using Array.mem_of_getElem? ht
        have hall : ([2, 2, 23].all fun u => !Tryd.prog.wantsStandIn u) = true := by kernel_rfl
        exact (show Tryd.prog.wantsStandIn t = false by simpa using List.all_eq_true.1 hall t hm)⟩)
    (by kernel_rfl)
#print axioms ratNewCard_holds
end Go.Proofs.YtpcdcanmbokpfaaDoor
