/-
What a term comes to is as the document says; and that of a sum it is the sum's, where nothing runs over: the law TermValues answers true. Condition: the row's own: library tables read as they are laid.
-/
import Derived.Test.YtijhnmbegceonaaDoorRows
import Derived.Test.YtijhnmbegceonaaDoorCards
import Derived.Test.YtijhnmbegceonaaDoorTie
import Derived.Test.YtijhnmbegceonaaDoorValX13
import Derived.Test.YtijhnmbegceonaaDoorValX17
import Derived.WalkKit
import Derived.ProofKit
import Derived.OpenShut
import Derived.ShutString
import Derived.ChangeOld
import Derived.Below
import Derived.SizedLaws
import Derived.Lib.SmallJoins
import Derived.LaidMore
import Derived.Lay
import Derived.MakeChecks
import Derived.Stop.LaidErr
import Derived.SevenTiedAt
namespace Go.Proofs.YtijhnmbegceonaaDoor.termValues
open Go.ChangeShapes Go.WideShapes Go.ChangeAt Go.RowKit Go.Joins Go.Proofs.YtijhnmbegceonaaDoorW.PrintWords PTerm
set_option linter.unusedVariables false
theorem own : ownKnob Tryd.prog.godebug = none := by kernel_rfl
theorem laidOut : laidOutB Tryd.prog = true := by kernel_rfl
theorem in_wf {a : Int} (h : (Lit.int .i64 a).wf = true) : BallQ.In64 a := by
  simp [Lit.wf, IntKind.min, IntKind.max, IntKind.signed, IntKind.bits] at h
  unfold BallQ.In64; omega
set_option maxRecDepth 100000 in
theorem opR : Opn.zdL Tryd.prog 24 k24 (fun x => BallQ.In64 x.f0 ∧ BallQ.In64 x.f1) := by
  intro H enc W base spare held fuel cs x h
  obtain ⟨a, ha, o0, o1⟩ := Opn.opens_iso (Opn.opens_pair (Opn.opens_int Tryd.underlying2) (Opn.opens_int Tryd.underlying2) Tryd.underlying24 rfl (by kernel_rfl) (by kernel_rfl)) (fun y : S24 => (y.f0, y.f1)) (fun p => ⟨p.1, p.2⟩) (fun _ => rfl) H enc W base spare held fuel cs x h
  exact ⟨a, ha, in_wf o0, in_wf o1⟩
set_option maxRecDepth 100000 in
theorem opS : Opn.zdL Tryd.prog 22 (Kd.slice 24 k24) zb9 := Opn.zhq opR (by kernel_rfl) Tryd.underlying22
set_option maxRecDepth 100000 in
theorem opT : Opn.zdL Tryd.prog 26 (Kd.pair (Kd.slice 24 k24) k24) (fun x => zb9 x.1 ∧ (BallQ.In64 x.2.f0 ∧ BallQ.In64 x.2.f1)) := Opn.opens_pair opS opR Tryd.underlying26 rfl (by kernel_rfl) (by kernel_rfl)
theorem slice_arg {α : Type} {P : Program} {t e : TypeId} {d : Kd α} {ok : List α → Prop} (h : Opn.zdL P t (Kd.slice e d) ok) (hs : P.underlying t = some (.slice e)) {H : Type} {enc : TypeId × Value → H} {W : World} {base : Nat} {spare : Nat → Bool} {held : Bool} {r : Reach} {b0 : Nat} {v : Value} {dd : DataW H} {p : List MemPlace}
    (hv : Value.okWide P W r b0 t v) (hd : DataW.Trod enc P W base spare held t v dd p) : ∃ l A c, v = .slice A l.length c ∧ l.length ≤ c ∧ Kd.C d W A l.length l ∧ ok l := by
  obtain ⟨a, n, c, rfl⟩ := okWide_slice hs hv
  obtain ⟨fuel, hf⟩ := hd
  obtain ⟨l, ⟨A, c2, e, hc, hC⟩, oa⟩ := h H enc W base spare held fuel _ _ hf
  simp [Value.cells] at e
  obtain ⟨rfl, rfl, rfl⟩ := e
  exact ⟨l, a, c, rfl, hc, hC, oa⟩
set_option maxRecDepth 100000 in
theorem lifted (os : Os) (started : os.Started) (H : Type) (enc : TypeId × Value → H) :
    ReturnsInHanded {} Tryd.checked os 6 .any (fun w args => (Rows.termValuesSpec.pre enc Tryd.prog Tryd.f6 Rows.termValuesRow.domain false w args ∧ laidMetH Tryd.prog Rows.termValuesRow.laid w) ∧ sizedMet enc Tryd.prog Tryd.f6 (OpenSpec.ofChange Rows.termValuesSpec) false w args)
      (Rows.termValuesSpec.post enc Tryd.prog Tryd.f6 false true false false) := by
  refine returnsInHanded_of_change_and (C := Tryd.checked) (X := fun w _ => laidMetH Tryd.prog Rows.termValuesRow.laid w) (fun _ _ _ hh h => h.of_heap hh) own started (by kernel_rfl) Tryd.func6
    (ChangeSpec.witness_shaped (enc := enc) (C := Tryd.checked) (os := os) (X := fun w _ => laidMetH Tryd.prog Rows.termValuesRow.laid w) false (World.laidAll Tryd.prog os Rows.termValuesRow.laid) #[.agg #[.slice none 0 0, .int .i64 0, .int .i64 0], .agg #[.slice none 0 0, .int .i64 0, .int .i64 0], .slice none 0 0] 8 (World.laidAll_os _ _ _)
      (World.shaped_of_ZipB (by kernel_rfl) (by kernel_rfl)) (by kernel_rfl) (by kernel_rfl) (by kernel_rfl)
      (by rw [MakeChecks.laidMetH_plain _ _ _ (by kernel_rfl)]; exact laidMet_laidAll _ (by kernel_rfl) (by kernel_rfl))) ?_
  intro W base args ds gs before hval0 hW hcnd hsz0 _ _
  have hval : ∀ (j : Nat) t v, Tryd.f6.params[j]? = some t → args[j]? = some v → Value.okWide Tryd.prog W .any base t v := hval0
  have hW' := hW
  obtain ⟨p, q, hA0, hV, rfl, hfz, hnd⟩ := hW
  have hA : DataW.TrodAll enc Tryd.prog W 0 (fun _ => true) true Tryd.f6.params.toList args.toList ds p := hA0
  rw [Tryd.params6] at hA hval
  obtain ⟨v0, vs0, d0, ds0, p0, q0, hargs, rfl, rfl, h0, r0⟩ := trodAll_cons hA
  obtain ⟨v1, vs1, d1, ds1, p1, q1, rfl, rfl, rfl, h1, r1⟩ := trodAll_cons r0
  obtain ⟨v2, vs2, d2, ds2, p2, q2, rfl, rfl, rfl, h2, r2⟩ := trodAll_cons r1
  obtain ⟨rfl, rfl, rfl⟩ := trodAll_nil r2
  obtain rfl : args = #[v0, v1, v2] := by cases args; simp_all
  obtain ⟨rfl, rfl⟩ := trodVars_none hV
  have k0 := h0
  have lt0 : ∀ x ∈ p0, x.block < W.heap.size := by obtain ⟨m, hm⟩ := k0; exact DataW.trod_lt m _ _ _ hm
  obtain ⟨x0, cs0, rfl, hK0, oL0, oN0, oD0⟩ := Opn.opens_arg opT Tryd.underlying26 (hval 0 26 v0 rfl rfl) h0
  obtain ⟨l0, s0⟩ := x0
  obtain ⟨e0, g0, hcs0, ⟨A0, c0, rfl, hc0, hC0⟩, hk0⟩ := hK0
  obtain rfl := zgG hk0
  obtain rfl : cs0 = #[.slice A0 l0.length c0, .int .i64 s0.f0, .int .i64 s0.f1] := by cases cs0; simp_all
  have k1 := h1
  have lt1 : ∀ x ∈ p1, x.block < W.heap.size := by obtain ⟨m, hm⟩ := k1; exact DataW.trod_lt m _ _ _ hm
  obtain ⟨x1, cs1, rfl, hK1, oL1, oN1, oD1⟩ := Opn.opens_arg opT Tryd.underlying26 (hval 1 26 v1 rfl rfl) h1
  obtain ⟨l1, s1⟩ := x1
  obtain ⟨e1, g1, hcs1, ⟨A1, c1, rfl, hc1, hC1⟩, hk1⟩ := hK1
  obtain rfl := zgG hk1
  obtain rfl : cs1 = #[.slice A1 l1.length c1, .int .i64 s1.f0, .int .i64 s1.f1] := by cases cs1; simp_all
  have k2 := h2
  have lt2 : ∀ x ∈ p2, x.block < W.heap.size := by obtain ⟨m, hm⟩ := k2; exact DataW.trod_lt m _ _ _ hm
  obtain ⟨l2, A2, c2, rfl, hc2, hC2, oL2⟩ := slice_arg opS Tryd.underlying22 (hval 2 22 v2 rfl rfl) h2
  clear hA0 hval0 hsz0
  obtain ⟨k, hk⟩ := PTerm.vals_holds l0 s0.f0 s0.f1 l1 s1.f0 s1.f1 l2 oL0 oN0 oD0 oL1 oN1 oD1 oL2
  refine (PTerm.zal.calls k A0 c0 l0 s0.f0 s0.f1 A1 c1 l1 s1.f0 s1.f1 A2 c2 l2 true W hC0 hc0 hC1 hc1 hC2 hc2 rfl hk).mono fun e W' ⟨he, bel⟩ => ?_
  subst he
  exact ⟨_, rfl, _, _, _, [], _, [], hW', trodAll_mk1 (shut_bool Tryd.underlying4 _), (trodAll_cons_mk (Below.trod laidOut (by kernel_rfl) (of_decide_eq_true (by kernel_rfl)) k0 bel lt0) (trodAll_cons_mk (Below.trod laidOut (by kernel_rfl) (of_decide_eq_true (by kernel_rfl)) k1 bel lt1) (trodAll_cons_mk (Below.trod laidOut (by kernel_rfl) (of_decide_eq_true (by kernel_rfl)) k2 bel lt2) trodAll_mk0))), rfl, bel.frame _, fun h => by cases h⟩
theorem over : Rows.termValuesRow.holds Tryd.pinned (OpenSpec.ofChange Rows.termValuesSpec) :=
  OpenClaim.holds_of_wide 6 Tryd.f6 rfl rfl rfl rfl rfl rfl rfl ⟨rfl, rfl, rfl, rfl, rfl⟩ rfl rfl rfl rfl rfl (by kernel_rfl) Tryd.func6 (by kernel_rfl)
    (of_decide_eq_true (by kernel_rfl)) (by unfold Func.isWrapper; first | (rw [if_pos (by decide +kernel)]; kernel_rfl) | (rw [if_neg (by decide +kernel)]; exact ⟨rfl, rfl⟩))
    (fun os started H enc _ => lifted os started H enc)
end Go.Proofs.YtijhnmbegceonaaDoor.termValues
namespace Go.Proofs.YtijhnmbegceonaaDoor
open Go
theorem termValues_row : Rows.TermValuesSaid := termValues.over
theorem termValuesCard_holds : Rows.TermValuesCardSaid :=
  Claim7.holds_tied_plain_at .later [] [.data, .data, .data] true (true, "7ab4e62a94a23014b948bd67d284e40bb0d8d58a0bbeb0ad9e105efe6873d086") false
    termValues_row (fun _ h => by cases h) (by kernel_rfl) (fun _ h => by cases h) termValues_row_tie rfl ⟨rfl, rfl⟩ (by kernel_rfl) rfl
    (fun f fn hf hfn => by
      obtain rfl : f = 6 := Option.some.inj ((show Tryd.prog.funcNamed Rows.termValuesRow.func = some 6 by kernel_rfl).symm.trans hf) |>.symm
      obtain rfl : fn = Tryd.f6 := (Option.some.inj (Tryd.func6.symm.trans hfn)).symm
      exact ⟨by kernel_rfl, fun j t ht => by
        have hm : t ∈ Tryd.f6.params.toList := by simpa using Array.mem_of_getElem? ht
        have hall : (Tryd.f6.params.toList.all fun u => !Tryd.prog.wantsStandIn u) = true := by kernel_rfl
        exact (show Tryd.prog.wantsStandIn t = false by simpa using List.all_eq_true.1 hall t hm)⟩)
    (by kernel_rfl)
#print axioms termValuesCard_holds
end Go.Proofs.YtijhnmbegceonaaDoor
