import Derived.Test.YtnahfkmdojbpkaaEY
/-! The engine, part Z: a function of one slice that asks whether it is nil. -/
set_option linter.all false
namespace Go.Eng
variable {P : Program} {TB : Nat → Option Obj}
theorem Tel.intro_nil (hmix : P.follows .mixedOrders = true) {d : Nat} {f : FuncId} {es : List (List PV)} {G : Heap} {r : GV} {G' : Heap} {fn : Func} {c : Code} (hfn : P.funcs[f]? = some fn) (hc : fn.body = some c) (hlen : 1 ≤ fn.ntmps)
    (A : Ann) (c1 c2 : Code) {x y z : Nat} (hx : x < fn.ntmps) (hy : y < fn.ntmps) (hz : z < fn.ntmps) (hok : codeOK A fn.ntmps c1 = true) (hok2 : codeOK A fn.ntmps c2 = true) (hname : (fn.name == "runtime.NumGoroutine") = false)
    (hcode : ∀ (a : Option Addr) (n m : Nat) (Q : Exit → Act → World → Prop) (w : World) (a0 : Act), a0.tmps.getD 0 undef = .slice a n m → a0.tmps.size = fn.ntmps →
      c1.wp P (Exit.then (c2.wp P Q) Q) (((a0.put (some x) (.slice none 0 0)).put (some y) (.slice a n m)).put (some z) (.bool a.isNone)) w → c.wp P Q a0 w)
    (h : ∀ b, (b = true → es = []) → gwp P (Tel P TB) A (d + 1) c1 (GE.then (gwp P (Tel P TB) A (d + 1) c2 (callPost P fn d r G')) (callPost P fn d r G')) ⟨upd (upd (upd (initF [.p (.sl es)]) x (.csl [])) y (.p (.sl es))) z (.p (.bool b)), cut d G⟩) : Tel P TB d f [.p (.sl es)] G r G' := by
  refine ⟨fun d1 f1 args1 G1 r1 G1' => d1 = d ∧ f1 = f ∧ args1 = [.p (.sl es)] ∧ G1 = G ∧ r1 = r ∧ G1' = G', ?_, rfl, rfl, rfl, rfl, rfl, rfl⟩
  rintro d1 f1 args1 G0 r1 G1' ⟨rfl, rfl, rfl, rfl, rfl, rfl⟩ X R0 w0 vals hX hs0 hvals t0 hf hf'
  refine .inl ⟨⟨fn, hfn, by rw [hc]; rfl, hname⟩, ?_⟩
  have hvl := VRs.length hvals
  have hx' := hx
  clear hx
  obtain ⟨x0, rfl⟩ : ∃ x, vals = [x] := by
    cases vals with
    | nil => simp at hvl
    | cons x l => cases l with
      | nil => exact ⟨x, rfl⟩
      | cons y l => simp at hvl
  have hx : PR (Mem X d1 G0 R0 w0) (.sl es) x0 := by
    have := hvals
    unfold VRs at this
    exact VR.p_iff.1 this.1
  obtain ⟨a, cap, rfl, h1, h2, h3⟩ : ∃ a cap, x0 = .slice a es.length cap ∧ es.length ≤ cap ∧ (a = none → cap = 0) ∧ (es ≠ [] → ∃ b o sz, a = some ⟨b, o, none⟩ ∧ PRss (Mem X d1 G0 R0 w0) es b o sz) := by
    unfold PR at hx; exact hx
  have hb : a.isNone = true → es = [] := fun ha => by
    have : a = none := by simpa using ha
    have := h2 this
    exact List.eq_nil_of_length_eq_zero (by omega)
  refine calls_of_wp hfn hc ?_
  have hin : In X (d1 + 1) fn.ntmps (Base X d1 G0 R0 w0) ⟨initF [.p (.sl es)], cut d1 G0⟩ { tmps := [Value.slice a es.length cap].toArray ++ Array.replicate (fn.ntmps - [Value.slice a es.length cap].toArray.size) undef, defers := [] } w0 R0 := by
    obtain ⟨h1, h2⟩ := hs0.cut
    refine ⟨h1, fun t => initF_VR (n := fn.ntmps - [Value.slice a es.length cap].toArray.size) (VRs.deeper (Nat.le_succ d1) _ _ (VRs.ext h2 _ _ hvals)) t, ?_, rfl, Base.start hs0⟩
    simp; omega
  have hB := fun G R w G' R' w' => @Base.step X d1 G0 R0 w0 G R w G' R' w'
  have e0 : ∀ k, ([Value.slice a es.length cap].toArray ++ Array.replicate k undef).getD 0 undef = .slice a es.length cap := fun k => by
    rw [Array.getD_eq_getD_getElem?, Array.getElem?_append_left (by simp)]; rfl
  have hv0 : VR (Mem X (d1 + 1) (cut d1 G0) R0 w0) (cut d1 G0) R0 (d1 + 1) (.p (.sl es)) (.slice a es.length cap) := by
    have := hin.fr 0
    dsimp only at this
    rw [show initF [GV.p (.sl es)] 0 = .p (.sl es) from rfl, e0] at this
    exact this
  have hin1 := hin.put hB (dst := some x) (fun t ht => by cases ht; exact hx') (v := .csl []) (δ := .nop) (rv := .slice none 0 0) (Step.refl hin.sim) (by unfold VR; exact ⟨by unfold PR; exact ⟨none, 0, rfl, Nat.le_refl _, fun _ => rfl, fun h => absurd rfl h⟩, none, rfl⟩)
  have hin2 := hin1.put hB (dst := some y) (fun t ht => by cases ht; exact hy) (v := .p (.sl es)) (δ := .nop) (rv := .slice a es.length cap) (Step.refl hin1.sim) hv0
  have hin3 := hin2.put hB (dst := some z) (fun t ht => by cases ht; exact hz) (v := .p (.bool a.isNone)) (δ := .nop) (rv := .bool a.isNone) (Step.refl hin2.sim) (VR.p_iff.2 (by unfold PR; rfl))
  refine hcode a es.length cap _ _ _ (e0 _) (by simp; omega) ?_
  refine gwp_sound known_Tel hX hmix Base.step (fun ts G R w hb => hb.clean) c1 hok _ _ (fun e s a w R hq hin' => ?_) _ _ _ _ hin3 (h _ hb)
  cases e with
  | exit id => exact hq.elim
  | normal =>
    refine gwp_sound known_Tel hX hmix Base.step (fun ts G R w hb => hb.clean) c2 hok2 _ _ (fun e s a w R hq hin' => ?_) _ _ _ _ hin' hq
    cases e with
    | exit id => exact hq.elim
    | normal =>
      obtain ⟨v, R2, hr, hst, hv⟩ := finish hs0 hf hin' hf' hq
      exact ⟨hin'.df, v, hr, v, rfl, R2, hst, hv⟩
    | ret =>
      obtain ⟨v, R2, hr, hst, hv⟩ := finish hs0 hf hin' hf' hq
      exact ⟨hin'.df, v, hr, v, rfl, R2, hst, hv⟩
  | ret =>
    obtain ⟨v, R2, hr, hst, hv⟩ := finish hs0 hf hin' hf' hq
    exact ⟨hin'.df, v, hr, v, rfl, R2, hst, hv⟩
end Go.Eng
