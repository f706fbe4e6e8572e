import Derived.Test.YtnahfkmdojbpkaaEI
/-! The engine, part J: calls, and an operation whole. -/
set_option linter.all false
namespace Go.Eng
def FnOK (P : Program) (f : FuncId) : Prop := ∃ fn, P.funcs[f]? = some fn ∧ fn.body.isSome = true ∧ (fn.name == "runtime.NumGoroutine") = false
/-- The tables that calls may lean on are there. -/
def Tabs (TB : Nat → Option Obj) (X : XS) : Prop := ∀ b o, TB b = some o → X.tb b = some o

/-- A call of the machine ends so: a text's, or one that the model stands in for. -/
def Runs (P : Program) (f : FuncId) (vals : Array Value) (w : World) (T : Value → World → Prop) : Prop :=
  (FnOK P f ∧ Calls P f vals w fun e w' => ∃ v, e = .returned v ∧ T v w') ∨ ∃ v w', (callFunc f vals).run P w = .ok (.value v) w' ∧ T v w'
theorem Runs.mono {P : Program} {f : FuncId} {vals : Array Value} {w : World} {T T' : Value → World → Prop} (h : Runs P f vals w T) (ht : ∀ v w', T v w' → T' v w') : Runs P f vals w T' := by
  rcases h with ⟨h1, h2⟩ | ⟨v, w', h1, h2⟩
  · exact .inl ⟨h1, h2.mono fun e w' ⟨v, he, hv⟩ => ⟨v, he, ht v w' hv⟩⟩
  · exact .inr ⟨v, w', h1, ht v w' h2⟩
def Known (P : Program) (TB : Nat → Option Obj) (C : CR) : Prop := ∀ d f args G r G', C d f args G r G' → ∀ (X : XS) (R : RMap) (w : World) (vals : List Value), Tabs TB X → Sim X d G R w → VRs (Mem X d G R w) G R d args vals → ∀ t0, G d t0 = [] → G' d t0 = [] →
  Runs P f vals.toArray w (fun v w' => ∃ R', Step X d G R w (fillKey G' d t0 (adopt d t0 r []).2) R' w' ∧
    VR (Mem X d (fillKey G' d t0 (adopt d t0 r []).2) R' w') (fillKey G' d t0 (adopt d t0 r []).2) R' d (adopt d t0 r []).1 v)

theorem get_empty (κ : Key) : get empty κ = none := by simp [get, empty]
section
variable {M M' : Nat → Nat → Value → Prop} {G G' : Heap} {R R' : RMap} {d : Nat}
mutual
theorem closed_VR (h : ∀ b i v, M b i v → M' b i v) : ∀ (g : GV) (x : Value), closed g → VR M G R d g x → VR M' G' R' d g x
  | .undef, _, hc, _ => by unfold closed at hc; exact hc.elim
  | .p _, _, _, hv => by unfold VR at hv ⊢; exact PR.mono h _ _ hv
  | .csl _, _, _, hv => by unfold VR at hv ⊢; exact ⟨PR.mono h _ _ hv.1, hv.2⟩
  | .tsl _ _, _, hc, _ => by unfold closed at hc; exact hc.elim
  | .own _ _, _, hc, _ => by unfold closed at hc; exact hc.elim
  | .obx _, _, hc, _ => by unfold closed at hc; exact hc.elim
  | .bp _ _, _, hc, _ => by unfold closed at hc; exact hc.elim
  | .ep _ _, _, _, hv => by
    unfold VR at hv ⊢
    obtain ⟨b, o, h1, h2⟩ := hv
    exact ⟨b, o, h1, PRs.mono h _ _ _ h2⟩
  | .arr _ _ _, _, hc, _ => by unfold closed at hc; exact hc.elim
  | .oar _ _, _, hc, _ => by unfold closed at hc; exact hc.elim
  | .ap _ _ _ _, _, hc, _ => by unfold closed at hc; exact hc.elim
  | .fn f gs, _, hc, hv => by
    unfold closed at hc
    unfold VR at hv ⊢
    obtain ⟨vs, h1, h2⟩ := hv
    exact ⟨vs, h1, closed_VRs h gs vs hc h2⟩
  | .agg gs, _, hc, hv => by
    unfold closed at hc
    unfold VR at hv ⊢
    obtain ⟨vs, h1, h0, h2⟩ := hv
    exact ⟨vs, h1, h0, closed_VRs h gs vs hc h2⟩
  | .tup gs, _, hc, hv => by
    unfold closed at hc
    unfold VR at hv ⊢
    obtain ⟨vs, h1, h2⟩ := hv
    exact ⟨vs, h1, closed_VRs h gs vs hc h2⟩
theorem closed_VRs (h : ∀ b i v, M b i v → M' b i v) : ∀ (gs : List GV) (vs : List Value), closeds gs → VRs M G R d gs vs → VRs M' G' R' d gs vs
  | [], [], _, _ => VRs.nil
  | g :: gs, v :: vs, hc, hv => by
    unfold closeds at hc
    unfold VRs at hv
    exact VRs.cons (closed_VR h g v hc.1 hv.1) (closed_VRs h gs vs hc.2 hv.2)
  | [], _ :: _, _, hv => by unfold VRs at hv; exact hv.elim
  | _ :: _, [], _, hv => by unfold VRs at hv; exact hv.elim
end
end
section
variable {X : XS} {P : Program} {G : Heap} {R : RMap} {d : Nat} {w : World}
def Xc (X : XS) (d : Nat) (G : Heap) (R : RMap) (w : World) : XS := ⟨fun b i => X.off b i ∨ (b < w.heap.size ∧ ∀ v, ¬ Mem X d G R w b i v), X.tb⟩
theorem Sim.bare (hs : Sim X d G R w) : Sim (Xc X d G R w) d empty R w :=
  ⟨fun κ _ o _ _ _ h => (by rw [get_empty] at h; cases h), fun κ o _ h => (by rw [get_empty] at h; cases h), fun b i h => h.elim (hs.off b i) (·.1), fun κ o _ h => (by rw [get_empty] at h; cases h), fun b o h => ⟨(hs.tab b o h).1, fun κ o' _ h' => (by rw [get_empty] at h'; cases h')⟩⟩
theorem Mem.bare {b i : Nat} {v : Value} (hm : Mem X d G R w b i v) : Mem (Xc X d G R w) d empty R w b i v :=
  ⟨hm.1, hm.2.1, (fun h => h.elim hm.2.2.1 (fun h => h.2 v hm)), fun κ o _ h => by rw [get_empty] at h; cases h⟩
/-- What a call that was shown no objects has made is put beside them. -/
theorem embed (hs : Sim X d G R w) {t0 : Nat} (hf : G d t0 = []) {os : List Obj'} {R1 : RMap} {w' : World} (h : Step (Xc X d G R w) d empty R w (fillKey empty d t0 os) R1 w') {g : GV} {v : Value}
    (hv : VR (Mem (Xc X d G R w) d (fillKey empty d t0 os) R1 w') (fillKey empty d t0 os) R1 d g v) :
    ∃ R', Step X d G R w (fillKey G d t0 os) R' w' ∧ VR (Mem X d (fillKey G d t0 os) R' w') (fillKey G d t0 os) R' d g v := by
  have hg1 : ∀ κ o, get (fillKey empty d t0 os) κ = some o → (κ.1 = d ∧ κ.2.1 = t0) ∧ os[κ.2.2]? = some o := fun κ o hk => by
    rw [get_fillKey] at hk
    split at hk
    · exact ⟨by assumption, hk⟩
    · rw [get_empty] at hk; cases hk
  have hold : ∀ b, b < w.heap.size → w'.heap[b]? = w.heap[b]? := fun b hb => h.fr.keep b hb fun κ o _ hk => by rw [get_empty] at hk; cases hk
  have hgr : Grows w w' := ⟨h.fr.size, hold, h.fr.env⟩
  have hnew : ∀ κ o, κ.1 ≤ d → get (fillKey empty d t0 os) κ = some o → w.heap.size ≤ (R1 κ).b := fun κ o hk hgk => by
    rcases Nat.lt_or_ge (R1 κ).b w.heap.size with hlt | hge
    · obtain ⟨κ', o', _, h2, _⟩ := h.fr.come κ o hk hgk hlt
      rw [get_empty] at h2; cases h2
    · exact hge
  let R2 : RMap := fun κ => if κ.1 = d ∧ κ.2.1 = t0 then R1 κ else R κ
  have hR2n : ∀ κ : Key, (κ.1 = d ∧ κ.2.1 = t0) → R2 κ = R1 κ := fun κ e => if_pos e
  have hR2o : ∀ κ o, get G κ = some o → R2 κ = R κ := fun κ o hk => if_neg (by
    rintro ⟨e1, e2⟩
    unfold get at hk
    rw [e1, e2, hf] at hk
    simp at hk)
  have hg2 : ∀ κ o, get (fillKey G d t0 os) κ = some o → ((κ.1 = d ∧ κ.2.1 = t0) ∧ os[κ.2.2]? = some o ∧ get (fillKey empty d t0 os) κ = some o) ∨ get G κ = some o := fun κ o hk => by
    rw [get_fillKey] at hk
    split at hk
    · rename_i e
      exact .inl ⟨e, hk, by rw [get_fillKey, if_pos e]; exact hk⟩
    · exact .inr hk
  have hg2o : ∀ κ o, get G κ = some o → get (fillKey G d t0 os) κ = some o := fun κ o hk => by
    rw [get_fillKey, if_neg, hk]
    rintro ⟨e1, e2⟩
    unfold get at hk
    rw [e1, e2, hf] at hk
    simp at hk
  have hm3 : ∀ b i v, Mem X d G R w b i v → Mem X d (fillKey G d t0 os) R2 w' b i v := fun b i v hm => by
    refine ⟨hgr.cell hm.1, hm.2.1, hm.2.2.1, fun κ o hk hgk hbb => ?_⟩
    rcases hg2 κ o hgk with ⟨e, _, h1⟩ | h1
    · rw [hR2n κ e] at hbb
      have := hnew κ o hk h1
      have := block_lt_of_cell hm.1
      simp only at this
      omega
    · rw [hR2o κ o h1] at hbb ⊢
      exact hm.2.2.2 κ o hk h1 hbb
  have hm4 : ∀ b i v, Mem (Xc X d G R w) d (fillKey empty d t0 os) R1 w' b i v → Mem X d (fillKey G d t0 os) R2 w' b i v := fun b i v hm => by
    rcases Nat.lt_or_ge b w.heap.size with hlt | hge
    · have hx := hm.2.2.1
      simp only [Xc] at hx
      have : ∃ v0, Mem X d G R w b i v0 := by
        apply Classical.byContradiction
        intro hno
        exact hx (.inr ⟨hlt, fun v hv => hno ⟨v, hv⟩⟩)
      obtain ⟨v0, hv0⟩ := this
      have h1 := hm.1
      rw [hgr.cell hv0.1] at h1
      cases h1
      exact hm3 b i v hv0
    · refine ⟨hm.1, hm.2.1, (fun hX => absurd (hs.off _ _ hX) (by omega)), fun κ o hk hgk hbb => ?_⟩
      rcases hg2 κ o hgk with ⟨e, _, h1⟩ | h1
      · rw [hR2n κ e] at hbb ⊢
        exact hm.2.2.2 κ o hk h1 hbb
      · rw [hR2o κ o h1] at hbb
        have := hs.lt hk h1
        omega
  have hx5 : Ext d (Mem (Xc X d G R w) d (fillKey empty d t0 os) R1 w') (fillKey empty d t0 os) R1 (Mem X d (fillKey G d t0 os) R2 w') (fillKey G d t0 os) R2 := by
    have key : ∀ κ o, get (fillKey empty d t0 os) κ = some o → get (fillKey G d t0 os) κ = some o ∧ R2 κ = R1 κ := fun κ o hk => by
      obtain ⟨e, h1⟩ := hg1 κ o hk
      exact ⟨by rw [get_fillKey, if_pos e]; exact h1, hR2n κ e⟩
    exact ⟨hm4, fun κ cs _ hk => ⟨⟨cs, (key κ _ hk).1⟩, (key κ _ hk).2⟩, fun κ n _ _ hk => ⟨n, (key κ _ hk).1, Nat.le_refl _, fun _ => (key κ _ hk).2⟩, fun κ es _ hk => ⟨by rw [(key κ _ hk).2], es, (key κ _ hk).1, Nat.le_refl _, fun _ => (key κ _ hk).2⟩⟩
  have hx6 : Ext d (Mem X d G R w) G R (Mem X d (fillKey G d t0 os) R2 w') (fillKey G d t0 os) R2 :=
    ⟨hm3, fun κ cs _ hk => ⟨⟨cs, hg2o κ _ hk⟩, hR2o κ _ hk⟩, fun κ n _ _ hk => ⟨n, hg2o κ _ hk, Nat.le_refl _, fun _ => hR2o κ _ hk⟩, fun κ es _ hk => ⟨by rw [hR2o κ _ hk], es, hg2o κ _ hk, Nat.le_refl _, fun _ => hR2o κ _ hk⟩⟩
  refine ⟨R2, ⟨⟨fun κ κ' o o' hk hk' hgk hgk' hbb => ?_, fun κ o hk hgk => ?_, fun b i hX => Nat.lt_of_lt_of_le (hs.off b i hX) hgr.size, fun κ o hk hgk i hX => ?_, fun b o htb => ?_⟩, hx6, ⟨hgr.size, fun b hb _ => hold b hb, fun κ o hk hgk hlt => ?_, hgr.env⟩⟩, VR.ext hx5 _ _ hv⟩
  · rcases hg2 κ o hgk with ⟨e, _, h1⟩ | h1 <;> rcases hg2 κ' o' hgk' with ⟨e', _, h1'⟩ | h1'
    · rw [hR2n κ e, hR2n κ' e'] at hbb
      exact h.sim.inj κ κ' o o' hk hk' h1 h1' hbb
    · rw [hR2n κ e, hR2o κ' _ h1'] at hbb
      have := hnew κ o hk h1
      have := hs.lt hk' h1'
      omega
    · rw [hR2o κ _ h1, hR2n κ' e'] at hbb
      have := hnew κ' o' hk' h1'
      have := hs.lt hk h1
      omega
    · rw [hR2o κ _ h1, hR2o κ' _ h1'] at hbb
      exact hs.inj κ κ' o o' hk hk' h1 h1' hbb
  · rcases hg2 κ o hgk with ⟨e, _, h1⟩ | h1
    · exact (h.sim.obj κ o hk h1).ext hk hx5 (hR2n κ e) rfl
    · exact (hs.obj κ o hk h1).ext hk hx6 (hR2o κ o h1) (hold _ (hs.lt hk h1))
  · rcases hg2 κ o hgk with ⟨e, _, h1⟩ | h1
    · have := hs.off _ _ hX
      rw [hR2n κ e] at this
      have := hnew κ o hk h1
      omega
    · rw [hR2o κ o h1] at hX
      exact hs.apart κ o hk h1 i hX
  · obtain ⟨h1, h2⟩ := hs.tab b o htb
    have hlt := (Array.getElem?_eq_some_iff.1 h1).1
    refine ⟨(hold b hlt).trans h1, fun κ o1 hk hgk hbb => ?_⟩
    rcases hg2 κ o1 hgk with ⟨e, _, h3⟩ | h3
    · rw [hR2n κ e] at hbb
      have := hnew κ o1 hk h3
      omega
    · rw [hR2o κ o1 h3] at hbb
      exact h2 κ o1 hk h3 hbb
  · rcases hg2 κ o hgk with ⟨e, _, h1⟩ | h1
    · rw [hR2n κ e] at hlt
      have := hnew κ o hk h1
      omega
    · exact ⟨κ, o, hk, h1, (congrArg RObj.b (hR2o κ o h1)).symm⟩

theorem Step.bare_grows {X' : XS} {G' : Heap} {R' R1 : RMap} {w' : World} (h : Step X' d empty R' w G' R1 w') : Grows w w' :=
  ⟨h.fr.size, fun b hb => h.fr.keep b hb fun κ o _ hk => (by rw [get_empty] at hk; cases hk), h.fr.env⟩
mutual
theorem adopt_pre (t : Nat) : ∀ (r : GV) (acc : List Obj') (i : Nat) (o : Obj'), acc[i]? = some o → (adopt d t r acc).2[i]? = some o
  | .own es sz, acc, i, o, h => by
    unfold adopt
    rw [List.getElem?_append_left (List.getElem?_eq_some_iff.1 h).1]; exact h
  | .obx cs, acc, i, o, h => by
    unfold adopt
    rw [List.getElem?_append_left (List.getElem?_eq_some_iff.1 h).1]; exact h
  | .oar es sz, acc, i, o, h => by
    unfold adopt
    rw [List.getElem?_append_left (List.getElem?_eq_some_iff.1 h).1]; exact h
  | .agg gs, acc, i, o, h => by unfold adopt; exact adopts_pre t gs acc i o h
  | .tup gs, acc, i, o, h => by unfold adopt; exact adopts_pre t gs acc i o h
  | .undef, acc, i, o, h => by unfold adopt; exact h
  | .p _, acc, i, o, h => by unfold adopt; exact h
  | .csl _, acc, i, o, h => by unfold adopt; exact h
  | .tsl _ _, acc, i, o, h => by unfold adopt; exact h
  | .bp _ _, acc, i, o, h => by unfold adopt; exact h
  | .ep _ _, acc, i, o, h => by unfold adopt; exact h
  | .arr _ _ _, acc, i, o, h => by unfold adopt; exact h
  | .ap _ _ _ _, acc, i, o, h => by unfold adopt; exact h
  | .fn _ _, acc, i, o, h => by unfold adopt; exact h
theorem adopts_pre (t : Nat) : ∀ (rs : List GV) (acc : List Obj') (i : Nat) (o : Obj'), acc[i]? = some o → (adopts d t rs acc).2[i]? = some o
  | [], acc, i, o, h => by unfold adopts; exact h
  | g :: gs, acc, i, o, h => by unfold adopts; exact adopts_pre t gs _ i o (adopt_pre t g acc i o h)
end
theorem mem_frz (hs : Sim X d G R w) {t0 : Nat} {os : List Obj'} {R1 : RMap} {w' : World} (h : Step (Xc X d G R w) d empty R w (fillKey empty d t0 os) R1 w') (b i : Nat) (v : Value)
    (hm : Mem (Xc X d G R w) d (fillKey empty d t0 os) R1 w' b i v) : Mem X d G R w' b i v := by
  rcases Nat.lt_or_ge b w.heap.size with hlt | hge
  · have hx := hm.2.2.1
    simp only [Xc] at hx
    have : ∃ v0, Mem X d G R w b i v0 := by
      apply Classical.byContradiction
      intro hno
      exact hx (.inr ⟨hlt, fun v hv => hno ⟨v, hv⟩⟩)
    obtain ⟨v0, hv0⟩ := this
    have h1 := hm.1
    rw [h.bare_grows.cell hv0.1] at h1
    cases h1
    exact Mem.grow h.bare_grows b i v hv0
  · refine ⟨hm.1, hm.2.1, (fun hX => absurd (hs.off _ _ hX) (by omega)), fun κ o hk hgk hbb => ?_⟩
    have := hs.lt hk hgk
    omega
theorem mem_new (hs : Sim X d G R w) {w' : World} {b i : Nat} {v : Value} (hb : w.heap.size ≤ b) (hc : w'.cell? ⟨b, i, none⟩ = some v) (h1 : v.oneCell' = true) : Mem X d G R w' b i v :=
  ⟨hc, h1, (fun hX => absurd (hs.off _ _ hX) (by omega)), fun κ o hk hgk hbb => absurd (hs.lt hk hgk) (by omega)⟩
section
variable {t0 : Nat} {os : List Obj'} {R1 : RMap} {w' : World}
mutual
theorem frz_VR (hs : Sim X d G R w) (h : Step (Xc X d G R w) d empty R w (fillKey empty d t0 os) R1 w') : ∀ (r : GV) (acc : List Obj') (x : Value), (∀ (i : Nat) (o : Obj'), (adopt d t0 r acc).2[i]? = some o → os[i]? = some o) →
    VR (Mem (Xc X d G R w) d (fillKey empty d t0 os) R1 w') (fillKey empty d t0 os) R1 d (adopt d t0 r acc).1 x → VR (Mem X d G R w') G R d (frz r) x
  | .own es sz, acc, x, hp, hv => by
    unfold adopt at hv
    unfold frz
    exact VR.p_iff.2 (PR.mono (mem_frz hs h) _ _ hv.tsl_sl)
  | .obx cs, acc, x, hp, hv => by
    unfold adopt at hv hp
    unfold frz
    split
    · rename_i ps hps
      unfold VR at hv
      obtain ⟨_, _, rfl⟩ := hv
      have ho := hp acc.length (.box cs) (by simp)
      have hg : get (fillKey empty d t0 os) (d, t0, acc.length) = some (.box cs) := by rw [get_fillKey, if_pos ⟨rfl, rfl⟩]; exact ho
      have hge : w.heap.size ≤ (R1 (d, t0, acc.length)).b := by
        rcases Nat.lt_or_ge (R1 (d, t0, acc.length)).b w.heap.size with hlt | hge
        · obtain ⟨κ', o', _, h2, _⟩ := h.fr.come _ _ (Nat.le_refl d) hg hlt
          rw [get_empty] at h2; cases h2
        · exact hge
      obtain ⟨vs, T, h1, h2, h3⟩ := h.sim.obj _ _ (Nat.le_refl d) hg
      obtain ⟨h4, h5⟩ := purs_get hps h3
      refine VR.p_iff.2 ?_
      unfold PR
      refine ⟨_, 0, rfl, PRs.of_get fun j c hj => ?_⟩
      obtain ⟨v, h6, h7⟩ := h5 j c hj
      exact ⟨v, mem_new hs hge (by rw [Nat.zero_add, cell_of_row w' _ j vs T _ h1]; simpa using h6) (h2 v (List.mem_of_getElem? h6)), PR.mono (mem_frz hs h) _ _ h7⟩
    · unfold VR; trivial
  | .oar es sz, acc, x, hp, hv => by
    unfold adopt at hv hp
    unfold frz
    unfold VR at hv
    obtain ⟨_, hsz, es0, hg, _, b, o, c, rfl, ha⟩ := hv
    have ho := hp acc.length (.arr es) (by simp)
    have hg1 : get (fillKey empty d t0 os) (d, t0, acc.length) = some (.arr es) := by rw [get_fillKey, if_pos ⟨rfl, rfl⟩]; exact ho
    rw [hg1] at hg
    cases hg
    obtain ⟨rfl, rfl, rfl⟩ := ha rfl
    have hge : w.heap.size ≤ (R1 (d, t0, acc.length)).b := by
      rcases Nat.lt_or_ge (R1 (d, t0, acc.length)).b w.heap.size with hlt | hge
      · obtain ⟨κ', o', _, h2, _⟩ := h.fr.come _ _ (Nat.le_refl d) hg1 hlt
        rw [get_empty] at h2; cases h2
      · exact hge
    obtain ⟨vs, T, h1, h2, h3, h4⟩ := h.sim.obj _ _ (Nat.le_refl d) hg1
    refine VR.p_iff.2 ?_
    unfold PR
    refine ⟨_, _, rfl, h2, (fun h => by cases h), fun _ => ⟨_, _, (R1 (d, t0, acc.length)).sz, rfl, PRss.of_get fun q ee hq => ?_⟩⟩
    obtain ⟨h5, h6⟩ := h4 q ee hq
    refine ⟨h5, PRs.of_get fun j c hj => ?_⟩
    obtain ⟨v, h7, h8, h9⟩ := h6 j c hj
    exact ⟨v, mem_new hs hge (by rw [cell_of_row w' _ _ vs T _ h1]; exact h7) h8, PR.mono (mem_frz hs h) _ _ h9⟩
  | .agg gs, acc, x, hp, hv => by
    unfold adopt at hv hp
    unfold frz
    unfold VR at hv ⊢
    obtain ⟨vs, h1, h2, h3⟩ := hv
    exact ⟨vs, h1, h2, frzs_VR hs h gs acc vs hp h3⟩
  | .tup gs, acc, x, hp, hv => by
    unfold adopt at hv hp
    unfold frz
    unfold VR at hv ⊢
    obtain ⟨vs, h1, h3⟩ := hv
    exact ⟨vs, h1, frzs_VR hs h gs acc vs hp h3⟩
  | .undef, acc, x, hp, hv => by unfold frz; unfold VR; trivial
  | .p v, acc, x, hp, hv => by
    unfold adopt at hv
    unfold frz
    exact VR.p_iff.2 (PR.mono (mem_frz hs h) _ _ (VR.p_iff.1 hv))
  | .csl es, acc, x, hp, hv => by
    unfold adopt at hv
    unfold frz
    unfold VR at hv
    exact VR.p_iff.2 (PR.mono (mem_frz hs h) _ _ hv.1)
  | .ep cs off, acc, x, hp, hv => by
    unfold adopt at hv
    unfold frz
    unfold VR at hv ⊢
    obtain ⟨b, o, h1, h2⟩ := hv
    exact ⟨b, o, h1, PRs.mono (mem_frz hs h) _ _ _ h2⟩
  | .tsl _ _, acc, x, hp, hv => by unfold frz; unfold VR; trivial
  | .bp _ _, acc, x, hp, hv => by unfold frz; unfold VR; trivial
  | .arr _ _ _, acc, x, hp, hv => by unfold frz; unfold VR; trivial
  | .ap _ _ _ _, acc, x, hp, hv => by unfold frz; unfold VR; trivial
  | .fn _ _, acc, x, hp, hv => by unfold frz; unfold VR; trivial
theorem frzs_VR (hs : Sim X d G R w) (h : Step (Xc X d G R w) d empty R w (fillKey empty d t0 os) R1 w') : ∀ (rs : List GV) (acc : List Obj') (xs : List Value), (∀ (i : Nat) (o : Obj'), (adopts d t0 rs acc).2[i]? = some o → os[i]? = some o) →
    VRs (Mem (Xc X d G R w) d (fillKey empty d t0 os) R1 w') (fillKey empty d t0 os) R1 d (adopts d t0 rs acc).1 xs → VRs (Mem X d G R w') G R d (frzs rs) xs
  | [], acc, xs, hp, hv => by
    unfold adopts at hv
    unfold frzs
    cases xs with
    | nil => exact VRs.nil
    | cons _ _ => unfold VRs at hv; exact hv.elim
  | r :: rs, acc, [], hp, hv => by
    unfold adopts at hv; unfold VRs at hv; exact hv.elim
  | r :: rs, acc, x :: xs, hp, hv => by
    unfold adopts at hv hp
    unfold VRs at hv
    unfold frzs
    exact VRs.cons (frz_VR hs h r acc x (fun i o hi => hp i o (adopts_pre t0 rs _ i o hi)) hv.1) (frzs_VR hs h rs _ xs hp hv.2)
end
end
/-! ### A call that only looks -/
theorem Sim.look (hs : Sim X d G R w) : Sim X d empty R w :=
  ⟨fun κ _ o _ _ _ h => (by rw [get_empty] at h; cases h), fun κ o _ h => (by rw [get_empty] at h; cases h), hs.off, fun κ o _ h => (by rw [get_empty] at h; cases h), fun b o h => ⟨(hs.tab b o h).1, fun κ o' _ h' => (by rw [get_empty] at h'; cases h')⟩⟩
theorem Mem.look {b i : Nat} {v : Value} (hm : Mem X d G R w b i v) : Mem X d empty R w b i v :=
  ⟨hm.1, hm.2.1, hm.2.2.1, fun κ o _ h => by rw [get_empty] at h; cases h⟩
theorem mem_look (hs : Sim X d G R w) {κ : Key} {o : Obj'} (hk : κ.1 ≤ d) (hg : get G κ = some o) {i : Nat} {v : Value} (hc : w.cell? ⟨(R κ).b, i, none⟩ = some v) (h1 : v.oneCell' = true) : Mem X d empty R w (R κ).b i v :=
  ⟨hc, h1, hs.apart κ o hk hg i, fun κ o _ h => by rw [get_empty] at h; cases h⟩
mutual
theorem wkB_VR (hs : Sim X d G R w) : ∀ (g : GV) {r : GV} {x : Value}, wkB G d g r → closed r → VR (Mem X d G R w) G R d g x → VR (Mem X d empty R w) empty R d r x
  | .csl es, r, x, h, hc, hv => by
    unfold wkB at h
    unfold VR at hv
    rcases h with rfl | rfl
    · unfold VR; exact ⟨PR.mono (fun _ _ _ => Mem.look) _ _ hv.1, hv.2⟩
    · exact VR.p_iff.2 (PR.mono (fun _ _ _ => Mem.look) _ _ hv.1)
  | .tsl es κ, r, x, h, hc, hv => by
    unfold wkB at h
    subst h
    exact VR.p_iff.2 (PR.mono (fun _ _ _ => Mem.look) _ _ hv.tsl_sl)
  | .bp κ off, r, x, h, hc, hv => by
    unfold wkB at h
    obtain ⟨hk, h⟩ := h
    split at h
    case h_2 => exact h.elim
    rename_i cs hg
    split at h
    case h_2 => exact h.elim
    rename_i ps hps
    unfold VR at hv
    obtain ⟨_, _, rfl⟩ := hv
    obtain ⟨vs, T, h1, h2, h3⟩ := hs.obj κ _ hk hg
    obtain ⟨h4, h5⟩ := purs_get hps h3
    have hp : PRs (Mem X d empty R w) ps (R κ).b 0 := by
      refine PRs.of_get fun j c hj => ?_
      obtain ⟨v, h6, h7⟩ := h5 j c hj
      exact ⟨v, mem_look hs hk hg (by rw [Nat.zero_add, cell_of_row w _ j vs T _ h1]; simpa using h6) (h2 v (List.mem_of_getElem? h6)), PR.mono (fun _ _ _ => Mem.look) _ _ h7⟩
    rcases h with rfl | ⟨rfl, rfl⟩
    · unfold VR
      exact ⟨_, 0, by rw [Nat.zero_add], hp⟩
    · refine VR.p_iff.2 ?_
      unfold PR
      exact ⟨_, 0, rfl, hp⟩
  | .arr κ n sz, r, x, h, hc, hv => by
    unfold wkB at h
    obtain ⟨hk, h⟩ := h
    split at h
    case h_2 => exact h.elim
    rename_i es hg
    obtain ⟨hn, rfl⟩ := h
    unfold VR at hv
    obtain ⟨_, hsz, es0, hg0, _, b, o, c, rfl, ha⟩ := hv
    rw [hg] at hg0
    cases hg0
    obtain ⟨rfl, rfl, rfl⟩ := ha hn
    obtain ⟨vs, T, h1, h2, h3, h4⟩ := hs.obj κ _ hk hg
    refine VR.p_iff.2 ?_
    unfold PR
    refine ⟨_, _, by rw [hn], h2, (fun h => by cases h), fun _ => ⟨_, _, (R κ).sz, rfl, PRss.of_get fun q ee hq => ?_⟩⟩
    obtain ⟨h5, h6⟩ := h4 q ee hq
    refine ⟨h5, PRs.of_get fun j c hj => ?_⟩
    obtain ⟨v, h7, h8, h9⟩ := h6 j c hj
    exact ⟨v, mem_look hs hk hg (by rw [cell_of_row w _ _ vs T _ h1]; exact h7) h8, PR.mono (fun _ _ _ => Mem.look) _ _ h9⟩
  | .fn f gs, r, x, h, hc, hv => by
    unfold wkB at h
    obtain ⟨rs, rfl, h⟩ := h
    unfold closed at hc
    unfold VR at hv ⊢
    obtain ⟨vs, h1, h2⟩ := hv
    exact ⟨vs, h1, wkBs_VRs hs gs h hc h2⟩
  | .agg gs, r, x, h, hc, hv => by
    unfold wkB at h
    obtain ⟨rs, rfl, h⟩ := h
    unfold closed at hc
    unfold VR at hv ⊢
    obtain ⟨vs, h1, h0, h2⟩ := hv
    exact ⟨vs, h1, h0, wkBs_VRs hs gs h hc h2⟩
  | .undef, r, x, h, hc, hv => by unfold wkB at h; subst h; exact closed_VR (fun _ _ _ => Mem.look) _ _ hc hv
  | .p _, r, x, h, hc, hv => by unfold wkB at h; subst h; exact closed_VR (fun _ _ _ => Mem.look) _ _ hc hv
  | .own _ _, r, x, h, hc, hv => by unfold wkB at h; subst h; exact closed_VR (fun _ _ _ => Mem.look) _ _ hc hv
  | .obx _, r, x, h, hc, hv => by unfold wkB at h; subst h; exact closed_VR (fun _ _ _ => Mem.look) _ _ hc hv
  | .oar _ _, r, x, h, hc, hv => by unfold wkB at h; subst h; exact closed_VR (fun _ _ _ => Mem.look) _ _ hc hv
  | .ep _ _, r, x, h, hc, hv => by unfold wkB at h; subst h; exact closed_VR (fun _ _ _ => Mem.look) _ _ hc hv
  | .ap _ _ _ _, r, x, h, hc, hv => by unfold wkB at h; subst h; exact closed_VR (fun _ _ _ => Mem.look) _ _ hc hv
  | .tup _, r, x, h, hc, hv => by unfold wkB at h; subst h; exact closed_VR (fun _ _ _ => Mem.look) _ _ hc hv
theorem wkBs_VRs (hs : Sim X d G R w) : ∀ (gs : List GV) {rs : List GV} {xs : List Value}, wkBs G d gs rs → closeds rs → VRs (Mem X d G R w) G R d gs xs → VRs (Mem X d empty R w) empty R d rs xs
  | [], rs, xs, h, hc, hv => by
    unfold wkBs at h
    subst h
    cases xs with
    | nil => exact VRs.nil
    | cons _ _ => unfold VRs at hv; exact hv.elim
  | g :: gs, rs, [], h, hc, hv => by unfold VRs at hv; exact hv.elim
  | g :: gs, rs, x :: xs, h, hc, hv => by
    unfold wkBs at h
    obtain ⟨r, rs', rfl, h1, h2⟩ := h
    unfold closeds at hc
    unfold VRs at hv
    exact VRs.cons (wkB_VR hs g h1 hc.1 hv.1) (wkBs_VRs hs gs h2 hc.2 hv.2)
end
mutual
theorem scal_VR {M M' : Nat → Nat → Value → Prop} {G' : Heap} {R' : RMap} : ∀ (r : GV) (x : Value), scal r → VR M G R d r x → VR M' G' R' d r x
  | .p (.int _ _), x, _, hv => by have := VR.p_iff.1 hv; unfold PR at this; exact VR.p_iff.2 (by unfold PR; exact this)
  | .p (.bool _), x, _, hv => by have := VR.p_iff.1 hv; unfold PR at this; exact VR.p_iff.2 (by unfold PR; exact this)
  | .p (.str _), x, _, hv => by have := VR.p_iff.1 hv; unfold PR at this; exact VR.p_iff.2 (by unfold PR; exact this)
  | .p .null, x, _, hv => by have := VR.p_iff.1 hv; unfold PR at this; exact VR.p_iff.2 (by unfold PR; exact this)
  | .p .nfn, x, h, hv => by unfold scal at h; exact h.elim
  | .p (.sl _), x, h, hv => by unfold scal at h; exact h.elim
  | .p (.pt _), x, h, hv => by unfold scal at h; exact h.elim
  | .agg gs, x, h, hv => by
    unfold scal at h
    unfold VR at hv ⊢
    obtain ⟨vs, h1, h0, h2⟩ := hv
    exact ⟨vs, h1, h0, scals_VRs gs vs h h2⟩
  | .tup gs, x, h, hv => by
    unfold scal at h
    unfold VR at hv ⊢
    obtain ⟨vs, h1, h2⟩ := hv
    exact ⟨vs, h1, scals_VRs gs vs h h2⟩
  | .undef, x, h, hv => by unfold scal at h; exact h.elim
  | .csl _, x, h, hv => by unfold scal at h; exact h.elim
  | .tsl _ _, x, h, hv => by unfold scal at h; exact h.elim
  | .own _ _, x, h, hv => by unfold scal at h; exact h.elim
  | .obx _, x, h, hv => by unfold scal at h; exact h.elim
  | .oar _ _, x, h, hv => by unfold scal at h; exact h.elim
  | .bp _ _, x, h, hv => by unfold scal at h; exact h.elim
  | .ep _ _, x, h, hv => by unfold scal at h; exact h.elim
  | .arr _ _ _, x, h, hv => by unfold scal at h; exact h.elim
  | .ap _ _ _ _, x, h, hv => by unfold scal at h; exact h.elim
  | .fn _ _, x, h, hv => by unfold scal at h; exact h.elim
theorem scals_VRs {M M' : Nat → Nat → Value → Prop} {G' : Heap} {R' : RMap} : ∀ (rs : List GV) (xs : List Value), scals rs → VRs M G R d rs xs → VRs M' G' R' d rs xs
  | [], [], _, _ => VRs.nil
  | g :: gs, v :: vs, h, hv => by
    unfold scals at h
    unfold VRs at hv
    exact VRs.cons (scal_VR g v h.1 hv.1) (scals_VRs gs vs h.2 hv.2)
  | [], _ :: _, _, hv => by unfold VRs at hv; exact hv.elim
  | _ :: _, [], _, hv => by unfold VRs at hv; exact hv.elim
end
mutual
theorem scal_adopt (t : Nat) : ∀ (r : GV), scal r → ∀ acc, adopt d t r acc = (r, acc)
  | .p _, _, acc => by unfold adopt; rfl
  | .agg gs, h, acc => by unfold scal at h; unfold adopt; rw [scals_adopts t gs h acc]
  | .tup gs, h, acc => by unfold scal at h; unfold adopt; rw [scals_adopts t gs h acc]
  | .undef, h, _ => by unfold scal at h; exact h.elim
  | .csl _, h, _ => by unfold scal at h; exact h.elim
  | .tsl _ _, h, _ => by unfold scal at h; exact h.elim
  | .own _ _, h, _ => by unfold scal at h; exact h.elim
  | .obx _, h, _ => by unfold scal at h; exact h.elim
  | .oar _ _, h, _ => by unfold scal at h; exact h.elim
  | .bp _ _, h, _ => by unfold scal at h; exact h.elim
  | .ep _ _, h, _ => by unfold scal at h; exact h.elim
  | .arr _ _ _, h, _ => by unfold scal at h; exact h.elim
  | .ap _ _ _ _, h, _ => by unfold scal at h; exact h.elim
  | .fn _ _, h, _ => by unfold scal at h; exact h.elim
theorem scals_adopts (t : Nat) : ∀ (rs : List GV), scals rs → ∀ acc, adopts d t rs acc = (rs, acc)
  | [], _, acc => by unfold adopts; rfl
  | g :: gs, h, acc => by
    unfold scals at h
    unfold adopts
    rw [scal_adopt t g h.1 acc]
    dsimp only
    rw [scals_adopts t gs h.2 acc]
end
/-! ### The operation -/
theorem ge_sound {M : Nat → Nat → Value → Prop} {F : Nat → GV} {a : Act} (hF : ∀ t, VR M G R d (F t) (a.tmps.getD t undef)) (x : Operand) : VR M G R d (ge F x) (a.eval x) := by
  cases x with
  | tmp t => exact hF t
  | const v =>
    show VR M G R d (cv v) v
    unfold cv
    split
    · rename_i cs
      split
      · rename_i h1
        unfold VR
        refine ⟨cs.toList, by simp, fun v hv => List.all_eq_true.1 h1 v hv, ?_⟩
        have := VRs.map (M := M) (G := G) (R := R) (d := d) cv1 id cs.toList (fun v _ => VR.cv1 v)
        rwa [List.map_id] at this
      · unfold VR; trivial
    · exact VR.cv1 v
  | global g => unfold ge; unfold VR; trivial
  | func f => unfold ge Act.eval; unfold VR; exact ⟨[], rfl, VRs.nil⟩
end
end Go.Eng
