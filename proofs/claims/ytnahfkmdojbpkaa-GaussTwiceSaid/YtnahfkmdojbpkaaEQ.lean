import Derived.Test.YtnahfkmdojbpkaaEO
/-! The engine, part Q: a function's text. -/
set_option linter.all false
namespace Go.Eng
section
variable {P : Program} {c : Code} {Q : Exit → Act → World → Prop} {a : Act} {w : World}
/-- A loop's round stands ahead. -/
def LW (P : Program) (c : Code) (Q : Exit → Act → World → Prop) (a : Act) (w : World) : Prop :=
  ∀ (b : Frame) (k : List Item) (cs : List Frame), ∃ e a' w', Q e a' w' ∧ Arrives P (lone (b.at a (.code c :: .inLoop c :: k)) cs w) b k cs e a' w'
theorem LW.step (h : c.wp P (Exit.then (LW P c Q) Q) a w) : LW P c Q a w := by
  intro b k cs
  obtain ⟨e, a₁, w₁, hq, harr⟩ := h b (.inLoop c :: k) cs
  cases e with
  | normal =>
    obtain ⟨e₂, a₂, w₂, hq₂, harr₂⟩ := hq b k cs
    exact ⟨e₂, a₂, w₂, hq₂, .of_steps (Steps.trans harr (.one step_inLoop)) harr₂⟩
  | exit id => exact ⟨_, a₁, w₁, hq, .pass (x := .inLoop c) rfl (fun _ _ => .inl (by simp)) harr⟩
  | goto l => exact ⟨_, a₁, w₁, hq, .pass (x := .inLoop c) rfl (fun _ _ => .inl (by simp)) harr⟩
  | ret => exact ⟨_, a₁, w₁, hq, .pass (x := .inLoop c) rfl (fun _ _ => .inl (by simp)) harr⟩
  | panic ch => exact ⟨_, a₁, w₁, hq, .pass (x := .inLoop c) rfl (fun _ _ => .inl (by simp)) harr⟩
  | outgrown => exact ⟨_, a₁, w₁, hq, .pass (x := .inLoop c) rfl (fun _ _ => .inl (by simp)) harr⟩
theorem LW.wp (h : LW P c Q a w) : (Code.loop c).wp P Q a w := fun b k cs => by
  obtain ⟨e, a', w', hq, harr⟩ := h b k cs
  exact ⟨e, a', w', hq, .of_steps (.one step_loop) harr⟩
end

/-! ### Slots made free -/
section
variable {X : XS} {G : Heap} {R : RMap} {d : Nat} {w : World}
def cleanG (d : Nat) (ts : List Nat) (G : Heap) : Heap := fun k t => if k = d then (if t ∈ ts then [] else (G k t).map (poisonO d ts)) else G k t
theorem get_clean {ts : List Nat} (κ : Key) : get (cleanG d ts G) κ = if κ.1 = d then (if κ.2.1 ∈ ts then none else (get G κ).map (poisonO d ts)) else get G κ := by
  unfold get cleanG
  split
  · split
    · rfl
    · rw [List.getElem?_map]
  · rfl
theorem get_clean_some {ts : List Nat} {κ : Key} {o : Obj'} (h : get (cleanG d ts G) κ = some o) : ∃ o0, get G κ = some o0 ∧ ((κ.1 = d ∧ o = poisonO d ts o0) ∨ (κ.1 ≠ d ∧ o = o0)) := by
  rw [get_clean] at h
  split at h
  · rename_i e
    split at h
    · cases h
    · cases hg : get G κ with
      | none => rw [hg] at h; cases h
      | some o0 => rw [hg] at h; cases h; exact ⟨o0, rfl, .inl ⟨e, rfl⟩⟩
  · rename_i e; exact ⟨o, h, .inr ⟨e, rfl⟩⟩
theorem clean_Mem {ts : List Nat} : ∀ b i v, Mem X d G R w b i v → Mem X d (cleanG d ts G) R w b i v := fun b i v hm => by
  refine ⟨hm.1, hm.2.1, hm.2.2.1, fun κ o hk hg hb => ?_⟩
  obtain ⟨o0, h1, h2⟩ := get_clean_some hg
  obtain ⟨n, sz, h3, h4⟩ := hm.2.2.2 κ o0 hk h1 hb
  subst h3
  rcases h2 with ⟨_, rfl⟩ | ⟨_, rfl⟩
  · exact ⟨n, sz, rfl, h4⟩
  · exact ⟨n, sz, rfl, h4⟩
theorem clean_Ext {ts : List Nat} {k : Nat} (hk : k < d) : Ext k (Mem X d G R w) G R (Mem X d (cleanG d ts G) R w) (cleanG d ts G) R := by
  have same : ∀ κ : Key, κ.1 ≤ k → get (cleanG d ts G) κ = get G κ := fun κ h => by rw [get_clean, if_neg (by omega)]
  exact ⟨clean_Mem, fun κ cs h hg => ⟨⟨cs, by rw [same κ h]; exact hg⟩, rfl⟩, fun κ n sz h hg => ⟨n, by rw [same κ h]; exact hg, Nat.le_refl _, fun _ => rfl⟩, fun κ es h hg => ⟨rfl, es, by rw [same κ h]; exact hg, Nat.le_refl _, fun _ => rfl⟩⟩
mutual
theorem poison_VR {M M' : Nat → Nat → Value → Prop} (hM : ∀ b i v, M b i v → M' b i v) {ts : List Nat} : ∀ (g : GV) (x : Value), VR M G R d g x → VR M' (cleanG d ts G) R d (poison d ts g) x
  | .undef, _, _ => by unfold poison VR; trivial
  | .p _, _, hv => by unfold poison; unfold VR at hv ⊢; exact PR.mono hM _ _ hv
  | .csl _, _, hv => by unfold poison; unfold VR at hv ⊢; exact ⟨PR.mono hM _ _ hv.1, hv.2⟩
  | .tsl es κ, x, hv => by
    unfold poison
    unfold VR at hv
    obtain ⟨h1, h2, n, sz, h3, h4, h5⟩ := hv
    split
    · unfold VR; exact PR.mono hM _ _ h1
    · rename_i hn
      unfold VR
      refine ⟨PR.mono hM _ _ h1, h2, n, sz, ?_, h4, h5⟩
      rw [get_clean]
      split
      · rename_i e
        rw [if_neg (fun h => hn ⟨e, h⟩), h3]; rfl
      · exact h3
  | .own _ _, _, hv => by unfold VR at hv; exact hv.elim
  | .obx _, _, hv => by unfold VR at hv; exact hv.elim
  | .bp κ off, x, hv => by
    unfold poison
    unfold VR at hv
    obtain ⟨h1, ⟨cs, h2⟩, h3⟩ := hv
    split
    · unfold VR; trivial
    · rename_i hn
      unfold VR
      refine ⟨h1, ?_, h3⟩
      rw [get_clean]
      split
      · rename_i e
        rw [if_neg (fun h => hn ⟨e, h⟩), h2]; exact ⟨_, rfl⟩
      · exact ⟨cs, h2⟩
  | .ep _ _, _, hv => by
    unfold poison
    unfold VR at hv ⊢
    obtain ⟨b, o, h1, h2⟩ := hv
    exact ⟨b, o, h1, PRs.mono hM _ _ _ h2⟩
  | .arr κ n sz, x, hv => by
    unfold poison
    unfold VR at hv
    obtain ⟨h1, h3, es, h2, h2'⟩ := hv
    split
    · unfold VR; trivial
    · rename_i hn
      unfold VR
      refine ⟨h1, h3, es, ?_, h2'⟩
      rw [get_clean]
      split
      · rename_i e
        rw [if_neg (fun h => hn ⟨e, h⟩), h2]; rfl
      · exact h2
  | .oar _ _, x, hv => by unfold VR at hv; exact hv.elim
  | .ap κ n i off, x, hv => by
    unfold poison
    unfold VR at hv
    obtain ⟨h1, h3, es, h2, h2'⟩ := hv
    split
    · unfold VR; trivial
    · rename_i hn
      unfold VR
      refine ⟨h1, h3, es, ?_, h2'⟩
      rw [get_clean]
      split
      · rename_i e
        rw [if_neg (fun h => hn ⟨e, h⟩), h2]; rfl
      · exact h2
  | .fn f gs, _, hv => by
    unfold poison
    unfold VR at hv ⊢
    obtain ⟨vs, h1, h2⟩ := hv
    exact ⟨vs, h1, poison_VRs hM gs vs h2⟩
  | .agg gs, _, hv => by
    unfold poison
    unfold VR at hv ⊢
    obtain ⟨vs, h1, h0, h2⟩ := hv
    exact ⟨vs, h1, h0, poison_VRs hM gs vs h2⟩
  | .tup gs, _, hv => by
    unfold poison
    unfold VR at hv ⊢
    obtain ⟨vs, h1, h2⟩ := hv
    exact ⟨vs, h1, poison_VRs hM gs vs h2⟩
theorem poison_VRs {M M' : Nat → Nat → Value → Prop} (hM : ∀ b i v, M b i v → M' b i v) {ts : List Nat} : ∀ (gs : List GV) (vs : List Value), VRs M G R d gs vs → VRs M' (cleanG d ts G) R d (poisons d ts gs) vs
  | [], [], _ => by unfold poisons; exact VRs.nil
  | g :: gs, v :: vs, hv => by
    unfold poisons
    unfold VRs at hv
    exact VRs.cons (poison_VR hM g v hv.1) (poison_VRs hM gs vs hv.2)
  | [], _ :: _, hv => by unfold VRs at hv; exact hv.elim
  | _ :: _, [], hv => by unfold VRs at hv; exact hv.elim
end
theorem clean_Sim {ts : List Nat} (hs : Sim X d G R w) : Sim X d (cleanG d ts G) R w := by
  refine ⟨fun κ κ' o o' hk hk' hg hg' hb => ?_, fun κ o hk hg => ?_, hs.off, fun κ o hk hg => ?_, fun b o htb => ⟨(hs.tab b o htb).1, fun κ o' hk hg => ?_⟩⟩
  · obtain ⟨o0, h1, _⟩ := get_clean_some hg
    obtain ⟨o0', h1', _⟩ := get_clean_some hg'
    exact hs.inj κ κ' o0 o0' hk hk' h1 h1' hb
  · obtain ⟨o0, h1, h2⟩ := get_clean_some hg
    have hok := hs.obj κ o0 hk h1
    rcases h2 with ⟨e, rfl⟩ | ⟨e, rfl⟩
    · cases o0 with
      | box cells =>
        obtain ⟨cs, T, h3, h4, h5⟩ := hok
        refine ⟨cs, T, h3, h4, ?_⟩
        rw [e] at h5 ⊢
        exact poison_VRs clean_Mem _ _ h5
      | tok n sz => exact hok
      | arr es =>
        obtain ⟨cs, T, h3, h4, h5, h6⟩ := hok
        refine ⟨cs, T, h3, h4, h5, fun i e' he => ⟨(h6 i e' he).1, fun j c hj => ?_⟩⟩
        obtain ⟨v, h7, h8, h9⟩ := (h6 i e' he).2 j c hj
        exact ⟨v, h7, h8, PR.mono clean_Mem _ _ h9⟩
    · exact hok.ext' (clean_Ext (by omega)) rfl rfl
  · obtain ⟨o0, h1, _⟩ := get_clean_some hg
    exact hs.apart κ o0 hk h1
  · obtain ⟨o0, h1, _⟩ := get_clean_some hg
    exact (hs.tab b o htb).2 κ o0 hk h1
end
end Go.Eng
