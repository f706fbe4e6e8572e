import Derived.Test.YtnahfkmdojbpkaaEQ
/-! The engine, part R: what a call hands out. -/
set_option linter.all false
namespace Go.Eng
section
variable {X : XS} {G : Heap} {R : RMap} {d D : Nat} {w : World}
/-- An object that is handed out, and where it came from. -/
def SrcOK (G : Heap) (R : RMap) (d D : Nat) (κ : Key) : Obj' → Prop
  | .tok n sz => (d < κ.1 ∧ κ.1 ≤ D) ∧ (get G κ = some (.tok n sz) ∨ ∃ es, get G κ = some (.arr es) ∧ es.length = n ∧ (R κ).sz = sz)
  | .box cs' => (d < κ.1 ∧ κ.1 ≤ D) ∧ ∃ cs, get G κ = some (.box cs) ∧ weaks d cs cs'
  | .arr es => (d < κ.1 ∧ κ.1 ≤ D) ∧ get G κ = some (.arr es)
/-- What the adoption of a value adds. -/
structure Adds (G : Heap) (R : RMap) (d D : Nat) (acc acc' : List Obj') (ks ks' : List Key) : Prop where
  len : acc'.length = ks'.length
  objs : ∀ (c : Nat) (o : Obj'), acc[c]? = some o → acc'[c]? = some o
  keys : ∀ (c : Nat) (κ : Key), ks[c]? = some κ → ks'[c]? = some κ
  new : ∀ (c : Nat) (o : Obj') (κ : Key), ks.length ≤ c → acc'[c]? = some o → ks'[c]? = some κ → SrcOK G R d D κ o
  nodup : ks.Nodup → ks'.Nodup
  le : ks.length ≤ ks'.length
theorem Adds.refl {acc : List Obj'} {ks : List Key} (h : acc.length = ks.length) : Adds G R d D acc acc ks ks :=
  ⟨h, fun _ _ h => h, fun _ _ h => h, fun c o κ hc ho hk => by have := (List.getElem?_eq_some_iff.1 hk).1; omega, id, Nat.le_refl _⟩
theorem Adds.trans {acc acc' acc'' : List Obj'} {ks ks' ks'' : List Key} (h : Adds G R d D acc acc' ks ks') (h' : Adds G R d D acc' acc'' ks' ks'') : Adds G R d D acc acc'' ks ks'' := by
  refine ⟨h'.len, fun c o ho => h'.objs c o (h.objs c o ho), fun c κ hk => h'.keys c κ (h.keys c κ hk), fun c o κ hc ho hk => ?_, fun hn => h'.nodup (h.nodup hn), Nat.le_trans h.le h'.le⟩
  rcases Nat.lt_or_ge c ks'.length with hlt | hge
  · have h1 : acc'[c]? = some (acc'[c]'(by rw [h.len]; exact hlt)) := List.getElem?_eq_getElem (by rw [h.len]; exact hlt)
    have h2 : ks'[c]? = some ks'[c] := List.getElem?_eq_getElem hlt
    have h3 := h'.objs c _ h1
    have h4 := h'.keys c _ h2
    rw [ho] at h3; rw [hk] at h4
    cases h3; cases h4
    exact h.new c _ _ hc h1 h2
  · exact h'.new c o κ hge ho hk
theorem Adds.one {acc : List Obj'} {ks : List Key} (h : acc.length = ks.length) {o : Obj'} {κ : Key} (hs : SrcOK G R d D κ o) (hn : κ ∉ ks) : Adds G R d D acc (acc ++ [o]) ks (ks ++ [κ]) := by
  refine ⟨by simp [h], fun c o' ho => ?_, fun c κ' hk => ?_, fun c o' κ' hc ho hk => ?_, fun hd => ?_, by simp⟩
  · rw [List.getElem?_append_left (List.getElem?_eq_some_iff.1 ho).1]; exact ho
  · rw [List.getElem?_append_left (List.getElem?_eq_some_iff.1 hk).1]; exact hk
  · have := (List.getElem?_eq_some_iff.1 hk).1
    simp at this
    have hcl : c = ks.length := by omega
    subst hcl
    rw [List.getElem?_append_right (by omega)] at ho hk
    simp at hk
    rw [← h] at ho
    simp at ho
    rw [← ho, ← hk]; exact hs
  · exact List.nodup_append.2 ⟨hd, by simp, fun a ha b hb => by simp at hb; subst hb; rintro rfl; exact hn ha⟩
/-- A place that takes over. -/
structure Takes (X : XS) (D : Nat) (G : Heap) (R : RMap) (w : World) (d t0 : Nat) (objs : List Obj') (ks : List Key) (M2 : Nat → Nat → Value → Prop) (G2 : Heap) (R2 : RMap) : Prop where
  ext : Ext d (Mem X D G R w) G R M2 G2 R2
  got : ∀ c, get G2 (d, t0, c) = objs[c]?
  at_ : ∀ c κ, ks[c]? = some κ → R2 (d, t0, c) = R κ
  row : ∀ (c : Nat) (κ : Key) (es : List (List PV)) (n sz : Nat), ks[c]? = some κ → objs[c]? = some (.tok n sz) → get G κ = some (.arr es) → es.length = n → (R κ).sz = sz → ∀ (i : Nat) (v : Value), i < (R κ).o + n * sz → w.cell? ⟨(R κ).b, i, none⟩ = some v → v.oneCell' = true → M2 (R κ).b i v
theorem arr_PR (hs : Sim X D G R w) {κ : Key} (hk : κ.1 ≤ D) {es : List (List PV)} (hg : get G κ = some (.arr es)) {M2 : Nat → Nat → Value → Prop} (hM : ∀ b i v, Mem X D G R w b i v → M2 b i v)
    (hrow : ∀ i v, i < (R κ).o + es.length * (R κ).sz → w.cell? ⟨(R κ).b, i, none⟩ = some v → v.oneCell' = true → M2 (R κ).b i v) :
    PR M2 (.sl es) (.slice (some ⟨(R κ).b, (R κ).o, none⟩) es.length (R κ).cap) := by
  obtain ⟨cs, T, h1, h2, h3, h4⟩ := hs.obj κ _ hk hg
  unfold PR
  refine ⟨_, _, rfl, h2, (fun h => by cases h), fun _ => ⟨(R κ).b, (R κ).o, (R κ).sz, rfl, PRss.of_get fun i e hi => ?_⟩⟩
  obtain ⟨h5, h6⟩ := h4 i e hi
  refine ⟨h5, PRs.of_get fun j c hj => ?_⟩
  obtain ⟨v, h7, h8, h9⟩ := h6 j c hj
  have hil := (List.getElem?_eq_some_iff.1 hi).1
  have hjl := (List.getElem?_eq_some_iff.1 hj).1
  refine ⟨v, hrow _ v ?_ (by rw [cell_of_row w _ _ cs T _ h1]; exact h7) h8, PR.mono hM c v h9⟩
  have : (i + 1) * (R κ).sz ≤ es.length * (R κ).sz := Nat.mul_le_mul_right _ hil
  rw [Nat.add_mul] at this
  omega
mutual
theorem ret_sound (hs : Sim X D G R w) {t0 : Nat} : ∀ (g r : GV) (ks0 ks1 : List Key) (x : Value) (acc : List Obj'), Ret G d g r ks0 ks1 → VR (Mem X D G R w) G R D g x → acc.length = ks0.length →
    Adds G R d D acc (adopt d t0 r acc).2 ks0 ks1 ∧ ∀ (objs : List Obj') (ks : List Key) (M2 : Nat → Nat → Value → Prop) (G2 : Heap) (R2 : RMap), (∀ (c : Nat) (o : Obj'), (adopt d t0 r acc).2[c]? = some o → objs[c]? = some o) → (∀ (c : Nat) (κ : Key), ks1[c]? = some κ → ks[c]? = some κ) → Takes X D G R w d t0 objs ks M2 G2 R2 → VR M2 G2 R2 d (adopt d t0 r acc).1 x
  | .undef, r, ks0, ks1, x, acc, hr, hv, hl => by unfold Ret at hr; exact hr.elim
  | .p v, r, ks0, ks1, x, acc, hr, hv, hl => by
    unfold Ret at hr
    obtain ⟨rfl, rfl⟩ := hr
    unfold adopt
    refine ⟨Adds.refl hl, fun objs ks M2 G2 R2 _ _ ht => ?_⟩
    unfold VR at hv ⊢
    exact PR.mono ht.ext.mem _ _ hv
  | .csl es, r, ks0, ks1, x, acc, hr, hv, hl => by
    unfold Ret at hr
    obtain ⟨hr, rfl⟩ := hr
    unfold VR at hv
    rcases hr with rfl | rfl
    · unfold adopt
      refine ⟨Adds.refl hl, fun objs ks M2 G2 R2 _ _ ht => ?_⟩
      unfold VR
      exact ⟨PR.mono ht.ext.mem _ _ hv.1, hv.2⟩
    · unfold adopt
      refine ⟨Adds.refl hl, fun objs ks M2 G2 R2 _ _ ht => ?_⟩
      unfold VR
      exact PR.mono ht.ext.mem _ _ hv.1
  | .tsl es κ, r, ks0, ks1, x, acc, hr, hv, hl => by
    unfold Ret at hr
    have hv0 := hv
    unfold VR at hv
    obtain ⟨h1, h2, n, sz, h3, h4, h5⟩ := hv
    split at hr
    · obtain ⟨rfl, rfl⟩ := hr
      unfold adopt
      refine ⟨Adds.refl hl, fun objs ks M2 G2 R2 _ _ ht => ?_⟩
      unfold VR
      exact PR.mono ht.ext.mem _ _ h1
    · obtain ⟨rfl, hd, hg, hn, rfl⟩ := hr
      rw [h3] at hg
      cases hg
      unfold adopt
      refine ⟨Adds.one hl ⟨⟨hd, h2⟩, .inl h3⟩ hn, fun objs ks M2 G2 R2 ho hk ht => ?_⟩
      have hoc := ho acc.length _ (by dsimp only; rw [List.getElem?_append_right (Nat.le_refl _)]; simp; rfl)
      have hkc := hk acc.length κ (by rw [hl, List.getElem?_append_right (Nat.le_refl _)]; simp)
      unfold VR
      refine ⟨PR.mono ht.ext.mem _ _ h1, Nat.le_refl _, _, _, (ht.got acc.length).trans hoc, Nat.le_refl _, fun _ => ?_⟩
      rw [ht.at_ _ _ hkc]
      exact h5 rfl
    · obtain ⟨rfl, rfl, hd, rfl⟩ := hr
      unfold adopt
      refine ⟨Adds.refl hl, fun objs ks M2 G2 R2 _ _ ht => ?_⟩
      exact VR.ext ht.ext _ _ (okd_VR _ _ (by unfold okd; exact hd) hv0)
    · exact hr.elim
  | .own _ _, r, ks0, ks1, x, acc, hr, hv, hl => by unfold Ret at hr; exact hr.elim
  | .obx _, r, ks0, ks1, x, acc, hr, hv, hl => by unfold Ret at hr; exact hr.elim
  | .bp κ off, r, ks0, ks1, x, acc, hr, hv, hl => by
    unfold Ret at hr
    split at hr
    · obtain ⟨rfl, rfl, hd, rfl⟩ := hr
      unfold adopt
      refine ⟨Adds.refl hl, fun objs ks M2 G2 R2 _ _ ht => ?_⟩
      exact VR.ext ht.ext _ _ (okd_VR _ _ (by unfold okd; exact hd) hv)
    · obtain ⟨hd, rfl, ⟨cs, hg, hw⟩, hn, rfl⟩ := hr
      unfold VR at hv
      obtain ⟨h1, h2, h3⟩ := hv
      unfold adopt
      refine ⟨Adds.one hl ⟨⟨hd, h1⟩, cs, hg, hw⟩ hn, fun objs ks M2 G2 R2 ho hk ht => ?_⟩
      have hoc := ho acc.length _ (by dsimp only; rw [List.getElem?_append_right (Nat.le_refl _)]; simp; rfl)
      have hkc := hk acc.length κ (by rw [hl, List.getElem?_append_right (Nat.le_refl _)]; simp)
      unfold VR
      exact ⟨Nat.le_refl _, ⟨_, (ht.got acc.length).trans hoc⟩, by rw [ht.at_ _ _ hkc]; exact h3⟩
    · exact hr.elim
  | .ep cs off, r, ks0, ks1, x, acc, hr, hv, hl => by
    unfold Ret at hr
    obtain ⟨rfl, rfl⟩ := hr
    unfold adopt
    refine ⟨Adds.refl hl, fun objs ks M2 G2 R2 _ _ ht => ?_⟩
    unfold VR at hv ⊢
    obtain ⟨b, o, h1, h2⟩ := hv
    exact ⟨b, o, h1, PRs.mono ht.ext.mem _ _ _ h2⟩
  | .arr κ n sz, r, ks0, ks1, x, acc, hr, hv, hl => by
    unfold Ret at hr
    have hv0 := hv
    unfold VR at hv
    obtain ⟨h1, h3, es0, h2, _, b, o, c, rfl, h4⟩ := hv
    split at hr
    · obtain ⟨hd, hg, hn', rfl, hn, rfl⟩ := hr
      rw [h2] at hg
      cases hg
      obtain ⟨rfl, rfl, rfl⟩ := h4 hn'
      subst hn'
      unfold adopt
      refine ⟨Adds.one hl ⟨⟨hd, h1⟩, .inr ⟨_, h2, rfl, h3⟩⟩ hn, fun objs ks M2 G2 R2 ho hk ht => ?_⟩
      have hoc := ho acc.length _ (by dsimp only; rw [List.getElem?_append_right (Nat.le_refl _)]; simp; rfl)
      have hkc := hk acc.length κ (by rw [hl, List.getElem?_append_right (Nat.le_refl _)]; simp)
      unfold VR
      refine ⟨?_, Nat.le_refl _, _, _, (ht.got acc.length).trans hoc, Nat.le_refl _, fun _ => ?_⟩
      · exact arr_PR hs h1 h2 ht.ext.mem (by rw [h3]; exact ht.row _ κ _ _ _ hkc hoc h2 rfl h3)
      · rw [ht.at_ _ _ hkc]
    · obtain ⟨hd, hg, hn', rfl, hn, rfl⟩ := hr
      rw [h2] at hg
      cases hg
      obtain ⟨rfl, rfl, rfl⟩ := h4 hn'
      subst hn'
      unfold adopt
      refine ⟨Adds.one hl ⟨⟨hd, h1⟩, h2⟩ hn, fun objs ks M2 G2 R2 ho hk ht => ?_⟩
      have hoc := ho acc.length _ (by dsimp only; rw [List.getElem?_append_right (Nat.le_refl _)]; simp; rfl)
      have hkc := hk acc.length κ (by rw [hl, List.getElem?_append_right (Nat.le_refl _)]; simp)
      unfold VR
      exact ⟨Nat.le_refl _, by rw [ht.at_ _ _ hkc]; exact h3, _, (ht.got acc.length).trans hoc, Nat.le_refl _, _, _, _, rfl, fun _ => by rw [ht.at_ _ _ hkc]; exact ⟨rfl, rfl, rfl⟩⟩
    · obtain ⟨rfl, rfl, rfl, hd, rfl⟩ := hr
      unfold adopt
      refine ⟨Adds.refl hl, fun objs ks M2 G2 R2 _ _ ht => ?_⟩
      exact VR.ext ht.ext _ _ (okd_VR _ _ (by unfold okd; exact hd) hv0)
    · exact hr.elim
  | .oar _ _, r, ks0, ks1, x, acc, hr, hv, hl => by unfold Ret at hr; exact hr.elim
  | .ap _ _ _ _, r, ks0, ks1, x, acc, hr, hv, hl => by unfold Ret at hr; exact hr.elim
  | .fn f gs, r, ks0, ks1, x, acc, hr, hv, hl => by
    unfold Ret at hr
    obtain ⟨rfl, hd, rfl⟩ := hr
    unfold adopt
    refine ⟨Adds.refl hl, fun objs ks M2 G2 R2 _ _ ht => ?_⟩
    exact VR.ext ht.ext _ _ (okd_VR _ _ (by unfold okd; exact hd) hv)
  | .agg gs, r, ks0, ks1, x, acc, hr, hv, hl => by
    unfold Ret at hr
    split at hr
    · rename_i rs
      unfold VR at hv
      obtain ⟨vs, rfl, h1, h2⟩ := hv
      obtain ⟨h3, h4⟩ := rets_sound hs gs rs ks0 ks1 vs acc hr h2 hl
      unfold adopt
      refine ⟨h3, fun objs ks M2 G2 R2 ho hk ht => ?_⟩
      unfold VR
      exact ⟨vs, rfl, h1, h4 objs ks M2 G2 R2 ho hk ht⟩
    · exact hr.elim
  | .tup gs, r, ks0, ks1, x, acc, hr, hv, hl => by
    unfold Ret at hr
    split at hr
    · rename_i rs
      unfold VR at hv
      obtain ⟨vs, rfl, h2⟩ := hv
      obtain ⟨h3, h4⟩ := rets_sound hs gs rs ks0 ks1 vs acc hr h2 hl
      unfold adopt
      refine ⟨h3, fun objs ks M2 G2 R2 ho hk ht => ?_⟩
      unfold VR
      exact ⟨vs, rfl, h4 objs ks M2 G2 R2 ho hk ht⟩
    · exact hr.elim
theorem rets_sound (hs : Sim X D G R w) {t0 : Nat} : ∀ (gs rs : List GV) (ks0 ks1 : List Key) (vs : List Value) (acc : List Obj'), Rets G d gs rs ks0 ks1 → VRs (Mem X D G R w) G R D gs vs → acc.length = ks0.length →
    Adds G R d D acc (adopts d t0 rs acc).2 ks0 ks1 ∧ ∀ (objs : List Obj') (ks : List Key) (M2 : Nat → Nat → Value → Prop) (G2 : Heap) (R2 : RMap), (∀ (c : Nat) (o : Obj'), (adopts d t0 rs acc).2[c]? = some o → objs[c]? = some o) → (∀ (c : Nat) (κ : Key), ks1[c]? = some κ → ks[c]? = some κ) → Takes X D G R w d t0 objs ks M2 G2 R2 → VRs M2 G2 R2 d (adopts d t0 rs acc).1 vs
  | [], rs, ks0, ks1, vs, acc, hr, hv, hl => by
    unfold Rets at hr
    obtain ⟨rfl, rfl⟩ := hr
    have := VRs.length hv
    have hvs : vs = [] := List.eq_nil_of_length_eq_zero this.symm
    subst hvs
    unfold adopts
    exact ⟨Adds.refl hl, fun _ _ _ _ _ _ _ _ => VRs.nil⟩
  | g :: gs, [], ks0, ks1, vs, acc, hr, hv, hl => by unfold Rets at hr; exact hr.elim
  | g :: gs, r :: rs, ks0, ks1, [], acc, hr, hv, hl => by unfold VRs at hv; exact hv.elim
  | g :: gs, r :: rs, ks0, ks1, v :: vs, acc, hr, hv, hl => by
    unfold Rets at hr
    obtain ⟨km, h1, h2⟩ := hr
    unfold VRs at hv
    obtain ⟨h3, h4⟩ := ret_sound hs (t0 := t0) g r ks0 km v acc h1 hv.1 hl
    obtain ⟨h5, h6⟩ := rets_sound hs (t0 := t0) gs rs km ks1 vs _ h2 hv.2 h3.len
    unfold adopts
    exact ⟨h3.trans h5, fun objs ks M2 G2 R2 ho hk ht => VRs.cons (h4 objs ks M2 G2 R2 (fun c o hc => ho c o (h5.objs c o hc)) (fun c κ hc => hk c κ (h5.keys c κ hc)) ht) (h6 objs ks M2 G2 R2 ho hk ht)⟩
end
end
end Go.Eng
