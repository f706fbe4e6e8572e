import Derived.Test.YtnahfkmdojbpkaaEC
/-! The engine, part D: stores, what is laid, what is built. -/
set_option linter.all false
namespace Go.Eng
theorem setCells_row (P : Program) (w : World) (g o : Nat) (t : TypeId) (cur : Array Value) (vs : List Value) (hg : w.heap[g]? = some (.cells cur t (0, 0))) (hl : o + vs.length ≤ cur.size) (h1 : ∀ v ∈ vs, v.oneCell' = true) :
    w.setCells g o vs = w.setRow g (cur.toList.take o ++ vs ++ cur.toList.drop (o + vs.length)).toArray := by
  have h := run_storeCells_at (P := P) g o t vs 0 cur w hg (by simpa using hl) h1
  have h' := run_storeCells_cells (P := P) g o vs 0 w
    (fun j hj => by rw [cell_of_row w g _ cur t _ hg]; simp; omega)
    (fun j hj => frozen_of_row w g _ cur t hg) h1
  rw [h] at h'
  injection h' with _ h'
  simpa using h'.symm

section
variable {X : XS} {P : Program} {G : Heap} {R : RMap} {d : Nat} {w : World}
mutual
theorem okd_VR {M : Nat → Nat → Value → Prop} {k : Nat} : ∀ (g : GV) (x : Value), okd k g → VR M G R d g x → VR M G R k g x
  | .undef, _, _, _ => by unfold VR; trivial
  | .p _, _, _, hv => by unfold VR at hv ⊢; exact hv
  | .csl _, _, _, hv => by unfold VR at hv ⊢; exact hv
  | .tsl _ _, _, ho, hv => by unfold okd at ho; unfold VR at hv ⊢; exact ⟨hv.1, ho, hv.2.2⟩
  | .own _ _, _, _, hv => by unfold VR at hv; exact hv.elim
  | .obx _, _, _, hv => by unfold VR at hv; exact hv.elim
  | .bp _ _, _, ho, hv => by unfold okd at ho; unfold VR at hv ⊢; exact ⟨ho, hv.2⟩
  | .ep _ _, _, _, hv => by unfold VR at hv ⊢; exact hv
  | .oar _ _, _, _, hv => by unfold VR at hv; exact hv.elim
  | .arr _ _ _, _, ho, hv => by unfold okd at ho; unfold VR at hv ⊢; exact ⟨ho, hv.2⟩
  | .ap _ _ _ _, _, ho, hv => by unfold okd at ho; unfold VR at hv ⊢; exact ⟨ho, hv.2⟩
  | .fn _ gs, _, ho, hv => by
    unfold okd at ho; unfold VR at hv ⊢
    obtain ⟨vs, h1, h2⟩ := hv
    exact ⟨vs, h1, okds_VRs gs vs ho h2⟩
  | .agg gs, _, ho, hv => by
    unfold okd at ho; unfold VR at hv ⊢
    obtain ⟨vs, h1, h0, h2⟩ := hv
    exact ⟨vs, h1, h0, okds_VRs gs vs ho h2⟩
  | .tup gs, _, ho, hv => by
    unfold okd at ho; unfold VR at hv ⊢
    obtain ⟨vs, h1, h2⟩ := hv
    exact ⟨vs, h1, okds_VRs gs vs ho h2⟩
theorem okds_VRs {M : Nat → Nat → Value → Prop} {k : Nat} : ∀ (gs : List GV) (vs : List Value), okds k gs → VRs M G R d gs vs → VRs M G R k gs vs
  | [], [], _, _ => VRs.nil
  | g :: gs, v :: vs, ho, hv => by
    unfold okds at ho
    unfold VRs at hv
    exact VRs.cons (okd_VR g v ho.1 hv.1) (okds_VRs gs vs ho.2 hv.2)
  | [], _ :: _, _, hv => by unfold VRs at hv; exact hv.elim
  | _ :: _, [], _, hv => by unfold VRs at hv; exact hv.elim
end

theorem VRs.spl {M : Nat → Nat → Value → Prop} {cs vs : List GV} {xs ys : List Value} (off : Nat) (h : VRs M G R d cs xs) (h' : VRs M G R d vs ys) :
    VRs M G R d (spl cs off vs) (xs.take off ++ (ys ++ xs.drop (off + ys.length))) := by
  unfold Eng.spl
  rw [← VRs.length h']
  exact VRs.app (h.take off) (VRs.app h' (h.drop _))

theorem run_storeVar_at {t : TypeId} {n : Nat} (hz : szT P t = some n) {y : Value} {vs : List Value} (hc : y.cells = vs.toArray) (hn : vs.length = n) (h1 : ∀ v ∈ vs, v.oneCell' = true)
    {b o : Nat} {cs : Array Value} {T : TypeId} (hb : w.heap[b]? = some (.cells cs T (0, 0))) (hl : o + vs.length ≤ cs.size) :
    (Instr.storeAt t (.pointer (some ⟨b, o, none⟩)) y).run P w = .ok () (w.setRow b (cs.toList.take o ++ vs ++ cs.toList.drop (o + vs.length)).toArray) := by
  unfold szT at hz
  cases hi : P.info? t with
  | none => rw [hi] at hz; cases hz
  | some i =>
    rw [hi] at hz
    have hsz : i.size = n := by simpa using hz
    have := run_storeCells_at (P := P) b o T vs 0 cs w hb (by simpa using hl) h1
    simp only [Nat.add_zero] at this
    simp [Instr.storeAt, Instr.sureAddr, storeVar, sizeOf, typeInfo, hi, hc, hsz, hn, this]
end

section
variable {X : XS} {P : Program} {G : Heap} {R : RMap} {d : Nat} {w : World}
theorem purs_get {M : Nat → Nat → Value → Prop} : ∀ {gs : List GV} {ps : List PV} {vs : List Value}, purs gs = some ps → VRs M G R d gs vs → ps.length = vs.length ∧ ∀ (i : Nat) (p : PV), ps[i]? = some p → ∃ v, vs[i]? = some v ∧ PR M p v
  | [], ps, vs, hp, hv => by
    simp [purs] at hp
    subst hp
    have := VRs.length hv
    simp at this
    exact ⟨by simpa using this, fun i p h => by simp at h⟩
  | g :: gs, ps, [], _, hv => by unfold VRs at hv; exact hv.elim
  | g :: gs, ps, v :: vs, hp, hv => by
    unfold VRs at hv
    unfold purs at hp
    split at hp
    · rename_i q qs hq hqs
      cases hp
      obtain ⟨h1, h2⟩ := purs_get hqs hv.2
      refine ⟨by simp [h1], fun i p hi => ?_⟩
      cases i with
      | zero => simp at hi; subst hi; exact ⟨v, rfl, VR.pur hv.1 hq⟩
      | succ i => simp at hi; simpa using h2 i p hi
    · cases hp

theorem Sim.arrSet (hs : Sim X d G R w) {κ0 : Key} {es es' : List (List PV)} {w' : World} (hk0 : κ0.1 ≤ d) (h0 : get G κ0 = some (.arr es)) (hlen : es'.length = es.length) (hsz0 : w.heap.size ≤ w'.heap.size)
    (hold : ∀ b, b < w.heap.size → b ≠ (R κ0).b → w'.heap[b]? = w.heap[b]?)
    {cs' : Array Value} {T : TypeId} (hc : w'.heap[(R κ0).b]? = some (.cells cs' T (0, 0))) (hcap : es'.length ≤ (R κ0).cap) (hsz : (R κ0).o + (R κ0).cap * (R κ0).sz ≤ cs'.size)
    (hv : ∀ i e, es'[i]? = some e → e.length = (R κ0).sz ∧ ∀ j c, e[j]? = some c → ∃ v, cs'[(R κ0).o + i * (R κ0).sz + j]? = some v ∧ v.oneCell' = true ∧ PR (Mem X d G R w) c v) :
    Sim X d (setKey G κ0 (.arr es')) R w' ∧ Ext d (Mem X d G R w) G R (Mem X d (setKey G κ0 (.arr es')) R w') (setKey G κ0 (.arr es')) R := by
  have hg : ∀ κ, get (setKey G κ0 (.arr es')) κ = if κ = κ0 then some (.arr es') else get G κ := fun κ => by
    rw [get_setKey, h0]; rfl
  have hx : Ext d (Mem X d G R w) G R (Mem X d (setKey G κ0 (.arr es')) R w') (setKey G κ0 (.arr es')) R := by
    refine ⟨fun b i v hm => ?_, fun κ cs hk hgk => ⟨⟨cs, ?_⟩, rfl⟩, fun κ n _ hk hgk => ⟨n, ?_, Nat.le_refl _, fun _ => rfl⟩, fun κ xs hk hgk => ⟨rfl, ?_⟩⟩
    · have hbne : b ≠ (R κ0).b := fun e => by
        obtain ⟨n, _, hn, _⟩ := hm.2.2.2 κ0 _ hk0 h0 e.symm
        cases hn
      have hlt : b < w.heap.size := block_lt_of_cell hm.1
      refine ⟨by rw [cell_heap w w' _ (hold b hlt hbne)]; exact hm.1, hm.2.1, hm.2.2.1, fun κ o hk hgk hbb => ?_⟩
      rw [hg] at hgk
      by_cases e : κ = κ0
      · rw [e] at hbb; exact absurd hbb.symm hbne
      · rw [if_neg e] at hgk; exact hm.2.2.2 κ o hk hgk hbb
    · rw [hg, if_neg, hgk]; rintro rfl; rw [h0] at hgk; cases hgk
    · rw [hg, if_neg, hgk]; rintro rfl; rw [h0] at hgk; cases hgk
    · rw [hg]; by_cases e : κ = κ0
      · rw [if_pos e]
        rw [e, h0] at hgk
        cases hgk
        exact ⟨_, rfl, Nat.le_of_eq hlen.symm, fun _ => rfl⟩
      · rw [if_neg e]; exact ⟨_, hgk, Nat.le_refl _, fun _ => rfl⟩
  refine ⟨hs.change hk0 h0 hold hg (fun _ _ => rfl) (.inl rfl) hx ⟨cs', T, hc, hcap, hsz, fun i e he => ?_⟩ hsz0, hx⟩
  obtain ⟨h1, h2⟩ := hv i e he
  refine ⟨h1, fun j c hj => ?_⟩
  obtain ⟨v, h3, h4, h5⟩ := h2 j c hj
  exact ⟨v, h3, h4, PR.mono hx.mem _ _ h5⟩

/-- A step that changes one object's block alone. -/
theorem Fr.one {κ0 : Key} {o0 o' : Obj'} {w' : World} (hk0 : κ0.1 ≤ d) (h0 : get G κ0 = some o0) (hsz : w.heap.size ≤ w'.heap.size) (hold : ∀ b, b < w.heap.size → b ≠ (R κ0).b → w'.heap[b]? = w.heap[b]?) (henv : SameEnv w w') :
    Fr d G R w (setKey G κ0 o') R w' := by
  refine ⟨hsz, fun b hb hn => hold b hb (fun e => hn κ0 o0 hk0 h0 e.symm), fun κ o hk hg _ => ?_, henv⟩
  rw [get_setKey, h0] at hg
  by_cases e : κ = κ0
  · rw [e]; exact ⟨κ0, o0, hk0, h0, rfl⟩
  · rw [if_neg e] at hg; exact ⟨κ, o, hk, hg, rfl⟩

theorem set_dom {κ : Key} {o : Obj'} : ∀ k t, k < d → G k t = [] → setKey G κ o k t = [] := fun k t _ h => by
  unfold setKey
  split
  · rw [h]; rfl
  · exact h

theorem store_sound (hs : Sim X d G R w) {t : TypeId} {g v : GV} {x y : Value} {K : Dl → Prop} (hx : VR (Mem X d G R w) G R d g x) (hy : VR (Mem X d G R w) G R d v y) (h : gStore P G t g v K) :
    ∃ κ o w', K (.set κ o) ∧ (Instr.storeAt t x y).run P w = .ok () w' ∧ Step X d G R w (setKey G κ o) R w' := by
  unfold gStore at h
  split at h
  · rename_i vs hvs
    obtain ⟨hz, h⟩ := h
    obtain ⟨ys, hyc, hy1, hyv, _⟩ := hy.cells hvs
    have hlen := VRs.length hyv
    split at h
    · rename_i κ off
      unfold VR at hx
      obtain ⟨hk, _, rfl⟩ := hx
      split at h
      · rename_i cells hg
        obtain ⟨hle, hok, hK⟩ := h
        obtain ⟨cs, T, h1, h2, h3⟩ := hs.obj κ _ hk hg
        have hcl := VRs.length h3
        simp only [Array.length_toList] at hcl
        have hrun := run_storeVar_at (P := P) (w := w) hz hyc hlen.symm hy1 (o := off) h1 (by omega)
        have hv' : VRs (Mem X d G R w) G R κ.1 (spl cells off vs) (cs.toList.take off ++ (ys ++ cs.toList.drop (off + ys.length))) :=
          VRs.spl off h3 (okds_VRs _ _ hok hyv)
        have hold : ∀ b, b < w.heap.size → b ≠ (R κ).b → (w.setRow (R κ).b (cs.toList.take off ++ ys ++ cs.toList.drop (off + ys.length)).toArray).heap[b]? = w.heap[b]? := fun b _ hb => setRow_other w _ _ _ hb
        obtain ⟨hs', hx'⟩ := hs.write hk hg (cells' := spl cells off vs) (w' := w.setRow (R κ).b (cs.toList.take off ++ ys ++ cs.toList.drop (off + ys.length)).toArray) (by simp) hold
          (cs' := (cs.toList.take off ++ ys ++ cs.toList.drop (off + ys.length)).toArray) (setRow_heap w _ _ _ _ _ h1)
          (fun v hv => by
            simp only [List.append_assoc, List.mem_append] at hv
            rcases hv with hv | hv | hv
            · exact h2 v (List.mem_of_mem_take hv)
            · exact hy1 v hv
            · exact h2 v (List.mem_of_mem_drop hv))
          (by simpa [List.append_assoc] using hv')
        exact ⟨κ, _, _, hK, hrun, hs', hx', Fr.one hk hg (by simp) hold ⟨rfl, rfl, rfl⟩⟩
      · exact h.elim
    · rename_i κ n i off
      unfold VR at hx
      obtain ⟨hk, hin, es0, hg0, hle0, b, o, rfl, ha⟩ := hx
      split at h
      · rename_i es ps hg hps
        have e0 : es = es0 := by rw [hg] at hg0; injection hg0 with e; injection e
        subst e0
        obtain ⟨hen, h⟩ := h
        obtain ⟨rfl, rfl⟩ := ha hen
        split at h
        · rename_i e he
          obtain ⟨hle, hK⟩ := h
          obtain ⟨hpl, hpg⟩ := purs_get hps hyv
          obtain ⟨cs, T, h1, hcap, hsize, h4⟩ := hs.obj κ _ hk hg
          have hi : i < es.length := (List.getElem?_eq_some_iff.1 he).1
          have hroom : (R κ).o + i * (R κ).sz + (R κ).sz ≤ cs.size := by
            have : (i + 1) * (R κ).sz ≤ (R κ).cap * (R κ).sz := Nat.mul_le_mul_right _ (by omega)
            rw [Nat.add_mul] at this
            omega
          obtain ⟨hel, heg⟩ := h4 i e he
          have hrun := run_storeVar_at (P := P) (w := w) hz hyc hlen.symm hy1 (o := (R κ).o + i * (R κ).sz + off) h1 (by omega)
          have hold : ∀ b, b < w.heap.size → b ≠ (R κ).b → (w.setRow (R κ).b (cs.toList.take ((R κ).o + i * (R κ).sz + off) ++ ys ++ cs.toList.drop ((R κ).o + i * (R κ).sz + off + ys.length)).toArray).heap[b]? = w.heap[b]? := fun b _ hb => setRow_other w _ _ _ hb
          have hsz' : (cs.toList.take ((R κ).o + i * (R κ).sz + off) ++ ys ++ cs.toList.drop ((R κ).o + i * (R κ).sz + off + ys.length)).toArray.size = cs.size := by
            simp; omega
          -- a cell of the new row
          have hcell : ∀ k : Nat, (cs.toList.take ((R κ).o + i * (R κ).sz + off) ++ ys ++ cs.toList.drop ((R κ).o + i * (R κ).sz + off + ys.length)).toArray[k]? =
              if (R κ).o + i * (R κ).sz + off ≤ k ∧ k < (R κ).o + i * (R κ).sz + off + ys.length then ys[k - ((R κ).o + i * (R κ).sz + off)]? else cs[k]? := fun k => by
            simp only [List.getElem?_toArray, List.getElem?_append, List.length_append, List.length_take, Array.length_toList, List.getElem?_take, List.getElem?_drop, Array.getElem?_toList]
            have hm : min ((R κ).o + i * (R κ).sz + off) cs.size = (R κ).o + i * (R κ).sz + off := by omega
            rw [hm]
            by_cases c1 : k < (R κ).o + i * (R κ).sz + off
            · rw [if_pos (by omega), if_pos c1, if_pos c1, if_neg (by omega)]
            · by_cases c2 : k < (R κ).o + i * (R κ).sz + off + ys.length
              · rw [if_pos (by omega), if_neg c1, if_pos (by omega)]
              · rw [if_neg (by omega), if_neg (by omega)]
                congr 1; omega
          obtain ⟨hs', hx'⟩ := hs.arrSet hk hg (es' := es.set i (splP e off ps)) (w' := w.setRow (R κ).b (cs.toList.take ((R κ).o + i * (R κ).sz + off) ++ ys ++ cs.toList.drop ((R κ).o + i * (R κ).sz + off + ys.length)).toArray) (by simp) (by simp) hold
            (cs' := (cs.toList.take ((R κ).o + i * (R κ).sz + off) ++ ys ++ cs.toList.drop ((R κ).o + i * (R κ).sz + off + ys.length)).toArray) (setRow_heap w _ _ _ _ _ h1) (by simpa using hcap) (by rw [hsz']; exact hsize)
            (fun i' e' he' => by
              by_cases hii : i' = i
              · subst hii
                rw [List.getElem?_set_self (by omega)] at he'
                cases he'
                refine ⟨by unfold splP; simp; omega, fun j c hj => ?_⟩
                unfold splP at hj
                simp only [List.getElem?_append, List.length_take, List.getElem?_take, List.getElem?_drop] at hj
                have hm : min off e.length = off := by omega
                rw [hm] at hj
                by_cases c1 : j < off
                · rw [if_pos c1, if_pos c1] at hj
                  obtain ⟨v, h5, h6, h7⟩ := heg j c hj
                  exact ⟨v, by rw [hcell, if_neg (by omega)]; exact h5, h6, h7⟩
                · rw [if_neg c1] at hj
                  by_cases c2 : j - off < ps.length
                  · rw [if_pos c2] at hj
                    obtain ⟨v, h5, h6⟩ := hpg _ _ hj
                    refine ⟨v, ?_, hy1 v (List.mem_of_getElem? h5), h6⟩
                    rw [hcell, if_pos (by omega), show (R κ).o + i' * (R κ).sz + j - ((R κ).o + i' * (R κ).sz + off) = j - off by omega]
                    exact h5
                  · rw [if_neg c2] at hj
                    obtain ⟨v, h5, h6, h7⟩ := heg _ c hj
                    refine ⟨v, ?_, h6, h7⟩
                    rw [hcell, if_neg (by omega), ← h5]
                    congr 1; omega
              · rw [List.getElem?_set_ne (Ne.symm hii)] at he'
                obtain ⟨h5, h6⟩ := h4 i' e' he'
                refine ⟨h5, fun j c hj => ?_⟩
                obtain ⟨v, h7, h8, h9⟩ := h6 j c hj
                refine ⟨v, ?_, h8, h9⟩
                have hj' : j < (R κ).sz := by have := (List.getElem?_eq_some_iff.1 hj).1; omega
                rw [hcell, if_neg, h7]
                rintro ⟨a1, a2⟩
                rcases Nat.lt_or_gt_of_ne hii with hlt | hlt
                · have : (i' + 1) * (R κ).sz ≤ i * (R κ).sz := Nat.mul_le_mul_right _ hlt
                  rw [Nat.add_mul] at this
                  omega
                · have : (i + 1) * (R κ).sz ≤ i' * (R κ).sz := Nat.mul_le_mul_right _ hlt
                  rw [Nat.add_mul] at this
                  omega)
          exact ⟨κ, _, _, hK, hrun, hs', hx', Fr.one hk hg (by simp) hold ⟨rfl, rfl, rfl⟩⟩
        · exact h.elim
      · exact h.elim
    · exact h.elim
  · exact h.elim
end
end Go.Eng
