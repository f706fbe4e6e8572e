import Derived.Test.YtnahfkmdojbpkaaED
/-! The engine, part E: what is laid, built, indexed, sliced, reckoned. -/
set_option linter.all false
namespace Go.Eng
section
variable {X : XS} {P : Program} {G : Heap} {R : RMap} {d : Nat} {w : World}

/-- A new object in a new block, as a step. -/
theorem Step.fillAt (hs : Sim X d G R w) {w' : World} (h : Grows w w') {d0 t0 : Nat} (hd : d0 ≤ d) (he : G d0 t0 = []) (o : Obj') (r : RObj) (hb : w.heap.size ≤ r.b)
    (hok : ∀ (G' : Heap) (R' : RMap), Ext d (Mem X d G R w) G R (Mem X d G' R' w') G' R' → R' (d0, t0, 0) = r → OK X d G' R' w' (d0, t0, 0) o) :
    Step X d G R w (fillKey G d0 t0 [o]) (setR R (d0, t0, 0) r) w' := by
  obtain ⟨h1, h2⟩ := hs.fill h hd he o r hb (fun M' G' R' hx hM hr => by
    have : M' = Mem X d G' R' w' := by funext b i v; exact propext (hM b i v)
    subst this
    exact hok G' R' hx hr)
  refine ⟨h1, h2, ⟨h.size, fun b hb _ => h.old b hb, fun κ o' hk hg hlt => ?_, h.env⟩⟩
  rw [get_fillKey] at hg
  by_cases e : κ.1 = d0 ∧ κ.2.1 = t0
  · rw [if_pos e] at hg
    have hc : κ.2.2 = 0 := by
      cases hc : κ.2.2 with
      | zero => rfl
      | succ n => rw [hc] at hg; simp at hg
    have : κ = (d0, t0, 0) := by obtain ⟨a, b, c⟩ := κ; simp at e hc; simp [e, hc]
    rw [this] at hlt
    simp only [setR, if_true] at hlt
    omega
  · rw [if_neg e] at hg
    refine ⟨κ, o', hk, hg, ?_⟩
    unfold setR
    rw [if_neg]
    rintro rfl
    exact e ⟨rfl, rfl⟩
theorem Step.fill (hs : Sim X d G R w) {w' : World} (h : Grows w w') {t0 : Nat} (he : G d t0 = []) (o : Obj') (r : RObj) (hb : w.heap.size ≤ r.b)
    (hok : ∀ (G' : Heap) (R' : RMap), Ext d (Mem X d G R w) G R (Mem X d G' R' w') G' R' → R' (d, t0, 0) = r → OK X d G' R' w' (d, t0, 0) o) :
    Step X d G R w (fillKey G d t0 [o]) (setR R (d, t0, 0) r) w' := Step.fillAt hs h (Nat.le_refl d) he o r hb hok
theorem get_fill_new (G : Heap) (d t0 : Nat) (o : Obj') : get (fillKey G d t0 [o]) (d, t0, 0) = some o := by
  rw [get_fillKey]; simp
theorem newBox (hs : Sim X d G R w) {t0 : Nat} (he : G d t0 = []) {gs : List GV} {vs : List Value} (T : TypeId) (hv : VRs (Mem X d G R w) G R d gs vs) (h1 : ∀ v ∈ vs, v.oneCell' = true) :
    ∃ R', Step X d G R w (fillKey G d t0 [.box gs]) R' (w.alloc (.cells vs.toArray T)) ∧
      VR (Mem X d (fillKey G d t0 [.box gs]) R' (w.alloc (.cells vs.toArray T))) (fillKey G d t0 [.box gs]) R' d (.bp (d, t0, 0) 0) (.pointer (some ⟨w.heap.size, 0, none⟩)) := by
  refine ⟨_, Step.fill hs (Grows.alloc w _) he (.box gs) ⟨w.heap.size, 0, 0, 0⟩ (Nat.le_refl _) (fun G' R' hx hr => ⟨vs.toArray, T, by rw [hr]; exact heap_alloc_new w _, by simpa using h1, by simpa using VRs.ext hx _ _ hv⟩), ?_⟩
  unfold VR
  exact ⟨Nat.le_refl _, ⟨gs, get_fill_new G d t0 _⟩, by simp [setR]⟩
theorem newArr (hs : Sim X d G R w) {t0 : Nat} (he : G d t0 = []) {es : List (List PV)} {vs : List Value} {sz n : Nat} (T : TypeId) (hn : es.length = n) (hl : vs.length = n * sz) (h1 : ∀ v ∈ vs, v.oneCell' = true)
    (hv : ∀ i e, es[i]? = some e → e.length = sz ∧ ∀ j c, e[j]? = some c → ∃ v, vs[i * sz + j]? = some v ∧ PR (Mem X d G R w) c v) :
    ∃ R', Step X d G R w (fillKey G d t0 [.arr es]) R' (w.alloc (.cells vs.toArray T)) ∧
      VR (Mem X d (fillKey G d t0 [.arr es]) R' (w.alloc (.cells vs.toArray T))) (fillKey G d t0 [.arr es]) R' d (.arr (d, t0, 0) n sz) (.slice (some ⟨w.heap.size, 0, none⟩) n n) := by
  refine ⟨_, Step.fill hs (Grows.alloc w _) he (.arr es) ⟨w.heap.size, 0, n, sz⟩ (Nat.le_refl _) (fun G' R' hx hr => ⟨vs.toArray, T, by rw [hr]; exact heap_alloc_new w _, by rw [hr]; exact Nat.le_of_eq hn, by rw [hr]; simp [hl], fun i e hi => ?_⟩), ?_⟩
  · rw [hr]
    obtain ⟨h2, h3⟩ := hv i e hi
    refine ⟨h2, fun j c hj => ?_⟩
    obtain ⟨v, h4, h5⟩ := h3 j c hj
    exact ⟨v, by simpa using h4, h1 v (List.mem_of_getElem? h4), PR.mono hx.mem _ _ h5⟩
  · unfold VR
    exact ⟨Nat.le_refl _, by simp [setR], es, get_fill_new G d t0 _, Nat.le_of_eq hn.symm, _, _, _, rfl, fun _ => by simp [setR]⟩

/-! ### What is built -/
theorem foldl_set_toList : ∀ (vs : List Value) (k off : Nat) (cs : Array Value), off + k + vs.length ≤ cs.size →
    ((vs.zipIdx k).foldl (fun cs (x : Value × Nat) => cs.setIfInBounds (off + x.2) x.1) cs).toList = cs.toList.take (off + k) ++ (vs ++ cs.toList.drop (off + k + vs.length))
  | [], k, off, cs, _ => by simp
  | v :: vs, k, off, cs, h => by
    simp only [List.zipIdx_cons, List.foldl_cons]
    rw [foldl_set_toList vs (k + 1) off _ (by simp at h ⊢; omega)]
    simp only [Array.toList_setIfInBounds, List.length_cons] at h ⊢
    apply List.ext_getElem?
    intro i
    simp only [List.getElem?_append, List.length_take, List.length_set, Array.length_toList, List.getElem?_take, List.getElem?_set, List.getElem?_drop, List.length_cons]
    have hm1 : min (off + (k + 1)) cs.size = off + k + 1 := by omega
    have hm2 : min (off + k) cs.size = off + k := by omega
    rw [hm1, hm2]
    by_cases c1 : i < off + k
    · rw [if_pos (by omega), if_pos (by omega), if_neg (by omega), if_pos c1, if_pos c1]
    · by_cases c2 : i = off + k
      · subst c2
        rw [if_pos (by omega), if_pos (by omega), if_pos rfl, if_pos (by omega), if_neg (by omega), if_pos (by omega), Nat.sub_self]
        rfl
      · rw [if_neg (show ¬ i < off + k + 1 by omega), if_neg c1]
        by_cases c3 : i - (off + k + 1) < vs.length
        · rw [if_pos c3, if_pos (show i - (off + k) < vs.length + 1 by omega), show i - (off + k) = (i - (off + k + 1)) + 1 by omega, List.getElem?_cons_succ]
        · rw [if_neg c3, if_neg (show ¬ i - (off + k) < vs.length + 1 by omega), if_neg (by omega)]
          congr 1; omega
theorem gfill_sound {M : Nat → Nat → Value → Prop} {pl : Nat → Option (Nat × Nat)} : ∀ (parts : List (Nat × GV)) (vals : List (Nat × Value)) (cells cells' : List GV) (cs : Array Value),
    parts.length = vals.length → (∀ (i : Nat) (p : Nat × GV) (q : Nat × Value), parts[i]? = some p → vals[i]? = some q → p.1 = q.1 ∧ VR M G R d p.2 q.2) → VRs M G R d cells cs.toList → (∀ v ∈ cs.toList, v.oneCell' = true) → gfill pl cells parts = some cells' →
    ∃ cs', Instr.fill pl cs vals = some cs' ∧ VRs M G R d cells' cs'.toList ∧ (∀ v ∈ cs'.toList, v.oneCell' = true)
  | [], [], cells, cells', cs, _, _, hv, h1, h => by
    unfold gfill at h
    cases h
    exact ⟨cs, rfl, hv, h1⟩
  | (i, g) :: parts, (k, x) :: vals, cells, cells', cs, hl, hp, hv, h1, h => by
    obtain ⟨hik, hgx⟩ := hp 0 _ _ rfl rfl
    simp only at hik hgx
    subst hik
    unfold gfill at h
    split at h
    · rename_i off size gs hpl hgs
      split at h
      · rename_i hc
        obtain ⟨hc1, hc2⟩ := hc
        obtain ⟨ys, hyc, hy1, hyv, _⟩ := hgx.cells hgs
        have hlen := VRs.length hyv
        have hcl := VRs.length hv
        simp only [Array.length_toList] at hcl
        have hset := foldl_set_toList ys 0 off cs (by omega)
        simp only [Nat.add_zero] at hset
        have hnew := VRs.spl off hv hyv
        rw [← hset] at hnew
        obtain ⟨cs', h2, h3, h4⟩ := gfill_sound parts vals _ cells' _ (by simpa using hl) (fun j p q hj1 hj2 => hp (j + 1) p q (by simpa using hj1) (by simpa using hj2)) hnew
          (by
            rw [hset]
            intro v hm
            simp only [List.mem_append] at hm
            rcases hm with hm | hm | hm
            · exact h1 v (List.mem_of_mem_take hm)
            · exact hy1 v hm
            · exact h1 v (List.mem_of_mem_drop hm)) h
        refine ⟨cs', ?_, h3, h4⟩
        unfold Instr.fill
        rw [hpl]
        simp only [hyc]
        rw [if_neg (by simp; omega)]
        rw [← h2]
        congr 1
        rw [← Array.foldl_toList]
        congr 1
        simp
      · cases h
    · cases h
  | [], _ :: _, _, _, _, hl, _, _, _, _ => by simp at hl
  | _ :: _, [], _, _, _, hl, _, _, _, _ => by simp at hl
end
end Go.Eng
