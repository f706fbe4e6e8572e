import Derived.Test.YtnahfkmdojbpkaaEB
/-! The engine, part C: one operation of the machine does what is told of it. -/
set_option linter.all false
namespace Go.Eng

structure Fr (d : Nat) (G : Heap) (R : RMap) (w : World) (G' : Heap) (R' : RMap) (w' : World) : Prop where
  size : w.heap.size ≤ w'.heap.size
  keep : ∀ b, b < w.heap.size → (∀ κ o, κ.1 ≤ d → get G κ = some o → (R κ).b ≠ b) → w'.heap[b]? = w.heap[b]?
  come : ∀ κ o, κ.1 ≤ d → get G' κ = some o → (R' κ).b < w.heap.size → ∃ κ' o', κ'.1 ≤ d ∧ get G κ' = some o' ∧ (R κ').b = (R' κ).b
  env : SameEnv w w'
theorem Fr.refl (d : Nat) (G : Heap) (R : RMap) (w : World) : Fr d G R w G R w := ⟨Nat.le_refl _, fun _ _ _ => rfl, fun κ o hk hg _ => ⟨κ, o, hk, hg, rfl⟩, .refl _⟩
theorem Fr.trans {d : Nat} {G G' G'' : Heap} {R R' R'' : RMap} {w w' w'' : World} (h : Fr d G R w G' R' w') (h' : Fr d G' R' w' G'' R'' w'') : Fr d G R w G'' R'' w'' where
  size := Nat.le_trans h.size h'.size
  env := h.env.trans h'.env
  keep b hb hn := (h'.keep b (Nat.lt_of_lt_of_le hb h.size) (fun κ o hk hg e => by
    obtain ⟨κ', o', h1, h2, h3⟩ := h.come κ o hk hg (by omega)
    exact hn κ' o' h1 h2 (h3.trans e))).trans (h.keep b hb hn)
  come κ o hk hg hlt := by
    obtain ⟨κ', o', h1, h2, h3⟩ := h'.come κ o hk hg (Nat.lt_of_lt_of_le hlt h.size)
    obtain ⟨κ'', o'', h4, h5, h6⟩ := h.come κ' o' h1 h2 (by omega)
    exact ⟨κ'', o'', h4, h5, h6.trans h3⟩

structure Step (X : XS) (d : Nat) (G : Heap) (R : RMap) (w : World) (G' : Heap) (R' : RMap) (w' : World) : Prop where
  sim : Sim X d G' R' w'
  ext : Ext d (Mem X d G R w) G R (Mem X d G' R' w') G' R'
  fr : Fr d G R w G' R' w'
theorem Step.refl {X : XS} {d : Nat} {G : Heap} {R : RMap} {w : World} (h : Sim X d G R w) : Step X d G R w G R w := ⟨h, Ext.refl _ _ _ _, Fr.refl _ _ _ _⟩
theorem Step.trans {X : XS} {d : Nat} {G G' G'' : Heap} {R R' R'' : RMap} {w w' w'' : World} (h : Step X d G R w G' R' w') (h' : Step X d G' R' w' G'' R'' w'') : Step X d G R w G'' R'' w'' :=
  ⟨h'.sim, h.ext.trans h'.ext, h.fr.trans h'.fr⟩
theorem Step.grow {X : XS} {d : Nat} {G : Heap} {R : RMap} {w w' : World} (hs : Sim X d G R w) (h : Grows w w') : Step X d G R w G R w' :=
  ⟨hs.grow h, Ext.grow h, ⟨h.size, fun b hb _ => h.old b hb, fun κ o hk hg _ => ⟨κ, o, hk, hg, rfl⟩, h.env⟩⟩

/-! ### Lists of values -/
section
variable {M : Nat → Nat → Value → Prop} {G : Heap} {R : RMap} {d : Nat}
theorem VRs.length : ∀ {gs : List GV} {vs : List Value}, VRs M G R d gs vs → gs.length = vs.length
  | [], [], _ => rfl
  | _ :: _, _ :: _, h => by unfold VRs at h; simp [VRs.length h.2]
  | [], _ :: _, h => by unfold VRs at h; exact h.elim
  | _ :: _, [], h => by unfold VRs at h; exact h.elim
theorem VRs.get : ∀ {gs : List GV} {vs : List Value} {i : Nat} {g : GV}, VRs M G R d gs vs → gs[i]? = some g → ∃ v, vs[i]? = some v ∧ VR M G R d g v
  | g :: gs, v :: vs, 0, g', h, hi => by unfold VRs at h; simp at hi; subst hi; exact ⟨v, rfl, h.1⟩
  | g :: gs, v :: vs, i + 1, g', h, hi => by
    unfold VRs at h
    simp at hi
    obtain ⟨v', h1, h2⟩ := VRs.get h.2 hi
    exact ⟨v', by simpa using h1, h2⟩
  | [], _, _, _, _, hi => by simp at hi
  | _ :: _, [], _, _, h, _ => by unfold VRs at h; exact h.elim
theorem VRs.app : ∀ {gs gs' : List GV} {vs vs' : List Value}, VRs M G R d gs vs → VRs M G R d gs' vs' → VRs M G R d (gs ++ gs') (vs ++ vs')
  | [], _, [], _, _, h' => h'
  | g :: gs, gs', v :: vs, vs', h, h' => by
    unfold VRs at h
    show VRs M G R d (g :: (gs ++ gs')) (v :: (vs ++ vs'))
    unfold VRs
    exact ⟨h.1, VRs.app h.2 h'⟩
  | [], _, _ :: _, _, h, _ => by unfold VRs at h; exact h.elim
  | _ :: _, _, [], _, h, _ => by unfold VRs at h; exact h.elim
theorem VRs.take : ∀ {gs : List GV} {vs : List Value} (n : Nat), VRs M G R d gs vs → VRs M G R d (gs.take n) (vs.take n)
  | [], [], _, _ => by simp [VRs]
  | _ :: _, _ :: _, 0, _ => by simp [VRs]
  | g :: gs, v :: vs, n + 1, h => by
    unfold VRs at h
    simp only [List.take_succ_cons]
    unfold VRs
    exact ⟨h.1, VRs.take n h.2⟩
  | [], _ :: _, _, h => by unfold VRs at h; exact h.elim
  | _ :: _, [], _, h => by unfold VRs at h; exact h.elim
theorem VRs.drop : ∀ {gs : List GV} {vs : List Value} (n : Nat), VRs M G R d gs vs → VRs M G R d (gs.drop n) (vs.drop n)
  | [], [], _, _ => by simp [VRs]
  | _ :: _, _ :: _, 0, h => h
  | g :: gs, v :: vs, n + 1, h => by
    unfold VRs at h
    simp only [List.drop_succ_cons]
    exact VRs.drop n h.2
  | [], _ :: _, _, h => by unfold VRs at h; exact h.elim
  | _ :: _, [], _, h => by unfold VRs at h; exact h.elim
theorem VRs.cons {g : GV} {v : Value} {gs : List GV} {vs : List Value} (h : VR M G R d g v) (h' : VRs M G R d gs vs) : VRs M G R d (g :: gs) (v :: vs) := by
  unfold VRs; exact ⟨h, h'⟩
theorem VRs.nil : VRs M G R d [] [] := by unfold VRs; trivial
theorem VRs.one {g : GV} {v : Value} (h : VR M G R d g v) : VRs M G R d [g] [v] := VRs.cons h VRs.nil
theorem VRs.map {α : Type} (f : α → GV) (f' : α → Value) : ∀ (l : List α), (∀ x ∈ l, VR M G R d (f x) (f' x)) → VRs M G R d (l.map f) (l.map f')
  | [], _ => VRs.nil
  | x :: l, h => VRs.cons (h x (by simp)) (VRs.map f f' l fun y hy => h y (by simp [hy]))

theorem PR.one {p : PV} {x : Value} (h : PR M p x) : x.oneCell' = true := by
  cases p <;> unfold PR at h
  case sl es => obtain ⟨a, cap, rfl, _⟩ := h; rfl
  case pt cs => obtain ⟨b, o, rfl, _⟩ := h; rfl
  all_goals subst h; rfl
theorem VR.p_iff {p : PV} {x : Value} : VR M G R d (.p p) x ↔ PR M p x := by unfold VR; rfl
theorem VR.csl_sl {es : List (List PV)} {x : Value} (h : VR M G R d (.csl es) x) : PR M (.sl es) x := by unfold VR at h; exact h.1
theorem VR.tsl_sl {es : List (List PV)} {κ : Key} {x : Value} (h : VR M G R d (.tsl es κ) x) : PR M (.sl es) x := by unfold VR at h; exact h.1
theorem VR.elems {g : GV} {es : List (List PV)} {x : Value} (h : VR M G R d g x) (he : elems g = some es) : PR M (.sl es) x := by
  cases g <;> simp [Eng.elems] at he
  case p v =>
    cases v <;> simp at he
    subst he; exact VR.p_iff.1 h
  case csl => subst he; exact h.csl_sl
  case tsl => subst he; exact h.tsl_sl
theorem VR.pur {g : GV} {p : PV} {x : Value} (h : VR M G R d g x) (he : pur g = some p) : PR M p x := by
  cases g <;> try (simp [Eng.pur] at he; done)
  case p v => simp [Eng.pur] at he; subst he; exact VR.p_iff.1 h
  case csl => simp [Eng.pur] at he; subst he; exact h.csl_sl
  case tsl => simp [Eng.pur] at he; subst he; exact h.tsl_sl
  case ep cs off =>
    cases off with
    | succ n => simp [Eng.pur] at he
    | zero =>
      simp [Eng.pur] at he
      subst he
      unfold VR at h
      obtain ⟨b, o, h1, h2⟩ := h
      unfold PR
      exact ⟨b, o, by simpa using h1, h2⟩
theorem VR.cells {g : GV} {x : Value} {cs : List GV} (h : VR M G R d g x) (hc : gcells g = some cs) :
    ∃ vs : List Value, x.cells = vs.toArray ∧ (∀ v ∈ vs, v.oneCell' = true) ∧ VRs M G R d cs vs ∧ (cs.length ≠ 1 → x = .agg vs.toArray) := by
  have one : ∀ (hx : x.oneCell' = true), VR M G R d g x → cs = [g] → ∃ vs : List Value, x.cells = vs.toArray ∧ (∀ v ∈ vs, v.oneCell' = true) ∧ VRs M G R d cs vs ∧ (cs.length ≠ 1 → x = .agg vs.toArray) := by
    intro hx hv hcs
    subst hcs
    refine ⟨[x], ?_, by simpa using hx, VRs.one hv, fun hne => absurd rfl hne⟩
    cases x <;> first | rfl | (simp [Value.oneCell'] at hx)
  cases g <;> simp only [gcells, Option.some.injEq, reduceCtorEq] at hc
  case p v => exact one (PR.one (VR.p_iff.1 h)) h hc.symm
  case csl => exact one (PR.one h.csl_sl) h hc.symm
  case tsl => exact one (PR.one h.tsl_sl) h hc.symm
  case bp => refine one ?_ h hc.symm; unfold VR at h; rw [h.2.2]; rfl
  case ep => refine one ?_ h hc.symm; unfold VR at h; obtain ⟨b, o, rfl, _⟩ := h; rfl
  case arr => refine one ?_ h hc.symm; unfold VR at h; obtain ⟨_, _, es, _, _, b, o, c, rfl, _⟩ := h; rfl
  case fn => refine one ?_ h hc.symm; unfold VR at h; obtain ⟨vs, rfl, _⟩ := h; rfl
  case agg gs =>
    subst hc
    unfold VR at h
    obtain ⟨vs, rfl, h1, h2⟩ := h
    exact ⟨vs, rfl, h1, h2, fun _ => rfl⟩
theorem VR.cv1 (v : Value) : VR M G R d (cv1 v) v := by
  unfold Eng.cv1
  split <;> unfold VR
  case h_6 => unfold PR; exact ⟨⟨none, 0, rfl, Nat.le_refl _, fun _ => rfl, fun h => absurd rfl h⟩, none, rfl⟩
  all_goals first | trivial | rfl
end

/-! ### Lists out of their places -/
theorem exists_list {Pr : Nat → Value → Prop} : ∀ (n : Nat), (∀ i, i < n → ∃ v, Pr i v) → ∃ vs : List Value, vs.length = n ∧ ∀ i v, vs[i]? = some v → Pr i v
  | 0, _ => ⟨[], rfl, fun i v h => by simp at h⟩
  | n + 1, h => by
    obtain ⟨vs, h1, h2⟩ := exists_list n (fun i hi => h i (by omega))
    obtain ⟨v, hv⟩ := h n (by omega)
    refine ⟨vs ++ [v], by simp [h1], fun i u hu => ?_⟩
    rw [List.getElem?_append] at hu
    split at hu
    · exact h2 i u hu
    · rename_i hi
      have : i = n := by
        have hlt := (List.getElem?_eq_some_iff.1 hu).1
        simp at hlt
        omega
      subst this
      simp [h1] at hu
      subst hu; exact hv
section
variable {M : Nat → Nat → Value → Prop} {G : Heap} {R : RMap} {d : Nat}
theorem VRs.of_get : ∀ {gs : List GV} {vs : List Value}, gs.length = vs.length → (∀ (i : Nat) (g : GV) (v : Value), gs[i]? = some g → vs[i]? = some v → VR M G R d g v) → VRs M G R d gs vs
  | [], [], _, _ => VRs.nil
  | g :: gs, v :: vs, hl, h => VRs.cons (h 0 g v rfl rfl) (VRs.of_get (by simpa using hl) fun i g' v' h1 h2 => h (i + 1) g' v' (by simpa using h1) (by simpa using h2))
  | [], _ :: _, hl, _ => by simp at hl
  | _ :: _, [], hl, _ => by simp at hl
theorem PRs.get : ∀ {cs : List PV} {b o i : Nat} {c : PV}, PRs M cs b o → cs[i]? = some c → ∃ v, M b (o + i) v ∧ PR M c v
  | c :: cs, b, o, 0, c', h, hi => by unfold PRs at h; simp at hi; subst hi; exact h.1
  | c :: cs, b, o, i + 1, c', h, hi => by
    unfold PRs at h
    simp at hi
    obtain ⟨v, h1, h2⟩ := PRs.get h.2 hi
    exact ⟨v, by rwa [show o + (i + 1) = o + 1 + i by omega], h2⟩
  | [], _, _, _, _, _, hi => by simp at hi
theorem PRs.of_get : ∀ {cs : List PV} {b o : Nat}, (∀ i c, cs[i]? = some c → ∃ v, M b (o + i) v ∧ PR M c v) → PRs M cs b o
  | [], _, _, _ => by unfold PRs; trivial
  | c :: cs, b, o, h => by
    unfold PRs
    refine ⟨h 0 c rfl, PRs.of_get fun i c' hi => ?_⟩
    obtain ⟨v, h1, h2⟩ := h (i + 1) c' (by simpa using hi)
    exact ⟨v, by rwa [show o + 1 + i = o + (i + 1) by omega], h2⟩
theorem PRss.get : ∀ {es : List (List PV)} {b o sz i : Nat} {e : List PV}, PRss M es b o sz → es[i]? = some e → e.length = sz ∧ PRs M e b (o + i * sz)
  | e :: es, b, o, sz, 0, e', h, hi => by unfold PRss at h; simp at hi; subst hi; simpa using h.1
  | e :: es, b, o, sz, i + 1, e', h, hi => by
    unfold PRss at h
    simp at hi
    obtain ⟨h1, h2⟩ := PRss.get h.2 hi
    exact ⟨h1, by rwa [show o + (i + 1) * sz = o + sz + i * sz by rw [Nat.add_mul]; omega]⟩
  | [], _, _, _, _, _, _, hi => by simp at hi
theorem PRss.of_get : ∀ {es : List (List PV)} {b o sz : Nat}, (∀ i e, es[i]? = some e → e.length = sz ∧ PRs M e b (o + i * sz)) → PRss M es b o sz
  | [], _, _, _, _ => by unfold PRss; trivial
  | e :: es, b, o, sz, h => by
    unfold PRss
    refine ⟨by simpa using h 0 e rfl, PRss.of_get fun i e' hi => ?_⟩
    obtain ⟨h1, h2⟩ := h (i + 1) e' (by simpa using hi)
    exact ⟨h1, by rwa [show o + sz + i * sz = o + (i + 1) * sz by rw [Nat.add_mul]; omega]⟩
end

/-! ### Types -/
section
variable {P : Program}
theorem tk_row {t : TypeId} {n : Nat} (h : tk P t = .row n) : ∃ d i, P.underlying t = some d ∧ d.isRow = true ∧ P.info? t = some i ∧ i.size = n := by
  unfold tk at h
  split at h
  · rename_i d i hd hi
    split at h
    · rename_i hr
      injection h with h
      exact ⟨d, i, hd, hr, hi, h⟩
    · cases h
  · cases h
theorem tk_one {t : TypeId} (h : tk P t = .one) : ∃ d i, P.underlying t = some d ∧ d.isRow = false ∧ P.info? t = some i := by
  unfold tk at h
  split at h
  · rename_i d i hd hi
    split at h
    · cases h
    · rename_i hr
      exact ⟨d, i, hd, by simpa using hr, hi⟩
  · cases h
theorem run_isAgg_one {t : TypeId} {d : TypeDesc} (hu : P.underlying t = some d) (hd : d.isRow = false) (w : World) : (isAgg t).run P w = .ok false w := by
  unfold isAgg
  rw [Sem.run_bind, run_underlying hu w]
  cases d <;> simp_all
theorem run_isAgg_row {t : TypeId} {d : TypeDesc} (hu : P.underlying t = some d) (hd : d.isRow = true) (w : World) : (isAgg t).run P w = .ok true w := by
  unfold isAgg
  rw [Sem.run_bind, run_underlying hu w]
  cases d <;> simp_all
theorem run_loadAt_one {t : TypeId} (h : tk P t = .one) {w : World} {ad : Addr} {v : Value} (hc : w.cell? ad = some v) : (Instr.loadAt t (.pointer (some ad))).run P w = .ok v w := by
  obtain ⟨d, i, hu, hd, _⟩ := tk_one h
  simp only [Instr.loadAt, Instr.sureAddr, loadVar, Sem.run_bind, Sem.run_pure, Result.andThen_ok, run_isAgg_one hu hd w, Bool.false_eq_true, if_false, run_load, hc]
theorem run_loadAt_row {t : TypeId} {n : Nat} (h : tk P t = .row n) {w : World} {b o : Nat} {cs : List Value} (hc : w.rangeAt b o cs) (hn : cs.length = n) :
    (Instr.loadAt t (.pointer (some ⟨b, o, none⟩))).run P w = .ok (.agg cs.toArray) w := by
  obtain ⟨d, i, hu, hd, hi, hs⟩ := tk_row h
  exact run_loadAt_mid w b o t cs d hc hu hd (by rw [hi]; simp [hs, hn])
end

section
variable {X : XS} {P : Program} {G : Heap} {R : RMap} {d : Nat} {w : World}
theorem loadC_sound {t : TypeId} {cells : List GV} {off b o : Nat} {K : GV → Prop}
    (hc : ∀ i g, cells[i]? = some g → ∃ v, w.cell? ⟨b, o + i, none⟩ = some v ∧ v.oneCell' = true ∧ VR (Mem X d G R w) G R d g v) (h : gLoadC P t cells off K) :
    ∃ v rv, K v ∧ (Instr.loadAt t (.pointer (some ⟨b, o + off, none⟩))).run P w = .ok rv w ∧ VR (Mem X d G R w) G R d v rv := by
  unfold gLoadC at h
  split at h
  · rename_i n ht
    obtain ⟨hle, hK⟩ := h
    obtain ⟨vs, hvl, hv⟩ := exists_list (Pr := fun i v => w.cell? ⟨b, o + off + i, none⟩ = some v ∧ v.oneCell' = true ∧ ∀ g, cells[off + i]? = some g → VR (Mem X d G R w) G R d g v) n (fun i hi => by
      obtain ⟨v, h1, h2, h3⟩ := hc (off + i) cells[off + i] (List.getElem?_eq_getElem (by omega))
      exact ⟨v, by rwa [show o + off + i = o + (off + i) by omega], h2, fun g hg => by rw [List.getElem?_eq_getElem (by omega)] at hg; cases hg; exact h3⟩)
    refine ⟨_, _, hK, run_loadAt_row ht (cs := vs) (fun j v hj => (hv j v hj).1) hvl, ?_⟩
    unfold VR
    refine ⟨vs, rfl, fun v hm => ?_, VRs.of_get (by simp [hvl]; omega) fun i g v hg hvi => ?_⟩
    · obtain ⟨i, hi⟩ := List.getElem?_of_mem hm
      exact (hv i v hi).2.1
    · refine (hv i v hvi).2.2 g ?_
      have hi : i < n := by have := (List.getElem?_eq_some_iff.1 hvi).1; omega
      rw [List.getElem?_take, if_pos hi, List.getElem?_drop] at hg
      exact hg
  · rename_i ht
    split at h
    · rename_i g hg
      obtain ⟨v, h1, _, h3⟩ := hc off g hg
      exact ⟨g, v, h, run_loadAt_one ht h1, h3⟩
    · exact h.elim
  · exact h.elim
theorem box_cells (hs : Sim X d G R w) {κ : Key} {cells : List GV} (hk : κ.1 ≤ d) (hg : get G κ = some (.box cells)) :
    ∀ i g, cells[i]? = some g → ∃ v, w.cell? ⟨(R κ).b, 0 + i, none⟩ = some v ∧ v.oneCell' = true ∧ VR (Mem X d G R w) G R d g v := by
  obtain ⟨cs, T, h1, h2, h3⟩ := hs.obj κ _ hk hg
  intro i g hi
  obtain ⟨v, hv1, hv2⟩ := VRs.get h3 hi
  refine ⟨v, ?_, h2 v (List.mem_of_getElem? hv1), hv2.deeper hk⟩
  rw [Nat.zero_add, cell_of_row w _ i cs T _ h1]
  simpa using hv1
theorem load_sound (hs : Sim X d G R w) {t : TypeId} {g : GV} {x : Value} {K : GV → Prop} (hx : VR (Mem X d G R w) G R d g x) (h : gLoad P G t g K) :
    ∃ v rv, K v ∧ (Instr.loadAt t x).run P w = .ok rv w ∧ VR (Mem X d G R w) G R d v rv := by
  unfold gLoad at h
  split at h
  · rename_i κ off
    unfold VR at hx
    obtain ⟨hk, _, rfl⟩ := hx
    split at h
    · rename_i cells hg
      have := loadC_sound (P := P) (t := t) (off := off) (b := (R κ).b) (o := 0) (box_cells hs hk hg) h
      rwa [Nat.zero_add] at this
    · exact h.elim
  · rename_i cells off
    unfold VR at hx
    obtain ⟨b, o, rfl, hp⟩ := hx
    refine loadC_sound (fun i g hi => ?_) h
    rw [List.getElem?_map] at hi
    cases hc : cells[i]? with
    | none => rw [hc] at hi; cases hi
    | some c =>
      rw [hc] at hi
      cases hi
      obtain ⟨v, h1, h2⟩ := PRs.get hp hc
      exact ⟨v, h1.1, h1.2.1, VR.p_iff.2 h2⟩
  · rename_i cells
    have hx := VR.p_iff.1 hx
    unfold PR at hx
    obtain ⟨b, o, rfl, hp⟩ := hx
    have := loadC_sound (P := P) (t := t) (off := 0) (b := b) (o := o) (d := d) (G := G) (R := R) (w := w) (X := X) (cells := cells.map .p) (K := K) (fun i g hi => by
      rw [List.getElem?_map] at hi
      cases hc : cells[i]? with
      | none => rw [hc] at hi; cases hi
      | some c =>
        rw [hc] at hi
        cases hi
        obtain ⟨v, h1, h2⟩ := PRs.get hp hc
        exact ⟨v, h1.1, h1.2.1, VR.p_iff.2 h2⟩) h
    exact this
  · rename_i κ n i off
    unfold VR at hx
    obtain ⟨hk, hin, es, hg, hle, b, o, rfl, ha⟩ := hx
    rw [hg] at h
    dsimp only at h
    · obtain ⟨hen, h⟩ := h
      obtain ⟨rfl, rfl⟩ := ha hen
      split at h
      · rename_i e he
        obtain ⟨cs, T, h1, _, _, h4⟩ := hs.obj κ _ hk hg
        obtain ⟨_, h5⟩ := h4 i e he
        refine loadC_sound (fun j g hj => ?_) h
        rw [List.getElem?_map] at hj
        cases hc : e[j]? with
        | none => rw [hc] at hj; cases hj
        | some c =>
          rw [hc] at hj
          cases hj
          obtain ⟨v, h6, h7, h8⟩ := h5 j c hc
          exact ⟨v, by rw [cell_of_row w _ _ cs T _ h1]; exact h6, h7, VR.p_iff.2 h8⟩
      · exact h.elim
  · exact h.elim
end
end Go.Eng
