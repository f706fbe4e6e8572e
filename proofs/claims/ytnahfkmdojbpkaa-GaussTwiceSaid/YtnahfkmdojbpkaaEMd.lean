import Derived.Test.YtnahfkmdojbpkaaEMc
/-! The engine, part Md: rows that are written and grow, from none on; rows of numbers in a box. -/
set_option linter.all false
set_option maxRecDepth 10000
namespace Go.Eng
/-- A row that is written, or none yet. -/
def arV (es : List (List PV)) (κ : Key) (n : Nat) : GV := if es = [] then .csl [] else .arr κ es.length n
def arO (es : List (List PV)) : List Obj' := if es = [] then [] else [.arr es]
@[go_sem] theorem arV_nil {κ : Key} {n : Nat} : arV [] κ n = .csl [] := rfl
@[go_sem] theorem arO_nil : arO [] = [] := rfl
@[go_sem] theorem arV_ne {es : List (List PV)} {κ : Key} {n : Nat} (h : es ≠ []) : arV es κ n = .arr κ es.length n := if_neg h
@[go_sem] theorem arO_ne {es : List (List PV)} (h : es ≠ []) : arO es = [.arr es] := if_neg h
@[go_sem] theorem arV_mapc {α : Type} {c : α → List PV} {x : α} {l : List α} {κ : Key} {n : Nat} : arV (c x :: l.map c) κ n = .arr κ (l.length + 1) n := by
  unfold arV; rw [if_neg (by simp)]; simp
@[go_sem] theorem arV_map_ne {α : Type} {c : α → List PV} {l : List α} {κ : Key} {n : Nat} (h : (l = []) = False) : arV (l.map c) κ n = .arr κ l.length n := by
  unfold arV; rw [if_neg (by rw [List.map_eq_nil_iff, h]; exact not_false), List.length_map]
@[go_sem] theorem arO_map_ne {α : Type} {c : α → List PV} {l : List α} (h : (l = []) = False) : arO (l.map c) = [.arr (l.map c)] := by
  unfold arO; rw [if_neg (by rw [List.map_eq_nil_iff, h]; exact not_false)]
@[go_sem] theorem map_nil_eq {α β : Type} {c : α → β} {l : List α} : (l.map c = []) = (l = []) := by simp
@[go_sem] theorem arV_set_ne {es : List (List PV)} {i : Nat} {e : List PV} {κ : Key} {n : Nat} (h : (es = []) = False) : arV (es.set i e) κ n = .arr κ es.length n := by
  unfold arV; rw [if_neg (by rw [List.set_eq_nil_iff, h]; exact not_false), List.length_set]
@[go_sem] theorem arO_set_ne {es : List (List PV)} {i : Nat} {e : List PV} (h : (es = []) = False) : arO (es.set i e) = [.arr (es.set i e)] := by
  unfold arO; rw [if_neg (by rw [List.set_eq_nil_iff, h]; exact not_false)]
@[go_sem] theorem set_nil_eq {α : Type} {l : List α} {i : Nat} {x : α} : (l.set i x = []) = (l = []) := by simp
@[go_sem] theorem app_nil_eq {α : Type} {l : List α} {x : α} {m : List α} : (l ++ x :: m = []) = False := by simp
@[go_sem] theorem cons_nil_eq {α : Type} {l : List α} {x : α} : (x :: l = []) = False := by simp
@[go_sem] theorem len_set {α : Type} {l : List α} {i : Nat} {x : α} : (l.set i x).length = l.length := by simp
@[go_sem] theorem map_set_eq {α β : Type} {f : α → β} {l : List α} {i : Nat} {x : α} : (l.set i x).map f = (l.map f).set i (f x) := by simp
@[go_sem high] theorem lenOf_ar {es : List (List PV)} {κ : Key} {n : Nat} : lenOf (arV es κ n) = some es.length := by
  unfold arV; split
  · rename_i h; rw [h]; rfl
  · rfl
@[go_sem high] theorem gLen_ar {P : Program} {t : TypeId} {es : List (List PV)} {κ : Key} {n : Nat} {K : GV → Prop} : gLen P t (arV es κ n) K = (isSl P t = true ∧ K (.p (.int .i64 es.length))) := by
  unfold arV; split
  · rename_i h; rw [h]; simp [gLen, lenOf]
  · simp [gLen, lenOf]
@[go_sem high] theorem gcells_ar {es : List (List PV)} {κ : Key} {n : Nat} : gcells (arV es κ n) = some [arV es κ n] := by
  unfold arV; split <;> rfl
@[go_sem high] theorem okd_ar {k : Nat} {es : List (List PV)} {κ : Key} {n : Nat} (h : κ.1 ≤ k) : okd k (arV es κ n) = True := by
  unfold arV; split <;> simp [okd, h]
@[go_sem high] theorem poison_ar {d : Nat} {ts : List Nat} {es : List (List PV)} {k t c : Nat} {n : Nat} (h : ¬ (k = d ∧ t ∈ ts)) : poison d ts (arV es (k, t, c) n) = arV es (k, t, c) n := by
  unfold arV; split
  · rfl
  · unfold poison; rw [if_neg h]
@[go_sem high] theorem wkR_ar {es : List (List PV)} {κ : Key} {n : Nat} : wkR (arV es κ n) (arV es κ n) = True := by
  unfold arV; split <;> simp [wkR]
@[go_sem high] theorem wkA_ar {b : Bool} {es : List (List PV)} {κ : Key} {n : Nat} (h : b = false) : wkA b (arV es κ n) = arV es κ n := by subst h; cases arV es κ n <;> rfl
@[go_sem] theorem poisonO_arO {d : Nat} {ts : List Nat} {es : List (List PV)} : (arO es).map (poisonO d ts) = arO es := by
  unfold arO; split <;> simp [poisonO]
@[go_sem high] theorem wkB_ar {G : Heap} {d k t : Nat} {es es' : List (List PV)} {n : Nat} (h : k ≤ d) (hg : G k t = arO es) : wkB G d (arV es (k, t, 0) n) (.p (.sl es')) = (es' = es) := by
  unfold arV
  unfold arO at hg
  split
  · rename_i h0; subst h0; simp [wkB]
  · rename_i h0
    rw [if_neg h0] at hg
    unfold wkB get
    rw [hg]
    simp [h]
theorem ne_of_idx {α : Type} {l : List α} {i : Int} (h0 : 0 ≤ i) (h : i < (l.length : Int)) : l ≠ [] := by
  rintro rfl
  simp at h
  omega
/-- An append to such a row. -/
theorem append_A {P : Program} {A : Ann} {d : Nat} {α : Type} {c : α → List PV} {l m : List α} {k t0 : Nat} {K : St → Prop} {F : Nat → GV} {G : Heap} {ty tx : TypeId} {x : GV} {j e n b : Nat} (he : elT P ty = some (e, n, b)) (hx : srcOf P G tx n x = some (m.map c))
    (hc : ∀ y, (c y).length = n) (hm : m ≠ []) (ha : A.pureAt j = false) (hra : A.arrAt j = true) (hb : l.length + m.length ≤ 1000000) (hbb : b ≤ 140737488) (hG : G k t0 = arO (l.map c)) (hn : l = [] → k = d ∧ t0 = j)
    (hK : K ⟨upd F j (arV ((l ++ m).map c) (k, t0, 0) n), fillKey G k t0 (arO ((l ++ m).map c))⟩) (hop : A.openAt j = false := by rfl) : gAppend P A d G ty tx (arV (l.map c) (k, t0, 0) n) x (some j) (kont d (some j) K ⟨F, G⟩) := by
  have hbig : (l.length + m.length) * b ≤ 140737488355328 := by
    have := Nat.mul_le_mul hb hbb
    omega
  have hne : (l ++ m).map c ≠ [] := by simp [hm]
  rw [arV_ne hne, arO_ne hne] at hK
  by_cases h0 : l = []
  · subst h0
    obtain ⟨rfl, rfl⟩ := hn rfl
    refine append_arr_new (es := []) he hx ha sizes_nil (sizes_map hc m) (by simpa using hbig) (by simpa using hm) (by simpa [arO] using hG) ?_ hra hop
    show K ⟨upd F t0 _, fillKey G k t0 _⟩
    simpa using hK
  · have h1 : l.map c ≠ [] := by simpa using h0
    rw [arV_ne h1]
    rw [arO_ne h1] at hG
    refine append_arr_more (es := l.map c) he hx ha (sizes_map hc m) (by unfold get; rw [hG]; rfl) rfl (by simpa using hbig) ?_
    show K ⟨upd F j _, setKey G (k, t0, 0) _⟩
    have e2 : setKey G (k, t0, 0) (.arr (l.map c ++ m.map c)) = fillKey G k t0 [.arr ((l ++ m).map c)] := by
      funext k' t'
      unfold setKey fillKey
      dsimp only
      by_cases e : k' = k ∧ t' = t0
      · obtain ⟨rfl, rfl⟩ := e
        simp [hG]
      · simp [e]
    rw [e2]
    simpa using hK
/-- The same, of a row that is there. -/
theorem append_B {P : Program} {A : Ann} {d : Nat} {α : Type} {c : α → List PV} {l m : List α} {k t0 q : Nat} {K : St → Prop} {F : Nat → GV} {G : Heap} {ty tx : TypeId} {x : GV} {j e n b : Nat} (he : elT P ty = some (e, n, b)) (hx : srcOf P G tx n x = some (m.map c))
    (hc : ∀ y, (c y).length = n) (hm : m ≠ []) (ha : A.pureAt j = false) (hb : l.length + m.length ≤ 1000000) (hbb : b ≤ 140737488) (hG : G k t0 = [.arr (l.map c)]) (hq : q = l.length)
    (hK : K ⟨upd F j (arV ((l ++ m).map c) (k, t0, 0) n), fillKey G k t0 (arO ((l ++ m).map c))⟩) : gAppend P A d G ty tx (.arr (k, t0, 0) q n) x (some j) (kont d (some j) K ⟨F, G⟩) := by
  subst hq
  have hbig : (l.length + m.length) * b ≤ 140737488355328 := by
    have := Nat.mul_le_mul hb hbb
    omega
  have hne : (l ++ m).map c ≠ [] := by simp [hm]
  rw [arV_ne hne, arO_ne hne] at hK
  have := append_arr_more (P := P) (A := A) (d := d) (t := ty) (tx := tx) (j := j) (κ := (k, t0, 0)) (m := l.length) (K := kont d (some j) K ⟨F, G⟩) (es := l.map c) he hx ha (sizes_map hc m) (by unfold get; rw [hG]; rfl) (by simp) (by simpa using hbig) ?_
  · exact this
  show K ⟨upd F j _, setKey G (k, t0, 0) _⟩
  have e2 : setKey G (k, t0, 0) (.arr (l.map c ++ m.map c)) = fillKey G k t0 [.arr ((l ++ m).map c)] := by
    funext k' t'
    unfold setKey fillKey
    dsimp only
    by_cases e : k' = k ∧ t' = t0
    · obtain ⟨rfl, rfl⟩ := e
      simp [hG]
    · simp [e]
  rw [e2]
  simpa using hK
@[go_sem] theorem nc_lit {n : Nat} : (Nat.cast (no_index (OfNat.ofNat n : Nat)) : Int) = OfNat.ofNat n := rfl
attribute [go_sem] Nat.zero_add Nat.mul_one
/-! Rows of numbers in a box. -/
def gI (k : IntKind) (x : Int) : GV := .p (.int k x)
@[go_sem] theorem gI_app {k : IntKind} {x : Int} : gI k x = .p (.int k x) := rfl
@[go_sem] theorem gI_get {k : IntKind} {l : List Int} {i : Nat} : (l.map (gI k))[i]? = (l[i]?).map (gI k) := List.getElem?_map ..
@[go_sem] theorem gI_some {k : IntKind} {x : Int} : (some x).map (gI k) = some (.p (.int k x)) := rfl
@[go_sem] theorem gI_len {k : IntKind} {l : List Int} : (l.map (gI k)).length = l.length := by simp
@[go_sem high] theorem gI_spl {k : IntKind} {l : List Int} {i : Nat} {x : Int} (h : i + 1 ≤ l.length) : spl (l.map (gI k)) i [.p (.int k x)] = (l.set i x).map (gI k) := by
  unfold spl
  rw [show ([.p (.int k x)] : List GV) = [x].map (gI k) from rfl, ← List.map_drop, ← List.map_take, ← List.map_append, ← List.map_append]
  congr 1
  rw [List.set_eq_take_append_cons_drop, if_pos (show i < l.length from h)]
  rfl
@[go_sem] theorem gI_poison {d : Nat} {ts : List Nat} {k : IntKind} : ∀ {l : List Int}, poisons d ts (l.map (gI k)) = l.map (gI k)
  | [] => rfl
  | x :: l => by
    have := gI_poison (d := d) (ts := ts) (k := k) (l := l)
    show poison d ts (gI k x) :: poisons d ts (l.map (gI k)) = _
    rw [this]; rfl
@[go_sem high] theorem gI_poison_set {d : Nat} {ts : List Nat} {k : IntKind} {l : List Int} {i : Nat} {x : Int} : poisons d ts ((l.map (gI k)).set i (.p (.int k x))) = (l.map (gI k)).set i (.p (.int k x)) := by
  have e : (l.map (gI k)).set i (.p (.int k x)) = (l.set i x).map (gI k) := by simp [gI]
  rw [e]; exact gI_poison
theorem lt_toNat {l : List Int} {i : Int} (h0 : 0 ≤ i) (h : i < (l.length : Int)) : i.toNat + 1 ≤ l.length := by omega
theorem get_map {α β : Type} {c : α → β} {l : List α} {i : Nat} {x : α} (h : l[i]? = some x) : (l.map c)[i]? = some (c x) := by rw [List.getElem?_map, h]; rfl
theorem arV_len {α : Type} {c : α → List PV} {l l' : List α} {κ : Key} {n : Nat} (h : l.length = l'.length) : arV (l.map c) κ n = arV (l'.map c) κ n := by
  unfold arV
  cases l <;> cases l' <;> simp at h ⊢
  exact h
theorem nil_len {α : Type} {l l' : List α} (h : l.length = l'.length) : (l = []) = (l' = []) := by
  cases l <;> cases l' <;> simp at h ⊢
/-! Objects of a caller, handed in to be changed. -/
theorem fill_self {B : Heap} {a b : Nat} {os : List Obj'} (h : B a b = os) : fillKey B a b os = B := by
  funext k i
  unfold fillKey
  split
  · rename_i e; rw [e.1, e.2, h]
  · rfl
theorem gwp_heap {P : Program} {C : CR} {A : Ann} {d : Nat} {c : Code} {Q : GE → St → Prop} {F : Nat → GV} {H H' : Heap} (e : H = H') (h : gwp P C A d c Q ⟨F, H'⟩) : gwp P C A d c Q ⟨F, H⟩ := by rw [e]; exact h
theorem fk_swap {a b a' b' : Nat} (h : (a = a' ∧ b = b') → False) (G : Heap) (os os' : List Obj') : fillKey (fillKey G a b os) a' b' os' = fillKey (fillKey G a' b' os') a b os := by
  funext k i
  unfold fillKey
  by_cases h1 : k = a ∧ i = b
  · have h2 : ¬ (k = a' ∧ i = b') := fun e => h ⟨h1.1.symm.trans e.1, h1.2.symm.trans e.2⟩
    simp only [if_pos h1, if_neg h2]
  · by_cases h2 : k = a' ∧ i = b'
    · simp only [if_neg h1, if_pos h2]
    · simp only [if_neg h1, if_neg h2]
@[go_sem] theorem fill_low {G : Heap} {d t e t' : Nat} {os os' : List Obj'} (h : (e = d + 1) = False) : fillKey (fillKey G (d + 1) t os) e t' os' = fillKey (fillKey G e t' os') (d + 1) t os :=
  fk_swap (fun x => by rw [← h]; exact x.1.symm) G os os'
@[go_sem] theorem set_low {G : Heap} {d t e t' c : Nat} {a : List Obj'} {o : Obj'} (h : (e = d + 1) = False) : setKey (fillKey G (d + 1) t a) (e, t', c) o = fillKey (setKey G (e, t', c) o) (d + 1) t a := by
  funext k i
  unfold setKey fillKey
  dsimp only
  by_cases h1 : k = d + 1 ∧ i = t
  · have h2 : ¬ (k = e ∧ i = t') := fun x => by rw [← h]; exact x.1.symm.trans h1.1
    simp only [if_pos h1, if_neg h2]
  · simp only [if_neg h1]
@[go_sem] theorem set_fill_ne {G : Heap} {e t t' c : Nat} {a : List Obj'} {o : Obj'} (h : (t' = t) = False) : setKey (fillKey G e t a) (e, t', c) o = fillKey (setKey G (e, t', c) o) e t a := by
  funext k i
  unfold setKey fillKey
  dsimp only
  by_cases h1 : k = e ∧ i = t
  · have h2 : ¬ (k = e ∧ i = t') := fun x => by rw [← h]; exact x.2.symm.trans h1.2
    simp only [if_pos h1, if_neg h2]
  · simp only [if_neg h1]
@[go_sem] theorem cleanG_low {G : Heap} {d e t : Nat} {ts : List Nat} {os : List Obj'} (h : (e = d) = False) : cleanG d ts (fillKey G e t os) = fillKey (cleanG d ts G) e t os := by
  funext k i
  simp only [cleanG, fillKey]
  by_cases h1 : k = d
  · have h2 : ¬ (k = e ∧ i = t) := fun x => by rw [← h]; exact x.1.symm.trans h1
    simp only [if_pos h1, if_neg h2]
  · simp only [if_neg h1]
@[go_sem] theorem agree_fill2 {d e t : Nat} {X Y : Heap} {os os' : List Obj'} (he : e ≤ d) (h : agree d X Y) : agree d (fillKey X e t os) (fillKey Y e t os') = (os = os') := by
  apply propext
  constructor
  · intro h2
    have := h2 e t he
    unfold fillKey at this
    rwa [if_pos ⟨rfl, rfl⟩, if_pos ⟨rfl, rfl⟩] at this
  · rintro rfl k i hk
    unfold fillKey
    split
    · rfl
    · exact h k i hk
attribute [go_sem] Nat.le_refl
@[go_sem high] theorem Ret_ar {G : Heap} {d k t : Nat} {es es' : List (List PV)} {n n' : Nat} {ks ks' : List Key} (hd : (d < k) = True) (hg : G k t = arO es) (hn : ((k, t, 0) ∈ ks) = False) (hne : (es = []) = False) : Ret G d (arV es (k, t, 0) n) (.own es' n') ks ks' = (es' = es ∧ n' = n ∧ ks' = ks ++ [(k, t, 0)]) := by
  have h0 : es ≠ [] := fun e => by rw [← hne]; exact e
  rw [arV_ne h0]
  rw [arO_ne h0] at hg
  unfold Ret get
  dsimp only
  rw [hg]
  apply propext
  constructor
  · rintro ⟨_, h2, _, h4, _, h6⟩
    simp at h2
    exact ⟨h2.symm, h4, h6⟩
  · rintro ⟨rfl, rfl, rfl⟩
    exact ⟨of_eq_true hd, by simp, rfl, rfl, fun x => by rw [← hn]; exact x, rfl⟩
/-- An append to such a row of a caller's. -/
theorem append_N {P : Program} {A : Ann} {d : Nat} {α : Type} {c : α → List PV} {l m : List α} {k t0 : Nat} {K : St → Prop} {F : Nat → GV} {G : Heap} {ty tx : TypeId} {x : GV} {j e n b : Nat} (he : elT P ty = some (e, n, b)) (hx : srcOf P G tx n x = some (m.map c))
    (hc : ∀ y, (c y).length = n) (hm : m ≠ []) (ha : A.pureAt j = false) (hop : A.openAt j = true) (hb : l.length + m.length ≤ 1000000) (hbb : b ≤ 140737488) (hk : k ≤ d) (hG : G k t0 = arO (l.map c))
    (hK : K ⟨upd F j (arV ((l ++ m).map c) (k, t0, 0) n), fillKey G k t0 (arO ((l ++ m).map c))⟩) : gAppend P A d G ty tx (arV (l.map c) (k, t0, 0) n) x (some j) (kont d (some j) K ⟨F, G⟩) := by
  by_cases h0 : l = []
  · subst h0
    have hbig : (0 + m.length) * b ≤ 140737488355328 := by
      have := Nat.mul_le_mul (show 0 + m.length ≤ 1000000 by simpa using hb) hbb
      omega
    have hne : (([] : List α) ++ m).map c ≠ [] := by simp [hm]
    rw [arV_ne hne, arO_ne hne] at hK
    refine append_named (es := []) he hx ha sizes_nil (sizes_map hc m) (by simpa using hbig) (by simpa using hm) hk (by simpa [arO] using hG) ?_ hop
    show K ⟨upd F j _, fillKey G k t0 _⟩
    simpa using hK
  · have h1 : l.map c ≠ [] := by simpa using h0
    rw [arV_ne h1, List.length_map]
    rw [arO_ne h1] at hG
    exact append_B he hx hc hm ha hb hbb hG rfl hK
/-! Such a call in a region whose order is drawn. -/
def fillL : Heap → List (Nat × Nat × List Obj') → Heap
  | G, [] => G
  | G, (e, t, os) :: L => fillL (fillKey G e t os) L
def lenOK (G : Heap) : List (Nat × Nat × List Obj') → Prop
  | [] => True
  | (e, t, os) :: L => (G e t).length ≤ os.length ∧ lenOK G L
def okL (d : Nat) (ts : List Nat) : List (Nat × Nat × List Obj') → Prop
  | [] => True
  | (e, t, _) :: L => ((e = d ∧ t ∈ ts) → False) ∧ okL d ts L
attribute [go_sem] fillL lenOK okL
@[go_sem] theorem addAt_app {G : Heap} {d k t : Nat} {ts : List Nat} {H : Nat → List Obj'} : addAt G d ts H k t = if k = d ∧ t ∈ ts then H t else G k t := rfl
@[go_sem] theorem arO_len {es : List (List PV)} : (arO es).length = if es = [] then 0 else 1 := by unfold arO; split <;> rfl
theorem fillL_at : ∀ (L : List (Nat × Nat × List Obj')) (G : Heap) (k t : Nat), (∃ x ∈ L, x.1 = k ∧ x.2.1 = t ∧ fillL G L k t = x.2.2) ∨ ((∀ x ∈ L, ¬ (x.1 = k ∧ x.2.1 = t)) ∧ fillL G L k t = G k t)
  | [], G, k, t => .inr ⟨fun _ h => (by cases h), rfl⟩
  | (e, u, os) :: L, G, k, t => by
    unfold fillL
    rcases fillL_at L (fillKey G e u os) k t with ⟨x, h1, h2⟩ | ⟨h1, h2⟩
    · exact .inl ⟨x, List.mem_cons_of_mem _ h1, h2⟩
    · by_cases he : e = k ∧ u = t
      · refine .inl ⟨(e, u, os), List.mem_cons_self .., he.1, he.2, ?_⟩
        rw [h2]
        unfold fillKey
        rw [if_pos ⟨he.1.symm, he.2.symm⟩]
      · refine .inr ⟨fun x hx => ?_, ?_⟩
        · rcases List.mem_cons.1 hx with rfl | hx
          · exact he
          · exact h1 x hx
        · rw [h2]
          unfold fillKey
          rw [if_neg (fun x => he ⟨x.1.symm, x.2.symm⟩)]
theorem lenOK_mem {G : Heap} : ∀ {L : List (Nat × Nat × List Obj')}, lenOK G L → ∀ x ∈ L, (G x.1 x.2.1).length ≤ x.2.2.length
  | (e, t, os) :: L, h, x, hx => by
    unfold lenOK at h
    rcases List.mem_cons.1 hx with rfl | hx
    · exact h.1
    · exact lenOK_mem h.2 x hx
theorem okL_mem {d : Nat} {ts : List Nat} : ∀ {L : List (Nat × Nat × List Obj')}, okL d ts L → ∀ x ∈ L, ¬ (x.1 = d ∧ x.2.1 ∈ ts)
  | (e, t, os) :: L, h, x, hx => by
    unfold okL at h
    rcases List.mem_cons.1 hx with rfl | hx
    · exact h.1
    · exact okL_mem h.2 x hx
theorem addAt_fillL {d : Nat} {ts : List Nat} {H : Nat → List Obj'} : ∀ {L : List (Nat × Nat × List Obj')} {G : Heap}, okL d ts L → addAt (fillL G L) d ts H = fillL (addAt G d ts H) L
  | [], _, _ => rfl
  | (e, t, os) :: L, G, h => by
    unfold okL at h
    unfold fillL
    rw [addAt_fillL h.2]
    congr 1
    funext k i
    unfold addAt fillKey
    by_cases h1 : k = e ∧ i = t
    · have : ¬ (k = d ∧ i ∈ ts) := fun x => h.1 ⟨h1.1.symm.trans x.1, by rw [← h1.2]; exact x.2⟩
      simp only [if_pos h1, if_neg this]
    · simp only [if_neg h1]
section
variable {C : CR} {A : Ann} {d : Nat}
theorem call_drwL {K : St → Prop} {F : Nat → GV} {G : Heap} {n : FuncId} {caps args as : List GV} {t t0 : Nat} {r : GV} (L : List (Nat × Nat × List Obj')) (hT : ∀ H : Nat → List Obj', C d n as (addAt G d (A.also t) H) r (fillL (addAt G d (A.also t) H) L)) (hw : wkRs (args ++ caps) as) (ho : A.openAt t = true)
    (hf : G d t0 = []) (hf' : fillL G L d t0 = []) (hr : adopt d t0 r [] = (r, [])) (hL : okL d (A.also t) L) (hl : lenOK G L) (hk : ∀ x ∈ A.watch t, ∃ κ o, A.wkey x = some (κ, o) ∧ ¬ (κ.1 = d ∧ κ.2.1 ∈ A.also t) ∧ ∃ cs cs', get G κ = some (.box cs) ∧ get (fillL G L) κ = some (.box cs') ∧ cs'[o]? = cs[o]?)
    (hn : t0 ∉ A.also t) (hK : K ⟨upd F t r, fillL G L⟩) (hb : A.borAt t = false := by rfl) : gCall C A d G (.fn n caps) args (some t) (kont d (some t) K ⟨F, G⟩) := by
  refine call_drw (G' := fillL G L) (t0 := t0) (fun H => by rw [addAt_fillL hL]; exact hT H) hw ho hf hf' hr (fun x hx => ?_) (fun κ hg => ?_) hk hn hK hb
  · rcases fillL_at L G d x with ⟨y, h1, h2, h3, _⟩ | ⟨_, h⟩
    · exact absurd ⟨h2, by rw [h3]; exact hx⟩ (okL_mem hL y h1)
    · exact h
  · unfold get at hg ⊢
    rcases fillL_at L G κ.1 κ.2.1 with ⟨y, h1, h2, h3, h4⟩ | ⟨_, h⟩
    · have := lenOK_mem hl y h1
      rw [h2, h3] at this
      rw [h4]
      intro e
      rw [List.getElem?_eq_none_iff] at e
      exact hg (List.getElem?_eq_none (by omega))
    · rw [h]; exact hg
end
end Go.Eng
