import Derived.Test.YtmgcgkemgomfdaaEMc
/-! The engine, part Md: rows that are written and grow, from none on; rows of numbers in a box. -/
set_option linter.all false
set_option maxRecDepth 10000
namespace Go.Eng
/-- A row that is written, or none yet. -/
def arV (es : List (List PV)) (κ : Key) (n : Nat) : GV := if es = [] then .csl [] else .arr κ es.length n
def arO (es : List (List PV)) : List Obj' := if es = [] then [] else [.arr es]
@[go_sem] theorem arV_nil {κ : Key} {n : Nat} : arV [] κ n = .csl [] := rfl
@[go_sem] theorem arO_nil : arO [] = [] := rfl
@[go_sem] theorem arV_ne {es : List (List PV)} {κ : Key} {n : Nat} (h : es ≠ []) : arV es κ n = .arr κ es.length n := if_neg h
@[go_sem] theorem arO_ne {es : List (List PV)} (h : es ≠ []) : arO es = [.arr es] := if_neg h
@[go_sem] theorem arV_mapc {α : Type} {c : α → List PV} {x : α} {l : List α} {κ : Key} {n : Nat} : arV (c x :: l.map c) κ n = .arr κ (l.length + 1) n := by
  unfold arV; rw [if_neg (by simp)]; simp
@[go_sem] theorem arV_map_ne {α : Type} {c : α → List PV} {l : List α} {κ : Key} {n : Nat} (h : (l = []) = False) : arV (l.map c) κ n = .arr κ l.length n := by
  unfold arV; rw [if_neg (by rw [List.map_eq_nil_iff, h]; exact not_false), List.length_map]
@[go_sem] theorem arO_map_ne {α : Type} {c : α → List PV} {l : List α} (h : (l = []) = False) : arO (l.map c) = [.arr (l.map c)] := by
  unfold arO; rw [if_neg (by rw [List.map_eq_nil_iff, h]; exact not_false)]
@[go_sem] theorem set_nil_eq {α : Type} {l : List α} {i : Nat} {x : α} : (l.set i x = []) = (l = []) := by simp
@[go_sem] theorem app_nil_eq {α : Type} {l : List α} {x : α} {m : List α} : (l ++ x :: m = []) = False := by simp
@[go_sem] theorem cons_nil_eq {α : Type} {l : List α} {x : α} : (x :: l = []) = False := by simp
@[go_sem] theorem len_set {α : Type} {l : List α} {i : Nat} {x : α} : (l.set i x).length = l.length := by simp
@[go_sem] theorem map_set_eq {α β : Type} {f : α → β} {l : List α} {i : Nat} {x : α} : (l.set i x).map f = (l.map f).set i (f x) := by simp
@[go_sem high] theorem lenOf_ar {es : List (List PV)} {κ : Key} {n : Nat} : lenOf (arV es κ n) = some es.length := by
  unfold arV; split
  · rename_i h; rw [h]; rfl
  · rfl
@[go_sem high] theorem gLen_ar {P : Program} {t : TypeId} {es : List (List PV)} {κ : Key} {n : Nat} {K : GV → Prop} : gLen P t (arV es κ n) K = (isSl P t = true ∧ K (.p (.int .i64 es.length))) := by
  unfold arV; split
  · rename_i h; rw [h]; simp [gLen, lenOf]
  · simp [gLen, lenOf]
@[go_sem high] theorem gcells_ar {es : List (List PV)} {κ : Key} {n : Nat} : gcells (arV es κ n) = some [arV es κ n] := by
  unfold arV; split <;> rfl
@[go_sem high] theorem okd_ar {k : Nat} {es : List (List PV)} {κ : Key} {n : Nat} (h : κ.1 ≤ k) : okd k (arV es κ n) = True := by
  unfold arV; split <;> simp [okd, h]
@[go_sem high] theorem poison_ar {d : Nat} {ts : List Nat} {es : List (List PV)} {k t c : Nat} {n : Nat} (h : ¬ (k = d ∧ t ∈ ts)) : poison d ts (arV es (k, t, c) n) = arV es (k, t, c) n := by
  unfold arV; split
  · rfl
  · unfold poison; rw [if_neg h]
@[go_sem high] theorem wkR_ar {es : List (List PV)} {κ : Key} {n : Nat} : wkR (arV es κ n) (arV es κ n) = True := by
  unfold arV; split <;> simp [wkR]
@[go_sem high] theorem wkA_ar {b : Bool} {es : List (List PV)} {κ : Key} {n : Nat} (h : b = false) : wkA b (arV es κ n) = arV es κ n := by subst h; cases arV es κ n <;> rfl
@[go_sem] theorem poisonO_arO {d : Nat} {ts : List Nat} {es : List (List PV)} : (arO es).map (poisonO d ts) = arO es := by
  unfold arO; split <;> simp [poisonO]
@[go_sem high] theorem wkB_ar {G : Heap} {d k t : Nat} {es es' : List (List PV)} {n : Nat} (h : k ≤ d) (hg : G k t = arO es) : wkB G d (arV es (k, t, 0) n) (.p (.sl es')) = (es' = es) := by
  unfold arV
  unfold arO at hg
  split
  · rename_i h0; subst h0; simp [wkB]
  · rename_i h0
    rw [if_neg h0] at hg
    unfold wkB get
    rw [hg]
    simp [h]
theorem ne_of_idx {α : Type} {l : List α} {i : Int} (h0 : 0 ≤ i) (h : i < (l.length : Int)) : l ≠ [] := by
  rintro rfl
  simp at h
  omega
/-- An append to such a row. -/
theorem append_A {P : Program} {A : Ann} {d : Nat} {α : Type} {c : α → List PV} {l m : List α} {k t0 : Nat} {K : St → Prop} {F : Nat → GV} {G : Heap} {ty tx : TypeId} {x : GV} {j e n b : Nat} (he : elT P ty = some (e, n, b)) (hx : srcOf P G tx n x = some (m.map c))
    (hc : ∀ y, (c y).length = n) (hm : m ≠ []) (ha : A.pureAt j = false) (hra : A.arrAt j = true) (hb : l.length + m.length ≤ 1000000) (hbb : b ≤ 140737488) (hG : G k t0 = arO (l.map c)) (hn : l = [] → k = d ∧ t0 = j)
    (hK : K ⟨upd F j (arV ((l ++ m).map c) (k, t0, 0) n), fillKey G k t0 (arO ((l ++ m).map c))⟩) (hop : A.openAt j = false := by rfl) : gAppend P A d G ty tx (arV (l.map c) (k, t0, 0) n) x (some j) (kont d (some j) K ⟨F, G⟩) := by
  have hbig : (l.length + m.length) * b ≤ 140737488355328 := by
    have := Nat.mul_le_mul hb hbb
    omega
  have hne : (l ++ m).map c ≠ [] := by simp [hm]
  rw [arV_ne hne, arO_ne hne] at hK
  by_cases h0 : l = []
  · subst h0
    obtain ⟨rfl, rfl⟩ := hn rfl
    refine append_arr_new (es := []) he hx ha sizes_nil (sizes_map hc m) (by simpa using hbig) (by simpa using hm) (by simpa [arO] using hG) ?_ hra hop
    show K ⟨upd F t0 _, fillKey G k t0 _⟩
    simpa using hK
  · have h1 : l.map c ≠ [] := by simpa using h0
    rw [arV_ne h1]
    rw [arO_ne h1] at hG
    refine append_arr_more (es := l.map c) he hx ha (sizes_map hc m) (by unfold get; rw [hG]; rfl) rfl (by simpa using hbig) ?_
    show K ⟨upd F j _, setKey G (k, t0, 0) _⟩
    have e2 : setKey G (k, t0, 0) (.arr (l.map c ++ m.map c)) = fillKey G k t0 [.arr ((l ++ m).map c)] := by
      funext k' t'
      unfold setKey fillKey
      dsimp only
      by_cases e : k' = k ∧ t' = t0
      · obtain ⟨rfl, rfl⟩ := e
        simp [hG]
      · simp [e]
    rw [e2]
    simpa using hK
/-- The same, of a row that is there. -/
theorem append_B {P : Program} {A : Ann} {d : Nat} {α : Type} {c : α → List PV} {l m : List α} {k t0 q : Nat} {K : St → Prop} {F : Nat → GV} {G : Heap} {ty tx : TypeId} {x : GV} {j e n b : Nat} (he : elT P ty = some (e, n, b)) (hx : srcOf P G tx n x = some (m.map c))
    (hc : ∀ y, (c y).length = n) (hm : m ≠ []) (ha : A.pureAt j = false) (hb : l.length + m.length ≤ 1000000) (hbb : b ≤ 140737488) (hG : G k t0 = [.arr (l.map c)]) (hq : q = l.length)
    (hK : K ⟨upd F j (arV ((l ++ m).map c) (k, t0, 0) n), fillKey G k t0 (arO ((l ++ m).map c))⟩) : gAppend P A d G ty tx (.arr (k, t0, 0) q n) x (some j) (kont d (some j) K ⟨F, G⟩) := by
  subst hq
  have hbig : (l.length + m.length) * b ≤ 140737488355328 := by
    have := Nat.mul_le_mul hb hbb
    omega
  have hne : (l ++ m).map c ≠ [] := by simp [hm]
  rw [arV_ne hne, arO_ne hne] at hK
  have := append_arr_more (P := P) (A := A) (d := d) (t := ty) (tx := tx) (j := j) (κ := (k, t0, 0)) (m := l.length) (K := kont d (some j) K ⟨F, G⟩) (es := l.map c) he hx ha (sizes_map hc m) (by unfold get; rw [hG]; rfl) (by simp) (by simpa using hbig) ?_
  · exact this
  show K ⟨upd F j _, setKey G (k, t0, 0) _⟩
  have e2 : setKey G (k, t0, 0) (.arr (l.map c ++ m.map c)) = fillKey G k t0 [.arr ((l ++ m).map c)] := by
    funext k' t'
    unfold setKey fillKey
    dsimp only
    by_cases e : k' = k ∧ t' = t0
    · obtain ⟨rfl, rfl⟩ := e
      simp [hG]
    · simp [e]
  rw [e2]
  simpa using hK
@[go_sem] theorem nc_lit {n : Nat} : (Nat.cast (no_index (OfNat.ofNat n : Nat)) : Int) = OfNat.ofNat n := rfl
attribute [go_sem] Nat.zero_add Nat.mul_one
/-! Rows of numbers in a box. -/
def gI (k : IntKind) (x : Int) : GV := .p (.int k x)
@[go_sem] theorem gI_app {k : IntKind} {x : Int} : gI k x = .p (.int k x) := rfl
@[go_sem] theorem gI_get {k : IntKind} {l : List Int} {i : Nat} : (l.map (gI k))[i]? = (l[i]?).map (gI k) := List.getElem?_map ..
@[go_sem] theorem gI_some {k : IntKind} {x : Int} : (some x).map (gI k) = some (.p (.int k x)) := rfl
@[go_sem] theorem gI_len {k : IntKind} {l : List Int} : (l.map (gI k)).length = l.length := by simp
@[go_sem high] theorem gI_spl {k : IntKind} {l : List Int} {i : Nat} {x : Int} (h : i + 1 ≤ l.length) : spl (l.map (gI k)) i [.p (.int k x)] = (l.set i x).map (gI k) := by
  unfold spl
  rw [show ([.p (.int k x)] : List GV) = [x].map (gI k) from rfl, ← List.map_drop, ← List.map_take, ← List.map_append, ← List.map_append]
  congr 1
  rw [List.set_eq_take_append_cons_drop, if_pos (show i < l.length from h)]
  rfl
@[go_sem] theorem gI_poison {d : Nat} {ts : List Nat} {k : IntKind} : ∀ {l : List Int}, poisons d ts (l.map (gI k)) = l.map (gI k)
  | [] => rfl
  | x :: l => by
    have := gI_poison (d := d) (ts := ts) (k := k) (l := l)
    show poison d ts (gI k x) :: poisons d ts (l.map (gI k)) = _
    rw [this]; rfl
@[go_sem high] theorem gI_poison_set {d : Nat} {ts : List Nat} {k : IntKind} {l : List Int} {i : Nat} {x : Int} : poisons d ts ((l.map (gI k)).set i (.p (.int k x))) = (l.map (gI k)).set i (.p (.int k x)) := by
  have e : (l.map (gI k)).set i (.p (.int k x)) = (l.set i x).map (gI k) := by simp [gI]
  rw [e]; exact gI_poison
theorem lt_toNat {l : List Int} {i : Int} (h0 : 0 ≤ i) (h : i < (l.length : Int)) : i.toNat + 1 ≤ l.length := by omega
end Go.Eng
