import Derived.Test.YtnahfkmdojbpkaaEMb
import Derived.Laws.Cover3
/-! The engine: encoders, slices that grow, conditions. -/
set_option linter.all false
namespace Go.Eng
@[go_sem] def cii64 (x : Int) : List PV := [.int .i64 x]
@[go_sem] def ciu64 (x : Int) : List PV := [.int .u64 x]
@[go_sem] def cii32 (x : Int) : List PV := [.int .i32 x]
@[go_sem] def ciu32 (x : Int) : List PV := [.int .u32 x]
@[go_sem] def ciu8 (x : Int) : List PV := [.int .u8 x]
@[go_sem] def cii16 (x : Int) : List PV := [.int .i16 x]
@[go_sem] def cbool (x : Bool) : List PV := [.bool x]
@[go_sem] def cstr (x : ByteArray) : List PV := [.str x]
@[go_sem] def cslc {α : Type} (c : α → List PV) (l : List α) : List PV := [.sl (l.map c)]
def encP {α : Type} (c : α → List PV) : Option α → PV
  | none => .null
  | some v => .pt (c v)
@[go_sem] theorem encP_none {α : Type} (c : α → List PV) : encP c none = .null := rfl
@[go_sem] theorem encP_some {α : Type} (c : α → List PV) (v : α) : encP c (some v) = .pt (c v) := rfl
@[go_sem] def cptr {α : Type} (c : α → List PV) (o : Option α) : List PV := [encP c o]
def obP {α : Type} (c : α → List PV) : Option α → GV
  | none => .p .null
  | some v => .obx ((c v).map .p)
@[go_sem] theorem obP_none {α : Type} (c : α → List PV) : obP c none = .p .null := rfl
@[go_sem] theorem obP_some {α : Type} (c : α → List PV) (v : α) : obP c (some v) = .obx ((c v).map .p) := rfl
theorem purs_p : ∀ l : List PV, purs (l.map .p) = some l
  | [] => rfl
  | v :: l => by simp [purs, pur, purs_p l]
@[go_sem high] theorem frz_obP {α : Type} (c : α → List PV) (o : Option α) : frz (obP c o) = .p (encP c o) := by
  cases o with
  | none => simp [obP, encP, frz]
  | some v => simp only [obP, encP]; unfold frz; rw [purs_p]
@[go_sem] theorem sizes_m {α : Type} {c : α → List PV} {n : Nat} (h : ∀ x, (c x).length = n) (l : List α) : sizes (l.map c) n = True := eq_true (sizes_map h l)
@[go_sem] theorem sizes_0 {n : Nat} : sizes [] n = True := eq_true sizes_nil
@[go_sem] theorem sizes_c {e : List PV} {es : List (List PV)} {n : Nat} : sizes (e :: es) n = (e.length = n ∧ sizes es n) := by
  apply propext
  constructor
  · intro h; exact ⟨h e (by simp), fun x hx => h x (by simp [hx])⟩
  · rintro ⟨h1, h2⟩; exact sizes_cons h1 h2
@[go_sem high] theorem isNil_enc {α : Type} (c : α → List PV) (o : Option α) : isNilOf (.p (encP c o)) = some o.isNone := by cases o <;> simp [encP, isNilOf]
@[go_sem high] theorem gBin_ptr {P : Program} {α : Type} {op : BinOp} {t : TypeId} {c : α → List PV} {o : Option α} {K : GV → Prop} : gBin P op t (.p (encP c o)) (.p .null) K = (isPtr P t = true ∧ match op with
    | .eql => K (.p (.bool o.isNone))
    | .neq => K (.p (.bool (!o.isNone)))
    | _ => False) := by
  cases o <;> unfold gBin <;> cases op <;> simp [encP, isNilOf]
@[go_sem] theorem scal_enc_null : scal (.p .null) = True := by simp [scal]
mutual
theorem poison_closed {d : Nat} {ts : List Nat} : ∀ g : GV, closed g → poison d ts g = g
  | .p _, _ => by unfold poison; rfl
  | .csl _, _ => by unfold poison; rfl
  | .ep _ _, _ => by unfold poison; rfl
  | .fn f gs, h => by unfold closed at h; unfold poison; rw [poisons_closed gs h]
  | .agg gs, h => by unfold closed at h; unfold poison; rw [poisons_closed gs h]
  | .tup gs, h => by unfold closed at h; unfold poison; rw [poisons_closed gs h]
  | .undef, h => by unfold closed at h; exact h.elim
  | .tsl _ _, h => by unfold closed at h; exact h.elim
  | .own _ _, h => by unfold closed at h; exact h.elim
  | .obx _, h => by unfold closed at h; exact h.elim
  | .oar _ _, h => by unfold closed at h; exact h.elim
  | .bp _ _, h => by unfold closed at h; exact h.elim
  | .arr _ _ _, h => by unfold closed at h; exact h.elim
  | .ap _ _ _ _, h => by unfold closed at h; exact h.elim
theorem poisons_closed {d : Nat} {ts : List Nat} : ∀ gs : List GV, closeds gs → poisons d ts gs = gs
  | [], _ => by unfold poisons; rfl
  | g :: gs, h => by unfold closeds at h; unfold poisons; rw [poison_closed g h.1, poisons_closed gs h.2]
end
theorem toL {x y : ByteArray} : (x.toList = y.toList) = (x = y) := propext ⟨fun h => (Go.Lib.bytes_beq_iff x y).1 (by rw [h]; exact beq_self_eq_true _), fun h => by rw [h]⟩
@[go_sem] theorem nc0 : ((0 : Nat) : Int) = 0 := rfl
mutual
theorem poison_low {d : Nat} {ts : List Nat} : ∀ g : GV, okd d g → poison (d + 1) ts g = g
  | .p _, _ => by unfold poison; rfl
  | .csl _, _ => by unfold poison; rfl
  | .ep _ _, _ => by unfold poison; rfl
  | .undef, _ => by unfold poison; rfl
  | .own _ _, _ => by unfold poison; rfl
  | .obx _, _ => by unfold poison; rfl
  | .oar _ _, _ => by unfold poison; rfl
  | .tsl _ κ, h => by unfold okd at h; unfold poison; rw [if_neg]; omega
  | .bp κ _, h => by unfold okd at h; unfold poison; rw [if_neg]; omega
  | .arr κ _ _, h => by unfold okd at h; unfold poison; rw [if_neg]; omega
  | .ap κ _ _ _, h => by unfold okd at h; unfold poison; rw [if_neg]; omega
  | .fn f gs, h => by unfold okd at h; unfold poison; rw [poisons_low gs h]
  | .agg gs, h => by unfold okd at h; unfold poison; rw [poisons_low gs h]
  | .tup gs, h => by unfold okd at h; unfold poison; rw [poisons_low gs h]
theorem poisons_low {d : Nat} {ts : List Nat} : ∀ gs : List GV, okds d gs → poisons (d + 1) ts gs = gs
  | [], _ => by unfold poisons; rfl
  | g :: gs, h => by unfold okds at h; unfold poisons; rw [poison_low g h.1, poisons_low gs h.2]
end
mutual
theorem okd_up {d : Nat} : ∀ g : GV, okd d g → okd (d + 1) g
  | .p _, _ => by unfold okd; trivial
  | .csl _, _ => by unfold okd; trivial
  | .ep _ _, _ => by unfold okd; trivial
  | .undef, _ => by unfold okd; trivial
  | .own _ _, _ => by unfold okd; trivial
  | .obx _, _ => by unfold okd; trivial
  | .oar _ _, _ => by unfold okd; trivial
  | .tsl _ κ, h => by unfold okd at h ⊢; omega
  | .bp κ _, h => by unfold okd at h ⊢; omega
  | .arr κ _ _, h => by unfold okd at h ⊢; omega
  | .ap κ _ _ _, h => by unfold okd at h ⊢; omega
  | .fn f gs, h => by unfold okd at h ⊢; exact okds_up gs h
  | .agg gs, h => by unfold okd at h ⊢; exact okds_up gs h
  | .tup gs, h => by unfold okd at h ⊢; exact okds_up gs h
theorem okds_up {d : Nat} : ∀ gs : List GV, okds d gs → okds (d + 1) gs
  | [], _ => by unfold okds; trivial
  | g :: gs, h => by unfold okds at h ⊢; exact ⟨okd_up g h.1, okds_up gs h.2⟩
end
theorem agree_down {d : Nat} {G1 G2 G : Heap} (h : agree (d + 1) G1 G2) (h' : agree d G2 G) : agree d G1 G := fun k t hk => (h k t (by omega)).trans (h' k t hk)
theorem agree_get {d : Nat} {G1 G2 : Heap} (h : agree d G1 G2) {κ : Key} (hk : κ.1 ≤ d) : get G1 κ = get G2 κ := by unfold get; rw [h _ _ hk]
def ownP (es : List (List PV)) (sz : Nat) : GV := match es with
  | [] => .p (.sl [])
  | es => .own es sz
theorem ownP_nil {sz : Nat} : ownP [] sz = .p (.sl []) := rfl
theorem ownP_ne {es : List (List PV)} {sz : Nat} (h : es ≠ []) : ownP es sz = .own es sz := by
  cases es with
  | nil => exact absurd rfl h
  | cons a l => rfl
@[go_sem] theorem frz_ownP {es : List (List PV)} {sz : Nat} : frz (ownP es sz) = .p (.sl es) := by
  cases es <;> simp [ownP, frz]
/-! ### Conditions -/
def rq (c : Bool) : Option Unit := match c with
  | true => some ()
  | false => none
theorem rqs {p : Prop} {_ : Decidable p} {u : Unit} (h : rq (decide p) = some u) : p := by
  by_cases hp : p
  · exact hp
  · rw [decide_eq_false hp] at h; cases h
def gb (s : ByteArray) (i : Int) : Option UInt8 := if 0 ≤ i then s[i.toNat]? else none
theorem gbs {s : ByteArray} {i : Int} {x : UInt8} (h : gb s i = some x) : 0 ≤ i ∧ s[i.toNat]? = some x := by
  unfold gb at h
  split at h
  · exact ⟨by assumption, h⟩
  · cases h
def subS (s : ByteArray) (l h : Int) : Option ByteArray := if 0 ≤ l ∧ l ≤ h ∧ h ≤ s.size then some (s.extract l.toNat h.toNat) else none
theorem subSs {s : ByteArray} {l h : Int} {x : ByteArray} (e : subS s l h = some x) : 0 ≤ l ∧ l ≤ h ∧ h ≤ s.size ∧ s.extract l.toNat h.toNat = x := by
  unfold subS at e
  split at e
  · rename_i c; cases e; exact ⟨c.1, c.2.1, c.2.2, rfl⟩
  · cases e
def subL {α : Type} (s : List α) (l h : Int) : Option (List α) := if 0 ≤ l ∧ l ≤ h ∧ h ≤ s.length then some ((s.take h.toNat).drop l.toNat) else none
theorem subLs {α : Type} {s : List α} {l h : Int} {x : List α} (e : subL s l h = some x) : 0 ≤ l ∧ l ≤ h ∧ h ≤ s.length ∧ ∀ c : α → List PV, ((s.map c).take h.toNat).drop l.toNat = x.map c := by
  unfold subL at e
  split at e
  · rename_i c; cases e; exact ⟨c.1, c.2.1, c.2.2, fun c => by simp [List.map_take, List.map_drop]⟩
  · cases e
/-! ### Slices that grow -/
def growV (o : Option Nat) (d : Nat) (es : List (List PV)) : GV := match o with
  | none => .csl es
  | some t => .tsl es (d, t, 0)
def growO (o : Option Nat) (t n : Nat) (es : List (List PV)) : List Obj' := if o = some t then [.tok es.length n] else []
def growOK (o : Option Nat) (ts : List Nat) : Prop := o = none ∨ ∃ t, t ∈ ts ∧ o = some t
def growFill (G : Heap) (d : Nat) (o : Option Nat) (n : Nat) (es : List (List PV)) : List Nat → Heap
  | [] => G
  | t :: ts => growFill (fillKey G d t (growO o t n es)) d o n es ts
@[go_sem] theorem growV_none {d : Nat} {es : List (List PV)} : growV none d es = .csl es := rfl
@[go_sem] theorem growV_some {d t : Nat} {es : List (List PV)} : growV (some t) d es = .tsl es (d, t, 0) := rfl
@[go_sem] theorem growO_none {t n : Nat} {es : List (List PV)} : growO none t n es = [] := rfl
@[go_sem] theorem growO_some {t t' n : Nat} {es : List (List PV)} : growO (some t) t' n es = if t = t' then [.tok es.length n] else [] := by
  unfold growO; simp
@[go_sem] theorem growOK_none {ts : List Nat} : growOK none ts = True := eq_true (.inl rfl)
@[go_sem] theorem growOK_some {t : Nat} {ts : List Nat} : growOK (some t) ts = (t ∈ ts) := by
  apply propext
  constructor
  · rintro (h | ⟨t', h1, h2⟩)
    · cases h
    · cases h2; exact h1
  · intro h; exact .inr ⟨t, h, rfl⟩
attribute [go_sem] growFill
theorem growOK.sub {o : Option Nat} {ts ts' : List Nat} (h : growOK o ts) (hs : ∀ t ∈ ts, t ∈ ts') : growOK o ts' := by
  rcases h with h | ⟨t, h1, h2⟩
  · exact .inl h
  · exact .inr ⟨t, hs t h1, h2⟩
theorem growO_out {o : Option Nat} {t n : Nat} {es : List (List PV)} {ts : List Nat} (h : growOK o ts) (ht : t ∉ ts) : growO o t n es = [] := by
  unfold growO
  rw [if_neg]
  rintro rfl
  rcases h with h | ⟨t', h1, h2⟩
  · cases h
  · cases h2; exact ht h1
theorem fillKey_nil' {G : Heap} {d t : Nat} (h : G d t = []) : fillKey G d t [] = G := fillKey_nil h
attribute [go_sem] fillKey_nil'
@[go_sem] theorem wkA_grow {o : Option Nat} {d : Nat} {es : List (List PV)} : wkA true (growV o d es) = .p (.sl es) := by cases o <;> rfl
@[go_sem high] theorem elems_grow {o : Option Nat} {d : Nat} {es : List (List PV)} : elems (growV o d es) = some es := by cases o <;> rfl
@[go_sem high] theorem lenOf_grow {o : Option Nat} {d : Nat} {es : List (List PV)} : lenOf (growV o d es) = some es.length := by cases o <;> rfl
@[go_sem high] theorem pur_grow {o : Option Nat} {d : Nat} {es : List (List PV)} : pur (growV o d es) = some (.sl es) := by cases o <;> rfl
@[go_sem high] theorem gcells_grow {o : Option Nat} {d : Nat} {es : List (List PV)} : gcells (growV o d es) = some [growV o d es] := by cases o <;> rfl
@[go_sem high] theorem wkR_grow {o : Option Nat} {d : Nat} {es es' : List (List PV)} : wkR (growV o d es) (.p (.sl es')) = (es' = es) := by
  cases o <;> simp [growV, wkR]
@[go_sem high] theorem wkB_grow {G : Heap} {d' : Nat} {o : Option Nat} {d : Nat} {es es' : List (List PV)} : wkB G d' (growV o d es) (.p (.sl es')) = (es' = es) := by
  cases o <;> simp [growV, wkB]
theorem appG_grow {d k : Nat} {o : Option Nat} {es es' : List (List PV)} (h : growOK o [k]) : appG d k (growV o d es) (.csl es') = True := by
  rcases h with rfl | ⟨t, h1, rfl⟩
  · rfl
  · simp only [List.mem_singleton] at h1
    subst h1
    simp [growV, appG]
theorem appG_grow_p {d k : Nat} {o : Option Nat} {es : List (List PV)} {v : PV} (h : growOK o [k]) : appG d k (growV o d es) (.p v) = True := by
  rcases h with rfl | ⟨t, h1, rfl⟩
  · rfl
  · simp only [List.mem_singleton] at h1
    subst h1
    simp [growV, appG]
@[go_sem high] theorem okd_grow {o : Option Nat} {d : Nat} {es : List (List PV)} : okd d (growV o d es) = True := by cases o <;> simp [growV, okd]
theorem poison_grow {o : Option Nat} {d : Nat} {es : List (List PV)} {ts ts' : List Nat} (h : growOK o ts') (hd : ∀ t ∈ ts', t ∉ ts) : poison d ts (growV o d es) = growV o d es := by
  rcases h with rfl | ⟨t, h1, rfl⟩
  · simp [growV, poison]
  · simp [growV, poison, hd t h1]
@[go_sem high] theorem Ret_grow {G : Heap} {d : Nat} {o : Option Nat} {es es' : List (List PV)} {ks ks' : List Key} : Ret G d (growV o (d + 1) es) (.p (.sl es')) ks ks' = (es' = es ∧ ks' = ks) := by
  cases o <;> simp [growV, Ret]
@[go_sem] theorem map_growO {d : Nat} {ts : List Nat} {o : Option Nat} {t n : Nat} {es : List (List PV)} : (growO o t n es).map (poisonO d ts) = growO o t n es := by
  unfold growO; split <;> simp [poisonO]
@[go_sem high] theorem gLen_grow {P : Program} {t : TypeId} {o : Option Nat} {d : Nat} {es : List (List PV)} {K : GV → Prop} : gLen P t (growV o d es) K = (isSl P t = true ∧ K (.p (.int .i64 es.length))) := by
  cases o <;> simp [growV, gLen, lenOf]
@[go_sem high] theorem gIndexAddr_grow {P : Program} {t : TypeId} {o : Option Nat} {d : Nat} {es : List (List PV)} {i : GV} {K : GV → Prop} : gIndexAddr P t (growV o d es) i K = gIndexAddr P t (.p (.sl es)) i K := by
  cases o <;> unfold gIndexAddr <;> cases elT P t <;> cases i <;> try rfl
  all_goals (rename_i v; cases v <;> try rfl)
  all_goals (cases aelT P t <;> rfl)
@[go_sem high] theorem gSlice_grow {P : Program} {t : TypeId} {o : Option Nat} {d : Nat} {es : List (List PV)} {a b c : Option GV} {K : GV → Prop} : gSlice P t (growV o d es) a b c K = gSlice P t (.p (.sl es)) a b c K := by
  cases o <;> (unfold gSlice; rfl)
@[go_sem high] theorem srcOf_grow {P : Program} {G : Heap} {t : TypeId} {n : Nat} {o : Option Nat} {d : Nat} {es : List (List PV)} : srcOf P G t n (growV o d es) = if isSl P t then some es else none := by
  cases o <;> (unfold srcOf; rfl)
@[go_sem] theorem srcOf_csl {P : Program} {G : Heap} {t : TypeId} {n : Nat} {es : List (List PV)} : srcOf P G t n (.csl es) = if isSl P t then some es else none := rfl
@[go_sem] theorem srcOf_tsl {P : Program} {G : Heap} {t : TypeId} {n : Nat} {κ : Key} {es : List (List PV)} : srcOf P G t n (.tsl es κ) = if isSl P t then some es else none := rfl
@[go_sem] theorem srcOf_sl {P : Program} {G : Heap} {t : TypeId} {n : Nat} {es : List (List PV)} : srcOf P G t n (.p (.sl es)) = if isSl P t then some es else none := rfl
theorem growFill_at {d : Nat} {o : Option Nat} {n : Nat} {es : List (List PV)} : ∀ (ts : List Nat) (G : Heap) (k i : Nat), growFill G d o n es ts k i = if k = d ∧ i ∈ ts then growO o i n es else G k i
  | [], G, k, i => by simp [growFill]
  | t :: ts, G, k, i => by
    unfold growFill
    rw [growFill_at ts]
    unfold fillKey
    by_cases h1 : k = d
    · by_cases h2 : i ∈ ts
      · simp [h1, h2]
      · by_cases h3 : i = t
        · simp [h1, h3]
        · simp [h1, h2, h3]
    · simp [h1]
section
variable {P : Program} {C : CR} {A : Ann} {d : Nat}
theorem append_G {K : St → Prop} {F : Nat → GV} {G : Heap} {ty tx : TypeId} {o : Option Nat} {ts : List Nat} {es xs : List (List PV)} {x : GV} {j : Nat} {e n b : Nat} (ho : growOK o ts) (hG : ∀ t, t ∈ ts → G d t = growO o t n es) (hj : j ∈ ts) (he : elT P ty = some (e, n, b))
    (hx : srcOf P G tx n x = some xs) (h1 : sizes es n) (h2 : sizes xs n) (ha : A.pureAt j = false) (hra : A.arrAt j = false) (hb : es.length + xs.length ≤ 1000000) (hbb : b ≤ 140737488)
    (hK : ∀ o', growOK o' ts → K ⟨upd F j (growV o' d (es ++ xs)), growFill G d o' n (es ++ xs) ts⟩) (hop : A.openAt j = false := by rfl) : gAppend P A d G ty tx (growV o d es) x (some j) (kont d (some j) K ⟨F, G⟩) := by
  have hbig : (es.length + xs.length) * b ≤ 140737488355328 := by
    have := Nat.mul_le_mul hb hbb
    omega
  by_cases hne : xs = []
  · subst hne
    have hK := hK o ho
    have hGG : growFill G d o n (es ++ []) ts = G := by
      funext k i
      rw [growFill_at]
      split
      · rename_i h
        rw [List.append_nil, h.1]
        exact (hG i h.2).symm
      · rfl
    rw [hGG, List.append_nil] at hK
    cases o with
    | none => exact append_none he hx ha h1 (by simp at hbig; exact hbig) hK
    | some t =>
      have ht : t ∈ ts := by
        rcases ho with h | ⟨t', h, h'⟩
        · cases h
        · cases h'; exact h
      have hg : get G (d, t, 0) = some (.tok es.length n) := by
        unfold get
        dsimp only
        rw [hG t ht]
        simp [growO]
      refine append_tok he hx ha h1 h2 hbig hg ?_
      simp only [List.length_nil, Nat.add_zero, List.append_nil]
      show K ⟨_, setKey G (d, t, 0) (.tok es.length n)⟩
      rw [setKey_same hg]
      exact hK
  · cases o with
    | none =>
      refine append_new he hx ha h1 h2 hbig hne (by rw [hG j hj]; rfl) ?_ hra hop
      have hK := hK (some j) (.inr ⟨j, hj, rfl⟩)
      have hGG : growFill G d (some j) n (es ++ xs) ts = fillKey G d j [.tok (es.length + xs.length) n] := by
        funext k i
        rw [growFill_at]
        unfold fillKey growO
        by_cases h1 : k = d
        · by_cases h2 : i = j
          · subst h2; simp [h1, hj]
          · by_cases h3 : i ∈ ts
            · have := hG i h3
              simp [growO] at this
              simp [h1, h2, h3, Ne.symm h2, this]
            · simp [h2, h3]
        · simp [h1]
      rw [hGG] at hK
      exact hK
    | some t =>
      have ht : t ∈ ts := by
        rcases ho with h | ⟨t', h, h'⟩
        · cases h
        · cases h'; exact h
      have hg : get G (d, t, 0) = some (.tok es.length n) := by
        unfold get
        dsimp only
        rw [hG t ht]
        simp [growO]
      refine append_tok he hx ha h1 h2 hbig hg ?_
      have hK := hK (some t) (.inr ⟨t, ht, rfl⟩)
      have hGG : growFill G d (some t) n (es ++ xs) ts = setKey G (d, t, 0) (.tok (es.length + xs.length) n) := by
        funext k i
        rw [growFill_at]
        unfold setKey
        dsimp only
        by_cases h1 : k = d
        · by_cases h2 : i = t
          · subst h2
            have := hG i ht
            simp only [growO, if_true] at this
            simp [h1, ht, growO, this]
          · by_cases h3 : i ∈ ts
            · have := hG i h3
              simp only [growO, Option.some.injEq, Ne.symm h2, if_false] at this
              simp [h1, h2, h3, growO, Ne.symm h2, this]
            · simp [h2, h3]
        · simp [h1]
      rw [hGG] at hK
      exact hK
/-- A call that may append to a slice that is handed in. -/
theorem call_G {K : St → Prop} {F : Nat → GV} {G : Heap} {n : FuncId} {rest : List GV} {o : Option Nat} {ts : List Nat} {es es' : List (List PV)} {sz j : Nat} {fnd : Bool}
    (hA : C d n (.csl es :: rest) G (if fnd = true then .csl es' else .own es' sz) G)
    (hB : ∀ q t c, q ≤ d → get G (q, t, c) = some (.tok es.length sz) → C d n (.tsl es (q, t, c) :: rest) G (.tsl es' (q, t, c)) (if fnd = true then G else setKey G (q, t, c) (.tok es'.length sz)))
    (hes : fnd = true → es' = es) (ho : growOK o ts) (hG : ∀ t, t ∈ ts → G d t = growO o t sz es) (hj : j ∈ ts) {t0 : Nat} (ht0 : G d t0 = []) (ht0' : t0 ∉ ts) (hopen : A.openAt j = true)
    (hK : ∀ o', growOK o' ts → K ⟨upd F j (growV o' d es'), growFill G d o' sz es' ts⟩) (hb : A.borAt j = false := by rfl) (hdr : A.drwAt j = false := by rfl) : gCall C A d G (.fn n []) (growV o d es :: rest) (some j) (kont d (some j) K ⟨F, G⟩) := by
  cases o with
  | none =>
    have hjf : G d j = [] := by rw [hG j hj]; rfl
    cases fnd with
    | true =>
      have e := hes rfl
      subst e
      have hK := hK none ho
      have hGG : growFill G d none sz es' ts = G := by
        funext k i
        rw [growFill_at]
        split
        · rename_i h; rw [h.1, hG i h.2]
        · rfl
      rw [hGG] at hK
      exact call_same hA (by rw [List.append_nil]; exact wkRs_refl _) hopen hjf (by simp [adopt, growV]) hK hb hdr
    | false =>
      have hK := hK (some j) (.inr ⟨j, hj, rfl⟩)
      have hGG : growFill G d (some j) sz es' ts = fillKey G d j [.tok es'.length sz] := by
        funext k i
        rw [growFill_at]
        unfold fillKey growO
        by_cases h1 : k = d
        · by_cases h2 : i = j
          · subst h2; simp [h1, hj]
          · by_cases h3 : i ∈ ts
            · have := hG i h3
              simp [growO] at this
              simp [h1, h2, h3, Ne.symm h2, this]
            · simp [h2, h3]
        · simp [h1]
      rw [hGG] at hK
      exact call_open hA (by rw [List.append_nil]; exact wkRs_refl _) hopen hjf hjf (by simp [adopt, growV]) hK hb hdr
  | some t =>
    have ht : t ∈ ts := by
      rcases ho with h | ⟨t', h, h'⟩
      · cases h
      · cases h'; exact h
    have hg : get G (d, t, 0) = some (.tok es.length sz) := by
      unfold get
      dsimp only
      rw [hG t ht]
      simp [growO]
    have hK := hK (some t) (.inr ⟨t, ht, rfl⟩)
    have hGG : growFill G d (some t) sz es' ts = if fnd = true then G else setKey G (d, t, 0) (.tok es'.length sz) := by
      funext k i
      rw [growFill_at]
      by_cases h1 : k = d
      · by_cases h2 : i = t
        · subst h2
          have := hG i ht
          simp only [growO, if_true] at this
          cases fnd with
          | true => have := hes rfl; subst this; simp_all [growO]
          | false => simp [h1, ht, growO, this, setKey]
        · by_cases h3 : i ∈ ts
          · have := hG i h3
            simp only [growO, Option.some.injEq, Ne.symm h2, if_false] at this
            cases fnd <;> simp [h1, h2, h3, growO, Ne.symm h2, this, setKey]
          · cases fnd <;> simp [h2, h3, setKey]
      · cases fnd <;> simp [h1, setKey]
    rw [hGG] at hK
    refine call_open0 (t0 := t0) (hB d t 0 (Nat.le_refl d) hg) (by rw [List.append_nil]; exact wkRs_refl _) hopen ht0 ?_ (by simp [adopt]) hK hb hdr
    cases fnd with
    | true => exact ht0
    | false =>
      simp only [Bool.false_eq_true, if_false]
      unfold setKey
      dsimp only
      rw [if_neg]
      · exact ht0
      · rintro ⟨_, h⟩; subst h; exact ht0' ht
end
end Go.Eng
