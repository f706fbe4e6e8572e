import Derived.Laws.Cover3
import Derived.Test.YtfcehcjhilmlgaaSc4
section
set_option linter.all false
namespace Go.Eng
@[go_sem] def cii64 (x : Int) : List PV := [.int .i64 x]
@[go_sem] def ciu64 (x : Int) : List PV := [.int .u64 x]
@[go_sem] def cii32 (x : Int) : List PV := [.int .i32 x]
@[go_sem] def ciu32 (x : Int) : List PV := [.int .u32 x]
@[go_sem] def ciu8 (x : Int) : List PV := [.int .u8 x]
@[go_sem] def cii16 (x : Int) : List PV := [.int .i16 x]
@[go_sem] def cbool (x : Bool) : List PV := [.bool x]
@[go_sem] def cstr (x : ByteArray) : List PV := [.str x]
@[go_sem] def cslc {α : Type} (c : α → List PV) (l : List α) : List PV := [.sl (l.map c)]
def encP {α : Type} (c : α → List PV) : Option α → PV
  | none => .null
  | some v => .pt (c v)
@[go_sem] theorem encP_none {α : Type} (c : α → List PV) : encP c none = .null := rfl
@[go_sem] theorem encP_some {α : Type} (c : α → List PV) (v : α) : encP c (some v) = .pt (c v) := rfl
@[go_sem] def cptr {α : Type} (c : α → List PV) (o : Option α) : List PV := [encP c o]
def obP {α : Type} (c : α → List PV) : Option α → GV
  | none => .p .null
  | some v => .obx ((c v).map .p)
@[go_sem] theorem obP_none {α : Type} (c : α → List PV) : obP c none = .p .null := rfl
@[go_sem] theorem obP_some {α : Type} (c : α → List PV) (v : α) : obP c (some v) = .obx ((c v).map .p) := rfl
theorem purs_p : ∀ l : List PV, purs (l.map .p) = some l
  | [] => rfl
  | v :: l => by simp [purs, pur, purs_p l]
@[go_sem high] theorem frz_obP {α : Type} (c : α → List PV) (o : Option α) : frz (obP c o) = .p (encP c o) := by
  cases o with
  | none => simp [obP, encP, frz]
  | some v => simp only [obP, encP]; unfold frz; rw [purs_p]
@[go_sem] theorem sizes_m {α : Type} {c : α → List PV} {n : Nat} (h : ∀ x, (c x).length = n) (l : List α) : sizes (l.map c) n = True := eq_true (sizes_map h l)
@[go_sem] theorem sizes_0 {n : Nat} : sizes [] n = True := eq_true sizes_nil
@[go_sem] theorem sizes_c {e : List PV} {es : List (List PV)} {n : Nat} : sizes (e :: es) n = (e.length = n ∧ sizes es n) := by
  apply propext
  constructor
  · intro h; exact ⟨h e (by simp), fun x hx => h x (by simp [hx])⟩
  · rintro ⟨h1, h2⟩; exact sizes_cons h1 h2
@[go_sem high] theorem isNil_enc {α : Type} (c : α → List PV) (o : Option α) : isNilOf (.p (encP c o)) = some o.isNone := by cases o <;> simp [encP, isNilOf]
@[go_sem high] theorem gBin_ptr {P : Program} {α : Type} {op : BinOp} {t : TypeId} {c : α → List PV} {o : Option α} {K : GV → Prop} : gBin P op t (.p (encP c o)) (.p .null) K = (isPtr P t = true ∧ match op with
    | .eql => K (.p (.bool o.isNone))
    | .neq => K (.p (.bool (!o.isNone)))
    | _ => False) := by
  cases o <;> unfold gBin <;> cases op <;> simp [encP, isNilOf]
@[go_sem] theorem scal_enc_null : scal (.p .null) = True := by simp [scal]
mutual
theorem poison_closed {d : Nat} {ts : List Nat} : ∀ g : GV, closed g → poison d ts g = g
  | .p _, _ => by unfold poison; rfl
  | .csl _, _ => by unfold poison; rfl
  | .ep _ _, _ => by unfold poison; rfl
  | .fn f gs, h => by unfold closed at h; unfold poison; rw [poisons_closed gs h]
  | .agg gs, h => by unfold closed at h; unfold poison; rw [poisons_closed gs h]
  | .tup gs, h => by unfold closed at h; unfold poison; rw [poisons_closed gs h]
  | .undef, h => by unfold closed at h; exact h.elim
  | .tsl _ _, h => by unfold closed at h; exact h.elim
  | .own _ _, h => by unfold closed at h; exact h.elim
  | .obx _, h => by unfold closed at h; exact h.elim
  | .oar _ _, h => by unfold closed at h; exact h.elim
  | .bp _ _, h => by unfold closed at h; exact h.elim
  | .arr _ _ _, h => by unfold closed at h; exact h.elim
  | .ap _ _ _ _, h => by unfold closed at h; exact h.elim
  | .asl _ _ _ _ _, h => by unfold closed at h; exact h.elim
theorem poisons_closed {d : Nat} {ts : List Nat} : ∀ gs : List GV, closeds gs → poisons d ts gs = gs
  | [], _ => by unfold poisons; rfl
  | g :: gs, h => by unfold closeds at h; unfold poisons; rw [poison_closed g h.1, poisons_closed gs h.2]
end
theorem toL {x y : ByteArray} : (x.toList = y.toList) = (x = y) := propext ⟨fun h => (Go.Lib.bytes_beq_iff x y).1 (by rw [h]; exact beq_self_eq_true _), fun h => by rw [h]⟩
@[go_sem] theorem nc0 : ((0 : Nat) : Int) = 0 := rfl
def ownP (es : List (List PV)) (sz : Nat) : GV := match es with
  | [] => .p (.sl [])
  | es => .own es sz
@[go_sem] theorem frz_ownP {es : List (List PV)} {sz : Nat} : frz (ownP es sz) = .p (.sl es) := by
  cases es <;> simp [ownP, frz]
def rq (c : Bool) : Option Unit := match c with
  | true => some ()
  | false => none
theorem rqs {p : Prop} {_ : Decidable p} {u : Unit} (h : rq (decide p) = some u) : p := by
  by_cases hp : p
  · exact hp
  · rw [decide_eq_false hp] at h; cases h
def gb (s : ByteArray) (i : Int) : Option UInt8 := if 0 ≤ i then s[i.toNat]? else none
def subL {α : Type} (s : List α) (l h : Int) : Option (List α) := if 0 ≤ l ∧ l ≤ h ∧ h ≤ s.length then some ((s.take h.toNat).drop l.toNat) else none
theorem subLs {α : Type} {s : List α} {l h : Int} {x : List α} (e : subL s l h = some x) : 0 ≤ l ∧ l ≤ h ∧ h ≤ s.length ∧ ∀ c : α → List PV, ((s.map c).take h.toNat).drop l.toNat = x.map c := by
  unfold subL at e
  split at e
  · rename_i c; cases e; exact ⟨c.1, c.2.1, c.2.2, fun c => by simp [List.map_take, List.map_drop]⟩
  · cases e
def growV (o : Option Nat) (d : Nat) (es : List (List PV)) : GV := match o with
  | none => .csl es
  | some t => .tsl es (d, t, 0)
def growO (o : Option Nat) (t n : Nat) (es : List (List PV)) : List Obj' := if o = some t then [.tok es.length n] else []
def growOK (o : Option Nat) (ts : List Nat) : Prop := o = none ∨ ∃ t, t ∈ ts ∧ o = some t
def growFill (G : Heap) (d : Nat) (o : Option Nat) (n : Nat) (es : List (List PV)) : List Nat → Heap
  | [] => G
  | t :: ts => growFill (fillKey G d t (growO o t n es)) d o n es ts
@[go_sem] theorem growV_none {d : Nat} {es : List (List PV)} : growV none d es = .csl es := rfl
@[go_sem] theorem growV_some {d t : Nat} {es : List (List PV)} : growV (some t) d es = .tsl es (d, t, 0) := rfl
@[go_sem] theorem growO_none {t n : Nat} {es : List (List PV)} : growO none t n es = [] := rfl
@[go_sem] theorem growO_some {t t' n : Nat} {es : List (List PV)} : growO (some t) t' n es = if t = t' then [.tok es.length n] else [] := by
  unfold growO; simp
@[go_sem] theorem growOK_none {ts : List Nat} : growOK none ts = True := eq_true (.inl rfl)
@[go_sem] theorem growOK_some {t : Nat} {ts : List Nat} : growOK (some t) ts = (t ∈ ts) := by
  apply propext
  constructor
  · rintro (h | ⟨t', h1, h2⟩)
    · cases h
    · cases h2; exact h1
  · intro h; exact .inr ⟨t, h, rfl⟩
attribute [go_sem] growFill
theorem growOK.sub {o : Option Nat} {ts ts' : List Nat} (h : growOK o ts) (hs : ∀ t ∈ ts, t ∈ ts') : growOK o ts' := by
  rcases h with h | ⟨t, h1, h2⟩
  · exact .inl h
  · exact .inr ⟨t, hs t h1, h2⟩
theorem growO_out {o : Option Nat} {t n : Nat} {es : List (List PV)} {ts : List Nat} (h : growOK o ts) (ht : t ∉ ts) : growO o t n es = [] := by
  unfold growO
  rw [if_neg]
  rintro rfl
  rcases h with h | ⟨t', h1, h2⟩
  · cases h
  · cases h2; exact ht h1
theorem fillKey_nil' {G : Heap} {d t : Nat} (h : G d t = []) : fillKey G d t [] = G := fillKey_nil h
attribute [go_sem] fillKey_nil'
@[go_sem] theorem wkA_grow {o : Option Nat} {d : Nat} {es : List (List PV)} : wkA true (growV o d es) = .p (.sl es) := by cases o <;> rfl
@[go_sem high] theorem elems_grow {o : Option Nat} {d : Nat} {es : List (List PV)} : elems (growV o d es) = some es := by cases o <;> rfl
@[go_sem high] theorem lenOf_grow {o : Option Nat} {d : Nat} {es : List (List PV)} : lenOf (growV o d es) = some es.length := by cases o <;> rfl
@[go_sem high] theorem pur_grow {o : Option Nat} {d : Nat} {es : List (List PV)} : pur (growV o d es) = some (.sl es) := by cases o <;> rfl
@[go_sem high] theorem gcells_grow {o : Option Nat} {d : Nat} {es : List (List PV)} : gcells (growV o d es) = some [growV o d es] := by cases o <;> rfl
@[go_sem high] theorem wkR_grow {o : Option Nat} {d : Nat} {es es' : List (List PV)} : wkR (growV o d es) (.p (.sl es')) = (es' = es) := by
  cases o <;> simp [growV, wkR]
@[go_sem high] theorem wkB_grow {G : Heap} {d' : Nat} {o : Option Nat} {d : Nat} {es es' : List (List PV)} : wkB G d' (growV o d es) (.p (.sl es')) = (es' = es) := by
  cases o <;> simp [growV, wkB]
theorem appG_grow {d k : Nat} {o : Option Nat} {es es' : List (List PV)} (h : growOK o [k]) : appG d k (growV o d es) (.csl es') = True := by
  rcases h with rfl | ⟨t, h1, rfl⟩
  · rfl
  · simp only [List.mem_singleton] at h1
    subst h1
    simp [growV, appG]
theorem appG_grow_p {d k : Nat} {o : Option Nat} {es : List (List PV)} {v : PV} (h : growOK o [k]) : appG d k (growV o d es) (.p v) = True := by
  rcases h with rfl | ⟨t, h1, rfl⟩
  · rfl
  · simp only [List.mem_singleton] at h1
    subst h1
    simp [growV, appG]
@[go_sem high] theorem okd_grow {o : Option Nat} {d : Nat} {es : List (List PV)} : okd d (growV o d es) = True := by cases o <;> simp [growV, okd]
theorem poison_grow {o : Option Nat} {d : Nat} {es : List (List PV)} {ts ts' : List Nat} (h : growOK o ts') (hd : ∀ t ∈ ts', t ∉ ts) : poison d ts (growV o d es) = growV o d es := by
  rcases h with rfl | ⟨t, h1, rfl⟩
  · simp [growV, poison]
  · simp [growV, poison, hd t h1]
@[go_sem high] theorem Ret_grow {G : Heap} {d : Nat} {o : Option Nat} {es es' : List (List PV)} {ks ks' : List Key} : Ret G d (growV o (d + 1) es) (.p (.sl es')) ks ks' = (es' = es ∧ ks' = ks) := by
  cases o <;> simp [growV, Ret]
@[go_sem] theorem map_growO {d : Nat} {ts : List Nat} {o : Option Nat} {t n : Nat} {es : List (List PV)} : (growO o t n es).map (poisonO d ts) = growO o t n es := by
  unfold growO; split <;> simp [poisonO]
@[go_sem high] theorem gLen_grow {P : Program} {t : TypeId} {o : Option Nat} {d : Nat} {es : List (List PV)} {K : GV → Prop} : gLen P t (growV o d es) K = (isSl P t = true ∧ K (.p (.int .i64 es.length))) := by
  cases o <;> simp [growV, gLen, lenOf]
@[go_sem high] theorem gIndexAddr_grow {P : Program} {t : TypeId} {o : Option Nat} {d : Nat} {es : List (List PV)} {i : GV} {K : GV → Prop} : gIndexAddr P t (growV o d es) i K = gIndexAddr P t (.p (.sl es)) i K := by
  cases o <;> unfold gIndexAddr <;> cases elT P t <;> cases i <;> try rfl
  all_goals (rename_i v; cases v <;> try rfl)
  all_goals (cases aelT P t <;> rfl)
@[go_sem high] theorem gSlice_grow {P : Program} {t : TypeId} {o : Option Nat} {d : Nat} {es : List (List PV)} {a b c : Option GV} {K : GV → Prop} : gSlice P t (growV o d es) a b c K = gSlice P t (.p (.sl es)) a b c K := by
  cases o <;> (unfold gSlice; rfl)
@[go_sem high] theorem srcOf_grow {P : Program} {G : Heap} {t : TypeId} {n : Nat} {o : Option Nat} {d : Nat} {es : List (List PV)} : srcOf P G t n (growV o d es) = if isSl P t then some es else none := by
  cases o <;> (unfold srcOf; rfl)
@[go_sem] theorem srcOf_csl {P : Program} {G : Heap} {t : TypeId} {n : Nat} {es : List (List PV)} : srcOf P G t n (.csl es) = if isSl P t then some es else none := rfl
@[go_sem] theorem srcOf_tsl {P : Program} {G : Heap} {t : TypeId} {n : Nat} {κ : Key} {es : List (List PV)} : srcOf P G t n (.tsl es κ) = if isSl P t then some es else none := rfl
@[go_sem] theorem srcOf_sl {P : Program} {G : Heap} {t : TypeId} {n : Nat} {es : List (List PV)} : srcOf P G t n (.p (.sl es)) = if isSl P t then some es else none := rfl
theorem growFill_at {d : Nat} {o : Option Nat} {n : Nat} {es : List (List PV)} : ∀ (ts : List Nat) (G : Heap) (k i : Nat), growFill G d o n es ts k i = if k = d ∧ i ∈ ts then growO o i n es else G k i
  | [], G, k, i => by simp [growFill]
  | t :: ts, G, k, i => by
    unfold growFill
    rw [growFill_at ts]
    unfold fillKey
    by_cases h1 : k = d
    · by_cases h2 : i ∈ ts
      · simp [h1, h2]
      · by_cases h3 : i = t
        · simp [h1, h3]
        · simp [h1, h2, h3]
    · simp [h1]
section
variable {P : Program} {C : CR} {A : Ann} {d : Nat}
theorem append_G {K : St → Prop} {F : Nat → GV} {G : Heap} {ty tx : TypeId} {o : Option Nat} {ts : List Nat} {es xs : List (List PV)} {x : GV} {j : Nat} {e n b : Nat} (ho : growOK o ts) (hG : ∀ t, t ∈ ts → G d t = growO o t n es) (hj : j ∈ ts) (he : elT P ty = some (e, n, b))
    (hx : srcOf P G tx n x = some xs) (h1 : sizes es n) (h2 : sizes xs n) (ha : A.pureAt j = false) (hra : A.arrAt j = false) (hb : es.length + xs.length ≤ 1000000) (hbb : b ≤ 140737488)
    (hK : ∀ o', growOK o' ts → K ⟨upd F j (growV o' d (es ++ xs)), growFill G d o' n (es ++ xs) ts⟩) (hop : A.openAt j = false := by rfl) : gAppend P A d G ty tx (growV o d es) x (some j) (kont d (some j) K ⟨F, G⟩) := by
  have hbig : (es.length + xs.length) * b ≤ 140737488355328 := by
    have := Nat.mul_le_mul hb hbb
    omega
  by_cases hne : xs = []
  · subst hne
    have hK := hK o ho
    have hGG : growFill G d o n (es ++ []) ts = G := by
      funext k i
      rw [growFill_at]
      split
      · rename_i h
        rw [List.append_nil, h.1]
        exact (hG i h.2).symm
      · rfl
    rw [hGG, List.append_nil] at hK
    cases o with
    | none => exact append_none he hx ha h1 (by simp at hbig; exact hbig) hK
    | some t =>
      have ht : t ∈ ts := by
        rcases ho with h | ⟨t', h, h'⟩
        · cases h
        · cases h'; exact h
      have hg : get G (d, t, 0) = some (.tok es.length n) := by
        unfold get
        dsimp only
        rw [hG t ht]
        simp [growO]
      refine append_tok he hx ha h1 h2 hbig hg ?_
      simp only [List.length_nil, Nat.add_zero, List.append_nil]
      show K ⟨_, setKey G (d, t, 0) (.tok es.length n)⟩
      rw [setKey_same hg]
      exact hK
  · cases o with
    | none =>
      refine append_new he hx ha h1 h2 hbig hne (by rw [hG j hj]; rfl) ?_ hra hop
      have hK := hK (some j) (.inr ⟨j, hj, rfl⟩)
      have hGG : growFill G d (some j) n (es ++ xs) ts = fillKey G d j [.tok (es.length + xs.length) n] := by
        funext k i
        rw [growFill_at]
        unfold fillKey growO
        by_cases h1 : k = d
        · by_cases h2 : i = j
          · subst h2; simp [h1, hj]
          · by_cases h3 : i ∈ ts
            · have := hG i h3
              simp [growO] at this
              simp [h1, h2, h3, Ne.symm h2, this]
            · simp [h2, h3]
        · simp [h1]
      rw [hGG] at hK
      exact hK
    | some t =>
      have ht : t ∈ ts := by
        rcases ho with h | ⟨t', h, h'⟩
        · cases h
        · cases h'; exact h
      have hg : get G (d, t, 0) = some (.tok es.length n) := by
        unfold get
        dsimp only
        rw [hG t ht]
        simp [growO]
      refine append_tok he hx ha h1 h2 hbig hg ?_
      have hK := hK (some t) (.inr ⟨t, ht, rfl⟩)
      have hGG : growFill G d (some t) n (es ++ xs) ts = setKey G (d, t, 0) (.tok (es.length + xs.length) n) := by
        funext k i
        rw [growFill_at]
        unfold setKey
        dsimp only
        by_cases h1 : k = d
        · by_cases h2 : i = t
          · subst h2
            have := hG i ht
            simp only [growO, if_true] at this
            simp [h1, ht, growO, this]
          · by_cases h3 : i ∈ ts
            · have := hG i h3
              simp only [growO, Option.some.injEq, Ne.symm h2, if_false] at this
              simp [h1, h2, h3, growO, Ne.symm h2, this]
            · simp [h2, h3]
        · simp [h1]
      rw [hGG] at hK
      exact hK
end
end Go.Eng
end
section
set_option linter.all false
namespace Go.Eng
open Go
variable {σ χ : Type}
theorem loopO_total {b : σ → Option (σ ⊕ χ)} (I : σ → Prop) (μ : σ → Nat) (Q : χ → Prop)
    (step : ∀ s, I s → (∃ s', b s = some (.inl s') ∧ I s' ∧ μ s' < μ s) ∨ ∃ r, b s = some (.inr r) ∧ Q r) : ∀ (s : σ), I s → ∃ r, loopO b s = some r ∧ Q r := by
  have main : ∀ (n : Nat) (s : σ), μ s ≤ n → I s → ∃ r, loopO b s = some r ∧ Q r := by
    intro n
    induction n with
    | zero =>
      intro s hm hi
      rcases step s hi with ⟨s', _, _, hlt⟩ | ⟨r, hr, hq⟩
      · omega
      · exact ⟨r, loopO_inr hr, hq⟩
    | succ n ih =>
      intro s hm hi
      rcases step s hi with ⟨s', hs, hi', hlt⟩ | ⟨r, hr, hq⟩
      · obtain ⟨r, h1, h2⟩ := ih s' (by omega) hi'
        exact ⟨r, by rw [loopO_inl hs]; exact h1, h2⟩
      · exact ⟨r, loopO_inr hr, hq⟩
  exact fun s hi => main (μ s) s (Nat.le_refl _) hi
theorem wrap_i64 {x : Int} (h0 : -9223372036854775808 ≤ x) (h1 : x < 9223372036854775808) : IntKind.wrap .i64 x = x := by rw [IntKind.wrap_i64]; omega
theorem loopO_count {b : σ → Option (σ ⊕ χ)} (n : Nat) (I : Nat → σ → Prop) (Q : χ → Prop)
    (step : ∀ i s, i < n → I i s → (∃ s', b s = some (.inl s') ∧ I (i + 1) s') ∨ ∃ r, b s = some (.inr r) ∧ Q r) (last : ∀ s, I n s → ∃ r, b s = some (.inr r) ∧ Q r) {s : σ} (h0 : I 0 s) : ∃ r, loopO b s = some r ∧ Q r := by
  have main : ∀ (k i : Nat) (s : σ), i + k = n → I i s → ∃ r, loopO b s = some r ∧ Q r := by
    intro k
    induction k with
    | zero =>
      intro i s hk hi
      obtain ⟨r, hr, hq⟩ := last s (by rw [← hk]; exact hi)
      exact ⟨r, loopO_inr hr, hq⟩
    | succ k ih =>
      intro i s hk hi
      rcases step i s (by omega) hi with ⟨s', hs, hi'⟩ | ⟨r, hr, hq⟩
      · obtain ⟨r, h1, h2⟩ := ih (i + 1) s' (by omega) hi'
        exact ⟨r, by rw [loopO_inl hs]; exact h1, h2⟩
      · exact ⟨r, loopO_inr hr, hq⟩
  exact main n 0 s (by omega) h0
theorem gi_nat {α : Type} {l : List α} {i : Nat} : gi l (i : Int) = l[i]? := by
  unfold gi; simp
theorem gi_of {α : Type} {l : List α} {i : Nat} (h : i < l.length) : gi l (i : Int) = some l[i] := by
  rw [gi_nat, List.getElem?_eq_getElem h]
def fst (n : Nat) (P : Nat → Bool) : Option Nat := (List.range n).find? P
theorem fst_none {n : Nat} {P : Nat → Bool} : fst n P = none ↔ ∀ i, i < n → P i = false := by
  unfold fst
  rw [List.find?_eq_none]
  simp
theorem fst_some {n i : Nat} {P : Nat → Bool} (h : fst n P = some i) : i < n ∧ P i = true := by
  unfold fst at h
  exact ⟨by simpa using List.mem_of_find?_eq_some h, List.find?_some h⟩
theorem find_range' {n : Nat} {P : Nat → Bool} : ∀ (k i : Nat), (List.range' i (k + 1)).find? P = if P i then some i else (List.range' (i + 1) k).find? P := by
  intro k i
  rw [List.range'_succ, List.find?_cons]
  cases P i <;> rfl
theorem loopO_first {ρ ω : Type} {b : σ → Option (σ ⊕ (ω ⊕ ρ))} (mk : Nat → σ) (n : Nat) (P : Nat → Bool) (r : Nat → ρ) (u : ω) (hb : ∀ i, i < n → (∀ j, j < i → P j = false) → b (mk i) = some (if P i then .inr (.inr (r i)) else .inl (mk (i + 1)))) (hl : (∀ j, j < n → P j = false) → b (mk n) = some (.inr (.inl u))) :
    loopO b (mk 0) = some (match fst n P with | some i => .inr (r i) | none => .inl u) := by
  have main : ∀ (k i : Nat), i + k = n → (∀ j, j < i → P j = false) → loopO b (mk i) = some (match (List.range' i k).find? P with | some i => .inr (r i) | none => .inl u) := by
    intro k
    induction k with
    | zero =>
      intro i hk hj
      have e : i = n := by omega
      subst e
      exact loopO_inr (hl hj)
    | succ k ih =>
      intro i hk hj
      rw [find_range' (n := n)]
      have h := hb i (by omega) hj
      cases hp : P i with
      | true =>
        rw [hp, if_pos rfl] at h
        rw [if_pos rfl]
        exact loopO_inr h
      | false =>
        rw [hp, if_neg (by decide)] at h
        rw [if_neg (by decide), loopO_inl h]
        exact ih (i + 1) (by omega) fun j hj' => by
          by_cases e : j = i
          · rw [e]; exact hp
          · exact hj j (by omega)
  have := main n 0 (by omega) (by intro j hj; omega)
  rwa [show List.range' 0 n = List.range n from List.range_eq_range'.symm] at this
theorem some_bind' {α β : Type} (a : α) (f : α → Option β) : Option.bind (some a) f = f a := rfl
theorem rq_true {c : Bool} (h : c = true) : rq c = some () := by rw [h]; rfl
theorem lt_cast {i n : Nat} : decide ((i : Int) < (n : Int)) = decide (i < n) := by
  by_cases h : i < n
  · rw [decide_eq_true h, decide_eq_true (by omega)]
  · rw [decide_eq_false h, decide_eq_false (by omega)]
theorem wrap_succ {i : Nat} (h : i < 9223372036854775807) : IntKind.wrap .i64 ((i : Int) + 1) = ((i + 1 : Nat) : Int) := by
  rw [wrap_i64 (by omega) (by omega)]; omega
end Go.Eng
end
section
set_option linter.all false
set_option maxRecDepth 10000
namespace Go.Eng
def arV (es : List (List PV)) (κ : Key) (n : Nat) : GV := if es = [] then .csl [] else .arr κ es.length n
def arO (es : List (List PV)) : List Obj' := if es = [] then [] else [.arr es]
@[go_sem] theorem arV_nil {κ : Key} {n : Nat} : arV [] κ n = .csl [] := rfl
@[go_sem] theorem arO_nil : arO [] = [] := rfl
@[go_sem] theorem arV_ne {es : List (List PV)} {κ : Key} {n : Nat} (h : es ≠ []) : arV es κ n = .arr κ es.length n := if_neg h
@[go_sem] theorem arO_ne {es : List (List PV)} (h : es ≠ []) : arO es = [.arr es] := if_neg h
@[go_sem] theorem arV_mapc {α : Type} {c : α → List PV} {x : α} {l : List α} {κ : Key} {n : Nat} : arV (c x :: l.map c) κ n = .arr κ (l.length + 1) n := by
  unfold arV; rw [if_neg (by simp)]; simp
@[go_sem] theorem arV_map_ne {α : Type} {c : α → List PV} {l : List α} {κ : Key} {n : Nat} (h : (l = []) = False) : arV (l.map c) κ n = .arr κ l.length n := by
  unfold arV; rw [if_neg (by rw [List.map_eq_nil_iff, h]; exact not_false), List.length_map]
@[go_sem] theorem arO_map_ne {α : Type} {c : α → List PV} {l : List α} (h : (l = []) = False) : arO (l.map c) = [.arr (l.map c)] := by
  unfold arO; rw [if_neg (by rw [List.map_eq_nil_iff, h]; exact not_false)]
@[go_sem] theorem map_nil_eq {α β : Type} {c : α → β} {l : List α} : (l.map c = []) = (l = []) := by simp
@[go_sem] theorem arV_set_ne {es : List (List PV)} {i : Nat} {e : List PV} {κ : Key} {n : Nat} (h : (es = []) = False) : arV (es.set i e) κ n = .arr κ es.length n := by
  unfold arV; rw [if_neg (by rw [List.set_eq_nil_iff, h]; exact not_false), List.length_set]
@[go_sem] theorem arO_set_ne {es : List (List PV)} {i : Nat} {e : List PV} (h : (es = []) = False) : arO (es.set i e) = [.arr (es.set i e)] := by
  unfold arO; rw [if_neg (by rw [List.set_eq_nil_iff, h]; exact not_false)]
@[go_sem] theorem set_nil_eq {α : Type} {l : List α} {i : Nat} {x : α} : (l.set i x = []) = (l = []) := by simp
@[go_sem] theorem app_nil_eq {α : Type} {l : List α} {x : α} {m : List α} : (l ++ x :: m = []) = False := by simp
@[go_sem] theorem cons_nil_eq {α : Type} {l : List α} {x : α} : (x :: l = []) = False := by simp
@[go_sem] theorem len_set {α : Type} {l : List α} {i : Nat} {x : α} : (l.set i x).length = l.length := by simp
@[go_sem] theorem map_set_eq {α β : Type} {f : α → β} {l : List α} {i : Nat} {x : α} : (l.set i x).map f = (l.map f).set i (f x) := by simp
@[go_sem high] theorem lenOf_ar {es : List (List PV)} {κ : Key} {n : Nat} : lenOf (arV es κ n) = some es.length := by
  unfold arV; split
  · rename_i h; rw [h]; rfl
  · rfl
@[go_sem high] theorem gLen_ar {P : Program} {t : TypeId} {es : List (List PV)} {κ : Key} {n : Nat} {K : GV → Prop} : gLen P t (arV es κ n) K = (isSl P t = true ∧ K (.p (.int .i64 es.length))) := by
  unfold arV; split
  · rename_i h; rw [h]; simp [gLen, lenOf]
  · simp [gLen, lenOf]
@[go_sem high] theorem gcells_ar {es : List (List PV)} {κ : Key} {n : Nat} : gcells (arV es κ n) = some [arV es κ n] := by
  unfold arV; split <;> rfl
@[go_sem high] theorem okd_ar {k : Nat} {es : List (List PV)} {κ : Key} {n : Nat} (h : κ.1 ≤ k) : okd k (arV es κ n) = True := by
  unfold arV; split <;> simp [okd, h]
@[go_sem high] theorem poison_ar {d : Nat} {ts : List Nat} {es : List (List PV)} {k t c : Nat} {n : Nat} (h : ¬ (k = d ∧ t ∈ ts)) : poison d ts (arV es (k, t, c) n) = arV es (k, t, c) n := by
  unfold arV; split
  · rfl
  · unfold poison; rw [if_neg h]
@[go_sem high] theorem wkR_ar {es : List (List PV)} {κ : Key} {n : Nat} : wkR (arV es κ n) (arV es κ n) = True := by
  unfold arV; split <;> simp [wkR]
@[go_sem high] theorem wkA_ar {b : Bool} {es : List (List PV)} {κ : Key} {n : Nat} (h : b = false) : wkA b (arV es κ n) = arV es κ n := by subst h; cases arV es κ n <;> rfl
@[go_sem] theorem poisonO_arO {d : Nat} {ts : List Nat} {es : List (List PV)} : (arO es).map (poisonO d ts) = arO es := by
  unfold arO; split <;> simp [poisonO]
@[go_sem high] theorem wkB_ar {G : Heap} {d k t : Nat} {es es' : List (List PV)} {n : Nat} (h : k ≤ d) (hg : G k t = arO es) : wkB G d (arV es (k, t, 0) n) (.p (.sl es')) = (es' = es) := by
  unfold arV
  unfold arO at hg
  split
  · rename_i h0; subst h0; simp [wkB]
  · rename_i h0
    rw [if_neg h0] at hg
    unfold wkB get
    rw [hg]
    simp [h]
theorem ne_of_idx {α : Type} {l : List α} {i : Int} (h0 : 0 ≤ i) (h : i < (l.length : Int)) : l ≠ [] := by
  rintro rfl
  simp at h
  omega
theorem append_A {P : Program} {A : Ann} {d : Nat} {α : Type} {c : α → List PV} {l m : List α} {k t0 : Nat} {K : St → Prop} {F : Nat → GV} {G : Heap} {ty tx : TypeId} {x : GV} {j e n b : Nat} (he : elT P ty = some (e, n, b)) (hx : srcOf P G tx n x = some (m.map c))
    (hc : ∀ y, (c y).length = n) (hm : m ≠ []) (ha : A.pureAt j = false) (hra : A.arrAt j = true) (hb : l.length + m.length ≤ 1000000) (hbb : b ≤ 140737488) (hG : G k t0 = arO (l.map c)) (hn : l = [] → k = d ∧ t0 = j)
    (hK : K ⟨upd F j (arV ((l ++ m).map c) (k, t0, 0) n), fillKey G k t0 (arO ((l ++ m).map c))⟩) (hop : A.openAt j = false := by rfl) : gAppend P A d G ty tx (arV (l.map c) (k, t0, 0) n) x (some j) (kont d (some j) K ⟨F, G⟩) := by
  have hbig : (l.length + m.length) * b ≤ 140737488355328 := by
    have := Nat.mul_le_mul hb hbb
    omega
  have hne : (l ++ m).map c ≠ [] := by simp [hm]
  rw [arV_ne hne, arO_ne hne] at hK
  by_cases h0 : l = []
  · subst h0
    obtain ⟨rfl, rfl⟩ := hn rfl
    refine append_arr_new (es := []) he hx ha sizes_nil (sizes_map hc m) (by simpa using hbig) (by simpa using hm) (by simpa [arO] using hG) ?_ hra hop
    show K ⟨upd F t0 _, fillKey G k t0 _⟩
    simpa using hK
  · have h1 : l.map c ≠ [] := by simpa using h0
    rw [arV_ne h1]
    rw [arO_ne h1] at hG
    refine append_arr_more (es := l.map c) he hx ha (sizes_map hc m) (by unfold get; rw [hG]; rfl) rfl (by simpa using hbig) ?_
    show K ⟨upd F j _, setKey G (k, t0, 0) _⟩
    have e2 : setKey G (k, t0, 0) (.arr (l.map c ++ m.map c)) = fillKey G k t0 [.arr ((l ++ m).map c)] := by
      funext k' t'
      unfold setKey fillKey
      dsimp only
      by_cases e : k' = k ∧ t' = t0
      · obtain ⟨rfl, rfl⟩ := e
        simp [hG]
      · simp [e]
    rw [e2]
    simpa using hK
@[go_sem] theorem nc_lit {n : Nat} : (Nat.cast (no_index (OfNat.ofNat n : Nat)) : Int) = OfNat.ofNat n := rfl
attribute [go_sem] Nat.zero_add Nat.mul_one
def gI (k : IntKind) (x : Int) : GV := .p (.int k x)
@[go_sem] theorem gI_app {k : IntKind} {x : Int} : gI k x = .p (.int k x) := rfl
@[go_sem] theorem gI_get {k : IntKind} {l : List Int} {i : Nat} : (l.map (gI k))[i]? = (l[i]?).map (gI k) := List.getElem?_map ..
@[go_sem] theorem gI_some {k : IntKind} {x : Int} : (some x).map (gI k) = some (.p (.int k x)) := rfl
@[go_sem] theorem gI_len {k : IntKind} {l : List Int} : (l.map (gI k)).length = l.length := by simp
@[go_sem high] theorem gI_spl {k : IntKind} {l : List Int} {i : Nat} {x : Int} (h : i + 1 ≤ l.length) : spl (l.map (gI k)) i [.p (.int k x)] = (l.set i x).map (gI k) := by
  unfold spl
  rw [show ([.p (.int k x)] : List GV) = [x].map (gI k) from rfl, ← List.map_drop, ← List.map_take, ← List.map_append, ← List.map_append]
  congr 1
  rw [List.set_eq_take_append_cons_drop, if_pos (show i < l.length from h)]
  rfl
@[go_sem] theorem gI_poison {d : Nat} {ts : List Nat} {k : IntKind} : ∀ {l : List Int}, poisons d ts (l.map (gI k)) = l.map (gI k)
  | [] => rfl
  | x :: l => by
    have := gI_poison (d := d) (ts := ts) (k := k) (l := l)
    show poison d ts (gI k x) :: poisons d ts (l.map (gI k)) = _
    rw [this]; rfl
@[go_sem high] theorem gI_poison_set {d : Nat} {ts : List Nat} {k : IntKind} {l : List Int} {i : Nat} {x : Int} : poisons d ts ((l.map (gI k)).set i (.p (.int k x))) = (l.map (gI k)).set i (.p (.int k x)) := by
  have e : (l.map (gI k)).set i (.p (.int k x)) = (l.set i x).map (gI k) := by simp [gI]
  rw [e]; exact gI_poison
theorem lt_toNat {l : List Int} {i : Int} (h0 : 0 ≤ i) (h : i < (l.length : Int)) : i.toNat + 1 ≤ l.length := by omega
theorem get_map {α β : Type} {c : α → β} {l : List α} {i : Nat} {x : α} (h : l[i]? = some x) : (l.map c)[i]? = some (c x) := by rw [List.getElem?_map, h]; rfl
theorem arV_len {α : Type} {c : α → List PV} {l l' : List α} {κ : Key} {n : Nat} (h : l.length = l'.length) : arV (l.map c) κ n = arV (l'.map c) κ n := by
  unfold arV
  cases l <;> cases l' <;> simp at h ⊢
  exact h
theorem nil_len {α : Type} {l l' : List α} (h : l.length = l'.length) : (l = []) = (l' = []) := by
  cases l <;> cases l' <;> simp at h ⊢
theorem fill_self {B : Heap} {a b : Nat} {os : List Obj'} (h : B a b = os) : fillKey B a b os = B := by
  funext k i
  unfold fillKey
  split
  · rename_i e; rw [e.1, e.2, h]
  · rfl
theorem gwp_heap {P : Program} {C : CR} {A : Ann} {d : Nat} {c : Code} {Q : GE → St → Prop} {F : Nat → GV} {H H' : Heap} (e : H = H') (h : gwp P C A d c Q ⟨F, H'⟩) : gwp P C A d c Q ⟨F, H⟩ := by rw [e]; exact h
theorem fk_swap {a b a' b' : Nat} (h : (a = a' ∧ b = b') → False) (G : Heap) (os os' : List Obj') : fillKey (fillKey G a b os) a' b' os' = fillKey (fillKey G a' b' os') a b os := by
  funext k i
  unfold fillKey
  by_cases h1 : k = a ∧ i = b
  · have h2 : ¬ (k = a' ∧ i = b') := fun e => h ⟨h1.1.symm.trans e.1, h1.2.symm.trans e.2⟩
    simp only [if_pos h1, if_neg h2]
  · by_cases h2 : k = a' ∧ i = b'
    · simp only [if_neg h1, if_pos h2]
    · simp only [if_neg h1, if_neg h2]
@[go_sem] theorem fill_low {G : Heap} {d t e t' : Nat} {os os' : List Obj'} (h : (e = d + 1) = False) : fillKey (fillKey G (d + 1) t os) e t' os' = fillKey (fillKey G e t' os') (d + 1) t os :=
  fk_swap (fun x => by rw [← h]; exact x.1.symm) G os os'
@[go_sem] theorem set_low {G : Heap} {d t e t' c : Nat} {a : List Obj'} {o : Obj'} (h : (e = d + 1) = False) : setKey (fillKey G (d + 1) t a) (e, t', c) o = fillKey (setKey G (e, t', c) o) (d + 1) t a := by
  funext k i
  unfold setKey fillKey
  dsimp only
  by_cases h1 : k = d + 1 ∧ i = t
  · have h2 : ¬ (k = e ∧ i = t') := fun x => by rw [← h]; exact x.1.symm.trans h1.1
    simp only [if_pos h1, if_neg h2]
  · simp only [if_neg h1]
@[go_sem] theorem set_fill_ne {G : Heap} {e t t' c : Nat} {a : List Obj'} {o : Obj'} (h : (t' = t) = False) : setKey (fillKey G e t a) (e, t', c) o = fillKey (setKey G (e, t', c) o) e t a := by
  funext k i
  unfold setKey fillKey
  dsimp only
  by_cases h1 : k = e ∧ i = t
  · have h2 : ¬ (k = e ∧ i = t') := fun x => by rw [← h]; exact x.2.symm.trans h1.2
    simp only [if_pos h1, if_neg h2]
  · simp only [if_neg h1]
@[go_sem] theorem cleanG_low {G : Heap} {d e t : Nat} {ts : List Nat} {os : List Obj'} (h : (e = d) = False) : cleanG d ts (fillKey G e t os) = fillKey (cleanG d ts G) e t os := by
  funext k i
  simp only [cleanG, fillKey]
  by_cases h1 : k = d
  · have h2 : ¬ (k = e ∧ i = t) := fun x => by rw [← h]; exact x.1.symm.trans h1
    simp only [if_pos h1, if_neg h2]
  · simp only [if_neg h1]
@[go_sem] theorem agree_fill2 {d e t : Nat} {X Y : Heap} {os os' : List Obj'} (he : e ≤ d) (h : agree d X Y) : agree d (fillKey X e t os) (fillKey Y e t os') = (os = os') := by
  apply propext
  constructor
  · intro h2
    have := h2 e t he
    unfold fillKey at this
    rwa [if_pos ⟨rfl, rfl⟩, if_pos ⟨rfl, rfl⟩] at this
  · rintro rfl k i hk
    unfold fillKey
    split
    · rfl
    · exact h k i hk
attribute [go_sem] Nat.le_refl
@[go_sem high] theorem Ret_ar {G : Heap} {d k t : Nat} {es es' : List (List PV)} {n n' : Nat} {ks ks' : List Key} (hd : (d < k) = True) (hg : G k t = arO es) (hn : ((k, t, 0) ∈ ks) = False) (hne : (es = []) = False) : Ret G d (arV es (k, t, 0) n) (.own es' n') ks ks' = (es' = es ∧ n' = n ∧ ks' = ks ++ [(k, t, 0)]) := by
  have h0 : es ≠ [] := fun e => by rw [← hne]; exact e
  rw [arV_ne h0]
  rw [arO_ne h0] at hg
  unfold Ret get
  dsimp only
  rw [hg]
  apply propext
  constructor
  · rintro ⟨_, h2, _, h4, _, h6⟩
    simp at h2
    exact ⟨h2.symm, h4, h6⟩
  · rintro ⟨rfl, rfl, rfl⟩
    exact ⟨of_eq_true hd, by simp, rfl, rfl, fun x => by rw [← hn]; exact x, rfl⟩
def fillL : Heap → List (Nat × Nat × List Obj') → Heap
  | G, [] => G
  | G, (e, t, os) :: L => fillL (fillKey G e t os) L
def lenOK (G : Heap) : List (Nat × Nat × List Obj') → Prop
  | [] => True
  | (e, t, os) :: L => (G e t).length ≤ os.length ∧ lenOK G L
def okL (d : Nat) (ts : List Nat) : List (Nat × Nat × List Obj') → Prop
  | [] => True
  | (e, t, _) :: L => ((e = d ∧ t ∈ ts) → False) ∧ okL d ts L
attribute [go_sem] fillL lenOK okL
@[go_sem] theorem addAt_app {G : Heap} {d k t : Nat} {ts : List Nat} {H : Nat → List Obj'} : addAt G d ts H k t = if k = d ∧ t ∈ ts then H t else G k t := rfl
@[go_sem] theorem arO_len {es : List (List PV)} : (arO es).length = if es = [] then 0 else 1 := by unfold arO; split <;> rfl
theorem fillL_at : ∀ (L : List (Nat × Nat × List Obj')) (G : Heap) (k t : Nat), (∃ x ∈ L, x.1 = k ∧ x.2.1 = t ∧ fillL G L k t = x.2.2) ∨ ((∀ x ∈ L, ¬ (x.1 = k ∧ x.2.1 = t)) ∧ fillL G L k t = G k t)
  | [], G, k, t => .inr ⟨fun _ h => (by cases h), rfl⟩
  | (e, u, os) :: L, G, k, t => by
    unfold fillL
    rcases fillL_at L (fillKey G e u os) k t with ⟨x, h1, h2⟩ | ⟨h1, h2⟩
    · exact .inl ⟨x, List.mem_cons_of_mem _ h1, h2⟩
    · by_cases he : e = k ∧ u = t
      · refine .inl ⟨(e, u, os), List.mem_cons_self .., he.1, he.2, ?_⟩
        rw [h2]
        unfold fillKey
        rw [if_pos ⟨he.1.symm, he.2.symm⟩]
      · refine .inr ⟨fun x hx => ?_, ?_⟩
        · rcases List.mem_cons.1 hx with rfl | hx
          · exact he
          · exact h1 x hx
        · rw [h2]
          unfold fillKey
          rw [if_neg (fun x => he ⟨x.1.symm, x.2.symm⟩)]
theorem lenOK_mem {G : Heap} : ∀ {L : List (Nat × Nat × List Obj')}, lenOK G L → ∀ x ∈ L, (G x.1 x.2.1).length ≤ x.2.2.length
  | (e, t, os) :: L, h, x, hx => by
    unfold lenOK at h
    rcases List.mem_cons.1 hx with rfl | hx
    · exact h.1
    · exact lenOK_mem h.2 x hx
theorem okL_mem {d : Nat} {ts : List Nat} : ∀ {L : List (Nat × Nat × List Obj')}, okL d ts L → ∀ x ∈ L, ¬ (x.1 = d ∧ x.2.1 ∈ ts)
  | (e, t, os) :: L, h, x, hx => by
    unfold okL at h
    rcases List.mem_cons.1 hx with rfl | hx
    · exact h.1
    · exact okL_mem h.2 x hx
theorem addAt_fillL {d : Nat} {ts : List Nat} {H : Nat → List Obj'} : ∀ {L : List (Nat × Nat × List Obj')} {G : Heap}, okL d ts L → addAt (fillL G L) d ts H = fillL (addAt G d ts H) L
  | [], _, _ => rfl
  | (e, t, os) :: L, G, h => by
    unfold okL at h
    unfold fillL
    rw [addAt_fillL h.2]
    congr 1
    funext k i
    unfold addAt fillKey
    by_cases h1 : k = e ∧ i = t
    · have : ¬ (k = d ∧ i ∈ ts) := fun x => h.1 ⟨h1.1.symm.trans x.1, by rw [← h1.2]; exact x.2⟩
      simp only [if_pos h1, if_neg this]
    · simp only [if_neg h1]
section
variable {C : CR} {A : Ann} {d : Nat}
theorem call_drwL {K : St → Prop} {F : Nat → GV} {G : Heap} {n : FuncId} {caps args as : List GV} {t t0 : Nat} {r : GV} (L : List (Nat × Nat × List Obj')) (hT : ∀ H : Nat → List Obj', C d n as (addAt G d (A.also t) H) r (fillL (addAt G d (A.also t) H) L)) (hw : wkRs (args ++ caps) as) (ho : A.openAt t = true)
    (hf : G d t0 = []) (hf' : fillL G L d t0 = []) (hr : adopt d t0 r [] = (r, [])) (hL : okL d (A.also t) L) (hl : lenOK G L) (hk : ∀ x ∈ A.watch t, ∃ κ o, A.wkey x = some (κ, o) ∧ ¬ (κ.1 = d ∧ κ.2.1 ∈ A.also t) ∧ ∃ cs cs', get G κ = some (.box cs) ∧ get (fillL G L) κ = some (.box cs') ∧ sameAt o cs cs')
    (hn : t0 ∉ A.also t) (hK : K ⟨upd F t r, fillL G L⟩) (hb : A.borAt t = false := by rfl) : gCall C A d G (.fn n caps) args (some t) (kont d (some t) K ⟨F, G⟩) := by
  refine call_drw (G' := fillL G L) (t0 := t0) (fun H => by rw [addAt_fillL hL]; exact hT H) hw ho hf hf' hr (fun x hx => ?_) (fun κ hg => ?_) hk hn hK hb
  · rcases fillL_at L G d x with ⟨y, h1, h2, h3, _⟩ | ⟨_, h⟩
    · exact absurd ⟨h2, by rw [h3]; exact hx⟩ (okL_mem hL y h1)
    · exact h
  · unfold get at hg ⊢
    rcases fillL_at L G κ.1 κ.2.1 with ⟨y, h1, h2, h3, h4⟩ | ⟨_, h⟩
    · have := lenOK_mem hl y h1
      rw [h2, h3] at this
      rw [h4]
      intro e
      rw [List.getElem?_eq_none_iff] at e
      exact hg (List.getElem?_eq_none (by omega))
    · rw [h]; exact hg
end
end Go.Eng
end
section
set_option linter.all false
namespace Go.Eng
open Go
def gB (x : Bool) : GV := .p (.bool x)
@[go_sem] theorem gB_app {x : Bool} : gB x = .p (.bool x) := rfl
@[go_sem] theorem gB_get {l : List Bool} {i : Nat} : (l.map gB)[i]? = (l[i]?).map gB := List.getElem?_map ..
@[go_sem] theorem gB_some {x : Bool} : (some x).map gB = some (.p (.bool x)) := rfl
@[go_sem] theorem gB_len {l : List Bool} : (l.map gB).length = l.length := by simp
@[go_sem high] theorem gB_spl {l : List Bool} {i : Nat} {x : Bool} (h : i + 1 ≤ l.length) : spl (l.map gB) i [.p (.bool x)] = (l.set i x).map gB := by
  unfold spl
  rw [show ([.p (.bool x)] : List GV) = [x].map gB from rfl, ← List.map_drop, ← List.map_take, ← List.map_append, ← List.map_append]
  congr 1
  rw [List.set_eq_take_append_cons_drop, if_pos (show i < l.length from h)]
  rfl
@[go_sem] theorem gB_poison {d : Nat} {ts : List Nat} : ∀ {l : List Bool}, poisons d ts (l.map gB) = l.map gB
  | [] => rfl
  | x :: l => by
    have := gB_poison (d := d) (ts := ts) (l := l)
    show poison d ts (gB x) :: poisons d ts (l.map gB) = _
    rw [this]; rfl
attribute [go_sem] gCopy gMake partOf
@[go_sem] theorem srcOf_arr {P : Program} {G : Heap} {t : TypeId} {n m sz : Nat} {κ : Key} : srcOf P G t n (.arr κ m sz) = if isSl P t then match get G κ with
    | some (.arr es) => if es.length = m then some es else none
    | _ => none else none := rfl
@[go_sem] theorem srcOf_asl {P : Program} {G : Heap} {t : TypeId} {n m lo hi sz : Nat} {κ : Key} : srcOf P G t n (.asl κ m lo hi sz) = if isSl P t then match get G κ with
    | some (.arr es) => if es.length = m then some ((es.take hi).drop lo) else none
    | _ => none else none := rfl
@[go_sem] theorem wkB_asl {G : Heap} {d : Nat} {κ : Key} {m lo hi sz : Nat} {r : GV} : wkB G d (.asl κ m lo hi sz) r = (κ.1 ≤ d ∧ match get G κ with
    | some (.arr es) => es.length = m ∧ r = .p (.sl ((es.take hi).drop lo))
    | _ => False) := by unfold wkB; rfl
@[go_sem] theorem lenOf_asl {κ : Key} {m lo hi sz : Nat} : lenOf (.asl κ m lo hi sz) = some (hi - lo) := rfl
def cloR (es : List (List PV)) (sz : Nat) : GV := match es with
  | [] => .csl []
  | es => .own es sz
theorem cloR_nil {sz : Nat} : cloR [] sz = .csl [] := rfl
theorem cloR_ne {es : List (List PV)} {sz : Nat} (h : es ≠ []) : cloR es sz = .own es sz := by cases es; exact absurd rfl h; rfl
section
variable {P : Program} {C : CR} {A : Ann} {d : Nat}
theorem call_clo {K : St → Prop} {F : Nat → GV} {G : Heap} {n : FuncId} {caps args as : List GV} {t : Nat} {es : List (List PV)} {sz : Nat} (hT : C d n as empty (cloR es sz) empty) (hw : wkRs (args ++ caps) as) (ho : A.openAt t = false) (hcl : closeds as) (hf : G d t = [])
    (hK : ∀ o', growOK o' [t] → K ⟨upd F t (growV o' d es), growFill G d o' sz es [t]⟩) (hb : A.borAt t = false := by rfl) (hz : A.frzAt t = false := by rfl) : gCall C A d G (.fn n caps) args (some t) (kont d (some t) K ⟨F, G⟩) := by
  by_cases h : es = []
  · subst h
    exact call_own hT hw ho hcl hf (by simp [adopt, cloR]; exact ⟨rfl, rfl⟩) (hK none (.inl rfl)) hb hz
  · rw [cloR_ne h] at hT
    refine call_own hT hw ho hcl hf (r' := .tsl es (d, t, 0)) (os := [.tok es.length sz]) (by simp [adopt]) ?_ hb hz
    have := hK (some t) (.inr ⟨t, by simp, rfl⟩)
    simpa [growV, growFill, growO] using this
end
end Go.Eng
namespace Go.Eng
section
variable {P : Program} {A : Ann} {d : Nat}
theorem append_nil0 {K : GV → Dl → Prop} {G : Heap} {t tx : TypeId} {j : Nat} {e n b : Nat} (he : elT P t = some (e, n, b)) (hK : K (.csl []) .nop) (ha : A.pureAt j = false := by rfl) (hop : A.openAt j = false := by rfl) (hx : srcOf P G tx n (.p (.sl [])) = some [] := by simp [srcOf, go_sem]) : gAppend P A d G t tx (.csl []) (.p (.sl [])) (some j) K := by
  unfold gAppend
  rw [he]
  dsimp only
  rw [hx]
  dsimp only
  refine ⟨(fun _ h => by cases h), (fun _ h => by cases h), by simp, ?_⟩
  have e1 : dstIn A.pureAt (some j) = false := ha
  rw [e1]
  simpa using hK
end
end Go.Eng
namespace Go.Eng
theorem growOK_eq {o : Option Nat} {ts ts' : List Nat} (h : growOK o ts) (hs : ∀ t ∈ ts, t ∈ ts') : growOK o ts' = True := eq_true (h.sub hs)
end Go.Eng
namespace Go.Eng
def cloA (es : List (List PV)) (sz : Nat) : GV := match es with
  | [] => .csl []
  | es => .oar es sz
theorem cloA_nil {sz : Nat} : cloA [] sz = .csl [] := rfl
theorem cloA_ne {es : List (List PV)} {sz : Nat} (h : es ≠ []) : cloA es sz = .oar es sz := by cases es; exact absurd rfl h; rfl
section
variable {P : Program} {C : CR} {A : Ann} {d : Nat}
theorem call_cloA {K : St → Prop} {F : Nat → GV} {G : Heap} {n : FuncId} {caps args as : List GV} {t : Nat} {es : List (List PV)} {sz : Nat} (hT : C d n as empty (cloA es sz) empty) (hw : wkRs (args ++ caps) as) (ho : A.openAt t = false) (hcl : closeds as) (hf : G d t = [])
    (hK : K ⟨upd F t (arV es (d, t, 0) sz), fillKey G d t (arO es)⟩) (hb : A.borAt t = false := by rfl) (hz : A.frzAt t = false := by rfl) : gCall C A d G (.fn n caps) args (some t) (kont d (some t) K ⟨F, G⟩) := by
  by_cases h : es = []
  · subst h
    exact call_own hT hw ho hcl hf (r' := .csl []) (os := []) (by simp [adopt, cloA]) hK hb hz
  · rw [cloA_ne h] at hT
    rw [arV_ne h, arO_ne h] at hK
    exact call_own hT hw ho hcl hf (r' := .arr (d, t, 0) es.length sz) (os := [.arr es]) (by simp [adopt]) hK hb hz
@[go_sem high] theorem appG_arV {k sz : Nat} {es es' : List (List PV)} : appG d k (arV es (d, k, 0) sz) (.csl es') = True := by
  unfold arV
  split <;> simp [appG]
@[go_sem high] theorem appG_arV_p {k sz : Nat} {es : List (List PV)} {v : PV} : appG d k (arV es (d, k, 0) sz) (.p v) = True := by
  unfold arV
  split <;> simp [appG]
end
end Go.Eng
namespace Go.Eng
@[go_sem high] theorem agree_fillB {d e e1 e2 t t1 t2 : Nat} {X Y : Heap} {a b c c' : List Obj'} (he : e ≤ d) (he1 : e1 ≤ d) (he2 : e2 ≤ d) (h : agree d X Y) :
    agree d (fillKey (fillKey (fillKey X e t a) e1 t1 b) e2 t2 c) (fillKey (fillKey (fillKey Y e t a) e1 t1 b) e2 t2 c') = (c = c') := by
  have h1 : agree d (fillKey X e t a) (fillKey Y e t a) := by rw [agree_fill2 he h]
  have h2 : agree d (fillKey (fillKey X e t a) e1 t1 b) (fillKey (fillKey Y e t a) e1 t1 b) := by rw [agree_fill2 he1 h1]
  rw [agree_fill2 he2 h2]
@[go_sem high] theorem frz_cloA {es : List (List PV)} {sz : Nat} : frz (cloA es sz) = .p (.sl es) := by
  unfold cloA
  split <;> simp [frz]
@[go_sem high] theorem Ret_arV {G : Heap} {d t sz : Nat} {es : List (List PV)} {ks' : List Key} (hg : G (d + 1) t = arO es) : Ret G d (arV es (d + 1, t, 0) sz) (cloA es sz) [] ks' = (ks' = if es = [] then [] else [(d + 1, t, 0)]) := by
  by_cases h : es = []
  · subst h
    simp [cloA, Ret, arV]
  · rw [arV_ne h, cloA_ne h, if_neg h]
    rw [arO_ne h] at hg
    have hg' : get G (d + 1, t, 0) = some (.arr es) := by unfold get; rw [hg]; rfl
    simp [Ret, hg']
end Go.Eng
namespace Go.Eng
@[go_sem] theorem boxG_ep {d k o : Nat} {cs : List PV} : boxG d k (.ep cs o) = True := rfl
@[go_sem] theorem boxG_pt {d k : Nat} {cs : List PV} : boxG d k (.p (.pt cs)) = True := rfl
end Go.Eng
end
