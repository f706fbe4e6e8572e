import Derived.Test.YtnahfkmdojbpkaaEZb
/-! The engine: models in the Option monad, and their walks. -/
set_option linter.all false
namespace Go.Eng
universe u v
section
variable {σ : Type} {χ : Type}
def loopN (b : σ → Option (σ ⊕ χ)) : Nat → σ → Option χ
  | 0, _ => none
  | n + 1, s => (b s).bind fun y => match y with
    | .inl s' => loopN b n s'
    | .inr x => some x
theorem loopN_more {b : σ → Option (σ ⊕ χ)} : ∀ {n m : Nat} {s : σ} {x : χ}, loopN b n s = some x → n ≤ m → loopN b m s = some x
  | 0, _, _, _, h, _ => by cases h
  | n + 1, 0, _, _, _, h => by omega
  | n + 1, m + 1, s, x, h, hm => by
    unfold loopN at h ⊢
    cases hb : b s with
    | none => rw [hb] at h; cases h
    | some y =>
      rw [hb] at h
      cases y with
      | inl s' => exact loopN_more (n := n) h (by omega)
      | inr x' => exact h
open Classical in
/-- A loop: what it comes to, if it ends. -/
noncomputable def loopO (b : σ → Option (σ ⊕ χ)) (s : σ) : Option χ := if h : ∃ x n, loopN b n s = some x then some (Classical.choose h) else none
theorem loopO_some {b : σ → Option (σ ⊕ χ)} {s : σ} {x : χ} (h : loopO b s = some x) : ∃ n, loopN b n s = some x := by
  unfold loopO at h
  split at h
  · rename_i hx
    cases h
    exact Classical.choose_spec hx
  · cases h
theorem loopO_of {b : σ → Option (σ ⊕ χ)} {s : σ} {x : χ} {n : Nat} (h : loopN b n s = some x) : loopO b s = some x := by
  have hx : ∃ x n, loopN b n s = some x := ⟨x, n, h⟩
  cases hO : loopO b s with
  | none => unfold loopO at hO; rw [dif_pos hx] at hO; cases hO
  | some x' =>
    obtain ⟨m, hm⟩ := loopO_some hO
    have h1 := loopN_more h (Nat.le_max_left n m)
    have h2 := loopN_more hm (Nat.le_max_right n m)
    rw [h1] at h2
    exact h2.symm
theorem loopO_inl {b : σ → Option (σ ⊕ χ)} {s s' : σ} (h : b s = some (.inl s')) : loopO b s = loopO b s' := by
  cases hO : loopO b s' with
  | some x =>
    obtain ⟨n, hn⟩ := loopO_some hO
    exact loopO_of (n := n + 1) (by unfold loopN; rw [h]; exact hn)
  | none =>
    cases h1 : loopO b s with
    | none => rfl
    | some x =>
      obtain ⟨n, hn⟩ := loopO_some h1
      cases n with
      | zero => cases hn
      | succ n =>
        unfold loopN at hn
        rw [h] at hn
        rw [loopO_of (n := n) hn] at hO
        cases hO
theorem loopO_ind {b : σ → Option (σ ⊕ χ)} {P : σ → Prop} {Q : χ → Prop} (hl : ∀ a a', b a = some (.inl a') → P a → P a') (hr : ∀ a x, b a = some (.inr x) → P a → Q x) {s : σ} {x : χ} (h : loopO b s = some x) (hs : P s) : Q x := by
  obtain ⟨n, hn⟩ := loopO_some h
  clear h
  induction n generalizing s with
  | zero => cases hn
  | succ n ih =>
    unfold loopN at hn
    cases hb : b s with
    | none => rw [hb] at hn; cases hn
    | some y =>
      rw [hb] at hn
      cases y with
      | inl s' => exact ih (hl _ _ hb hs) hn
      | inr x' => cases hn; exact hr _ _ hb hs
theorem loopO_inr {b : σ → Option (σ ⊕ χ)} {s : σ} {x : χ} (h : b s = some (.inr x)) : loopO b s = some x :=
  loopO_of (n := 1) (by unfold loopN; rw [h]; rfl)
end
/-- A choice by a truth value. -/
def ifB {α : Type} (c : Bool) (x y : Option α) : Option α := match c with
  | true => x
  | false => y
@[simp] theorem ifB_true {α : Type} (x y : Option α) : ifB true x y = x := rfl
@[simp] theorem ifB_false {α : Type} (x y : Option α) : ifB false x y = y := rfl
def gi {α : Type} (l : List α) (i : Int) : Option α := if 0 ≤ i then l[i.toNat]? else none
theorem bs {α β : Type} {x : Option α} {f : α → Option β} {r : β} (h : Option.bind x f = some r) : ∃ a, x = some a ∧ f a = some r := Option.bind_eq_some_iff.1 h
theorem ib {α : Type} {c : Bool} {x y : Option α} {r : α} (h : ifB c x y = some r) : (c = true ∧ x = some r) ∨ (c = false ∧ y = some r) := by
  cases c
  · exact .inr ⟨rfl, h⟩
  · exact .inl ⟨rfl, h⟩
theorem og {α : Type} {c : Bool} {x : Option α} {r : α} (h : ifB c x none = some r) : c = true ∧ x = some r := by
  cases c
  · cases h
  · exact ⟨rfl, h⟩
theorem gis {α : Type} {l : List α} {i : Int} {x : α} (h : gi l i = some x) : 0 ≤ i ∧ l[i.toNat]? = some x := by
  unfold gi at h
  split at h
  · exact ⟨by assumption, h⟩
  · cases h
def cutQ (R : St → Prop) (Q : GE → St → Prop) : GE → St → Prop
  | .normal, s => R s
  | .exit i, s => Q (.exit i) s
  | .ret, s => Q .ret s
section
variable {P : Program} {C : CR} {A : Ann} {d : Nat}
theorem lp {σ χ : Type} {c : Code} {Q : GE → St → Prop} {s : St} {ts : List Nat} (hts : A.clean (firstId c) = ts) {b : σ → Option (σ ⊕ χ)} {a0 : σ} {x : χ} (hL : loopO b a0 = some x) (I : σ → St → Prop) (R : χ → GE → St → Prop)
    (h0 : I a0 (clean d ts s)) (hs : ∀ a y s, b a = some y → I a s → gwp P C A d c (GE.then (fun s' => ∃ a', y = .inl a' ∧ I a' (clean d ts s')) (fun e s' => ∃ x', y = .inr x' ∧ R x' e s')) s)
    (hk : ∀ e s', R x e s' → Q e s') : gwp P C A d (.loop c) Q s := by
  obtain ⟨n, hn⟩ := loopO_some hL
  refine gwp_loop (fun k s => ∃ a, loopN b k a = some x ∧ I a (clean d ts s)) (m := n) ⟨a0, hn, h0⟩ ?_
  rintro k s ⟨a, ha, hI⟩
  rw [hts]
  cases k with
  | zero => cases ha
  | succ k =>
    unfold loopN at ha
    obtain ⟨y, hy, ha⟩ := bs ha
    refine mono_gwp _ _ _ (fun e s' he => ?_) _ (hs a y _ hy hI)
    cases e with
    | normal =>
      obtain ⟨a', rfl, hI'⟩ := he
      exact ⟨k, Nat.lt_succ_self k, a', ha, hI'⟩
    | exit i =>
      obtain ⟨x', rfl, hR⟩ := he
      cases ha
      exact hk _ _ hR
    | ret =>
      obtain ⟨x', rfl, hR⟩ := he
      cases ha
      exact hk _ _ hR
theorem cutG {b : Bool} {x y : Code} {Q : GE → St → Prop} {s : St} (R : St → Prop) (h : guardB b true (gwpT P C A d x (cutQ R Q) s) (gwpT P C A d y (cutQ R Q) s)) (hR : ∀ s', R s' → Q .normal s') :
    guardB b true (gwpT P C A d x Q s) (gwpT P C A d y Q s) := by
  have hm : ∀ e s', cutQ R Q e s' → Q e s' := fun e s' h => by
    cases e
    · exact hR _ h
    · exact h
    · exact h
  exact ⟨fun e => mono_gwp _ _ _ hm _ (h.1 e), fun e => mono_gwp _ _ _ hm _ (h.2 e)⟩
theorem cutR {b w : Bool} {all : Array Oper} {o : Oper} {dst : Option Nat} {os : List Oper} {K : St → Prop} {s : St} (R : St → Prop) (h : guardB b w (gopT P C A d o (gops P C A d all os R) s) (skipT dst (gops P C A d all os R) s)) (hR : ∀ s', R s' → K s') :
    guardB b w (gopT P C A d o (gops P C A d all os K) s) (skipT dst (gops P C A d all os K) s) :=
  ⟨fun e => mono_gop (fun v δ hk => mono_gops hR _ _ hk) (h.1 e), fun e => mono_gops hR _ _ (h.2 e)⟩
/-- A call that is shown no objects, as it is told. -/
theorem callm {K : St → Prop} {F : Nat → GV} {G : Heap} {n : FuncId} {caps args as : List GV} {t : Nat} {r r' : GV} (hT : C d n as empty r empty) (hK : K ⟨upd F t r', G⟩) (hw : wkRs (args ++ caps) as) (ho : A.openAt t = false) (hcl : closeds as)
    (hr : frz r = r') (hz : A.frzAt t = true) (hb : A.borAt t = false) : gCall C A d G (.fn n caps) args (some t) (kont d (some t) K ⟨F, G⟩) := call_frz hT hw ho hcl hr hK hz hb
end
/-! ### The heap as a chain -/
theorem fillKey_same {G : Heap} {d t : Nat} {a b : List Obj'} : fillKey (fillKey G d t a) d t b = fillKey G d t b := by
  funext k i
  unfold fillKey
  split <;> rfl
theorem fillKey_comm {G : Heap} {d t t' : Nat} {a b : List Obj'} (h : t' < t) : fillKey (fillKey G d t a) d t' b = fillKey (fillKey G d t' b) d t a := by
  funext k i
  unfold fillKey
  by_cases h1 : k = d ∧ i = t'
  · rw [if_pos h1, if_neg (by omega), if_pos h1]
  · rw [if_neg h1, if_neg h1]
def keep (G : Heap) : Heap := G
theorem keep_eq {G : Heap} : keep G = G := rfl
theorem fillKey_sort {G : Heap} {d t t' : Nat} {a b : List Obj'} (h : t' < t) : fillKey (fillKey G d t a) d t' b = keep (fillKey (fillKey G d t' b) d t a) := fillKey_comm h
theorem setKey_fill {G : Heap} {d t c : Nat} {a : List Obj'} {o : Obj'} : setKey (fillKey G d t a) (d, t, c) o = fillKey G d t (a.set c o) := by
  funext k i
  unfold setKey fillKey
  dsimp only
  by_cases h1 : k = d ∧ i = t
  · rw [if_pos h1, if_pos h1, if_pos h1]
  · rw [if_neg h1, if_neg h1, if_neg h1]
theorem setKey_fill_ne {G : Heap} {d t t' c : Nat} {a : List Obj'} {o : Obj'} (h : t' ≠ t) : setKey (fillKey G d t a) (d, t', c) o = fillKey (setKey G (d, t', c) o) d t a := by
  funext k i
  unfold setKey fillKey
  dsimp only
  by_cases h1 : k = d ∧ i = t
  · rw [if_pos h1, if_neg (by omega), if_pos h1]
  · rw [if_neg h1, if_neg h1]
theorem setKey_fill_low {G : Heap} {d t : Nat} {κ : Key} {a : List Obj'} {o : Obj'} (h : κ.1 ≠ d) : setKey (fillKey G d t a) κ o = fillKey (setKey G κ o) d t a := by
  funext k i
  unfold setKey fillKey
  by_cases h1 : k = d ∧ i = t
  · rw [if_pos h1, if_neg (by omega), if_pos h1]
  · rw [if_neg h1, if_neg h1]
theorem agree_cut_set {d : Nat} {G : Heap} {κ : Key} {o : Obj'} (h : κ.1 ≤ d) : agree d (setKey (cut d G) κ o) (setKey G κ o) := by
  intro k t hk
  simp only [setKey, cut, if_pos hk]
theorem cleanS_Gf {d : Nat} {ts : List Nat} {s : St} : (cleanS d ts s).G = cleanG d ts s.G := rfl
theorem cleanG_in {G : Heap} {d t : Nat} {ts : List Nat} {os : List Obj'} (h : t ∈ ts) : cleanG d ts (fillKey G d t os) = cleanG d ts G := by
  funext k i
  unfold cleanG fillKey
  by_cases h1 : k = d
  · rw [if_pos h1, if_pos h1]
    by_cases h2 : i ∈ ts
    · rw [if_pos h2, if_pos h2]
    · rw [if_neg h2, if_neg h2, if_neg]
      rintro ⟨_, rfl⟩
      exact h2 h
  · rw [if_neg h1, if_neg h1, if_neg (by omega)]
theorem cleanG_out {G : Heap} {d t : Nat} {ts : List Nat} {os : List Obj'} (h : t ∉ ts) : cleanG d ts (fillKey G d t os) = fillKey (cleanG d ts G) d t (os.map (poisonO d ts)) := by
  funext k i
  simp only [cleanG, fillKey]
  by_cases h1 : k = d
  · subst h1
    by_cases h2 : i = t
    · subst h2; simp [h]
    · simp [h2]
  · simp [h1]
theorem cleanG_cut {G : Heap} {d : Nat} {ts : List Nat} : cleanG (d + 1) ts (cut d G) = cut d G := by
  funext k i
  simp only [cleanG, cut]
  by_cases h1 : k = d + 1
  · subst h1; simp [show ¬ d + 1 ≤ d by omega]
  · simp [h1]
theorem clean_clean {d t : Nat} {ts : List Nat} {s : St} : clean d (t :: ts) s = cleanS d (t :: ts) s := rfl
end Go.Eng
