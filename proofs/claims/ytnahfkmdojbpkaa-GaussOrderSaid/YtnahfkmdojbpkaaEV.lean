import Derived.Test.YtnahfkmdojbpkaaEU
/-! The engine, part V: loops, calls, appends, for use. -/
set_option linter.all false
namespace Go.Eng
section
variable {P : Program} {C : CR} {A : Ann} {d : Nat}
theorem mono_gops {all : Array Oper} {K K' : St → Prop} (hk : ∀ s, K s → K' s) : ∀ (l : List Oper) (s : St), gops P C A d all l K s → gops P C A d all l K' s
  | [], s, h => hk s h
  | o :: l, s, h => by
    rw [gops_cons, gop1_eq] at h ⊢
    exact mono_gop1v (fun v δ hh => mono_gops hk l _ hh) h
theorem cps_gops {all : Array Oper} {K : St → Prop} : ∀ (l : List Oper) (s : St), gops P C A d all l K s → ∃ s', gops P C A d all l (· = s') s ∧ K s'
  | [], s, h => ⟨s, rfl, h⟩
  | o :: l, s, h => by
    rw [gops_cons, gop1_eq] at h
    obtain ⟨v, δ, h1, h2⟩ := cps_gop1v h
    obtain ⟨s', h3, h4⟩ := cps_gops l _ h2
    refine ⟨s', ?_, h4⟩
    rw [gops_cons, gop1_eq]
    exact mono_gop1v (fun v' δ' e => by obtain ⟨rfl, rfl⟩ := e; exact h3) h1
theorem mono_gwp : ∀ (c : Code) (Q Q' : GE → St → Prop), (∀ e s, Q e s → Q' e s) → ∀ s, gwp P C A d c Q s → gwp P C A d c Q' s
  | .skip, Q, Q', hq, s, h => hq _ _ h
  | .region id ops draw, Q, Q', hq, s, h => mono_gops (hq .normal) _ _ h
  | .seq x y, Q, Q', hq, s, h => mono_gwp x _ _ (fun e s' he => by
      cases e with
      | normal => exact mono_gwp y Q Q' hq s' he
      | exit id => exact hq _ _ he
      | ret => exact hq _ _ he) s h
  | .cond c x y, Q, Q', hq, s, h => by
    unfold gwp at h ⊢
    split at h
    · exact ⟨fun e => mono_gwp x Q Q' hq s (h.1 e), fun e => mono_gwp y Q Q' hq s (h.2 e)⟩
    · exact h.elim
  | .block id c, Q, Q', hq, s, h => mono_gwp c _ _ (fun e s' he => by
      cases e with
      | normal => exact hq _ _ he
      | exit k =>
        unfold GE.inBlock at he ⊢
        dsimp only at he ⊢
        split at he
        · rename_i e; rw [if_pos e]; exact hq _ _ he
        · rename_i e; rw [if_neg e]; exact hq _ _ he
      | ret => exact hq _ _ he) s h
  | .loop c, Q, Q', hq, s, h => by
    unfold gwp at h ⊢
    obtain ⟨n, h⟩ := h
    refine ⟨n, ?_⟩
    induction n generalizing s with
    | zero => exact h.elim
    | succ n ih =>
      exact mono_gwp c _ _ (fun e s' he => by
        cases e with
        | normal => exact ih s' he
        | exit id => exact hq _ _ he
        | ret => exact hq _ _ he) _ h
  | .exit id, Q, Q', hq, s, h => hq _ _ h
  | .ret, Q, Q', hq, s, h => hq _ _ h
  | .rangeFunc _ _ _ _, _, _, _, _, h => h.elim
  | .scope _, _, _, _, _, h => h.elim
  | .label _, _, _, _, _, h => h.elim
  | .goto _, _, _, _, _, h => h.elim
  | .refuse _, _, _, _, _, h => h.elim
theorem cps_gwp : ∀ (c : Code) (Q : GE → St → Prop) (s : St), gwp P C A d c Q s → ∃ e s', gwp P C A d c (fun e' s'' => e' = e ∧ s'' = s') s ∧ Q e s'
  | .skip, Q, s, h => ⟨.normal, s, ⟨rfl, rfl⟩, h⟩
  | .region id ops draw, Q, s, h => by
    obtain ⟨s', h1, h2⟩ := cps_gops ops.toList s h
    exact ⟨.normal, s', mono_gops (K := (· = s')) (fun s'' e => ⟨rfl, e⟩) _ _ h1, h2⟩
  | .seq x y, Q, s, h => by
    obtain ⟨e, s', h1, h2⟩ := cps_gwp x _ s h
    cases e with
    | normal =>
      obtain ⟨e2, s2, h3, h4⟩ := cps_gwp y Q s' h2
      exact ⟨e2, s2, mono_gwp x _ _ (fun e' s'' he => by obtain ⟨rfl, rfl⟩ := he; exact h3) s h1, h4⟩
    | exit id => exact ⟨.exit id, s', mono_gwp x _ _ (fun e' s'' he => by obtain ⟨rfl, rfl⟩ := he; exact ⟨rfl, rfl⟩) s h1, h2⟩
    | ret => exact ⟨.ret, s', mono_gwp x _ _ (fun e' s'' he => by obtain ⟨rfl, rfl⟩ := he; exact ⟨rfl, rfl⟩) s h1, h2⟩
  | .cond c x y, Q, s, h => by
    unfold gwp at h ⊢
    split at h
    case h_2 => exact h.elim
    rename_i t ht
    cases t with
    | true =>
      obtain ⟨e, s', h1, h2⟩ := cps_gwp x Q s (h.1 rfl)
      exact ⟨e, s', ⟨fun _ => h1, fun h => (by cases h)⟩, h2⟩
    | false =>
      obtain ⟨e, s', h1, h2⟩ := cps_gwp y Q s (h.2 rfl)
      exact ⟨e, s', ⟨(fun h => by cases h), fun _ => h1⟩, h2⟩
  | .block id c, Q, s, h => by
    obtain ⟨e, s', h1, h2⟩ := cps_gwp c _ s h
    have main : ∀ e2, (∀ e' s'', e' = e ∧ s'' = s' → GE.inBlock id (fun e' s'' => e' = e2 ∧ s'' = s') e' s'') → gwp P C A d (.block id c) (fun e' s'' => e' = e2 ∧ s'' = s') s := fun e2 hh => mono_gwp c _ _ hh s h1
    cases e with
    | normal => exact ⟨.normal, s', main _ (fun e' s'' he => by obtain ⟨rfl, rfl⟩ := he; exact ⟨rfl, rfl⟩), h2⟩
    | exit k =>
      unfold GE.inBlock at h2
      dsimp only at h2
      split at h2
      · rename_i e; exact ⟨.normal, s', main _ (fun e' s'' he => by obtain ⟨rfl, rfl⟩ := he; rw [block_exit, if_pos e]; exact ⟨rfl, rfl⟩), h2⟩
      · rename_i e; exact ⟨.exit k, s', main _ (fun e' s'' he => by obtain ⟨rfl, rfl⟩ := he; rw [block_exit, if_neg e]; exact ⟨rfl, rfl⟩), h2⟩
    | ret => exact ⟨.ret, s', main _ (fun e' s'' he => by obtain ⟨rfl, rfl⟩ := he; exact ⟨rfl, rfl⟩), h2⟩
  | .loop c, Q, s, h => by
    unfold gwp at h ⊢
    obtain ⟨n, h⟩ := h
    induction n generalizing s with
    | zero => exact h.elim
    | succ n ih =>
      obtain ⟨e, s', h1, h2⟩ := cps_gwp c _ _ h
      cases e with
      | normal =>
        obtain ⟨e2, s2, ⟨m, h3⟩, h4⟩ := ih s' h2
        exact ⟨e2, s2, ⟨m + 1, mono_gwp c _ _ (fun e' s'' he => by obtain ⟨rfl, rfl⟩ := he; exact h3) _ h1⟩, h4⟩
      | exit id => exact ⟨.exit id, s', ⟨1, mono_gwp c _ _ (fun e' s'' he => by obtain ⟨rfl, rfl⟩ := he; exact ⟨rfl, rfl⟩) _ h1⟩, h2⟩
      | ret => exact ⟨.ret, s', ⟨1, mono_gwp c _ _ (fun e' s'' he => by obtain ⟨rfl, rfl⟩ := he; exact ⟨rfl, rfl⟩) _ h1⟩, h2⟩
  | .exit id, Q, s, h => ⟨.exit id, s, ⟨rfl, rfl⟩, h⟩
  | .ret, Q, s, h => ⟨.ret, s, ⟨rfl, rfl⟩, h⟩
  | .rangeFunc _ _ _ _, _, _, h => h.elim
  | .scope _, _, _, h => h.elim
  | .label _, _, _, h => h.elim
  | .goto _, _, _, h => h.elim
  | .refuse _, _, _, h => h.elim
/-- A loop, by what holds at each round's head; the number falls. -/
theorem gwp_loop {c : Code} {Q : GE → St → Prop} {s : St} (I : Nat → St → Prop) {m : Nat} (h0 : I m s)
    (hstep : ∀ k s, I k s → gwp P C A d c (GE.then (fun s' => ∃ k', k' < k ∧ I k' s') Q) (clean d (A.clean (firstId c)) s)) : gwp P C A d (.loop c) Q s := by
  unfold gwp
  induction m using Nat.strongRecOn generalizing s with
  | _ m ih =>
    obtain ⟨e, s', h1, h2⟩ := cps_gwp c _ _ (hstep m s h0)
    cases e with
    | normal =>
      obtain ⟨k', hk, hI⟩ := h2
      obtain ⟨n, h3⟩ := ih k' hk hI
      exact ⟨n + 1, mono_gwp c _ _ (fun e' s'' he => by obtain ⟨rfl, rfl⟩ := he; exact h3) _ h1⟩
    | exit id => exact ⟨1, mono_gwp c _ _ (fun e' s'' he => by obtain ⟨rfl, rfl⟩ := he; exact h2) _ h1⟩
    | ret => exact ⟨1, mono_gwp c _ _ (fun e' s'' he => by obtain ⟨rfl, rfl⟩ := he; exact h2) _ h1⟩

/-! ### Calls and appends -/
theorem fillKey_nil {G : Heap} {t : Nat} (h : G d t = []) : fillKey G d t [] = G := by
  funext k j
  unfold fillKey
  split
  · rename_i e; rw [e.1, e.2, h]
  · rfl
/-- A call that is shown no objects and hands out some. -/
theorem call_own {K : St → Prop} {F : Nat → GV} {G : Heap} {n : FuncId} {caps args as : List GV} {t : Nat} {r r' : GV} {os : List Obj'} (hT : C d n as empty r empty) (hw : wkRs (args ++ caps) as) (ho : A.openAt t = false) (hcl : closeds as) (hf : G d t = [])
    (hr : adopt d t r [] = (r', os)) (hK : K ⟨upd F t r', fillKey G d t os⟩) (hb : A.borAt t = false := by rfl) (hz : A.frzAt t = false := by rfl) : gCall C A d G (.fn n caps) args (some t) (kont d (some t) K ⟨F, G⟩) := by
  unfold gCall
  dsimp only
  rw [if_neg (show ¬ dstIn A.borAt (some t) = true by simp [dstIn, hb])]
  refine ⟨as, hw, ?_⟩
  rw [if_neg (show ¬ dstIn A.openAt (some t) = true by simp [dstIn, ho])]
  simp only [Option.getD_some]
  refine ⟨hcl, r, hT, ?_⟩
  rw [if_neg (show ¬ dstIn A.frzAt (some t) = true by simp [dstIn, hz])]
  refine ⟨hf, ?_⟩
  rw [hr]
  exact hK
/-- A call that is shown no objects and hands out none. -/
theorem call_pure {K : St → Prop} {F : Nat → GV} {G : Heap} {n : FuncId} {caps args as : List GV} {t : Nat} {r r' : GV} (hT : C d n as empty r empty) (hw : wkRs (args ++ caps) as) (ho : A.openAt t = false) (hcl : closeds as) (hf : G d t = [])
    (hr : adopt d t r [] = (r', [])) (hK : K ⟨upd F t r', G⟩) (hb : A.borAt t = false := by rfl) (hz : A.frzAt t = false := by rfl) : gCall C A d G (.fn n caps) args (some t) (kont d (some t) K ⟨F, G⟩) := by
  refine call_own hT hw ho hcl hf hr ?_ hb hz
  rw [fillKey_nil hf]
  exact hK
/-- A call that is shown the objects. -/
theorem call_open {K : St → Prop} {F : Nat → GV} {G G' : Heap} {n : FuncId} {caps args as : List GV} {t : Nat} {r r' : GV} {os : List Obj'} (hT : C d n as G r G') (hw : wkRs (args ++ caps) as) (ho : A.openAt t = true) (hf : G d t = []) (hf' : G' d t = [])
    (hr : adopt d t r [] = (r', os)) (hK : K ⟨upd F t r', fillKey G' d t os⟩) (hb : A.borAt t = false := by rfl) (hdr : A.drwAt t = false := by rfl) : gCall C A d G (.fn n caps) args (some t) (kont d (some t) K ⟨F, G⟩) := by
  unfold gCall
  dsimp only
  rw [if_neg (show ¬ dstIn A.borAt (some t) = true by simp [dstIn, hb])]
  refine ⟨as, hw, ?_⟩
  rw [if_pos (show dstIn A.openAt (some t) = true by simp [dstIn, ho])]
  simp only [Option.getD_some]
  refine ⟨r, G', hT, .inl ⟨hdr, hf, hf', ?_⟩⟩
  rw [hr]
  exact hK
/-- A call that is shown the objects and hands out none. -/
theorem call_open0 {K : St → Prop} {F : Nat → GV} {G G' : Heap} {n : FuncId} {caps args as : List GV} {t t0 : Nat} {r : GV} (hT : C d n as G r G') (hw : wkRs (args ++ caps) as) (ho : A.openAt t = true) (hf : G d t0 = []) (hf' : G' d t0 = [])
    (hr : adopt d t0 r [] = (r, [])) (hK : K ⟨upd F t r, G'⟩) (hb : A.borAt t = false := by rfl) (hdr : A.drwAt t = false := by rfl) : gCall C A d G (.fn n caps) args (some t) (kont d (some t) K ⟨F, G⟩) := by
  unfold gCall
  dsimp only
  rw [if_neg (show ¬ dstIn A.borAt (some t) = true by simp [dstIn, hb])]
  refine ⟨as, hw, ?_⟩
  rw [if_pos (show dstIn A.openAt (some t) = true by simp [dstIn, ho])]
  exact ⟨r, G', hT, .inr ⟨t0, hf, hf', hr, (fun h => by simp [dstIn, hdr] at h), hK⟩⟩
/-- The same in a region whose order is drawn. -/
theorem call_drw {K : St → Prop} {F : Nat → GV} {G G' : Heap} {n : FuncId} {caps args as : List GV} {t t0 : Nat} {r : GV} (hT : ∀ H : Nat → List Obj', C d n as (addAt G d (A.also t) H) r (addAt G' d (A.also t) H)) (hw : wkRs (args ++ caps) as) (ho : A.openAt t = true) (hf : G d t0 = []) (hf' : G' d t0 = [])
    (hr : adopt d t0 r [] = (r, [])) (hs : ∀ x ∈ A.also t, G' d x = G d x) (hl : ∀ κ, get G κ ≠ none → get G' κ ≠ none) (hk : ∀ x ∈ A.watch t, ∃ κ o, A.wkey x = some (κ, o) ∧ ¬ (κ.1 = d ∧ κ.2.1 ∈ A.also t) ∧ ∃ cs cs', get G κ = some (.box cs) ∧ get G' κ = some (.box cs') ∧ cs'[o]? = cs[o]?)
    (hn : t0 ∉ A.also t) (hK : K ⟨upd F t r, G'⟩) (hb : A.borAt t = false := by rfl) : gCall C A d G (.fn n caps) args (some t) (kont d (some t) K ⟨F, G⟩) := by
  unfold gCall
  dsimp only
  rw [if_neg (show ¬ dstIn A.borAt (some t) = true by simp [dstIn, hb])]
  refine ⟨as, hw, ?_⟩
  rw [if_pos (show dstIn A.openAt (some t) = true by simp [dstIn, ho])]
  have h0 := hT (fun x => G d x)
  have e1 : addAt G d (A.also t) (fun x => G d x) = G := addAt_self
  have e2 : addAt G' d (A.also t) (fun x => G d x) = G' := by
    funext k x
    unfold addAt
    split
    · rename_i e; show G d x = G' k x; rw [e.1]; exact (hs x e.2).symm
    · rfl
  rw [e1, e2] at h0
  exact ⟨r, G', h0, .inr ⟨t0, hf, hf', hr, fun _ => ⟨hn, hs, hT, hl, hk⟩, hK⟩⟩
theorem call_same {K : St → Prop} {F : Nat → GV} {G : Heap} {n : FuncId} {caps args as : List GV} {t : Nat} {r r' : GV} (hT : C d n as G r G) (hw : wkRs (args ++ caps) as) (ho : A.openAt t = true) (hf : G d t = [])
    (hr : adopt d t r [] = (r', [])) (hK : K ⟨upd F t r', G⟩) (hb : A.borAt t = false := by rfl) (hdr : A.drwAt t = false := by rfl) : gCall C A d G (.fn n caps) args (some t) (kont d (some t) K ⟨F, G⟩) :=
  call_open hT hw ho hf hf hr (by rw [fillKey_nil hf]; exact hK) hb hdr
/-- A call whose result is taken as a value that stays. -/
theorem call_frz {K : St → Prop} {F : Nat → GV} {G : Heap} {n : FuncId} {caps args as : List GV} {t : Nat} {r r' : GV} (hT : C d n as empty r empty) (hw : wkRs (args ++ caps) as) (ho : A.openAt t = false) (hcl : closeds as)
    (hr : frz r = r') (hK : K ⟨upd F t r', G⟩) (hz : A.frzAt t = true := by rfl) (hb : A.borAt t = false := by rfl) : gCall C A d G (.fn n caps) args (some t) (kont d (some t) K ⟨F, G⟩) := by
  unfold gCall
  dsimp only
  rw [if_neg (show ¬ dstIn A.borAt (some t) = true by simp [dstIn, hb])]
  refine ⟨as, hw, ?_⟩
  rw [if_neg (show ¬ dstIn A.openAt (some t) = true by simp [dstIn, ho])]
  refine ⟨hcl, r, hT, ?_⟩
  rw [if_pos (show dstIn A.frzAt (some t) = true by simp [dstIn, hz]), hr]
  exact hK
/-- A call that only looks. -/
theorem call_look {K : St → Prop} {F : Nat → GV} {G : Heap} {n : FuncId} {caps args as : List GV} {t : Nat} {r : GV} (hT : C d n as empty r empty) (hw : wkBs G d (args ++ caps) as) (hcl : closeds as)
    (hr : scal r) (hK : K ⟨upd F t r, G⟩) (hb : A.borAt t = true := by rfl) : gCall C A d G (.fn n caps) args (some t) (kont d (some t) K ⟨F, G⟩) := by
  unfold gCall
  dsimp only
  rw [if_pos (show dstIn A.borAt (some t) = true by simp [dstIn, hb])]
  exact ⟨as, hw, hcl, r, hT, hr, hK⟩
theorem append_pure {K : GV → Dl → Prop} {G : Heap} {t tx : TypeId} {es xs : List (List PV)} {x : GV} {j : Nat} {e n b : Nat} (he : elT P t = some (e, n, b)) (hx : srcOf P G tx n x = some xs) (ha : A.pureAt j = true) (h1 : sizes es n) (h2 : sizes xs n)
    (hb : (es.length + xs.length) * b ≤ 140737488355328) (hK : K (.p (.sl (es ++ xs))) .nop) : gAppend P A d G t tx (.csl es) x (some j) K := by
  unfold gAppend
  rw [he]
  dsimp only
  rw [hx]
  exact ⟨h1, h2, hb, by simp only [dstIn, ha, if_true]; exact hK⟩
theorem append_new {K : GV → Dl → Prop} {G : Heap} {t tx : TypeId} {es xs : List (List PV)} {x : GV} {j : Nat} {e n b : Nat} (he : elT P t = some (e, n, b)) (hx : srcOf P G tx n x = some xs) (ha : A.pureAt j = false) (h1 : sizes es n) (h2 : sizes xs n)
    (hb : (es.length + xs.length) * b ≤ 140737488355328) (hne : xs ≠ []) (hf : G d j = []) (hK : K (.tsl (es ++ xs) (d, j, 0)) (.fill [.tok (es.length + xs.length) n])) (hr : A.arrAt j = false := by rfl) (hop : A.openAt j = false := by rfl) : gAppend P A d G t tx (.csl es) x (some j) K := by
  unfold gAppend
  rw [he]
  dsimp only
  rw [hx]
  exact ⟨h1, h2, hb, by simp only [dstIn, ha, hr, hop, Bool.false_eq_true, if_false, List.isEmpty_iff, hne]; exact ⟨hf, hK⟩⟩
theorem append_arr_new {K : GV → Dl → Prop} {G : Heap} {t tx : TypeId} {es xs : List (List PV)} {x : GV} {j : Nat} {e n b : Nat} (he : elT P t = some (e, n, b)) (hx : srcOf P G tx n x = some xs) (ha : A.pureAt j = false) (h1 : sizes es n) (h2 : sizes xs n)
    (hb : (es.length + xs.length) * b ≤ 140737488355328) (hne : xs ≠ []) (hf : G d j = []) (hK : K (.arr (d, j, 0) (es.length + xs.length) n) (.fill [.arr (es ++ xs)])) (hr : A.arrAt j = true := by rfl) (hop : A.openAt j = false := by rfl) : gAppend P A d G t tx (.csl es) x (some j) K := by
  unfold gAppend
  rw [he]
  dsimp only
  rw [hx]
  exact ⟨h1, h2, hb, by simp only [dstIn, ha, hr, hop, Bool.false_eq_true, if_false, if_true, List.isEmpty_iff, hne]; exact ⟨hf, hK⟩⟩
theorem append_named {K : GV → Dl → Prop} {G : Heap} {t tx : TypeId} {es xs : List (List PV)} {x : GV} {k i j : Nat} {e n b : Nat} (he : elT P t = some (e, n, b)) (hx : srcOf P G tx n x = some xs) (ha : A.pureAt j = false) (h1 : sizes es n) (h2 : sizes xs n)
    (hb : (es.length + xs.length) * b ≤ 140737488355328) (hne : xs ≠ []) (hk : k ≤ d) (hf : G k i = []) (hK : K (.arr (k, i, 0) (es.length + xs.length) n) (.heap0 (fillKey G k i [.arr (es ++ xs)]))) (hop : A.openAt j = true := by rfl) : gAppend P A d G t tx (.csl es) x (some j) K := by
  unfold gAppend
  rw [he]
  dsimp only
  rw [hx]
  exact ⟨h1, h2, hb, by simp only [dstIn, ha, hop, Bool.false_eq_true, if_false, if_true, List.isEmpty_iff, hne]; exact ⟨k, i, hk, hf, hK⟩⟩
theorem append_none {K : GV → Dl → Prop} {G : Heap} {t tx : TypeId} {es : List (List PV)} {x : GV} {j : Nat} {e n b : Nat} (he : elT P t = some (e, n, b)) (hx : srcOf P G tx n x = some []) (ha : A.pureAt j = false) (h1 : sizes es n)
    (hb : es.length * b ≤ 140737488355328) (hK : K (.csl es) .nop) : gAppend P A d G t tx (.csl es) x (some j) K := by
  unfold gAppend
  rw [he]
  dsimp only
  rw [hx]
  exact ⟨h1, (by intro e he; cases he), by simpa using hb, by simp only [dstIn, ha, Bool.false_eq_true, if_false, List.isEmpty_nil, if_true]; exact hK⟩
theorem append_arr_more {K : GV → Dl → Prop} {G : Heap} {t tx : TypeId} {es xs : List (List PV)} {x : GV} {κ : Key} {j m : Nat} {e n b : Nat} (he : elT P t = some (e, n, b)) (hx : srcOf P G tx n x = some xs) (ha : A.pureAt j = false) (h2 : sizes xs n)
    (hg : get G κ = some (.arr es)) (hm : es.length = m) (hb : (m + xs.length) * b ≤ 140737488355328) (hK : K (.arr κ (m + xs.length) n) (.set κ (.arr (es ++ xs)))) : gAppend P A d G t tx (.arr κ m n) x (some j) K := by
  unfold gAppend
  rw [he]
  dsimp only
  rw [hx]
  exact ⟨by simp only [dstIn, ha], by rw [hg]; exact ⟨hm, rfl, h2, hb, hK⟩⟩
theorem append_tok {K : GV → Dl → Prop} {G : Heap} {t tx : TypeId} {es xs : List (List PV)} {x : GV} {κ : Key} {j : Nat} {e n b : Nat} (he : elT P t = some (e, n, b)) (hx : srcOf P G tx n x = some xs) (ha : A.pureAt j = false) (h1 : sizes es n) (h2 : sizes xs n)
    (hb : (es.length + xs.length) * b ≤ 140737488355328) (hg : get G κ = some (.tok es.length n)) (hK : K (.tsl (es ++ xs) κ) (.set κ (.tok (es.length + xs.length) n))) : gAppend P A d G t tx (.tsl es κ) x (some j) K := by
  unfold gAppend
  rw [he]
  dsimp only
  rw [hx]
  exact ⟨by simp only [dstIn, ha], h1, h2, hb, hg, hK⟩
theorem guardB_split {b want : Bool} {Y N : Unit → Prop} (h1 : b = want → Y ()) (h2 : b = (!want) → N ()) : guardB b want Y N := ⟨h1, h2⟩
theorem sizes_map {α : Type} {f : α → List PV} {n : Nat} (h : ∀ x, (f x).length = n) (l : List α) : sizes (l.map f) n := fun e he => by
  obtain ⟨x, _, rfl⟩ := List.mem_map.1 he
  exact h x
theorem sizes_nil {n : Nat} : sizes [] n := fun e he => by cases he
theorem sizes_cons {e : List PV} {es : List (List PV)} {n : Nat} (h : e.length = n) (h' : sizes es n) : sizes (e :: es) n := fun x hx => by
  rcases List.mem_cons.1 hx with rfl | hx
  · exact h
  · exact h' x hx
theorem sizes_append {es xs : List (List PV)} {n : Nat} (h : sizes es n) (h' : sizes xs n) : sizes (es ++ xs) n := fun e he => by
  rcases List.mem_append.1 he with he | he
  · exact h e he
  · exact h' e he
end
end Go.Eng
