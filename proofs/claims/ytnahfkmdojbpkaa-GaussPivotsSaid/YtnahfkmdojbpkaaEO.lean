import Derived.Test.YtnahfkmdojbpkaaEN
/-! The engine, part O: a region of the machine does what the text's order says. -/
set_option linter.all false
namespace Go.Eng
/-- A state of a call's own, so deep, with what holds of its caller. -/
structure In (X : XS) (d N : Nat) (B : Heap → RMap → World → Prop) (s : St) (a : Act) (w : World) (R : RMap) : Prop where
  sim : Sim X d s.G R w
  fr : ∀ t, VR (Mem X d s.G R w) s.G R d (s.F t) (a.tmps.getD t undef)
  sz : a.tmps.size = N
  df : a.defers = []
  base : B s.G R w
section
variable {X : XS} {TB : Nat → Option Obj} {P : Program} {C : CR} {A : Ann} {d N : Nat} {B : Heap → RMap → World → Prop}
theorem In.put {s : St} {a : Act} {w : World} {R : RMap} (hB : ∀ G R w G' R' w', B G R w → Step X d G R w G' R' w' → B G' R' w') (h : In X d N B s a w R) {dst : Option Nat} (hd : ∀ t, dst = some t → t < N) {v : GV} {δ : Dl} {rv : Value} {w' : World} {R' : RMap}
    (hst : Step X d s.G R w (appD s.G d dst δ) R' w') (hv : VR (Mem X d (appD s.G d dst δ) R' w') (appD s.G d dst δ) R' d v rv) : In X d N B ⟨Eng.put s.F dst v, appD s.G d dst δ⟩ (a.put dst rv) w' R' := by
  refine ⟨hst.sim, fun t => ?_, ?_, ?_, hB _ _ _ _ _ _ h.base hst⟩
  · cases dst with
    | none => exact VR.ext hst.ext _ _ (h.fr t)
    | some t0 =>
      have ht0 := hd t0 rfl
      simp only [Eng.put, upd, Act.put]
      by_cases e : t = t0
      · subst e
        rw [if_pos rfl, Array.getD_eq_getD_getElem?, Array.getElem?_setIfInBounds_self_of_lt (by rw [h.sz]; exact ht0)]
        exact hv
      · rw [if_neg e]
        have := VR.ext hst.ext _ _ (h.fr t)
        rw [Array.getD_eq_getD_getElem?] at this ⊢
        rwa [Array.getElem?_setIfInBounds_ne (fun h => e h.symm)]
  · cases dst with
    | none => exact h.sz
    | some t0 => simp [Act.put, h.sz]
  · cases dst with
    | none => exact h.df
    | some t0 => exact h.df
theorem gop1_sound (hC : Known P TB C) (hX : Tabs TB X) (hB : ∀ G R w G' R' w', B G R w → Step X d G R w G' R' w' → B G' R' w') {all : Array Oper} {o : Oper} {s : St} {a : Act} {w : World} {R : RMap} {K : St → Prop} (hin : In X d N B s a w R)
    (hd : ∀ t, o.dst = some t → t < N) (h : gop1 P C A d all o K s) {next : Act → World → Prop} {Q : Exit → Act → World → Prop} (cont : ∀ s' a' w' R', K s' → In X d N B s' a' w' R' → next a' w') :
    if Region.wanted o (yielded all a.tmps) = true then o.wp P a w next Q ∨ (o.asks P a w ∧ LetsOut Q) else next (a.put o.dst undef) w := by
  have main : gop P C A d o s.F s.G (fun v δ => K ⟨put s.F o.dst v, appD s.G d o.dst δ⟩) → o.wp P a w next Q := fun h =>
    gop_sound hC hX hin.sim hin.fr h fun v δ rv w' R' hK hst hv => cont _ _ _ R' hK (hin.put hB hd hst hv)
  unfold gop1 at h
  cases hg : o.guard with
  | none =>
    rw [hg] at h
    rw [if_pos (by simp [Region.wanted, hg])]
    exact .inl (main h)
  | some g =>
    obtain ⟨j, want⟩ := g
    rw [hg] at h
    dsimp only at h
    cases ht : (all[j]?).bind (·.dst) with
    | none => rw [ht] at h; exact h.elim
    | some t =>
      rw [ht] at h
      dsimp only at h
      split at h
      case h_3 => exact h.elim
      case h_2 =>
        rename_i hb
        have hv := hin.fr t
        rw [hb] at hv
        unfold VR at hv
        obtain ⟨vs, hx, hvs⟩ := hv
        have hy : yielded all a.tmps j = none := by
          unfold yielded
          rw [ht]
          simp only [Option.bind_some]
          rcases Nat.lt_or_ge t a.tmps.size with hlt | hge
          · rw [Array.getD_eq_getD_getElem?, Array.getElem?_eq_getElem hlt] at hx
            rw [Array.getElem?_eq_getElem hlt]
            simp only [Option.getD_some] at hx
            rw [hx]
          · rw [Array.getElem?_eq_none hge]
        rw [if_neg (by simp [Region.wanted, hg, hy])]
        refine cont _ _ _ R h ?_
        exact hin.put hB hd (v := .tup []) (δ := .nop) (rv := undef) (Step.refl hin.sim) (by unfold VR; exact ⟨[], rfl, VRs.nil⟩)
      rename_i b hb
      have hv := hin.fr t
      rw [hb] at hv
      have hv' := VR.p_iff.1 hv
      unfold PR at hv'
      have hlt : t < a.tmps.size := by
        rcases Nat.lt_or_ge t a.tmps.size with hlt | hge
        · exact hlt
        · rw [Array.getD_eq_getD_getElem?, Array.getElem?_eq_none hge] at hv'
          cases hv'
      have hget : a.tmps[t]? = some (.bool b) := by
        rw [Array.getD_eq_getD_getElem?, Array.getElem?_eq_getElem hlt] at hv'
        rw [Array.getElem?_eq_getElem hlt]
        simpa using hv'
      have hy : yielded all a.tmps j = some b := by
        unfold yielded
        rw [ht]
        simp only [Option.bind_some, hget]
      by_cases e : b = want
      · rw [if_pos (by simp [Region.wanted, hg, hy, e])]
        exact .inl (main (h.1 e))
      · have e' : b = !want := by cases b <;> cases want <;> simp_all
        rw [if_neg (by simp [Region.wanted, hg, hy, e])]
        refine cont _ _ _ R (h.2 e') ?_
        have := hin.put hB hd (v := .tup []) (δ := .nop) (rv := undef) (Step.refl hin.sim) (by unfold VR; exact ⟨[], rfl, VRs.nil⟩)
        exact this

/-! ### In the text's order -/
theorem gops_sound (hC : Known P TB C) (hX : Tabs TB X) (hB : ∀ G R w G' R' w', B G R w → Step X d G R w G' R' w' → B G' R' w') {all : Array Oper} (hall : ∀ o ∈ all, ∀ t, o.dst = some t → t < N) {K : St → Prop} {Q : Exit → Act → World → Prop}
    (cont : ∀ s a w R, K s → In X d N B s a w R → Q .normal a w) : ∀ (l : List Oper) (k : Nat), all.toList.drop k = l → ∀ (s : St) (a : Act) (w : World) (R : RMap), In X d N B s a w R → gops P C A d all l K s → wpOps P all Q (List.range' k l.length) a w
  | [], k, _, s, a, w, R, hin, h => cont s a w R h hin
  | o :: l, k, hk, s, a, w, R, hin, h => by
    have ho : all[k]? = some o := by
      have : (all.toList.drop k)[0]? = some o := by rw [hk]; rfl
      rw [List.getElem?_drop] at this
      simpa using this
    have hl : all.toList.drop (k + 1) = l := by
      rw [← List.drop_drop, hk]; rfl
    simp only [List.length_cons, List.range'_succ]
    rw [wpOps]
    simp only [ho]
    exact gop1_sound hC hX hB hin (hall o (Array.mem_of_getElem? ho)) h fun s' a' w' R' hK hin' => gops_sound hC hX hB hall cont l (k + 1) hl s' a' w' R' hin' hK

/-! ### In any order -/
def gopsI (P : Program) (C : CR) (A : Ann) (d : Nat) (all : Array Oper) : List Nat → (St → Prop) → St → Prop
  | [], K, s => K s
  | i :: is, K, s => match all[i]? with
    | some o => gop1 P C A d all o (gopsI P C A d all is K) s
    | none => gopsI P C A d all is K s
theorem gops_gopsI {all : Array Oper} {K : St → Prop} : ∀ (l : List Oper) (k : Nat), all.toList.drop k = l → ∀ (s : St), gops P C A d all l K s → gopsI P C A d all (List.range' k l.length) K s
  | [], _, _, _, h => h
  | o :: l, k, hk, s, h => by
    have ho : all[k]? = some o := by
      have : (all.toList.drop k)[0]? = some o := by rw [hk]; rfl
      rw [List.getElem?_drop] at this
      simpa using this
    have hl : all.toList.drop (k + 1) = l := by
      rw [← List.drop_drop, hk]; rfl
    simp only [List.length_cons, List.range'_succ, gopsI, ho]
    have h' : gop1 P C A d all o (gops P C A d all l K) s := h
    rw [gop1_eq] at h' ⊢
    exact mono_gop1v (fun v δ hh => gops_gopsI l (k + 1) hl _ hh) h'
/-- The operations that stand ahead of one in every order. -/
def ancL : List Oper → List (List Nat) → List (List Nat)
  | [], acc => acc
  | o :: os, acc => ancL os (acc ++ [((o.after.toList.filter (Region.binds .any)).flatMap fun e => e.on :: acc.getD e.on []).eraseDups])
/-- Two operations that nothing orders, calls that are shown the objects among them. -/
def indepX (A : Ann) (all : Array Oper) (oj oi : Oper) : Bool :=
  if dstIn A.openAt oj.dst then !dstIn A.openAt oi.dst && openB A oj && (oj.apart all oi && (heapless A oi || alsoB A oj oi || watchB A oj oi))
  else if dstIn A.openAt oi.dst then openB A oi && (oj.apart all oi && (heapless A oj || watchB A oi oj))
  else indep A all oj oi
def indepOK (A : Ann) (all : Array Oper) (anc : List (List Nat)) : Bool :=
  (List.range all.size).all fun i => (List.range i).all fun j => (anc.getD i []).contains j ||
    match all[i]?, all[j]? with
    | some oi, some oj => indepX A all oj oi
    | _, _ => true
def drawOK (A : Ann) (all : Array Oper) : Bool :=
  ((List.range all.size).all fun i => match all[i]? with
    | some o => o.after.all fun e => !Region.binds .any e || e.on < i
    | none => true) &&
  indepOK A all (ancL all.toList [])
/-- Whoever is listed, what it waits for is listed. -/
def DC (all : Array Oper) (L : Nat → Bool) : Prop := ∀ i o, all[i]? = some o → L i = true → ∀ e ∈ o.after, Region.binds .any e = true → L e.on = true
theorem ancL_spec {all : Array Oper} : ∀ (os : List Oper) (acc : List (List Nat)), all.toList.drop acc.length = os →
    (∀ (i : Nat) (l : List Nat) (o : Oper), acc[i]? = some l → all[i]? = some o → ∀ L, DC all L → (∀ e ∈ o.after, Region.binds .any e = true → L e.on = true) → ∀ j ∈ l, L j = true) →
    ∀ (i : Nat) (l : List Nat) (o : Oper), (ancL os acc)[i]? = some l → all[i]? = some o → ∀ L, DC all L → (∀ e ∈ o.after, Region.binds .any e = true → L e.on = true) → ∀ j ∈ l, L j = true
  | [], acc, _, hacc, i, l, o, hi, ho, L, hL, hr, j, hj => hacc i l o hi ho L hL hr j hj
  | o0 :: os, acc, hk, hacc, i, l, o, hi, ho, L, hL, hr, j, hj => by
    have h0 : all[acc.length]? = some o0 := by
      have : (all.toList.drop acc.length)[0]? = some o0 := by rw [hk]; rfl
      rw [List.getElem?_drop] at this
      simpa using this
    refine ancL_spec os (acc ++ [_]) (by rw [List.length_append, List.length_singleton, ← List.drop_drop, hk]; rfl) (fun i' l' o' hi' ho' L' hL' hr' j' hj' => ?_) i l o hi ho L hL hr j hj
    rw [List.getElem?_append] at hi'
    split at hi'
    · exact hacc i' l' o' hi' ho' L' hL' hr' j' hj'
    · rename_i hge
      have hii : i' = acc.length := by
        have := (List.getElem?_eq_some_iff.1 hi').1
        simp at this
        omega
      subst hii
      rw [h0] at ho'
      cases ho'
      simp only [Nat.sub_self, List.getElem?_cons_zero, Option.some.injEq] at hi'
      subst hi'
      rw [List.mem_eraseDups, List.mem_flatMap] at hj'
      obtain ⟨e, he, hj'⟩ := hj'
      obtain ⟨he1, he2⟩ := List.mem_filter.1 he
      have he1' : e ∈ o0.after := Array.mem_toList_iff.1 he1
      rcases List.mem_cons.1 hj' with rfl | hj'
      · exact hr' e he1' he2
      · have hon := hr' e he1' he2
        cases hq : acc[e.on]? with
        | none => simp [List.getD, hq] at hj'
        | some q =>
          rw [List.getD, hq, Option.getD_some] at hj'
          cases hoe : all[e.on]? with
          | none =>
            have h1 := (List.getElem?_eq_some_iff.1 hq).1
            have h2 := (Array.getElem?_eq_some_iff.1 h0).1
            rw [Array.getElem?_eq_getElem (by omega)] at hoe
            cases hoe
          | some oe => exact hacc e.on q oe hq hoe L' hL' (fun e' he' hb' => hL' e.on oe hoe hon e' he' hb') j' hj'
theorem bubble (hreg : ∀ o ∈ (#[] : Array Oper), True) {all : Array Oper} {i : Nat} {oi : Oper} (hi : all[i]? = some oi) {K : St → Prop} : ∀ (pre : List Nat) (s : St), (∀ j ∈ pre, ∀ oj, all[j]? = some oj → indepX A all oj oi = true) →
    (∀ κ ∈ tgt A oi s.F, get s.G κ ≠ none) → gopsI P C A d all pre (gop1 P C A d all oi K) s → gop1 P C A d all oi (gopsI P C A d all pre K) s
  | [], _, _, _, h => h
  | j :: pre, s, hpre, hlive, h => by
    unfold gopsI at h
    cases hj : all[j]? with
    | none =>
      rw [hj] at h
      have := bubble hreg hi pre s (fun j' hj' => hpre j' (by simp [hj'])) hlive h
      rw [gop1_eq] at this ⊢
      refine mono_gop1v (fun v δ hh => ?_) this
      unfold gopsI
      rw [hj]; exact hh
    | some oj =>
      rw [hj] at h
      dsimp only at h
      have hind := hpre j (by simp) oj hj
      have hput : ∀ {v : GV}, oj.apart all oi = true → tgt A oi (put s.F oj.dst v) = tgt A oi s.F := fun {v} hap => tgt_congr fun x hx => by
        obtain ⟨ha1, _, _⟩ := Oper.apart_spec hap
        cases x with
        | tmp t => exact put_other fun e => ha1 t e (List.mem_append_left _ (List.mem_filterMap.2 ⟨.tmp t, by simpa using hx, rfl⟩))
        | _ => rfl
      have fin : gop1 P C A d all oi (gop1 P C A d all oj (gopsI P C A d all pre K)) s → gop1 P C A d all oi (gopsI P C A d all (j :: pre) K) s := fun h2 => by
        rw [gop1_eq] at h2 ⊢
        refine mono_gop1v (fun v δ hh => ?_) h2
        unfold gopsI
        rw [hj]; exact hh
      unfold indepX at hind
      by_cases hoj : dstIn A.openAt oj.dst = true
      · rw [if_pos hoj] at hind
        simp only [Bool.and_eq_true] at hind
        obtain ⟨⟨_, hob⟩, hap, hcl⟩ := hind
        refine fin (swapO1 hob hap hcl ?_)
        have hob' := hob
        unfold openB at hob'
        simp only [Bool.and_eq_true, Bool.not_eq_true'] at hob'
        obtain ⟨⟨⟨o1, o2⟩, o3⟩, o4⟩ := hob'
        obtain ⟨q, hq⟩ : ∃ q, oj.dst = some q := by
          cases hq : oj.dst with
          | none => rw [hq] at o1; cases o1
          | some q => exact ⟨q, rfl⟩
        rw [gop1_eq] at h ⊢
        obtain ⟨v, δ, h1, h2⟩ := cps_gop1v h
        refine mono_gop1v (fun v' δ' e => ?_) h1
        obtain ⟨rfl, rfl⟩ := e
        refine bubble hreg hi pre _ (fun j' hj' => hpre j' (by simp [hj'])) ?_ h2
        intro κ hk
        simp only at hk ⊢
        rw [hput hap] at hk
        rcases open_gop1v o4 hq o1 o2 o3 h1 with ⟨rfl, _⟩ | ⟨G', rfl, _, hlv, _, _⟩
        · exact hlive κ hk
        · exact hlv κ (hlive κ hk)
      rw [if_neg hoj] at hind
      have hoj' : dstIn A.openAt oj.dst = false := by simpa using hoj
      by_cases hoi : dstIn A.openAt oi.dst = true
      · rw [if_pos hoi] at hind
        simp only [Bool.and_eq_true] at hind
        obtain ⟨hob, hap, hcl⟩ := hind
        refine fin (swapO2 hob hap hcl ?_)
        have hob' := hob
        unfold openB at hob'
        simp only [Bool.and_eq_true, Bool.not_eq_true'] at hob'
        obtain ⟨⟨⟨o1, o2⟩, o3⟩, o4⟩ := hob'
        have htn : tgt A oi = fun _ => [] := by
          funext F
          unfold tgt
          unfold isCallV at o4
          cases hop : oi.op <;> rw [hop] at o4 <;> dsimp only at o4 ⊢ <;> try (cases o4; done)
          rename_i c
          cases hcc : c.callee <;> rw [hcc] at o4 <;> dsimp only at o4 ⊢ <;> try (cases o4; done)
          rw [o3]; rfl
        rw [gop1_eq] at h ⊢
        refine mono_gop1v (fun v δ hh => bubble hreg hi pre _ (fun j' hj' => hpre j' (by simp [hj'])) ?_ hh) h
        intro κ hk
        rw [htn] at hk
        cases hk
      rw [if_neg hoi] at hind
      have hoi' : dstIn A.openAt oi.dst = false := by simpa using hoi
      have h1 : gop1 P C A d all oj (gop1 P C A d all oi (gopsI P C A d all pre K)) s := by
        rw [gop1_eq] at h ⊢
        refine mono_gop1v (fun v δ hh => bubble hreg hi pre _ (fun j' hj' => hpre j' (by simp [hj'])) ?_ hh.1) (gop1v_shape hoj' h)
        obtain ⟨_, hsh⟩ := hh
        have hind2 := hind
        unfold indep at hind2
        rw [Bool.and_eq_true] at hind2
        obtain ⟨hap, _⟩ := hind2
        have ht : tgt A oi (put s.F oj.dst v) = tgt A oi s.F := hput hap
        intro κ hk
        simp only at hk ⊢
        rw [ht] at hk
        cases δ with
        | nop => exact hlive κ hk
        | fill os =>
          show get (fillD s.G d oj.dst os) κ ≠ none
          rw [alive_fill hsh (hlive κ hk)]; exact hlive κ hk
        | set κ0 o0 =>
          show get (setKey s.G κ0 o0) κ ≠ none
          rw [get_setKey]
          split
          · cases hg : get s.G κ0 with
            | none => exact absurd hg hsh.2.1
            | some q => simp
          · exact hlive κ hk
        | heap G' os => exact hsh.elim
        | heap0 G' => exact hsh.elim
      exact fin (swap hoi' hoj' hind hlive h1)
theorem gopsI_append {all : Array Oper} {K : St → Prop} : ∀ (l l' : List Nat) (s : St), gopsI P C A d all (l ++ l') K s ↔ gopsI P C A d all l (gopsI P C A d all l' K) s
  | [], _, _ => Iff.rfl
  | i :: l, l', s => by
    simp only [List.cons_append, gopsI]
    split
    · rw [gop1_eq, gop1_eq]
      exact ⟨mono_gop1v fun v δ => (gopsI_append l l' _).1, mono_gop1v fun v δ => (gopsI_append l l' _).2⟩
    · exact gopsI_append l l' s
mutual
theorem keysV_live {M : Nat → Nat → Value → Prop} {G : Heap} {R : RMap} : ∀ (g : GV) (x : Value), VR M G R d g x → ∀ κ ∈ keysV g, get G κ ≠ none
  | .bp κ off, x, hv, κ', hk => by
    simp [keysV] at hk
    subst hk
    unfold VR at hv
    obtain ⟨_, ⟨cs, h⟩, _⟩ := hv; rw [h]; simp
  | .arr κ n sz, x, hv, κ', hk => by
    simp [keysV] at hk
    subst hk
    unfold VR at hv
    obtain ⟨_, _, es, h, _⟩ := hv; rw [h]; simp
  | .fn f gs, x, hv, κ', hk => by
    unfold keysV at hk
    unfold VR at hv
    obtain ⟨vs, _, h⟩ := hv
    exact keysVs_live gs vs h κ' hk
  | .agg gs, x, hv, κ', hk => by
    unfold keysV at hk
    unfold VR at hv
    obtain ⟨vs, _, _, h⟩ := hv
    exact keysVs_live gs vs h κ' hk
  | .undef, _, _, _, hk => by simp [keysV] at hk
  | .p _, _, _, _, hk => by simp [keysV] at hk
  | .csl _, _, _, _, hk => by simp [keysV] at hk
  | .tsl _ _, _, _, _, hk => by simp [keysV] at hk
  | .own _ _, _, _, _, hk => by simp [keysV] at hk
  | .obx _, _, _, _, hk => by simp [keysV] at hk
  | .oar _ _, _, _, _, hk => by simp [keysV] at hk
  | .ep _ _, _, _, _, hk => by simp [keysV] at hk
  | .ap _ _ _ _, _, _, _, hk => by simp [keysV] at hk
  | .tup _, _, _, _, hk => by simp [keysV] at hk
theorem keysVs_live {M : Nat → Nat → Value → Prop} {G : Heap} {R : RMap} : ∀ (gs : List GV) (xs : List Value), VRs M G R d gs xs → ∀ κ ∈ keysVs gs, get G κ ≠ none
  | [], _, _, _, hk => by simp [keysVs] at hk
  | _ :: _, [], hv, _, _ => by unfold VRs at hv; exact hv.elim
  | g :: gs, x :: xs, hv, κ, hk => by
    unfold VRs at hv
    unfold keysVs at hk
    rcases List.mem_append.1 hk with hk | hk
    · exact keysV_live g x hv.1 κ hk
    · exact keysVs_live gs xs hv.2 κ hk
end
/-- What a value that is known names is there. -/
theorem live_of_In {s : St} {a : Act} {w : World} {R : RMap} (hin : In X d N B s a w R) (o : Oper) : ∀ κ ∈ tgt A o s.F, get s.G κ ≠ none := by
  have one : ∀ x : Operand, (∀ κ ∈ tgtV (ge s.F x), get s.G κ ≠ none) ∧ (∀ κ ∈ tgtD (ge s.F x), get s.G κ ≠ none) ∧ ∀ κ ∈ tgtS (ge s.F x), get s.G κ ≠ none := by
    intro x
    have hv := ge_sound hin.fr x
    generalize ge s.F x = g at hv
    refine ⟨fun κ hk => ?_, fun κ hk => ?_, fun κ hk => ?_⟩
    · cases g <;> simp only [tgtV, List.mem_singleton, List.not_mem_nil] at hk <;> subst hk <;> unfold VR at hv
      · obtain ⟨_, ⟨cs, h⟩, _⟩ := hv; rw [h]; simp
      · obtain ⟨_, _, es, h, _⟩ := hv; rw [h]; simp
    · cases g <;> simp only [tgtD, List.mem_singleton, List.not_mem_nil] at hk <;> subst hk <;> unfold VR at hv
      · obtain ⟨_, _, n, sz, h, _⟩ := hv; rw [h]; simp
      · obtain ⟨_, _, es, h, _⟩ := hv; rw [h]; simp
    · cases g <;> simp only [tgtS, List.mem_singleton, List.not_mem_nil] at hk
      subst hk
      unfold VR at hv
      obtain ⟨_, _, es, h, _⟩ := hv; rw [h]; simp
  obtain ⟨dst, op, ty, pos, after, guard⟩ := o
  intro κ hk
  unfold tgt at hk
  cases op <;> dsimp only at hk <;> first | (cases hk; done) | skip
  case load t x => exact (one x).1 κ hk
  case store t x y => exact (one x).1 κ hk
  case call c =>
    split at hk
    · cases hl : c.args.toList with
      | nil => rw [hl] at hk; cases hk
      | cons x l => cases l with
        | nil => rw [hl] at hk; cases hk
        | cons y l => cases l with
          | cons z l => rw [hl] at hk; cases hk
          | nil =>
            rw [hl] at hk
            rcases List.mem_append.1 hk with hk | hk
            · exact (one x).2.1 κ hk
            · exact (one y).2.2 κ hk
    · rename_i f hc
      split at hk
      case isFalse => cases hk
      have hkeys : ∀ l : List Operand, ∀ κ ∈ keysVs (l.map (ge s.F)), get s.G κ ≠ none := fun l => by
        induction l with
        | nil => intro κ hk; simp [keysVs] at hk
        | cons x l ih =>
          intro κ hk
          rw [List.map_cons] at hk
          unfold keysVs at hk
          rcases List.mem_append.1 hk with hk | hk
          · exact keysV_live _ _ (ge_sound hin.fr x) κ hk
          · exact ih κ hk
      exact hkeys (f :: c.args.toList) κ hk
    · cases hk
theorem drawn_sound (hC : Known P TB C) (hX : Tabs TB X) (hB : ∀ G R w G' R' w', B G R w → Step X d G R w G' R' w' → B G' R' w') {all : Array Oper} (hall : ∀ o ∈ all, ∀ t, o.dst = some t → t < N) (hreg : drawOK A all = true) {K : St → Prop} {Q : Exit → Act → World → Prop}
    (cont : ∀ s a w R, K s → In X d N B s a w R → Q .normal a w) : ∀ (fuel : Nat) (listed : Array Bool) (s : St) (a : Act) (w : World) (R : RMap), In X d N B s a w R → listed.size = all.size →
      ((List.range all.size).filter fun i => !listed.getD i true).length = fuel → DC all (fun i => listed.getD i false) → gopsI P C A d all ((List.range all.size).filter fun i => !listed.getD i true) K s → wpAny P .any all Q fuel listed a w := by
  unfold drawOK at hreg
  simp only [Bool.and_eq_true] at hreg
  obtain ⟨hord, hind⟩ := hreg
  have hord' : ∀ i o, all[i]? = some o → ∀ e ∈ o.after, Region.binds .any e = true → e.on < i := fun i o ho e he hb => by
    have := List.all_eq_true.1 hord i (by simp; exact (Array.getElem?_eq_some_iff.1 ho).1)
    rw [ho] at this
    have := Array.all_eq_true_iff_forall_mem.1 this e he
    simpa [hb] using this
  have hanc := ancL_spec (all := all) all.toList [] (by simp) (fun i l o h => by simp at h)
  have hind' : ∀ i j oi oj, all[i]? = some oi → all[j]? = some oj → j < i → (∀ L, DC all L → (∀ e ∈ oi.after, Region.binds .any e = true → L e.on = true) → L j = true) ∨ indepX A all oj oi = true := fun i j oi oj hi hj hlt => by
    unfold indepOK at hind
    have h1 := List.all_eq_true.1 hind i (by simp; exact (Array.getElem?_eq_some_iff.1 hi).1)
    have h2 := List.all_eq_true.1 h1 j (by simpa using hlt)
    rw [hi, hj] at h2
    simp only [Bool.or_eq_true] at h2
    rcases h2 with h2 | h2
    · left
      intro L hL hr
      cases hq : (ancL all.toList [])[i]? with
      | none => rw [List.getD, hq] at h2; simp at h2
      | some q =>
        rw [List.getD, hq, Option.getD_some] at h2
        exact hanc i q oi hq hi L hL hr j (by simpa using h2)
    · exact .inr h2
  intro fuel
  induction fuel with
  | zero =>
    intro listed s a w R hin hsz hlen hdc h
    have hnil := List.eq_nil_of_length_eq_zero hlen
    rw [hnil] at h
    refine ⟨?_, cont s a w R h hin⟩
    apply List.eq_nil_iff_forall_not_mem.2
    intro i hi
    obtain ⟨h0, o, ho, _⟩ := mem_ready.1 hi
    have : i ∈ (List.range all.size).filter fun i => !listed.getD i true := List.mem_filter.2 ⟨by simp; exact (Array.getElem?_eq_some_iff.1 ho).1, by rw [h0]; rfl⟩
    rw [hnil] at this
    cases this
  | succ fuel ih =>
    intro listed s a w R hin hsz hlen hdc h
    refine ⟨fun hnone => ?_, fun i hi => ?_⟩
    · -- some operation is ready
      exfalso
      obtain ⟨i0, rest, hrem⟩ : ∃ i0 rest, (List.range all.size).filter (fun i => !listed.getD i true) = i0 :: rest := by
        cases hr : (List.range all.size).filter (fun i => !listed.getD i true) with
        | nil => rw [hr] at hlen; cases hlen
        | cons x l => exact ⟨x, l, rfl⟩
      have hmem : i0 ∈ (List.range all.size).filter fun i => !listed.getD i true := by rw [hrem]; simp
      obtain ⟨hm1, hm2⟩ := List.mem_filter.1 hmem
      have hlt : i0 < all.size := by simpa using hm1
      have hsorted : ∀ k, k < i0 → listed.getD k true = true := fun k hk => by
        apply Classical.byContradiction
        intro hc
        have hkm : k ∈ (List.range all.size).filter fun i => !listed.getD i true := List.mem_filter.2 ⟨by simp; omega, by simpa using hc⟩
        have hpw : List.Pairwise (· < ·) ((List.range all.size).filter fun i => !listed.getD i true) := List.Pairwise.filter _ List.pairwise_lt_range
        rw [hrem] at hkm hpw
        rcases List.mem_cons.1 hkm with rfl | hkm
        · omega
        · have := (List.pairwise_cons.1 hpw).1 k hkm
          omega
      have : i0 ∈ Region.ready .any all listed := mem_ready.2 ⟨by simpa using hm2, all[i0], Array.getElem?_eq_getElem hlt, fun e he hb => by
        have h1 := hord' i0 _ (Array.getElem?_eq_getElem hlt) e he hb
        have h2 := hsorted e.on h1
        have h3 : e.on < listed.size := by omega
        simpa [Array.getD_eq_getD_getElem?, Array.getElem?_eq_getElem h3] using h2⟩
      rw [hnone] at this
      cases this
    · obtain ⟨h0, oi, hoi, hready⟩ := mem_ready.1 hi
      have hilt : i < all.size := (Array.getElem?_eq_some_iff.1 hoi).1
      have himem : i ∈ (List.range all.size).filter fun i => !listed.getD i true := List.mem_filter.2 ⟨by simpa using hilt, by rw [h0]; rfl⟩
      obtain ⟨pre, post, hsplit⟩ := List.append_of_mem himem
      have hpw : List.Pairwise (· < ·) ((List.range all.size).filter fun i => !listed.getD i true) := List.Pairwise.filter _ List.pairwise_lt_range
      have hrest : (List.range all.size).filter (fun k => !(listed.setIfInBounds i true).getD k true) = pre ++ post := by
        have e1 : (List.range all.size).filter (fun k => !(listed.setIfInBounds i true).getD k true) = ((List.range all.size).filter fun k => !listed.getD k true).filter (fun k => !decide (k = i)) := by
          rw [List.filter_filter]
          apply List.filter_congr
          intro k hk
          by_cases e : k = i
          · subst e
            rw [Array.getD_eq_getD_getElem?, Array.getElem?_setIfInBounds_self_of_lt (by omega)]
            simp
          · rw [getD_set_ne true (fun h => e h.symm)]
            simp [e]
        rw [e1, hsplit]
        rw [hsplit] at hpw
        have hp := List.pairwise_append.1 hpw
        have hp2 := List.pairwise_cons.1 hp.2.1
        rw [List.filter_append, List.filter_cons]
        simp only [decide_true, Bool.not_true, Bool.false_eq_true, if_false]
        rw [List.filter_eq_self.2 (fun k hk => by have := hp.2.2 k hk i (by simp); simp; omega), List.filter_eq_self.2 (fun k hk => by have := hp2.1 k hk; simp; omega)]
      rw [hsplit, gopsI_append] at h
      have h1 : gopsI P C A d all pre (gop1 P C A d all oi (gopsI P C A d all post K)) s := by
        have e : gopsI P C A d all (i :: post) K = gop1 P C A d all oi (gopsI P C A d all post K) := by
          funext s'; simp only [gopsI, hoi]
        rw [e] at h; exact h
      have hdc' : ∀ e ∈ oi.after, Region.binds .any e = true → (fun i => listed.getD i false) e.on = true := hready
      have h2 := bubble (P := P) (C := C) (A := A) (d := d) (fun _ _ => trivial) hoi pre s (fun j hj oj hoj => by
        have hjm : j ∈ (List.range all.size).filter fun i => !listed.getD i true := by rw [hsplit]; simp [hj]
        have hjl := (List.mem_filter.1 hjm).2
        rw [hsplit] at hpw
        have hlt := (List.pairwise_append.1 hpw).2.2 j hj i (by simp)
        rcases hind' i j oi oj hoi hoj hlt with hh | hh
        · have := hh _ hdc hdc'
          have hjs : j < listed.size := by rw [hsz]; exact (Array.getElem?_eq_some_iff.1 hoj).1
          simp [Array.getD_eq_getD_getElem?, Array.getElem?_eq_getElem hjs] at this hjl
          rw [this] at hjl
          cases hjl
        · exact hh) (live_of_In hin oi) h1
      unfold wpOp
      simp only [hoi]
      refine gop1_sound hC hX hB hin (hall oi (Array.mem_of_getElem? hoi)) h2 fun s' a' w' R' hK hin' => ih _ s' a' w' R' hin' (by simp [hsz]) ?_ ?_ ?_
      · rw [hrest]
        rw [hsplit] at hlen
        simp at hlen ⊢
        omega
      · intro k o hk hl e he hb
        by_cases hki : k = i
        · subst hki
          rw [hoi] at hk
          cases hk
          exact getD_set_true (hready e he hb)
        · have hl' : (listed.setIfInBounds i true).getD k false = true := hl
          rw [getD_set_ne false (fun h => hki h.symm)] at hl'
          exact getD_set_true (hdc k o hk hl' e he hb)
      · rw [hrest, gopsI_append]; exact hK
end
end Go.Eng
