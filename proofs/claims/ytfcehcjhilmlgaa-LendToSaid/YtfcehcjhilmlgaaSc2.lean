import Derived.Test.YtfcehcjhilmlgaaSc1
section
set_option linter.all false
namespace Go.Eng
structure In (X : XS) (d N : Nat) (B : Heap → RMap → World → Prop) (s : St) (a : Act) (w : World) (R : RMap) : Prop where
  sim : Sim X d s.G R w
  fr : ∀ t, VR (Mem X d s.G R w) s.G R d (s.F t) (a.tmps.getD t undef)
  sz : a.tmps.size = N
  df : a.defers = []
  base : B s.G R w
section
variable {X : XS} {TB : Nat → Option Obj} {P : Program} {C : CR} {A : Ann} {d N : Nat} {B : Heap → RMap → World → Prop}
theorem In.put {s : St} {a : Act} {w : World} {R : RMap} (hB : ∀ G R w G' R' w', B G R w → Step X d G R w G' R' w' → B G' R' w') (h : In X d N B s a w R) {dst : Option Nat} (hd : ∀ t, dst = some t → t < N) {v : GV} {δ : Dl} {rv : Value} {w' : World} {R' : RMap}
    (hst : Step X d s.G R w (appD s.G d dst δ) R' w') (hv : VR (Mem X d (appD s.G d dst δ) R' w') (appD s.G d dst δ) R' d v rv) : In X d N B ⟨Eng.put s.F dst v, appD s.G d dst δ⟩ (a.put dst rv) w' R' := by
  refine ⟨hst.sim, fun t => ?_, ?_, ?_, hB _ _ _ _ _ _ h.base hst⟩
  · cases dst with
    | none => exact VR.ext hst.ext _ _ (h.fr t)
    | some t0 =>
      have ht0 := hd t0 rfl
      simp only [Eng.put, upd, Act.put]
      by_cases e : t = t0
      · subst e
        rw [if_pos rfl, Array.getD_eq_getD_getElem?, Array.getElem?_setIfInBounds_self_of_lt (by rw [h.sz]; exact ht0)]
        exact hv
      · rw [if_neg e]
        have := VR.ext hst.ext _ _ (h.fr t)
        rw [Array.getD_eq_getD_getElem?] at this ⊢
        rwa [Array.getElem?_setIfInBounds_ne (fun h => e h.symm)]
  · cases dst with
    | none => exact h.sz
    | some t0 => simp [Act.put, h.sz]
  · cases dst with
    | none => exact h.df
    | some t0 => exact h.df
theorem gop1_sound (hC : Known P TB C) (hX : Tabs TB X) (hB : ∀ G R w G' R' w', B G R w → Step X d G R w G' R' w' → B G' R' w') {all : Array Oper} {o : Oper} {s : St} {a : Act} {w : World} {R : RMap} {K : St → Prop} (hin : In X d N B s a w R)
    (hd : ∀ t, o.dst = some t → t < N) (h : gop1 P C A d all o K s) {next : Act → World → Prop} {Q : Exit → Act → World → Prop} (cont : ∀ s' a' w' R', K s' → In X d N B s' a' w' R' → next a' w') :
    if Region.wanted o (yielded all a.tmps) = true then o.wp P a w next Q ∨ (o.asks P a w ∧ LetsOut Q) else next (a.put o.dst undef) w := by
  have main : gop P C A d o s.F s.G (fun v δ => K ⟨put s.F o.dst v, appD s.G d o.dst δ⟩) → o.wp P a w next Q := fun h =>
    gop_sound hC hX hin.sim hin.fr h fun v δ rv w' R' hK hst hv => cont _ _ _ R' hK (hin.put hB hd hst hv)
  unfold gop1 at h
  cases hg : o.guard with
  | none =>
    rw [hg] at h
    rw [if_pos (by simp [Region.wanted, hg])]
    exact .inl (main h)
  | some g =>
    obtain ⟨j, want⟩ := g
    rw [hg] at h
    dsimp only at h
    cases ht : (all[j]?).bind (·.dst) with
    | none => rw [ht] at h; exact h.elim
    | some t =>
      rw [ht] at h
      dsimp only at h
      split at h
      case h_3 => exact h.elim
      case h_2 =>
        rename_i hb
        have hv := hin.fr t
        rw [hb] at hv
        unfold VR at hv
        obtain ⟨vs, hx, hvs⟩ := hv
        have hy : yielded all a.tmps j = none := by
          unfold yielded
          rw [ht]
          simp only [Option.bind_some]
          rcases Nat.lt_or_ge t a.tmps.size with hlt | hge
          · rw [Array.getD_eq_getD_getElem?, Array.getElem?_eq_getElem hlt] at hx
            rw [Array.getElem?_eq_getElem hlt]
            simp only [Option.getD_some] at hx
            rw [hx]
          · rw [Array.getElem?_eq_none hge]
        rw [if_neg (by simp [Region.wanted, hg, hy])]
        refine cont _ _ _ R h ?_
        exact hin.put hB hd (v := .tup []) (δ := .nop) (rv := undef) (Step.refl hin.sim) (by unfold VR; exact ⟨[], rfl, VRs.nil⟩)
      rename_i b hb
      have hv := hin.fr t
      rw [hb] at hv
      have hv' := VR.p_iff.1 hv
      unfold PR at hv'
      have hlt : t < a.tmps.size := by
        rcases Nat.lt_or_ge t a.tmps.size with hlt | hge
        · exact hlt
        · rw [Array.getD_eq_getD_getElem?, Array.getElem?_eq_none hge] at hv'
          cases hv'
      have hget : a.tmps[t]? = some (.bool b) := by
        rw [Array.getD_eq_getD_getElem?, Array.getElem?_eq_getElem hlt] at hv'
        rw [Array.getElem?_eq_getElem hlt]
        simpa using hv'
      have hy : yielded all a.tmps j = some b := by
        unfold yielded
        rw [ht]
        simp only [Option.bind_some, hget]
      by_cases e : b = want
      · rw [if_pos (by simp [Region.wanted, hg, hy, e])]
        exact .inl (main (h.1 e))
      · have e' : b = !want := by cases b <;> cases want <;> simp_all
        rw [if_neg (by simp [Region.wanted, hg, hy, e])]
        refine cont _ _ _ R (h.2 e') ?_
        have := hin.put hB hd (v := .tup []) (δ := .nop) (rv := undef) (Step.refl hin.sim) (by unfold VR; exact ⟨[], rfl, VRs.nil⟩)
        exact this
theorem gops_sound (hC : Known P TB C) (hX : Tabs TB X) (hB : ∀ G R w G' R' w', B G R w → Step X d G R w G' R' w' → B G' R' w') {all : Array Oper} (hall : ∀ o ∈ all, ∀ t, o.dst = some t → t < N) {K : St → Prop} {Q : Exit → Act → World → Prop}
    (cont : ∀ s a w R, K s → In X d N B s a w R → Q .normal a w) : ∀ (l : List Oper) (k : Nat), all.toList.drop k = l → ∀ (s : St) (a : Act) (w : World) (R : RMap), In X d N B s a w R → gops P C A d all l K s → wpOps P all Q (List.range' k l.length) a w
  | [], k, _, s, a, w, R, hin, h => cont s a w R h hin
  | o :: l, k, hk, s, a, w, R, hin, h => by
    have ho : all[k]? = some o := by
      have : (all.toList.drop k)[0]? = some o := by rw [hk]; rfl
      rw [List.getElem?_drop] at this
      simpa using this
    have hl : all.toList.drop (k + 1) = l := by
      rw [← List.drop_drop, hk]; rfl
    simp only [List.length_cons, List.range'_succ]
    rw [wpOps]
    simp only [ho]
    exact gop1_sound hC hX hB hin (hall o (Array.mem_of_getElem? ho)) h fun s' a' w' R' hK hin' => gops_sound hC hX hB hall cont l (k + 1) hl s' a' w' R' hin' hK
def gopsI (P : Program) (C : CR) (A : Ann) (d : Nat) (all : Array Oper) : List Nat → (St → Prop) → St → Prop
  | [], K, s => K s
  | i :: is, K, s => match all[i]? with
    | some o => gop1 P C A d all o (gopsI P C A d all is K) s
    | none => gopsI P C A d all is K s
theorem gops_gopsI {all : Array Oper} {K : St → Prop} : ∀ (l : List Oper) (k : Nat), all.toList.drop k = l → ∀ (s : St), gops P C A d all l K s → gopsI P C A d all (List.range' k l.length) K s
  | [], _, _, _, h => h
  | o :: l, k, hk, s, h => by
    have ho : all[k]? = some o := by
      have : (all.toList.drop k)[0]? = some o := by rw [hk]; rfl
      rw [List.getElem?_drop] at this
      simpa using this
    have hl : all.toList.drop (k + 1) = l := by
      rw [← List.drop_drop, hk]; rfl
    simp only [List.length_cons, List.range'_succ, gopsI, ho]
    have h' : gop1 P C A d all o (gops P C A d all l K) s := h
    rw [gop1_eq] at h' ⊢
    exact mono_gop1v (fun v δ hh => gops_gopsI l (k + 1) hl _ hh) h'
def ancL : List Oper → List (List Nat) → List (List Nat)
  | [], acc => acc
  | o :: os, acc => ancL os (acc ++ [((o.after.toList.filter (Region.binds .any)).flatMap fun e => e.on :: acc.getD e.on []).eraseDups])
def indepX (A : Ann) (all : Array Oper) (oj oi : Oper) : Bool :=
  if dstIn A.openAt oj.dst then !dstIn A.openAt oi.dst && openB A oj && (oj.apart all oi && (heapless A oi || alsoB A oj oi || watchB A oj oi))
  else if dstIn A.openAt oi.dst then openB A oi && (oj.apart all oi && (heapless A oj || watchB A oi oj))
  else indep A all oj oi
def indepOK (A : Ann) (all : Array Oper) (anc : List (List Nat)) : Bool :=
  (List.range all.size).all fun i => (List.range i).all fun j => (anc.getD i []).contains j ||
    match all[i]?, all[j]? with
    | some oi, some oj => indepX A all oj oi
    | _, _ => true
def drawOK (A : Ann) (all : Array Oper) : Bool :=
  ((List.range all.size).all fun i => match all[i]? with
    | some o => o.after.all fun e => !Region.binds .any e || e.on < i
    | none => true) &&
  indepOK A all (ancL all.toList [])
def DC (all : Array Oper) (L : Nat → Bool) : Prop := ∀ i o, all[i]? = some o → L i = true → ∀ e ∈ o.after, Region.binds .any e = true → L e.on = true
theorem ancL_spec {all : Array Oper} : ∀ (os : List Oper) (acc : List (List Nat)), all.toList.drop acc.length = os →
    (∀ (i : Nat) (l : List Nat) (o : Oper), acc[i]? = some l → all[i]? = some o → ∀ L, DC all L → (∀ e ∈ o.after, Region.binds .any e = true → L e.on = true) → ∀ j ∈ l, L j = true) →
    ∀ (i : Nat) (l : List Nat) (o : Oper), (ancL os acc)[i]? = some l → all[i]? = some o → ∀ L, DC all L → (∀ e ∈ o.after, Region.binds .any e = true → L e.on = true) → ∀ j ∈ l, L j = true
  | [], acc, _, hacc, i, l, o, hi, ho, L, hL, hr, j, hj => hacc i l o hi ho L hL hr j hj
  | o0 :: os, acc, hk, hacc, i, l, o, hi, ho, L, hL, hr, j, hj => by
    have h0 : all[acc.length]? = some o0 := by
      have : (all.toList.drop acc.length)[0]? = some o0 := by rw [hk]; rfl
      rw [List.getElem?_drop] at this
      simpa using this
    refine ancL_spec os (acc ++ [_]) (by rw [List.length_append, List.length_singleton, ← List.drop_drop, hk]; rfl) (fun i' l' o' hi' ho' L' hL' hr' j' hj' => ?_) i l o hi ho L hL hr j hj
    rw [List.getElem?_append] at hi'
    split at hi'
    · exact hacc i' l' o' hi' ho' L' hL' hr' j' hj'
    · rename_i hge
      have hii : i' = acc.length := by
        have := (List.getElem?_eq_some_iff.1 hi').1
        simp at this
        omega
      subst hii
      rw [h0] at ho'
      cases ho'
      simp only [Nat.sub_self, List.getElem?_cons_zero, Option.some.injEq] at hi'
      subst hi'
      rw [List.mem_eraseDups, List.mem_flatMap] at hj'
      obtain ⟨e, he, hj'⟩ := hj'
      obtain ⟨he1, he2⟩ := List.mem_filter.1 he
      have he1' : e ∈ o0.after := Array.mem_toList_iff.1 he1
      rcases List.mem_cons.1 hj' with rfl | hj'
      · exact hr' e he1' he2
      · have hon := hr' e he1' he2
        cases hq : acc[e.on]? with
        | none => simp [List.getD, hq] at hj'
        | some q =>
          rw [List.getD, hq, Option.getD_some] at hj'
          cases hoe : all[e.on]? with
          | none =>
            have h1 := (List.getElem?_eq_some_iff.1 hq).1
            have h2 := (Array.getElem?_eq_some_iff.1 h0).1
            rw [Array.getElem?_eq_getElem (by omega)] at hoe
            cases hoe
          | some oe => exact hacc e.on q oe hq hoe L' hL' (fun e' he' hb' => hL' e.on oe hoe hon e' he' hb') j' hj'
theorem bubble (hreg : ∀ o ∈ (#[] : Array Oper), True) {all : Array Oper} {i : Nat} {oi : Oper} (hi : all[i]? = some oi) {K : St → Prop} : ∀ (pre : List Nat) (s : St), (∀ j ∈ pre, ∀ oj, all[j]? = some oj → indepX A all oj oi = true) →
    (∀ κ ∈ tgt A oi s.F, get s.G κ ≠ none) → gopsI P C A d all pre (gop1 P C A d all oi K) s → gop1 P C A d all oi (gopsI P C A d all pre K) s
  | [], _, _, _, h => h
  | j :: pre, s, hpre, hlive, h => by
    unfold gopsI at h
    cases hj : all[j]? with
    | none =>
      rw [hj] at h
      have := bubble hreg hi pre s (fun j' hj' => hpre j' (by simp [hj'])) hlive h
      rw [gop1_eq] at this ⊢
      refine mono_gop1v (fun v δ hh => ?_) this
      unfold gopsI
      rw [hj]; exact hh
    | some oj =>
      rw [hj] at h
      dsimp only at h
      have hind := hpre j (by simp) oj hj
      have hput : ∀ {v : GV}, oj.apart all oi = true → tgt A oi (put s.F oj.dst v) = tgt A oi s.F := fun {v} hap => tgt_congr fun x hx => by
        obtain ⟨ha1, _, _⟩ := Oper.apart_spec hap
        cases x with
        | tmp t => exact put_other fun e => ha1 t e (List.mem_append_left _ (List.mem_filterMap.2 ⟨.tmp t, by simpa using hx, rfl⟩))
        | _ => rfl
      have fin : gop1 P C A d all oi (gop1 P C A d all oj (gopsI P C A d all pre K)) s → gop1 P C A d all oi (gopsI P C A d all (j :: pre) K) s := fun h2 => by
        rw [gop1_eq] at h2 ⊢
        refine mono_gop1v (fun v δ hh => ?_) h2
        unfold gopsI
        rw [hj]; exact hh
      unfold indepX at hind
      by_cases hoj : dstIn A.openAt oj.dst = true
      · rw [if_pos hoj] at hind
        simp only [Bool.and_eq_true] at hind
        obtain ⟨⟨_, hob⟩, hap, hcl⟩ := hind
        refine fin (swapO1 hob hap hcl ?_)
        have hob' := hob
        unfold openB at hob'
        simp only [Bool.and_eq_true, Bool.not_eq_true'] at hob'
        obtain ⟨⟨⟨o1, o2⟩, o3⟩, o4⟩ := hob'
        obtain ⟨q, hq⟩ : ∃ q, oj.dst = some q := by
          cases hq : oj.dst with
          | none => rw [hq] at o1; cases o1
          | some q => exact ⟨q, rfl⟩
        rw [gop1_eq] at h ⊢
        obtain ⟨v, δ, h1, h2⟩ := cps_gop1v h
        refine mono_gop1v (fun v' δ' e => ?_) h1
        obtain ⟨rfl, rfl⟩ := e
        refine bubble hreg hi pre _ (fun j' hj' => hpre j' (by simp [hj'])) ?_ h2
        intro κ hk
        simp only at hk ⊢
        rw [hput hap] at hk
        rcases open_gop1v o4 hq o1 o2 o3 h1 with ⟨rfl, _⟩ | ⟨G', rfl, _, hlv, _, _⟩
        · exact hlive κ hk
        · exact hlv κ (hlive κ hk)
      rw [if_neg hoj] at hind
      have hoj' : dstIn A.openAt oj.dst = false := by simpa using hoj
      by_cases hoi : dstIn A.openAt oi.dst = true
      · rw [if_pos hoi] at hind
        simp only [Bool.and_eq_true] at hind
        obtain ⟨hob, hap, hcl⟩ := hind
        refine fin (swapO2 hob hap hcl ?_)
        have hob' := hob
        unfold openB at hob'
        simp only [Bool.and_eq_true, Bool.not_eq_true'] at hob'
        obtain ⟨⟨⟨o1, o2⟩, o3⟩, o4⟩ := hob'
        have htn : tgt A oi = fun _ => [] := by
          funext F
          unfold tgt
          unfold isCallV at o4
          cases hop : oi.op <;> rw [hop] at o4 <;> dsimp only at o4 ⊢ <;> try (cases o4; done)
          rename_i c
          cases hcc : c.callee <;> rw [hcc] at o4 <;> dsimp only at o4 ⊢ <;> try (cases o4; done)
          rw [o3]; rfl
        rw [gop1_eq] at h ⊢
        refine mono_gop1v (fun v δ hh => bubble hreg hi pre _ (fun j' hj' => hpre j' (by simp [hj'])) ?_ hh) h
        intro κ hk
        rw [htn] at hk
        cases hk
      rw [if_neg hoi] at hind
      have hoi' : dstIn A.openAt oi.dst = false := by simpa using hoi
      have h1 : gop1 P C A d all oj (gop1 P C A d all oi (gopsI P C A d all pre K)) s := by
        rw [gop1_eq] at h ⊢
        refine mono_gop1v (fun v δ hh => bubble hreg hi pre _ (fun j' hj' => hpre j' (by simp [hj'])) ?_ hh.1) (gop1v_shape hoj' h)
        obtain ⟨_, hsh⟩ := hh
        have hind2 := hind
        unfold indep at hind2
        rw [Bool.and_eq_true] at hind2
        obtain ⟨hap, _⟩ := hind2
        have ht : tgt A oi (put s.F oj.dst v) = tgt A oi s.F := hput hap
        intro κ hk
        simp only at hk ⊢
        rw [ht] at hk
        cases δ with
        | nop => exact hlive κ hk
        | fill os =>
          show get (fillD s.G d oj.dst os) κ ≠ none
          rw [alive_fill hsh (hlive κ hk)]; exact hlive κ hk
        | set κ0 o0 =>
          show get (setKey s.G κ0 o0) κ ≠ none
          rw [get_setKey]
          split
          · cases hg : get s.G κ0 with
            | none => exact absurd hg hsh.2.1
            | some q => simp
          · exact hlive κ hk
        | heap G' os => exact hsh.elim
        | heap0 G' => exact hsh.elim
      exact fin (swap hoi' hoj' hind hlive h1)
theorem gopsI_append {all : Array Oper} {K : St → Prop} : ∀ (l l' : List Nat) (s : St), gopsI P C A d all (l ++ l') K s ↔ gopsI P C A d all l (gopsI P C A d all l' K) s
  | [], _, _ => Iff.rfl
  | i :: l, l', s => by
    simp only [List.cons_append, gopsI]
    split
    · rw [gop1_eq, gop1_eq]
      exact ⟨mono_gop1v fun v δ => (gopsI_append l l' _).1, mono_gop1v fun v δ => (gopsI_append l l' _).2⟩
    · exact gopsI_append l l' s
mutual
theorem keysV_live {M : Nat → Nat → Value → Prop} {G : Heap} {R : RMap} : ∀ (g : GV) (x : Value), VR M G R d g x → ∀ κ ∈ keysV g, get G κ ≠ none
  | .bp κ off, x, hv, κ', hk => by
    simp [keysV] at hk
    subst hk
    unfold VR at hv
    obtain ⟨_, ⟨cs, h⟩, _⟩ := hv; rw [h]; simp
  | .arr κ n sz, x, hv, κ', hk => by
    simp [keysV] at hk
    subst hk
    unfold VR at hv
    obtain ⟨_, _, es, h, _⟩ := hv; rw [h]; simp
  | .fn f gs, x, hv, κ', hk => by
    unfold keysV at hk
    unfold VR at hv
    obtain ⟨vs, _, h⟩ := hv
    exact keysVs_live gs vs h κ' hk
  | .agg gs, x, hv, κ', hk => by
    unfold keysV at hk
    unfold VR at hv
    obtain ⟨vs, _, _, h⟩ := hv
    exact keysVs_live gs vs h κ' hk
  | .undef, _, _, _, hk => by simp [keysV] at hk
  | .p _, _, _, _, hk => by simp [keysV] at hk
  | .csl _, _, _, _, hk => by simp [keysV] at hk
  | .tsl _ _, _, _, _, hk => by simp [keysV] at hk
  | .own _ _, _, _, _, hk => by simp [keysV] at hk
  | .obx _, _, _, _, hk => by simp [keysV] at hk
  | .oar _ _, _, _, _, hk => by simp [keysV] at hk
  | .ep _ _, _, _, _, hk => by simp [keysV] at hk
  | .ap _ _ _ _, _, _, _, hk => by simp [keysV] at hk
  | .asl κ m lo hi sz, x, hv, κ', hk => by
    simp [keysV] at hk
    subst hk
    unfold VR at hv
    obtain ⟨_, _, _, _, es, h, _⟩ := hv
    rw [h]; simp
  | .tup _, _, _, _, hk => by simp [keysV] at hk
theorem keysVs_live {M : Nat → Nat → Value → Prop} {G : Heap} {R : RMap} : ∀ (gs : List GV) (xs : List Value), VRs M G R d gs xs → ∀ κ ∈ keysVs gs, get G κ ≠ none
  | [], _, _, _, hk => by simp [keysVs] at hk
  | _ :: _, [], hv, _, _ => by unfold VRs at hv; exact hv.elim
  | g :: gs, x :: xs, hv, κ, hk => by
    unfold VRs at hv
    unfold keysVs at hk
    rcases List.mem_append.1 hk with hk | hk
    · exact keysV_live g x hv.1 κ hk
    · exact keysVs_live gs xs hv.2 κ hk
end
theorem live_of_In {s : St} {a : Act} {w : World} {R : RMap} (hin : In X d N B s a w R) (o : Oper) : ∀ κ ∈ tgt A o s.F, get s.G κ ≠ none := by
  have one : ∀ x : Operand, (∀ κ ∈ tgtV (ge s.F x), get s.G κ ≠ none) ∧ (∀ κ ∈ tgtD (ge s.F x), get s.G κ ≠ none) ∧ ∀ κ ∈ tgtS (ge s.F x), get s.G κ ≠ none := by
    intro x
    have hv := ge_sound hin.fr x
    generalize ge s.F x = g at hv
    refine ⟨fun κ hk => ?_, fun κ hk => ?_, fun κ hk => ?_⟩
    · cases g <;> simp only [tgtV, List.mem_singleton, List.not_mem_nil] at hk <;> subst hk <;> unfold VR at hv
      · obtain ⟨_, ⟨cs, h⟩, _⟩ := hv; rw [h]; simp
      · obtain ⟨_, _, es, h, _⟩ := hv; rw [h]; simp
    · cases g <;> simp only [tgtD, List.mem_singleton, List.not_mem_nil] at hk <;> subst hk <;> unfold VR at hv
      · obtain ⟨_, _, n, sz, h, _⟩ := hv; rw [h]; simp
      · obtain ⟨_, _, es, h, _⟩ := hv; rw [h]; simp
    · cases g <;> simp only [tgtS, List.mem_singleton, List.not_mem_nil] at hk <;> subst hk <;> unfold VR at hv
      · obtain ⟨_, _, es, h, _⟩ := hv; rw [h]; simp
      · obtain ⟨_, _, _, _, es, h, _⟩ := hv; rw [h]; simp
  obtain ⟨dst, op, ty, pos, after, guard⟩ := o
  intro κ hk
  unfold tgt at hk
  cases op <;> dsimp only at hk <;> first | (cases hk; done) | skip
  case load t x => exact (one x).1 κ hk
  case store t x y => exact (one x).1 κ hk
  case call c =>
    split at hk
    · cases hl : c.args.toList with
      | nil => rw [hl] at hk; cases hk
      | cons x l => cases l with
        | nil => rw [hl] at hk; cases hk
        | cons y l => cases l with
          | cons z l => rw [hl] at hk; cases hk
          | nil =>
            rw [hl] at hk
            rcases List.mem_append.1 hk with hk | hk
            · exact (one x).2.1 κ hk
            · exact (one y).2.2 κ hk
    · cases hl : c.args.toList with
      | nil => rw [hl] at hk; cases hk
      | cons x l => cases l with
        | nil => rw [hl] at hk; cases hk
        | cons y l => cases l with
          | cons z l => rw [hl] at hk; cases hk
          | nil =>
            rw [hl] at hk
            rcases List.mem_append.1 hk with hk | hk
            · exact (one x).2.2 κ hk
            · exact (one y).2.2 κ hk
    · rename_i f hc
      split at hk
      case isFalse => cases hk
      have hkeys : ∀ l : List Operand, ∀ κ ∈ keysVs (l.map (ge s.F)), get s.G κ ≠ none := fun l => by
        induction l with
        | nil => intro κ hk; simp [keysVs] at hk
        | cons x l ih =>
          intro κ hk
          rw [List.map_cons] at hk
          unfold keysVs at hk
          rcases List.mem_append.1 hk with hk | hk
          · exact keysV_live _ _ (ge_sound hin.fr x) κ hk
          · exact ih κ hk
      exact hkeys (f :: c.args.toList) κ hk
    · cases hk
theorem drawn_sound (hC : Known P TB C) (hX : Tabs TB X) (hB : ∀ G R w G' R' w', B G R w → Step X d G R w G' R' w' → B G' R' w') {all : Array Oper} (hall : ∀ o ∈ all, ∀ t, o.dst = some t → t < N) (hreg : drawOK A all = true) {K : St → Prop} {Q : Exit → Act → World → Prop}
    (cont : ∀ s a w R, K s → In X d N B s a w R → Q .normal a w) : ∀ (fuel : Nat) (listed : Array Bool) (s : St) (a : Act) (w : World) (R : RMap), In X d N B s a w R → listed.size = all.size →
      ((List.range all.size).filter fun i => !listed.getD i true).length = fuel → DC all (fun i => listed.getD i false) → gopsI P C A d all ((List.range all.size).filter fun i => !listed.getD i true) K s → wpAny P .any all Q fuel listed a w := by
  unfold drawOK at hreg
  simp only [Bool.and_eq_true] at hreg
  obtain ⟨hord, hind⟩ := hreg
  have hord' : ∀ i o, all[i]? = some o → ∀ e ∈ o.after, Region.binds .any e = true → e.on < i := fun i o ho e he hb => by
    have := List.all_eq_true.1 hord i (by simp; exact (Array.getElem?_eq_some_iff.1 ho).1)
    rw [ho] at this
    have := Array.all_eq_true_iff_forall_mem.1 this e he
    simpa [hb] using this
  have hanc := ancL_spec (all := all) all.toList [] (by simp) (fun i l o h => by simp at h)
  have hind' : ∀ i j oi oj, all[i]? = some oi → all[j]? = some oj → j < i → (∀ L, DC all L → (∀ e ∈ oi.after, Region.binds .any e = true → L e.on = true) → L j = true) ∨ indepX A all oj oi = true := fun i j oi oj hi hj hlt => by
    unfold indepOK at hind
    have h1 := List.all_eq_true.1 hind i (by simp; exact (Array.getElem?_eq_some_iff.1 hi).1)
    have h2 := List.all_eq_true.1 h1 j (by simpa using hlt)
    rw [hi, hj] at h2
    simp only [Bool.or_eq_true] at h2
    rcases h2 with h2 | h2
    · left
      intro L hL hr
      cases hq : (ancL all.toList [])[i]? with
      | none => rw [List.getD, hq] at h2; simp at h2
      | some q =>
        rw [List.getD, hq, Option.getD_some] at h2
        exact hanc i q oi hq hi L hL hr j (by simpa using h2)
    · exact .inr h2
  intro fuel
  induction fuel with
  | zero =>
    intro listed s a w R hin hsz hlen hdc h
    have hnil := List.eq_nil_of_length_eq_zero hlen
    rw [hnil] at h
    refine ⟨?_, cont s a w R h hin⟩
    apply List.eq_nil_iff_forall_not_mem.2
    intro i hi
    obtain ⟨h0, o, ho, _⟩ := mem_ready.1 hi
    have : i ∈ (List.range all.size).filter fun i => !listed.getD i true := List.mem_filter.2 ⟨by simp; exact (Array.getElem?_eq_some_iff.1 ho).1, by rw [h0]; rfl⟩
    rw [hnil] at this
    cases this
  | succ fuel ih =>
    intro listed s a w R hin hsz hlen hdc h
    refine ⟨fun hnone => ?_, fun i hi => ?_⟩
    · 
      exfalso
      obtain ⟨i0, rest, hrem⟩ : ∃ i0 rest, (List.range all.size).filter (fun i => !listed.getD i true) = i0 :: rest := by
        cases hr : (List.range all.size).filter (fun i => !listed.getD i true) with
        | nil => rw [hr] at hlen; cases hlen
        | cons x l => exact ⟨x, l, rfl⟩
      have hmem : i0 ∈ (List.range all.size).filter fun i => !listed.getD i true := by rw [hrem]; simp
      obtain ⟨hm1, hm2⟩ := List.mem_filter.1 hmem
      have hlt : i0 < all.size := by simpa using hm1
      have hsorted : ∀ k, k < i0 → listed.getD k true = true := fun k hk => by
        apply Classical.byContradiction
        intro hc
        have hkm : k ∈ (List.range all.size).filter fun i => !listed.getD i true := List.mem_filter.2 ⟨by simp; omega, by simpa using hc⟩
        have hpw : List.Pairwise (· < ·) ((List.range all.size).filter fun i => !listed.getD i true) := List.Pairwise.filter _ List.pairwise_lt_range
        rw [hrem] at hkm hpw
        rcases List.mem_cons.1 hkm with rfl | hkm
        · omega
        · have := (List.pairwise_cons.1 hpw).1 k hkm
          omega
      have : i0 ∈ Region.ready .any all listed := mem_ready.2 ⟨by simpa using hm2, all[i0], Array.getElem?_eq_getElem hlt, fun e he hb => by
        have h1 := hord' i0 _ (Array.getElem?_eq_getElem hlt) e he hb
        have h2 := hsorted e.on h1
        have h3 : e.on < listed.size := by omega
        simpa [Array.getD_eq_getD_getElem?, Array.getElem?_eq_getElem h3] using h2⟩
      rw [hnone] at this
      cases this
    · obtain ⟨h0, oi, hoi, hready⟩ := mem_ready.1 hi
      have hilt : i < all.size := (Array.getElem?_eq_some_iff.1 hoi).1
      have himem : i ∈ (List.range all.size).filter fun i => !listed.getD i true := List.mem_filter.2 ⟨by simpa using hilt, by rw [h0]; rfl⟩
      obtain ⟨pre, post, hsplit⟩ := List.append_of_mem himem
      have hpw : List.Pairwise (· < ·) ((List.range all.size).filter fun i => !listed.getD i true) := List.Pairwise.filter _ List.pairwise_lt_range
      have hrest : (List.range all.size).filter (fun k => !(listed.setIfInBounds i true).getD k true) = pre ++ post := by
        have e1 : (List.range all.size).filter (fun k => !(listed.setIfInBounds i true).getD k true) = ((List.range all.size).filter fun k => !listed.getD k true).filter (fun k => !decide (k = i)) := by
          rw [List.filter_filter]
          apply List.filter_congr
          intro k hk
          by_cases e : k = i
          · subst e
            rw [Array.getD_eq_getD_getElem?, Array.getElem?_setIfInBounds_self_of_lt (by omega)]
            simp
          · rw [getD_set_ne true (fun h => e h.symm)]
            simp [e]
        rw [e1, hsplit]
        rw [hsplit] at hpw
        have hp := List.pairwise_append.1 hpw
        have hp2 := List.pairwise_cons.1 hp.2.1
        rw [List.filter_append, List.filter_cons]
        simp only [decide_true, Bool.not_true, Bool.false_eq_true, if_false]
        rw [List.filter_eq_self.2 (fun k hk => by have := hp.2.2 k hk i (by simp); simp; omega), List.filter_eq_self.2 (fun k hk => by have := hp2.1 k hk; simp; omega)]
      rw [hsplit, gopsI_append] at h
      have h1 : gopsI P C A d all pre (gop1 P C A d all oi (gopsI P C A d all post K)) s := by
        have e : gopsI P C A d all (i :: post) K = gop1 P C A d all oi (gopsI P C A d all post K) := by
          funext s'; simp only [gopsI, hoi]
        rw [e] at h; exact h
      have hdc' : ∀ e ∈ oi.after, Region.binds .any e = true → (fun i => listed.getD i false) e.on = true := hready
      have h2 := bubble (P := P) (C := C) (A := A) (d := d) (fun _ _ => trivial) hoi pre s (fun j hj oj hoj => by
        have hjm : j ∈ (List.range all.size).filter fun i => !listed.getD i true := by rw [hsplit]; simp [hj]
        have hjl := (List.mem_filter.1 hjm).2
        rw [hsplit] at hpw
        have hlt := (List.pairwise_append.1 hpw).2.2 j hj i (by simp)
        rcases hind' i j oi oj hoi hoj hlt with hh | hh
        · have := hh _ hdc hdc'
          have hjs : j < listed.size := by rw [hsz]; exact (Array.getElem?_eq_some_iff.1 hoj).1
          simp [Array.getD_eq_getD_getElem?, Array.getElem?_eq_getElem hjs] at this hjl
          rw [this] at hjl
          cases hjl
        · exact hh) (live_of_In hin oi) h1
      unfold wpOp
      simp only [hoi]
      refine gop1_sound hC hX hB hin (hall oi (Array.mem_of_getElem? hoi)) h2 fun s' a' w' R' hK hin' => ih _ s' a' w' R' hin' (by simp [hsz]) ?_ ?_ ?_
      · rw [hrest]
        rw [hsplit] at hlen
        simp at hlen ⊢
        omega
      · intro k o hk hl e he hb
        by_cases hki : k = i
        · subst hki
          rw [hoi] at hk
          cases hk
          exact getD_set_true (hready e he hb)
        · have hl' : (listed.setIfInBounds i true).getD k false = true := hl
          rw [getD_set_ne false (fun h => hki h.symm)] at hl'
          exact getD_set_true (hdc k o hk hl' e he hb)
      · rw [hrest, gopsI_append]; exact hK
end
end Go.Eng
end
section
set_option linter.all false
namespace Go.Eng
section
variable {P : Program} {c : Code} {Q : Exit → Act → World → Prop} {a : Act} {w : World}
def LW (P : Program) (c : Code) (Q : Exit → Act → World → Prop) (a : Act) (w : World) : Prop :=
  ∀ (b : Frame) (k : List Item) (cs : List Frame), ∃ e a' w', Q e a' w' ∧ Arrives P (lone (b.at a (.code c :: .inLoop c :: k)) cs w) b k cs e a' w'
theorem LW.step (h : c.wp P (Exit.then (LW P c Q) Q) a w) : LW P c Q a w := by
  intro b k cs
  obtain ⟨e, a₁, w₁, hq, harr⟩ := h b (.inLoop c :: k) cs
  cases e with
  | normal =>
    obtain ⟨e₂, a₂, w₂, hq₂, harr₂⟩ := hq b k cs
    exact ⟨e₂, a₂, w₂, hq₂, .of_steps (Steps.trans harr (.one step_inLoop)) harr₂⟩
  | exit id => exact ⟨_, a₁, w₁, hq, .pass (x := .inLoop c) rfl (fun _ _ => .inl (by simp)) harr⟩
  | goto l => exact ⟨_, a₁, w₁, hq, .pass (x := .inLoop c) rfl (fun _ _ => .inl (by simp)) harr⟩
  | ret => exact ⟨_, a₁, w₁, hq, .pass (x := .inLoop c) rfl (fun _ _ => .inl (by simp)) harr⟩
  | panic ch => exact ⟨_, a₁, w₁, hq, .pass (x := .inLoop c) rfl (fun _ _ => .inl (by simp)) harr⟩
  | outgrown => exact ⟨_, a₁, w₁, hq, .pass (x := .inLoop c) rfl (fun _ _ => .inl (by simp)) harr⟩
theorem LW.wp (h : LW P c Q a w) : (Code.loop c).wp P Q a w := fun b k cs => by
  obtain ⟨e, a', w', hq, harr⟩ := h b k cs
  exact ⟨e, a', w', hq, .of_steps (.one step_loop) harr⟩
end
section
variable {X : XS} {G : Heap} {R : RMap} {d : Nat} {w : World}
def cleanG (d : Nat) (ts : List Nat) (G : Heap) : Heap := fun k t => if k = d then (if t ∈ ts then [] else (G k t).map (poisonO d ts)) else G k t
theorem get_clean {ts : List Nat} (κ : Key) : get (cleanG d ts G) κ = if κ.1 = d then (if κ.2.1 ∈ ts then none else (get G κ).map (poisonO d ts)) else get G κ := by
  unfold get cleanG
  split
  · split
    · rfl
    · rw [List.getElem?_map]
  · rfl
theorem get_clean_some {ts : List Nat} {κ : Key} {o : Obj'} (h : get (cleanG d ts G) κ = some o) : ∃ o0, get G κ = some o0 ∧ ((κ.1 = d ∧ o = poisonO d ts o0) ∨ (κ.1 ≠ d ∧ o = o0)) := by
  rw [get_clean] at h
  split at h
  · rename_i e
    split at h
    · cases h
    · cases hg : get G κ with
      | none => rw [hg] at h; cases h
      | some o0 => rw [hg] at h; cases h; exact ⟨o0, rfl, .inl ⟨e, rfl⟩⟩
  · rename_i e; exact ⟨o, h, .inr ⟨e, rfl⟩⟩
theorem clean_Mem {ts : List Nat} : ∀ b i v, Mem X d G R w b i v → Mem X d (cleanG d ts G) R w b i v := fun b i v hm => by
  refine ⟨hm.1, hm.2.1, hm.2.2.1, fun κ o hk hg hb => ?_⟩
  obtain ⟨o0, h1, h2⟩ := get_clean_some hg
  obtain ⟨n, sz, h3, h4⟩ := hm.2.2.2 κ o0 hk h1 hb
  subst h3
  rcases h2 with ⟨_, rfl⟩ | ⟨_, rfl⟩
  · exact ⟨n, sz, rfl, h4⟩
  · exact ⟨n, sz, rfl, h4⟩
theorem clean_Ext {ts : List Nat} {k : Nat} (hk : k < d) : Ext k (Mem X d G R w) G R (Mem X d (cleanG d ts G) R w) (cleanG d ts G) R := by
  have same : ∀ κ : Key, κ.1 ≤ k → get (cleanG d ts G) κ = get G κ := fun κ h => by rw [get_clean, if_neg (by omega)]
  exact ⟨clean_Mem, fun κ cs h hg => ⟨⟨cs, by rw [same κ h]; exact hg⟩, rfl⟩, fun κ n sz h hg => ⟨n, by rw [same κ h]; exact hg, Nat.le_refl _, fun _ => rfl⟩, fun κ es h hg => ⟨rfl, es, by rw [same κ h]; exact hg, Nat.le_refl _, fun _ => rfl⟩⟩
mutual
theorem poison_VR {M M' : Nat → Nat → Value → Prop} (hM : ∀ b i v, M b i v → M' b i v) {ts : List Nat} : ∀ (g : GV) (x : Value), VR M G R d g x → VR M' (cleanG d ts G) R d (poison d ts g) x
  | .undef, _, _ => by unfold poison VR; trivial
  | .p _, _, hv => by unfold poison; unfold VR at hv ⊢; exact PR.mono hM _ _ hv
  | .csl _, _, hv => by unfold poison; unfold VR at hv ⊢; exact ⟨PR.mono hM _ _ hv.1, hv.2⟩
  | .tsl es κ, x, hv => by
    unfold poison
    unfold VR at hv
    obtain ⟨h1, h2, n, sz, h3, h4, h5⟩ := hv
    split
    · unfold VR; exact PR.mono hM _ _ h1
    · rename_i hn
      unfold VR
      refine ⟨PR.mono hM _ _ h1, h2, n, sz, ?_, h4, h5⟩
      rw [get_clean]
      split
      · rename_i e
        rw [if_neg (fun h => hn ⟨e, h⟩), h3]; rfl
      · exact h3
  | .own _ _, _, hv => by unfold VR at hv; exact hv.elim
  | .obx _, _, hv => by unfold VR at hv; exact hv.elim
  | .bp κ off, x, hv => by
    unfold poison
    unfold VR at hv
    obtain ⟨h1, ⟨cs, h2⟩, h3⟩ := hv
    split
    · unfold VR; trivial
    · rename_i hn
      unfold VR
      refine ⟨h1, ?_, h3⟩
      rw [get_clean]
      split
      · rename_i e
        rw [if_neg (fun h => hn ⟨e, h⟩), h2]; exact ⟨_, rfl⟩
      · exact ⟨cs, h2⟩
  | .ep _ _, _, hv => by
    unfold poison
    unfold VR at hv ⊢
    obtain ⟨b, o, h1, h2⟩ := hv
    exact ⟨b, o, h1, PRs.mono hM _ _ _ h2⟩
  | .arr κ n sz, x, hv => by
    unfold poison
    unfold VR at hv
    obtain ⟨h1, h3, es, h2, h2'⟩ := hv
    split
    · unfold VR; trivial
    · rename_i hn
      unfold VR
      refine ⟨h1, h3, es, ?_, h2'⟩
      rw [get_clean]
      split
      · rename_i e
        rw [if_neg (fun h => hn ⟨e, h⟩), h2]; rfl
      · exact h2
  | .asl κ m lo hi sz, x, hv => by
    unfold poison
    unfold VR at hv
    obtain ⟨h1, h4, h5, h3, es, h2, h2'⟩ := hv
    split
    · unfold VR; trivial
    · rename_i hn
      unfold VR
      refine ⟨h1, h4, h5, h3, es, ?_, h2'⟩
      rw [get_clean]
      split
      · rename_i e
        rw [if_neg (fun h => hn ⟨e, h⟩), h2]; rfl
      · exact h2
  | .oar _ _, x, hv => by unfold VR at hv; exact hv.elim
  | .ap κ n i off, x, hv => by
    unfold poison
    unfold VR at hv
    obtain ⟨h1, h3, es, h2, h2'⟩ := hv
    split
    · unfold VR; trivial
    · rename_i hn
      unfold VR
      refine ⟨h1, h3, es, ?_, h2'⟩
      rw [get_clean]
      split
      · rename_i e
        rw [if_neg (fun h => hn ⟨e, h⟩), h2]; rfl
      · exact h2
  | .fn f gs, _, hv => by
    unfold poison
    unfold VR at hv ⊢
    obtain ⟨vs, h1, h2⟩ := hv
    exact ⟨vs, h1, poison_VRs hM gs vs h2⟩
  | .agg gs, _, hv => by
    unfold poison
    unfold VR at hv ⊢
    obtain ⟨vs, h1, h0, h2⟩ := hv
    exact ⟨vs, h1, h0, poison_VRs hM gs vs h2⟩
  | .tup gs, _, hv => by
    unfold poison
    unfold VR at hv ⊢
    obtain ⟨vs, h1, h2⟩ := hv
    exact ⟨vs, h1, poison_VRs hM gs vs h2⟩
theorem poison_VRs {M M' : Nat → Nat → Value → Prop} (hM : ∀ b i v, M b i v → M' b i v) {ts : List Nat} : ∀ (gs : List GV) (vs : List Value), VRs M G R d gs vs → VRs M' (cleanG d ts G) R d (poisons d ts gs) vs
  | [], [], _ => by unfold poisons; exact VRs.nil
  | g :: gs, v :: vs, hv => by
    unfold poisons
    unfold VRs at hv
    exact VRs.cons (poison_VR hM g v hv.1) (poison_VRs hM gs vs hv.2)
  | [], _ :: _, hv => by unfold VRs at hv; exact hv.elim
  | _ :: _, [], hv => by unfold VRs at hv; exact hv.elim
end
theorem clean_Sim {ts : List Nat} (hs : Sim X d G R w) : Sim X d (cleanG d ts G) R w := by
  refine ⟨fun κ κ' o o' hk hk' hg hg' hb => ?_, fun κ o hk hg => ?_, hs.off, fun κ o hk hg => ?_, fun b o htb => ⟨(hs.tab b o htb).1, fun κ o' hk hg => ?_⟩⟩
  · obtain ⟨o0, h1, _⟩ := get_clean_some hg
    obtain ⟨o0', h1', _⟩ := get_clean_some hg'
    exact hs.inj κ κ' o0 o0' hk hk' h1 h1' hb
  · obtain ⟨o0, h1, h2⟩ := get_clean_some hg
    have hok := hs.obj κ o0 hk h1
    rcases h2 with ⟨e, rfl⟩ | ⟨e, rfl⟩
    · cases o0 with
      | box cells =>
        obtain ⟨cs, T, h3, h4, h5⟩ := hok
        refine ⟨cs, T, h3, h4, ?_⟩
        rw [e] at h5 ⊢
        exact poison_VRs clean_Mem _ _ h5
      | tok n sz => exact hok
      | arr es =>
        obtain ⟨cs, T, h3, h4, h5, h6⟩ := hok
        refine ⟨cs, T, h3, h4, h5, fun i e' he => ⟨(h6 i e' he).1, fun j c hj => ?_⟩⟩
        obtain ⟨v, h7, h8, h9⟩ := (h6 i e' he).2 j c hj
        exact ⟨v, h7, h8, PR.mono clean_Mem _ _ h9⟩
    · exact hok.ext' (clean_Ext (by omega)) rfl rfl
  · obtain ⟨o0, h1, _⟩ := get_clean_some hg
    exact hs.apart κ o0 hk h1
  · obtain ⟨o0, h1, _⟩ := get_clean_some hg
    exact (hs.tab b o htb).2 κ o0 hk h1
end
end Go.Eng
end
section
set_option linter.all false
namespace Go.Eng
section
variable {X : XS} {G : Heap} {R : RMap} {d D : Nat} {w : World}
def SrcOK (G : Heap) (R : RMap) (d D : Nat) (κ : Key) : Obj' → Prop
  | .tok n sz => (d < κ.1 ∧ κ.1 ≤ D) ∧ (get G κ = some (.tok n sz) ∨ ∃ es, get G κ = some (.arr es) ∧ es.length = n ∧ (R κ).sz = sz)
  | .box cs' => (d < κ.1 ∧ κ.1 ≤ D) ∧ ∃ cs, get G κ = some (.box cs) ∧ weaks d cs cs'
  | .arr es => (d < κ.1 ∧ κ.1 ≤ D) ∧ get G κ = some (.arr es)
structure Adds (G : Heap) (R : RMap) (d D : Nat) (acc acc' : List Obj') (ks ks' : List Key) : Prop where
  len : acc'.length = ks'.length
  objs : ∀ (c : Nat) (o : Obj'), acc[c]? = some o → acc'[c]? = some o
  keys : ∀ (c : Nat) (κ : Key), ks[c]? = some κ → ks'[c]? = some κ
  new : ∀ (c : Nat) (o : Obj') (κ : Key), ks.length ≤ c → acc'[c]? = some o → ks'[c]? = some κ → SrcOK G R d D κ o
  nodup : ks.Nodup → ks'.Nodup
  le : ks.length ≤ ks'.length
theorem Adds.refl {acc : List Obj'} {ks : List Key} (h : acc.length = ks.length) : Adds G R d D acc acc ks ks :=
  ⟨h, fun _ _ h => h, fun _ _ h => h, fun c o κ hc ho hk => by have := (List.getElem?_eq_some_iff.1 hk).1; omega, id, Nat.le_refl _⟩
theorem Adds.trans {acc acc' acc'' : List Obj'} {ks ks' ks'' : List Key} (h : Adds G R d D acc acc' ks ks') (h' : Adds G R d D acc' acc'' ks' ks'') : Adds G R d D acc acc'' ks ks'' := by
  refine ⟨h'.len, fun c o ho => h'.objs c o (h.objs c o ho), fun c κ hk => h'.keys c κ (h.keys c κ hk), fun c o κ hc ho hk => ?_, fun hn => h'.nodup (h.nodup hn), Nat.le_trans h.le h'.le⟩
  rcases Nat.lt_or_ge c ks'.length with hlt | hge
  · have h1 : acc'[c]? = some (acc'[c]'(by rw [h.len]; exact hlt)) := List.getElem?_eq_getElem (by rw [h.len]; exact hlt)
    have h2 : ks'[c]? = some ks'[c] := List.getElem?_eq_getElem hlt
    have h3 := h'.objs c _ h1
    have h4 := h'.keys c _ h2
    rw [ho] at h3; rw [hk] at h4
    cases h3; cases h4
    exact h.new c _ _ hc h1 h2
  · exact h'.new c o κ hge ho hk
theorem Adds.one {acc : List Obj'} {ks : List Key} (h : acc.length = ks.length) {o : Obj'} {κ : Key} (hs : SrcOK G R d D κ o) (hn : κ ∉ ks) : Adds G R d D acc (acc ++ [o]) ks (ks ++ [κ]) := by
  refine ⟨by simp [h], fun c o' ho => ?_, fun c κ' hk => ?_, fun c o' κ' hc ho hk => ?_, fun hd => ?_, by simp⟩
  · rw [List.getElem?_append_left (List.getElem?_eq_some_iff.1 ho).1]; exact ho
  · rw [List.getElem?_append_left (List.getElem?_eq_some_iff.1 hk).1]; exact hk
  · have := (List.getElem?_eq_some_iff.1 hk).1
    simp at this
    have hcl : c = ks.length := by omega
    subst hcl
    rw [List.getElem?_append_right (by omega)] at ho hk
    simp at hk
    rw [← h] at ho
    simp at ho
    rw [← ho, ← hk]; exact hs
  · exact List.nodup_append.2 ⟨hd, by simp, fun a ha b hb => by simp at hb; subst hb; rintro rfl; exact hn ha⟩
structure Takes (X : XS) (D : Nat) (G : Heap) (R : RMap) (w : World) (d t0 : Nat) (objs : List Obj') (ks : List Key) (M2 : Nat → Nat → Value → Prop) (G2 : Heap) (R2 : RMap) : Prop where
  ext : Ext d (Mem X D G R w) G R M2 G2 R2
  got : ∀ c, get G2 (d, t0, c) = objs[c]?
  at_ : ∀ c κ, ks[c]? = some κ → R2 (d, t0, c) = R κ
  row : ∀ (c : Nat) (κ : Key) (es : List (List PV)) (n sz : Nat), ks[c]? = some κ → objs[c]? = some (.tok n sz) → get G κ = some (.arr es) → es.length = n → (R κ).sz = sz → ∀ (i : Nat) (v : Value), i < (R κ).o + n * sz → w.cell? ⟨(R κ).b, i, none⟩ = some v → v.oneCell' = true → M2 (R κ).b i v
theorem arr_PR (hs : Sim X D G R w) {κ : Key} (hk : κ.1 ≤ D) {es : List (List PV)} (hg : get G κ = some (.arr es)) {M2 : Nat → Nat → Value → Prop} (hM : ∀ b i v, Mem X D G R w b i v → M2 b i v)
    (hrow : ∀ i v, i < (R κ).o + es.length * (R κ).sz → w.cell? ⟨(R κ).b, i, none⟩ = some v → v.oneCell' = true → M2 (R κ).b i v) :
    PR M2 (.sl es) (.slice (some ⟨(R κ).b, (R κ).o, none⟩) es.length (R κ).cap) := by
  obtain ⟨cs, T, h1, h2, h3, h4⟩ := hs.obj κ _ hk hg
  unfold PR
  refine ⟨_, _, rfl, h2, (fun h => by cases h), fun _ => ⟨(R κ).b, (R κ).o, (R κ).sz, rfl, PRss.of_get fun i e hi => ?_⟩⟩
  obtain ⟨h5, h6⟩ := h4 i e hi
  refine ⟨h5, PRs.of_get fun j c hj => ?_⟩
  obtain ⟨v, h7, h8, h9⟩ := h6 j c hj
  have hil := (List.getElem?_eq_some_iff.1 hi).1
  have hjl := (List.getElem?_eq_some_iff.1 hj).1
  refine ⟨v, hrow _ v ?_ (by rw [cell_of_row w _ _ cs T _ h1]; exact h7) h8, PR.mono hM c v h9⟩
  have : (i + 1) * (R κ).sz ≤ es.length * (R κ).sz := Nat.mul_le_mul_right _ hil
  rw [Nat.add_mul] at this
  omega
mutual
theorem ret_sound (hs : Sim X D G R w) {t0 : Nat} : ∀ (g r : GV) (ks0 ks1 : List Key) (x : Value) (acc : List Obj'), Ret G d g r ks0 ks1 → VR (Mem X D G R w) G R D g x → acc.length = ks0.length →
    Adds G R d D acc (adopt d t0 r acc).2 ks0 ks1 ∧ ∀ (objs : List Obj') (ks : List Key) (M2 : Nat → Nat → Value → Prop) (G2 : Heap) (R2 : RMap), (∀ (c : Nat) (o : Obj'), (adopt d t0 r acc).2[c]? = some o → objs[c]? = some o) → (∀ (c : Nat) (κ : Key), ks1[c]? = some κ → ks[c]? = some κ) → Takes X D G R w d t0 objs ks M2 G2 R2 → VR M2 G2 R2 d (adopt d t0 r acc).1 x
  | .undef, r, ks0, ks1, x, acc, hr, hv, hl => by unfold Ret at hr; exact hr.elim
  | .p v, r, ks0, ks1, x, acc, hr, hv, hl => by
    unfold Ret at hr
    obtain ⟨rfl, rfl⟩ := hr
    unfold adopt
    refine ⟨Adds.refl hl, fun objs ks M2 G2 R2 _ _ ht => ?_⟩
    unfold VR at hv ⊢
    exact PR.mono ht.ext.mem _ _ hv
  | .csl es, r, ks0, ks1, x, acc, hr, hv, hl => by
    unfold Ret at hr
    obtain ⟨hr, rfl⟩ := hr
    unfold VR at hv
    rcases hr with rfl | rfl
    · unfold adopt
      refine ⟨Adds.refl hl, fun objs ks M2 G2 R2 _ _ ht => ?_⟩
      unfold VR
      exact ⟨PR.mono ht.ext.mem _ _ hv.1, hv.2⟩
    · unfold adopt
      refine ⟨Adds.refl hl, fun objs ks M2 G2 R2 _ _ ht => ?_⟩
      unfold VR
      exact PR.mono ht.ext.mem _ _ hv.1
  | .tsl es κ, r, ks0, ks1, x, acc, hr, hv, hl => by
    unfold Ret at hr
    have hv0 := hv
    unfold VR at hv
    obtain ⟨h1, h2, n, sz, h3, h4, h5⟩ := hv
    split at hr
    · obtain ⟨rfl, rfl⟩ := hr
      unfold adopt
      refine ⟨Adds.refl hl, fun objs ks M2 G2 R2 _ _ ht => ?_⟩
      unfold VR
      exact PR.mono ht.ext.mem _ _ h1
    · obtain ⟨rfl, hd, hg, hn, rfl⟩ := hr
      rw [h3] at hg
      cases hg
      unfold adopt
      refine ⟨Adds.one hl ⟨⟨hd, h2⟩, .inl h3⟩ hn, fun objs ks M2 G2 R2 ho hk ht => ?_⟩
      have hoc := ho acc.length _ (by dsimp only; rw [List.getElem?_append_right (Nat.le_refl _)]; simp; rfl)
      have hkc := hk acc.length κ (by rw [hl, List.getElem?_append_right (Nat.le_refl _)]; simp)
      unfold VR
      refine ⟨PR.mono ht.ext.mem _ _ h1, Nat.le_refl _, _, _, (ht.got acc.length).trans hoc, Nat.le_refl _, fun _ => ?_⟩
      rw [ht.at_ _ _ hkc]
      exact h5 rfl
    · obtain ⟨rfl, rfl, hd, rfl⟩ := hr
      unfold adopt
      refine ⟨Adds.refl hl, fun objs ks M2 G2 R2 _ _ ht => ?_⟩
      exact VR.ext ht.ext _ _ (okd_VR _ _ (by unfold okd; exact hd) hv0)
    · exact hr.elim
  | .own _ _, r, ks0, ks1, x, acc, hr, hv, hl => by unfold Ret at hr; exact hr.elim
  | .obx _, r, ks0, ks1, x, acc, hr, hv, hl => by unfold Ret at hr; exact hr.elim
  | .bp κ off, r, ks0, ks1, x, acc, hr, hv, hl => by
    unfold Ret at hr
    split at hr
    · obtain ⟨rfl, rfl, hd, rfl⟩ := hr
      unfold adopt
      refine ⟨Adds.refl hl, fun objs ks M2 G2 R2 _ _ ht => ?_⟩
      exact VR.ext ht.ext _ _ (okd_VR _ _ (by unfold okd; exact hd) hv)
    · obtain ⟨hd, rfl, ⟨cs, hg, hw⟩, hn, rfl⟩ := hr
      unfold VR at hv
      obtain ⟨h1, h2, h3⟩ := hv
      unfold adopt
      refine ⟨Adds.one hl ⟨⟨hd, h1⟩, cs, hg, hw⟩ hn, fun objs ks M2 G2 R2 ho hk ht => ?_⟩
      have hoc := ho acc.length _ (by dsimp only; rw [List.getElem?_append_right (Nat.le_refl _)]; simp; rfl)
      have hkc := hk acc.length κ (by rw [hl, List.getElem?_append_right (Nat.le_refl _)]; simp)
      unfold VR
      exact ⟨Nat.le_refl _, ⟨_, (ht.got acc.length).trans hoc⟩, by rw [ht.at_ _ _ hkc]; exact h3⟩
    · exact hr.elim
  | .ep cs off, r, ks0, ks1, x, acc, hr, hv, hl => by
    unfold Ret at hr
    obtain ⟨rfl, rfl⟩ := hr
    unfold adopt
    refine ⟨Adds.refl hl, fun objs ks M2 G2 R2 _ _ ht => ?_⟩
    unfold VR at hv ⊢
    obtain ⟨b, o, h1, h2⟩ := hv
    exact ⟨b, o, h1, PRs.mono ht.ext.mem _ _ _ h2⟩
  | .arr κ n sz, r, ks0, ks1, x, acc, hr, hv, hl => by
    unfold Ret at hr
    have hv0 := hv
    unfold VR at hv
    obtain ⟨h1, h3, es0, h2, _, b, o, c, rfl, _, h4⟩ := hv
    split at hr
    · obtain ⟨hd, hg, hn', rfl, hn, rfl⟩ := hr
      rw [h2] at hg
      cases hg
      obtain ⟨rfl, rfl, rfl⟩ := h4 hn'
      subst hn'
      unfold adopt
      refine ⟨Adds.one hl ⟨⟨hd, h1⟩, .inr ⟨_, h2, rfl, h3⟩⟩ hn, fun objs ks M2 G2 R2 ho hk ht => ?_⟩
      have hoc := ho acc.length _ (by dsimp only; rw [List.getElem?_append_right (Nat.le_refl _)]; simp; rfl)
      have hkc := hk acc.length κ (by rw [hl, List.getElem?_append_right (Nat.le_refl _)]; simp)
      unfold VR
      refine ⟨?_, Nat.le_refl _, _, _, (ht.got acc.length).trans hoc, Nat.le_refl _, fun _ => ?_⟩
      · exact arr_PR hs h1 h2 ht.ext.mem (by rw [h3]; exact ht.row _ κ _ _ _ hkc hoc h2 rfl h3)
      · rw [ht.at_ _ _ hkc]
    · obtain ⟨hd, hg, hn', rfl, hn, rfl⟩ := hr
      rw [h2] at hg
      cases hg
      obtain ⟨rfl, rfl, rfl⟩ := h4 hn'
      subst hn'
      unfold adopt
      refine ⟨Adds.one hl ⟨⟨hd, h1⟩, h2⟩ hn, fun objs ks M2 G2 R2 ho hk ht => ?_⟩
      have hoc := ho acc.length _ (by dsimp only; rw [List.getElem?_append_right (Nat.le_refl _)]; simp; rfl)
      have hkc := hk acc.length κ (by rw [hl, List.getElem?_append_right (Nat.le_refl _)]; simp)
      unfold VR
      exact ⟨Nat.le_refl _, by rw [ht.at_ _ _ hkc]; exact h3, _, (ht.got acc.length).trans hoc, Nat.le_refl _, _, _, _, rfl, by assumption, fun _ => by rw [ht.at_ _ _ hkc]; exact ⟨rfl, rfl, rfl⟩⟩
    · obtain ⟨rfl, rfl, rfl, hd, rfl⟩ := hr
      unfold adopt
      refine ⟨Adds.refl hl, fun objs ks M2 G2 R2 _ _ ht => ?_⟩
      exact VR.ext ht.ext _ _ (okd_VR _ _ (by unfold okd; exact hd) hv0)
    · exact hr.elim
  | .oar _ _, r, ks0, ks1, x, acc, hr, hv, hl => by unfold Ret at hr; exact hr.elim
  | .ap _ _ _ _, r, ks0, ks1, x, acc, hr, hv, hl => by unfold Ret at hr; exact hr.elim
  | .asl _ _ _ _ _, r, ks0, ks1, x, acc, hr, hv, hl => by unfold Ret at hr; exact hr.elim
  | .fn f gs, r, ks0, ks1, x, acc, hr, hv, hl => by
    unfold Ret at hr
    obtain ⟨rfl, hd, rfl⟩ := hr
    unfold adopt
    refine ⟨Adds.refl hl, fun objs ks M2 G2 R2 _ _ ht => ?_⟩
    exact VR.ext ht.ext _ _ (okd_VR _ _ (by unfold okd; exact hd) hv)
  | .agg gs, r, ks0, ks1, x, acc, hr, hv, hl => by
    unfold Ret at hr
    split at hr
    · rename_i rs
      unfold VR at hv
      obtain ⟨vs, rfl, h1, h2⟩ := hv
      obtain ⟨h3, h4⟩ := rets_sound hs gs rs ks0 ks1 vs acc hr h2 hl
      unfold adopt
      refine ⟨h3, fun objs ks M2 G2 R2 ho hk ht => ?_⟩
      unfold VR
      exact ⟨vs, rfl, h1, h4 objs ks M2 G2 R2 ho hk ht⟩
    · exact hr.elim
  | .tup gs, r, ks0, ks1, x, acc, hr, hv, hl => by
    unfold Ret at hr
    split at hr
    · rename_i rs
      unfold VR at hv
      obtain ⟨vs, rfl, h2⟩ := hv
      obtain ⟨h3, h4⟩ := rets_sound hs gs rs ks0 ks1 vs acc hr h2 hl
      unfold adopt
      refine ⟨h3, fun objs ks M2 G2 R2 ho hk ht => ?_⟩
      unfold VR
      exact ⟨vs, rfl, h4 objs ks M2 G2 R2 ho hk ht⟩
    · exact hr.elim
theorem rets_sound (hs : Sim X D G R w) {t0 : Nat} : ∀ (gs rs : List GV) (ks0 ks1 : List Key) (vs : List Value) (acc : List Obj'), Rets G d gs rs ks0 ks1 → VRs (Mem X D G R w) G R D gs vs → acc.length = ks0.length →
    Adds G R d D acc (adopts d t0 rs acc).2 ks0 ks1 ∧ ∀ (objs : List Obj') (ks : List Key) (M2 : Nat → Nat → Value → Prop) (G2 : Heap) (R2 : RMap), (∀ (c : Nat) (o : Obj'), (adopts d t0 rs acc).2[c]? = some o → objs[c]? = some o) → (∀ (c : Nat) (κ : Key), ks1[c]? = some κ → ks[c]? = some κ) → Takes X D G R w d t0 objs ks M2 G2 R2 → VRs M2 G2 R2 d (adopts d t0 rs acc).1 vs
  | [], rs, ks0, ks1, vs, acc, hr, hv, hl => by
    unfold Rets at hr
    obtain ⟨rfl, rfl⟩ := hr
    have := VRs.length hv
    have hvs : vs = [] := List.eq_nil_of_length_eq_zero this.symm
    subst hvs
    unfold adopts
    exact ⟨Adds.refl hl, fun _ _ _ _ _ _ _ _ => VRs.nil⟩
  | g :: gs, [], ks0, ks1, vs, acc, hr, hv, hl => by unfold Rets at hr; exact hr.elim
  | g :: gs, r :: rs, ks0, ks1, [], acc, hr, hv, hl => by unfold VRs at hv; exact hv.elim
  | g :: gs, r :: rs, ks0, ks1, v :: vs, acc, hr, hv, hl => by
    unfold Rets at hr
    obtain ⟨km, h1, h2⟩ := hr
    unfold VRs at hv
    obtain ⟨h3, h4⟩ := ret_sound hs (t0 := t0) g r ks0 km v acc h1 hv.1 hl
    obtain ⟨h5, h6⟩ := rets_sound hs (t0 := t0) gs rs km ks1 vs _ h2 hv.2 h3.len
    unfold adopts
    exact ⟨h3.trans h5, fun objs ks M2 G2 R2 ho hk ht => VRs.cons (h4 objs ks M2 G2 R2 (fun c o hc => ho c o (h5.objs c o hc)) (fun c κ hc => hk c κ (h5.keys c κ hc)) ht) (h6 objs ks M2 G2 R2 ho hk ht)⟩
end
end
end Go.Eng
end
section
set_option linter.all false
namespace Go.Eng
def codeOK (A : Ann) (N : Nat) : Code → Bool
  | .region _ ops draw => (ops.all fun o => match o.dst with | some t => decide (t < N) | none => true) && (!draw || drawOK A ops)
  | .seq a b => codeOK A N a && codeOK A N b
  | .cond _ a b => codeOK A N a && codeOK A N b
  | .block _ c => codeOK A N c
  | .loop c => codeOK A N c
  | _ => true
def EvN (P : Program) (Z : CR) : Nat → CR
  | 0, d, f, args, G, r, G' => Z d f args G r G'
  | n + 1, d, f, args, G, r, G' => Z d f args G r G' ∨ ∃ fn c A, P.funcs[f]? = some fn ∧ fn.body = some c ∧ args.length ≤ fn.ntmps ∧ codeOK A fn.ntmps c = true ∧ (fn.name == "runtime.NumGoroutine") = false ∧
      gwp P (EvN P Z n) A (d + 1) c (callPost P fn d r G') ⟨initF args, cut d G⟩
section
variable {X : XS} {P : Program}
structure Base (X : XS) (d : Nat) (G0 : Heap) (R0 : RMap) (w0 : World) (G : Heap) (R : RMap) (w : World) : Prop where
  ext : Ext d (Mem X d G0 R0 w0) G0 R0 (Mem X (d + 1) G R w) G R
  fr : Fr (d + 1) (cut d G0) R0 w0 G R w
section
variable {d : Nat} {G0 : Heap} {R0 : RMap} {w0 : World}
theorem Base.step (G : Heap) (R : RMap) (w : World) (G' : Heap) (R' : RMap) (w' : World) (h : Base X d G0 R0 w0 G R w) (hs : Step X (d + 1) G R w G' R' w') : Base X d G0 R0 w0 G' R' w' :=
  ⟨h.ext.trans (hs.ext.le (Nat.le_succ d)), h.fr.trans hs.fr⟩
theorem Base.clean {ts : List Nat} {G : Heap} {R : RMap} {w : World} (h : Base X d G0 R0 w0 G R w) : Base X d G0 R0 w0 (cleanG (d + 1) ts G) R w := by
  refine ⟨h.ext.trans (clean_Ext (Nat.lt_succ_self d)), ⟨h.fr.size, h.fr.keep, fun κ o hk hg hlt => ?_, h.fr.env⟩⟩
  obtain ⟨o0, h1, _⟩ := get_clean_some hg
  exact h.fr.come κ o0 hk h1 hlt
theorem get_cut (κ : Key) : get (cut d G0) κ = if κ.1 ≤ d then get G0 κ else none := by
  unfold get cut
  split
  · rfl
  · rfl
theorem Sim.cut (hs : Sim X d G0 R0 w0) : Sim X (d + 1) (cut d G0) R0 w0 ∧ Ext d (Mem X d G0 R0 w0) G0 R0 (Mem X (d + 1) (Eng.cut d G0) R0 w0) (Eng.cut d G0) R0 := by
  have some_ : ∀ {κ : Key} {o : Obj'}, get (Eng.cut d G0) κ = some o → κ.1 ≤ d ∧ get G0 κ = some o := fun h => by
    rw [get_cut] at h
    split at h
    · exact ⟨by assumption, h⟩
    · cases h
  have hmem : ∀ b i v, Mem X d G0 R0 w0 b i v → Mem X (d + 1) (Eng.cut d G0) R0 w0 b i v := fun b i v hm =>
    ⟨hm.1, hm.2.1, hm.2.2.1, fun κ o _ hg hb => hm.2.2.2 κ o (some_ hg).1 (some_ hg).2 hb⟩
  have hx : Ext d (Mem X d G0 R0 w0) G0 R0 (Mem X (d + 1) (Eng.cut d G0) R0 w0) (Eng.cut d G0) R0 := by
    have same : ∀ κ : Key, κ.1 ≤ d → get (Eng.cut d G0) κ = get G0 κ := fun κ h => by rw [get_cut, if_pos h]
    exact ⟨hmem, fun κ cs h hg => ⟨⟨cs, by rw [same κ h]; exact hg⟩, rfl⟩, fun κ n sz h hg => ⟨n, by rw [same κ h]; exact hg, Nat.le_refl _, fun _ => rfl⟩, fun κ es h hg => ⟨rfl, es, by rw [same κ h]; exact hg, Nat.le_refl _, fun _ => rfl⟩⟩
  refine ⟨⟨fun κ κ' o o' hk hk' hg hg' hb => hs.inj κ κ' o o' (some_ hg).1 (some_ hg').1 (some_ hg).2 (some_ hg').2 hb, fun κ o hk hg => ?_, hs.off, fun κ o hk hg => hs.apart κ o (some_ hg).1 (some_ hg).2, fun b o htb => ⟨(hs.tab b o htb).1, fun κ o' hk hg => (hs.tab b o htb).2 κ o' (some_ hg).1 (some_ hg).2⟩⟩, hx⟩
  exact (hs.obj κ o (some_ hg).1 (some_ hg).2).ext' (hx.le (some_ hg).1) rfl rfl
theorem Base.start (hs : Sim X d G0 R0 w0) : Base X d G0 R0 w0 (Eng.cut d G0) R0 w0 := ⟨hs.cut.2, Fr.refl _ _ _ _⟩
end
theorem wkA_VR {M : Nat → Nat → Value → Prop} {G : Heap} {R : RMap} {d : Nat} {g : GV} {v : Value} (b : Bool) (h : VR M G R d g v) : VR M G R d (wkA b g) v := by
  cases b with
  | false => exact h
  | true =>
    cases g <;> first | exact h | skip
    · unfold VR at h; exact VR.p_iff.2 h.1
    · unfold VR at h; exact VR.p_iff.2 h.1
theorem clean_In {d N : Nat} {B : Heap → RMap → World → Prop} {s : St} {a : Act} {w : World} {R : RMap} (hBc : ∀ ts G R w, B G R w → B (cleanG d ts G) R w) (h : In X d N B s a w R) (ts : List Nat) : In X d N B (clean d ts s) a w R := by
  have main : In X d N B (cleanS d ts s) a w R := ⟨clean_Sim h.sim, fun t => wkA_VR _ (poison_VR clean_Mem _ _ (h.fr t)), h.sz, h.df, hBc _ _ _ _ h.base⟩
  cases ts with
  | nil => exact h
  | cons t ts => exact main
def GE.conv : GE → Exit
  | .normal => .normal
  | .exit id => .exit id
  | .ret => .ret
theorem gwp_sound {TB : Nat → Option Obj} {C : CR} (hC : Known P TB C) (hX : Tabs TB X) (hmix : P.follows .mixedOrders = true) {A : Ann} {d N : Nat} {B : Heap → RMap → World → Prop} (hB : ∀ G R w G' R' w', B G R w → Step X d G R w G' R' w' → B G' R' w') (hBc : ∀ ts G R w, B G R w → B (cleanG d ts G) R w) :
    ∀ (c : Code), codeOK A N c = true → ∀ (Qg : GE → St → Prop) (Q : Exit → Act → World → Prop), (∀ e s a w R, Qg e s → In X d N B s a w R → Q e.conv a w) →
      ∀ (s : St) (a : Act) (w : World) (R : RMap), In X d N B s a w R → gwp P C A d c Qg s → c.wp P Q a w
  | .skip, _, Qg, Q, hQ, s, a, w, R, hin, h => wp_skip (hQ .normal s a w R h hin)
  | .region id ops draw, hok, Qg, Q, hQ, s, a, w, R, hin, h => by
    unfold codeOK at hok
    simp only [Bool.and_eq_true] at hok
    have hall : ∀ o ∈ ops, ∀ t, o.dst = some t → t < N := fun o ho t ht => by
      have := Array.all_eq_true_iff_forall_mem.1 hok.1 o ho
      rw [ht] at this
      simpa using this
    have hg : gops P C A d ops ops.toList (Qg .normal) s := h
    cases draw with
    | false =>
      refine wp_region ?_
      have := gops_sound hC hX hB hall (Q := Q) (fun s a w R => hQ .normal s a w R) ops.toList 0 rfl s a w R hin hg
      rwa [List.range_eq_range', ← Array.length_toList]
    | true =>
      have hreg : drawOK A ops = true := by simpa using hok.2
      refine wp_region_any hmix ?_
      have hgr : Grows w w.drew := Grows.drew w
      have hin' : In X d N B s a w.drew R := ⟨hin.sim.grow hgr, fun t => VR.ext (Ext.grow hgr) _ _ (hin.fr t), hin.sz, hin.df, hB _ _ _ _ _ _ hin.base (Step.grow hin.sim hgr)⟩
      have hrem : ((List.range ops.size).filter fun i => !(Array.replicate ops.size false).getD i true) = List.range ops.size := by
        rw [List.filter_eq_self]
        intro i hi
        have : i < ops.size := by simpa using hi
        simp [Array.getD_eq_getD_getElem?, this]
      refine drawn_sound hC hX hB hall hreg (Q := Q) (fun s a w R => hQ .normal s a w R) ops.size (Array.replicate ops.size false) s a w.drew R hin' (by simp) (by rw [hrem]; simp) (fun i o _ hl => ?_) ?_
      · exfalso
        have : (Array.replicate ops.size false).getD i false = false := by
          rw [Array.getD_eq_getD_getElem?, Array.getElem?_replicate]
          split <;> rfl
        have hl' : (Array.replicate ops.size false).getD i false = true := hl
        rw [this] at hl'
        cases hl'
      · rw [hrem, List.range_eq_range', ← Array.length_toList]
        exact gops_gopsI ops.toList 0 rfl s hg
  | .seq x y, hok, Qg, Q, hQ, s, a, w, R, hin, h => by
    unfold codeOK at hok
    simp only [Bool.and_eq_true] at hok
    refine wp_seq (gwp_sound hC hX hmix hB hBc x hok.1 _ _ (fun e s' a' w' R' hq hin' => ?_) s a w R hin h)
    cases e with
    | normal => exact gwp_sound hC hX hmix hB hBc y hok.2 Qg Q hQ s' a' w' R' hin' hq
    | exit id => exact hQ (.exit id) s' a' w' R' hq hin'
    | ret => exact hQ .ret s' a' w' R' hq hin'
  | .cond c x y, hok, Qg, Q, hQ, s, a, w, R, hin, h => by
    unfold codeOK at hok
    simp only [Bool.and_eq_true] at hok
    unfold gwp at h
    have hc := ge_sound hin.fr c
    split at h
    case h_2 => exact h.elim
    rename_i t ht
    rw [ht] at hc
    have hc' := VR.p_iff.1 hc
    unfold PR at hc'
    refine wp_cond_split hc' (fun e => ?_) (fun e => ?_)
    · exact gwp_sound hC hX hmix hB hBc x hok.1 Qg Q hQ s a w R hin (h.1 e)
    · exact gwp_sound hC hX hmix hB hBc y hok.2 Qg Q hQ s a w R hin (h.2 e)
  | .block id c, hok, Qg, Q, hQ, s, a, w, R, hin, h => by
    unfold codeOK at hok
    refine wp_block (gwp_sound hC hX hmix hB hBc c hok _ _ (fun e s' a' w' R' hq hin' => ?_) s a w R hin h)
    cases e with
    | normal => exact hQ .normal s' a' w' R' hq hin'
    | exit k =>
      have hq' : if k = id then Qg .normal s' else Qg (.exit k) s' := hq
      show Exit.inBlock id Q (.exit k) a' w'
      unfold Exit.inBlock
      dsimp only
      split at hq'
      · rename_i e; rw [if_pos e]; exact hQ .normal s' a' w' R' hq' hin'
      · rename_i e; rw [if_neg e]; exact hQ (.exit k) s' a' w' R' hq' hin'
    | ret => exact hQ .ret s' a' w' R' hq hin'
  | .loop c, hok, Qg, Q, hQ, s, a, w, R, hin, h => by
    unfold codeOK at hok
    unfold gwp at h
    obtain ⟨n, h⟩ := h
    have key : ∀ n s a w R, In X d N B s a w R → loopW d (gwp P C A d c) (A.clean (firstId c)) Qg n s → LW P c Q a w := by
      intro n
      induction n with
      | zero => intro s a w R _ h; exact h.elim
      | succ n ih =>
        intro s a w R hin h
        refine LW.step (gwp_sound hC hX hmix hB hBc c hok _ _ (fun e s' a' w' R' hq hin' => ?_) _ a w R (clean_In hBc hin (A.clean (firstId c))) h)
        cases e with
        | normal => exact ih s' a' w' R' hin' hq
        | exit id => exact hQ (.exit id) s' a' w' R' hq hin'
        | ret => exact hQ .ret s' a' w' R' hq hin'
    exact (key n s a w R hin h).wp
  | .exit id, _, Qg, Q, hQ, s, a, w, R, hin, h => wp_exit (hQ (.exit id) s a w R h hin)
  | .ret, _, Qg, Q, hQ, s, a, w, R, hin, h => wp_ret (hQ .ret s a w R h hin)
  | .rangeFunc _ _ _ _, _, _, _, _, _, _, _, _, _, h => h.elim
  | .scope _, _, _, _, _, _, _, _, _, _, h => h.elim
  | .label _, _, _, _, _, _, _, _, _, _, h => h.elim
  | .goto _, _, _, _, _, _, _, _, _, _, h => h.elim
  | .refuse _, _, _, _, _, _, _, _, _, _, h => h.elim
theorem gLoad_ptr {M : Nat → Nat → Value → Prop} {G : Heap} {R : RMap} {d : Nat} {t : TypeId} {g : GV} {x : Value} {K : GV → Prop} (h : gLoad P G t g K) (hv : VR M G R d g x) : ∃ ad, x = .pointer (some ad) := by
  unfold gLoad at h
  split at h
  · unfold VR at hv; exact ⟨_, hv.2.2⟩
  · unfold VR at hv; obtain ⟨b, o, e, _⟩ := hv; exact ⟨_, e⟩
  · have hv := VR.p_iff.1 hv; unfold PR at hv; obtain ⟨b, o, e, _⟩ := hv; exact ⟨_, e⟩
  · unfold VR at hv; obtain ⟨_, _, es, _, _, b, o, e, _⟩ := hv; exact ⟨_, e⟩
  · exact h.elim
def resRun (tmps : Array Value) : ResultVar → Sem Value
  | .tmp t => pure (tmps.getD t undef)
  | .cell a t => do loadVar t (← asAddr (tmps.getD a undef))
theorem ress_sound {d N : Nat} {B : Heap → RMap → World → Prop} {s : St} {a : Act} {w : World} {R : RMap} (hin : In X d N B s a w R) : ∀ (l : List ResultVar) (K : List GV → Prop), ress P s l K →
    ∃ gs vs, K gs ∧ gs.length = l.length ∧ VRs (Mem X d s.G R w) s.G R d gs vs ∧ (l.mapM (resRun a.tmps)).run P w = .ok vs w
  | [], K, h => ⟨[], [], h, rfl, VRs.nil, by simp⟩
  | r :: l, K, h => by
    unfold ress at h
    have one : ∃ g v, (ress P s l fun gs => K (g :: gs)) ∧ VR (Mem X d s.G R w) s.G R d g v ∧ (resRun a.tmps r).run P w = .ok v w := by
      cases r with
      | tmp t => exact ⟨_, _, h, hin.fr t, rfl⟩
      | cell ad t =>
        have h' : gLoad P s.G t (s.F ad) fun g => ress P s l fun gs => K (g :: gs) := h
        obtain ⟨p, hp⟩ := gLoad_ptr h' (hin.fr ad)
        obtain ⟨g, v, h1, h2, h3⟩ := load_sound hin.sim (hin.fr ad) h'
        refine ⟨g, v, h1, h3, ?_⟩
        rw [hp] at h2
        unfold resRun
        dsimp only
        rw [hp]
        simpa [asAddr, Instr.loadAt, Instr.sureAddr] using h2
    obtain ⟨g, v, h1, h2, h3⟩ := one
    obtain ⟨gs, vs, h4, h5, h6, h7⟩ := ress_sound hin l _ h1
    refine ⟨g :: gs, v :: vs, h4, by simp [h5], VRs.cons h2 h6, ?_⟩
    rw [List.mapM_cons]
    simp [h3, h7]
theorem finish {d N : Nat} {G0 : Heap} {R0 : RMap} {w0 : World} (hs0 : Sim X d G0 R0 w0) {t0 : Nat} (hf : G0 d t0 = []) {s : St} {a : Act} {w : World} {R : RMap} (hin : In X (d + 1) N (Base X d G0 R0 w0) s a w R) {fn : Func} {r : GV} {G' : Heap} (hf' : G' d t0 = [])
    (hret : (ress P s fn.results.toList fun gs => ∃ ks, Ret s.G d (match gs with | [g] => g | gs => .tup gs) r [] ks) ∧ ∀ k t, k ≤ d → s.G k t = G' k t) :
    ∃ v R2, (results fn a.tmps).run P w = .ok v w ∧ Step X d G0 R0 w0 (fillKey G' d t0 (adopt d t0 r []).2) R2 w ∧
      VR (Mem X d (fillKey G' d t0 (adopt d t0 r []).2) R2 w) (fillKey G' d t0 (adopt d t0 r []).2) R2 d (adopt d t0 r []).1 v := by
  obtain ⟨hres, hag⟩ := hret
  obtain ⟨gs, vs, ⟨ks, hks⟩, hgl, hvs, hrun⟩ := ress_sound hin _ _ hres
  have hvl := VRs.length hvs
  obtain ⟨v, hv, hrv⟩ : ∃ v, VR (Mem X (d + 1) s.G R w) s.G R (d + 1) (match gs with | [g] => g | gs => .tup gs) v ∧ (results fn a.tmps).run P w = .ok v w := by
    have hr : (results fn a.tmps).run P w = .ok (if h : vs.toArray.size = 1 then vs.toArray[0] else .tuple vs.toArray) w := by
      unfold results
      rw [Sem.run_bind, Array.mapM_eq_mapM_toList]
      rw [Sem.run_map]
      have : ∀ f : ResultVar → Sem Value, (∀ q, f q = resRun a.tmps q) → ((fn.results.toList.mapM f).run P w) = .ok vs w := fun f hq => by rw [show f = resRun a.tmps from funext hq, hrun]
      rw [this _ (fun q => by cases q <;> rfl)]
      rfl
    cases gs with
    | nil => cases vs with
      | nil => exact ⟨_, by unfold VR; exact ⟨[], rfl, hvs⟩, hr⟩
      | cons v vs => simp at hvl
    | cons g gs => cases gs with
      | nil => cases vs with
        | nil => simp at hvl
        | cons v vs => cases vs with
          | nil =>
            unfold VRs at hvs
            exact ⟨v, hvs.1, hr⟩
          | cons v' vs => simp at hvl
      | cons g' gs =>
        refine ⟨.tuple vs.toArray, by unfold VR; exact ⟨vs, rfl, hvs⟩, ?_⟩
        rw [hr, dif_neg (by simp at hvl ⊢; omega)]
  obtain ⟨hadds, hfin⟩ := ret_sound hin.sim (t0 := t0) _ r [] ks v [] hks hv rfl
  generalize hO : (adopt d t0 r []).2 = objs at hadds hfin ⊢
  have hlen : objs.length = ks.length := hadds.len
  have hnd : ks.Nodup := hadds.nodup List.nodup_nil
  have hsrc : ∀ (c : Nat) (o : Obj') (κ : Key), objs[c]? = some o → ks[c]? = some κ → SrcOK s.G R d (d + 1) κ o := fun c o κ ho hk => hadds.new c o κ (Nat.zero_le _) ho hk
  let G2 : Heap := fillKey G' d t0 objs
  let R2 : RMap := fun κ => if κ.1 = d ∧ κ.2.1 = t0 then R (ks.getD κ.2.2 (0, 0, 0)) else R κ
  have hR2n : ∀ c κ, ks[c]? = some κ → R2 (d, t0, c) = R κ := fun c κ hk => by
    show (if d = d ∧ t0 = t0 then R (ks.getD c (0, 0, 0)) else R (d, t0, c)) = R κ
    rw [if_pos ⟨rfl, rfl⟩, List.getD, hk]; rfl
  have hR2o : ∀ κ : Key, ¬ (κ.1 = d ∧ κ.2.1 = t0) → R2 κ = R κ := fun κ h => if_neg h
  have hin0 : ∀ κ o, get G0 κ = some o → ¬ (κ.1 = d ∧ κ.2.1 = t0) := fun κ o hk ⟨e1, e2⟩ => by
    unfold get at hk
    rw [e1, e2, hf] at hk
    simp at hk
  have hagk : ∀ κ : Key, κ.1 ≤ d → get G' κ = get s.G κ := fun κ hk => by unfold get; rw [hag _ _ hk]
  have hG2 : ∀ κ o, κ.1 ≤ d → get G2 κ = some o → (∃ c κs, κ = (d, t0, c) ∧ objs[c]? = some o ∧ ks[c]? = some κs ∧ R2 κ = R κs ∧ SrcOK s.G R d (d + 1) κs o) ∨ (¬ (κ.1 = d ∧ κ.2.1 = t0) ∧ get s.G κ = some o ∧ R2 κ = R κ) := fun κ o hk hg => by
    have hg' : get (fillKey G' d t0 objs) κ = some o := hg
    rw [get_fillKey] at hg'
    split at hg'
    · rename_i e
      obtain ⟨k1, c1, c2⟩ := κ
      simp only at e hg'
      obtain ⟨rfl, rfl⟩ := e
      have hlt : c2 < ks.length := by have := (List.getElem?_eq_some_iff.1 hg').1; omega
      have hkc := List.getElem?_eq_getElem hlt
      exact .inl ⟨c2, _, rfl, hg', hkc, hR2n c2 _ hkc, hsrc _ _ _ hg' hkc⟩
    · rename_i e
      exact .inr ⟨e, by rw [← hagk κ hk]; exact hg', hR2o κ e⟩
  have hsome : ∀ {κ : Key} {o : Obj'}, SrcOK s.G R d (d + 1) κ o → ∃ o', get s.G κ = some o' ∧ d < κ.1 ∧ κ.1 ≤ d + 1 := fun {κ o} h => by
    cases o with
    | tok n sz =>
      obtain ⟨h1, h2 | ⟨es, h2, _⟩⟩ := h
      · exact ⟨_, h2, h1⟩
      · exact ⟨_, h2, h1⟩
    | box cs => obtain ⟨h1, cs', h2, _⟩ := h; exact ⟨_, h2, h1⟩
    | arr es => exact ⟨_, h.2, h.1⟩
  have hmem : ∀ b i v, Mem X (d + 1) s.G R w b i v → Mem X d G2 R2 w b i v := fun b i v hm => by
    refine ⟨hm.1, hm.2.1, hm.2.2.1, fun κ o hk hg hb => ?_⟩
    rcases hG2 κ o hk hg with ⟨c, κs, rfl, _, _, hR, hso⟩ | ⟨_, h1, hR⟩
    · rw [hR] at hb ⊢
      cases o with
      | tok n sz =>
        obtain ⟨⟨h1, h1'⟩, h2 | ⟨es, h2, _⟩⟩ := hso
        · exact hm.2.2.2 κs _ h1' h2 hb
        · obtain ⟨n', sz', h3, _⟩ := hm.2.2.2 κs _ h1' h2 hb
          cases h3
      | box cs =>
        obtain ⟨⟨_, h1'⟩, cs', h2, _⟩ := hso
        obtain ⟨n', sz', h3, _⟩ := hm.2.2.2 κs _ h1' h2 hb
        cases h3
      | arr es =>
        obtain ⟨n', sz', h3, _⟩ := hm.2.2.2 κs _ hso.1.2 hso.2 hb
        cases h3
    · rw [hR] at hb ⊢
      exact hm.2.2.2 κ o (Nat.le_succ_of_le hk) h1 hb
  have hext : Ext d (Mem X d G0 R0 w0) G0 R0 (Mem X d G2 R2 w) G2 R2 := by
    have key : ∀ κ o, κ.1 ≤ d → get G0 κ = some o → ∀ o', get s.G κ = some o' → get G2 κ = some o' ∧ R2 κ = R κ := fun κ o hk hg o' ho' => by
      have hn := hin0 κ o hg
      refine ⟨?_, hR2o κ hn⟩
      show get (fillKey G' d t0 objs) κ = some o'
      rw [get_fillKey, if_neg hn, hagk κ hk, ho']
    refine ⟨fun b i v hm => hmem b i v (hin.base.ext.mem b i v hm), fun κ cs hk hg => ?_, fun κ n sz hk hg => ?_, fun κ es hk hg => ?_⟩
    · obtain ⟨⟨cs', h1⟩, h2⟩ := hin.base.ext.box κ cs hk hg
      obtain ⟨h3, h4⟩ := key κ _ hk hg _ h1
      exact ⟨⟨cs', h3⟩, h4.trans h2⟩
    · obtain ⟨n', h1, h2, h3⟩ := hin.base.ext.tok κ n sz hk hg
      obtain ⟨h4, h5⟩ := key κ _ hk hg _ h1
      exact ⟨n', h4, h2, fun e => h5.trans (h3 e)⟩
    · obtain ⟨h0, es', h1, h1', h2⟩ := hin.base.ext.arr κ es hk hg
      obtain ⟨h3, h4⟩ := key κ _ hk hg _ h1
      exact ⟨by rw [h4]; exact h0, es', h3, h1', fun e => h4.trans (h2 e)⟩
  have hst0 : s.G d t0 = [] := by rw [hag d t0 (Nat.le_refl d)]; exact hf'
  have hnot : ∀ κ o, get s.G κ = some o → ¬ (κ.1 = d ∧ κ.2.1 = t0) := fun κ o hk ⟨e1, e2⟩ => by
    unfold get at hk
    rw [e1, e2, hst0] at hk
    simp at hk
  have hext2 : Ext d (Mem X (d + 1) s.G R w) s.G R (Mem X d G2 R2 w) G2 R2 := by
    have key : ∀ κ o, κ.1 ≤ d → get s.G κ = some o → get G2 κ = some o ∧ R2 κ = R κ := fun κ o hk hg => by
      have hn := hnot κ o hg
      refine ⟨?_, hR2o κ hn⟩
      show get (fillKey G' d t0 objs) κ = some o
      rw [get_fillKey, if_neg hn, hagk κ hk, hg]
    exact ⟨hmem, fun κ cs hk hg => ⟨⟨cs, (key κ _ hk hg).1⟩, (key κ _ hk hg).2⟩, fun κ n sz hk hg => ⟨n, (key κ _ hk hg).1, Nat.le_refl _, fun _ => (key κ _ hk hg).2⟩, fun κ es hk hg => ⟨by rw [(key κ _ hk hg).2], es, (key κ _ hk hg).1, Nat.le_refl _, fun _ => (key κ _ hk hg).2⟩⟩
  have hinj2 : ∀ κ κ' o o', κ.1 ≤ d → κ'.1 ≤ d → get G2 κ = some o → get G2 κ' = some o' → (R2 κ).b = (R2 κ').b → κ = κ' := fun κ κ' o o' hk hk' hg hg' hb => by
    rcases hG2 κ o hk hg with ⟨c, κs, rfl, ho, hkc, hR, hso⟩ | ⟨hn, h1, hR⟩ <;> rcases hG2 κ' o' hk' hg' with ⟨c', κs', rfl, ho', hkc', hR', hso'⟩ | ⟨hn', h1', hR'⟩
    · rw [hR, hR'] at hb
      obtain ⟨o1, h1, h2, h3⟩ := hsome hso
      obtain ⟨o2, h4, h5, h6⟩ := hsome hso'
      have := hin.sim.inj κs κs' o1 o2 h3 h6 h1 h4 hb
      subst this
      have hcc : c = c' := by
        exact (List.getElem?_inj (List.getElem?_eq_some_iff.1 hkc).1 hnd).1 (hkc.trans hkc'.symm)
      rw [hcc]
    · rw [hR, hR'] at hb
      obtain ⟨o1, h1, h2, h3⟩ := hsome hso
      have := hin.sim.inj κs κ' o1 o' h3 (Nat.le_succ_of_le hk') h1 h1' hb
      subst this
      omega
    · rw [hR, hR'] at hb
      obtain ⟨o2, h4, h5, h6⟩ := hsome hso'
      have := hin.sim.inj κ κs' o o2 (Nat.le_succ_of_le hk) h6 h1 h4 hb
      subst this
      omega
    · rw [hR, hR'] at hb
      exact hin.sim.inj κ κ' o o' (Nat.le_succ_of_le hk) (Nat.le_succ_of_le hk') h1 h1' hb
  have htakes : Takes X (d + 1) s.G R w d t0 objs ks (Mem X d G2 R2 w) G2 R2 := by
    refine ⟨hext2, fun c => ?_, hR2n, fun c κ es n sz hkc hoc hge hn hsz i v hi hcell hone => ⟨hcell, hone, ?_, fun κ' o' hk' hg' hb' => ?_⟩⟩
    · show get (fillKey G' d t0 objs) (d, t0, c) = objs[c]?
      rw [get_fillKey, if_pos ⟨rfl, rfl⟩]
    · obtain ⟨o1, h1, h2, h3⟩ := hsome (hsrc c _ κ hoc hkc)
      exact hin.sim.apart κ o1 h3 h1 i
    · have hgc : get G2 (d, t0, c) = some (.tok n sz) := by
        show get (fillKey G' d t0 objs) (d, t0, c) = _
        rw [get_fillKey, if_pos ⟨rfl, rfl⟩]; exact hoc
      have := hinj2 κ' (d, t0, c) o' _ hk' (Nat.le_refl d) hg' hgc (by rw [hb', hR2n c κ hkc])
      subst this
      rw [hgc] at hg'
      cases hg'
      rw [hR2n c κ hkc]
      exact ⟨n, sz, rfl, by rw [hsz]; exact hi⟩
  have hsim2 : Sim X d G2 R2 w := by
    refine ⟨hinj2, fun κ o hk hg => ?_, hin.sim.off, fun κ o hk hg i hX => ?_, fun b o htb => ⟨(hin.sim.tab b o htb).1, fun κ o' hk hg hbb => ?_⟩⟩
    · rcases hG2 κ o hk hg with ⟨c, κs, rfl, ho, hkc, hR, hso⟩ | ⟨hn, h1, hR⟩
      · cases o with
        | tok n sz =>
          obtain ⟨⟨h1, h1'⟩, h2 | ⟨es, h2, h3, h4⟩⟩ := hso
          · have := hin.sim.obj κs _ h1' h2
            unfold OK at this ⊢
            rw [hR]; exact this
          · obtain ⟨cs, T, h5, h6, h7, _⟩ := hin.sim.obj κs _ h1' h2
            unfold OK
            rw [hR]
            exact ⟨⟨cs, T, h5, by rw [← h3]; exact h6, h7⟩, h4⟩
        | box cs' =>
          obtain ⟨⟨h1, h1'⟩, cs, h2, h3⟩ := hso
          obtain ⟨vs', T, h5, h6, h7⟩ := hin.sim.obj κs _ h1' h2
          unfold OK
          rw [hR]
          refine ⟨vs', T, h5, h6, ?_⟩
          have weak1 : ∀ (g q : GV) (x : Value), weak d g q → VR (Mem X (d + 1) s.G R w) s.G R κs.1 g x → VR (Mem X d G2 R2 w) G2 R2 d q x := fun g q x hw hv => by
            have hv0 := hv
            cases g <;> unfold weak at hw <;> try exact hw.elim
            case p v => subst hw; unfold VR at hv ⊢; exact PR.mono hmem _ _ hv
            case csl es => rcases hw with rfl | rfl <;> unfold VR at hv ⊢ <;> first | exact ⟨PR.mono hmem _ _ hv.1, hv.2⟩ | exact PR.mono hmem _ _ hv.1
            case tsl es κ => rcases hw with rfl | ⟨rfl, hd⟩
                             · unfold VR at hv ⊢; exact PR.mono hmem _ _ hv.1
                             · exact VR.ext hext2 _ _ (okd_VR _ _ (by unfold okd; exact hd) hv0)
            case bp κ off => obtain ⟨rfl, hd⟩ := hw; exact VR.ext hext2 _ _ (okd_VR _ _ (by unfold okd; exact hd) hv0)
            case ep => subst hw; unfold VR at hv ⊢; obtain ⟨b, o, h1, h2⟩ := hv; exact ⟨b, o, h1, PRs.mono hmem _ _ _ h2⟩
            case fn => obtain ⟨rfl, hd⟩ := hw; exact VR.ext hext2 _ _ (okd_VR _ _ (by unfold okd; exact hd) hv0)
          have weakL : ∀ (gs qs : List GV) (xs : List Value), weaks d gs qs → VRs (Mem X (d + 1) s.G R w) s.G R κs.1 gs xs → VRs (Mem X d G2 R2 w) G2 R2 d qs xs := by
            intro gs
            induction gs with
            | nil => intro qs xs hw hv; unfold weaks at hw; subst hw; have := VRs.length hv; cases xs with
              | nil => exact VRs.nil
              | cons x xs => simp at this
            | cons g gs ih =>
              intro qs xs hw hv
              cases qs with
              | nil => exact hw.elim
              | cons q qs => cases xs with
                | nil => unfold VRs at hv; exact hv.elim
                | cons x xs =>
                  unfold weaks at hw
                  unfold VRs at hv
                  exact VRs.cons (weak1 g q x hw.1 hv.1) (ih qs xs hw.2 hv.2)
          exact weakL cs cs' _ h3 h7
        | arr es =>
          obtain ⟨vs', T, h5, h6, h7, h8⟩ := hin.sim.obj κs _ hso.1.2 hso.2
          unfold OK
          rw [hR]
          refine ⟨vs', T, h5, h6, h7, fun i e hi => ⟨(h8 i e hi).1, fun j c hj => ?_⟩⟩
          obtain ⟨v, h9, h10, h11⟩ := (h8 i e hi).2 j c hj
          exact ⟨v, h9, h10, PR.mono hmem _ _ h11⟩
      · exact (hin.sim.obj κ o (Nat.le_succ_of_le hk) h1).ext' (hext2.le hk) hR rfl
    · rcases hG2 κ o hk hg with ⟨c, κs, rfl, ho, hkc, hR, hso⟩ | ⟨hn, h1, hR⟩
      · obtain ⟨o1, h1, h2, h3⟩ := hsome hso
        rw [hR] at hX
        exact hin.sim.apart κs o1 h3 h1 i hX
      · rw [hR] at hX
        exact hin.sim.apart κ o (Nat.le_succ_of_le hk) h1 i hX
    · rcases hG2 κ o' hk hg with ⟨c, κs, rfl, ho, hkc, hR, hso⟩ | ⟨hn, h1, hR⟩
      · obtain ⟨o1, h1, h2, h3⟩ := hsome hso
        rw [hR] at hbb
        exact (hin.sim.tab b o htb).2 κs o1 h3 h1 hbb
      · rw [hR] at hbb
        exact (hin.sim.tab b o htb).2 κ o' (Nat.le_succ_of_le hk) h1 hbb
  have hcome : ∀ κ o, κ.1 ≤ d + 1 → get s.G κ = some o → (R κ).b < w0.heap.size → ∃ κ' o', κ'.1 ≤ d ∧ get G0 κ' = some o' ∧ (R0 κ').b = (R κ).b := fun κ o hk hg hlt => by
    obtain ⟨κ', o', h1, h2, h3⟩ := hin.base.fr.come κ o hk hg hlt
    rw [get_cut] at h2
    split at h2
    · exact ⟨κ', o', by assumption, h2, h3⟩
    · cases h2
  refine ⟨v, R2, hrv, ⟨hsim2, hext, ⟨hin.base.fr.size, fun b hb hn => hin.base.fr.keep b hb fun κ o hk hg => ?_, fun κ o hk hg hlt => ?_, hin.base.fr.env⟩⟩, hfin objs ks _ G2 R2 (fun _ _ h => h) (fun _ _ h => h) htakes⟩
  · rw [get_cut] at hg
    split at hg
    · exact hn κ o (by assumption) hg
    · cases hg
  · rcases hG2 κ o hk hg with ⟨c, κs, rfl, ho, hkc, hR, hso⟩ | ⟨hn, h1, hR⟩
    · obtain ⟨o1, h1, h2, h3⟩ := hsome hso
      rw [hR] at hlt ⊢
      exact hcome κs o1 h3 h1 hlt
    · rw [hR] at hlt ⊢
      exact hcome κ o (Nat.le_succ_of_le hk) h1 hlt
theorem initF_VR {M : Nat → Nat → Value → Prop} {G : Heap} {R : RMap} {d n : Nat} : ∀ {args : List GV} {vals : List Value}, VRs M G R d args vals → ∀ t, VR M G R d (initF args t) ((vals.toArray ++ Array.replicate n undef).getD t undef) := fun {args vals} h t => by
  unfold initF
  rw [Array.getD_eq_getD_getElem?, List.getD]
  cases ha : args[t]? with
  | none => rw [Option.getD_none]; unfold VR; trivial
  | some g =>
    obtain ⟨v, hv1, hv2⟩ := VRs.get h ha
    have hlt := (List.getElem?_eq_some_iff.1 hv1).1
    rw [Array.getElem?_append_left (by simpa using hlt)]
    have : vals.toArray[t]? = some v := by simpa using hv1
    rw [this]; exact hv2
theorem known_EvN {TB : Nat → Option Obj} {Z : CR} (hZ : Known P TB Z) (hmix : P.follows .mixedOrders = true) : ∀ n, Known P TB (EvN P Z n)
  | 0 => hZ
  | n + 1 => by
    intro d f args G0 r G' h
    unfold EvN at h
    rcases h with h | ⟨fn, c, A, hfn, hc, hlen, hok, hname, hg⟩
    · exact hZ d f args G0 r G' h
    · intro X R0 w0 vals hX hs0 hvals t0 hf hf'
      refine .inl ⟨⟨fn, hfn, by rw [hc]; rfl, hname⟩, ?_⟩
      have hvl := VRs.length hvals
      refine calls_of_wp hfn hc ?_
      have hin : In X (d + 1) fn.ntmps (Base X d G0 R0 w0) ⟨initF args, cut d G0⟩ { tmps := vals.toArray ++ Array.replicate (fn.ntmps - vals.toArray.size) undef, defers := [] } w0 R0 := by
        obtain ⟨h1, h2⟩ := hs0.cut
        refine ⟨h1, fun t => initF_VR (n := fn.ntmps - vals.toArray.size) (VRs.deeper (Nat.le_succ d) _ _ (VRs.ext h2 _ _ hvals)) t, ?_, rfl, Base.start hs0⟩
        simp; omega
      refine gwp_sound (known_EvN hZ hmix n) hX hmix Base.step (fun ts G R w hb => hb.clean) c hok _ _ (fun e s a w R hq hin' => ?_) _ _ _ _ hin hg
      cases e with
      | exit id => exact hq.elim
      | normal =>
        obtain ⟨v, R2, hr, hst, hv⟩ := finish hs0 hf hin' hf' hq
        exact ⟨hin'.df, v, hr, v, rfl, R2, hst, hv⟩
      | ret =>
        obtain ⟨v, R2, hr, hst, hv⟩ := finish hs0 hf hin' hf' hq
        exact ⟨hin'.df, v, hr, v, rfl, R2, hst, hv⟩
end
end Go.Eng
end
