import Derived.Test.YtnahfkmdojbpkaaEJ
/-! The engine, part K: an operation whole. -/
set_option linter.all false
namespace Go.Eng
section
variable {X : XS} {P : Program} {G : Heap} {R : RMap} {d : Nat} {w : World}
theorem wp_val {o : Oper} {a : Act} {next : Act → World → Prop} {Q : Exit → Act → World → Prop} {rv : Value} {w' : World} (hr : (execOp a.eval o).run P w = .ok (.value rv) w') (h : next (a.put o.dst rv) w') : o.wp P a w next Q := by
  unfold Oper.wp
  rw [hr]
  exact h
theorem wp_skp {o : Oper} {a : Act} {next : Act → World → Prop} {Q : Exit → Act → World → Prop} {w' : World} (hr : (execOp a.eval o).run P w = .ok .skip w') (h : next (a.put o.dst undef) w') : o.wp P a w next Q := by
  unfold Oper.wp
  rw [hr]
  exact h
theorem run_v {s : Sem Value} {rv : Value} {w' : World} (h : s.run P w = .ok rv w') : (do pure (Next.value (← s)) : Sem Next).run P w = .ok (.value rv) w' := by
  rw [Sem.run_bind, h]; rfl
theorem run_u {s : Sem Unit} {w' : World} (h : s.run P w = .ok () w') : (do s; pure Next.skip : Sem Next).run P w = .ok .skip w' := by
  rw [Sem.run_bind, h]; rfl
theorem map_rel {M : Nat → Nat → Value → Prop} {F : Nat → GV} {a : Act} (hF : ∀ t, VR M G R d (F t) (a.tmps.getD t undef)) : ∀ (l : List Operand), VRs M G R d (l.map (ge F)) (l.map a.eval)
  | [] => VRs.nil
  | x :: l => VRs.cons (ge_sound hF x) (map_rel hF l)
mutual
theorem wkR_VR {M : Nat → Nat → Value → Prop} : ∀ (g : GV) {r : GV} {x : Value}, wkR g r → VR M G R d g x → VR M G R d r x
  | .csl es, r, x, h, hv => by
    unfold wkR at h
    rcases h with rfl | rfl
    · exact hv
    · exact VR.p_iff.2 hv.csl_sl
  | .tsl es κ, r, x, h, hv => by
    unfold wkR at h
    rcases h with rfl | rfl
    · exact VR.p_iff.2 hv.tsl_sl
    · exact hv
  | .agg gs, r, x, h, hv => by
    unfold wkR at h
    obtain ⟨rs, rfl, h⟩ := h
    unfold VR at hv ⊢
    obtain ⟨vs, h1, h2, h3⟩ := hv
    exact ⟨vs, h1, h2, wkRs_VRs gs h h3⟩
  | .undef, r, x, h, hv => by unfold wkR at h; rw [h]; exact hv
  | .p _, r, x, h, hv => by unfold wkR at h; rw [h]; exact hv
  | .own _ _, r, x, h, hv => by unfold wkR at h; rw [h]; exact hv
  | .obx _, r, x, h, hv => by unfold wkR at h; rw [h]; exact hv
  | .bp _ _, r, x, h, hv => by unfold wkR at h; rw [h]; exact hv
  | .ep _ _, r, x, h, hv => by unfold wkR at h; rw [h]; exact hv
  | .arr _ _ _, r, x, h, hv => by unfold wkR at h; rw [h]; exact hv
  | .oar _ _, r, x, h, hv => by unfold wkR at h; rw [h]; exact hv
  | .ap _ _ _ _, r, x, h, hv => by unfold wkR at h; rw [h]; exact hv
  | .fn _ _, r, x, h, hv => by unfold wkR at h; rw [h]; exact hv
  | .tup _, r, x, h, hv => by unfold wkR at h; rw [h]; exact hv
theorem wkRs_VRs {M : Nat → Nat → Value → Prop} : ∀ (gs : List GV) {rs : List GV} {vs : List Value}, wkRs gs rs → VRs M G R d gs vs → VRs M G R d rs vs
  | [], rs, vs, h, hv => by unfold wkRs at h; rw [h]; exact hv
  | g :: gs, rs, [], h, hv => by unfold VRs at hv; exact hv.elim
  | g :: gs, rs, v :: vs, h, hv => by
    unfold wkRs at h
    obtain ⟨r, rs', rfl, h1, h2⟩ := h
    unfold VRs at hv
    exact VRs.cons (wkR_VR g h1 hv.1) (wkRs_VRs gs h2 hv.2)
end
theorem gcall_sound {TB : Nat → Option Obj} {C : CR} (hC : Known P TB C) (hX : Tabs TB X) {A : Ann} (hs : Sim X d G R w) {g : GV} {x : Value} {args : List GV} {vals : List Value} {dst : Option Nat} {K : GV → Dl → Prop} (hx : VR (Mem X d G R w) G R d g x) (hv : VRs (Mem X d G R w) G R d args vals)
    (h : gCall C A d G g args dst K) {c : Call} {ty : TypeId} {f0 : Operand} {ρ : Operand → Value} (hcal : c.callee = .value f0) (hf0 : ρ f0 = x) (hargs : c.args.toList.map ρ = vals) :
    (∃ n us, (do let d ← resolve ρ c ty; invoke d.target d.args : Sem Next).run P w = .ok (.enter n us) w ∧
      Calls P n us w (fun e w' => ∃ v δ rv R', e = .returned rv ∧ K v δ ∧ Step X d G R w (appD G d dst δ) R' w' ∧ VR (Mem X d (appD G d dst δ) R' w') (appD G d dst δ) R' d v rv)) ∨
    ∃ rv w', (do let d ← resolve ρ c ty; invoke d.target d.args : Sem Next).run P w = .ok (.value rv) w' ∧ ∃ v δ R', K v δ ∧ Step X d G R w (appD G d dst δ) R' w' ∧ VR (Mem X d (appD G d dst δ) R' w') (appD G d dst δ) R' d v rv := by
  unfold gCall at h
  split at h
  case h_2 => exact h.elim
  rename_i n caps
  unfold VR at hx
  obtain ⟨cs, rfl, hcs⟩ := hx
  have hargs' : c.args.map ρ = vals.toArray := by
    apply Array.ext'
    rw [Array.toList_map, hargs]
  have hpre : (do let d ← resolve ρ c ty; invoke d.target d.args : Sem Next).run P w = (callFunc n (vals ++ cs).toArray).run P w := by
    simp [resolve, hcal, hf0, hargs', Deferred.ofValue, invoke]
  have hrun : FnOK P n → (do let d ← resolve ρ c ty; invoke d.target d.args : Sem Next).run P w = .ok (.enter n (vals ++ cs).toArray) w := by
    rintro ⟨fn, h1, h2, h3⟩
    rw [hpre]
    have h1' : (P.funcs[n]? : Option Func) = some fn := h1
    simp [callFunc, h1']
    simp at h3
    simp [h3]
    intro e
    rw [e] at h2; cases h2
  have main : ∀ {T : Value → World → Prop}, Runs P n (vals ++ cs).toArray w T → (∀ rv w', T rv w' → ∃ v δ R', K v δ ∧ Step X d G R w (appD G d dst δ) R' w' ∧ VR (Mem X d (appD G d dst δ) R' w') (appD G d dst δ) R' d v rv) →
      (∃ n us, (do let d ← resolve ρ c ty; invoke d.target d.args : Sem Next).run P w = .ok (.enter n us) w ∧
        Calls P n us w (fun e w' => ∃ v δ rv R', e = .returned rv ∧ K v δ ∧ Step X d G R w (appD G d dst δ) R' w' ∧ VR (Mem X d (appD G d dst δ) R' w') (appD G d dst δ) R' d v rv)) ∨
      ∃ rv w', (do let d ← resolve ρ c ty; invoke d.target d.args : Sem Next).run P w = .ok (.value rv) w' ∧ ∃ v δ R', K v δ ∧ Step X d G R w (appD G d dst δ) R' w' ∧ VR (Mem X d (appD G d dst δ) R' w') (appD G d dst δ) R' d v rv := by
    intro T hT ht
    rcases hT with ⟨h1, h2⟩ | ⟨v, w', h1, h2⟩
    · refine .inl ⟨n, _, hrun h1, h2.mono fun e w' => ?_⟩
      rintro ⟨rv, rfl, hrv⟩
      obtain ⟨v, δ, R', h3⟩ := ht rv w' hrv
      exact ⟨v, δ, rv, R', rfl, h3⟩
    · exact .inr ⟨v, w', by rw [hpre]; exact h1, ht v w' h2⟩
  split at h
  · obtain ⟨as, hw, hcl, r, hcall, hsc, hK⟩ := h
    have hall := wkBs_VRs hs _ hw hcl (VRs.app hv hcs)
    refine main (hC _ _ _ _ _ _ hcall X R w _ hX hs.look hall 0 rfl rfl) fun rv w' => ?_
    rintro ⟨R', hst, hvr⟩
    rw [scal_adopt _ _ hsc] at hvr
    exact ⟨_, _, R, hK, Step.grow hs hst.bare_grows, scal_VR _ _ hsc hvr⟩
  obtain ⟨as, hw, h⟩ := h
  have hall := wkRs_VRs _ hw (VRs.app hv hcs)
  split at h
  · obtain ⟨r, G', hcall, ⟨_, hfree, hfree', hK⟩ | ⟨t0, ht, ht', ha, _, hK⟩⟩ := h
    case inr =>
      refine main (hC _ _ _ _ _ _ hcall X R w _ hX hs hall t0 ht ht') fun rv w' => ?_
      rintro ⟨R', hst, hvr⟩
      have e : fillKey G' d t0 [] = G' := by
        funext k j
        unfold fillKey
        split
        · rename_i e; rw [e.1, e.2, ht']
        · rfl
      rw [ha, e] at hst
      rw [ha, e] at hvr
      exact ⟨_, _, R', hK, hst, hvr⟩
    cases dst with
    | none => exact hfree.elim
    | some t0 =>
      unfold free at hfree hfree'
      refine main (hC _ _ _ _ _ _ hcall X R w _ hX hs hall t0 hfree hfree') fun rv w' => ?_
      rintro ⟨R', hst, hvr⟩
      exact ⟨_, _, R', hK, hst, hvr⟩
  · obtain ⟨hclosed, r, hcall, h⟩ := h
    split at h
    · refine main (hC _ _ _ _ _ _ hcall (Xc X d G R w) R w _ hX hs.bare (closed_VRs (fun _ _ _ hm => hm.bare) _ _ hclosed hall) 0 rfl rfl) fun rv w' => ?_
      rintro ⟨R', hst, hvr⟩
      exact ⟨_, _, R, h, Step.grow hs hst.bare_grows, frz_VR hs hst r [] rv (fun i o hi => hi) hvr⟩
    obtain ⟨hfree, hK⟩ := h
    cases dst with
    | none => exact hfree.elim
    | some t0 =>
      unfold free at hfree
      refine main (hC _ _ _ _ _ _ hcall (Xc X d G R w) R w _ hX hs.bare (closed_VRs (fun _ _ _ hm => hm.bare) _ _ hclosed hall) t0 rfl rfl) fun rv w' => ?_
      rintro ⟨R', hst, hvr⟩
      obtain ⟨R2, h1, h2⟩ := embed hs hfree hst hvr
      exact ⟨_, _, R2, hK, h1, h2⟩

theorem opt_rel {M : Nat → Nat → Value → Prop} {F : Nat → GV} {a : Act} (hF : ∀ t, VR M G R d (F t) (a.tmps.getD t undef)) (o : Option Operand) : OR M G R d (o.map (ge F)) (o.map a.eval) := by
  cases o with
  | none => trivial
  | some x => exact ge_sound hF x
theorem gop_sound {TB : Nat → Option Obj} {C : CR} (hC : Known P TB C) (hX : Tabs TB X) {A : Ann} (hs : Sim X d G R w) {F : Nat → GV} {a : Act} (hF : ∀ t, VR (Mem X d G R w) G R d (F t) (a.tmps.getD t undef)) {o : Oper} {K : GV → Dl → Prop} (h : gop P C A d o F G K)
    {next : Act → World → Prop} {Q : Exit → Act → World → Prop}
    (cont : ∀ v δ rv w' R', K v δ → Step X d G R w (appD G d o.dst δ) R' w' → VR (Mem X d (appD G d o.dst δ) R' w') (appD G d o.dst δ) R' d v rv → next (a.put o.dst rv) w') : o.wp P a w next Q := by
  have same : ∀ {v rv}, K v .nop → VR (Mem X d G R w) G R d v rv → (execOp a.eval o).run P w = .ok (.value rv) w → o.wp P a w next Q := fun hK hv hr =>
    wp_val hr (cont _ _ _ _ R hK (Step.refl hs) hv)
  obtain ⟨dst, op, ty, pos, after, guard⟩ := o
  have bld : ∀ (ps : Array (Nat × Operand)) (i : Nat) (p : Nat × GV) (q : Nat × Value), (ps.toList.map fun q => (q.1, ge F q.2))[i]? = some p → (ps.map fun (i, x) => (i, a.eval x))[i]? = some q → p.1 = q.1 ∧ VR (Mem X d G R w) G R d p.2 q.2 := by
    intro ps i p q h1 h2
    rw [List.getElem?_map] at h1
    rw [Array.getElem?_map] at h2
    cases hq : ps[i]? with
    | none => rw [hq] at h2; cases h2
    | some y =>
      rw [hq] at h2
      rw [Array.getElem?_toList, hq] at h1
      cases h1
      cases h2
      exact ⟨rfl, ge_sound hF _⟩
  cases op <;> unfold gop at h <;> dsimp only at h <;> try exact h.elim
  case move x => exact same h (ge_sound hF x) rfl
  case assign x =>
    have hx := ge_sound hF x
    have hw : VR (Mem X d G R w) G R d (wkA (dstIn A.pureAt dst) (ge F x)) (a.eval x) := by
      revert hx
      generalize ge F x = g
      intro hx
      cases dstIn A.pureAt dst with
      | false => unfold wkA; exact hx
      | true =>
        cases g <;> first | exact hx | exact VR.p_iff.2 hx.csl_sl | exact VR.p_iff.2 hx.tsl_sl
    exact same h hw rfl
  case pick c x y =>
    have hc := ge_sound hF c
    split at h
    case h_2 => exact h.elim
    rename_i t ht
    rw [ht] at hc
    have hc' := VR.p_iff.1 hc
    unfold PR at hc'
    cases t with
    | true => exact same (h.1 rfl) (ge_sound hF x) (by simp [execOp, hc', asBool])
    | false => exact same (h.2 rfl) (ge_sound hF y) (by simp [execOp, hc', asBool])
  case alloc t =>
    split at h
    case h_2 => exact h.elim
    rename_i zs hz
    obtain ⟨hf, hK⟩ := h
    cases dst with
    | none => exact hf.elim
    | some t0 =>
      unfold free at hf
      obtain ⟨i, z, h1, h2, h3, h4⟩ := zc_spec hz
      obtain ⟨R', hst, hv⟩ := newBox hs hf (gs := zs.map cv1) (vs := zs) t (by
        have := VRs.map (M := Mem X d G R w) (G := G) (R := R) (d := d) cv1 id zs (fun v _ => VR.cv1 v)
        rwa [List.map_id] at this) h4
      have hzc : z.cells = zs.toArray := by apply Array.ext'; simpa using h3
      refine wp_val (rv := .pointer (some ⟨w.heap.size, 0, none⟩)) (w' := w.alloc (.cells zs.toArray t)) ?_ (cont _ _ _ _ R' hK (by simpa [appD, fillD] using hst) (by simpa [appD, fillD] using hv))
      simp [execOp, Instr.alloc, zeroValue, typeInfo, h1, h2, newVar, newRow, hzc]
  case box t x =>
    split at h
    case h_2 => exact h.elim
    rename_i cs hcs
    by_cases hfz : dstIn A.frzAt dst = true
    · rw [if_pos hfz] at h
      split at h
      case h_2 => exact h.elim
      rename_i ps hps
      obtain ⟨vs, h1, h2, h3, _⟩ := (ge_sound hF x).cells hcs
      obtain ⟨h4, h5⟩ := purs_get hps h3
      have hg := Grows.alloc w (.cells vs.toArray t)
      refine wp_val (rv := .pointer (some ⟨w.heap.size, 0, none⟩)) (w' := w.alloc (.cells vs.toArray t)) ?_ (cont _ .nop _ _ R h (Step.grow hs hg) ?_)
      · simp [execOp, Instr.box, newVar, newRow, h1]
      · show VR (Mem X d G R (w.alloc (.cells vs.toArray t))) G R d (.ep ps 0) _
        unfold VR
        refine ⟨w.heap.size, 0, by simp, PRs.of_get fun i c hi => ?_⟩
        obtain ⟨v, h6, h7⟩ := h5 i c hi
        refine ⟨v, ?_, PR.mono (Ext.grow (d := d) (G := G) (R := R) (X := X) hg).mem _ _ h7⟩
        rw [Nat.zero_add]
        exact Mem.new hs (by simpa using h6) (h2 v (List.mem_of_getElem? h6))
    rw [if_neg hfz] at h
    obtain ⟨hf, hK⟩ := h
    cases dst with
    | none => exact hf.elim
    | some t0 =>
      unfold free at hf
      obtain ⟨vs, h1, h2, h3, _⟩ := (ge_sound hF x).cells hcs
      obtain ⟨R', hst, hv⟩ := newBox hs hf t h3 h2
      refine wp_val (rv := .pointer (some ⟨w.heap.size, 0, none⟩)) (w' := w.alloc (.cells vs.toArray t)) ?_ (cont _ _ _ _ R' hK (by simpa [appD, fillD] using hst) (by simpa [appD, fillD] using hv))
      simp [execOp, Instr.box, newVar, newRow, h1]
  case build t ps =>
    obtain ⟨v, rv, hK, hr, hv⟩ := build_sound (parts := ps.toList.map fun q => (q.1, ge F q.2)) (vals := ps.map fun (i, x) => (i, a.eval x)) (by simp) (bld ps) h
    exact same hK hv (run_v hr)
  case buildSlice t n ps =>
    obtain ⟨v, δ, rv, w', R', hK, hr, hst, hv⟩ := buildSlice_sound hs (parts := ps.toList.map fun q => (q.1, ge F q.2)) (vals := ps.map fun (i, x) => (i, a.eval x)) (by simp) (bld ps) h
    exact wp_val (run_v hr) (cont _ _ _ _ R' hK hst hv)
  case load t x =>
    replace h := h.2.2
    obtain ⟨v, rv, hK, hr, hv⟩ := load_sound hs (ge_sound hF x) h
    exact same hK hv (run_v hr)
  case store t x y =>
    replace h := h.2
    obtain ⟨κ, o', w', hK, hr, hst⟩ := store_sound hs (ge_sound hF x) (ge_sound hF y) h
    exact wp_skp (run_u hr) (cont _ _ undef _ R hK hst (by unfold VR; trivial))
  case nilCheck x =>
    have hx := ge_sound hF x
    split at h
    case h_6 => exact h.elim
    all_goals
      rename_i hg
      rw [hg] at hx
      refine same h hx ?_
      unfold VR at hx
      first
        | (unfold PR at hx; obtain ⟨b, o, e, _⟩ := hx; simp [execOp, e]; done)
        | (obtain ⟨_, _, _, _, _, b, o, e, _⟩ := hx; simp [execOp, e]; done)
        | (obtain ⟨_, _, e⟩ := hx; simp [execOp, e]; done)
        | (obtain ⟨b, o, e, _⟩ := hx; simp [execOp, e]; done)
        | (obtain ⟨vs, e, _⟩ := hx; simp [execOp, e]; done)
  case binOp op t x y ty' =>
    obtain ⟨v, rv, hK, hr, hv⟩ := bin_sound (ox := x) (oy := y) (ge_sound hF x) (ge_sound hF y) h
    exact same hK hv (run_v hr)
  case unOp op t x =>
    obtain ⟨v, rv, hK, hr, hv⟩ := un_sound (ge_sound hF x) h
    exact same hK hv (run_v hr)
  case convert s t x =>
    obtain ⟨v, rv, hK, hr, hv⟩ := conv_sound (ge_sound hF x) h
    exact same hK hv (run_v hr)
  case makeFunc f first caps =>
    cases f <;> dsimp only at h <;> try exact h.elim
    rename_i f
    obtain ⟨h0, hK⟩ := h
    have hfirst : first = #[] := Array.eq_empty_of_size_eq_zero h0
    subst hfirst
    refine same (rv := .func (.func f) #[] (caps.map a.eval)) hK ?_ (run_v (by simp [Instr.makeFunc]))
    unfold VR
    exact ⟨caps.toList.map a.eval, by congr 1; apply Array.ext'; simp, map_rel hF caps.toList⟩
  case slice t x lo hi mx =>
    obtain ⟨v, rv, hK, hr, hv⟩ := slice_sound (ge_sound hF x) (opt_rel hF lo) (opt_rel hF hi) (opt_rel hF mx) h
    exact same hK hv (run_v hr)
  case fieldAddr t x k =>
    obtain ⟨v, rv, hK, hr, hv⟩ := fieldAddr_sound (ge_sound hF x) h
    exact same hK hv (run_v hr)
  case field t x k =>
    obtain ⟨v, rv, hK, hr, hv⟩ := field_sound (ge_sound hF x) h
    exact same hK hv (run_v hr)
  case indexAddr t x i =>
    obtain ⟨v, rv, hK, hr, hv⟩ := indexAddr_sound (ge_sound hF x) (ge_sound hF i) h
    exact same hK hv (run_v hr)
  case index t x i =>
    obtain ⟨v, rv, hK, hr, hv⟩ := index_sound (ge_sound hF x) (ge_sound hF i) h
    exact same hK hv (run_v hr)
  case extract x k =>
    have hx := ge_sound hF x
    split at h
    case h_2 => exact h.elim
    rename_i vs hg
    rw [hg] at hx
    split at h
    case h_2 => exact h.elim
    rename_i v hv
    unfold VR at hx
    obtain ⟨us, e, hus⟩ := hx
    obtain ⟨u, h1, h2⟩ := VRs.get hus hv
    have h1' : us.toArray[k]? = some u := by simpa using h1
    exact same h h2 (by simp only [execOp, e, Instr.extract, h1']; rfl)
  case call c =>
    split at h
    case h_3 => exact h.elim
    · rename_i f0 hcal
      rcases gcall_sound hC hX hs (ge_sound hF f0) (map_rel hF c.args.toList) h (ty := ty) hcal rfl rfl with ⟨n, us, hr, hcalls⟩ | ⟨rv, w', hr, v, δ, R', hK, hst, hv⟩
      · unfold Oper.wp
        have hr' : (execOp a.eval ⟨dst, .call c, ty, pos, after, guard⟩).run P w = .ok (.enter n us) w := hr
        rw [hr']
        refine hcalls.mono fun e w' => ?_
        rintro ⟨v, δ, rv, R', rfl, hK, hst, hv⟩
        exact cont v δ rv w' R' hK hst hv
      · exact wp_val hr (cont v δ rv w' R' hK hst hv)
    · rename_i b hcal
      have hres : ∀ {rv w'}, (builtin b c.argTypes ty (c.args.map fun | .const _ => true | _ => false) (c.args.map a.eval)).run P w = .ok (.value rv) w' →
          (execOp a.eval ⟨dst, .call c, ty, pos, after, guard⟩).run P w = .ok (.value rv) w' := fun hr => by
        simp only [execOp, resolve, hcal, Sem.run_bind, Sem.run_pure, Result.andThen_ok, invoke]
        exact hr
      have hat : ∀ {l : List TypeId}, c.argTypes.toList = l → c.argTypes = l.toArray := fun e => by apply Array.ext'; simpa using e
      have hav : ∀ {l : List Operand}, c.args.toList = l → c.args.map a.eval = (l.map a.eval).toArray := fun e => by apply Array.ext'; simp [e]
      unfold gBuiltin at h
      split at h
      case h_5 => exact h.elim
      · rename_i t g hts hxs
        cases hl : c.args.toList with
        | nil => rw [hl] at hxs; cases hxs
        | cons x l => cases l with
          | cons y l => rw [hl] at hxs; simp at hxs
          | nil =>
            rw [hl] at hxs
            simp only [List.map_cons, List.map_nil, List.cons.injEq, and_true] at hxs
            subst hxs
            obtain ⟨v, rv, hK, hr, hv⟩ := len_sound (ty := ty) (ge_sound hF x) h
            refine same hK hv (hres ?_)
            rw [hav hl, hat hts]
            exact run_v hr
      · rename_i t tx s x hts hxs
        replace h := h.2
        cases hl : c.args.toList with
        | nil => rw [hl] at hxs; cases hxs
        | cons y l => cases l with
          | nil => rw [hl] at hxs; simp at hxs
          | cons z l => cases l with
            | cons q l => rw [hl] at hxs; simp at hxs
            | nil =>
              rw [hl] at hxs
              simp only [List.map_cons, List.map_nil, List.cons.injEq, and_true] at hxs
              obtain ⟨rfl, rfl⟩ := hxs
              obtain ⟨v, δ, rv, w', R', hK, hr, hst, hv⟩ := append_sound hs (ty := ty) (ge_sound hF y) (ge_sound hF z) h
              refine wp_val (hres ?_) (cont _ _ _ _ R' hK hst hv)
              rw [hav hl, hat hts]
              exact run_v hr
      · split at h
        case h_2 => exact h.elim
        rename_i v hv
        obtain ⟨rv, hr, hvr⟩ := min_sound (k := true) (map_rel hF c.args.toList) hv c.argTypes ty
        refine same h hvr (hres ?_)
        rw [hav rfl]
        exact run_v hr
      · split at h
        case h_2 => exact h.elim
        rename_i v hv
        obtain ⟨rv, hr, hvr⟩ := min_sound (k := false) (map_rel hF c.args.toList) hv c.argTypes ty
        refine same h hvr (hres ?_)
        rw [hav rfl]
        exact run_v hr
end
end Go.Eng
