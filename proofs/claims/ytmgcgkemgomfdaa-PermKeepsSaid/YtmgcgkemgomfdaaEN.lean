import Derived.Test.YtmgcgkemgomfdaaEM
/-! The engine, part N: a region, whatever its order. -/
set_option linter.all false
namespace Go.Eng
section
variable {P : Program} {C : CR} {A : Ann} {d : Nat} {G G' : Heap}
theorem gop_congrF {o : Oper} {F F' : Nat → GV} {K : GV → Dl → Prop} (he : ∀ x ∈ o.op.operands, ge F' x = ge F x) (h : gop P C A d o F G K) : gop P C A d o F' G K := by
  obtain ⟨dst, op, ty, pos, after, guard⟩ := o
  have pairs : ∀ ps : Array (Nat × Operand), (∀ x ∈ (ps.toList.map (·.2)).toArray, ge F' x = ge F x) → (ps.toList.map fun q => (q.1, ge F' q.2)) = ps.toList.map fun q => (q.1, ge F q.2) := fun ps hp =>
    List.map_congr_left fun p hm => by rw [hp p.2 (by simp only [List.mem_toArray, List.mem_map]; exact ⟨p, hm, rfl⟩)]
  have opt : ∀ o : Option Operand, (∀ x ∈ o.toArray, ge F' x = ge F x) → o.map (ge F') = o.map (ge F) := fun o ho => by
    cases o with
    | none => rfl
    | some x => simp only [Option.map_some]; rw [ho x (by simp)]
  unfold gop at h ⊢
  cases op <;> simp only [Op.operands] at he <;> dsimp only at h ⊢ <;> try exact h
  case makeFunc f first caps =>
    cases f <;> dsimp only at h ⊢ <;> try exact h
    have e : caps.toList.map (ge F') = caps.toList.map (ge F) := List.map_congr_left fun x hx => he x (Array.mem_append.2 (.inr (Array.mem_toList_iff.1 hx)))
    rw [e]; exact h
  case build t ps => rw [pairs ps he]; exact h
  case buildSlice t n ps => rw [pairs ps he]; exact h
  case slice t x lo hi mx =>
    rw [he x (by simp), opt lo (fun y hy => he y (by simp only [Array.mem_append]; simp [hy])), opt hi (fun y hy => he y (by simp only [Array.mem_append]; simp [hy])), opt mx (fun y hy => he y (by simp only [Array.mem_append]; simp [hy]))]
    exact h
  case call c =>
    have e : c.args.toList.map (ge F') = c.args.toList.map (ge F) := List.map_congr_left fun x hx => he x (by unfold Call.operands; exact Array.mem_append.2 (.inr (Array.mem_toList_iff.1 hx)))
    rw [e]
    split at h
    · rename_i f hc
      rw [he f (by simp [Call.operands, hc])]; exact h
    · exact h
    · exact h.elim
  case pick c x y => rw [he c (by simp), he x (by simp), he y (by simp)]; exact h
  case store t x y => rw [he x (by simp), he y (by simp)]; exact h
  case binOp op t x y ty' => rw [he x (by simp), he y (by simp)]; exact h
  case indexAddr t x y => rw [he x (by simp), he y (by simp)]; exact h
  case index t x y => rw [he x (by simp), he y (by simp)]; exact h
  all_goals (rw [he _ (by simp)]; exact h)
theorem tgt_congr {o : Oper} {F F' : Nat → GV} (he : ∀ x ∈ o.op.operands, ge F' x = ge F x) : tgt A o F' = tgt A o F := by
  obtain ⟨dst, op, ty, pos, after, guard⟩ := o
  unfold tgt
  cases op <;> simp only [Op.operands] at he <;> dsimp only
  case load t a => rw [he a (by simp)]
  case store t a v => rw [he a (by simp)]
  case call c =>
    have e : c.args.toList.map (ge F') = c.args.toList.map (ge F) := List.map_congr_left fun x hx => he x (by unfold Call.operands; exact Array.mem_append.2 (.inr (Array.mem_toList_iff.1 hx)))
    rw [e]
    split
    · rfl
    · rename_i f hc
      rw [he f (by simp [Call.operands, hc])]
    · rfl

/-- One operation with its guard, the outcome alone. -/
def gop1v (P : Program) (C : CR) (A : Ann) (d : Nat) (all : Array Oper) (o : Oper) (F : Nat → GV) (G : Heap) (K : GV → Dl → Prop) : Prop :=
  match o.guard with
  | none => gop P C A d o F G K
  | some (j, want) => match (all[j]?).bind (·.dst) with
    | some t => match F t with
      | .p (.bool b) => (b = want → gop P C A d o F G K) ∧ (b = (!want) → K (.tup []) .nop)
      | .tup [] => K (.tup []) .nop
      | _ => False
    | none => False
theorem gop1_eq {all : Array Oper} {o : Oper} {K : St → Prop} {s : St} : gop1 P C A d all o K s ↔ gop1v P C A d all o s.F s.G (fun v δ => K ⟨put s.F o.dst v, appD s.G d o.dst δ⟩) := by
  unfold gop1 gop1v
  cases o.guard with
  | none => rfl
  | some g =>
    obtain ⟨j, want⟩ := g
    rfl
theorem cps_gop1v {all : Array Oper} {o : Oper} {F : Nat → GV} {K : GV → Dl → Prop} (h : gop1v P C A d all o F G K) : ∃ v δ, gop1v P C A d all o F G (fun v' δ' => v' = v ∧ δ' = δ) ∧ K v δ := by
  unfold gop1v at h ⊢
  cases hgd : o.guard with
  | none => rw [hgd] at h; exact cps_gop h
  | some g =>
    obtain ⟨j, want⟩ := g
    rw [hgd] at h
    dsimp only at h ⊢
    cases ht : (all[j]?).bind (·.dst) with
    | none => rw [ht] at h; exact h.elim
    | some t =>
    rw [ht] at h
    dsimp only at h ⊢
    split at h
    case h_3 => exact h.elim
    case h_2 => exact ⟨_, _, ⟨rfl, rfl⟩, h⟩
    rename_i b hb
    by_cases e : b = want
    · obtain ⟨v, δ, h1, h2⟩ := cps_gop (h.1 e)
      exact ⟨v, δ, ⟨fun _ => h1, fun e' => absurd (e.symm.trans e') (by cases want <;> simp)⟩, h2⟩
    · have e' : b = !want := by cases b <;> cases want <;> simp_all
      exact ⟨_, _, ⟨fun e2 => absurd e2 e, fun _ => ⟨rfl, rfl⟩⟩, h.2 e'⟩
theorem mono_gop1v {all : Array Oper} {o : Oper} {F : Nat → GV} {K K' : GV → Dl → Prop} (hk : ∀ v δ, K v δ → K' v δ) (h : gop1v P C A d all o F G K) : gop1v P C A d all o F G K' := by
  unfold gop1v at h ⊢
  split at h
  · exact mono_gop hk h
  · split at h
    case h_2 => exact h.elim
    split at h
    case h_3 => exact h.elim
    case h_2 => exact hk _ _ h
    exact ⟨fun e => mono_gop hk (h.1 e), fun e => hk _ _ (h.2 e)⟩
theorem gop1v_shape {all : Array Oper} {o : Oper} {F : Nat → GV} {K : GV → Dl → Prop} (ho : dstIn A.openAt o.dst = false) (h : gop1v P C A d all o F G K) : gop1v P C A d all o F G (fun v δ => K v δ ∧ Shape A d G (tgt A o F) o δ) := by
  unfold gop1v at h ⊢
  split at h
  · exact gop_shape ho h
  · split at h
    case h_2 => exact h.elim
    split at h
    case h_3 => exact h.elim
    case h_2 => exact ⟨h, trivial⟩
    exact ⟨fun e => gop_shape ho (h.1 e), fun e => ⟨h.2 e, trivial⟩⟩
theorem gop1v_congr {all : Array Oper} {o : Oper} {F F' : Nat → GV} {K : GV → Dl → Prop} (ho : dstIn A.openAt o.dst = false) (hF : ∀ t, t ∈ o.looksAt all → F' t = F t)
    (hg : (gop P C A d o F G fun _ _ => True) → ∀ κ ∈ tgt A o F, get G' κ = get G κ) (hf : free G d o.dst → free G' d o.dst) (h : gop1v P C A d all o F G K) : gop1v P C A d all o F' G' K := by
  have he : ∀ x ∈ o.op.operands, ge F' x = ge F x := fun x hx => by
    cases x with
    | tmp t => exact hF t (List.mem_append_left _ (List.mem_filterMap.2 ⟨.tmp t, by simpa using hx, rfl⟩))
    | _ => rfl
  have main : ∀ {K : GV → Dl → Prop}, gop P C A d o F G K → gop P C A d o F' G' K := fun h => gop_congrF he (gop_congrG ho (hg (mono_gop (fun _ _ _ => trivial) h)) hf h)
  unfold gop1v at h ⊢
  split at h
  · exact main h
  · rename_i j want hgd
    split at h
    case h_2 => exact h.elim
    rename_i t ht
    have hFt : F' t = F t := hF t (List.mem_append_right _ (by simp [hgd, ht]))
    rw [hFt]
    split at h
    case h_3 => exact h.elim
    case h_2 => exact h
    exact ⟨fun e => main (h.1 e), h.2⟩

theorem wr_rd {o : Oper} (h : wrO A o = true) : rdO A o = true := by
  unfold wrO at h
  unfold rdO
  split at h
  · simp_all
  · split at h
    · simp_all
    · cases h
  · cases h
theorem put_comm {F : Nat → GV} {a b : Option Nat} {u v : GV} (h : ∀ t, a = some t → b ≠ some t) : put (put F a u) b v = put (put F b v) a u := by
  cases a with
  | none => rfl
  | some x => cases b with
    | none => rfl
    | some y =>
      have : x ≠ y := fun e => h x rfl (by rw [e])
      funext t
      simp only [put, upd]
      by_cases h1 : t = x <;> by_cases h2 : t = y <;> simp_all
theorem put_other {F : Nat → GV} {a : Option Nat} {u : GV} {t : Nat} (h : a ≠ some t) : put F a u t = F t := by
  cases a with
  | none => rfl
  | some x =>
    simp only [put, upd]
    rw [if_neg]
    rintro rfl
    exact h rfl
theorem free_fill {os : List Obj'} {a b : Option Nat} (h : ∀ t, a = some t → b ≠ some t) : free (fillD G d a os) d b ↔ free G d b := by
  cases a with
  | none => rfl
  | some x => cases b with
    | none => rfl
    | some y =>
      have : ¬ y = x := fun e => h x rfl (by rw [e])
      simp [free, fillD, fillKey, this]
theorem free_set {κ : Key} {o : Obj'} {b : Option Nat} : free (setKey G κ o) d b ↔ free G d b := by
  cases b with
  | none => rfl
  | some y =>
    simp only [free, setKey]
    split <;> simp
theorem alive_fill {os : List Obj'} {a : Option Nat} (hf : free G d a) {κ : Key} (hk : get G κ ≠ none) : get (fillD G d a os) κ = get G κ := by
  cases a with
  | none => rfl
  | some x =>
    unfold free at hf
    simp only [fillD]
    rw [get_fillKey, if_neg]
    rintro ⟨e1, e2⟩
    apply hk
    unfold get
    rw [e1, e2, hf]; rfl
theorem fill_fill {os os' : List Obj'} {a b : Option Nat} (h : ∀ t, a = some t → b ≠ some t) : fillD (fillD G d a os) d b os' = fillD (fillD G d b os') d a os := by
  cases a with
  | none => rfl
  | some x => cases b with
    | none => rfl
    | some y =>
      have : ¬ x = y := fun e => h x rfl (by rw [e])
      funext k t
      simp only [fillD, fillKey]
      by_cases h1 : k = d ∧ t = x
      · have h2 : ¬ (k = d ∧ t = y) := fun h2 => this (h1.2.symm.trans h2.2)
        rw [if_neg h2, if_pos h1, if_pos h1]
      · rw [if_neg h1, if_neg h1]
theorem fill_set {os : List Obj'} {a : Option Nat} (hf : free G d a) {κ : Key} {o : Obj'} (hk : get G κ ≠ none) : setKey (fillD G d a os) κ o = fillD (setKey G κ o) d a os := by
  cases a with
  | none => rfl
  | some x =>
    unfold free at hf
    have hne : ¬ (κ.1 = d ∧ κ.2.1 = x) := by
      rintro ⟨e1, e2⟩
      apply hk
      unfold get
      rw [e1, e2, hf]; rfl
    funext k t
    simp only [fillD, fillKey, setKey]
    by_cases h1 : k = d ∧ t = x
    · have : ¬ (k = κ.1 ∧ t = κ.2.1) := by rintro ⟨rfl, rfl⟩; exact hne h1
      rw [if_neg this, if_pos h1, if_pos h1]
    · rw [if_neg h1, if_neg h1]

theorem set_set {κ κ' : Key} {o o' : Obj'} (h : ¬ (κ.1 = κ'.1 ∧ κ.2.1 = κ'.2.1)) : setKey (setKey G κ o) κ' o' = setKey (setKey G κ' o') κ o := by
  funext k t
  unfold setKey
  by_cases h1 : k = κ.1 ∧ t = κ.2.1
  · have h2 : ¬ (k = κ'.1 ∧ t = κ'.2.1) := fun e => h ⟨h1.1.symm.trans e.1, h1.2.symm.trans e.2⟩
    simp only [if_pos h1, if_neg h2]
  · by_cases h2 : k = κ'.1 ∧ t = κ'.2.1
    · simp only [if_neg h1, if_pos h2]
    · simp only [if_neg h1, if_neg h2]
theorem gop1v_some {all : Array Oper} {o : Oper} {F : Nat → GV} {v : GV} {δ : Dl} (h : gop1v P C A d all o F G (fun v' δ' => v' = v ∧ δ' = δ)) : δ = .nop ∨ gop P C A d o F G (fun v' δ' => v' = v ∧ δ' = δ) := by
  unfold gop1v at h
  split at h
  · exact .inr h
  · rename_i j want _
    split at h
    case h_2 => exact h.elim
    split at h
    case h_3 => exact h.elim
    case h_2 => exact .inl h.2.symm
    rename_i b _
    by_cases e : b = want
    · exact .inr (h.1 e)
    · exact .inl (h.2 (by cases b <;> simp_all)).2.symm
/-- Two operations on objects that are told apart. -/
def apartB (A : Ann) (x y : Oper) : Bool := match boxOf A x, boxOf A y with
  | some a, some b => a != b
  | _, _ => false
/-- Two operations that nothing orders. -/
def indep (A : Ann) (all : Array Oper) (x y : Oper) : Bool :=
  x.apart all y && ((!(wrO A x && rdO A y) && !(wrO A y && rdO A x)) || apartB A x y)
theorem swap {all : Array Oper} {oi oj : Oper} {K : St → Prop} {s : St} (hoi : dstIn A.openAt oi.dst = false) (hoj : dstIn A.openAt oj.dst = false) (hind : indep A all oj oi = true)
    (hlive : ∀ κ ∈ tgt A oi s.F, get s.G κ ≠ none) (h : gop1 P C A d all oj (gop1 P C A d all oi K) s) : gop1 P C A d all oi (gop1 P C A d all oj K) s := by
  unfold indep at hind
  simp only [Bool.and_eq_true, Bool.or_eq_true, Bool.not_eq_true', Bool.and_eq_false_iff] at hind
  obtain ⟨hap, hw⟩ := hind
  obtain ⟨ha1, ha2, ha3⟩ := Oper.apart_spec hap
  obtain ⟨F, G⟩ := s
  rw [gop1_eq] at h ⊢
  obtain ⟨vj, δj, hj, hj'⟩ := cps_gop1v (gop1v_shape hoj h)
  obtain ⟨h2, hsj⟩ := hj'
  rw [gop1_eq] at h2
  obtain ⟨vi, δi, hi, hi'⟩ := cps_gop1v (gop1v_shape hoi h2)
  obtain ⟨hK, hsi⟩ := hi'
  simp only at hj hsj hi hK hsi hlive ⊢
  have hFi : ∀ t, t ∈ oi.looksAt all → put F oj.dst vj t = F t := fun t ht => put_other fun e => ha1 t e ht
  have hFj : ∀ t, t ∈ oj.looksAt all → put F oi.dst vi t = F t := fun t ht => put_other fun e => ha3 t e ht
  have hti : tgt A oi (put F oj.dst vj) = tgt A oi F := tgt_congr fun x hx => by
    cases x with
    | tmp t => exact hFi t (List.mem_append_left _ (List.mem_filterMap.2 ⟨.tmp t, by simpa using hx, rfl⟩))
    | _ => rfl
  rw [hti] at hsi
  -- objects that are told apart
  have hapart : ∀ κ κ' : Key, apartB A oj oi = true → (∀ k, boxOf A oj = some k → κ.2.1 = k) → (∀ k, boxOf A oi = some k → κ'.2.1 = k) → ¬ (κ.1 = κ'.1 ∧ κ.2.1 = κ'.2.1) := fun κ κ' hab h1 h2 e => by
    unfold apartB at hab
    split at hab
    · rename_i a b ea eb
      have e1 := h1 a ea
      have e2 := h2 b eb
      have : a = b := by rw [← e1, ← e2]; exact e.2
      simp [this] at hab
    · cases hab
  have hjb : ∀ κ0 o0, δj = .set κ0 o0 → ∀ k, boxOf A oj = some k → κ0.2.1 = k := fun κ0 o0 e k hk => by
    rcases gop1v_some hj with h0 | h0
    · rw [e] at h0; cases h0
    · rw [e] at hsj
      exact (boxed hk h0 κ0 hsj.1).2
  have hib : ∀ κ0 o0, δi = .set κ0 o0 → ∀ k, boxOf A oi = some k → κ0.2.1 = k := fun κ0 o0 e k hk => by
    rcases gop1v_some hi with h0 | h0
    · rw [e] at h0; cases h0
    · rw [e] at hsi
      exact (boxed hk h0 κ0 (by rw [hti]; exact hsi.1)).2
  -- j's effect does not touch i
  have hgi : (∀ K', gop P C A d oi (put F oj.dst vj) (appD G d oj.dst δj) K' → ∀ κ ∈ tgt A oi F, get (appD G d oj.dst δj) κ = get G κ) ∧ (free (appD G d oj.dst δj) d oi.dst ↔ free G d oi.dst) := by
    cases δj with
    | nop => exact ⟨fun _ _ _ _ => rfl, Iff.rfl⟩
    | fill os => exact ⟨fun _ _ κ hk => alive_fill hsj (hlive κ hk), free_fill (os := os) ha2⟩
    | set κ0 o0 =>
      refine ⟨fun K' hgop κ hk => ?_, free_set⟩
      rcases hw with ⟨hw1, _⟩ | hab
      · obtain ⟨_, _, hw⟩ := hsj
        have hr : rdO A oi = false := hw1.resolve_left (by simp [hw])
        rw [tgt_nil hr] at hk; cases hk
      · have hne := hapart κ0 κ hab (hjb κ0 o0 rfl) (fun k hkk => (boxed hkk hgop κ (by rw [hti]; exact hk)).2)
        show get (setKey G κ0 o0) κ = get G κ
        rw [get_setKey, if_neg (fun e => hne (by rw [e]; exact ⟨rfl, rfl⟩))]
    | heap G' os => exact hsj.elim
    | heap0 G' => exact hsj.elim
  have hi1 : gop1v P C A d all oi F G (fun v' δ' => v' = vi ∧ δ' = δi) := by
    refine gop1v_congr (F := put F oj.dst vj) (G := appD G d oj.dst δj) hoi (fun t ht => (hFi t ht).symm) (fun hgop κ hk => ?_) hgi.2.1 hi
    rw [hti] at hk
    exact (hgi.1 _ hgop κ hk).symm
  have hsi' : Shape A d G (tgt A oi F) oi δi := by
    cases δi with
    | nop => trivial
    | fill os => exact hgi.2.1 hsi
    | set κ0 o0 => exact ⟨hsi.1, hlive κ0 hsi.1, hsi.2.2⟩
    | heap G' os => exact hsi.elim
    | heap0 G' => exact hsi.elim
  have hne : ∀ t, oi.dst = some t → oj.dst ≠ some t := fun t e e' => ha2 t e' e
  have hj1 : gop1v P C A d all oj (put F oi.dst vi) (appD G d oi.dst δi) (fun v' δ' => v' = vj ∧ δ' = δj) := by
    refine gop1v_congr (F := F) (G := G) hoj hFj (fun hgop κ hk => ?_) ?_ hj
    · cases δi with
      | nop => rfl
      | fill os => exact alive_fill hsi' (gop_live hgop κ hk)
      | set κ0 o0 =>
        rcases hw with ⟨_, hw2⟩ | hab
        · have hr : rdO A oj = false := hw2.resolve_left (by simp [hsi'.2.2])
          rw [tgt_nil hr] at hk; cases hk
        · have hne := hapart κ κ0 hab (fun k hkk => (boxed hkk hgop κ hk).2) (hib κ0 o0 rfl)
          show get (setKey G κ0 o0) κ = get G κ
          rw [get_setKey, if_neg (fun e => hne (by rw [e]; exact ⟨rfl, rfl⟩))]
      | heap G' os => exact hsi'.elim
      | heap0 G' => exact hsi'.elim
    · cases δi with
      | nop => exact id
      | fill os => exact (free_fill hne).2
      | set κ0 o0 => exact free_set.2
      | heap G' os => exact hsi'.elim
      | heap0 G' => exact hsi'.elim
  refine mono_gop1v (K := fun v' δ' => v' = vi ∧ δ' = δi) (fun v' δ' e => ?_) hi1
  obtain ⟨rfl, rfl⟩ := e
  rw [gop1_eq]
  refine mono_gop1v (K := fun v' δ' => v' = vj ∧ δ' = δj) (fun v'' δ'' e => ?_) hj1
  obtain ⟨rfl, rfl⟩ := e
  simp only at hK ⊢
  have hF : put (put F oi.dst v') oj.dst v'' = put (put F oj.dst v'') oi.dst v' := put_comm hne
  have hG : appD (appD G d oi.dst δ') d oj.dst δ'' = appD (appD G d oj.dst δ'') d oi.dst δ' := by
    cases δ'' with
    | nop => rfl
    | fill os =>
      cases δ' with
      | nop => rfl
      | fill os' => exact fill_fill hne
      | set κ0 o0 => exact (fill_set hsj hsi'.2.1).symm
      | heap G' os => exact hsi'.elim
      | heap0 G' => exact hsi'.elim
    | set κ1 o1 =>
      cases δ' with
      | nop => rfl
      | fill os' => exact fill_set hsi' hsj.2.1
      | set κ0 o0 =>
        rcases hw with ⟨hw1, _⟩ | hab
        · have hr : rdO A oi = false := hw1.resolve_left (by simp [hsj.2.2])
          rw [wr_rd hsi'.2.2] at hr; cases hr
        · exact set_set fun e => hapart κ1 κ0 hab (hjb κ1 o1 rfl) (hib κ0 o0 rfl) ⟨e.1.symm, e.2.symm⟩
      | heap G' os => exact hsi'.elim
      | heap0 G' => exact hsi'.elim
    | heap G' os => exact hsj.elim
    | heap0 G' => exact hsj.elim
  rw [hF, hG]
  exact hK
end
end Go.Eng
