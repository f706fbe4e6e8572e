import Derived.Test.YtnahfkmdojbpkaaEM
/-! The engine, part N: a region, whatever its order. -/
set_option linter.all false
namespace Go.Eng
section
variable {P : Program} {C : CR} {A : Ann} {d : Nat} {G G' : Heap}
theorem gop_congrF {o : Oper} {F F' : Nat → GV} {K : GV → Dl → Prop} (he : ∀ x ∈ o.op.operands, ge F' x = ge F x) (h : gop P C A d o F G K) : gop P C A d o F' G K := by
  obtain ⟨dst, op, ty, pos, after, guard⟩ := o
  have pairs : ∀ ps : Array (Nat × Operand), (∀ x ∈ (ps.toList.map (·.2)).toArray, ge F' x = ge F x) → (ps.toList.map fun q => (q.1, ge F' q.2)) = ps.toList.map fun q => (q.1, ge F q.2) := fun ps hp =>
    List.map_congr_left fun p hm => by rw [hp p.2 (by simp only [List.mem_toArray, List.mem_map]; exact ⟨p, hm, rfl⟩)]
  have opt : ∀ o : Option Operand, (∀ x ∈ o.toArray, ge F' x = ge F x) → o.map (ge F') = o.map (ge F) := fun o ho => by
    cases o with
    | none => rfl
    | some x => simp only [Option.map_some]; rw [ho x (by simp)]
  unfold gop at h ⊢
  cases op <;> simp only [Op.operands] at he <;> dsimp only at h ⊢ <;> try exact h
  case makeFunc f first caps =>
    cases f <;> dsimp only at h ⊢ <;> try exact h
    have e : caps.toList.map (ge F') = caps.toList.map (ge F) := List.map_congr_left fun x hx => he x (Array.mem_append.2 (.inr (Array.mem_toList_iff.1 hx)))
    rw [e]; exact h
  case build t ps => rw [pairs ps he]; exact h
  case buildSlice t n ps => rw [pairs ps he]; exact h
  case slice t x lo hi mx =>
    rw [he x (by simp), opt lo (fun y hy => he y (by simp only [Array.mem_append]; simp [hy])), opt hi (fun y hy => he y (by simp only [Array.mem_append]; simp [hy])), opt mx (fun y hy => he y (by simp only [Array.mem_append]; simp [hy]))]
    exact h
  case call c =>
    have e : c.args.toList.map (ge F') = c.args.toList.map (ge F) := List.map_congr_left fun x hx => he x (by unfold Call.operands; exact Array.mem_append.2 (.inr (Array.mem_toList_iff.1 hx)))
    rw [e]
    split at h
    · rename_i f hc
      rw [he f (by simp [Call.operands, hc])]; exact h
    · exact h
    · exact h.elim
  case pick c x y => rw [he c (by simp), he x (by simp), he y (by simp)]; exact h
  case store t x y => rw [he x (by simp), he y (by simp)]; exact h
  case binOp op t x y ty' => rw [he x (by simp), he y (by simp)]; exact h
  case indexAddr t x y => rw [he x (by simp), he y (by simp)]; exact h
  case index t x y => rw [he x (by simp), he y (by simp)]; exact h
  all_goals (rw [he _ (by simp)]; exact h)
theorem tgt_congr {o : Oper} {F F' : Nat → GV} (he : ∀ x ∈ o.op.operands, ge F' x = ge F x) : tgt A o F' = tgt A o F := by
  obtain ⟨dst, op, ty, pos, after, guard⟩ := o
  unfold tgt
  cases op <;> simp only [Op.operands] at he <;> dsimp only
  case load t a => rw [he a (by simp)]
  case store t a v => rw [he a (by simp)]
  case call c =>
    have e : c.args.toList.map (ge F') = c.args.toList.map (ge F) := List.map_congr_left fun x hx => he x (by unfold Call.operands; exact Array.mem_append.2 (.inr (Array.mem_toList_iff.1 hx)))
    rw [e]
    split
    · rfl
    · rename_i f hc
      rw [he f (by simp [Call.operands, hc])]
    · rfl

/-- One operation with its guard, the outcome alone. -/
def gop1v (P : Program) (C : CR) (A : Ann) (d : Nat) (all : Array Oper) (o : Oper) (F : Nat → GV) (G : Heap) (K : GV → Dl → Prop) : Prop :=
  match o.guard with
  | none => gop P C A d o F G K
  | some (j, want) => match (all[j]?).bind (·.dst) with
    | some t => match F t with
      | .p (.bool b) => (b = want → gop P C A d o F G K) ∧ (b = (!want) → K (.tup []) .nop)
      | .tup [] => K (.tup []) .nop
      | _ => False
    | none => False
theorem gop1_eq {all : Array Oper} {o : Oper} {K : St → Prop} {s : St} : gop1 P C A d all o K s ↔ gop1v P C A d all o s.F s.G (fun v δ => K ⟨put s.F o.dst v, appD s.G d o.dst δ⟩) := by
  unfold gop1 gop1v
  cases o.guard with
  | none => rfl
  | some g =>
    obtain ⟨j, want⟩ := g
    rfl
theorem cps_gop1v {all : Array Oper} {o : Oper} {F : Nat → GV} {K : GV → Dl → Prop} (h : gop1v P C A d all o F G K) : ∃ v δ, gop1v P C A d all o F G (fun v' δ' => v' = v ∧ δ' = δ) ∧ K v δ := by
  unfold gop1v at h ⊢
  cases hgd : o.guard with
  | none => rw [hgd] at h; exact cps_gop h
  | some g =>
    obtain ⟨j, want⟩ := g
    rw [hgd] at h
    dsimp only at h ⊢
    cases ht : (all[j]?).bind (·.dst) with
    | none => rw [ht] at h; exact h.elim
    | some t =>
    rw [ht] at h
    dsimp only at h ⊢
    split at h
    case h_3 => exact h.elim
    case h_2 => exact ⟨_, _, ⟨rfl, rfl⟩, h⟩
    rename_i b hb
    by_cases e : b = want
    · obtain ⟨v, δ, h1, h2⟩ := cps_gop (h.1 e)
      exact ⟨v, δ, ⟨fun _ => h1, fun e' => absurd (e.symm.trans e') (by cases want <;> simp)⟩, h2⟩
    · have e' : b = !want := by cases b <;> cases want <;> simp_all
      exact ⟨_, _, ⟨fun e2 => absurd e2 e, fun _ => ⟨rfl, rfl⟩⟩, h.2 e'⟩
theorem mono_gop1v {all : Array Oper} {o : Oper} {F : Nat → GV} {K K' : GV → Dl → Prop} (hk : ∀ v δ, K v δ → K' v δ) (h : gop1v P C A d all o F G K) : gop1v P C A d all o F G K' := by
  unfold gop1v at h ⊢
  split at h
  · exact mono_gop hk h
  · split at h
    case h_2 => exact h.elim
    split at h
    case h_3 => exact h.elim
    case h_2 => exact hk _ _ h
    exact ⟨fun e => mono_gop hk (h.1 e), fun e => hk _ _ (h.2 e)⟩
theorem gop1v_shape {all : Array Oper} {o : Oper} {F : Nat → GV} {K : GV → Dl → Prop} (ho : dstIn A.openAt o.dst = false) (h : gop1v P C A d all o F G K) : gop1v P C A d all o F G (fun v δ => K v δ ∧ Shape A d G (tgt A o F) o δ) := by
  unfold gop1v at h ⊢
  split at h
  · exact gop_shape ho h
  · split at h
    case h_2 => exact h.elim
    split at h
    case h_3 => exact h.elim
    case h_2 => exact ⟨h, trivial⟩
    exact ⟨fun e => gop_shape ho (h.1 e), fun e => ⟨h.2 e, trivial⟩⟩
theorem gop1v_congr {all : Array Oper} {o : Oper} {F F' : Nat → GV} {K : GV → Dl → Prop} (ho : dstIn A.openAt o.dst = false) (hF : ∀ t, t ∈ o.looksAt all → F' t = F t)
    (hg : (gop P C A d o F G fun _ _ => True) → ∀ κ ∈ tgt A o F, get G' κ = get G κ) (hf : free G d o.dst → free G' d o.dst) (h : gop1v P C A d all o F G K) : gop1v P C A d all o F' G' K := by
  have he : ∀ x ∈ o.op.operands, ge F' x = ge F x := fun x hx => by
    cases x with
    | tmp t => exact hF t (List.mem_append_left _ (List.mem_filterMap.2 ⟨.tmp t, by simpa using hx, rfl⟩))
    | _ => rfl
  have main : ∀ {K : GV → Dl → Prop}, gop P C A d o F G K → gop P C A d o F' G' K := fun h => gop_congrF he (gop_congrG ho (hg (mono_gop (fun _ _ _ => trivial) h)) hf h)
  unfold gop1v at h ⊢
  split at h
  · exact main h
  · rename_i j want hgd
    split at h
    case h_2 => exact h.elim
    rename_i t ht
    have hFt : F' t = F t := hF t (List.mem_append_right _ (by simp [hgd, ht]))
    rw [hFt]
    split at h
    case h_3 => exact h.elim
    case h_2 => exact h
    exact ⟨fun e => main (h.1 e), h.2⟩

theorem wr_rd {o : Oper} (h : wrO A o = true) : rdO A o = true := by
  unfold wrO at h
  unfold rdO
  split at h
  · simp_all
  · split at h
    · simp_all
    · cases h
  · cases h
theorem put_comm {F : Nat → GV} {a b : Option Nat} {u v : GV} (h : ∀ t, a = some t → b ≠ some t) : put (put F a u) b v = put (put F b v) a u := by
  cases a with
  | none => rfl
  | some x => cases b with
    | none => rfl
    | some y =>
      have : x ≠ y := fun e => h x rfl (by rw [e])
      funext t
      simp only [put, upd]
      by_cases h1 : t = x <;> by_cases h2 : t = y <;> simp_all
theorem put_other {F : Nat → GV} {a : Option Nat} {u : GV} {t : Nat} (h : a ≠ some t) : put F a u t = F t := by
  cases a with
  | none => rfl
  | some x =>
    simp only [put, upd]
    rw [if_neg]
    rintro rfl
    exact h rfl
theorem free_fill {os : List Obj'} {a b : Option Nat} (h : ∀ t, a = some t → b ≠ some t) : free (fillD G d a os) d b ↔ free G d b := by
  cases a with
  | none => rfl
  | some x => cases b with
    | none => rfl
    | some y =>
      have : ¬ y = x := fun e => h x rfl (by rw [e])
      simp [free, fillD, fillKey, this]
theorem free_set {κ : Key} {o : Obj'} {b : Option Nat} : free (setKey G κ o) d b ↔ free G d b := by
  cases b with
  | none => rfl
  | some y =>
    simp only [free, setKey]
    split <;> simp
theorem alive_fill {os : List Obj'} {a : Option Nat} (hf : free G d a) {κ : Key} (hk : get G κ ≠ none) : get (fillD G d a os) κ = get G κ := by
  cases a with
  | none => rfl
  | some x =>
    unfold free at hf
    simp only [fillD]
    rw [get_fillKey, if_neg]
    rintro ⟨e1, e2⟩
    apply hk
    unfold get
    rw [e1, e2, hf]; rfl
theorem fill_fill {os os' : List Obj'} {a b : Option Nat} (h : ∀ t, a = some t → b ≠ some t) : fillD (fillD G d a os) d b os' = fillD (fillD G d b os') d a os := by
  cases a with
  | none => rfl
  | some x => cases b with
    | none => rfl
    | some y =>
      have : ¬ x = y := fun e => h x rfl (by rw [e])
      funext k t
      simp only [fillD, fillKey]
      by_cases h1 : k = d ∧ t = x
      · have h2 : ¬ (k = d ∧ t = y) := fun h2 => this (h1.2.symm.trans h2.2)
        rw [if_neg h2, if_pos h1, if_pos h1]
      · rw [if_neg h1, if_neg h1]
theorem fill_set {os : List Obj'} {a : Option Nat} (hf : free G d a) {κ : Key} {o : Obj'} (hk : get G κ ≠ none) : setKey (fillD G d a os) κ o = fillD (setKey G κ o) d a os := by
  cases a with
  | none => rfl
  | some x =>
    unfold free at hf
    have hne : ¬ (κ.1 = d ∧ κ.2.1 = x) := by
      rintro ⟨e1, e2⟩
      apply hk
      unfold get
      rw [e1, e2, hf]; rfl
    funext k t
    simp only [fillD, fillKey, setKey]
    by_cases h1 : k = d ∧ t = x
    · have : ¬ (k = κ.1 ∧ t = κ.2.1) := by rintro ⟨rfl, rfl⟩; exact hne h1
      rw [if_neg this, if_pos h1, if_pos h1]
    · rw [if_neg h1, if_neg h1]

theorem set_set {κ κ' : Key} {o o' : Obj'} (h : ¬ (κ.1 = κ'.1 ∧ κ.2.1 = κ'.2.1)) : setKey (setKey G κ o) κ' o' = setKey (setKey G κ' o') κ o := by
  funext k t
  unfold setKey
  by_cases h1 : k = κ.1 ∧ t = κ.2.1
  · have h2 : ¬ (k = κ'.1 ∧ t = κ'.2.1) := fun e => h ⟨h1.1.symm.trans e.1, h1.2.symm.trans e.2⟩
    simp only [if_pos h1, if_neg h2]
  · by_cases h2 : k = κ'.1 ∧ t = κ'.2.1
    · simp only [if_neg h1, if_pos h2]
    · simp only [if_neg h1, if_neg h2]
theorem gop1v_some {all : Array Oper} {o : Oper} {F : Nat → GV} {v : GV} {δ : Dl} (h : gop1v P C A d all o F G (fun v' δ' => v' = v ∧ δ' = δ)) : δ = .nop ∨ gop P C A d o F G (fun v' δ' => v' = v ∧ δ' = δ) := by
  unfold gop1v at h
  split at h
  · exact .inr h
  · rename_i j want _
    split at h
    case h_2 => exact h.elim
    split at h
    case h_3 => exact h.elim
    case h_2 => exact .inl h.2.symm
    rename_i b _
    by_cases e : b = want
    · exact .inr (h.1 e)
    · exact .inl (h.2 (by cases b <;> simp_all)).2.symm
/-- Two operations on objects that are told apart. -/
def apartB (A : Ann) (x y : Oper) : Bool := match boxOf A x, boxOf A y with
  | some a, some b => a != b
  | _, _ => false
/-- Two operations that nothing orders. -/
def indep (A : Ann) (all : Array Oper) (x y : Oper) : Bool :=
  x.apart all y && ((!(wrO A x && rdO A y) && !(wrO A y && rdO A x)) || apartB A x y)
theorem swap {all : Array Oper} {oi oj : Oper} {K : St → Prop} {s : St} (hoi : dstIn A.openAt oi.dst = false) (hoj : dstIn A.openAt oj.dst = false) (hind : indep A all oj oi = true)
    (hlive : ∀ κ ∈ tgt A oi s.F, get s.G κ ≠ none) (h : gop1 P C A d all oj (gop1 P C A d all oi K) s) : gop1 P C A d all oi (gop1 P C A d all oj K) s := by
  unfold indep at hind
  simp only [Bool.and_eq_true, Bool.or_eq_true, Bool.not_eq_true', Bool.and_eq_false_iff] at hind
  obtain ⟨hap, hw⟩ := hind
  obtain ⟨ha1, ha2, ha3⟩ := Oper.apart_spec hap
  obtain ⟨F, G⟩ := s
  rw [gop1_eq] at h ⊢
  obtain ⟨vj, δj, hj, hj'⟩ := cps_gop1v (gop1v_shape hoj h)
  obtain ⟨h2, hsj⟩ := hj'
  rw [gop1_eq] at h2
  obtain ⟨vi, δi, hi, hi'⟩ := cps_gop1v (gop1v_shape hoi h2)
  obtain ⟨hK, hsi⟩ := hi'
  simp only at hj hsj hi hK hsi hlive ⊢
  have hFi : ∀ t, t ∈ oi.looksAt all → put F oj.dst vj t = F t := fun t ht => put_other fun e => ha1 t e ht
  have hFj : ∀ t, t ∈ oj.looksAt all → put F oi.dst vi t = F t := fun t ht => put_other fun e => ha3 t e ht
  have hti : tgt A oi (put F oj.dst vj) = tgt A oi F := tgt_congr fun x hx => by
    cases x with
    | tmp t => exact hFi t (List.mem_append_left _ (List.mem_filterMap.2 ⟨.tmp t, by simpa using hx, rfl⟩))
    | _ => rfl
  rw [hti] at hsi
  -- objects that are told apart
  have hapart : ∀ κ κ' : Key, apartB A oj oi = true → (∀ k, boxOf A oj = some k → κ.2.1 = k) → (∀ k, boxOf A oi = some k → κ'.2.1 = k) → ¬ (κ.1 = κ'.1 ∧ κ.2.1 = κ'.2.1) := fun κ κ' hab h1 h2 e => by
    unfold apartB at hab
    split at hab
    · rename_i a b ea eb
      have e1 := h1 a ea
      have e2 := h2 b eb
      have : a = b := by rw [← e1, ← e2]; exact e.2
      simp [this] at hab
    · cases hab
  have hjb : ∀ κ0 o0, δj = .set κ0 o0 → ∀ k, boxOf A oj = some k → κ0.2.1 = k := fun κ0 o0 e k hk => by
    rcases gop1v_some hj with h0 | h0
    · rw [e] at h0; cases h0
    · rw [e] at hsj
      exact (boxed hk h0 κ0 hsj.1).2
  have hib : ∀ κ0 o0, δi = .set κ0 o0 → ∀ k, boxOf A oi = some k → κ0.2.1 = k := fun κ0 o0 e k hk => by
    rcases gop1v_some hi with h0 | h0
    · rw [e] at h0; cases h0
    · rw [e] at hsi
      exact (boxed hk h0 κ0 (by rw [hti]; exact hsi.1)).2
  -- j's effect does not touch i
  have hgi : (∀ K', gop P C A d oi (put F oj.dst vj) (appD G d oj.dst δj) K' → ∀ κ ∈ tgt A oi F, get (appD G d oj.dst δj) κ = get G κ) ∧ (free (appD G d oj.dst δj) d oi.dst ↔ free G d oi.dst) := by
    cases δj with
    | nop => exact ⟨fun _ _ _ _ => rfl, Iff.rfl⟩
    | fill os => exact ⟨fun _ _ κ hk => alive_fill hsj (hlive κ hk), free_fill (os := os) ha2⟩
    | set κ0 o0 =>
      refine ⟨fun K' hgop κ hk => ?_, free_set⟩
      rcases hw with ⟨hw1, _⟩ | hab
      · obtain ⟨_, _, hw⟩ := hsj
        have hr : rdO A oi = false := hw1.resolve_left (by simp [hw])
        rw [tgt_nil hr] at hk; cases hk
      · have hne := hapart κ0 κ hab (hjb κ0 o0 rfl) (fun k hkk => (boxed hkk hgop κ (by rw [hti]; exact hk)).2)
        show get (setKey G κ0 o0) κ = get G κ
        rw [get_setKey, if_neg (fun e => hne (by rw [e]; exact ⟨rfl, rfl⟩))]
    | heap G' os => exact hsj.elim
    | heap0 G' => exact hsj.elim
  have hi1 : gop1v P C A d all oi F G (fun v' δ' => v' = vi ∧ δ' = δi) := by
    refine gop1v_congr (F := put F oj.dst vj) (G := appD G d oj.dst δj) hoi (fun t ht => (hFi t ht).symm) (fun hgop κ hk => ?_) hgi.2.1 hi
    rw [hti] at hk
    exact (hgi.1 _ hgop κ hk).symm
  have hsi' : Shape A d G (tgt A oi F) oi δi := by
    cases δi with
    | nop => trivial
    | fill os => exact hgi.2.1 hsi
    | set κ0 o0 => exact ⟨hsi.1, hlive κ0 hsi.1, hsi.2.2⟩
    | heap G' os => exact hsi.elim
    | heap0 G' => exact hsi.elim
  have hne : ∀ t, oi.dst = some t → oj.dst ≠ some t := fun t e e' => ha2 t e' e
  have hj1 : gop1v P C A d all oj (put F oi.dst vi) (appD G d oi.dst δi) (fun v' δ' => v' = vj ∧ δ' = δj) := by
    refine gop1v_congr (F := F) (G := G) hoj hFj (fun hgop κ hk => ?_) ?_ hj
    · cases δi with
      | nop => rfl
      | fill os => exact alive_fill hsi' (gop_live hgop κ hk)
      | set κ0 o0 =>
        rcases hw with ⟨_, hw2⟩ | hab
        · have hr : rdO A oj = false := hw2.resolve_left (by simp [hsi'.2.2])
          rw [tgt_nil hr] at hk; cases hk
        · have hne := hapart κ κ0 hab (fun k hkk => (boxed hkk hgop κ hk).2) (hib κ0 o0 rfl)
          show get (setKey G κ0 o0) κ = get G κ
          rw [get_setKey, if_neg (fun e => hne (by rw [e]; exact ⟨rfl, rfl⟩))]
      | heap G' os => exact hsi'.elim
      | heap0 G' => exact hsi'.elim
    · cases δi with
      | nop => exact id
      | fill os => exact (free_fill hne).2
      | set κ0 o0 => exact free_set.2
      | heap G' os => exact hsi'.elim
      | heap0 G' => exact hsi'.elim
  refine mono_gop1v (K := fun v' δ' => v' = vi ∧ δ' = δi) (fun v' δ' e => ?_) hi1
  obtain ⟨rfl, rfl⟩ := e
  rw [gop1_eq]
  refine mono_gop1v (K := fun v' δ' => v' = vj ∧ δ' = δj) (fun v'' δ'' e => ?_) hj1
  obtain ⟨rfl, rfl⟩ := e
  simp only at hK ⊢
  have hF : put (put F oi.dst v') oj.dst v'' = put (put F oj.dst v'') oi.dst v' := put_comm hne
  have hG : appD (appD G d oi.dst δ') d oj.dst δ'' = appD (appD G d oj.dst δ'') d oi.dst δ' := by
    cases δ'' with
    | nop => rfl
    | fill os =>
      cases δ' with
      | nop => rfl
      | fill os' => exact fill_fill hne
      | set κ0 o0 => exact (fill_set hsj hsi'.2.1).symm
      | heap G' os => exact hsi'.elim
      | heap0 G' => exact hsi'.elim
    | set κ1 o1 =>
      cases δ' with
      | nop => rfl
      | fill os' => exact fill_set hsi' hsj.2.1
      | set κ0 o0 =>
        rcases hw with ⟨hw1, _⟩ | hab
        · have hr : rdO A oi = false := hw1.resolve_left (by simp [hsj.2.2])
          rw [wr_rd hsi'.2.2] at hr; cases hr
        · exact set_set fun e => hapart κ1 κ0 hab (hjb κ1 o1 rfl) (hib κ0 o0 rfl) ⟨e.1.symm, e.2.symm⟩
      | heap G' os => exact hsi'.elim
      | heap0 G' => exact hsi'.elim
    | heap G' os => exact hsj.elim
    | heap0 G' => exact hsj.elim
  rw [hF, hG]
  exact hK
/-- What neither looks at objects nor changes them. -/
def heapless (A : Ann) (o : Oper) : Bool :=
  match o.op with
  | .move _ => true
  | .assign _ => true
  | .pick _ _ _ => true
  | .build _ _ => true
  | .nilCheck _ => true
  | .binOp _ _ _ _ _ => true
  | .unOp _ _ _ => true
  | .convert _ _ _ => true
  | .slice _ _ _ _ _ => true
  | .fieldAddr _ _ _ => true
  | .field _ _ _ => true
  | .indexAddr _ _ _ => true
  | .index _ _ _ => true
  | .extract _ _ => true
  | .buildSlice _ _ _ => !dstIn A.arrAt o.dst
  | .call c => match c.callee with
    | .value _ => !dstIn A.openAt o.dst && !dstIn A.borAt o.dst && dstIn A.frzAt o.dst
    | .builtin .len => true
    | _ => false
  | _ => false
theorem heapless_gop {o : Oper} {F : Nat → GV} {K : GV → Dl → Prop} (hh : heapless A o = true) (h : gop P C A d o F G K) : gop P C A d o F G' (fun v δ => K v δ ∧ δ = .nop) := by
  obtain ⟨dst, op, ty, pos, after, guard⟩ := o
  unfold heapless at hh
  cases op <;> dsimp only at hh <;> try (cases hh; done)
  all_goals unfold gop at h ⊢; try dsimp only at h ⊢
  case move x => exact ⟨h, (by first | rfl | trivial)⟩
  case assign x => exact ⟨h, (by first | rfl | trivial)⟩
  case pick c x y =>
    split at h
    case h_2 => exact h.elim
    exact ⟨fun e => ⟨h.1 e, by first | rfl | trivial⟩, fun e => ⟨h.2 e, by first | rfl | trivial⟩⟩
  case build => exact mono_gBuild (fun _ h => ⟨h, (by first | rfl | trivial)⟩) h
  case buildSlice =>
    unfold gBuildSlice at h ⊢
    split at h
    case h_2 => exact h.elim
    split at h
    case h_2 => exact h.elim
    refine ⟨h.1, h.2.1, ?_⟩
    have h2 := h.2.2
    have hc : ¬ dstIn A.arrAt dst = true := by simpa using hh
    rw [if_neg hc] at h2 ⊢; exact ⟨h2, by first | rfl | trivial⟩
  case nilCheck x => (repeat' split at h) <;> first | exact h.elim | exact ⟨h, (by first | rfl | trivial)⟩
  case binOp => exact mono_gBin (fun _ h => ⟨h, (by first | rfl | trivial)⟩) h
  case unOp => exact mono_gUn (fun _ h => ⟨h, (by first | rfl | trivial)⟩) h
  case convert => exact mono_gConv (fun _ h => ⟨h, (by first | rfl | trivial)⟩) h
  case slice => exact mono_gSlice (fun _ h => ⟨h, (by first | rfl | trivial)⟩) h
  case fieldAddr => exact mono_gFieldAddr (fun _ h => ⟨h, (by first | rfl | trivial)⟩) h
  case field => exact mono_gField (fun _ h => ⟨h, (by first | rfl | trivial)⟩) h
  case indexAddr => exact mono_gIndexAddr (fun _ h => ⟨h, (by first | rfl | trivial)⟩) h
  case index => exact mono_gIndex (fun _ h => ⟨h, (by first | rfl | trivial)⟩) h
  case extract x k =>
    split at h
    case h_2 => exact h.elim
    split at h
    case h_2 => exact h.elim
    exact ⟨h, (by first | rfl | trivial)⟩
  case call c =>
    split at h
    · rename_i f hc
      rw [hc] at hh
      dsimp only at hh
      simp only [Bool.and_eq_true, Bool.not_eq_true'] at hh
      obtain ⟨⟨h1, h2⟩, h3⟩ := hh
      unfold gCall at h ⊢
      split at h
      case h_2 => exact h.elim
      rw [h2] at h ⊢
      rw [h1] at h ⊢
      rw [h3] at h ⊢
      simp only [Bool.false_eq_true, if_false, if_true] at h ⊢
      obtain ⟨as, hw, h0, r, hc, h⟩ := h
      exact ⟨as, hw, h0, r, hc, h, (by first | rfl | trivial)⟩
    · rename_i b hc
      rw [hc] at hh
      unfold gBuiltin at h ⊢
      cases b <;> (try dsimp only at hh) <;> try (cases hh; done)
      split at h
      · exact mono_gLen (fun _ h => ⟨h, (by first | rfl | trivial)⟩) h
      all_goals first | exact h.elim | (rename_i hb; cases hb) | (rename_i hb _ _; cases hb) | (rename_i hb _; cases hb)
    · exact h.elim
theorem gop1v_congrF {all : Array Oper} {o : Oper} {F F' : Nat → GV} {K : GV → Dl → Prop} (hF : ∀ t, t ∈ o.looksAt all → F' t = F t) (h : gop1v P C A d all o F G K) : gop1v P C A d all o F' G K := by
  have he : ∀ x ∈ o.op.operands, ge F' x = ge F x := fun x hx => by
    cases x with
    | tmp t => exact hF t (List.mem_append_left _ (List.mem_filterMap.2 ⟨.tmp t, by simpa using hx, rfl⟩))
    | _ => rfl
  unfold gop1v at h ⊢
  split at h
  · exact gop_congrF he h
  · rename_i j want hgd
    split at h
    case h_2 => exact h.elim
    rename_i t ht
    have hFt : F' t = F t := hF t (List.mem_append_right _ (by simp [hgd, ht]))
    rw [hFt]
    split at h
    case h_3 => exact h.elim
    case h_2 => exact h
    exact ⟨fun e => gop_congrF he (h.1 e), h.2⟩
theorem heapless_gop1v {all : Array Oper} {o : Oper} {F : Nat → GV} {K : GV → Dl → Prop} (hh : heapless A o = true) (h : gop1v P C A d all o F G K) : gop1v P C A d all o F G' (fun v δ => K v δ ∧ δ = .nop) := by
  unfold gop1v at h ⊢
  split at h
  · exact heapless_gop hh h
  · split at h
    case h_2 => exact h.elim
    split at h
    case h_3 => exact h.elim
    case h_2 => exact ⟨h, rfl⟩
    exact ⟨fun e => heapless_gop hh (h.1 e), fun e => ⟨h.2 e, rfl⟩⟩
theorem addAt_addAt {ts : List Nat} {H H' : Nat → List Obj'} : addAt (addAt G d ts H) d ts H' = addAt G d ts H' := by
  funext k t
  unfold addAt
  split <;> rfl
theorem get_addAt {ts : List Nat} {H : Nat → List Obj'} {κ : Key} (h : ¬ (κ.1 = d ∧ κ.2.1 ∈ ts)) : get (addAt G d ts H) κ = get G κ := by
  unfold get addAt
  rw [if_neg h]
/-- A call that is shown the objects goes the same way where others stand too. -/
def isCallV (o : Oper) : Bool := match o.op with
  | .call c => match c.callee with
    | .value _ => true
    | _ => false
  | _ => false
theorem open_gop {o : Oper} {F : Nat → GV} {v : GV} {δ : Dl} {j : Nat} (hv : isCallV o = true) (hj : o.dst = some j) (ho : dstIn A.openAt o.dst = true) (hd : dstIn A.drwAt o.dst = true) (hb : dstIn A.borAt o.dst = false) (h : gop P C A d o F G (fun v' δ' => v' = v ∧ δ' = δ)) :
    ∃ G', δ = .heap0 G' ∧ (∀ t ∈ A.also j, G' d t = G d t) ∧ (∀ κ, get G κ ≠ none → get G' κ ≠ none) ∧ (∀ x ∈ A.watch j, ∃ κ o, A.wkey x = some (κ, o) ∧ ∃ cs cs', get G κ = some (.box cs) ∧ get G' κ = some (.box cs') ∧ cs'[o]? = cs[o]?) ∧
      ∀ H : Nat → List Obj', gop P C A d o F (addAt G d (A.also j) H) (fun v' δ' => v' = v ∧ δ' = .heap0 (addAt G' d (A.also j) H)) := by
  obtain ⟨dst, op, ty, pos, after, guard⟩ := o
  dsimp only at hj ho hd hb
  subst hj
  unfold isCallV at hv
  cases op <;> dsimp only at hv <;> try (cases hv; done)
  rename_i c
  unfold gop at h
  dsimp only at h
  split at hv
  case h_2 => cases hv
  rename_i f hc
  rw [hc] at h
  dsimp only at h
  unfold gCall at h
  split at h
  case h_2 => exact h.elim
  rename_i n caps hf
  rw [hb] at h
  simp only [Bool.false_eq_true, if_false] at h
  obtain ⟨as, hw, h⟩ := h
  rw [ho] at h
  simp only [if_true] at h
  obtain ⟨r, G', hcall, ⟨hd0, _⟩ | ⟨t0, ht, ht', ha, hop, rfl, rfl⟩⟩ := h
  · rw [hd] at hd0; cases hd0
  obtain ⟨hnt, hop⟩ := hop hd
  simp only [Option.getD_some] at hnt hop
  refine ⟨G', rfl, hop.same, hop.live, fun x hx => ?_, fun H => ?_⟩
  · obtain ⟨κ, o, h1, _, h2⟩ := hop.look x hx
    exact ⟨κ, o, h1, h2⟩
  · unfold gop
    dsimp only
    rw [hc]
    dsimp only
    unfold gCall
    rw [hf]
    dsimp only
    rw [hb]
    simp only [Bool.false_eq_true, if_false]
    refine ⟨as, hw, ?_⟩
    rw [ho]
    simp only [if_true]
    have h1 : ∀ {G1 : Heap}, G1 d t0 = [] → addAt G1 d (A.also j) H d t0 = [] := fun h => by
      unfold addAt
      rw [if_neg (fun e => hnt e.2)]; exact h
    refine ⟨r, addAt G' d (A.also j) H, hop.call H, .inr ⟨t0, h1 ht, h1 ht', ha, fun _ => ⟨hnt, fun t hm => ?_, fun H' => ?_, fun κ hk => ?_, fun x hx => ?_⟩, rfl, rfl⟩⟩
    · simp only [Option.getD_some] at hm
      unfold addAt
      rw [if_pos ⟨rfl, hm⟩, if_pos ⟨rfl, hm⟩]
    · simp only [Option.getD_some]
      rw [addAt_addAt, addAt_addAt]
      exact hop.call H'
    · by_cases e : κ.1 = d ∧ κ.2.1 ∈ A.also j
      · unfold get addAt at hk ⊢
        rw [if_pos e] at hk ⊢; exact hk
      · rw [get_addAt e] at hk ⊢
        exact hop.live κ hk
    · simp only [Option.getD_some] at hx ⊢
      obtain ⟨κ, o, e1, e2, cs, cs', e3, e4, e5⟩ := hop.look x hx
      exact ⟨κ, o, e1, e2, cs, cs', by rw [get_addAt e2]; exact e3, by rw [get_addAt e2]; exact e4, e5⟩
theorem open_gop1v {all : Array Oper} {o : Oper} {F : Nat → GV} {v : GV} {δ : Dl} {j : Nat} (hv : isCallV o = true) (hj : o.dst = some j) (ho : dstIn A.openAt o.dst = true) (hd : dstIn A.drwAt o.dst = true) (hb : dstIn A.borAt o.dst = false) (h : gop1v P C A d all o F G (fun v' δ' => v' = v ∧ δ' = δ)) :
    (δ = .nop ∧ ∀ G2, gop1v P C A d all o F G2 (fun v' δ' => v' = v ∧ δ' = .nop)) ∨ ∃ G', δ = .heap0 G' ∧ (∀ t ∈ A.also j, G' d t = G d t) ∧ (∀ κ, get G κ ≠ none → get G' κ ≠ none) ∧ (∀ x ∈ A.watch j, ∃ κ o, A.wkey x = some (κ, o) ∧ ∃ cs cs', get G κ = some (.box cs) ∧ get G' κ = some (.box cs') ∧ cs'[o]? = cs[o]?) ∧
      ∀ H : Nat → List Obj', gop1v P C A d all o F (addAt G d (A.also j) H) (fun v' δ' => v' = v ∧ δ' = .heap0 (addAt G' d (A.also j) H)) := by
  unfold gop1v at h ⊢
  cases hgd : o.guard with
  | none =>
    rw [hgd] at h
    dsimp only at h
    obtain ⟨G', h1, h2, h2', h3, h4⟩ := open_gop hv hj ho hd hb h
    exact .inr ⟨G', h1, h2, h2', h3, h4⟩
  | some g =>
    obtain ⟨j', want⟩ := g
    rw [hgd] at h
    dsimp only at h ⊢
    cases ht : (all[j']?).bind (·.dst) with
    | none => rw [ht] at h; exact h.elim
    | some t =>
    rw [ht] at h
    dsimp only at h ⊢
    split at h
    case h_3 => exact h.elim
    case h_2 => exact .inl ⟨h.2.symm, fun G2 => ⟨h.1, rfl⟩⟩
    rename_i b hb'
    by_cases e : b = want
    · obtain ⟨G', h1, h2, h2', h3, h4⟩ := open_gop hv hj ho hd hb (h.1 e)
      exact .inr ⟨G', h1, h2, h2', h3, fun H => ⟨fun _ => h4 H, fun e' => absurd (e.symm.trans e') (by cases want <;> simp)⟩⟩
    · have e' : b = !want := by cases b <;> cases want <;> simp_all
      obtain ⟨q1, q2⟩ := h.2 e'
      exact .inl ⟨q2.symm, fun G2 => ⟨fun e2 => absurd e2 e, fun _ => ⟨q1, rfl⟩⟩⟩
theorem addAt_self {ts : List Nat} : addAt G d ts (fun t => G d t) = G := by
  funext k t
  unfold addAt
  split
  · rename_i h; rw [h.1]
  · rfl
theorem addAt_fill {ts : List Nat} {t0 : Nat} {os : List Obj'} (h : t0 ∈ ts) : addAt G d ts (fun t => if t = t0 then os else G d t) = fillKey G d t0 os := by
  funext k t
  unfold addAt fillKey
  by_cases h1 : k = d
  · subst h1
    by_cases h2 : t = t0
    · subst h2; simp [h]
    · simp [h2]
  · simp [h1]
/-- What makes an object, in a place of its own. -/
def allocB (o : Oper) : Bool := match o.op with
  | .alloc _ => true
  | _ => false
theorem alloc_gop1v {all : Array Oper} {o : Oper} {F : Nat → GV} {v : GV} {δ : Dl} {j : Nat} (ha : allocB o = true) (hj : o.dst = some j) (hG : G' d j = G d j) (h : gop1v P C A d all o F G' (fun v' δ' => v' = v ∧ δ' = δ)) :
    (δ = .nop ∨ ∃ os, δ = .fill os) ∧ gop1v P C A d all o F G (fun v' δ' => v' = v ∧ δ' = δ) := by
  obtain ⟨dst, op, ty, pos, after, guard⟩ := o
  dsimp only at hj
  subst hj
  unfold allocB at ha
  cases op <;> dsimp only at ha <;> try (cases ha; done)
  rename_i t
  have main : gop P C A d ⟨some j, .alloc t, ty, pos, after, guard⟩ F G' (fun v' δ' => v' = v ∧ δ' = δ) → (δ = .nop ∨ ∃ os, δ = .fill os) ∧ gop P C A d ⟨some j, .alloc t, ty, pos, after, guard⟩ F G (fun v' δ' => v' = v ∧ δ' = δ) := fun h => by
    unfold gop at h ⊢
    dsimp only at h ⊢
    split at h
    case h_2 => exact h.elim
    obtain ⟨h1, h2, h3⟩ := h
    exact ⟨.inr ⟨_, h3.symm⟩, by unfold free at h1 ⊢; dsimp only at h1 ⊢; rw [← hG]; exact h1, h2, h3⟩
  unfold gop1v at h ⊢
  dsimp only at h ⊢
  cases guard with
  | none => exact main h
  | some g =>
    obtain ⟨j', want⟩ := g
    dsimp only at h ⊢
    cases ht : (all[j']?).bind (·.dst) with
    | none => rw [ht] at h; exact h.elim
    | some t' =>
    rw [ht] at h
    dsimp only at h ⊢
    split at h
    case h_3 => exact h.elim
    case h_2 => exact ⟨.inl h.2.symm, h⟩
    rename_i b hb
    by_cases e : b = want
    · obtain ⟨h1, h2⟩ := main (h.1 e)
      exact ⟨h1, fun _ => h2, h.2⟩
    · have e' : b = !want := by cases b <;> cases want <;> simp_all
      exact ⟨.inl (h.2 e').2.symm, fun e2 => absurd e2 e, h.2⟩
/-- A load of a cell that stays. -/
def loadOf (o : Oper) : Option Nat := match o.op with
  | .load _ (.tmp x) => some x
  | _ => none
theorem load_gop1v {all : Array Oper} {o : Oper} {F : Nat → GV} {v : GV} {δ : Dl} {x : Nat} {κ : Key} {off : Nat} (hx : loadOf o = some x) (hk : A.wkey x = some (κ, off)) {cs cs' : List GV} (h1 : get G κ = some (.box cs)) (h2 : get G' κ = some (.box cs')) (he : cs'[off]? = cs[off]?)
    (h : gop1v P C A d all o F G (fun v' δ' => v' = v ∧ δ' = δ)) : δ = .nop ∧ gop1v P C A d all o F G' (fun v' δ' => v' = v ∧ δ' = δ) := by
  obtain ⟨dst, op, ty, pos, after, guard⟩ := o
  unfold loadOf at hx
  cases op <;> dsimp only at hx <;> try (cases hx; done)
  rename_i t a
  cases a <;> dsimp only at hx <;> try (cases hx; done)
  cases hx
  have main : gop P C A d ⟨dst, .load t (.tmp x), ty, pos, after, guard⟩ F G (fun v' δ' => v' = v ∧ δ' = δ) → δ = .nop ∧ gop P C A d ⟨dst, .load t (.tmp x), ty, pos, after, guard⟩ F G' (fun v' δ' => v' = v ∧ δ' = δ) := fun h => by
    unfold gop at h ⊢
    dsimp only at h ⊢
    obtain ⟨hb, hw, h⟩ := h
    have hw' := hw
    unfold wkC at hw'
    dsimp only at hw'
    rw [hk] at hw'
    dsimp only at hw'
    obtain ⟨e1, e2⟩ := hw'
    rw [e1] at h
    unfold gLoad at h
    dsimp only at h
    rw [h1] at h
    dsimp only at h
    unfold gLoadC at h
    cases htk : tk P t with
    | bad => rw [htk] at e2; exact e2.elim
    | row n => rw [htk] at e2; exact e2.elim
    | one =>
      rw [htk] at h
      dsimp only at h
      cases hc : cs[off]? with
      | none => rw [hc] at h; exact h.elim
      | some g =>
        rw [hc] at h
        obtain ⟨h3, h4⟩ := h
        refine ⟨h4.symm, hb, hw, ?_⟩
        rw [e1]
        unfold gLoad
        dsimp only
        rw [h2]
        dsimp only
        unfold gLoadC
        rw [htk]
        dsimp only
        rw [he, hc]
        exact ⟨h3, h4⟩
  unfold gop1v at h ⊢
  dsimp only at h ⊢
  cases guard with
  | none => exact main h
  | some g =>
    obtain ⟨j', want⟩ := g
    dsimp only at h ⊢
    cases ht : (all[j']?).bind (·.dst) with
    | none => rw [ht] at h; exact h.elim
    | some t' =>
    rw [ht] at h
    dsimp only at h ⊢
    split at h
    case h_3 => exact h.elim
    case h_2 => exact ⟨h.2.symm, h⟩
    rename_i b hb
    by_cases e : b = want
    · obtain ⟨h1, h2⟩ := main (h.1 e)
      exact ⟨h1, fun _ => h2, h.2⟩
    · have e' : b = !want := by cases b <;> cases want <;> simp_all
      exact ⟨(h.2 e').2.symm, fun e2 => absurd e2 e, h.2⟩
/-- Which open call may change places with which operation. -/
def openB (A : Ann) (o : Oper) : Bool := dstIn A.openAt o.dst && dstIn A.drwAt o.dst && !dstIn A.borAt o.dst && isCallV o
def watchB (A : Ann) (oc o : Oper) : Bool := match oc.dst, loadOf o with
  | some j, some x => (A.watch j).contains x
  | _, _ => false
def alsoB (A : Ann) (oc o : Oper) : Bool := match oc.dst, o.dst with
  | some j, some t => allocB o && (A.also j).contains t
  | _, _ => false
/-- The open call stands ahead; the other one goes first. -/
theorem swapO1 {all : Array Oper} {oi oj : Oper} {K : St → Prop} {s : St} (hoj : openB A oj = true) (hap : oj.apart all oi = true) (hcl : (heapless A oi || alsoB A oj oi || watchB A oj oi) = true)
    (h : gop1 P C A d all oj (gop1 P C A d all oi K) s) : gop1 P C A d all oi (gop1 P C A d all oj K) s := by
  unfold openB at hoj
  simp only [Bool.and_eq_true, Bool.not_eq_true'] at hoj
  obtain ⟨⟨⟨o1, o2⟩, o3⟩, o4⟩ := hoj
  obtain ⟨j, hj⟩ : ∃ j, oj.dst = some j := by
    cases hq : oj.dst with
    | none => rw [hq] at o1; cases o1
    | some j => exact ⟨j, rfl⟩
  obtain ⟨ha1, ha2, ha3⟩ := Oper.apart_spec hap
  obtain ⟨F, G⟩ := s
  rw [gop1_eq] at h ⊢
  obtain ⟨vj, δj, hj1, h2⟩ := cps_gop1v h
  rw [gop1_eq] at h2
  obtain ⟨vi, δi, hi1, hK⟩ := cps_gop1v h2
  simp only at hj1 hi1 hK ⊢
  have hne : ∀ t, oi.dst = some t → oj.dst ≠ some t := fun t e e' => ha2 t e' e
  have hFi : ∀ t, t ∈ oi.looksAt all → F t = put F oj.dst vj t := fun t ht => (put_other fun e => ha1 t e ht).symm
  have hFj : ∀ t, t ∈ oj.looksAt all → put F oi.dst vi t = F t := fun t ht => put_other fun e => ha3 t e ht
  have hput : put (put F oj.dst vj) oi.dst vi = put (put F oi.dst vi) oj.dst vj := (put_comm hne).symm
  -- oi at the state ahead, oj behind it
  have fin : ∀ (δi' : Dl), gop1v P C A d all oi F G (fun v' δ' => v' = vi ∧ δ' = δi') → (∃ δj', gop1v P C A d all oj F (appD G d oi.dst δi') (fun v' δ' => v' = vj ∧ δ' = δj') ∧ appD (appD G d oi.dst δi') d oj.dst δj' = appD (appD G d oj.dst δj) d oi.dst δi) →
      gop1v P C A d all oi F G (fun v δ => gop1 P C A d all oj K ⟨put F oi.dst v, appD G d oi.dst δ⟩) := fun δi' h1 ⟨δj', h3, h4⟩ => by
    refine mono_gop1v (fun v' δ' e => ?_) h1
    obtain ⟨rfl, rfl⟩ := e
    rw [gop1_eq]
    refine mono_gop1v (fun v'' δ'' e => ?_) (gop1v_congrF hFj h3)
    obtain ⟨rfl, rfl⟩ := e
    simp only
    rw [h4, ← hput]
    exact hK
  have hi2 := gop1v_congrF hFi hi1
  rcases open_gop1v o4 hj o1 o2 o3 hj1 with ⟨rfl, hany⟩ | ⟨G', rfl, hsame, _, hlook, hcall⟩
  · -- the call is left out
    have e0 : appD G d oj.dst .nop = G := rfl
    rw [e0] at hi2
    refine fin δi hi2 ⟨.nop, hany _, rfl⟩
  · have e0 : appD G d oj.dst (.heap0 G') = G' := rfl
    rw [e0] at hi2
    simp only [Bool.or_eq_true] at hcl
    rcases hcl with (hh | hal) | hwt
    · have h3 := heapless_gop1v (G' := G) hh hi2
      obtain ⟨v', δ', h4, ⟨rfl, rfl⟩, e3⟩ := cps_gop1v h3
      subst e3
      refine fin .nop h4 ⟨.heap0 G', ?_, rfl⟩
      have := hcall (fun t => G d t)
      rw [addAt_self] at this
      have e5 : addAt G' d (A.also j) (fun t => G d t) = G' := by
        funext k t
        unfold addAt
        split
        · rename_i e; show G d t = G' k t; rw [e.1]; exact (hsame t e.2).symm
        · rfl
      rw [e5] at this
      exact this
    · unfold alsoB at hal
      rw [hj] at hal
      obtain ⟨t, ht⟩ : ∃ t, oi.dst = some t := by
        cases hq : oi.dst with
        | none => rw [hq] at hal; cases hal
        | some t => exact ⟨t, rfl⟩
      · rw [ht] at hal
        simp only [Bool.and_eq_true, List.contains_iff_mem] at hal
        obtain ⟨hal, hmem⟩ := hal
        obtain ⟨hδ, h3⟩ := alloc_gop1v (G := G) hal ht (hsame t hmem) hi2
        refine fin δi h3 ?_
        rcases hδ with rfl | ⟨os, rfl⟩
        · refine ⟨.heap0 G', ?_, rfl⟩
          have := hcall (fun t => G d t)
          rw [addAt_self] at this
          have e5 : addAt G' d (A.also j) (fun t => G d t) = G' := by
            funext k t
            unfold addAt
            split
            · rename_i e; show G d t = G' k t; rw [e.1]; exact (hsame t e.2).symm
            · rfl
          rw [e5] at this
          exact this
        · refine ⟨.heap0 (fillKey G' d t os), ?_, ?_⟩
          · have := hcall (fun t' => if t' = t then os else G d t')
            rw [addAt_fill hmem] at this
            have e5 : addAt G' d (A.also j) (fun t' => if t' = t then os else G d t') = fillKey G' d t os := by
              rw [← addAt_fill (G := G') hmem]
              funext k t'
              unfold addAt
              split
              · rename_i e; show (if t' = t then os else G d t') = if t' = t then os else G' d t'; rw [hsame t' e.2]
              · rfl
            rw [e5] at this
            rw [ht]
            exact this
          · rw [ht]; rfl
    · unfold watchB at hwt
      rw [hj] at hwt
      cases hl : loadOf oi with
      | none => rw [hl] at hwt; cases hwt
      | some x =>
        rw [hl] at hwt
        simp only [List.contains_iff_mem] at hwt
        obtain ⟨κ, off, hk, cs, cs', g1, g2, g3⟩ := hlook x hwt
        obtain ⟨rfl, h3⟩ := load_gop1v (G := G') (G' := G) hl hk g2 g1 g3.symm hi2
        refine fin .nop h3 ⟨.heap0 G', ?_, rfl⟩
        have := hcall (fun t => G d t)
        rw [addAt_self] at this
        have e5 : addAt G' d (A.also j) (fun t => G d t) = G' := by
          funext k t
          unfold addAt
          split
          · rename_i e; show G d t = G' k t; rw [e.1]; exact (hsame t e.2).symm
          · rfl
        rw [e5] at this
        exact this
/-- The open call stands behind; it goes first. -/
theorem swapO2 {all : Array Oper} {oi oj : Oper} {K : St → Prop} {s : St} (hoi : openB A oi = true) (hap : oj.apart all oi = true) (hcl : (heapless A oj || watchB A oi oj) = true)
    (h : gop1 P C A d all oj (gop1 P C A d all oi K) s) : gop1 P C A d all oi (gop1 P C A d all oj K) s := by
  unfold openB at hoi
  simp only [Bool.and_eq_true, Bool.not_eq_true'] at hoi
  obtain ⟨⟨⟨o1, o2⟩, o3⟩, o4⟩ := hoi
  obtain ⟨i, hi⟩ : ∃ i, oi.dst = some i := by
    cases hq : oi.dst with
    | none => rw [hq] at o1; cases o1
    | some i => exact ⟨i, rfl⟩
  obtain ⟨ha1, ha2, ha3⟩ := Oper.apart_spec hap
  obtain ⟨F, G⟩ := s
  rw [gop1_eq] at h ⊢
  obtain ⟨vj, δj, hj1, h2⟩ := cps_gop1v h
  rw [gop1_eq] at h2
  obtain ⟨vi, δi, hi1, hK⟩ := cps_gop1v h2
  simp only at hj1 hi1 hK ⊢
  have hne : ∀ t, oi.dst = some t → oj.dst ≠ some t := fun t e e' => ha2 t e' e
  have hFi : ∀ t, t ∈ oi.looksAt all → F t = put F oj.dst vj t := fun t ht => (put_other fun e => ha1 t e ht).symm
  have hFj : ∀ t, t ∈ oj.looksAt all → put F oi.dst vi t = F t := fun t ht => put_other fun e => ha3 t e ht
  have hput : put (put F oj.dst vj) oi.dst vi = put (put F oi.dst vi) oj.dst vj := (put_comm hne).symm
  have hi2 := gop1v_congrF hFi hi1
  have fin : δj = .nop → gop1v P C A d all oj F (appD G d oi.dst δi) (fun v' δ' => v' = vj ∧ δ' = .nop) → gop1v P C A d all oi F G (fun v δ => gop1 P C A d all oj K ⟨put F oi.dst v, appD G d oi.dst δ⟩) := fun e h3 => by
    subst e
    refine mono_gop1v (fun v' δ' e => ?_) hi2
    obtain ⟨rfl, rfl⟩ := e
    rw [gop1_eq]
    refine mono_gop1v (fun v'' δ'' e => ?_) (gop1v_congrF hFj h3)
    obtain ⟨rfl, rfl⟩ := e
    simp only
    rw [← hput]
    exact hK
  simp only [Bool.or_eq_true] at hcl
  rcases hcl with hh | hwt
  · have h3 := heapless_gop1v (G' := G) hh hj1
    obtain ⟨v', δ', h4, ⟨rfl, rfl⟩, e3⟩ := cps_gop1v h3
    subst e3
    have h5 := heapless_gop1v (G' := appD G d oi.dst δi) hh hj1
    exact fin rfl (mono_gop1v (fun _ _ e => e.1) h5)
  · unfold watchB at hwt
    rw [hi] at hwt
    cases hl : loadOf oj with
    | none => rw [hl] at hwt; cases hwt
    | some x =>
      rw [hl] at hwt
      simp only [List.contains_iff_mem] at hwt
      -- a load changes nothing
      have hnop : δj = .nop := by
        rcases gop1v_some hj1 with e | hg
        · exact e
        · obtain ⟨dst, op, ty, pos, after, guard⟩ := oj
          unfold loadOf at hl
          cases op <;> dsimp only at hl <;> try (cases hl; done)
          unfold gop at hg
          dsimp only at hg
          obtain ⟨_, _, hg⟩ := hg
          obtain ⟨v, hv, hv2⟩ := cps_gLoad hg
          exact hv2.2.symm
      subst hnop
      have e0 : appD G d oj.dst .nop = G := rfl
      rw [e0] at hi2
      rcases open_gop1v o4 hi o1 o2 o3 hi2 with ⟨rfl, _⟩ | ⟨G', rfl, hsame, _, hlook, hcall⟩
      · exact fin rfl hj1
      · obtain ⟨κ, off, hk, cs, cs', g1, g2, g3⟩ := hlook x hwt
        obtain ⟨_, h3⟩ := load_gop1v (G := G) (G' := G') hl hk g1 g2 g3 hj1
        exact fin rfl h3
end
end Go.Eng
