import Derived.Test.YtnahfkmdojbpkaaEK
/-! The engine, part L: what an operation's outcome hangs on. -/
set_option linter.all false
namespace Go.Eng
section
variable {P : Program} {C : CR} {A : Ann} {d : Nat} {G G' : Heap}
theorem cps_gLoad {t : TypeId} {a : GV} {K : GV → Prop} : gLoad P G t a K → ∃ v, gLoad P G t a (· = v) ∧ K v := by
  unfold gLoad gLoadC
  (repeat' split) <;> intro h <;> first | exact h.elim | exact h.2.elim | exact ⟨_, ⟨h.1, h.2.1, rfl⟩, h.2.2⟩ | exact ⟨_, ⟨h.1, rfl⟩, h.2⟩ | exact ⟨_, rfl, h⟩
theorem cps_gStore {t : TypeId} {a v : GV} {K : Dl → Prop} : gStore P G t a v K → ∃ δ, gStore P G t a v (· = δ) ∧ K δ := by
  unfold gStore
  (repeat' split) <;> intro h <;> first | exact h.elim | exact h.2.elim | exact h.2.2.elim | exact ⟨_, ⟨h.1, h.2.1, h.2.2.1, rfl⟩, h.2.2.2⟩ | exact ⟨_, ⟨h.1, h.2.1, rfl⟩, h.2.2⟩
theorem cps_gBuild {t : TypeId} {ps : List (Nat × GV)} {K : GV → Prop} : gBuild P t ps K → ∃ v, gBuild P t ps (· = v) ∧ K v := by
  unfold gBuild
  (repeat' split) <;> intro h <;> first | exact h.elim | exact ⟨_, rfl, h⟩
theorem cps_gBuildSlice {t : TypeId} {n : Nat} {ps : List (Nat × GV)} {K : GV → Dl → Prop} {dst : Option Nat} : gBuildSlice P A d t n ps K dst G → ∃ v δ, gBuildSlice P A d t n ps (fun v' δ' => v' = v ∧ δ' = δ) dst G ∧ K v δ := by
  unfold gBuildSlice
  (repeat' split) <;> intro h <;> first | exact h.elim | exact ⟨_, _, ⟨h.1, h.2.1, h.2.2.1, rfl, rfl⟩, h.2.2.2⟩ | exact ⟨_, _, ⟨h.1, h.2.1, rfl, rfl⟩, h.2.2⟩
theorem cps_gIndexAddr {t : TypeId} {x i : GV} {K : GV → Prop} : gIndexAddr P t x i K → ∃ v, gIndexAddr P t x i (· = v) ∧ K v := by
  unfold gIndexAddr
  (repeat' split) <;> intro h <;> first | exact h.elim | exact h.2.elim | exact ⟨_, ⟨h.1, h.2.1, h.2.2.1, rfl⟩, h.2.2.2⟩ | exact ⟨_, ⟨h.1, h.2.1, rfl⟩, h.2.2⟩
theorem cps_gFieldAddr {t : TypeId} {x : GV} {k : Nat} {K : GV → Prop} : gFieldAddr P t x k K → ∃ v, gFieldAddr P t x k (· = v) ∧ K v := by
  unfold gFieldAddr
  (repeat' split) <;> intro h <;> first | exact h.elim | exact h.2.elim | exact ⟨_, ⟨h.1, rfl⟩, h.2⟩
theorem cps_gField {t : TypeId} {x : GV} {k : Nat} {K : GV → Prop} : gField P t x k K → ∃ v, gField P t x k (· = v) ∧ K v := by
  unfold gField
  (repeat' split) <;> intro h <;> first | exact h.elim | exact ⟨_, ⟨h.1, rfl⟩, h.2⟩ | exact ⟨_, rfl, h⟩
theorem cps_gIndex {t : TypeId} {x i : GV} {K : GV → Prop} : gIndex P t x i K → ∃ v, gIndex P t x i (· = v) ∧ K v := by
  unfold gIndex
  (repeat' split) <;> intro h <;> first | exact h.elim | exact h.2.2.elim | exact ⟨_, ⟨h.1, h.2.1, rfl⟩, h.2.2⟩
theorem cps_gSlice {t : TypeId} {x : GV} {lo hi mx : Option GV} {K : GV → Prop} : gSlice P t x lo hi mx K → ∃ v, gSlice P t x lo hi mx (· = v) ∧ K v := by
  unfold gSlice
  (repeat' split) <;> intro h <;> first | exact h.elim | exact h.2.elim | exact h.2.2.elim | exact ⟨_, ⟨h.1, h.2.1, h.2.2.1, h.2.2.2.1, h.2.2.2.2.1, h.2.2.2.2.2.1, rfl⟩, h.2.2.2.2.2.2⟩ | exact ⟨_, ⟨h.1, h.2.1, h.2.2.1, h.2.2.2.1, h.2.2.2.2.1, rfl⟩, h.2.2.2.2.2⟩ | exact ⟨_, ⟨h.1, h.2.1, h.2.2.1, h.2.2.2.1, rfl⟩, h.2.2.2.2⟩
theorem cps_gLen {t : TypeId} {x : GV} {K : GV → Prop} : gLen P t x K → ∃ v, gLen P t x (· = v) ∧ K v := by
  unfold gLen
  rintro ⟨h1, h⟩
  split at h
  · exact ⟨_, ⟨h1, by simp [*]⟩, h⟩
  · exact h.elim
theorem cps_gAppend {t tx : TypeId} {s x : GV} {dst : Option Nat} {K : GV → Dl → Prop} : gAppend P A d G t tx s x dst K → ∃ v δ, gAppend P A d G t tx s x dst (fun v' δ' => v' = v ∧ δ' = δ) ∧ K v δ := by
  unfold gAppend
  (repeat' split) <;> intro h <;> first | exact h.elim | exact h.2.elim | (obtain ⟨h1, h2, h3, k, t, h4, h5, h6⟩ := h; exact ⟨_, _, ⟨h1, h2, h3, k, t, h4, h5, rfl, rfl⟩, h6⟩) | exact ⟨_, _, ⟨h.1, h.2.1, h.2.2.1, h.2.2.2.1, h.2.2.2.2.1, rfl, rfl⟩, h.2.2.2.2.2⟩ | exact ⟨_, _, ⟨h.1, h.2.1, h.2.2.1, h.2.2.2.1, rfl, rfl⟩, h.2.2.2.2⟩ | exact ⟨_, _, ⟨h.1, h.2.1, h.2.2.1, rfl, rfl⟩, h.2.2.2⟩
theorem cps_gEqS {t : TypeId} {x y : List GV} {n : Bool} {K : GV → Prop} : gEqS P t x y n K → ∃ v, gEqS P t x y n (· = v) ∧ K v := by
  unfold gEqS
  split
  · rintro ⟨r, h1, h2⟩
    exact ⟨_, ⟨r, h1, rfl⟩, h2⟩
  · exact fun h => h.elim
theorem cps_gBin {op : BinOp} {t : TypeId} {x y : GV} {K : GV → Prop} : gBin P op t x y K → ∃ v, gBin P op t x y (· = v) ∧ K v := by
  unfold gBin
  (repeat' split) <;> intro h <;> first | exact h.elim | exact h.2.elim | exact h.2.2.elim | exact cps_gEqS h | exact ⟨_, ⟨h.1, h.2.1, rfl⟩, h.2.2⟩ | exact ⟨_, ⟨h.1, rfl⟩, h.2⟩ | exact ⟨_, rfl, h⟩
theorem cps_gUn {op : UnOp} {x : GV} {K : GV → Prop} : gUn op x K → ∃ v, gUn op x (· = v) ∧ K v := by
  unfold gUn
  (repeat' split) <;> intro h <;> first | exact h.elim | exact ⟨_, rfl, h⟩
theorem cps_gConv {s t : TypeId} {x : GV} {K : GV → Prop} : gConv P s t x K → ∃ v, gConv P s t x (· = v) ∧ K v := by
  unfold gConv
  (repeat' split) <;> intro h <;> first | exact h.elim | exact h.2.2.2.2.elim | exact ⟨_, ⟨h.1, h.2.1, h.2.2.1, h.2.2.2.1, rfl⟩, h.2.2.2.2⟩ | exact ⟨_, ⟨h.1, h.2.1, rfl⟩, h.2.2⟩ | exact ⟨_, rfl, h⟩
theorem cps_gCall {f : GV} {args : List GV} {dst : Option Nat} {K : GV → Dl → Prop} : gCall C A d G f args dst K → ∃ v δ, gCall C A d G f args dst (fun v' δ' => v' = v ∧ δ' = δ) ∧ K v δ := by
  unfold gCall
  split
  case h_2 => intro h; exact h.elim
  by_cases hb : dstIn A.borAt dst = true
  · rw [if_pos hb]
    rintro ⟨as, hw, hcl, r, h1, h2, h3⟩
    exact ⟨_, _, by rw [if_pos hb]; exact ⟨as, hw, hcl, r, h1, h2, rfl, rfl⟩, h3⟩
  rw [if_neg hb]
  rintro ⟨as, hw, h⟩
  split at h
  · rename_i hc
    obtain ⟨r, G', h1, ⟨hd0, h2, h2', h3⟩ | ⟨t0, ht, ht', ha, hop, h3⟩⟩ := h
    · exact ⟨_, _, by rw [if_neg hb]; exact ⟨as, hw, by rw [if_pos hc]; exact ⟨r, G', h1, .inl ⟨hd0, h2, h2', rfl, rfl⟩⟩⟩, h3⟩
    · exact ⟨_, _, by rw [if_neg hb]; exact ⟨as, hw, by rw [if_pos hc]; exact ⟨r, G', h1, .inr ⟨t0, ht, ht', ha, hop, rfl, rfl⟩⟩⟩, h3⟩
  · rename_i hc
    obtain ⟨h0, r, h1, h⟩ := h
    split at h
    · rename_i hf
      exact ⟨_, _, by rw [if_neg hb]; exact ⟨as, hw, by rw [if_neg hc]; exact ⟨h0, r, h1, by rw [if_pos hf]; exact ⟨rfl, rfl⟩⟩⟩, h⟩
    · rename_i hf
      obtain ⟨h2, h3⟩ := h
      exact ⟨_, _, by rw [if_neg hb]; exact ⟨as, hw, by rw [if_neg hc]; exact ⟨h0, r, h1, by rw [if_neg hf]; exact ⟨h2, rfl, rfl⟩⟩⟩, h3⟩

theorem mono_gLoad {t : TypeId} {a : GV} {K K' : GV → Prop} (hk : ∀ v, K v → K' v) : gLoad P G t a K → gLoad P G t a K' := fun h => by
  obtain ⟨v, h1, h2⟩ := cps_gLoad h
  revert h1
  unfold gLoad gLoadC
  (repeat' split) <;> intro h <;> first | exact h.elim | exact h.2.elim | (exact ⟨h.1, h.2.1, h.2.2 ▸ hk _ h2⟩) | (exact ⟨h.1, h.2 ▸ hk _ h2⟩) | exact h ▸ hk _ h2
theorem mono_gStore {t : TypeId} {a v : GV} {K K' : Dl → Prop} (hk : ∀ v, K v → K' v) : gStore P G t a v K → gStore P G t a v K' := by
  unfold gStore
  (repeat' split) <;> intro h <;> first | exact h.elim | exact h.2.elim | exact h.2.2.elim | exact ⟨h.1, h.2.1, h.2.2.1, hk _ h.2.2.2⟩ | exact ⟨h.1, h.2.1, hk _ h.2.2⟩
theorem mono_gBuild {t : TypeId} {ps : List (Nat × GV)} {K K' : GV → Prop} (hk : ∀ v, K v → K' v) : gBuild P t ps K → gBuild P t ps K' := by
  unfold gBuild
  (repeat' split) <;> intro h <;> first | exact h.elim | exact hk _ h
theorem mono_gBuildSlice {t : TypeId} {n : Nat} {ps : List (Nat × GV)} {K K' : GV → Dl → Prop} (hk : ∀ v δ, K v δ → K' v δ) {dst : Option Nat} : gBuildSlice P A d t n ps K dst G → gBuildSlice P A d t n ps K' dst G := by
  unfold gBuildSlice
  (repeat' split) <;> intro h <;> first | exact h.elim | exact ⟨h.1, h.2.1, h.2.2.1, hk _ _ h.2.2.2⟩ | exact ⟨h.1, h.2.1, hk _ _ h.2.2⟩
theorem mono_gIndexAddr {t : TypeId} {x i : GV} {K K' : GV → Prop} (hk : ∀ v, K v → K' v) : gIndexAddr P t x i K → gIndexAddr P t x i K' := by
  unfold gIndexAddr
  (repeat' split) <;> intro h <;> first | exact h.elim | exact h.2.elim | exact ⟨h.1, h.2.1, h.2.2.1, hk _ h.2.2.2⟩ | exact ⟨h.1, h.2.1, hk _ h.2.2⟩
theorem mono_gFieldAddr {t : TypeId} {x : GV} {k : Nat} {K K' : GV → Prop} (hk : ∀ v, K v → K' v) : gFieldAddr P t x k K → gFieldAddr P t x k K' := by
  unfold gFieldAddr
  (repeat' split) <;> intro h <;> first | exact h.elim | exact h.2.elim | exact ⟨h.1, hk _ h.2⟩
theorem mono_gField {t : TypeId} {x : GV} {k : Nat} {K K' : GV → Prop} (hk : ∀ v, K v → K' v) : gField P t x k K → gField P t x k K' := by
  unfold gField
  (repeat' split) <;> intro h <;> first | exact h.elim | exact ⟨h.1, hk _ h.2⟩ | exact hk _ h
theorem mono_gIndex {t : TypeId} {x i : GV} {K K' : GV → Prop} (hk : ∀ v, K v → K' v) : gIndex P t x i K → gIndex P t x i K' := by
  unfold gIndex
  (repeat' split) <;> intro h <;> first | exact h.elim | exact h.2.2.elim | exact ⟨h.1, h.2.1, hk _ h.2.2⟩
theorem mono_gSlice {t : TypeId} {x : GV} {lo hi mx : Option GV} {K K' : GV → Prop} (hk : ∀ v, K v → K' v) : gSlice P t x lo hi mx K → gSlice P t x lo hi mx K' := by
  unfold gSlice
  (repeat' split) <;> intro h <;> first | exact h.elim | exact h.2.elim | exact h.2.2.elim | exact ⟨h.1, h.2.1, h.2.2.1, h.2.2.2.1, h.2.2.2.2.1, h.2.2.2.2.2.1, hk _ h.2.2.2.2.2.2⟩ | exact ⟨h.1, h.2.1, h.2.2.1, h.2.2.2.1, h.2.2.2.2.1, hk _ h.2.2.2.2.2⟩ | exact ⟨h.1, h.2.1, h.2.2.1, h.2.2.2.1, hk _ h.2.2.2.2⟩
theorem mono_gLen {t : TypeId} {x : GV} {K K' : GV → Prop} (hk : ∀ v, K v → K' v) : gLen P t x K → gLen P t x K' := by
  unfold gLen
  rintro ⟨h1, h⟩
  refine ⟨h1, ?_⟩
  split at h
  · first | exact hk _ h | (simp only [*]; exact hk _ h)
  · exact h.elim
theorem mono_gAppend {t tx : TypeId} {s x : GV} {dst : Option Nat} {K K' : GV → Dl → Prop} (hk : ∀ v δ, K v δ → K' v δ) : gAppend P A d G t tx s x dst K → gAppend P A d G t tx s x dst K' := by
  unfold gAppend
  (repeat' split) <;> intro h <;> first | exact h.elim | exact h.2.elim | (obtain ⟨h1, h2, h3, k, t, h4, h5, h6⟩ := h; exact ⟨h1, h2, h3, k, t, h4, h5, hk _ _ h6⟩) | exact ⟨h.1, h.2.1, h.2.2.1, h.2.2.2.1, h.2.2.2.2.1, hk _ _ h.2.2.2.2.2⟩ | exact ⟨h.1, h.2.1, h.2.2.1, h.2.2.2.1, hk _ _ h.2.2.2.2⟩ | exact ⟨h.1, h.2.1, h.2.2.1, hk _ _ h.2.2.2⟩
theorem mono_gEqS {t : TypeId} {x y : List GV} {n : Bool} {K K' : GV → Prop} (hk : ∀ v, K v → K' v) : gEqS P t x y n K → gEqS P t x y n K' := by
  unfold gEqS
  split
  · rintro ⟨r, h1, h2⟩
    exact ⟨r, h1, hk _ h2⟩
  · exact fun h => h.elim
theorem mono_gBin {op : BinOp} {t : TypeId} {x y : GV} {K K' : GV → Prop} (hk : ∀ v, K v → K' v) : gBin P op t x y K → gBin P op t x y K' := by
  unfold gBin
  (repeat' split) <;> intro h <;> first | exact h.elim | exact h.2.elim | exact h.2.2.elim | exact mono_gEqS hk h | exact ⟨h.1, h.2.1, hk _ h.2.2⟩ | exact ⟨h.1, hk _ h.2⟩ | exact hk _ h
theorem mono_gUn {op : UnOp} {x : GV} {K K' : GV → Prop} (hk : ∀ v, K v → K' v) : gUn op x K → gUn op x K' := by
  unfold gUn
  (repeat' split) <;> intro h <;> first | exact h.elim | exact hk _ h
theorem mono_gConv {s t : TypeId} {x : GV} {K K' : GV → Prop} (hk : ∀ v, K v → K' v) : gConv P s t x K → gConv P s t x K' := by
  unfold gConv
  (repeat' split) <;> intro h <;> first | exact h.elim | exact h.2.2.2.2.elim | exact ⟨h.1, h.2.1, h.2.2.1, h.2.2.2.1, hk _ h.2.2.2.2⟩ | exact ⟨h.1, h.2.1, hk _ h.2.2⟩ | exact hk _ h
theorem mono_gCall {f : GV} {args : List GV} {dst : Option Nat} {K K' : GV → Dl → Prop} (hk : ∀ v δ, K v δ → K' v δ) : gCall C A d G f args dst K → gCall C A d G f args dst K' := by
  unfold gCall
  split
  case h_2 => intro h; exact h.elim
  split
  · rintro ⟨as, hw, hcl, r, h1, h2, h3⟩
    exact ⟨as, hw, hcl, r, h1, h2, hk _ _ h3⟩
  rintro ⟨as, hw, h⟩
  refine ⟨as, hw, ?_⟩
  split at h
  · rename_i hc
    rw [if_pos hc]
    obtain ⟨r, G', h1, ⟨hd0, h2, h2', h3⟩ | ⟨t0, ht, ht', ha, hop, h3⟩⟩ := h
    · exact ⟨r, G', h1, .inl ⟨hd0, h2, h2', hk _ _ h3⟩⟩
    · exact ⟨r, G', h1, .inr ⟨t0, ht, ht', ha, hop, hk _ _ h3⟩⟩
  · rename_i hc
    rw [if_neg hc]
    obtain ⟨h0, r, h1, h⟩ := h
    refine ⟨h0, r, h1, ?_⟩
    split at h
    · rename_i hf; rw [if_pos hf]; exact hk _ _ h
    · rename_i hf; rw [if_neg hf]; exact ⟨h.1, hk _ _ h.2⟩
/-- A value alone. -/
theorem up {g : (GV → Prop) → Prop} {K : GV → Dl → Prop} {δ : Dl} (hm : ∀ K K' : GV → Prop, (∀ v, K v → K' v) → g K → g K') (h : ∃ v, g (· = v) ∧ K v δ) : ∃ v δ', g (fun v' => v' = v ∧ δ = δ') ∧ K v δ' := by
  obtain ⟨v, h1, h2⟩ := h
  exact ⟨v, δ, hm _ _ (fun _ e => ⟨e, rfl⟩) h1, h2⟩

/-- The outcome is one. -/
theorem cps_gop {o : Oper} {F : Nat → GV} {K : GV → Dl → Prop} (h : gop P C A d o F G K) : ∃ v δ, gop P C A d o F G (fun v' δ' => v' = v ∧ δ' = δ) ∧ K v δ := by
  obtain ⟨dst, op, ty, pos, after, guard⟩ := o
  have up' : ∀ {g : (GV → Prop) → Prop} {δ : Dl}, (∀ K K' : GV → Prop, (∀ v, K v → K' v) → g K → g K') → (∃ v, g (· = v) ∧ K v δ) → ∃ v δ', g (fun v' => v' = v ∧ δ = δ') ∧ K v δ' := fun hm h => up hm h
  cases op <;> unfold gop at h ⊢ <;> dsimp only at h ⊢ <;> try exact h.elim
  case move x => exact ⟨_, _, ⟨rfl, rfl⟩, h⟩
  case assign x => exact ⟨_, _, ⟨rfl, rfl⟩, h⟩
  case pick c x y =>
    split at h
    case h_2 => exact h.elim
    rename_i t ht
    cases t with
    | true => exact ⟨_, _, ⟨fun _ => ⟨rfl, rfl⟩, fun e => (by cases e)⟩, h.1 rfl⟩
    | false => exact ⟨_, _, ⟨(fun e => by cases e), fun _ => ⟨rfl, rfl⟩⟩, h.2 rfl⟩
  case alloc t =>
    split at h
    case h_2 => exact h.elim
    exact ⟨_, _, ⟨h.1, rfl, rfl⟩, h.2⟩
  case box t x =>
    split at h
    case h_2 => exact h.elim
    by_cases hfz : dstIn A.frzAt dst = true
    · rw [if_pos hfz] at h
      split at h
      case h_2 => exact h.elim
      exact ⟨_, _, by rw [if_pos hfz]; exact ⟨rfl, rfl⟩, h⟩
    · rw [if_neg hfz] at h
      exact ⟨_, _, by rw [if_neg hfz]; exact ⟨h.1, rfl, rfl⟩, h.2⟩
  case build => exact up' (fun _ _ hk => mono_gBuild hk) (cps_gBuild h)
  case buildSlice => exact cps_gBuildSlice h
  case load =>
    obtain ⟨hb, hb2, h⟩ := h
    obtain ⟨v, δ, h1, h2⟩ := up' (fun _ _ hk => mono_gLoad hk) (cps_gLoad h)
    exact ⟨v, δ, ⟨hb, hb2, h1⟩, h2⟩
  case store =>
    obtain ⟨hb, h⟩ := h
    obtain ⟨δ, h1, h2⟩ := cps_gStore h
    exact ⟨_, δ, ⟨hb, mono_gStore (fun _ e => ⟨rfl, e⟩) h1⟩, h2⟩
  case nilCheck x => (repeat' split at h) <;> first | exact h.elim | exact ⟨_, _, ⟨rfl, rfl⟩, h⟩
  case binOp => exact up' (fun _ _ hk => mono_gBin hk) (cps_gBin h)
  case unOp => exact up' (fun _ _ hk => mono_gUn hk) (cps_gUn h)
  case convert => exact up' (fun _ _ hk => mono_gConv hk) (cps_gConv h)
  case makeFunc f first caps =>
    cases f <;> dsimp only at h ⊢ <;> try exact h.elim
    exact ⟨_, _, ⟨h.1, rfl, rfl⟩, h.2⟩
  case slice => exact up' (fun _ _ hk => mono_gSlice hk) (cps_gSlice h)
  case fieldAddr => exact up' (fun _ _ hk => mono_gFieldAddr hk) (cps_gFieldAddr h)
  case field => exact up' (fun _ _ hk => mono_gField hk) (cps_gField h)
  case indexAddr => exact up' (fun _ _ hk => mono_gIndexAddr hk) (cps_gIndexAddr h)
  case index => exact up' (fun _ _ hk => mono_gIndex hk) (cps_gIndex h)
  case extract x k =>
    split at h
    case h_2 => exact h.elim
    rename_i vs hv
    split at h
    case h_2 => exact h.elim
    rename_i v hv'
    exact ⟨_, _, ⟨rfl, rfl⟩, h⟩
  case call c =>
    split at h
    · exact cps_gCall h
    · unfold gBuiltin at h ⊢
      split at h
      · exact up' (g := fun K => gLen P _ _ K) (fun _ _ hk => mono_gLen hk) (cps_gLen h)
      · obtain ⟨v, δ, h1, h2⟩ := cps_gAppend h.2
        exact ⟨v, δ, ⟨h.1, h1⟩, h2⟩
      · split at h
        · exact ⟨_, _, ⟨rfl, rfl⟩, h⟩
        · exact h.elim
      · split at h
        · exact ⟨_, _, ⟨rfl, rfl⟩, h⟩
        · exact h.elim
      · exact h.elim
    · exact h.elim
theorem mono_gop {o : Oper} {F : Nat → GV} {K K' : GV → Dl → Prop} (hk : ∀ v δ, K v δ → K' v δ) (h : gop P C A d o F G K) : gop P C A d o F G K' := by
  obtain ⟨dst, op, ty, pos, after, guard⟩ := o
  cases op <;> unfold gop at h ⊢ <;> dsimp only at h ⊢ <;> try exact h.elim
  case move x => exact hk _ _ h
  case assign x => exact hk _ _ h
  case pick c x y =>
    split at h
    case h_2 => exact h.elim
    exact ⟨fun e => hk _ _ (h.1 e), fun e => hk _ _ (h.2 e)⟩
  case alloc t =>
    split at h
    case h_2 => exact h.elim
    exact ⟨h.1, hk _ _ h.2⟩
  case box t x =>
    split at h
    case h_2 => exact h.elim
    by_cases hfz : dstIn A.frzAt dst = true
    · rw [if_pos hfz] at h ⊢
      split at h
      case h_2 => exact h.elim
      exact hk _ _ h
    · rw [if_neg hfz] at h ⊢
      exact ⟨h.1, hk _ _ h.2⟩
  case build => exact mono_gBuild (fun _ => hk _ _) h
  case buildSlice => exact mono_gBuildSlice hk h
  case load => exact ⟨h.1, h.2.1, mono_gLoad (fun _ => hk _ _) h.2.2⟩
  case store => exact ⟨h.1, mono_gStore (fun _ => hk _ _) h.2⟩
  case nilCheck x => (repeat' split at h) <;> first | exact h.elim | exact hk _ _ h
  case binOp => exact mono_gBin (fun _ => hk _ _) h
  case unOp => exact mono_gUn (fun _ => hk _ _) h
  case convert => exact mono_gConv (fun _ => hk _ _) h
  case makeFunc f first caps =>
    cases f <;> dsimp only at h ⊢ <;> try exact h.elim
    exact ⟨h.1, hk _ _ h.2⟩
  case slice => exact mono_gSlice (fun _ => hk _ _) h
  case fieldAddr => exact mono_gFieldAddr (fun _ => hk _ _) h
  case field => exact mono_gField (fun _ => hk _ _) h
  case indexAddr => exact mono_gIndexAddr (fun _ => hk _ _) h
  case index => exact mono_gIndex (fun _ => hk _ _) h
  case extract x k =>
    split at h
    case h_2 => exact h.elim
    split at h
    case h_2 => exact h.elim
    exact hk _ _ h
  case call c =>
    split at h
    · exact mono_gCall hk h
    · unfold gBuiltin at h ⊢
      split at h
      · exact mono_gLen (fun _ => hk _ _) h
      · exact ⟨h.1, mono_gAppend hk h.2⟩
      · split at h
        · exact hk _ _ h
        · exact h.elim
      · split at h
        · exact hk _ _ h
        · exact h.elim
      · exact h.elim
    · exact h.elim
end
end Go.Eng
