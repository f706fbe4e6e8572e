import Derived.Test.YtnahfkmdojbpkaaEL
/-! The engine, part M: two operations in either order. -/
set_option linter.all false
namespace Go.Eng
def tgtV : GV → List Key
  | .bp κ _ => [κ]
  | .ap κ _ _ _ => [κ]
  | _ => []
def tgtD : GV → List Key
  | .tsl _ κ => [κ]
  | .arr κ _ _ => [κ]
  | _ => []
mutual
/-- The objects that a call that only looks may look up. -/
def keysV : GV → List Key
  | .bp κ _ => [κ]
  | .arr κ _ _ => [κ]
  | .fn _ gs => keysVs gs
  | .agg gs => keysVs gs
  | _ => []
def keysVs : List GV → List Key
  | [] => []
  | g :: gs => keysV g ++ keysVs gs
end
def tgtS : GV → List Key
  | .arr κ _ _ => [κ]
  | _ => []
def tgtA : List GV → List Key
  | [s, x] => tgtD s ++ tgtS x
  | _ => []
/-- The objects that an operation looks up. -/
def tgt (A : Ann) (o : Oper) (F : Nat → GV) : List Key :=
  match o.op with
  | .load _ a => tgtV (ge F a)
  | .store _ a _ => tgtV (ge F a)
  | .call c => match c.callee with
    | .builtin .append => tgtA (c.args.toList.map (ge F))
    | .value f => if dstIn A.borAt o.dst then keysVs (ge F f :: c.args.toList.map (ge F)) else []
    | _ => []
  | _ => []
def rdO (A : Ann) (o : Oper) : Bool :=
  match o.op with
  | .load _ _ => true
  | .store _ _ _ => true
  | .call c => match c.callee with
    | .builtin .append => true
    | .value _ => dstIn A.borAt o.dst
    | _ => false
  | _ => false
def wrO (A : Ann) (o : Oper) : Bool :=
  match o.op with
  | .store _ _ _ => true
  | .call c => match c.callee with
    | .builtin .append => !dstIn A.pureAt o.dst
    | _ => false
  | _ => false
/-- The object that a load or a store is told to name. -/
def boxOf (A : Ann) (o : Oper) : Option Nat :=
  match o.op with
  | .load _ (.tmp t) => A.boxAt t
  | .store _ (.tmp t) _ => A.boxAt t
  | .call c => match c.callee with
    | .builtin .append => (o.dst).bind fun j => A.boxAt (j + 1000000)
    | _ => none
  | _ => none
theorem tgt_nil {A : Ann} {o : Oper} (h : rdO A o = false) (F : Nat → GV) : tgt A o F = [] := by
  unfold rdO at h
  unfold tgt
  split at h <;> first | (cases h; done) | skip
  · split at h
    · cases h
    · rw [if_neg (by rw [h]; exact Bool.false_ne_true)]
    · rfl
  · rfl
theorem keysVs_app : ∀ (as bs : List GV), keysVs (as ++ bs) = keysVs as ++ keysVs bs
  | [], _ => rfl
  | a :: as, bs => by
    show keysVs (a :: (as ++ bs)) = _
    show keysV a ++ keysVs (as ++ bs) = (keysV a ++ keysVs as) ++ keysVs bs
    rw [keysVs_app as bs, List.append_assoc]
mutual
theorem wkB_live {G : Heap} {d : Nat} : ∀ (g r : GV), wkB G d g r → ∀ κ ∈ keysV g, get G κ ≠ none
  | .bp κ off, r, h, κ', hk => by
    unfold wkB at h
    simp [keysV] at hk
    subst hk
    obtain ⟨_, h⟩ := h
    intro e
    rw [e] at h
    exact h
  | .arr κ n sz, r, h, κ', hk => by
    unfold wkB at h
    simp [keysV] at hk
    subst hk
    obtain ⟨_, h⟩ := h
    intro e
    rw [e] at h
    exact h
  | .fn f gs, r, h, κ', hk => by
    unfold wkB at h
    unfold keysV at hk
    obtain ⟨rs, _, h⟩ := h
    exact wkBs_live gs rs h κ' hk
  | .agg gs, r, h, κ', hk => by
    unfold wkB at h
    unfold keysV at hk
    obtain ⟨rs, _, h⟩ := h
    exact wkBs_live gs rs h κ' hk
  | .undef, _, _, _, hk => by simp [keysV] at hk
  | .p _, _, _, _, hk => by simp [keysV] at hk
  | .csl _, _, _, _, hk => by simp [keysV] at hk
  | .tsl _ _, _, _, _, hk => by simp [keysV] at hk
  | .own _ _, _, _, _, hk => by simp [keysV] at hk
  | .obx _, _, _, _, hk => by simp [keysV] at hk
  | .oar _ _, _, _, _, hk => by simp [keysV] at hk
  | .ep _ _, _, _, _, hk => by simp [keysV] at hk
  | .ap _ _ _ _, _, _, _, hk => by simp [keysV] at hk
  | .tup _, _, _, _, hk => by simp [keysV] at hk
theorem wkBs_live {G : Heap} {d : Nat} : ∀ (gs rs : List GV), wkBs G d gs rs → ∀ κ ∈ keysVs gs, get G κ ≠ none
  | [], _, _, _, hk => by simp [keysVs] at hk
  | g :: gs, rs, h, κ, hk => by
    unfold wkBs at h
    unfold keysVs at hk
    obtain ⟨r, rs', rfl, h1, h2⟩ := h
    rcases List.mem_append.1 hk with hk | hk
    · exact wkB_live g r h1 κ hk
    · exact wkBs_live gs rs' h2 κ hk
end
mutual
theorem wkB_congr {G G' : Heap} {d : Nat} : ∀ (g r : GV), (∀ κ ∈ keysV g, get G' κ = get G κ) → wkB G d g r → wkB G' d g r
  | .bp κ off, r, hg, h => by
    unfold wkB at h ⊢
    rw [hg κ (by simp [keysV])]; exact h
  | .arr κ n sz, r, hg, h => by
    unfold wkB at h ⊢
    rw [hg κ (by simp [keysV])]; exact h
  | .fn f gs, r, hg, h => by
    unfold wkB at h ⊢
    obtain ⟨rs, h1, h⟩ := h
    exact ⟨rs, h1, wkBs_congr gs rs (by unfold keysV at hg; exact hg) h⟩
  | .agg gs, r, hg, h => by
    unfold wkB at h ⊢
    obtain ⟨rs, h1, h⟩ := h
    exact ⟨rs, h1, wkBs_congr gs rs (by unfold keysV at hg; exact hg) h⟩
  | .undef, _, _, h => by unfold wkB at h ⊢; exact h
  | .p _, _, _, h => by unfold wkB at h ⊢; exact h
  | .csl _, _, _, h => by unfold wkB at h ⊢; exact h
  | .tsl _ _, _, _, h => by unfold wkB at h ⊢; exact h
  | .own _ _, _, _, h => by unfold wkB at h ⊢; exact h
  | .obx _, _, _, h => by unfold wkB at h ⊢; exact h
  | .oar _ _, _, _, h => by unfold wkB at h ⊢; exact h
  | .ep _ _, _, _, h => by unfold wkB at h ⊢; exact h
  | .ap _ _ _ _, _, _, h => by unfold wkB at h ⊢; exact h
  | .tup _, _, _, h => by unfold wkB at h ⊢; exact h
theorem wkBs_congr {G G' : Heap} {d : Nat} : ∀ (gs rs : List GV), (∀ κ ∈ keysVs gs, get G' κ = get G κ) → wkBs G d gs rs → wkBs G' d gs rs
  | [], _, _, h => by unfold wkBs at h ⊢; exact h
  | g :: gs, rs, hg, h => by
    unfold wkBs at h ⊢
    unfold keysVs at hg
    obtain ⟨r, rs', h1, h2, h3⟩ := h
    exact ⟨r, rs', h1, wkB_congr g r (fun κ hk => hg κ (List.mem_append_left _ hk)) h2, wkBs_congr gs rs' (fun κ hk => hg κ (List.mem_append_right _ hk)) h3⟩
end
def Shape (A : Ann) (d : Nat) (G : Heap) (T : List Key) (o : Oper) : Dl → Prop
  | .nop => True
  | .fill _ => free G d o.dst
  | .set κ _ => κ ∈ T ∧ get G κ ≠ none ∧ wrO A o = true
  | .heap _ _ => False
  | .heap0 _ => False
section
variable {P : Program} {C : CR} {A : Ann} {d : Nat} {G G' : Heap}
theorem gLoad_live {t : TypeId} {a : GV} {K : GV → Prop} (h : gLoad P G t a K) : ∀ κ ∈ tgtV a, get G κ ≠ none := by
  unfold gLoad at h
  intro κ hk
  (repeat' split at h) <;> first | exact h.elim | (simp only [tgtV, List.mem_singleton, List.not_mem_nil] at hk; subst hk; simp_all; done) | (simp [tgtV] at hk)
theorem gStore_live {t : TypeId} {a v : GV} {K : Dl → Prop} (h : gStore P G t a v K) : ∀ κ ∈ tgtV a, get G κ ≠ none := by
  unfold gStore at h
  intro κ hk
  (repeat' split at h) <;> first | exact h.elim | exact h.2.elim | (simp only [tgtV, List.mem_singleton, List.not_mem_nil] at hk; subst hk; simp_all; done)
theorem srcOf_live {t : TypeId} {n : Nat} {x : GV} {xs : List (List PV)} (h : srcOf P G t n x = some xs) : ∀ κ ∈ tgtS x, get G κ ≠ none := by
  intro κ hk
  cases x <;> simp [tgtS] at hk
  subst hk
  unfold srcOf at h
  dsimp only at h
  split at h
  · split at h
    · simp_all
    · cases h
  · cases h
theorem srcOf_congr {t : TypeId} {n : Nat} {x : GV} (h : ∀ κ ∈ tgtS x, get G' κ = get G κ) : srcOf P G' t n x = srcOf P G t n x := by
  cases x <;> unfold srcOf
  case p v => cases v <;> rfl
  case arr => dsimp only; rw [h _ (by simp [tgtS])]
  all_goals rfl
theorem gAppend_live {t tx : TypeId} {s x : GV} {dst : Option Nat} {K : GV → Dl → Prop} (h : gAppend P A d G t tx s x dst K) : ∀ κ ∈ tgtA [s, x], get G κ ≠ none := by
  unfold gAppend at h
  intro κ hk
  unfold tgtA at hk
  split at h
  case h_2 => exact h.elim
  split at h
  case h_1 => exact h.elim
  rename_i xs hxs
  rcases List.mem_append.1 hk with hk | hk
  · split at h
    · simp [tgtD] at hk
    · simp only [tgtD, List.mem_singleton] at hk
      subst hk
      rw [h.2.2.2.2.1]; simp
    · simp only [tgtD, List.mem_singleton] at hk
      subst hk
      have h2 := h.2
      split at h2
      · rename_i hg; rw [hg]; simp
      · exact h2.elim
    · exact h.elim
  · exact srcOf_live hxs κ hk
theorem gop_live {o : Oper} {F : Nat → GV} {K : GV → Dl → Prop} (h : gop P C A d o F G K) : ∀ κ ∈ tgt A o F, get G κ ≠ none := by
  obtain ⟨dst, op, ty, pos, after, guard⟩ := o
  intro κ hk
  unfold tgt at hk
  cases op <;> dsimp only at hk <;> first | (cases hk; done) | skip
  case load t a => unfold gop at h; exact gLoad_live h.2.2 κ hk
  case store t a v => unfold gop at h; exact gStore_live h.2 κ hk
  case call c =>
    split at hk
    · rename_i hc
      unfold gop at h
      dsimp only at h
      rw [hc] at h
      dsimp only at h
      unfold gBuiltin at h
      split at h
      case h_2 => rename_i hxs; rw [hxs] at hk; exact gAppend_live h.2 κ hk
      case h_1 => rename_i hb _ _; cases hb
      case h_3 => rename_i hb; cases hb
      case h_4 => rename_i hb; cases hb
      case h_5 => exact h.elim
    · rename_i f hc
      split at hk
      case isFalse => cases hk
      rename_i hb
      unfold gop at h
      dsimp only at h
      rw [hc] at h
      dsimp only at h
      unfold gCall at h
      split at h
      case h_2 => exact h.elim
      rename_i n caps hf
      rw [if_pos hb] at h
      obtain ⟨as, hw, _⟩ := h
      refine wkBs_live _ _ hw κ ?_
      rw [keysVs_app]
      unfold keysVs at hk
      rw [hf] at hk
      rcases List.mem_append.1 hk with hk | hk
      · exact List.mem_append_right _ (by unfold keysV at hk; exact hk)
      · exact List.mem_append_left _ hk
    · cases hk

theorem gLoad_congr {t : TypeId} {a : GV} {K : GV → Prop} (hg : ∀ κ ∈ tgtV a, get G' κ = get G κ) (h : gLoad P G t a K) : gLoad P G' t a K := by
  cases a
  case p v => cases v <;> exact h
  case bp κ off => unfold gLoad at h ⊢; dsimp only at h ⊢; rw [hg _ (by simp [tgtV])]; exact h
  case ap κ n i off => unfold gLoad at h ⊢; dsimp only at h ⊢; rw [hg _ (by simp [tgtV])]; exact h
  all_goals exact h
theorem gStore_congr {t : TypeId} {a v : GV} {K : Dl → Prop} (hg : ∀ κ ∈ tgtV a, get G' κ = get G κ) (h : gStore P G t a v K) : gStore P G' t a v K := by
  unfold gStore at h ⊢
  split at h
  case h_2 => exact h.elim
  refine ⟨h.1, ?_⟩
  have h2 := h.2
  cases a <;> dsimp only at h2 ⊢ <;> try exact h2
  · rw [hg _ (by simp [tgtV])]; exact h2
  · rw [hg _ (by simp [tgtV])]; exact h2
theorem gAppend_congr {t tx : TypeId} {s x : GV} {dst : Option Nat} {K : GV → Dl → Prop} (ho : dstIn A.openAt dst = false) (hg : ∀ κ ∈ tgtA [s, x], get G' κ = get G κ) (hf : free G d dst → free G' d dst) (h : gAppend P A d G t tx s x dst K) : gAppend P A d G' t tx s x dst K := by
  unfold gAppend at h ⊢
  split at h
  case h_2 => exact h.elim
  rw [srcOf_congr (G := G) (G' := G') (fun κ hk => hg κ (by unfold tgtA; exact List.mem_append.2 (.inr hk)))]
  split at h
  case h_1 => exact h.elim
  rename_i xs _
  cases s <;> dsimp only at h ⊢ <;> try exact h.elim
  · by_cases hp : dstIn A.pureAt dst = true
    · rw [if_pos hp] at h ⊢; exact h
    · rw [if_neg hp] at h ⊢
      by_cases hemp : xs.isEmpty = true
      · rw [if_pos hemp] at h ⊢
        exact h
      rw [if_neg hemp] at h ⊢
      simp only [ho, Bool.false_eq_true, if_false] at h ⊢
      by_cases ha : dstIn A.arrAt dst = true
      · rw [if_pos ha] at h ⊢
        exact ⟨h.1, h.2.1, h.2.2.1, hf h.2.2.2.1, h.2.2.2.2⟩
      · rw [if_neg ha] at h ⊢
        exact ⟨h.1, h.2.1, h.2.2.1, hf h.2.2.2.1, h.2.2.2.2⟩
  · exact ⟨h.1, h.2.1, h.2.2.1, h.2.2.2.1, by rw [hg _ (by simp [tgtA, tgtD])]; exact h.2.2.2.2.1, h.2.2.2.2.2⟩
  · rw [hg _ (by simp [tgtA, tgtD])]; exact h
theorem gop_congrG {o : Oper} {F : Nat → GV} {K : GV → Dl → Prop} (ho : dstIn A.openAt o.dst = false) (hg : ∀ κ ∈ tgt A o F, get G' κ = get G κ) (hf : free G d o.dst → free G' d o.dst) (h : gop P C A d o F G K) : gop P C A d o F G' K := by
  obtain ⟨dst, op, ty, pos, after, guard⟩ := o
  unfold tgt at hg
  cases op <;> unfold gop at h ⊢ <;> dsimp only at h hg ho hf ⊢ <;> try exact h
  case alloc t =>
    split at h
    case h_2 => exact h.elim
    exact ⟨hf h.1, h.2⟩
  case box t x =>
    split at h
    case h_2 => exact h.elim
    by_cases hfz : dstIn A.frzAt dst = true
    · rw [if_pos hfz] at h ⊢; exact h
    · rw [if_neg hfz] at h ⊢; exact ⟨hf h.1, h.2⟩
  case buildSlice t n ps =>
    unfold gBuildSlice at h ⊢
    split at h
    case h_2 => exact h.elim
    split at h
    case h_2 => exact h.elim
    refine ⟨h.1, h.2.1, ?_⟩
    have h2 := h.2.2
    by_cases hc : dstIn A.arrAt dst = true
    · rw [if_pos hc] at h2 ⊢; exact ⟨hf h2.1, h2.2⟩
    · rw [if_neg hc] at h2 ⊢; exact h2
  case makeFunc f first caps => cases f <;> dsimp only at h ⊢ <;> exact h
  case load t a => exact ⟨h.1, h.2.1, gLoad_congr hg h.2.2⟩
  case store t a v => exact ⟨h.1, gStore_congr hg h.2⟩
  case call c =>
    split at h
    · rename_i f hc
      rw [hc] at hg
      dsimp only at hg
      unfold gCall at h ⊢
      split at h
      case h_2 => exact h.elim
      rename_i n caps hfn
      by_cases hb : dstIn A.borAt dst = true
      · rw [if_pos hb] at h ⊢
        rw [if_pos hb] at hg
        obtain ⟨as, hw, h⟩ := h
        refine ⟨as, wkBs_congr _ _ (fun κ hk => hg κ ?_) hw, h⟩
        rw [keysVs_app] at hk
        unfold keysVs
        rw [hfn]
        rcases List.mem_append.1 hk with hk | hk
        · exact List.mem_append_right _ hk
        · exact List.mem_append_left _ (by unfold keysV; exact hk)
      rw [if_neg hb] at h ⊢
      rw [ho] at h ⊢
      simp only [Bool.false_eq_true, if_false] at h ⊢
      obtain ⟨as, hw, h0, r, h1, h⟩ := h
      refine ⟨as, hw, h0, r, h1, ?_⟩
      split at h
      · rename_i hz; rw [if_pos hz]; exact h
      · rename_i hz; rw [if_neg hz]; exact ⟨hf h.1, h.2⟩
    · rename_i b hc
      unfold gBuiltin at h ⊢
      split at h <;> try exact h
      rename_i hxs
      refine ⟨h.1, ?_⟩
      replace h := h.2
      exact gAppend_congr ho (fun κ hk => hg κ (by rw [hc]; dsimp only; rw [hxs]; exact hk)) hf h
    · exact h.elim

theorem gop_shape {o : Oper} {F : Nat → GV} {K : GV → Dl → Prop} (ho : dstIn A.openAt o.dst = false) (h : gop P C A d o F G K) : gop P C A d o F G (fun v δ => K v δ ∧ Shape A d G (tgt A o F) o δ) := by
  obtain ⟨dst, op, ty, pos, after, guard⟩ := o
  cases op <;> unfold gop at h ⊢ <;> dsimp only at h ho ⊢ <;> try exact h.elim
  case move x => exact ⟨h, trivial⟩
  case assign x => exact ⟨h, trivial⟩
  case pick c x y =>
    split at h
    case h_2 => exact h.elim
    exact ⟨fun e => ⟨h.1 e, trivial⟩, fun e => ⟨h.2 e, trivial⟩⟩
  case alloc t =>
    split at h
    case h_2 => exact h.elim
    exact ⟨h.1, h.2, h.1⟩
  case box t x =>
    split at h
    case h_2 => exact h.elim
    by_cases hfz : dstIn A.frzAt dst = true
    · rw [if_pos hfz] at h ⊢
      split at h
      case h_2 => exact h.elim
      exact ⟨h, trivial⟩
    · rw [if_neg hfz] at h ⊢; exact ⟨h.1, h.2, h.1⟩
  case build => exact mono_gBuild (fun _ h => ⟨h, trivial⟩) h
  case buildSlice =>
    unfold gBuildSlice at h ⊢
    split at h
    case h_2 => exact h.elim
    split at h
    case h_2 => exact h.elim
    refine ⟨h.1, h.2.1, ?_⟩
    have h2 := h.2.2
    by_cases hc : dstIn A.arrAt dst = true
    · rw [if_pos hc] at h2 ⊢; exact ⟨h2.1, h2.2, h2.1⟩
    · rw [if_neg hc] at h2 ⊢; exact ⟨h2, trivial⟩
  case load => exact ⟨h.1, h.2.1, mono_gLoad (fun _ h => ⟨h, trivial⟩) h.2.2⟩
  case store t a v =>
    refine ⟨h.1, ?_⟩
    replace h := h.2
    have hl := gStore_live h
    unfold tgt
    dsimp only
    generalize ge F a = ga at h hl ⊢
    generalize ge F v = gv at h ⊢
    unfold gStore at h ⊢
    split at h
    case h_2 => exact h.elim
    refine ⟨h.1, ?_⟩
    have h2 := h.2
    split at h2
    · split at h2
      · exact ⟨h2.1, h2.2.1, h2.2.2, by simp [tgtV], hl _ (by simp [tgtV]), rfl⟩
      · exact h2.elim
    · split at h2
      · split at h2
        · exact ⟨h2.1, h2.2.1, h2.2.2, by simp [tgtV], hl _ (by simp [tgtV]), rfl⟩
        · exact h2.2.elim
      · exact h2.elim
    · exact h2.elim
  case nilCheck x => (repeat' split at h) <;> first | exact h.elim | exact ⟨h, trivial⟩
  case binOp => exact mono_gBin (fun _ h => ⟨h, trivial⟩) h
  case unOp => exact mono_gUn (fun _ h => ⟨h, trivial⟩) h
  case convert => exact mono_gConv (fun _ h => ⟨h, trivial⟩) h
  case makeFunc f first caps =>
    cases f <;> dsimp only at h ⊢ <;> try exact h.elim
    exact ⟨h.1, h.2, trivial⟩
  case slice => exact mono_gSlice (fun _ h => ⟨h, trivial⟩) h
  case fieldAddr => exact mono_gFieldAddr (fun _ h => ⟨h, trivial⟩) h
  case field => exact mono_gField (fun _ h => ⟨h, trivial⟩) h
  case indexAddr => exact mono_gIndexAddr (fun _ h => ⟨h, trivial⟩) h
  case index => exact mono_gIndex (fun _ h => ⟨h, trivial⟩) h
  case extract x k =>
    split at h
    case h_2 => exact h.elim
    split at h
    case h_2 => exact h.elim
    exact ⟨h, trivial⟩
  case call c =>
    split at h
    · unfold gCall at h ⊢
      split at h
      case h_2 => exact h.elim
      by_cases hb : dstIn A.borAt dst = true
      · rw [if_pos hb] at h ⊢
        obtain ⟨as, hw, hcl, r, h1, h2, h3⟩ := h
        exact ⟨as, hw, hcl, r, h1, h2, h3, trivial⟩
      rw [if_neg hb] at h ⊢
      rw [ho] at h ⊢
      simp only [Bool.false_eq_true, if_false] at h ⊢
      obtain ⟨as, hw, h0, r, h1, h⟩ := h
      refine ⟨as, hw, h0, r, h1, ?_⟩
      split at h
      · rename_i hz; rw [if_pos hz]; exact ⟨h, trivial⟩
      · rename_i hz; rw [if_neg hz]; exact ⟨h.1, h.2, h.1⟩
    · rename_i b hc
      unfold gBuiltin at h ⊢
      split at h
      · exact mono_gLen (fun _ h => ⟨h, trivial⟩) h
      · refine ⟨h.1, ?_⟩
        replace h := h.2
        have hl := gAppend_live h
        unfold gAppend at h ⊢
        split at h
        case h_2 => exact h.elim
        split at h
        case h_1 => exact h.elim
        rename_i xs _
        split at h
        · have h2 := h.2.2.2
          refine ⟨h.1, h.2.1, h.2.2.1, ?_⟩
          by_cases hp : dstIn A.pureAt dst = true
          · rw [if_pos hp] at h2 ⊢; exact ⟨h2, trivial⟩
          · rw [if_neg hp] at h2 ⊢
            by_cases hemp : xs.isEmpty = true
            · rw [if_pos hemp] at h2 ⊢; exact ⟨h2, trivial⟩
            rw [if_neg hemp] at h2 ⊢
            simp only [ho, Bool.false_eq_true, if_false] at h2 ⊢
            by_cases ha : dstIn A.arrAt dst = true
            · rw [if_pos ha] at h2 ⊢; exact ⟨h2.1, h2.2, h2.1⟩
            · rw [if_neg ha] at h2 ⊢; exact ⟨h2.1, h2.2, h2.1⟩
        · exact ⟨h.1, h.2.1, h.2.2.1, h.2.2.2.1, h.2.2.2.2.1, h.2.2.2.2.2, by simp only [tgt, hc, *]; simp [tgtA, tgtD], hl _ (by simp [tgtA, tgtD]), by simp [wrO, hc, h.1]⟩
        · have h2 := h.2
          refine ⟨h.1, ?_⟩
          split at h2
          · exact ⟨h2.1, h2.2.1, h2.2.2.1, h2.2.2.2.1, h2.2.2.2.2, by simp only [tgt, hc, *]; simp [tgtA, tgtD], hl _ (by simp [tgtA, tgtD]), by simp [wrO, hc, h.1]⟩
          · exact h2.elim
        · exact h.elim
      · split at h
        · exact ⟨h, trivial⟩
        · exact h.elim
      · split at h
        · exact ⟨h, trivial⟩
        · exact h.elim
      · exact h.elim
    · exact h.elim
theorem boxed {o : Oper} {F : Nat → GV} {K : GV → Dl → Prop} {k : Nat} (hb : boxOf A o = some k) (h : gop P C A d o F G K) : ∀ κ ∈ tgt A o F, κ.1 = d ∧ κ.2.1 = k := by
  obtain ⟨dst, op, ty, pos, after, guard⟩ := o
  unfold boxOf at hb
  unfold tgt
  cases op <;> dsimp only at hb ⊢ <;> try (cases hb; done)
  case load t a =>
    cases a <;> dsimp only at hb <;> try (cases hb; done)
    rename_i x
    unfold gop at h
    obtain ⟨h, _⟩ := h
    unfold boxC at h
    dsimp only at h
    rw [hb] at h
    dsimp only at h
    intro κ hk
    generalize ge F (.tmp x) = g at h hk
    cases g <;> unfold boxG at h <;> try exact h.elim
    simp only [tgtV, List.mem_singleton] at hk
    subst hk; exact h
  case call c =>
    split at hb
    case h_2 => cases hb
    rename_i hc
    rw [hc]
    dsimp only
    unfold gop at h
    dsimp only at h
    rw [hc] at h
    dsimp only at h
    unfold gBuiltin at h
    split at h
    case h_1 => rename_i hb2 _ _; cases hb2
    case h_3 => rename_i hb2; cases hb2
    case h_4 => rename_i hb2; cases hb2
    case h_5 => exact h.elim
    rename_i s y _ _ hxs
    rw [hxs]
    obtain ⟨h, _⟩ := h
    unfold appC at h
    cases dst with
    | none => cases hb
    | some j =>
      simp only [Option.bind_some] at hb
      dsimp only at h
      rw [hb] at h
      dsimp only at h
      intro κ hk
      unfold tgtA at hk
      rcases List.mem_append.1 hk with hk | hk
      · cases s <;> unfold appG at h <;> simp [tgtD] at hk
        · subst hk; exact ⟨h.1, h.2.1⟩
        · subst hk; exact ⟨h.1, h.2.1⟩
      · cases y <;> simp [tgtS] at hk
        cases s <;> unfold appG at h <;> simp at h
  case store t a v =>
    cases a <;> dsimp only at hb <;> try (cases hb; done)
    rename_i x
    unfold gop at h
    obtain ⟨h, _⟩ := h
    unfold boxC at h
    dsimp only at h
    rw [hb] at h
    dsimp only at h
    intro κ hk
    generalize ge F (.tmp x) = g at h hk
    cases g <;> unfold boxG at h <;> try exact h.elim
    simp only [tgtV, List.mem_singleton] at hk
    subst hk; exact h
end
end Go.Eng
