import Derived.Test.YtnahfkmdojbpkaaEG
/-! The engine, part H: operators, appends. -/
set_option linter.all false
namespace Go.Eng
section
variable {X : XS} {P : Program} {G : Heap} {R : RMap} {d : Nat} {w : World}
theorem eqGuard_int {op : BinOp} {t : TypeId} {x y : Operand} {k k' : IntKind} {a b : Int} : (eqGuard op t x y (.int k a) (.int k' b)).run P w = .ok () w := by
  cases op <;> simp [eqGuard]
theorem eqGuard_bool {op : BinOp} {t : TypeId} {x y : Operand} {a b : Bool} : (eqGuard op t x y (.bool a) (.bool b)).run P w = .ok () w := by
  cases op <;> simp [eqGuard]
theorem eqGuard_str {op : BinOp} {t : TypeId} {x y : Operand} {a b : ByteArray} : (eqGuard op t x y (.string a) (.string b)).run P w = .ok () w := by
  cases op <;> simp [eqGuard]
theorem eqGuard_ptr {op : BinOp} {t : TypeId} {x y : Operand} {a b : Option Addr} : (eqGuard op t x y (.pointer a) (.pointer b)).run P w = .ok () w := by
  cases op <;> simp [eqGuard]
theorem toVs_spec {M : Nat → Nat → Value → Prop} : ∀ {ps : List PV} {vs us : List Value}, toVs ps = some vs → ps.length = us.length → (∀ (i : Nat) (p : PV), ps[i]? = some p → ∃ v, us[i]? = some v ∧ PR M p v) → us = vs
  | [], vs, us, h, hl, _ => by
    simp [toVs] at h
    subst h
    simp at hl
    exact List.eq_nil_of_length_eq_zero hl.symm
  | p :: ps, vs, [], _, hl, _ => by simp at hl
  | p :: ps, vs, u :: us, h, hl, hp => by
    unfold toVs at h
    split at h
    · rename_i v vs' hv hvs
      cases h
      obtain ⟨u', h1, h2⟩ := hp 0 p rfl
      simp at h1
      subst h1
      have : u = v := by
        unfold toV at hv
        split at hv <;> first
          | (cases hv; unfold PR at h2; exact h2)
          | (cases hv; done)
      subst this
      have e : us = vs' := toVs_spec hvs (by simpa using hl) (fun i p hi => by simpa using hp (i + 1) p (by simpa using hi))
      rw [e]
    · cases h
theorem eqS_sound {op : BinOp} {t : TypeId} {ox oy : Operand} {xs ys : List GV} {x y : Value} {neg : Bool} {K : GV → Prop} (hx : VR (Mem X d G R w) G R d (.agg xs) x) (hy : VR (Mem X d G R w) G R d (.agg ys) y)
    (hop : op = if neg then .neq else .eql) (h : gEqS P t xs ys neg K) :
    ∃ v rv, K v ∧ (do eqGuard op t ox oy x y; binOp op t x y : Sem Value).run P w = .ok rv w ∧ VR (Mem X d G R w) G R d v rv := by
  unfold gEqS at h
  split at h
  case h_2 => exact h.elim
  rename_i vs us hvs hus
  obtain ⟨r, hr, hK⟩ := h
  unfold VR at hx hy
  obtain ⟨xv, rfl, _, hxv⟩ := hx
  obtain ⟨yv, rfl, _, hyv⟩ := hy
  have e1 : xv = vs := by
    cases hp : purs xs with
    | none => rw [hp] at hvs; cases hvs
    | some ps =>
      rw [hp] at hvs
      obtain ⟨h1, h2⟩ := purs_get hp hxv
      exact toVs_spec hvs h1 h2
  have e2 : yv = us := by
    cases hp : purs ys with
    | none => rw [hp] at hus; cases hus
    | some ps =>
      rw [hp] at hus
      obtain ⟨h1, h2⟩ := purs_get hp hyv
      exact toVs_spec hus h1 h2
  subst e1 e2
  have hrw := hr w
  refine ⟨_, .bool (if neg then !r else r), hK, ?_, VR.p_iff.2 (by unfold PR; rfl)⟩
  have hg : ∀ (o o' : BinOp) (a b a' b' : Operand), (o = .eql ∨ o = .neq) → (o' = .eql ∨ o' = .neq) → eqGuard o t a b (.agg xv.toArray) (.agg yv.toArray) = eqGuard o' t a' b' (.agg xv.toArray) (.agg yv.toArray) := by
    intro o o' a b a' b' h1 h2
    rcases h1 with rfl | rfl <;> rcases h2 with rfl | rfl <;> rfl
  cases neg with
  | false =>
    simp only [Bool.false_eq_true, if_false] at hop ⊢
    subst hop
    rw [Sem.run_bind] at hrw ⊢
    rw [hg .eql .eql ox oy (.const undef) (.const undef) (.inl rfl) (.inl rfl)]
    cases hq : (eqGuard .eql t (.const undef) (.const undef) (.agg xv.toArray) (.agg yv.toArray)).run P w with
    | ok u w' =>
      rw [hq] at hrw
      simp only [Result.andThen_ok] at hrw ⊢
      simp [binOp, hrw]
    | halt u w' => rw [hq] at hrw; simp at hrw
  | true =>
    simp only [if_true] at hop ⊢
    subst hop
    rw [Sem.run_bind] at hrw ⊢
    rw [hg .neq .eql ox oy (.const undef) (.const undef) (.inr rfl) (.inl rfl)]
    cases hq : (eqGuard .eql t (.const undef) (.const undef) (.agg xv.toArray) (.agg yv.toArray)).run P w with
    | ok u w' =>
      rw [hq] at hrw
      simp only [Result.andThen_ok] at hrw ⊢
      simp [binOp, hrw]
    | halt u w' => rw [hq] at hrw; simp at hrw
theorem isNil_spec {M : Nat → Nat → Value → Prop} {g : GV} {x : Value} {b : Bool} (hx : VR M G R d g x) (h : isNilOf g = some b) : ∃ a, x = .pointer a ∧ a.isNone = b := by
  unfold isNilOf at h
  split at h
  · cases h; have := VR.p_iff.1 hx; unfold PR at this; exact ⟨none, this, rfl⟩
  · cases h; unfold VR at hx; exact ⟨_, hx.2.2, rfl⟩
  · cases h; unfold VR at hx; obtain ⟨b, o, rfl, _⟩ := hx; exact ⟨_, rfl, rfl⟩
  · cases h; have := VR.p_iff.1 hx; unfold PR at this; obtain ⟨b, o, rfl, _⟩ := this; exact ⟨_, rfl, rfl⟩
  · cases h
theorem run_eqPtr {t e : TypeId} (hu : P.underlying t = some (.pointer e)) {a b : Option Addr} (h : a.isNone = true ∨ b.isNone = true) :
    (Op.equal t (.pointer a) (.pointer b)).run P w = .ok (a.isNone && b.isNone) w := by
  unfold Op.equal Op.maxDepth Op.equalIn
  rw [Sem.run_bind, run_underlying hu w]
  cases a with
  | none => simp
  | some a => cases b with
    | none => simp
    | some b => simp at h
theorem run_eqBool {t : TypeId} (hu : P.underlying t = some .bool) {a b : Bool} : (Op.equal t (.bool a) (.bool b)).run P w = .ok (a == b) w := by
  unfold Op.equal Op.maxDepth Op.equalIn
  rw [Sem.run_bind, run_underlying hu w]
  rfl
theorem bin_sound {op : BinOp} {t : TypeId} {ox oy : Operand} {g h' : GV} {x y : Value} {K : GV → Prop} (hx : VR (Mem X d G R w) G R d g x) (hy : VR (Mem X d G R w) G R d h' y) (h : gBin P op t g h' K) :
    ∃ v rv, K v ∧ (do eqGuard op t ox oy x y; binOp op t x y : Sem Value).run P w = .ok rv w ∧ VR (Mem X d G R w) G R d v rv := by
  unfold gBin at h
  split at h
  · rename_i k a k' b
    have hx' := VR.p_iff.1 hx
    have hy' := VR.p_iff.1 hy
    unfold PR at hx' hy'
    subst hx' hy'
    rw [Sem.run_bind, eqGuard_int]
    simp only [Result.andThen_ok]
    split at h
    · obtain ⟨h0, hK⟩ := h
      refine ⟨_, _, hK, ?_, VR.p_iff.2 (by unfold PR; rfl)⟩
      have : ¬ b < 0 := by omega
      simp [binOp, Op.shift, this, shlI, shrI]
    · obtain ⟨h0, hK⟩ := h
      refine ⟨_, _, hK, ?_, VR.p_iff.2 (by unfold PR; rfl)⟩
      have : ¬ b < 0 := by omega
      simp [binOp, Op.shift, this, shlI, shrI]
    · obtain ⟨rfl, h0, hK⟩ := h
      refine ⟨_, _, hK, ?_, VR.p_iff.2 (by unfold PR; rfl)⟩
      simp [binOp, Op.intDiv, h0]
    · obtain ⟨rfl, h0, hK⟩ := h
      refine ⟨_, _, hK, ?_, VR.p_iff.2 (by unfold PR; rfl)⟩
      simp [binOp, Op.intDiv, h0]
    · rename_i n1 n2 n3 n4
      obtain ⟨rfl, h⟩ := h
      split at h
      case h_2 => exact h.elim
      rename_i v hv
      have key : ∃ rv, (binOp op t (.int k a) (.int k b)).run P w = .ok rv w ∧ PR (Mem X d G R w) v rv := by
        cases op <;> simp only [ibin, Option.some.injEq, reduceCtorEq] at hv <;> subst hv <;> refine ⟨_, ?_, by unfold PR; rfl⟩
        all_goals first
          | (simp [binOp, Op.intArith]; done)
          | (simp [binOp, Op.intBits, andI, orI, xorI, andNotI]; done)
          | (simp [binOp, Op.intCmp]; done)
          | (simp [binOp, Op.intCmp, bne]; rfl)
      obtain ⟨rv, h1, h2⟩ := key
      exact ⟨_, rv, h, h1, VR.p_iff.2 h2⟩
  · rename_i a b
    obtain ⟨ht, h⟩ := h
    have hu := isBool_spec ht
    have hx' := VR.p_iff.1 hx
    have hy' := VR.p_iff.1 hy
    unfold PR at hx' hy'
    subst hx' hy'
    rw [Sem.run_bind, eqGuard_bool]
    simp only [Result.andThen_ok]
    split at h
    · exact ⟨_, .bool (a == b), h, by simp [binOp, run_eqBool hu], VR.p_iff.2 (by unfold PR; rfl)⟩
    · exact ⟨_, .bool (!(a == b)), h, by simp [binOp, run_eqBool hu], VR.p_iff.2 (by unfold PR; rfl)⟩
    · exact h.elim
  · rename_i a b
    have hx' := VR.p_iff.1 hx
    have hy' := VR.p_iff.1 hy
    unfold PR at hx' hy'
    subst hx' hy'
    rw [Sem.run_bind, eqGuard_str]
    simp only [Result.andThen_ok]
    have hb : (a.toList == b.toList) = decide (a = b) := by
      by_cases e : a = b
      · rw [decide_eq_true e]; exact (Lib.bytes_beq_iff a b).2 e
      · rw [decide_eq_false e]; exact (Lib.bytes_beq_false_iff a b).2 e
    split at h
    · obtain ⟨hle, hK⟩ := h
      refine ⟨_, .string (a ++ b), hK, ?_, VR.p_iff.2 (by unfold PR; rfl)⟩
      have : ¬ (((a.size + b.size : Nat) : Int) > IntKind.i64.max) := by
        have : IntKind.i64.max = 9223372036854775807 := by decide
        omega
      simp only [binOp, Op.stringOp]
      rw [if_neg this]
      rfl
    · exact ⟨_, .bool (decide (a = b)), h, by simp only [binOp, Op.stringOp, Sem.run_pure, hb], VR.p_iff.2 (by unfold PR; rfl)⟩
    · exact ⟨_, .bool (!decide (a = b)), h, by simp only [binOp, Op.stringOp, Sem.run_pure, hb], VR.p_iff.2 (by unfold PR; rfl)⟩
    · exact ⟨_, .bool (Op.bytesLess a.toList b.toList), h, by simp only [binOp, Op.stringOp, Sem.run_pure], VR.p_iff.2 (by unfold PR; rfl)⟩
    · exact h.elim
  · rename_i xs ys
    split at h
    · exact eqS_sound hx hy rfl h
    · exact eqS_sound hx hy rfl h
    · exact h.elim
  · obtain ⟨ht, h⟩ := h
    obtain ⟨e, hu⟩ := isPtr_spec ht
    split at h
    case h_2 => exact h.elim
    rename_i a b ha hb
    obtain ⟨hab, h⟩ := h
    obtain ⟨pa, rfl, rfl⟩ := isNil_spec hx ha
    obtain ⟨pb, rfl, rfl⟩ := isNil_spec hy hb
    have hor : pa.isNone = true ∨ pb.isNone = true := by simpa using hab
    rw [Sem.run_bind, eqGuard_ptr]
    simp only [Result.andThen_ok]
    split at h
    · exact ⟨_, .bool (pa.isNone && pb.isNone), h, by simp only [binOp, Sem.run_bind, run_eqPtr hu hor, Result.andThen_ok, Sem.run_pure], VR.p_iff.2 (by unfold PR; rfl)⟩
    · exact ⟨_, .bool (!(pa.isNone && pb.isNone)), h, by simp only [binOp, Sem.run_bind, run_eqPtr hu hor, Result.andThen_ok, Sem.run_pure], VR.p_iff.2 (by unfold PR; rfl)⟩
    · exact h.elim
end
end Go.Eng
