import Derived.Test.YtnahfkmdojbpkaaEF
import Derived.Laws.BytesString
import Derived.Lib.SlicesS
/-! The engine, part G: slices, lengths, sums, signs. -/
set_option linter.all false
namespace Go.Eng
section
variable {X : XS} {P : Program} {G : Heap} {R : RMap} {d : Nat} {w : World}

/-- A bound that may not be there. -/
def OR (M : Nat → Nat → Value → Prop) (G : Heap) (R : RMap) (d : Nat) : Option GV → Option Value → Prop
  | none, none => True
  | some g, some v => VR M G R d g v
  | _, _ => False
theorem OR.bound {M : Nat → Nat → Value → Prop} {g : Option GV} {v : Option Value} (h : OR M G R d g v) {n : Nat} {j : Int} (hb : gbound g n = some j) :
    (g = none ∧ v = none ∧ j = n) ∨ ∃ k, v = some (.int k j) ∧ g.isSome = true := by
  cases g with
  | none => cases v with
    | none => unfold gbound at hb; cases hb; exact .inl ⟨rfl, rfl, rfl⟩
    | some v => exact h.elim
  | some g => cases v with
    | none => exact h.elim
    | some v =>
      have h' : VR M G R d g v := h
      unfold gbound at hb
      split at hb
      · rename_i e; cases e
      · rename_i k j' e
        cases e
        cases hb
        have := VR.p_iff.1 h'
        unfold PR at this
        exact .inr ⟨k, by rw [this], rfl⟩
      · cases hb
theorem run_sliceBound {k : IntKind} {j : Int} {y : Nat} {c : BoundsCode} (h0 : 0 ≤ j) (h1 : j ≤ y) : (Instr.sliceBound (.int k j) y c).run P w = .ok j.toNat w := by
  simp [Instr.sliceBound, asIntOf, h0, h1]
theorem run_sliceBounds2 {M : Nat → Nat → Value → Prop} {b : Bool} {len cap : Nat} {lo hi : Option GV} {vlo vhi : Option Value} (hlo : OR M G R d lo vlo) (hhi : OR M G R d hi vhi) {l h : Int} (hl : gbound lo 0 = some l) (hh : gbound hi len = some h)
    (h0 : 0 ≤ l) (h1 : l ≤ h) (h2 : h ≤ len) (h3 : len ≤ cap) : (Instr.sliceBounds b len cap vlo vhi none).run P w = .ok (l.toNat, h.toNat, cap) w := by
  rcases hlo.bound hl with ⟨_, rfl, rfl⟩ | ⟨k, rfl, _⟩ <;> rcases hhi.bound hh with ⟨_, rfl, rfl⟩ | ⟨k', rfl, _⟩
  · simp [Instr.sliceBounds]
  · simp [Instr.sliceBounds, run_sliceBound (P := P) (w := w) (k := k') (j := h) (y := cap) (by omega) (by omega)]
  · simp [Instr.sliceBounds, run_sliceBound (P := P) (w := w) (k := k) (j := l) (y := len) (by omega) (by omega)]
  · simp [Instr.sliceBounds, run_sliceBound (P := P) (w := w) (k := k') (j := h) (y := cap) (by omega) (by omega), run_sliceBound (P := P) (w := w) (k := k) (j := l) (y := h.toNat) (by omega) (by omega)]
theorem run_sliceBounds3 {M : Nat → Nat → Value → Prop} {len cap : Nat} {lo hi : Option GV} {m : GV} {vlo vhi : Option Value} {vm : Value} (hlo : OR M G R d lo vlo) (hhi : OR M G R d hi vhi) (hm : VR M G R d m vm) {l h : Int} (hl : gbound lo 0 = some l) (hh : gbound hi len = some h)
    (hm' : gbound (some m) 0 = some h) (hs : hi.isSome = true) (h0 : 0 ≤ l) (h1 : l ≤ h) (h2 : h ≤ len) (h3 : len ≤ cap) : (Instr.sliceBounds true len cap vlo vhi (some vm)).run P w = .ok (l.toNat, h.toNat, h.toNat) w := by
  have hm2 : OR M G R d (some m) (some vm) := hm
  rcases hm2.bound hm' with ⟨e, _, _⟩ | ⟨k'', e, _⟩
  · cases e
  cases e
  rcases hhi.bound hh with ⟨rfl, _, _⟩ | ⟨k', rfl, _⟩
  · cases hs
  rcases hlo.bound hl with ⟨_, rfl, rfl⟩ | ⟨k, rfl, _⟩
  · simp [Instr.sliceBounds, run_sliceBound (P := P) (w := w) (k := k'') (j := h) (y := cap) (by omega) (by omega), run_sliceBound (P := P) (w := w) (k := k') (j := h) (y := h.toNat) (by omega) (by omega)]
  · simp [Instr.sliceBounds, run_sliceBound (P := P) (w := w) (k := k'') (j := h) (y := cap) (by omega) (by omega), run_sliceBound (P := P) (w := w) (k := k') (j := h) (y := h.toNat) (by omega) (by omega), run_sliceBound (P := P) (w := w) (k := k) (j := l) (y := h.toNat) (by omega) (by omega)]

theorem isStr_spec {t : TypeId} (h : isStr P t = true) : P.underlying t = some .string := by
  unfold isStr at h; split at h
  · assumption
  · cases h
theorem isSl_spec {t : TypeId} (h : isSl P t = true) : ∃ e, P.underlying t = some (.slice e) := by
  unfold isSl at h; split at h
  · rename_i e he; exact ⟨e, he⟩
  · cases h
theorem isBool_spec {t : TypeId} (h : isBool P t = true) : P.underlying t = some .bool := by
  unfold isBool at h; split at h
  · assumption
  · cases h
theorem isPtr_spec {t : TypeId} (h : isPtr P t = true) : ∃ e, P.underlying t = some (.pointer e) := by
  unfold isPtr at h; split at h
  · rename_i e he; exact ⟨e, he⟩
  · cases h
theorem intK_spec {t : TypeId} {k : IntKind} (h : intK P t = some k) : P.underlying t = some (.int k) := by
  unfold intK at h; split at h
  · cases h; assumption
  · cases h
theorem sub_PR {M : Nat → Nat → Value → Prop} {es : List (List PV)} {n : Nat} (hn : sizes es n) {a : Option Addr} {cap l h m : Nat} (hp : PR M (.sl es) (.slice a es.length cap)) (h1 : l ≤ h) (h2 : h ≤ es.length) (h3 : h ≤ m) (h4 : m ≤ cap) :
    PR M (.sl ((es.take h).drop l)) (.slice (if m = l then a else a.map (·.add (l * n))) (h - l) (m - l)) := by
  unfold PR at hp ⊢
  obtain ⟨a', cap', e, h5, h6, h7⟩ := hp
  injection e with e1 e2 e3
  subst e1 e3
  have hlen : ((es.take h).drop l).length = h - l := by simp; omega
  refine ⟨_, _, by rw [hlen], by rw [hlen]; omega, fun ha => ?_, fun hne => ?_⟩
  · have : a = none := by
      split at ha
      · exact ha
      · cases a with
        | none => rfl
        | some x => simp at ha
    have := h6 this
    omega
  · have hlt : l < h := by
      rcases Nat.lt_or_ge l h with h' | h'
      · exact h'
      · exact absurd (List.eq_nil_of_length_eq_zero (by rw [hlen]; omega)) hne
    have hes : es ≠ [] := by rintro rfl; simp at h2; omega
    obtain ⟨b, o, sz, rfl, hss⟩ := h7 hes
    have hsz : sz = n := by
      obtain ⟨e0, hm0⟩ : ∃ e0, es[0]? = some e0 := ⟨es[0]'(by omega), List.getElem?_eq_getElem (by omega)⟩
      have := (PRss.get hss hm0).1
      rw [← this]
      exact hn e0 (List.mem_of_getElem? hm0)
    subst hsz
    refine ⟨b, o + l * sz, sz, by rw [if_neg (by omega)]; simp [Addr.add_mid], PRss.of_get fun i e hi => ?_⟩
    rw [List.getElem?_drop, List.getElem?_take] at hi
    split at hi
    · obtain ⟨h8, h9⟩ := PRss.get hss hi
      exact ⟨h8, by rwa [show o + l * sz + i * sz = o + (l + i) * sz by rw [Nat.add_mul]; omega]⟩
    · cases hi
theorem slice_sound {t : TypeId} {g : GV} {x : Value} {lo hi mx : Option GV} {vlo vhi vmx : Option Value} {K : GV → Prop} (hx : VR (Mem X d G R w) G R d g x)
    (hlo : OR (Mem X d G R w) G R d lo vlo) (hhi : OR (Mem X d G R w) G R d hi vhi) (hmx : OR (Mem X d G R w) G R d mx vmx) (h : gSlice P t g lo hi mx K) :
    ∃ v rv, K v ∧ (Instr.sliceAt t x vlo vhi vmx).run P w = .ok rv w ∧ VR (Mem X d G R w) G R d v rv := by
  unfold gSlice at h
  split at h
  · rename_i s
    obtain ⟨ht, hm, h⟩ := h
    have hx' := VR.p_iff.1 hx
    unfold PR at hx'
    subst hx'
    split at h
    case h_2 => exact h.elim
    rename_i l hh hl hhh
    obtain ⟨h0, h1, h2, hK⟩ := h
    have hu := isStr_spec ht
    cases mx with
    | some m => cases hm
    | none => cases vmx with
      | some _ => exact hmx.elim
      | none =>
        refine ⟨_, .string (s.extract l.toNat hh.toNat), hK, ?_, VR.p_iff.2 (by unfold PR; rfl)⟩
        simp [Instr.sliceAt, run_underlying hu, Instr.slice, run_sliceBounds2 (P := P) (w := w) (b := false) hlo hhi hl hhh h0 h1 h2 (Nat.le_refl _)]
  · split at h
    case h_2 => exact h.elim
    rename_i es e n bytes hes he
    obtain ⟨hn, h⟩ := h
    obtain ⟨i, z, hu, hi', hz, hzn, hin, _, hn0, _⟩ := elT_spec he
    subst hin
    have hp := hx.elems hes
    have hp' := hp
    unfold PR at hp'
    obtain ⟨a, cap, rfl, hcap, _, _⟩ := hp'
    split at h
    case h_3 => exact h.elim
    · rename_i l hh hl hhh
      obtain ⟨h0, h1, h2, hK⟩ := h
      cases vmx with
      | some _ => exact hmx.elim
      | none =>
        refine ⟨_, .slice (if cap = l.toNat then a else a.map (·.add (l.toNat * i.size))) (hh.toNat - l.toNat) (cap - l.toNat), hK, ?_, VR.p_iff.2 (sub_PR hn hp (by omega) (by omega) (by omega) (by omega))⟩
        simp [Instr.sliceAt, run_underlying hu, Instr.slice, run_sliceBounds2 (P := P) (w := w) (b := true) hlo hhi hl hhh h0 h1 h2 hcap, sizeOf, typeInfo, hi']
    · rename_i l hh m hl hhh
      obtain ⟨h0, h1, h2, hm, hs, hK⟩ := h
      cases vmx with
      | none => exact hmx.elim
      | some vm =>
        have hmv : VR (Mem X d G R w) G R d m vm := hmx
        refine ⟨_, .slice (if hh.toNat = l.toNat then a else a.map (·.add (l.toNat * i.size))) (hh.toNat - l.toNat) (hh.toNat - l.toNat), hK, ?_, ?_⟩
        · simp [Instr.sliceAt, run_underlying hu, Instr.slice, run_sliceBounds3 (P := P) (w := w) hlo hhi hmv hl hhh hm hs h0 h1 h2 hcap, sizeOf, typeInfo, hi']
        · unfold VR
          refine ⟨sub_PR hn hp (by omega) (by omega) (Nat.le_refl _) (by omega), ?_⟩
          have hlen : ((es.take hh.toNat).drop l.toNat).length = hh.toNat - l.toNat := by simp; omega
          exact ⟨_, by rw [hlen]⟩

theorem len_sound {t : TypeId} {ty : TypeId} {g : GV} {x : Value} {K : GV → Prop} (hx : VR (Mem X d G R w) G R d g x) (h : gLen P t g K) :
    ∃ v rv, K v ∧ (Builtin.len_ #[t] ty #[x]).run P w = .ok rv w ∧ VR (Mem X d G R w) G R d v rv := by
  unfold gLen at h
  obtain ⟨ht, h⟩ := h
  split at h
  case h_2 => exact h.elim
  rename_i n hn
  refine ⟨_, .int .i64 n, h, ?_, VR.p_iff.2 (by unfold PR; rfl)⟩
  have sl : ∀ (es : List (List PV)), PR (Mem X d G R w) (.sl es) x → isSl P t = true → (Builtin.len_ #[t] ty #[x]).run P w = .ok (.int .i64 es.length) w := by
    intro es hp ht
    obtain ⟨e, hu⟩ := isSl_spec ht
    unfold PR at hp
    obtain ⟨a, cap, rfl, _⟩ := hp
    simp [Builtin.len_, run_underlying hu, goInt]
  unfold lenOf at hn
  split at hn
  · cases hn
    have hx' := VR.p_iff.1 hx
    unfold PR at hx'
    subst hx'
    simp [Builtin.len_, run_underlying (isStr_spec ht), goInt]
  · cases hn; exact sl _ (VR.p_iff.1 hx) ht
  · cases hn; exact sl _ hx.csl_sl ht
  · cases hn; exact sl _ hx.tsl_sl ht
  · cases hn
    obtain ⟨e, hu⟩ := isSl_spec ht
    unfold VR at hx
    obtain ⟨_, _, _, _, _, _, _, _, rfl, _⟩ := hx
    simp [Builtin.len_, run_underlying hu, goInt]
  · cases hn

theorem un_sound {op : UnOp} {g : GV} {x : Value} {K : GV → Prop} (hx : VR (Mem X d G R w) G R d g x) (h : gUn op g K) :
    ∃ v rv, K v ∧ (Op.unary op x).run P w = .ok rv w ∧ VR (Mem X d G R w) G R d v rv := by
  unfold gUn at h
  split at h
  case h_4 => exact h.elim
  all_goals
    have hx' := VR.p_iff.1 hx
    unfold PR at hx'
    subst hx'
    refine ⟨_, _, h, ?_, VR.p_iff.2 (by unfold PR; rfl)⟩
    simp [Op.unary, Op.intArith, Op.intBits]
theorem conv_sound {s t : TypeId} {g : GV} {x : Value} {K : GV → Prop} (hx : VR (Mem X d G R w) G R d g x) (h : gConv P s t g K) :
    ∃ v rv, K v ∧ (convert s t x).run P w = .ok rv w ∧ VR (Mem X d G R w) G R d v rv := by
  unfold gConv at h
  split at h
  · rename_i k n
    split at h
    case h_2 => exact h.elim
    rename_i ks k' h1 h2
    have hx' := VR.p_iff.1 hx
    unfold PR at hx'
    subst hx'
    refine ⟨_, .int k' (k'.wrap n), h, ?_, VR.p_iff.2 (by unfold PR; rfl)⟩
    simp [convert, run_underlying (intK_spec h1), run_underlying (intK_spec h2), Conv.intToInt]
  · rename_i b
    obtain ⟨h1, h2, hK⟩ := h
    have hx' := VR.p_iff.1 hx
    unfold PR at hx'
    subst hx'
    refine ⟨_, .string b, hK, ?_, hx⟩
    simp [convert, run_underlying (isStr_spec h1), run_underlying (isStr_spec h2)]
  · split at h
    case h_2 => exact h.elim
    rename_i e n bytes es he hes
    obtain ⟨h1, h2, rfl, h3, h⟩ := h
    split at h
    case h_2 => exact h.elim
    rename_i bs hbs
    obtain ⟨i, z, hu, hi', hz, hzn, hin, _, hn0, _⟩ := elT_spec he
    have hp := hx.elems hes
    unfold PR at hp
    obtain ⟨a, cap, rfl, hcap, _, hne⟩ := hp
    refine ⟨_, .string (strOf bs), h, ?_, VR.p_iff.2 (by unfold PR; rfl)⟩
    have hb : ∀ (es : List (List PV)) (bs : List Int), bytesOf es = some bs → es = bs.map fun n => [.int .u8 n] := by
      intro es
      induction es with
      | nil => intro bs h; simp [bytesOf] at h; subst h; rfl
      | cons e es ih =>
        intro bs h
        unfold bytesOf at h
        split at h
        · rename_i e1; cases e1
        · rename_i n r e1
          injection e1 with e1 e2
          subst e1 e2
          cases hr : bytesOf es with
          | none => rw [hr] at h; cases h
          | some r' =>
            rw [hr] at h
            simp at h
            subst h
            simp [ih r' hr]
        · cases h
    have hes' := hb es bs hbs
    simp only [convert, run_underlying hu, run_underlying (isStr_spec h2), Sem.run_bind, Result.andThen_ok, run_underlying (intK_spec h1)]
    cases bs with
    | nil =>
      subst hes'
      cases a with
      | none => simp [Conv.bytesToString, strOf]
      | some ad =>
        have := run_bytesToString (P := P) w ad 0 cap [] (by simp [loadCells, loadCellsFrom])
        simpa [strOf] using this
    | cons b0 bs =>
      obtain ⟨bb, o, sz, rfl, hss⟩ := hne (by rw [hes']; simp)
      have hsz : sz = 1 := by
        have := (PRss.get hss (i := 0) (e := [.int .u8 b0]) (by rw [hes']; rfl)).1
        simpa using this.symm
      subst hsz
      have hl : es.length = (b0 :: bs).length := by rw [hes']; simp
      rw [hl]
      refine run_bytesToString (P := P) w ⟨bb, o, none⟩ _ cap (b0 :: bs) ?_
      have := run_loadCells_list (P := P) w ⟨bb, o, none⟩ ((b0 :: bs).map (Value.int .u8)) (fun j v hv => by
        rw [List.getElem?_map] at hv
        cases hq : (b0 :: bs)[j]? with
        | none => rw [hq] at hv; cases hv
        | some q =>
          rw [hq] at hv
          cases hv
          have he' : es[j]? = some [.int .u8 q] := by rw [hes', List.getElem?_map, hq]; rfl
          obtain ⟨_, hps⟩ := PRss.get hss he'
          unfold PRs at hps
          obtain ⟨⟨v, hv1, hv2⟩, _⟩ := hps
          unfold PR at hv2
          subst hv2
          rw [Addr.add_mid]
          simpa using hv1.1)
      simpa using this
theorem min_sound {k : Bool} {gs : List GV} {vs : List Value} {v : GV} (hx : VRs (Mem X d G R w) G R d gs vs) (h : gMin k gs = some v) (ts : Array TypeId) (ty : TypeId) :
    ∃ rv, (if k then Builtin.min_ ts ty vs.toArray else Builtin.max_ ts ty vs.toArray).run P w = .ok rv w ∧ VR (Mem X d G R w) G R d v rv := by
  unfold gMin at h
  split at h
  case h_2 => cases h
  rename_i i a i' b
  split at h
  case isFalse => cases h
  rename_i hi
  subst hi
  cases h
  cases vs with
  | nil => unfold VRs at hx; exact hx.elim
  | cons x vs => cases vs with
    | nil => unfold VRs at hx; have := hx.2; unfold VRs at this; exact this.elim
    | cons y vs => cases vs with
      | cons z vs => unfold VRs at hx; have := hx.2; unfold VRs at this; have := this.2; unfold VRs at this; exact this.elim
      | nil =>
        unfold VRs at hx
        obtain ⟨h1, h2⟩ := hx
        unfold VRs at h2
        have h1' := VR.p_iff.1 h1
        have h2' := VR.p_iff.1 h2.1
        unfold PR at h1' h2'
        subst h1' h2'
        refine ⟨_, ?_, VR.p_iff.2 (by unfold PR; rfl)⟩
        cases k
        · simp [Builtin.max_, Builtin.max2]
        · simp [Builtin.min_, Builtin.min2]
end
end Go.Eng
