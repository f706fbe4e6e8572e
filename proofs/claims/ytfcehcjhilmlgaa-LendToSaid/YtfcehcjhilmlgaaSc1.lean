import Derived.Laws.BytesString
import Derived.Lib.SlicesS
import Derived.Test.YtfcehcjhilmlgaaSc0
section
set_option linter.all false
namespace Go.Eng
section
variable {X : XS} {P : Program} {G : Heap} {R : RMap} {d : Nat} {w : World}
def OR (M : Nat → Nat → Value → Prop) (G : Heap) (R : RMap) (d : Nat) : Option GV → Option Value → Prop
  | none, none => True
  | some g, some v => VR M G R d g v
  | _, _ => False
theorem OR.bound {M : Nat → Nat → Value → Prop} {g : Option GV} {v : Option Value} (h : OR M G R d g v) {n : Nat} {j : Int} (hb : gbound g n = some j) :
    (g = none ∧ v = none ∧ j = n) ∨ ∃ k, v = some (.int k j) ∧ g.isSome = true := by
  cases g with
  | none => cases v with
    | none => unfold gbound at hb; cases hb; exact .inl ⟨rfl, rfl, rfl⟩
    | some v => exact h.elim
  | some g => cases v with
    | none => exact h.elim
    | some v =>
      have h' : VR M G R d g v := h
      unfold gbound at hb
      split at hb
      · rename_i e; cases e
      · rename_i k j' e
        cases e
        cases hb
        have := VR.p_iff.1 h'
        unfold PR at this
        exact .inr ⟨k, by rw [this], rfl⟩
      · cases hb
theorem run_sliceBound {k : IntKind} {j : Int} {y : Nat} {c : BoundsCode} (h0 : 0 ≤ j) (h1 : j ≤ y) : (Instr.sliceBound (.int k j) y c).run P w = .ok j.toNat w := by
  simp [Instr.sliceBound, asIntOf, h0, h1]
theorem run_sliceBounds2 {M : Nat → Nat → Value → Prop} {b : Bool} {len cap : Nat} {lo hi : Option GV} {vlo vhi : Option Value} (hlo : OR M G R d lo vlo) (hhi : OR M G R d hi vhi) {l h : Int} (hl : gbound lo 0 = some l) (hh : gbound hi len = some h)
    (h0 : 0 ≤ l) (h1 : l ≤ h) (h2 : h ≤ len) (h3 : len ≤ cap) : (Instr.sliceBounds b len cap vlo vhi none).run P w = .ok (l.toNat, h.toNat, cap) w := by
  rcases hlo.bound hl with ⟨_, rfl, rfl⟩ | ⟨k, rfl, _⟩ <;> rcases hhi.bound hh with ⟨_, rfl, rfl⟩ | ⟨k', rfl, _⟩
  · simp [Instr.sliceBounds]
  · simp [Instr.sliceBounds, run_sliceBound (P := P) (w := w) (k := k') (j := h) (y := cap) (by omega) (by omega)]
  · simp [Instr.sliceBounds, run_sliceBound (P := P) (w := w) (k := k) (j := l) (y := len) (by omega) (by omega)]
  · simp [Instr.sliceBounds, run_sliceBound (P := P) (w := w) (k := k') (j := h) (y := cap) (by omega) (by omega), run_sliceBound (P := P) (w := w) (k := k) (j := l) (y := h.toNat) (by omega) (by omega)]
theorem run_sliceBounds3 {M : Nat → Nat → Value → Prop} {len cap : Nat} {lo hi : Option GV} {m : GV} {vlo vhi : Option Value} {vm : Value} (hlo : OR M G R d lo vlo) (hhi : OR M G R d hi vhi) (hm : VR M G R d m vm) {l h : Int} (hl : gbound lo 0 = some l) (hh : gbound hi len = some h)
    (hm' : gbound (some m) 0 = some h) (hs : hi.isSome = true) (h0 : 0 ≤ l) (h1 : l ≤ h) (h2 : h ≤ len) (h3 : len ≤ cap) : (Instr.sliceBounds true len cap vlo vhi (some vm)).run P w = .ok (l.toNat, h.toNat, h.toNat) w := by
  have hm2 : OR M G R d (some m) (some vm) := hm
  rcases hm2.bound hm' with ⟨e, _, _⟩ | ⟨k'', e, _⟩
  · cases e
  cases e
  rcases hhi.bound hh with ⟨rfl, _, _⟩ | ⟨k', rfl, _⟩
  · cases hs
  rcases hlo.bound hl with ⟨_, rfl, rfl⟩ | ⟨k, rfl, _⟩
  · simp [Instr.sliceBounds, run_sliceBound (P := P) (w := w) (k := k'') (j := h) (y := cap) (by omega) (by omega), run_sliceBound (P := P) (w := w) (k := k') (j := h) (y := h.toNat) (by omega) (by omega)]
  · simp [Instr.sliceBounds, run_sliceBound (P := P) (w := w) (k := k'') (j := h) (y := cap) (by omega) (by omega), run_sliceBound (P := P) (w := w) (k := k') (j := h) (y := h.toNat) (by omega) (by omega), run_sliceBound (P := P) (w := w) (k := k) (j := l) (y := h.toNat) (by omega) (by omega)]
theorem isStr_spec {t : TypeId} (h : isStr P t = true) : P.underlying t = some .string := by
  unfold isStr at h; split at h
  · assumption
  · cases h
theorem isSl_spec {t : TypeId} (h : isSl P t = true) : ∃ e, P.underlying t = some (.slice e) := by
  unfold isSl at h; split at h
  · rename_i e he; exact ⟨e, he⟩
  · cases h
theorem isBool_spec {t : TypeId} (h : isBool P t = true) : P.underlying t = some .bool := by
  unfold isBool at h; split at h
  · assumption
  · cases h
theorem isPtr_spec {t : TypeId} (h : isPtr P t = true) : ∃ e, P.underlying t = some (.pointer e) := by
  unfold isPtr at h; split at h
  · rename_i e he; exact ⟨e, he⟩
  · cases h
theorem intK_spec {t : TypeId} {k : IntKind} (h : intK P t = some k) : P.underlying t = some (.int k) := by
  unfold intK at h; split at h
  · cases h; assumption
  · cases h
theorem sub_PR {M : Nat → Nat → Value → Prop} {es : List (List PV)} {n : Nat} (hn : sizes es n) {a : Option Addr} {cap l h m : Nat} (hp : PR M (.sl es) (.slice a es.length cap)) (h1 : l ≤ h) (h2 : h ≤ es.length) (h3 : h ≤ m) (h4 : m ≤ cap) :
    PR M (.sl ((es.take h).drop l)) (.slice (if m = l then a else a.map (·.add (l * n))) (h - l) (m - l)) := by
  unfold PR at hp ⊢
  obtain ⟨a', cap', e, h5, h6, h7⟩ := hp
  injection e with e1 e2 e3
  subst e1 e3
  have hlen : ((es.take h).drop l).length = h - l := by simp; omega
  refine ⟨_, _, by rw [hlen], by rw [hlen]; omega, fun ha => ?_, fun hne => ?_⟩
  · have : a = none := by
      split at ha
      · exact ha
      · cases a with
        | none => rfl
        | some x => simp at ha
    have := h6 this
    omega
  · have hlt : l < h := by
      rcases Nat.lt_or_ge l h with h' | h'
      · exact h'
      · exact absurd (List.eq_nil_of_length_eq_zero (by rw [hlen]; omega)) hne
    have hes : es ≠ [] := by rintro rfl; simp at h2; omega
    obtain ⟨b, o, sz, rfl, hss⟩ := h7 hes
    have hsz : sz = n := by
      obtain ⟨e0, hm0⟩ : ∃ e0, es[0]? = some e0 := ⟨es[0]'(by omega), List.getElem?_eq_getElem (by omega)⟩
      have := (PRss.get hss hm0).1
      rw [← this]
      exact hn e0 (List.mem_of_getElem? hm0)
    subst hsz
    refine ⟨b, o + l * sz, sz, by rw [if_neg (by omega)]; simp [Addr.add_mid], PRss.of_get fun i e hi => ?_⟩
    rw [List.getElem?_drop, List.getElem?_take] at hi
    split at hi
    · obtain ⟨h8, h9⟩ := PRss.get hss hi
      exact ⟨h8, by rwa [show o + l * sz + i * sz = o + (l + i) * sz by rw [Nat.add_mul]; omega]⟩
    · cases hi
theorem slice_sound {t : TypeId} {g : GV} {x : Value} {lo hi mx : Option GV} {vlo vhi vmx : Option Value} {K : GV → Prop} (hx : VR (Mem X d G R w) G R d g x)
    (hlo : OR (Mem X d G R w) G R d lo vlo) (hhi : OR (Mem X d G R w) G R d hi vhi) (hmx : OR (Mem X d G R w) G R d mx vmx) (h : gSlice P t g lo hi mx K) :
    ∃ v rv, K v ∧ (Instr.sliceAt t x vlo vhi vmx).run P w = .ok rv w ∧ VR (Mem X d G R w) G R d v rv := by
  unfold gSlice at h
  split at h
  · rename_i s
    obtain ⟨ht, hm, h⟩ := h
    have hx' := VR.p_iff.1 hx
    unfold PR at hx'
    subst hx'
    split at h
    case h_2 => exact h.elim
    rename_i l hh hl hhh
    obtain ⟨h0, h1, h2, hK⟩ := h
    have hu := isStr_spec ht
    cases mx with
    | some m => cases hm
    | none => cases vmx with
      | some _ => exact hmx.elim
      | none =>
        refine ⟨_, .string (s.extract l.toNat hh.toNat), hK, ?_, VR.p_iff.2 (by unfold PR; rfl)⟩
        simp [Instr.sliceAt, run_underlying hu, Instr.slice, run_sliceBounds2 (P := P) (w := w) (b := false) hlo hhi hl hhh h0 h1 h2 (Nat.le_refl _)]
  · rename_i κ m sz
    split at h
    case h_2 => exact h.elim
    rename_i e n bytes l hh he hl hhh
    obtain ⟨hsz, hm, h0, h1, h2, hK⟩ := h
    obtain ⟨i, z, hu, hi', hz, hzn, hin, _, hn0, _⟩ := elT_spec he
    subst hin
    unfold VR at hx
    obtain ⟨hk, hR, es, hg, hle, b, o, c, rfl, hnc, ha⟩ := hx
    cases mx with
    | some m => cases hm
    | none => cases vmx with
      | some _ => exact hmx.elim
      | none =>
        refine ⟨_, .slice (if c = l.toNat then some ⟨b, o, none⟩ else some (Addr.add ⟨b, o, none⟩ (l.toNat * i.size))) (hh.toNat - l.toNat) (c - l.toNat), hK, ?_, ?_⟩
        · simp [Instr.sliceAt, run_underlying hu, Instr.slice, run_sliceBounds2 (P := P) (w := w) (b := true) hlo hhi hl hhh h0 h1 h2 hnc, sizeOf, typeInfo, hi']
        · unfold VR
          refine ⟨hk, by omega, by omega, hR, es, hg, hle, (if c = l.toNat then ⟨b, o, none⟩ else Addr.add ⟨b, o, none⟩ (l.toNat * i.size)), c - l.toNat, by split <;> rfl, by omega, fun e hlt => ?_⟩
          obtain ⟨rfl, rfl, _⟩ := ha e
          rw [if_neg (by omega), Addr.add_mid, hsz]
  · split at h
    case h_2 => exact h.elim
    rename_i es e n bytes hes he
    obtain ⟨hn, h⟩ := h
    obtain ⟨i, z, hu, hi', hz, hzn, hin, _, hn0, _⟩ := elT_spec he
    subst hin
    have hp := hx.elems hes
    have hp' := hp
    unfold PR at hp'
    obtain ⟨a, cap, rfl, hcap, _, _⟩ := hp'
    split at h
    case h_3 => exact h.elim
    · rename_i l hh hl hhh
      obtain ⟨h0, h1, h2, hK⟩ := h
      cases vmx with
      | some _ => exact hmx.elim
      | none =>
        refine ⟨_, .slice (if cap = l.toNat then a else a.map (·.add (l.toNat * i.size))) (hh.toNat - l.toNat) (cap - l.toNat), hK, ?_, VR.p_iff.2 (sub_PR hn hp (by omega) (by omega) (by omega) (by omega))⟩
        simp [Instr.sliceAt, run_underlying hu, Instr.slice, run_sliceBounds2 (P := P) (w := w) (b := true) hlo hhi hl hhh h0 h1 h2 hcap, sizeOf, typeInfo, hi']
    · rename_i l hh m hl hhh
      obtain ⟨h0, h1, h2, hm, hs, hK⟩ := h
      cases vmx with
      | none => exact hmx.elim
      | some vm =>
        have hmv : VR (Mem X d G R w) G R d m vm := hmx
        refine ⟨_, .slice (if hh.toNat = l.toNat then a else a.map (·.add (l.toNat * i.size))) (hh.toNat - l.toNat) (hh.toNat - l.toNat), hK, ?_, ?_⟩
        · simp [Instr.sliceAt, run_underlying hu, Instr.slice, run_sliceBounds3 (P := P) (w := w) hlo hhi hmv hl hhh hm hs h0 h1 h2 hcap, sizeOf, typeInfo, hi']
        · unfold VR
          refine ⟨sub_PR hn hp (by omega) (by omega) (Nat.le_refl _) (by omega), ?_⟩
          have hlen : ((es.take hh.toNat).drop l.toNat).length = hh.toNat - l.toNat := by simp; omega
          exact ⟨_, by rw [hlen]⟩
theorem len_sound {t : TypeId} {ty : TypeId} {g : GV} {x : Value} {K : GV → Prop} (hx : VR (Mem X d G R w) G R d g x) (h : gLen P t g K) :
    ∃ v rv, K v ∧ (Builtin.len_ #[t] ty #[x]).run P w = .ok rv w ∧ VR (Mem X d G R w) G R d v rv := by
  unfold gLen at h
  obtain ⟨ht, h⟩ := h
  split at h
  case h_2 => exact h.elim
  rename_i n hn
  refine ⟨_, .int .i64 n, h, ?_, VR.p_iff.2 (by unfold PR; rfl)⟩
  have sl : ∀ (es : List (List PV)), PR (Mem X d G R w) (.sl es) x → isSl P t = true → (Builtin.len_ #[t] ty #[x]).run P w = .ok (.int .i64 es.length) w := by
    intro es hp ht
    obtain ⟨e, hu⟩ := isSl_spec ht
    unfold PR at hp
    obtain ⟨a, cap, rfl, _⟩ := hp
    simp [Builtin.len_, run_underlying hu, goInt]
  unfold lenOf at hn
  split at hn
  · cases hn
    have hx' := VR.p_iff.1 hx
    unfold PR at hx'
    subst hx'
    simp [Builtin.len_, run_underlying (isStr_spec ht), goInt]
  · cases hn; exact sl _ (VR.p_iff.1 hx) ht
  · cases hn; exact sl _ hx.csl_sl ht
  · cases hn; exact sl _ hx.tsl_sl ht
  · cases hn
    obtain ⟨e, hu⟩ := isSl_spec ht
    unfold VR at hx
    obtain ⟨_, _, _, _, _, _, _, _, rfl, _⟩ := hx
    simp [Builtin.len_, run_underlying hu, goInt]
  · cases hn
    obtain ⟨e, hu⟩ := isSl_spec ht
    unfold VR at hx
    obtain ⟨_, _, _, _, _, _, _, _, _, rfl, _⟩ := hx
    simp [Builtin.len_, run_underlying hu, goInt]
  · cases hn
theorem un_sound {op : UnOp} {g : GV} {x : Value} {K : GV → Prop} (hx : VR (Mem X d G R w) G R d g x) (h : gUn op g K) :
    ∃ v rv, K v ∧ (Op.unary op x).run P w = .ok rv w ∧ VR (Mem X d G R w) G R d v rv := by
  unfold gUn at h
  split at h
  case h_4 => exact h.elim
  all_goals
    have hx' := VR.p_iff.1 hx
    unfold PR at hx'
    subst hx'
    refine ⟨_, _, h, ?_, VR.p_iff.2 (by unfold PR; rfl)⟩
    simp [Op.unary, Op.intArith, Op.intBits]
theorem conv_sound {s t : TypeId} {g : GV} {x : Value} {K : GV → Prop} (hx : VR (Mem X d G R w) G R d g x) (h : gConv P s t g K) :
    ∃ v rv, K v ∧ (convert s t x).run P w = .ok rv w ∧ VR (Mem X d G R w) G R d v rv := by
  unfold gConv at h
  split at h
  · rename_i k n
    split at h
    case h_2 => exact h.elim
    rename_i ks k' h1 h2
    have hx' := VR.p_iff.1 hx
    unfold PR at hx'
    subst hx'
    refine ⟨_, .int k' (k'.wrap n), h, ?_, VR.p_iff.2 (by unfold PR; rfl)⟩
    simp [convert, run_underlying (intK_spec h1), run_underlying (intK_spec h2), Conv.intToInt]
  · rename_i b
    obtain ⟨h1, h2, hK⟩ := h
    have hx' := VR.p_iff.1 hx
    unfold PR at hx'
    subst hx'
    refine ⟨_, .string b, hK, ?_, hx⟩
    simp [convert, run_underlying (isStr_spec h1), run_underlying (isStr_spec h2)]
  · split at h
    case h_2 => exact h.elim
    rename_i e n bytes es he hes
    obtain ⟨h1, h2, rfl, h3, h⟩ := h
    split at h
    case h_2 => exact h.elim
    rename_i bs hbs
    obtain ⟨i, z, hu, hi', hz, hzn, hin, _, hn0, _⟩ := elT_spec he
    have hp := hx.elems hes
    unfold PR at hp
    obtain ⟨a, cap, rfl, hcap, _, hne⟩ := hp
    refine ⟨_, .string (strOf bs), h, ?_, VR.p_iff.2 (by unfold PR; rfl)⟩
    have hb : ∀ (es : List (List PV)) (bs : List Int), bytesOf es = some bs → es = bs.map fun n => [.int .u8 n] := by
      intro es
      induction es with
      | nil => intro bs h; simp [bytesOf] at h; subst h; rfl
      | cons e es ih =>
        intro bs h
        unfold bytesOf at h
        split at h
        · rename_i e1; cases e1
        · rename_i n r e1
          injection e1 with e1 e2
          subst e1 e2
          cases hr : bytesOf es with
          | none => rw [hr] at h; cases h
          | some r' =>
            rw [hr] at h
            simp at h
            subst h
            simp [ih r' hr]
        · cases h
    have hes' := hb es bs hbs
    simp only [convert, run_underlying hu, run_underlying (isStr_spec h2), Sem.run_bind, Result.andThen_ok, run_underlying (intK_spec h1)]
    cases bs with
    | nil =>
      subst hes'
      cases a with
      | none => simp [Conv.bytesToString, strOf]
      | some ad =>
        have := run_bytesToString (P := P) w ad 0 cap [] (by simp [loadCells, loadCellsFrom])
        simpa [strOf] using this
    | cons b0 bs =>
      obtain ⟨bb, o, sz, rfl, hss⟩ := hne (by rw [hes']; simp)
      have hsz : sz = 1 := by
        have := (PRss.get hss (i := 0) (e := [.int .u8 b0]) (by rw [hes']; rfl)).1
        simpa using this.symm
      subst hsz
      have hl : es.length = (b0 :: bs).length := by rw [hes']; simp
      rw [hl]
      refine run_bytesToString (P := P) w ⟨bb, o, none⟩ _ cap (b0 :: bs) ?_
      have := run_loadCells_list (P := P) w ⟨bb, o, none⟩ ((b0 :: bs).map (Value.int .u8)) (fun j v hv => by
        rw [List.getElem?_map] at hv
        cases hq : (b0 :: bs)[j]? with
        | none => rw [hq] at hv; cases hv
        | some q =>
          rw [hq] at hv
          cases hv
          have he' : es[j]? = some [.int .u8 q] := by rw [hes', List.getElem?_map, hq]; rfl
          obtain ⟨_, hps⟩ := PRss.get hss he'
          unfold PRs at hps
          obtain ⟨⟨v, hv1, hv2⟩, _⟩ := hps
          unfold PR at hv2
          subst hv2
          rw [Addr.add_mid]
          simpa using hv1.1)
      simpa using this
theorem min_sound {k : Bool} {gs : List GV} {vs : List Value} {v : GV} (hx : VRs (Mem X d G R w) G R d gs vs) (h : gMin k gs = some v) (ts : Array TypeId) (ty : TypeId) :
    ∃ rv, (if k then Builtin.min_ ts ty vs.toArray else Builtin.max_ ts ty vs.toArray).run P w = .ok rv w ∧ VR (Mem X d G R w) G R d v rv := by
  unfold gMin at h
  split at h
  case h_2 => cases h
  rename_i i a i' b
  split at h
  case isFalse => cases h
  rename_i hi
  subst hi
  cases h
  cases vs with
  | nil => unfold VRs at hx; exact hx.elim
  | cons x vs => cases vs with
    | nil => unfold VRs at hx; have := hx.2; unfold VRs at this; exact this.elim
    | cons y vs => cases vs with
      | cons z vs => unfold VRs at hx; have := hx.2; unfold VRs at this; have := this.2; unfold VRs at this; exact this.elim
      | nil =>
        unfold VRs at hx
        obtain ⟨h1, h2⟩ := hx
        unfold VRs at h2
        have h1' := VR.p_iff.1 h1
        have h2' := VR.p_iff.1 h2.1
        unfold PR at h1' h2'
        subst h1' h2'
        refine ⟨_, ?_, VR.p_iff.2 (by unfold PR; rfl)⟩
        cases k
        · simp [Builtin.max_, Builtin.max2]
        · simp [Builtin.min_, Builtin.min2]
end
end Go.Eng
end
section
set_option linter.all false
namespace Go.Eng
section
variable {X : XS} {P : Program} {G : Heap} {R : RMap} {d : Nat} {w : World}
theorem eqGuard_int {op : BinOp} {t : TypeId} {x y : Operand} {k k' : IntKind} {a b : Int} : (eqGuard op t x y (.int k a) (.int k' b)).run P w = .ok () w := by
  cases op <;> simp [eqGuard]
theorem eqGuard_bool {op : BinOp} {t : TypeId} {x y : Operand} {a b : Bool} : (eqGuard op t x y (.bool a) (.bool b)).run P w = .ok () w := by
  cases op <;> simp [eqGuard]
theorem eqGuard_str {op : BinOp} {t : TypeId} {x y : Operand} {a b : ByteArray} : (eqGuard op t x y (.string a) (.string b)).run P w = .ok () w := by
  cases op <;> simp [eqGuard]
theorem eqGuard_ptr {op : BinOp} {t : TypeId} {x y : Operand} {a b : Option Addr} : (eqGuard op t x y (.pointer a) (.pointer b)).run P w = .ok () w := by
  cases op <;> simp [eqGuard]
theorem toVs_spec {M : Nat → Nat → Value → Prop} : ∀ {ps : List PV} {vs us : List Value}, toVs ps = some vs → ps.length = us.length → (∀ (i : Nat) (p : PV), ps[i]? = some p → ∃ v, us[i]? = some v ∧ PR M p v) → us = vs
  | [], vs, us, h, hl, _ => by
    simp [toVs] at h
    subst h
    simp at hl
    exact List.eq_nil_of_length_eq_zero hl.symm
  | p :: ps, vs, [], _, hl, _ => by simp at hl
  | p :: ps, vs, u :: us, h, hl, hp => by
    unfold toVs at h
    split at h
    · rename_i v vs' hv hvs
      cases h
      obtain ⟨u', h1, h2⟩ := hp 0 p rfl
      simp at h1
      subst h1
      have : u = v := by
        unfold toV at hv
        split at hv <;> first
          | (cases hv; unfold PR at h2; exact h2)
          | (cases hv; done)
      subst this
      have e : us = vs' := toVs_spec hvs (by simpa using hl) (fun i p hi => by simpa using hp (i + 1) p (by simpa using hi))
      rw [e]
    · cases h
theorem eqS_sound {op : BinOp} {t : TypeId} {ox oy : Operand} {xs ys : List GV} {x y : Value} {neg : Bool} {K : GV → Prop} (hx : VR (Mem X d G R w) G R d (.agg xs) x) (hy : VR (Mem X d G R w) G R d (.agg ys) y)
    (hop : op = if neg then .neq else .eql) (h : gEqS P t xs ys neg K) :
    ∃ v rv, K v ∧ (do eqGuard op t ox oy x y; binOp op t x y : Sem Value).run P w = .ok rv w ∧ VR (Mem X d G R w) G R d v rv := by
  unfold gEqS at h
  split at h
  case h_2 => exact h.elim
  rename_i vs us hvs hus
  obtain ⟨r, hr, hK⟩ := h
  unfold VR at hx hy
  obtain ⟨xv, rfl, _, hxv⟩ := hx
  obtain ⟨yv, rfl, _, hyv⟩ := hy
  have e1 : xv = vs := by
    cases hp : purs xs with
    | none => rw [hp] at hvs; cases hvs
    | some ps =>
      rw [hp] at hvs
      obtain ⟨h1, h2⟩ := purs_get hp hxv
      exact toVs_spec hvs h1 h2
  have e2 : yv = us := by
    cases hp : purs ys with
    | none => rw [hp] at hus; cases hus
    | some ps =>
      rw [hp] at hus
      obtain ⟨h1, h2⟩ := purs_get hp hyv
      exact toVs_spec hus h1 h2
  subst e1 e2
  have hrw := hr w
  refine ⟨_, .bool (if neg then !r else r), hK, ?_, VR.p_iff.2 (by unfold PR; rfl)⟩
  have hg : ∀ (o o' : BinOp) (a b a' b' : Operand), (o = .eql ∨ o = .neq) → (o' = .eql ∨ o' = .neq) → eqGuard o t a b (.agg xv.toArray) (.agg yv.toArray) = eqGuard o' t a' b' (.agg xv.toArray) (.agg yv.toArray) := by
    intro o o' a b a' b' h1 h2
    rcases h1 with rfl | rfl <;> rcases h2 with rfl | rfl <;> rfl
  cases neg with
  | false =>
    simp only [Bool.false_eq_true, if_false] at hop ⊢
    subst hop
    rw [Sem.run_bind] at hrw ⊢
    rw [hg .eql .eql ox oy (.const undef) (.const undef) (.inl rfl) (.inl rfl)]
    cases hq : (eqGuard .eql t (.const undef) (.const undef) (.agg xv.toArray) (.agg yv.toArray)).run P w with
    | ok u w' =>
      rw [hq] at hrw
      simp only [Result.andThen_ok] at hrw ⊢
      simp [binOp, hrw]
    | halt u w' => rw [hq] at hrw; simp at hrw
  | true =>
    simp only [if_true] at hop ⊢
    subst hop
    rw [Sem.run_bind] at hrw ⊢
    rw [hg .neq .eql ox oy (.const undef) (.const undef) (.inr rfl) (.inl rfl)]
    cases hq : (eqGuard .eql t (.const undef) (.const undef) (.agg xv.toArray) (.agg yv.toArray)).run P w with
    | ok u w' =>
      rw [hq] at hrw
      simp only [Result.andThen_ok] at hrw ⊢
      simp [binOp, hrw]
    | halt u w' => rw [hq] at hrw; simp at hrw
theorem isNil_spec {M : Nat → Nat → Value → Prop} {g : GV} {x : Value} {b : Bool} (hx : VR M G R d g x) (h : isNilOf g = some b) : ∃ a, x = .pointer a ∧ a.isNone = b := by
  unfold isNilOf at h
  split at h
  · cases h; have := VR.p_iff.1 hx; unfold PR at this; exact ⟨none, this, rfl⟩
  · cases h; unfold VR at hx; exact ⟨_, hx.2.2, rfl⟩
  · cases h; unfold VR at hx; obtain ⟨b, o, rfl, _⟩ := hx; exact ⟨_, rfl, rfl⟩
  · cases h; have := VR.p_iff.1 hx; unfold PR at this; obtain ⟨b, o, rfl, _⟩ := this; exact ⟨_, rfl, rfl⟩
  · cases h
theorem run_eqPtr {t e : TypeId} (hu : P.underlying t = some (.pointer e)) {a b : Option Addr} (h : a.isNone = true ∨ b.isNone = true) :
    (Op.equal t (.pointer a) (.pointer b)).run P w = .ok (a.isNone && b.isNone) w := by
  unfold Op.equal Op.maxDepth Op.equalIn
  rw [Sem.run_bind, run_underlying hu w]
  cases a with
  | none => simp
  | some a => cases b with
    | none => simp
    | some b => simp at h
theorem run_eqBool {t : TypeId} (hu : P.underlying t = some .bool) {a b : Bool} : (Op.equal t (.bool a) (.bool b)).run P w = .ok (a == b) w := by
  unfold Op.equal Op.maxDepth Op.equalIn
  rw [Sem.run_bind, run_underlying hu w]
  rfl
theorem bin_sound {op : BinOp} {t : TypeId} {ox oy : Operand} {g h' : GV} {x y : Value} {K : GV → Prop} (hx : VR (Mem X d G R w) G R d g x) (hy : VR (Mem X d G R w) G R d h' y) (h : gBin P op t g h' K) :
    ∃ v rv, K v ∧ (do eqGuard op t ox oy x y; binOp op t x y : Sem Value).run P w = .ok rv w ∧ VR (Mem X d G R w) G R d v rv := by
  unfold gBin at h
  split at h
  · rename_i k a k' b
    have hx' := VR.p_iff.1 hx
    have hy' := VR.p_iff.1 hy
    unfold PR at hx' hy'
    subst hx' hy'
    rw [Sem.run_bind, eqGuard_int]
    simp only [Result.andThen_ok]
    split at h
    · obtain ⟨h0, hK⟩ := h
      refine ⟨_, _, hK, ?_, VR.p_iff.2 (by unfold PR; rfl)⟩
      have : ¬ b < 0 := by omega
      simp [binOp, Op.shift, this, shlI, shrI]
    · obtain ⟨h0, hK⟩ := h
      refine ⟨_, _, hK, ?_, VR.p_iff.2 (by unfold PR; rfl)⟩
      have : ¬ b < 0 := by omega
      simp [binOp, Op.shift, this, shlI, shrI]
    · obtain ⟨rfl, h0, hK⟩ := h
      refine ⟨_, _, hK, ?_, VR.p_iff.2 (by unfold PR; rfl)⟩
      simp [binOp, Op.intDiv, h0]
    · obtain ⟨rfl, h0, hK⟩ := h
      refine ⟨_, _, hK, ?_, VR.p_iff.2 (by unfold PR; rfl)⟩
      simp [binOp, Op.intDiv, h0]
    · rename_i n1 n2 n3 n4
      obtain ⟨rfl, h⟩ := h
      split at h
      case h_2 => exact h.elim
      rename_i v hv
      have key : ∃ rv, (binOp op t (.int k a) (.int k b)).run P w = .ok rv w ∧ PR (Mem X d G R w) v rv := by
        cases op <;> simp only [ibin, Option.some.injEq, reduceCtorEq] at hv <;> subst hv <;> refine ⟨_, ?_, by unfold PR; rfl⟩
        all_goals first
          | (simp [binOp, Op.intArith]; done)
          | (simp [binOp, Op.intBits, andI, orI, xorI, andNotI]; done)
          | (simp [binOp, Op.intCmp]; done)
          | (simp [binOp, Op.intCmp, bne]; rfl)
      obtain ⟨rv, h1, h2⟩ := key
      exact ⟨_, rv, h, h1, VR.p_iff.2 h2⟩
  · rename_i a b
    obtain ⟨ht, h⟩ := h
    have hu := isBool_spec ht
    have hx' := VR.p_iff.1 hx
    have hy' := VR.p_iff.1 hy
    unfold PR at hx' hy'
    subst hx' hy'
    rw [Sem.run_bind, eqGuard_bool]
    simp only [Result.andThen_ok]
    split at h
    · exact ⟨_, .bool (a == b), h, by simp [binOp, run_eqBool hu], VR.p_iff.2 (by unfold PR; rfl)⟩
    · exact ⟨_, .bool (!(a == b)), h, by simp [binOp, run_eqBool hu], VR.p_iff.2 (by unfold PR; rfl)⟩
    · exact h.elim
  · rename_i a b
    have hx' := VR.p_iff.1 hx
    have hy' := VR.p_iff.1 hy
    unfold PR at hx' hy'
    subst hx' hy'
    rw [Sem.run_bind, eqGuard_str]
    simp only [Result.andThen_ok]
    have hb : (a.toList == b.toList) = decide (a = b) := by
      by_cases e : a = b
      · rw [decide_eq_true e]; exact (Lib.bytes_beq_iff a b).2 e
      · rw [decide_eq_false e]; exact (Lib.bytes_beq_false_iff a b).2 e
    split at h
    · obtain ⟨hle, hK⟩ := h
      refine ⟨_, .string (a ++ b), hK, ?_, VR.p_iff.2 (by unfold PR; rfl)⟩
      have : ¬ (((a.size + b.size : Nat) : Int) > IntKind.i64.max) := by
        have : IntKind.i64.max = 9223372036854775807 := by decide
        omega
      simp only [binOp, Op.stringOp]
      rw [if_neg this]
      rfl
    · exact ⟨_, .bool (decide (a = b)), h, by simp only [binOp, Op.stringOp, Sem.run_pure, hb], VR.p_iff.2 (by unfold PR; rfl)⟩
    · exact ⟨_, .bool (!decide (a = b)), h, by simp only [binOp, Op.stringOp, Sem.run_pure, hb], VR.p_iff.2 (by unfold PR; rfl)⟩
    · exact ⟨_, .bool (Op.bytesLess a.toList b.toList), h, by simp only [binOp, Op.stringOp, Sem.run_pure], VR.p_iff.2 (by unfold PR; rfl)⟩
    · exact h.elim
  · rename_i xs ys
    split at h
    · exact eqS_sound hx hy rfl h
    · exact eqS_sound hx hy rfl h
    · exact h.elim
  · obtain ⟨ht, h⟩ := h
    obtain ⟨e, hu⟩ := isPtr_spec ht
    split at h
    case h_2 => exact h.elim
    rename_i a b ha hb
    obtain ⟨hab, h⟩ := h
    obtain ⟨pa, rfl, rfl⟩ := isNil_spec hx ha
    obtain ⟨pb, rfl, rfl⟩ := isNil_spec hy hb
    have hor : pa.isNone = true ∨ pb.isNone = true := by simpa using hab
    rw [Sem.run_bind, eqGuard_ptr]
    simp only [Result.andThen_ok]
    split at h
    · exact ⟨_, .bool (pa.isNone && pb.isNone), h, by simp only [binOp, Sem.run_bind, run_eqPtr hu hor, Result.andThen_ok, Sem.run_pure], VR.p_iff.2 (by unfold PR; rfl)⟩
    · exact ⟨_, .bool (!(pa.isNone && pb.isNone)), h, by simp only [binOp, Sem.run_bind, run_eqPtr hu hor, Result.andThen_ok, Sem.run_pure], VR.p_iff.2 (by unfold PR; rfl)⟩
    · exact h.elim
end
end Go.Eng
end
section
set_option linter.all false
namespace Go.Eng
section
variable {X : XS} {P : Program} {G : Heap} {R : RMap} {d : Nat} {w : World}
def Cells (M : Nat → Nat → Value → Prop) (es : List (List PV)) (n : Nat) (cs : List Value) : Prop :=
  cs.length = es.length * n ∧ (∀ v ∈ cs, v.oneCell' = true) ∧ ∀ i e, es[i]? = some e → e.length = n ∧ ∀ j c, e[j]? = some c → ∃ v, cs[i * n + j]? = some v ∧ PR M c v
theorem Cells.app {M : Nat → Nat → Value → Prop} {es xs : List (List PV)} {n : Nat} {cs us : List Value} (h : Cells M es n cs) (h' : Cells M xs n us) : Cells M (es ++ xs) n (cs ++ us) := by
  obtain ⟨h1, h2, h3⟩ := h
  obtain ⟨h4, h5, h6⟩ := h'
  refine ⟨by simp [h1, h4, Nat.add_mul], fun v hv => ?_, fun i e hi => ?_⟩
  · rcases List.mem_append.1 hv with hv | hv
    · exact h2 v hv
    · exact h5 v hv
  · rw [List.getElem?_append] at hi
    split at hi
    · rename_i hlt
      obtain ⟨h7, h8⟩ := h3 i e hi
      refine ⟨h7, fun j c hj => ?_⟩
      obtain ⟨v, h9, h10⟩ := h8 j c hj
      refine ⟨v, ?_, h10⟩
      rw [List.getElem?_append_left (List.getElem?_eq_some_iff.1 h9).1]
      exact h9
    · rename_i hge
      obtain ⟨h7, h8⟩ := h6 (i - es.length) e hi
      refine ⟨h7, fun j c hj => ?_⟩
      obtain ⟨v, h9, h10⟩ := h8 j c hj
      refine ⟨v, ?_, h10⟩
      have e1 : es.length * n + (i - es.length) * n = i * n := by rw [← Nat.add_mul]; congr 1; omega
      rw [List.getElem?_append_right (by rw [h1]; omega), h1, show i * n + j - es.length * n = (i - es.length) * n + j by omega]
      exact h9
theorem Cells.of {M Q : Nat → Nat → Value → Prop} {es : List (List PV)} {n b o : Nat} (hn : 0 < n)
    (h : ∀ i e, es[i]? = some e → e.length = n ∧ ∀ j c, e[j]? = some c → ∃ v, Q b (o + i * n + j) v ∧ v.oneCell' = true ∧ PR M c v) :
    ∃ cs, Cells M es n cs ∧ ∀ k v, cs[k]? = some v → Q b (o + k) v := by
  obtain ⟨cs, h1, h2⟩ := exists_list (Pr := fun k v => Q b (o + k) v ∧ v.oneCell' = true ∧ ∀ i j e c, k = i * n + j → es[i]? = some e → e[j]? = some c → PR M c v) (es.length * n) (fun k hk => by
    have hq : k / n < es.length := Nat.div_lt_of_lt_mul (by rw [Nat.mul_comm]; exact hk)
    obtain ⟨h3, h4⟩ := h (k / n) es[k / n] (List.getElem?_eq_getElem hq)
    have hm : k % n < n := Nat.mod_lt _ hn
    obtain ⟨v, h5, h6, h7⟩ := h4 (k % n) _ (List.getElem?_eq_getElem (by rw [h3]; exact hm))
    have hk' : k / n * n + k % n = k := by rw [Nat.mul_comm]; exact Nat.div_add_mod k n
    refine ⟨v, by rwa [Nat.add_assoc, hk'] at h5, h6, fun i j e c hij he hc => ?_⟩
    have hjn : j < n := by
      have := (h i e he).1
      have := (List.getElem?_eq_some_iff.1 hc).1
      omega
    have hi : i = k / n := by
      rw [hij, Nat.add_comm, Nat.add_mul_div_right _ _ hn, Nat.div_eq_of_lt hjn, Nat.zero_add]
    have hj : j = k % n := by
      rw [hij, Nat.add_comm, Nat.add_mul_mod_self_right, Nat.mod_eq_of_lt hjn]
    subst hi hj
    rw [List.getElem?_eq_getElem hq] at he
    cases he
    rw [List.getElem?_eq_getElem (by rw [h3]; exact hm)] at hc
    cases hc
    exact h7)
  refine ⟨cs, ⟨h1, fun v hv => ?_, fun i e hi => ⟨(h i e hi).1, fun j c hj => ?_⟩⟩, fun k v hv => (h2 k v hv).1⟩
  · obtain ⟨k, hk⟩ := List.getElem?_of_mem hv
    exact (h2 k v hk).2.1
  · have hi' := (List.getElem?_eq_some_iff.1 hi).1
    have hj' := (List.getElem?_eq_some_iff.1 hj).1
    have hlt : i * n + j < cs.length := by
      rw [h1]
      have := (h i e hi).1
      have : (i + 1) * n ≤ es.length * n := Nat.mul_le_mul_right _ hi'
      rw [Nat.add_mul] at this
      omega
    exact ⟨cs[i * n + j], List.getElem?_eq_getElem hlt, (h2 _ _ (List.getElem?_eq_getElem hlt)).2.2 i j e c rfl hi hj⟩
theorem sl_cells {es : List (List PV)} {n : Nat} {a : Option Addr} {cap : Nat} (hn : 0 < n) (hs : sizes es n) (hp : PR (Mem X d G R w) (.sl es) (.slice a es.length cap)) :
    ∃ cs, Cells (Mem X d G R w) es n cs ∧ (a = none → es = []) ∧ ∀ b, a = some b → ∀ k v, cs[k]? = some v → w.cell? (b.add k) = some v := by
  unfold PR at hp
  obtain ⟨a', cap', e, h1, h2, h3⟩ := hp
  injection e with e1 e2 e3
  subst e1 e3
  cases es with
  | nil => exact ⟨[], ⟨by simp, fun v hv => by simp at hv, fun i e hi => by simp at hi⟩, fun _ => rfl, fun b _ k v hk => by simp at hk⟩
  | cons e0 es =>
    obtain ⟨b, o, sz, rfl, hss⟩ := h3 (by simp)
    have hsz : sz = n := by rw [← (PRss.get hss (i := 0) rfl).1]; exact hs e0 (by simp)
    subst hsz
    obtain ⟨cs, h4, h5⟩ := Cells.of (M := Mem X d G R w) (Q := fun b i v => w.cell? ⟨b, i, none⟩ = some v) (es := e0 :: es) (n := sz) (b := b) (o := o) hn (fun i e hi => by
      obtain ⟨h6, h7⟩ := PRss.get hss hi
      refine ⟨h6, fun j c hj => ?_⟩
      obtain ⟨v, h8, h9⟩ := PRs.get h7 hj
      exact ⟨v, h8.1, h8.2.1, h9⟩)
    refine ⟨cs, h4, fun h => by (cases h), fun b' hb k v hk => ?_⟩
    cases hb
    rw [Addr.add_mid]
    exact h5 k v hk
theorem src_sound (hs : Sim X d G R w) {tx : TypeId} {n : Nat} {g : GV} {x : Value} {xs : List (List PV)} (hn : 0 < n) (hz : sizes xs n) (hx : VR (Mem X d G R w) G R d g x) (h : srcOf P G tx n g = some xs) :
    ∃ news, Cells (Mem X d G R w) xs n news ∧ Src P n tx x xs.length news w := by
  have sl : ∀ (es : List (List PV)), PR (Mem X d G R w) (.sl es) x → sizes es n → isSl P tx = true → ∃ news, Cells (Mem X d G R w) es n news ∧ Src P n tx x es.length news w := by
    intro es hp hz ht
    obtain ⟨e, hu⟩ := isSl_spec ht
    have hp' := hp
    unfold PR at hp'
    obtain ⟨a, cap, rfl, _⟩ := hp'
    obtain ⟨cs, h1, h2, h3⟩ := sl_cells hn hz hp
    refine ⟨cs, h1, ?_⟩
    cases a with
    | none =>
      have := h2 rfl
      subst this
      have hcs : cs = [] := List.eq_nil_of_length_eq_zero (by simpa using h1.1)
      subst hcs
      exact Src.ofNil w hu cap
    | some ad => exact Src.ofSlice w hu ad es.length cap cs h1.1 (h3 ad rfl) h1.2.1
  unfold srcOf at h
  split at h
  · rename_i s
    split at h
    case isFalse => cases h
    rename_i hc
    obtain ⟨ht, rfl⟩ := hc
    cases h
    have hx' := VR.p_iff.1 hx
    unfold PR at hx'
    subst hx'
    have hl : (List.map (fun b : UInt8 => [PV.int .u8 (b.toNat : Int)]) s.data.toList).length = s.size := by
      rw [List.length_map, Array.length_toList]; rfl
    refine ⟨byteCells s, ⟨by rw [hl, byteCells_length]; omega, fun v hv => ?_, fun i e hi => ?_⟩, by rw [hl]; exact Src.ofString w (isStr_spec ht) s⟩
    · obtain ⟨_, _, rfl⟩ := List.mem_map.1 hv; rfl
    · rw [List.getElem?_map] at hi
      cases hq : s.data.toList[i]? with
      | none => rw [hq] at hi; cases hi
      | some q =>
        rw [hq] at hi
        cases hi
        refine ⟨rfl, fun j c hj => ?_⟩
        cases j with
        | zero =>
          simp at hj
          subst hj
          refine ⟨.int .u8 q.toNat, ?_, by unfold PR; rfl⟩
          unfold byteCells
          rw [List.getElem?_map, Nat.mul_one, Nat.add_zero, hq]; rfl
        | succ j => simp at hj
  · rename_i κ m sz
    split at h
    case isFalse => cases h
    rename_i ht
    split at h
    case h_2 => cases h
    rename_i es hg
    split at h
    case isFalse => cases h
    rename_i hm
    cases h
    obtain ⟨e, hu⟩ := isSl_spec ht
    unfold VR at hx
    obtain ⟨hk, rfl, es0, hg0, _, b, o, c, rfl, _, ha⟩ := hx
    have e0 : xs = es0 := by rw [hg] at hg0; injection hg0 with e; injection e
    subst e0
    obtain ⟨rfl, rfl, rfl⟩ := ha hm
    obtain ⟨cs, T, h1, hcap, hsize, h4⟩ := hs.obj κ _ hk hg
    subst hm
    have hszn : ∀ i e, xs[i]? = some e → (R κ).sz = n := fun i e hi => by
      rw [← (h4 i e hi).1]; exact hz e (List.mem_of_getElem? hi)
    cases hxs : xs with
    | nil =>
      refine ⟨[], ⟨by simp, fun v hv => by simp at hv, fun i e hi => by simp at hi⟩, ?_⟩
      exact Src.ofSlice w hu _ 0 _ [] (by simp) (fun j u hj => by simp at hj) (fun u hu => by simp at hu)
    | cons x0 xr =>
      have hsz := hszn 0 x0 (by rw [hxs]; rfl)
      rw [← hxs]
      obtain ⟨us, h5, h6⟩ := Cells.of (M := Mem X d G R w) (Q := fun b i v => w.cell? ⟨b, i, none⟩ = some v) (es := xs) (n := n) (b := (R κ).b) (o := (R κ).o) hn (fun i e hi => by
        obtain ⟨h6, h7⟩ := h4 i e hi
        refine ⟨h6.trans hsz, fun j c hj => ?_⟩
        obtain ⟨v, h8, h9, h10⟩ := h7 j c hj
        exact ⟨v, by rw [cell_of_row w _ _ cs T _ h1, ← hsz]; exact h8, h9, h10⟩)
      exact ⟨us, h5, Src.ofSlice w hu _ _ _ us h5.1 (fun j u hj => by rw [Addr.add_mid]; exact h6 j u hj) h5.2.1⟩
  · rename_i κ m lo hi sz
    split at h
    case isFalse => cases h
    rename_i ht
    split at h
    case h_2 => cases h
    rename_i es hg
    split at h
    case isFalse => cases h
    rename_i hm
    cases h
    obtain ⟨e, hu⟩ := isSl_spec ht
    unfold VR at hx
    obtain ⟨hk, hlo, hhi, rfl, es0, hg0, _, a, c, rfl, _, ha⟩ := hx
    have e0 : es = es0 := by rw [hg] at hg0; injection hg0 with e; injection e
    subst e0
    obtain ⟨cs, T, h1, hcap, hsize, h4⟩ := hs.obj κ _ hk hg
    have hl : ((es.take hi).drop lo).length = hi - lo := by simp; omega
    by_cases hlt : lo < hi
    · have ea := ha hm hlt
      subst ea
      have hq : ∀ q ee, ((es.take hi).drop lo)[q]? = some ee → es[lo + q]? = some ee := fun q ee hq => by
        rw [List.getElem?_drop, List.getElem?_take] at hq
        split at hq
        · exact hq
        · cases hq
      have hsz : (R κ).sz = n := by
        obtain ⟨x0, hx0⟩ : ∃ x0, ((es.take hi).drop lo)[0]? = some x0 := ⟨_, List.getElem?_eq_getElem (by rw [hl]; omega)⟩
        rw [← (h4 _ x0 (hq 0 x0 hx0)).1]; exact hz x0 (List.mem_of_getElem? hx0)
      obtain ⟨us, h5, h6⟩ := Cells.of (M := Mem X d G R w) (Q := fun b i v => w.cell? ⟨b, i, none⟩ = some v) (es := (es.take hi).drop lo) (n := n) (b := (R κ).b) (o := (R κ).o + lo * (R κ).sz) hn (fun i e hi => by
        obtain ⟨h6, h7⟩ := h4 _ e (hq i e hi)
        refine ⟨h6.trans hsz, fun j c hj => ?_⟩
        obtain ⟨v, h8, h9, h10⟩ := h7 j c hj
        have e1 : (R κ).o + lo * (R κ).sz + i * n + j = (R κ).o + (lo + i) * (R κ).sz + j := by rw [hsz, Nat.add_mul]; omega
        exact ⟨v, by rw [e1, cell_of_row w _ _ cs T _ h1]; exact h8, h9, h10⟩)
      rw [hl]
      exact ⟨us, h5, Src.ofSlice w hu _ _ _ us (by rw [h5.1, hl]) (fun j u hj => by rw [Addr.add_mid]; exact h6 j u hj) h5.2.1⟩
    · have e0 : (es.take hi).drop lo = [] := List.eq_nil_of_length_eq_zero (by omega)
      rw [e0]
      refine ⟨[], ⟨by simp, fun v hv => by simp at hv, fun i e hi => by simp at hi⟩, ?_⟩
      have e1 : hi - lo = 0 := by omega
      rw [e1]
      exact Src.ofSlice w hu _ 0 _ [] (by simp) (fun j u hj => by simp at hj) (fun u hu => by simp at hu)
  · split at h
    case isFalse => cases h
    rename_i ht
    exact sl xs (hx.elems h) hz ht
theorem setKey_same {κ : Key} {o : Obj'} (h : get G κ = some o) : setKey G κ o = G := by
  funext a b
  unfold setKey
  split
  · rename_i e
    obtain ⟨rfl, rfl⟩ := e
    unfold Eng.get at h
    apply List.ext_getElem?
    intro i
    rw [List.getElem?_set]
    split
    · rename_i e
      subst e
      obtain ⟨h1, h2⟩ := List.getElem?_eq_some_iff.1 h
      rw [if_pos h1, h]
    · rfl
  · rfl
theorem PR.row {M : Nat → Nat → Value → Prop} {es : List (List PV)} {n b len cap : Nat} {cs : List Value} {C : Array Value} (hl : es.length = len) (hcap : len ≤ cap) (hc : Cells M es n cs) {M' : Nat → Nat → Value → Prop} (hmono : ∀ b i v, M b i v → M' b i v)
    (hC : ∀ (k : Nat) (v : Value), cs[k]? = some v → C[k]? = some v) (hM : ∀ (k : Nat) (v : Value), k < len * n → C[k]? = some v → v.oneCell' = true → M' b k v) : PR M' (.sl es) (.slice (some ⟨b, 0, none⟩) len cap) := by
  unfold PR
  refine ⟨_, cap, by rw [hl], by rw [hl]; exact hcap, (fun h => by cases h), fun _ => ⟨b, 0, n, rfl, PRss.of_get fun i e hi => ?_⟩⟩
  obtain ⟨h1, h2, h3⟩ := hc
  obtain ⟨h4, h5⟩ := h3 i e hi
  refine ⟨h4, PRs.of_get fun j c hj => ?_⟩
  obtain ⟨v, h6, h7⟩ := h5 j c hj
  rw [Nat.zero_add]
  have hlt := (List.getElem?_eq_some_iff.1 h6).1
  exact ⟨v, hM _ v (by rw [← hl, ← h1]; exact hlt) (hC _ v h6) (h2 v (List.mem_of_getElem? h6)), PR.mono hmono c v h7⟩
theorem arr_cells (hs : Sim X d G R w) {κ : Key} {es : List (List PV)} (hk : κ.1 ≤ d) (hg : get G κ = some (.arr es)) (hn : 0 < (R κ).sz) :
    ∃ us, Cells (Mem X d G R w) es (R κ).sz us ∧ ∀ j u, us[j]? = some u → w.cell? ⟨(R κ).b, (R κ).o + j, none⟩ = some u := by
  obtain ⟨cs, T, h1, hcap, hsize, h4⟩ := hs.obj κ _ hk hg
  obtain ⟨us, h5, h6⟩ := Cells.of (M := Mem X d G R w) (Q := fun b i v => w.cell? ⟨b, i, none⟩ = some v) (es := es) (n := (R κ).sz) (b := (R κ).b) (o := (R κ).o) hn (fun i e hi => by
    obtain ⟨h6, h7⟩ := h4 i e hi
    refine ⟨h6, fun j c hj => ?_⟩
    obtain ⟨v, h8, h9, h10⟩ := h7 j c hj
    exact ⟨v, by rw [cell_of_row w _ _ cs T _ h1]; exact h8, h9, h10⟩)
  exact ⟨us, h5, h6⟩
theorem append_arr (hs : Sim X d G R w) {t tx ty e : TypeId} {i : TypeInfo} {z : Value} {n bytes : Nat} (ht : P.underlying t = some (.slice e)) (hi : P.info? e = some i) (hz : i.zero = some z) (hzn : z.cells.size = n) (hin : i.size = n) (hby : i.bytes = bytes) (hn0 : 0 < n) (hb0 : 0 < bytes)
    {κ : Key} {es xs : List (List PV)} (hk : κ.1 ≤ d) (hgt : get G κ = some (.arr es)) (hsz : (R κ).sz = n) {y : Value} {news : List Value} (hnews : Cells (Mem X d G R w) xs n news) (hsrc : Src P n tx y xs.length news w)
    (hB : (es.length + xs.length) * bytes ≤ 140737488355328) :
    ∃ rv w' R', (Builtin.append_ #[t, tx] ty #[.slice (some ⟨(R κ).b, (R κ).o, none⟩) es.length (R κ).cap, y]).run P w = .ok rv w' ∧ Step X d G R w (setKey G κ (.arr (es ++ xs))) R' w' ∧
      VR (Mem X d (setKey G κ (.arr (es ++ xs))) R' w') (setKey G κ (.arr (es ++ xs))) R' d (.arr κ (es.length + xs.length) n) rv := by
  obtain ⟨cs, T, h1, hcap, hsize, h4⟩ := hs.obj κ _ hk hgt
  by_cases hne : xs = []
  · subst hne
    have hnil : news = [] := List.eq_nil_of_length_eq_zero (by simpa using hnews.1)
    subst hnil
    refine ⟨.slice (some ⟨(R κ).b, (R κ).o, none⟩) es.length (R κ).cap, w, R, ?_, ?_, ?_⟩
    · have hc := hsrc.cells
      rcases hsrc.kind with ⟨e', hk'⟩ | hk' <;> simp [Builtin.append_, run_underlying ht, run_underlying hk', sizeOf, typeInfo, hi, hsrc.len, hin, hcap] <;> (simp at hc; simp [hc, storeCells])
    · rw [List.append_nil, setKey_same hgt]; exact Step.refl hs
    · rw [List.append_nil, setKey_same hgt]
      unfold VR
      exact ⟨hk, hsz, es, hgt, by simp, _, _, _, rfl, by simpa using hcap, fun _ => ⟨rfl, rfl, rfl⟩⟩
  have hxl : 0 < xs.length := List.length_pos_iff.2 hne
  have hlen : (es ++ xs).length = es.length + xs.length := by simp
  obtain ⟨olds, holds, hcell⟩ := arr_cells hs hk hgt (by omega)
  rw [hsz] at holds
  have hcells := holds.app hnews
  by_cases hroom : es.length + xs.length ≤ (R κ).cap
  · have hfit : (R κ).o + es.length * n + news.length ≤ cs.size := by
      have h2 : (es.length + xs.length) * n ≤ (R κ).cap * n := Nat.mul_le_mul_right _ hroom
      rw [Nat.add_mul] at h2
      rw [hsz] at hsize
      have := hnews.1
      omega
    have hrun := run_append_room_src (P := P) w t tx ty e i ht hi (R κ).b (R κ).o es.length (R κ).cap y xs.length news (by rw [hin]; exact hsrc) hroom
      (fun j hj => by rw [hin, cell_of_row w _ _ cs T _ h1, Array.getElem?_eq_getElem (by omega)]; rfl) (fun j hj => frozen_of_row w _ _ cs T h1)
    rw [hin] at hrun
    have hrow := setCells_row P w (R κ).b ((R κ).o + es.length * n) T cs news h1 hfit hnews.2.1
    rw [hrow] at hrun
    have hC : ∀ k : Nat, (cs.toList.take ((R κ).o + es.length * n) ++ news ++ cs.toList.drop ((R κ).o + es.length * n + news.length)).toArray[k]? =
        if (R κ).o + es.length * n ≤ k ∧ k < (R κ).o + es.length * n + news.length then news[k - ((R κ).o + es.length * n)]? else cs[k]? := fun k => by
      simp only [List.getElem?_toArray, List.getElem?_append, List.length_append, List.length_take, Array.length_toList, List.getElem?_take, List.getElem?_drop, Array.getElem?_toList]
      have hm : min ((R κ).o + es.length * n) cs.size = (R κ).o + es.length * n := by omega
      rw [hm]
      by_cases c1 : k < (R κ).o + es.length * n
      · rw [if_pos (by omega), if_pos c1, if_pos c1, if_neg (by omega)]
      · by_cases c2 : k < (R κ).o + es.length * n + news.length
        · rw [if_pos (by omega), if_neg c1, if_pos (by omega)]
        · rw [if_neg (by omega), if_neg (by omega)]
          congr 1; omega
    have hold : ∀ b, b < w.heap.size → b ≠ (R κ).b → (w.setRow (R κ).b (cs.toList.take ((R κ).o + es.length * n) ++ news ++ cs.toList.drop ((R κ).o + es.length * n + news.length)).toArray).heap[b]? = w.heap[b]? := fun b _ hb => setRow_other w _ _ _ hb
    obtain ⟨hs', hx'⟩ := hs.arrGrow (R' := R) hk hgt (es' := es ++ xs) (by omega) (w' := w.setRow (R κ).b (cs.toList.take ((R κ).o + es.length * n) ++ news ++ cs.toList.drop ((R κ).o + es.length * n + news.length)).toArray)
      (by simp) (fun _ _ => rfl) (.inl rfl) rfl hold (setRow_heap w _ _ _ _ _ h1) (by rw [hlen]; exact hroom) (Nat.le_trans hsize (by simp; omega)) (fun q ee hq => by
        rw [hsz]
        rw [List.getElem?_append] at hq
        split at hq
        · rename_i hql
          obtain ⟨h5, h6⟩ := h4 q ee hq
          rw [hsz] at h5 h6
          refine ⟨h5, fun j c hj => ?_⟩
          obtain ⟨v, h7, h8, h9⟩ := h6 j c hj
          have hjl := (List.getElem?_eq_some_iff.1 hj).1
          have h2 : (q + 1) * n ≤ es.length * n := Nat.mul_le_mul_right _ (by omega)
          rw [Nat.add_mul] at h2
          exact ⟨v, by rw [hC, if_neg (by omega)]; exact h7, h8, h9⟩
        · rename_i hql
          obtain ⟨h5, h6⟩ := hnews.2.2 _ ee hq
          refine ⟨h5, fun j c hj => ?_⟩
          obtain ⟨v, h7, h8⟩ := h6 j c hj
          have hvl := (List.getElem?_eq_some_iff.1 h7).1
          have hq1 : (q - es.length) * n + es.length * n = q * n := by rw [← Nat.add_mul]; congr 1; omega
          refine ⟨v, ?_, hnews.2.1 v (List.mem_of_getElem? h7), h8⟩
          rw [hC, if_pos (by omega), show (R κ).o + q * n + j - ((R κ).o + es.length * n) = (q - es.length) * n + j by omega]
          exact h7)
    refine ⟨_, _, R, hrun, ⟨hs', hx', Fr.one hk hgt (by simp) hold ⟨rfl, rfl, rfl⟩⟩, ?_⟩
    unfold VR
    exact ⟨hk, hsz, es ++ xs, by rw [get_setKey, if_pos rfl, hgt]; rfl, by simp, _, _, _, rfl, hroom, fun _ => ⟨rfl, rfl, rfl⟩⟩
  · have hlt : (R κ).cap < es.length + xs.length := by omega
    have hle : (es.length + xs.length) ≤ (es.length + xs.length) * bytes := Nat.le_mul_of_pos_right _ (by omega)
    have hfc : (Builtin.firstCells i.size es.length (.slice (some ⟨(R κ).b, (R κ).o, none⟩) es.length (R κ).cap)).run P w.drew = .ok olds.toArray w.drew :=
      run_firstCells_some (P := P) w.drew i.size es.length _ _ _ olds (by rw [hin]; exact holds.1) (fun j v hj => by rw [Addr.add_mid]; exact hcell j v (by simpa using hj))
    have hrun := run_append_grow_src (P := P) w t tx ty e i z ht hi hz (some ⟨(R κ).b, (R κ).o, none⟩) es.length (R κ).cap olds hfc y xs.length news (by rw [hin]; exact hsrc) hlt (by omega) (by rw [hby]; exact growslice_fits hlt hB)
    generalize hNC : grownCap w (es.length + xs.length) (R κ).cap e = NC at hrun
    have hNCge : es.length + xs.length ≤ NC := by rw [← hNC]; exact grownCap_ge w _ _ e
    have hg := (Grows.drew w).trans (Grows.alloc w.drew (.cells ((olds ++ news).toArray ++ Builtin.zeroCells z.cells (NC - (es.length + xs.length))) e))
    have hCs : ((olds ++ news).toArray ++ Builtin.zeroCells z.cells (NC - (es.length + xs.length))).size = NC * n := by
      have h1 := hcells.1
      rw [Array.size_append, size_zeroCells, List.size_toArray, h1, hlen, hzn, ← Nat.add_mul]
      congr 1; omega
    have hCget : ∀ k v, (olds ++ news)[k]? = some v → ((olds ++ news).toArray ++ Builtin.zeroCells z.cells (NC - (es.length + xs.length)))[k]? = some v := fun k v hk => by
      have hlt := (List.getElem?_eq_some_iff.1 hk).1
      rw [Array.getElem?_append_left (by simpa using hlt)]
      simpa using hk
    have hr0 : setR R κ ⟨w.heap.size, 0, NC, n⟩ κ = ⟨w.heap.size, 0, NC, n⟩ := by simp [setR]
    obtain ⟨hs', hx'⟩ := hs.arrGrow (R' := setR R κ ⟨w.heap.size, 0, NC, n⟩) hk hgt (es' := es ++ xs) (by omega) (w' := w.drew.alloc (.cells ((olds ++ news).toArray ++ Builtin.zeroCells z.cells (NC - (es.length + xs.length))) e))
      hg.size (fun κ' e' => by unfold setR; rw [if_neg e']) (.inr (by rw [hr0]; exact Nat.le_refl _)) (by rw [hr0]; exact hsz.symm) (fun b hb _ => hg.old b hb) (by rw [hr0]; exact heap_alloc_new w.drew _) (by rw [hr0, hlen]; exact hNCge) (by rw [hr0]; simp only [Nat.zero_add]; exact Nat.le_of_eq hCs.symm) (fun q ee hq => by
        rw [hr0]
        obtain ⟨h5, h6⟩ := hcells.2.2 q ee hq
        refine ⟨h5, fun j c hj => ?_⟩
        obtain ⟨v, h7, h8⟩ := h6 j c hj
        exact ⟨v, by simp only [Nat.zero_add]; exact hCget _ v h7, hcells.2.1 v (List.mem_of_getElem? h7), h8⟩)
    refine ⟨_, _, _, hrun, ⟨hs', hx', ⟨hg.size, fun b hb _ => hg.old b hb, fun κ' o' hk' hg' hlt' => ?_, hg.env⟩⟩, ?_⟩
    · by_cases e0 : κ' = κ
      · subst e0; rw [hr0] at hlt'; simp only at hlt'; omega
      · rw [get_setKey, if_neg e0] at hg'
        exact ⟨κ', o', hk', hg', by unfold setR; rw [if_neg e0]⟩
    · unfold VR
      exact ⟨hk, by rw [hr0], es ++ xs, by rw [get_setKey, if_pos rfl, hgt]; rfl, by simp, _, _, _, rfl, hNCge, fun _ => by rw [hr0]; exact ⟨rfl, rfl, rfl⟩⟩
theorem append_sound (hs : Sim X d G R w) {A : Ann} {t tx ty : TypeId} {g gx : GV} {x y : Value} {dst : Option Nat} {K : GV → Dl → Prop} (hx : VR (Mem X d G R w) G R d g x) (hy : VR (Mem X d G R w) G R d gx y)
    (h : gAppend P A d G t tx g gx dst K) :
    ∃ v δ rv w' R', K v δ ∧ (Builtin.append_ #[t, tx] ty #[x, y]).run P w = .ok rv w' ∧ Step X d G R w (appD G d dst δ) R' w' ∧ VR (Mem X d (appD G d dst δ) R' w') (appD G d dst δ) R' d v rv := by
  unfold gAppend at h
  split at h
  case h_2 => exact h.elim
  rename_i e n bytes he
  obtain ⟨i, z, ht, hi, hz, hzn, hin, hby, hn0, hb0⟩ := elT_spec he
  split at h
  case h_1 => exact h.elim
  rename_i xs hxs
  split at h
  case h_4 => exact h.elim
  case h_3 =>
    rename_i κ m sz
    obtain ⟨_, h⟩ := h
    split at h
    case h_2 => exact h.elim
    rename_i es hgt
    obtain ⟨rfl, rfl, hzx, hB, hK⟩ := h
    obtain ⟨news, hnews, hsrc⟩ := src_sound hs hn0 hzx hy hxs
    unfold VR at hx
    obtain ⟨hk, hsz, es0, hg0, _, b, o, c, rfl, _, ha⟩ := hx
    have e0 : es = es0 := by rw [hgt] at hg0; injection hg0 with e; injection e
    subst e0
    obtain ⟨rfl, rfl, rfl⟩ := ha rfl
    obtain ⟨rv, w', R', h1, h2, h3⟩ := append_arr hs (ty := ty) ht hi hz hzn hin hby hn0 hb0 hk hgt hsz hnews hsrc hB
    exact ⟨_, _, rv, w', R', hK, h1, h2, h3⟩
  · rename_i es
    obtain ⟨hze, hzx, hB, h⟩ := h
    obtain ⟨news, hnews, hsrc⟩ := src_sound hs hn0 hzx hy hxs
    unfold VR at hx
    obtain ⟨hp, a, rfl⟩ := hx
    obtain ⟨olds, holds, hnone, hcell⟩ := sl_cells hn0 hze hp
    have hfc : (Builtin.firstCells i.size es.length (.slice a es.length es.length)).run P w.drew = .ok olds.toArray w.drew := by
      cases a with
      | none =>
        have := hnone rfl
        subst this
        have : olds = [] := List.eq_nil_of_length_eq_zero (by simpa using holds.1)
        subst this
        exact run_firstCells_none w.drew i.size 0 0 0
      | some ad => exact run_firstCells_some (P := P) w.drew i.size es.length ad _ _ olds (by rw [hin]; exact holds.1) (fun j v hj => by simpa using hcell ad rfl j v hj)
    have grow : xs ≠ [] → (Builtin.append_ #[t, tx] ty #[.slice a es.length es.length, y]).run P w =
        .ok (.slice (some ⟨w.heap.size, 0, none⟩) (es.length + xs.length) (grownCap w (es.length + xs.length) es.length e))
          (w.drew.alloc (.cells ((olds ++ news).toArray ++ Builtin.zeroCells z.cells (grownCap w (es.length + xs.length) es.length e - (es.length + xs.length))) e)) := fun hne => by
      have hlt : es.length < es.length + xs.length := by have := List.length_pos_iff.2 hne; omega
      have hle : (es.length + xs.length) ≤ (es.length + xs.length) * bytes := Nat.le_mul_of_pos_right _ (by omega)
      exact run_append_grow_src (P := P) w t tx ty e i z ht hi hz a es.length es.length olds hfc y xs.length news (by rw [hin]; exact hsrc) hlt (by omega) (by rw [hby]; exact growslice_fits hlt hB)
    have hCget : ∀ (C : Array Value) k v, (olds ++ news)[k]? = some v → ((olds ++ news).toArray ++ C)[k]? = some v := fun C k v hk => by
      have hlt := (List.getElem?_eq_some_iff.1 hk).1
      rw [Array.getElem?_append_left (by simpa using hlt)]
      simpa using hk
    have hcells := holds.app hnews
    have hlen : (es ++ xs).length = es.length + xs.length := by simp
    by_cases hpure : dstIn A.pureAt dst = true
    · rw [if_pos hpure] at h
      by_cases hne : xs = []
      · subst hne
        have hnil : news = [] := List.eq_nil_of_length_eq_zero (by simpa using hnews.1)
        subst hnil
        refine ⟨_, _, .slice a es.length es.length, w, R, h, ?_, Step.refl hs, ?_⟩
        · cases a with
          | none =>
            have := hnone rfl
            subst this
            have hc := hsrc.cells
            rcases hsrc.kind with ⟨e', hk⟩ | hk <;> simp [Builtin.append_, run_underlying ht, run_underlying hk, sizeOf, typeInfo, hi, hsrc.len, hin] <;> (simp at hc; simp [hc])
          | some ad =>
            have hc := hsrc.cells
            rcases hsrc.kind with ⟨e', hk⟩ | hk <;> simp [Builtin.append_, run_underlying ht, run_underlying hk, sizeOf, typeInfo, hi, hsrc.len, hin] <;> (simp at hc; simp [hc, storeCells])
        · rw [List.append_nil]; exact VR.p_iff.2 hp
      · have hst := Step.grow hs ((Grows.drew w).trans (Grows.alloc w.drew (.cells ((olds ++ news).toArray ++ Builtin.zeroCells z.cells (grownCap w (es.length + xs.length) es.length e - (es.length + xs.length))) e)))
        refine ⟨_, _, _, _, R, h, grow hne, hst, VR.p_iff.2 (PR.row (by simp) (grownCap_ge w _ _ e) hcells hst.ext.mem (hCget _) fun k v _ hk h1 => Mem.new (w := w.drew) (hs.grow (Grows.drew w)) hk h1)⟩
    · rw [if_neg hpure] at h
      by_cases hemp : xs.isEmpty = true
      · rw [if_pos hemp] at h
        have hne : xs = [] := by simpa using hemp
        subst hne
        have hnil : news = [] := List.eq_nil_of_length_eq_zero (by simpa using hnews.1)
        subst hnil
        refine ⟨_, _, .slice a es.length es.length, w, R, h, ?_, Step.refl hs, ?_⟩
        · cases a with
          | none =>
            have := hnone rfl
            subst this
            have hc := hsrc.cells
            rcases hsrc.kind with ⟨e', hk⟩ | hk <;> simp [Builtin.append_, run_underlying ht, run_underlying hk, sizeOf, typeInfo, hi, hsrc.len, hin] <;> (simp at hc; simp [hc])
          | some ad =>
            have hc := hsrc.cells
            rcases hsrc.kind with ⟨e', hk⟩ | hk <;> simp [Builtin.append_, run_underlying ht, run_underlying hk, sizeOf, typeInfo, hi, hsrc.len, hin] <;> (simp at hc; simp [hc, storeCells])
        · unfold VR; exact ⟨hp, a, rfl⟩
      rw [if_neg hemp] at h
      have hne : xs ≠ [] := by simpa using hemp
      by_cases hopen : dstIn A.openAt dst = true
      · rw [if_pos hopen] at h
        obtain ⟨k0, t0, hk0, hf, hK⟩ := h
        have hg := (Grows.drew w).trans (Grows.alloc w.drew (.cells ((olds ++ news).toArray ++ Builtin.zeroCells z.cells (grownCap w (es.length + xs.length) es.length e - (es.length + xs.length))) e))
        have hCs : ((olds ++ news).toArray ++ Builtin.zeroCells z.cells (grownCap w (es.length + xs.length) es.length e - (es.length + xs.length))).size = grownCap w (es.length + xs.length) es.length e * n := by
          have h1 := hcells.1
          have h2 := grownCap_ge w (es.length + xs.length) es.length e
          rw [Array.size_append, size_zeroCells, List.size_toArray, h1, hlen, hzn, ← Nat.add_mul]
          congr 1; omega
        have hst := Step.fillAt hs hg hk0 hf (.arr (es ++ xs)) ⟨w.heap.size, 0, grownCap w (es.length + xs.length) es.length e, n⟩ (Nat.le_refl _)
          (fun G' R' hx hr => ⟨_, e, by rw [hr]; exact heap_alloc_new w.drew _, by rw [hr, hlen]; exact grownCap_ge w _ _ e, by rw [hr]; simp only [Nat.zero_add]; exact Nat.le_of_eq hCs.symm, fun q ee hq => by
            rw [hr]
            obtain ⟨h5, h6⟩ := hcells.2.2 q ee hq
            refine ⟨h5, fun j c hj => ?_⟩
            obtain ⟨v, h7, h8⟩ := h6 j c hj
            exact ⟨v, by simp only [Nat.zero_add]; exact hCget _ _ v h7, hcells.2.1 v (List.mem_of_getElem? h7), PR.mono hx.mem _ _ h8⟩⟩)
        refine ⟨_, _, _, _, _, hK, grow hne, hst, ?_⟩
        unfold VR
        exact ⟨hk0, by simp [setR], _, get_fill_new G k0 t0 _, by simp, _, _, _, rfl, grownCap_ge w _ _ e, fun _ => by simp [setR]⟩
      rw [if_neg hopen] at h
      by_cases harr : dstIn A.arrAt dst = true
      · rw [if_pos harr] at h
        obtain ⟨hf, hK⟩ := h
        cases dst with
        | none => exact hf.elim
        | some t0 =>
          unfold free at hf
          have hg := (Grows.drew w).trans (Grows.alloc w.drew (.cells ((olds ++ news).toArray ++ Builtin.zeroCells z.cells (grownCap w (es.length + xs.length) es.length e - (es.length + xs.length))) e))
          have hCs : ((olds ++ news).toArray ++ Builtin.zeroCells z.cells (grownCap w (es.length + xs.length) es.length e - (es.length + xs.length))).size = grownCap w (es.length + xs.length) es.length e * n := by
            have h1 := hcells.1
            have h2 := grownCap_ge w (es.length + xs.length) es.length e
            rw [Array.size_append, size_zeroCells, List.size_toArray, h1, hlen, hzn, ← Nat.add_mul]
            congr 1; omega
          have hst := Step.fill hs hg hf (.arr (es ++ xs)) ⟨w.heap.size, 0, grownCap w (es.length + xs.length) es.length e, n⟩ (Nat.le_refl _)
            (fun G' R' hx hr => ⟨_, e, by rw [hr]; exact heap_alloc_new w.drew _, by rw [hr, hlen]; exact grownCap_ge w _ _ e, by rw [hr]; simp only [Nat.zero_add]; exact Nat.le_of_eq hCs.symm, fun q ee hq => by
              rw [hr]
              obtain ⟨h5, h6⟩ := hcells.2.2 q ee hq
              refine ⟨h5, fun j c hj => ?_⟩
              obtain ⟨v, h7, h8⟩ := h6 j c hj
              exact ⟨v, by simp only [Nat.zero_add]; exact hCget _ _ v h7, hcells.2.1 v (List.mem_of_getElem? h7), PR.mono hx.mem _ _ h8⟩⟩)
          refine ⟨_, _, _, _, _, hK, grow hne, hst, ?_⟩
          unfold VR
          exact ⟨Nat.le_refl _, by simp [setR], _, get_fill_new G d t0 _, by simp, _, _, _, rfl, grownCap_ge w _ _ e, fun _ => by simp [setR]⟩
      rw [if_neg harr] at h
      obtain ⟨hf, hK⟩ := h
      cases dst with
      | none => exact hf.elim
      | some t0 =>
        unfold free at hf
        have hg := (Grows.drew w).trans (Grows.alloc w.drew (.cells ((olds ++ news).toArray ++ Builtin.zeroCells z.cells (grownCap w (es.length + xs.length) es.length e - (es.length + xs.length))) e))
        have hCs : ((olds ++ news).toArray ++ Builtin.zeroCells z.cells (grownCap w (es.length + xs.length) es.length e - (es.length + xs.length))).size = grownCap w (es.length + xs.length) es.length e * n := by
          have h1 := hcells.1
          have h2 := grownCap_ge w (es.length + xs.length) es.length e
          rw [Array.size_append, size_zeroCells, List.size_toArray, h1, hlen, hzn, ← Nat.add_mul]
          congr 1; omega
        have hst := Step.fill hs hg hf (.tok (es.length + xs.length) n) ⟨w.heap.size, 0, grownCap w (es.length + xs.length) es.length e, n⟩ (Nat.le_refl _)
          (fun G' R' hx hr => ⟨⟨_, e, by rw [hr]; exact heap_alloc_new w.drew _, by rw [hr]; exact grownCap_ge w _ _ e, by rw [hr]; simp only [Nat.zero_add]; exact Nat.le_of_eq hCs.symm⟩, by rw [hr]⟩)
        refine ⟨_, _, _, _, _, hK, grow hne, hst, ?_⟩
        unfold VR
        refine ⟨PR.row (by simp) (grownCap_ge w _ _ e) hcells hst.ext.mem (hCget (Builtin.zeroCells z.cells (grownCap w (es.length + xs.length) es.length e - (es.length + xs.length)))) (fun k v hk hkv h1 => ⟨?_, h1, (fun hX => absurd (hs.off _ _ hX) (by omega)), fun κ o hk' hg' hbb => ?_⟩), Nat.le_refl _, _, n, get_fill_new G d t0 _, by rw [hlen]; exact Nat.le_refl _, fun _ => by simp [setR]⟩
        · exact (cell_of_row _ w.heap.size k _ e _ (heap_alloc_new w.drew _)).trans hkv
        · rw [show appD G d (some t0) (.fill [.tok (es.length + xs.length) n]) = fillKey G d t0 [.tok (es.length + xs.length) n] from rfl] at hg'
          by_cases e0 : κ = (d, t0, 0)
          · subst e0
            rw [get_fill_new] at hg'
            cases hg'
            exact ⟨_, _, rfl, by simp only [setR, if_true, Nat.zero_add]; exact hk⟩
          · exfalso
            have hg2 : get G κ = some o := by
              rw [get_fillKey] at hg'
              split at hg'
              · rename_i e1
                exfalso
                apply e0
                obtain ⟨k1, k2, k3⟩ := κ
                simp only at e1
                obtain ⟨rfl, rfl⟩ := e1
                cases k3 with
                | zero => rfl
                | succ k3 => simp at hg'
              · exact hg'
            have := hs.lt hk' hg2
            unfold setR at hbb
            rw [if_neg e0] at hbb
            omega
  · rename_i es κ
    obtain ⟨_, hze, hzx, hB, hgt, hK⟩ := h
    obtain ⟨news, hnews, hsrc⟩ := src_sound hs hn0 hzx hy hxs
    unfold VR at hx
    obtain ⟨hp, hk, m, sz, hg2, hm1, hm2⟩ := hx
    rw [hgt] at hg2
    cases hg2
    have hxe := hm2 rfl
    subst hxe
    obtain ⟨⟨cs, T, h1, hcap, hsize⟩, hsz⟩ := hs.obj κ _ hk hgt
    by_cases hne : xs = []
    · subst hne
      have hnil : news = [] := List.eq_nil_of_length_eq_zero (by simpa using hnews.1)
      subst hnil
      refine ⟨_, _, .slice (some ⟨(R κ).b, (R κ).o, none⟩) es.length (R κ).cap, w, R, hK, ?_, ?_, ?_⟩
      · have hc := hsrc.cells
        rcases hsrc.kind with ⟨e', hk'⟩ | hk' <;> simp [Builtin.append_, run_underlying ht, run_underlying hk', sizeOf, typeInfo, hi, hsrc.len, hin, hcap] <;> (simp at hc; simp [hc, storeCells])
      · simp only [appD, List.length_nil, Nat.add_zero, setKey_same hgt]
        exact Step.refl hs
      · simp only [appD, List.length_nil, Nat.add_zero, setKey_same hgt, List.append_nil]
        unfold VR
        exact ⟨hp, hk, _, n, hgt, Nat.le_refl _, fun _ => rfl⟩
    · have hxl : 0 < xs.length := List.length_pos_iff.2 hne
      obtain ⟨olds, holds, _, hcell⟩ := sl_cells hn0 hze hp
      have hcells := holds.app hnews
      have hlen : (es ++ xs).length = es.length + xs.length := by simp
      by_cases hroom : es.length + xs.length ≤ (R κ).cap
      · 
        have hfit : (R κ).o + es.length * n + news.length ≤ cs.size := by
          have h2 : (es.length + xs.length) * n ≤ (R κ).cap * n := Nat.mul_le_mul_right _ hroom
          rw [Nat.add_mul] at h2
          rw [hsz] at hsize
          have := hnews.1
          omega
        have hrun := run_append_room_src (P := P) w t tx ty e i ht hi (R κ).b (R κ).o es.length (R κ).cap y xs.length news (by rw [hin]; exact hsrc) hroom
          (fun j hj => by rw [hin, cell_of_row w _ _ cs T _ h1, Array.getElem?_eq_getElem (by omega)]; rfl) (fun j hj => frozen_of_row w _ _ cs T h1)
        rw [hin] at hrun
        have hrow := setCells_row P w (R κ).b ((R κ).o + es.length * n) T cs news h1 hfit hnews.2.1
        rw [hrow] at hrun
        have hC : ∀ k : Nat, (cs.toList.take ((R κ).o + es.length * n) ++ news ++ cs.toList.drop ((R κ).o + es.length * n + news.length)).toArray[k]? =
            if (R κ).o + es.length * n ≤ k ∧ k < (R κ).o + es.length * n + news.length then news[k - ((R κ).o + es.length * n)]? else cs[k]? := fun k => by
          simp only [List.getElem?_toArray, List.getElem?_append, List.length_append, List.length_take, Array.length_toList, List.getElem?_take, List.getElem?_drop, Array.getElem?_toList]
          have hm : min ((R κ).o + es.length * n) cs.size = (R κ).o + es.length * n := by omega
          rw [hm]
          by_cases c1 : k < (R κ).o + es.length * n
          · rw [if_pos (by omega), if_pos c1, if_pos c1, if_neg (by omega)]
          · by_cases c2 : k < (R κ).o + es.length * n + news.length
            · rw [if_pos (by omega), if_neg c1, if_pos (by omega)]
            · rw [if_neg (by omega), if_neg (by omega)]
              congr 1; omega
        have hold : ∀ b, b < w.heap.size → b ≠ (R κ).b → (w.setRow (R κ).b (cs.toList.take ((R κ).o + es.length * n) ++ news ++ cs.toList.drop ((R κ).o + es.length * n + news.length)).toArray).heap[b]? = w.heap[b]? := fun b _ hb => setRow_other w _ _ _ hb
        obtain ⟨hs', hx'⟩ := hs.room hk hgt (n' := es.length + xs.length) (by omega) hroom (w' := w.setRow (R κ).b (cs.toList.take ((R κ).o + es.length * n) ++ news ++ cs.toList.drop ((R κ).o + es.length * n + news.length)).toArray)
          (by simp) hold h1 (setRow_heap w _ _ _ _ _ h1) (by simp; omega) (fun k hk => by rw [hC, if_neg (by rw [hsz] at hk; omega)])
        refine ⟨_, _, _, _, R, hK, hrun, ⟨hs', hx', Fr.one hk hgt (by simp) hold ⟨rfl, rfl, rfl⟩⟩, ?_⟩
        have hp' := PR.mono hx'.mem _ _ hp
        simp only [appD]
        unfold VR
        refine ⟨?_, hk, es.length + xs.length, n, by rw [get_setKey, if_pos rfl, hgt]; rfl, by rw [hlen]; exact Nat.le_refl _, fun _ => rfl⟩
        unfold PR at hp' ⊢
        obtain ⟨a', cap', e1, e2, e3, e4⟩ := hp'
        injection e1 with e5 e6 e7
        subst e5 e7
        refine ⟨_, _, by rw [hlen], by rw [hlen]; exact hroom, (fun h => by cases h), fun _ => ⟨(R κ).b, (R κ).o, n, rfl, PRss.of_get fun q ee hq => ?_⟩⟩
        rw [List.getElem?_append] at hq
        split at hq
        · rename_i hql
          obtain ⟨b0, o0, sz0, e8, e9⟩ := e4 (by rintro rfl; simp at hql)
          cases e8
          have hsz0 : sz0 = n := by
            obtain ⟨ee0, hee0⟩ : ∃ ee0, es[0]? = some ee0 := ⟨es[0]'(by omega), List.getElem?_eq_getElem (by omega)⟩
            rw [← (PRss.get e9 hee0).1]; exact hze ee0 (List.mem_of_getElem? hee0)
          subst hsz0
          exact PRss.get e9 hq
        · rename_i hql
          obtain ⟨h5, h6⟩ := hnews.2.2 _ ee hq
          refine ⟨h5, PRs.of_get fun j c hj => ?_⟩
          obtain ⟨v, h7, h8⟩ := h6 j c hj
          have hjl := (List.getElem?_eq_some_iff.1 hj).1
          have hvl := (List.getElem?_eq_some_iff.1 h7).1
          have hq1 : (q - es.length) * n + es.length * n = q * n := by rw [← Nat.add_mul]; congr 1; omega
          refine ⟨v, ⟨?_, hnews.2.1 v (List.mem_of_getElem? h7), hs.apart κ _ hk hgt _, fun κ' o' hk' hg' hbb => ?_⟩, PR.mono hx'.mem c v h8⟩
          · rw [cell_of_row _ _ _ _ T _ (setRow_heap w _ _ _ _ _ h1), hC, if_pos (by omega), show (R κ).o + q * n + j - ((R κ).o + es.length * n) = (q - es.length) * n + j by omega]
            exact h7
          · have hkk : κ' = κ := by
              refine hs'.inj κ' κ o' (.tok (es.length + xs.length) n) hk' hk hg' (by rw [get_setKey, if_pos rfl, hgt]; rfl) hbb
            subst hkk
            rw [get_setKey, if_pos rfl, hgt] at hg'
            cases hg'
            refine ⟨_, _, rfl, ?_⟩
            rw [hsz]
            have := hnews.1
            rw [Nat.add_mul]
            omega
      · 
        have hlt : (R κ).cap < es.length + xs.length := by omega
        have hle : (es.length + xs.length) ≤ (es.length + xs.length) * bytes := Nat.le_mul_of_pos_right _ (by omega)
        have hfc : (Builtin.firstCells i.size es.length (.slice (some ⟨(R κ).b, (R κ).o, none⟩) es.length (R κ).cap)).run P w.drew = .ok olds.toArray w.drew :=
          run_firstCells_some (P := P) w.drew i.size es.length _ _ _ olds (by rw [hin]; exact holds.1) (fun j v hj => by simpa using hcell _ rfl j v hj)
        have hrun := run_append_grow_src (P := P) w t tx ty e i z ht hi hz (some ⟨(R κ).b, (R κ).o, none⟩) es.length (R κ).cap olds hfc y xs.length news (by rw [hin]; exact hsrc) hlt (by omega) (by rw [hby]; exact growslice_fits hlt hB)
        generalize hNC : grownCap w (es.length + xs.length) (R κ).cap e = NC at hrun
        have hNCge : es.length + xs.length ≤ NC := by rw [← hNC]; exact grownCap_ge w _ _ e
        have hg := (Grows.drew w).trans (Grows.alloc w.drew (.cells ((olds ++ news).toArray ++ Builtin.zeroCells z.cells (NC - (es.length + xs.length))) e))
        have hCs : ((olds ++ news).toArray ++ Builtin.zeroCells z.cells (NC - (es.length + xs.length))).size = NC * n := by
          have h1 := hcells.1
          rw [Array.size_append, size_zeroCells, List.size_toArray, h1, hlen, hzn, ← Nat.add_mul]
          congr 1; omega
        have hCget : ∀ k v, (olds ++ news)[k]? = some v → ((olds ++ news).toArray ++ Builtin.zeroCells z.cells (NC - (es.length + xs.length)))[k]? = some v := fun k v hk => by
          have hlt := (List.getElem?_eq_some_iff.1 hk).1
          rw [Array.getElem?_append_left (by simpa using hlt)]
          simpa using hk
        obtain ⟨hs', hx'⟩ := hs.anew hk hgt (n' := es.length + xs.length) (by omega) hg ⟨w.heap.size, 0, NC, n⟩ (Nat.le_refl _) (heap_alloc_new w.drew _) hNCge (by simp only [Nat.zero_add]; exact Nat.le_of_eq hCs.symm) rfl
        refine ⟨_, _, _, _, _, hK, hrun, ⟨hs', hx', ⟨hg.size, fun b hb _ => hg.old b hb, fun κ' o' hk' hg' hlt' => ?_, hg.env⟩⟩, ?_⟩
        · by_cases e0 : κ' = κ
          · subst e0; simp only [setR, if_true] at hlt'; omega
          · rw [show appD G d dst (.set κ (.tok (es.length + xs.length) n)) = setKey G κ (.tok (es.length + xs.length) n) from rfl, get_setKey, if_neg e0] at hg'
            exact ⟨κ', o', hk', hg', by unfold setR; rw [if_neg e0]⟩
        · simp only [appD]
          unfold VR
          refine ⟨PR.row (by simp) hNCge hcells hx'.mem hCget (fun k v hkl hkv h1' => ⟨?_, h1', (fun hX => absurd (hs.off _ _ hX) (by omega)), fun κ' o' hk' hg' hbb => ?_⟩), hk, es.length + xs.length, n, by rw [get_setKey, if_pos rfl, hgt]; rfl, by rw [hlen]; exact Nat.le_refl _, fun _ => by simp [setR]⟩
          · exact (cell_of_row _ w.heap.size k _ e _ (heap_alloc_new w.drew _)).trans hkv
          · by_cases e0 : κ' = κ
            · subst e0
              rw [get_setKey, if_pos rfl, hgt] at hg'
              cases hg'
              exact ⟨_, _, rfl, by simp only [setR, if_true, Nat.zero_add]; exact hkl⟩
            · exfalso
              rw [get_setKey, if_neg e0] at hg'
              have := hs.lt hk' hg'
              unfold setR at hbb
              rw [if_neg e0] at hbb
              omega
theorem copy_sound (hs : Sim X d G R w) {t tx ty : TypeId} {g gx : GV} {x y : Value} {K : GV → Dl → Prop} {dst : Option Nat} (hx : VR (Mem X d G R w) G R d g x) (hy : VR (Mem X d G R w) G R d gx y) (h : gCopy P G t tx g gx K) :
    ∃ v δ rv w', K v δ ∧ (Builtin.copy_ #[t, tx] ty #[x, y]).run P w = .ok rv w' ∧ Step X d G R w (appD G d dst δ) R w' ∧ VR (Mem X d (appD G d dst δ) R w') (appD G d dst δ) R d v rv := by
  unfold gCopy at h
  split at h
  case h_2 => exact h.elim
  rename_i e n bytes κ m lo hi sz he hp
  split at h
  case h_2 => exact h.elim
  rename_i xs es hxs hg
  obtain ⟨hm, hszn, hzx, hle, hK⟩ := h
  obtain ⟨i, z, ht, hi', hz, hzn, hin, hby, hn0, hb0⟩ := elT_spec he
  obtain ⟨news, hnews, hsrc⟩ := src_sound hs hn0 hzx hy hxs
  have hd : ∃ a c, x = .slice (some a) (hi - lo) c ∧ lo ≤ hi ∧ hi ≤ m ∧ κ.1 ≤ d ∧ (R κ).sz = sz ∧ (lo < hi → a = ⟨(R κ).b, (R κ).o + lo * sz, none⟩) := by
    unfold partOf at hp
    split at hp
    · cases hp
      unfold VR at hx
      obtain ⟨hk, hR, es0, hg0, _, b, o, c, rfl, _, ha⟩ := hx
      have e0 : es = es0 := by rw [hg] at hg0; injection hg0 with e; injection e
      subst e0
      obtain ⟨rfl, rfl, _⟩ := ha hm
      exact ⟨_, c, rfl, Nat.zero_le _, Nat.le_refl _, hk, hR, fun _ => by simp⟩
    · cases hp
      unfold VR at hx
      obtain ⟨hk, h1, h2, hR, es0, hg0, _, a, c, rfl, _, ha⟩ := hx
      have e0 : es = es0 := by rw [hg] at hg0; injection hg0 with e; injection e
      subst e0
      exact ⟨a, c, rfl, h1, h2, hk, hR, ha hm⟩
    · cases hp
  obtain ⟨a, c, rfl, h1, h2, hk, hR, ha⟩ := hd
  have hmin : min xs.length (hi - lo) = xs.length := by omega
  have hmin' : Nat.min xs.length (hi - lo) = xs.length := hmin
  have hfc := hsrc.cells
  have hln := hsrc.len w
  by_cases hne : xs = []
  · subst hne
    have hnil : news = [] := List.eq_nil_of_length_eq_zero (by simpa using hnews.1)
    subst hnil
    refine ⟨_, _, .int .i64 0, w, hK, ?_, ?_, VR.p_iff.2 (by unfold PR; rfl)⟩
    · simp at hln hfc
      simp [Builtin.copy_, run_underlying ht, sizeOf, typeInfo, hi', hln, hin, hfc, storeCells, goInt]
    · show Step X d G R w (setKey G κ _) R w
      rw [show es.take lo ++ ([] ++ es.drop (lo + ([] : List (List PV)).length)) = es by simp, setKey_same hg]
      exact Step.refl hs
  have hxl : 0 < xs.length := List.length_pos_iff.2 hne
  have ea := ha (by omega)
  subst ea
  obtain ⟨cs, T, hb, hcap, hsize, hrow⟩ := hs.obj κ _ hk hg
  have hln2 := hnews.1
  have hfit : (R κ).o + lo * sz + news.length ≤ cs.size := by
    have e1 : (lo + xs.length) * sz ≤ (R κ).cap * sz := Nat.mul_le_mul_right _ (by omega)
    rw [Nat.add_mul] at e1
    rw [hR] at hsize
    rw [hszn] at e1 hsize ⊢
    omega
  have hst := run_storeCells_at P (R κ).b ((R κ).o + lo * sz) T news 0 cs w hb (by simpa using hfit) hsrc.one
  simp only [Nat.add_zero] at hst
  generalize hC0 : (cs.toList.take ((R κ).o + lo * sz) ++ news ++ cs.toList.drop ((R κ).o + lo * sz + news.length)).toArray = C at hst
  have hold : ∀ b, b < w.heap.size → b ≠ (R κ).b → (w.setRow (R κ).b C).heap[b]? = w.heap[b]? := fun b _ hb => setRow_other w _ _ _ hb
  have hCs : C.size = cs.size := by rw [← hC0]; simp; omega
  have hC : ∀ k : Nat, C[k]? = if (R κ).o + lo * sz ≤ k ∧ k < (R κ).o + lo * sz + news.length then news[k - ((R κ).o + lo * sz)]? else cs[k]? := fun k => by
    rw [← hC0]
    simp only [List.getElem?_toArray, List.getElem?_append, List.length_append, List.length_take, Array.length_toList, List.getElem?_take, List.getElem?_drop, Array.getElem?_toList]
    have hm : min ((R κ).o + lo * sz) cs.size = (R κ).o + lo * sz := by omega
    rw [hm]
    by_cases c1 : k < (R κ).o + lo * sz
    · rw [if_pos (by omega), if_pos c1, if_pos c1, if_neg (by omega)]
    · by_cases c2 : k < (R κ).o + lo * sz + news.length
      · rw [if_pos (by omega), if_neg c1, if_pos (by omega)]
      · rw [if_neg (by omega), if_neg (by omega)]
        congr 1; omega
  obtain ⟨hs', hx'⟩ := hs.arrSet hk hg (es' := es.take lo ++ (xs ++ es.drop (lo + xs.length))) (w' := w.setRow (R κ).b C) (by simp; omega) (by simp) hold (cs' := C) (setRow_heap w _ _ _ _ _ hb) (by
      have : (es.take lo ++ (xs ++ es.drop (lo + xs.length))).length = es.length := by simp; omega
      rw [this]; exact hcap) (by rw [hCs]; exact hsize) (fun q ee hq => by
    rw [List.getElem?_append] at hq
    have hlt : (es.take lo).length = lo := by simp; omega
    rw [hlt] at hq
    split at hq
    · rename_i hql
      rw [List.getElem?_take, if_pos hql] at hq
      obtain ⟨h5, h6⟩ := hrow q ee hq
      refine ⟨h5, fun j c hj => ?_⟩
      obtain ⟨v, h7, h8, h9⟩ := h6 j c hj
      have hjl := (List.getElem?_eq_some_iff.1 hj).1
      have e1 : (q + 1) * sz ≤ lo * sz := Nat.mul_le_mul_right _ (by omega)
      rw [Nat.add_mul] at e1
      refine ⟨v, ?_, h8, h9⟩
      rw [hC, if_neg (by rw [hR] at h5 ⊢; omega)]; exact h7
    · rename_i hql
      rw [List.getElem?_append] at hq
      split at hq
      · rename_i hqx
        obtain ⟨h5, h6⟩ := hnews.2.2 _ ee hq
        refine ⟨by rw [hR, hszn]; exact h5, fun j c hj => ?_⟩
        obtain ⟨v, h7, h8⟩ := h6 j c hj
        have hvl := (List.getElem?_eq_some_iff.1 h7).1
        have hq1 : (q - lo) * n + lo * n = q * n := by rw [← Nat.add_mul]; congr 1; omega
        refine ⟨v, ?_, hnews.2.1 v (List.mem_of_getElem? h7), h8⟩
        rw [hC, if_pos (by rw [hR, hszn]; omega), show (R κ).o + q * (R κ).sz + j - ((R κ).o + lo * sz) = (q - lo) * n + j by rw [hR, hszn]; omega]
        exact h7
      · rename_i hqx
        rw [List.getElem?_drop] at hq
        have eq : lo + xs.length + (q - lo - xs.length) = q := by omega
        rw [eq] at hq
        obtain ⟨h5, h6⟩ := hrow q ee hq
        refine ⟨h5, fun j c hj => ?_⟩
        obtain ⟨v, h7, h8, h9⟩ := h6 j c hj
        have e1 : (lo + xs.length) * sz ≤ q * sz := Nat.mul_le_mul_right _ (by omega)
        rw [Nat.add_mul] at e1
        refine ⟨v, ?_, h8, h9⟩
        rw [hC, if_neg (by rw [hR]; rw [hszn] at e1 ⊢; omega)]; exact h7)
  refine ⟨_, _, .int .i64 xs.length, _, hK, ?_, ⟨hs', hx', Fr.one hk hg (by simp) hold ⟨rfl, rfl, rfl⟩⟩, VR.p_iff.2 (by unfold PR; rfl)⟩
  rw [← hin] at hfc
  simp [Builtin.copy_, run_underlying ht, sizeOf, typeInfo, hi', hln, hmin, hmin', hfc, hst, goInt]
theorem make_sound (hs : Sim X d G R w) {A : Ann} {t : TypeId} {gl gc : GV} {x y : Value} {K : GV → Dl → Prop} {dst : Option Nat} (hx : VR (Mem X d G R w) G R d gl x) (hy : VR (Mem X d G R w) G R d gc y) (h : gMake P A d t gl gc dst G K) :
    ∃ v δ rv w' R', K v δ ∧ (Instr.makeSlice t x y).run P w = .ok rv w' ∧ Step X d G R w (appD G d dst δ) R' w' ∧ VR (Mem X d (appD G d dst δ) R' w') (appD G d dst δ) R' d v rv := by
  unfold gMake at h
  split at h
  case h_2 => exact h.elim
  rename_i e n bytes k1 j k2 j' he
  split at h
  case h_2 => exact h.elim
  rename_i ps hps
  obtain ⟨ha, hpl, h0, rfl, hB, hf, hK⟩ := h
  obtain ⟨i, z, ht, hi, hz, hzn, hin, hby, hn0, hb0⟩ := elT_spec he
  obtain ⟨zs, hzs, hps⟩ := Option.bind_eq_some_iff.1 hps
  obtain ⟨i', z', g1, g2, g3, g4⟩ := zc_spec hzs
  rw [hi] at g1
  cases g1
  rw [hz] at g2
  cases g2
  have hx' := VR.p_iff.1 hx
  unfold PR at hx'
  subst hx'
  have hy' := VR.p_iff.1 hy
  unfold PR at hy'
  subst hy'
  have hB' : (i.bytes : Int) * j' ≤ 281474976710656 := by rw [hby, Int.mul_comm]; omega
  have h63 : j' ≤ 9223372036854775807 := by
    have : j' * 1 ≤ j' * (bytes : Int) := Int.mul_le_mul_of_nonneg_left (by omega) h0
    omega
  have hrun := run_make (P := P) w t e i z ht hi hz k1 k2 j' j' h0 (Int.le_refl _) hB' h63
  cases dst with
  | none => exact hf.elim
  | some t0 =>
    unfold free at hf
    have hzl : zs.length = n := by
      have := (purs_get (M := Mem X d G R w) (G := G) (R := R) (d := d) hps (VRs.map (M := Mem X d G R w) cv1 id zs (fun v _ => VR.cv1 v))).1
      simp at this; omega
    have hzc : z.cells.toList = zs := g3
    have hcell : ∀ k : Nat, k < j'.toNat * n → (madeCells z.cells (j'.toNat * i.size)).toList[k]? = zs[k % n]? := fun k hk => by
      have hm : k % n < n := Nat.mod_lt _ hn0
      have hk' : k < j'.toNat * i.size := by rw [hin]; exact hk
      simp only [madeCells, Array.toList_map, List.getElem?_map, Array.toList_range, List.getElem?_range hk', Option.map_some]
      rw [hzn, ← hzc, Array.getElem?_toList, getElem!_pos z.cells (k % n) (by rw [hzn]; exact hm), Array.getElem?_eq_getElem (by rw [hzn]; exact hm)]
    obtain ⟨R', hst, hv⟩ := newArr (es := List.replicate j'.toNat ps) (vs := (madeCells z.cells (j'.toNat * i.size)).toList) (sz := n) (n := j'.toNat) hs hf e (by simp) (by simp [size_madeCells, hin]) (fun v hv => by
        obtain ⟨k, hk⟩ := List.getElem?_of_mem hv
        have hkl : k < j'.toNat * n := by have := (List.getElem?_eq_some_iff.1 hk).1; simpa [size_madeCells, hin] using this
        rw [hcell k hkl] at hk
        exact g4 v (List.mem_of_getElem? hk)) (fun q ee hq => by
        obtain ⟨hql, hqe⟩ := List.getElem?_eq_some_iff.1 hq
        simp at hql hqe
        subst hqe
        refine ⟨hpl, fun b c hc => ?_⟩
        obtain ⟨v, h1, h2⟩ := (purs_get (M := Mem X d G R w) (G := G) (R := R) (d := d) hps (VRs.map (M := Mem X d G R w) cv1 id zs (fun v _ => VR.cv1 v))).2 b c hc
        have hbl := (List.getElem?_eq_some_iff.1 hc).1
        have hlt : q * n + b < j'.toNat * n := by
          have : (q + 1) * n ≤ j'.toNat * n := Nat.mul_le_mul_right _ (by omega)
          rw [Nat.add_mul] at this
          omega
        refine ⟨v, ?_, h2⟩
        rw [hcell _ hlt, Nat.mul_comm, Nat.mul_add_mod, Nat.mod_eq_of_lt (by omega)]
        simpa using h1)
    exact ⟨_, _, _, _, R', hK, hrun, by simpa [appD, fillD] using hst, by simpa [appD, fillD] using hv⟩
end
end Go.Eng
end
section
set_option linter.all false
namespace Go.Eng
def FnOK (P : Program) (f : FuncId) : Prop := ∃ fn, P.funcs[f]? = some fn ∧ fn.body.isSome = true ∧ (fn.name == "runtime.NumGoroutine") = false
def Tabs (TB : Nat → Option Obj) (X : XS) : Prop := ∀ b o, TB b = some o → X.tb b = some o
def Runs (P : Program) (f : FuncId) (vals : Array Value) (w : World) (T : Value → World → Prop) : Prop :=
  (FnOK P f ∧ Calls P f vals w fun e w' => ∃ v, e = .returned v ∧ T v w') ∨ ∃ v w', (callFunc f vals).run P w = .ok (.value v) w' ∧ T v w'
theorem Runs.mono {P : Program} {f : FuncId} {vals : Array Value} {w : World} {T T' : Value → World → Prop} (h : Runs P f vals w T) (ht : ∀ v w', T v w' → T' v w') : Runs P f vals w T' := by
  rcases h with ⟨h1, h2⟩ | ⟨v, w', h1, h2⟩
  · exact .inl ⟨h1, h2.mono fun e w' ⟨v, he, hv⟩ => ⟨v, he, ht v w' hv⟩⟩
  · exact .inr ⟨v, w', h1, ht v w' h2⟩
def Known (P : Program) (TB : Nat → Option Obj) (C : CR) : Prop := ∀ d f args G r G', C d f args G r G' → ∀ (X : XS) (R : RMap) (w : World) (vals : List Value), Tabs TB X → Sim X d G R w → VRs (Mem X d G R w) G R d args vals → ∀ t0, G d t0 = [] → G' d t0 = [] →
  Runs P f vals.toArray w (fun v w' => ∃ R', Step X d G R w (fillKey G' d t0 (adopt d t0 r []).2) R' w' ∧
    VR (Mem X d (fillKey G' d t0 (adopt d t0 r []).2) R' w') (fillKey G' d t0 (adopt d t0 r []).2) R' d (adopt d t0 r []).1 v)
theorem get_empty (κ : Key) : get empty κ = none := by simp [get, empty]
section
variable {M M' : Nat → Nat → Value → Prop} {G G' : Heap} {R R' : RMap} {d : Nat}
mutual
theorem closed_VR (h : ∀ b i v, M b i v → M' b i v) : ∀ (g : GV) (x : Value), closed g → VR M G R d g x → VR M' G' R' d g x
  | .undef, _, hc, _ => by unfold closed at hc; exact hc.elim
  | .p _, _, _, hv => by unfold VR at hv ⊢; exact PR.mono h _ _ hv
  | .csl _, _, _, hv => by unfold VR at hv ⊢; exact ⟨PR.mono h _ _ hv.1, hv.2⟩
  | .tsl _ _, _, hc, _ => by unfold closed at hc; exact hc.elim
  | .own _ _, _, hc, _ => by unfold closed at hc; exact hc.elim
  | .obx _, _, hc, _ => by unfold closed at hc; exact hc.elim
  | .bp _ _, _, hc, _ => by unfold closed at hc; exact hc.elim
  | .ep _ _, _, _, hv => by
    unfold VR at hv ⊢
    obtain ⟨b, o, h1, h2⟩ := hv
    exact ⟨b, o, h1, PRs.mono h _ _ _ h2⟩
  | .arr _ _ _, _, hc, _ => by unfold closed at hc; exact hc.elim
  | .oar _ _, _, hc, _ => by unfold closed at hc; exact hc.elim
  | .ap _ _ _ _, _, hc, _ => by unfold closed at hc; exact hc.elim
  | .asl _ _ _ _ _, _, hc, _ => by unfold closed at hc; exact hc.elim
  | .fn f gs, _, hc, hv => by
    unfold closed at hc
    unfold VR at hv ⊢
    obtain ⟨vs, h1, h2⟩ := hv
    exact ⟨vs, h1, closed_VRs h gs vs hc h2⟩
  | .agg gs, _, hc, hv => by
    unfold closed at hc
    unfold VR at hv ⊢
    obtain ⟨vs, h1, h0, h2⟩ := hv
    exact ⟨vs, h1, h0, closed_VRs h gs vs hc h2⟩
  | .tup gs, _, hc, hv => by
    unfold closed at hc
    unfold VR at hv ⊢
    obtain ⟨vs, h1, h2⟩ := hv
    exact ⟨vs, h1, closed_VRs h gs vs hc h2⟩
theorem closed_VRs (h : ∀ b i v, M b i v → M' b i v) : ∀ (gs : List GV) (vs : List Value), closeds gs → VRs M G R d gs vs → VRs M' G' R' d gs vs
  | [], [], _, _ => VRs.nil
  | g :: gs, v :: vs, hc, hv => by
    unfold closeds at hc
    unfold VRs at hv
    exact VRs.cons (closed_VR h g v hc.1 hv.1) (closed_VRs h gs vs hc.2 hv.2)
  | [], _ :: _, _, hv => by unfold VRs at hv; exact hv.elim
  | _ :: _, [], _, hv => by unfold VRs at hv; exact hv.elim
end
end
section
variable {X : XS} {P : Program} {G : Heap} {R : RMap} {d : Nat} {w : World}
def Xc (X : XS) (d : Nat) (G : Heap) (R : RMap) (w : World) : XS := ⟨fun b i => X.off b i ∨ (b < w.heap.size ∧ ∀ v, ¬ Mem X d G R w b i v), X.tb⟩
theorem Sim.bare (hs : Sim X d G R w) : Sim (Xc X d G R w) d empty R w :=
  ⟨fun κ _ o _ _ _ h => (by rw [get_empty] at h; cases h), fun κ o _ h => (by rw [get_empty] at h; cases h), fun b i h => h.elim (hs.off b i) (·.1), fun κ o _ h => (by rw [get_empty] at h; cases h), fun b o h => ⟨(hs.tab b o h).1, fun κ o' _ h' => (by rw [get_empty] at h'; cases h')⟩⟩
theorem Mem.bare {b i : Nat} {v : Value} (hm : Mem X d G R w b i v) : Mem (Xc X d G R w) d empty R w b i v :=
  ⟨hm.1, hm.2.1, (fun h => h.elim hm.2.2.1 (fun h => h.2 v hm)), fun κ o _ h => by rw [get_empty] at h; cases h⟩
theorem embed (hs : Sim X d G R w) {t0 : Nat} (hf : G d t0 = []) {os : List Obj'} {R1 : RMap} {w' : World} (h : Step (Xc X d G R w) d empty R w (fillKey empty d t0 os) R1 w') {g : GV} {v : Value}
    (hv : VR (Mem (Xc X d G R w) d (fillKey empty d t0 os) R1 w') (fillKey empty d t0 os) R1 d g v) :
    ∃ R', Step X d G R w (fillKey G d t0 os) R' w' ∧ VR (Mem X d (fillKey G d t0 os) R' w') (fillKey G d t0 os) R' d g v := by
  have hg1 : ∀ κ o, get (fillKey empty d t0 os) κ = some o → (κ.1 = d ∧ κ.2.1 = t0) ∧ os[κ.2.2]? = some o := fun κ o hk => by
    rw [get_fillKey] at hk
    split at hk
    · exact ⟨by assumption, hk⟩
    · rw [get_empty] at hk; cases hk
  have hold : ∀ b, b < w.heap.size → w'.heap[b]? = w.heap[b]? := fun b hb => h.fr.keep b hb fun κ o _ hk => by rw [get_empty] at hk; cases hk
  have hgr : Grows w w' := ⟨h.fr.size, hold, h.fr.env⟩
  have hnew : ∀ κ o, κ.1 ≤ d → get (fillKey empty d t0 os) κ = some o → w.heap.size ≤ (R1 κ).b := fun κ o hk hgk => by
    rcases Nat.lt_or_ge (R1 κ).b w.heap.size with hlt | hge
    · obtain ⟨κ', o', _, h2, _⟩ := h.fr.come κ o hk hgk hlt
      rw [get_empty] at h2; cases h2
    · exact hge
  let R2 : RMap := fun κ => if κ.1 = d ∧ κ.2.1 = t0 then R1 κ else R κ
  have hR2n : ∀ κ : Key, (κ.1 = d ∧ κ.2.1 = t0) → R2 κ = R1 κ := fun κ e => if_pos e
  have hR2o : ∀ κ o, get G κ = some o → R2 κ = R κ := fun κ o hk => if_neg (by
    rintro ⟨e1, e2⟩
    unfold get at hk
    rw [e1, e2, hf] at hk
    simp at hk)
  have hg2 : ∀ κ o, get (fillKey G d t0 os) κ = some o → ((κ.1 = d ∧ κ.2.1 = t0) ∧ os[κ.2.2]? = some o ∧ get (fillKey empty d t0 os) κ = some o) ∨ get G κ = some o := fun κ o hk => by
    rw [get_fillKey] at hk
    split at hk
    · rename_i e
      exact .inl ⟨e, hk, by rw [get_fillKey, if_pos e]; exact hk⟩
    · exact .inr hk
  have hg2o : ∀ κ o, get G κ = some o → get (fillKey G d t0 os) κ = some o := fun κ o hk => by
    rw [get_fillKey, if_neg, hk]
    rintro ⟨e1, e2⟩
    unfold get at hk
    rw [e1, e2, hf] at hk
    simp at hk
  have hm3 : ∀ b i v, Mem X d G R w b i v → Mem X d (fillKey G d t0 os) R2 w' b i v := fun b i v hm => by
    refine ⟨hgr.cell hm.1, hm.2.1, hm.2.2.1, fun κ o hk hgk hbb => ?_⟩
    rcases hg2 κ o hgk with ⟨e, _, h1⟩ | h1
    · rw [hR2n κ e] at hbb
      have := hnew κ o hk h1
      have := block_lt_of_cell hm.1
      simp only at this
      omega
    · rw [hR2o κ o h1] at hbb ⊢
      exact hm.2.2.2 κ o hk h1 hbb
  have hm4 : ∀ b i v, Mem (Xc X d G R w) d (fillKey empty d t0 os) R1 w' b i v → Mem X d (fillKey G d t0 os) R2 w' b i v := fun b i v hm => by
    rcases Nat.lt_or_ge b w.heap.size with hlt | hge
    · have hx := hm.2.2.1
      simp only [Xc] at hx
      have : ∃ v0, Mem X d G R w b i v0 := by
        apply Classical.byContradiction
        intro hno
        exact hx (.inr ⟨hlt, fun v hv => hno ⟨v, hv⟩⟩)
      obtain ⟨v0, hv0⟩ := this
      have h1 := hm.1
      rw [hgr.cell hv0.1] at h1
      cases h1
      exact hm3 b i v hv0
    · refine ⟨hm.1, hm.2.1, (fun hX => absurd (hs.off _ _ hX) (by omega)), fun κ o hk hgk hbb => ?_⟩
      rcases hg2 κ o hgk with ⟨e, _, h1⟩ | h1
      · rw [hR2n κ e] at hbb ⊢
        exact hm.2.2.2 κ o hk h1 hbb
      · rw [hR2o κ o h1] at hbb
        have := hs.lt hk h1
        omega
  have hx5 : Ext d (Mem (Xc X d G R w) d (fillKey empty d t0 os) R1 w') (fillKey empty d t0 os) R1 (Mem X d (fillKey G d t0 os) R2 w') (fillKey G d t0 os) R2 := by
    have key : ∀ κ o, get (fillKey empty d t0 os) κ = some o → get (fillKey G d t0 os) κ = some o ∧ R2 κ = R1 κ := fun κ o hk => by
      obtain ⟨e, h1⟩ := hg1 κ o hk
      exact ⟨by rw [get_fillKey, if_pos e]; exact h1, hR2n κ e⟩
    exact ⟨hm4, fun κ cs _ hk => ⟨⟨cs, (key κ _ hk).1⟩, (key κ _ hk).2⟩, fun κ n _ _ hk => ⟨n, (key κ _ hk).1, Nat.le_refl _, fun _ => (key κ _ hk).2⟩, fun κ es _ hk => ⟨by rw [(key κ _ hk).2], es, (key κ _ hk).1, Nat.le_refl _, fun _ => (key κ _ hk).2⟩⟩
  have hx6 : Ext d (Mem X d G R w) G R (Mem X d (fillKey G d t0 os) R2 w') (fillKey G d t0 os) R2 :=
    ⟨hm3, fun κ cs _ hk => ⟨⟨cs, hg2o κ _ hk⟩, hR2o κ _ hk⟩, fun κ n _ _ hk => ⟨n, hg2o κ _ hk, Nat.le_refl _, fun _ => hR2o κ _ hk⟩, fun κ es _ hk => ⟨by rw [hR2o κ _ hk], es, hg2o κ _ hk, Nat.le_refl _, fun _ => hR2o κ _ hk⟩⟩
  refine ⟨R2, ⟨⟨fun κ κ' o o' hk hk' hgk hgk' hbb => ?_, fun κ o hk hgk => ?_, fun b i hX => Nat.lt_of_lt_of_le (hs.off b i hX) hgr.size, fun κ o hk hgk i hX => ?_, fun b o htb => ?_⟩, hx6, ⟨hgr.size, fun b hb _ => hold b hb, fun κ o hk hgk hlt => ?_, hgr.env⟩⟩, VR.ext hx5 _ _ hv⟩
  · rcases hg2 κ o hgk with ⟨e, _, h1⟩ | h1 <;> rcases hg2 κ' o' hgk' with ⟨e', _, h1'⟩ | h1'
    · rw [hR2n κ e, hR2n κ' e'] at hbb
      exact h.sim.inj κ κ' o o' hk hk' h1 h1' hbb
    · rw [hR2n κ e, hR2o κ' _ h1'] at hbb
      have := hnew κ o hk h1
      have := hs.lt hk' h1'
      omega
    · rw [hR2o κ _ h1, hR2n κ' e'] at hbb
      have := hnew κ' o' hk' h1'
      have := hs.lt hk h1
      omega
    · rw [hR2o κ _ h1, hR2o κ' _ h1'] at hbb
      exact hs.inj κ κ' o o' hk hk' h1 h1' hbb
  · rcases hg2 κ o hgk with ⟨e, _, h1⟩ | h1
    · exact (h.sim.obj κ o hk h1).ext hk hx5 (hR2n κ e) rfl
    · exact (hs.obj κ o hk h1).ext hk hx6 (hR2o κ o h1) (hold _ (hs.lt hk h1))
  · rcases hg2 κ o hgk with ⟨e, _, h1⟩ | h1
    · have := hs.off _ _ hX
      rw [hR2n κ e] at this
      have := hnew κ o hk h1
      omega
    · rw [hR2o κ o h1] at hX
      exact hs.apart κ o hk h1 i hX
  · obtain ⟨h1, h2⟩ := hs.tab b o htb
    have hlt := (Array.getElem?_eq_some_iff.1 h1).1
    refine ⟨(hold b hlt).trans h1, fun κ o1 hk hgk hbb => ?_⟩
    rcases hg2 κ o1 hgk with ⟨e, _, h3⟩ | h3
    · rw [hR2n κ e] at hbb
      have := hnew κ o1 hk h3
      omega
    · rw [hR2o κ o1 h3] at hbb
      exact h2 κ o1 hk h3 hbb
  · rcases hg2 κ o hgk with ⟨e, _, h1⟩ | h1
    · rw [hR2n κ e] at hlt
      have := hnew κ o hk h1
      omega
    · exact ⟨κ, o, hk, h1, (congrArg RObj.b (hR2o κ o h1)).symm⟩
theorem Step.bare_grows {X' : XS} {G' : Heap} {R' R1 : RMap} {w' : World} (h : Step X' d empty R' w G' R1 w') : Grows w w' :=
  ⟨h.fr.size, fun b hb => h.fr.keep b hb fun κ o _ hk => (by rw [get_empty] at hk; cases hk), h.fr.env⟩
mutual
theorem adopt_pre (t : Nat) : ∀ (r : GV) (acc : List Obj') (i : Nat) (o : Obj'), acc[i]? = some o → (adopt d t r acc).2[i]? = some o
  | .own es sz, acc, i, o, h => by
    unfold adopt
    rw [List.getElem?_append_left (List.getElem?_eq_some_iff.1 h).1]; exact h
  | .obx cs, acc, i, o, h => by
    unfold adopt
    rw [List.getElem?_append_left (List.getElem?_eq_some_iff.1 h).1]; exact h
  | .oar es sz, acc, i, o, h => by
    unfold adopt
    rw [List.getElem?_append_left (List.getElem?_eq_some_iff.1 h).1]; exact h
  | .agg gs, acc, i, o, h => by unfold adopt; exact adopts_pre t gs acc i o h
  | .tup gs, acc, i, o, h => by unfold adopt; exact adopts_pre t gs acc i o h
  | .undef, acc, i, o, h => by unfold adopt; exact h
  | .p _, acc, i, o, h => by unfold adopt; exact h
  | .csl _, acc, i, o, h => by unfold adopt; exact h
  | .tsl _ _, acc, i, o, h => by unfold adopt; exact h
  | .bp _ _, acc, i, o, h => by unfold adopt; exact h
  | .ep _ _, acc, i, o, h => by unfold adopt; exact h
  | .arr _ _ _, acc, i, o, h => by unfold adopt; exact h
  | .ap _ _ _ _, acc, i, o, h => by unfold adopt; exact h
  | .asl _ _ _ _ _, acc, i, o, h => by unfold adopt; exact h
  | .fn _ _, acc, i, o, h => by unfold adopt; exact h
theorem adopts_pre (t : Nat) : ∀ (rs : List GV) (acc : List Obj') (i : Nat) (o : Obj'), acc[i]? = some o → (adopts d t rs acc).2[i]? = some o
  | [], acc, i, o, h => by unfold adopts; exact h
  | g :: gs, acc, i, o, h => by unfold adopts; exact adopts_pre t gs _ i o (adopt_pre t g acc i o h)
end
theorem mem_frz (hs : Sim X d G R w) {t0 : Nat} {os : List Obj'} {R1 : RMap} {w' : World} (h : Step (Xc X d G R w) d empty R w (fillKey empty d t0 os) R1 w') (b i : Nat) (v : Value)
    (hm : Mem (Xc X d G R w) d (fillKey empty d t0 os) R1 w' b i v) : Mem X d G R w' b i v := by
  rcases Nat.lt_or_ge b w.heap.size with hlt | hge
  · have hx := hm.2.2.1
    simp only [Xc] at hx
    have : ∃ v0, Mem X d G R w b i v0 := by
      apply Classical.byContradiction
      intro hno
      exact hx (.inr ⟨hlt, fun v hv => hno ⟨v, hv⟩⟩)
    obtain ⟨v0, hv0⟩ := this
    have h1 := hm.1
    rw [h.bare_grows.cell hv0.1] at h1
    cases h1
    exact Mem.grow h.bare_grows b i v hv0
  · refine ⟨hm.1, hm.2.1, (fun hX => absurd (hs.off _ _ hX) (by omega)), fun κ o hk hgk hbb => ?_⟩
    have := hs.lt hk hgk
    omega
theorem mem_new (hs : Sim X d G R w) {w' : World} {b i : Nat} {v : Value} (hb : w.heap.size ≤ b) (hc : w'.cell? ⟨b, i, none⟩ = some v) (h1 : v.oneCell' = true) : Mem X d G R w' b i v :=
  ⟨hc, h1, (fun hX => absurd (hs.off _ _ hX) (by omega)), fun κ o hk hgk hbb => absurd (hs.lt hk hgk) (by omega)⟩
section
variable {t0 : Nat} {os : List Obj'} {R1 : RMap} {w' : World}
mutual
theorem frz_VR (hs : Sim X d G R w) (h : Step (Xc X d G R w) d empty R w (fillKey empty d t0 os) R1 w') : ∀ (r : GV) (acc : List Obj') (x : Value), (∀ (i : Nat) (o : Obj'), (adopt d t0 r acc).2[i]? = some o → os[i]? = some o) →
    VR (Mem (Xc X d G R w) d (fillKey empty d t0 os) R1 w') (fillKey empty d t0 os) R1 d (adopt d t0 r acc).1 x → VR (Mem X d G R w') G R d (frz r) x
  | .own es sz, acc, x, hp, hv => by
    unfold adopt at hv
    unfold frz
    exact VR.p_iff.2 (PR.mono (mem_frz hs h) _ _ hv.tsl_sl)
  | .obx cs, acc, x, hp, hv => by
    unfold adopt at hv hp
    unfold frz
    split
    · rename_i ps hps
      unfold VR at hv
      obtain ⟨_, _, rfl⟩ := hv
      have ho := hp acc.length (.box cs) (by simp)
      have hg : get (fillKey empty d t0 os) (d, t0, acc.length) = some (.box cs) := by rw [get_fillKey, if_pos ⟨rfl, rfl⟩]; exact ho
      have hge : w.heap.size ≤ (R1 (d, t0, acc.length)).b := by
        rcases Nat.lt_or_ge (R1 (d, t0, acc.length)).b w.heap.size with hlt | hge
        · obtain ⟨κ', o', _, h2, _⟩ := h.fr.come _ _ (Nat.le_refl d) hg hlt
          rw [get_empty] at h2; cases h2
        · exact hge
      obtain ⟨vs, T, h1, h2, h3⟩ := h.sim.obj _ _ (Nat.le_refl d) hg
      obtain ⟨h4, h5⟩ := purs_get hps h3
      refine VR.p_iff.2 ?_
      unfold PR
      refine ⟨_, 0, rfl, PRs.of_get fun j c hj => ?_⟩
      obtain ⟨v, h6, h7⟩ := h5 j c hj
      exact ⟨v, mem_new hs hge (by rw [Nat.zero_add, cell_of_row w' _ j vs T _ h1]; simpa using h6) (h2 v (List.mem_of_getElem? h6)), PR.mono (mem_frz hs h) _ _ h7⟩
    · unfold VR; trivial
  | .oar es sz, acc, x, hp, hv => by
    unfold adopt at hv hp
    unfold frz
    unfold VR at hv
    obtain ⟨_, hsz, es0, hg, _, b, o, c, rfl, _, ha⟩ := hv
    have ho := hp acc.length (.arr es) (by simp)
    have hg1 : get (fillKey empty d t0 os) (d, t0, acc.length) = some (.arr es) := by rw [get_fillKey, if_pos ⟨rfl, rfl⟩]; exact ho
    rw [hg1] at hg
    cases hg
    obtain ⟨rfl, rfl, rfl⟩ := ha rfl
    have hge : w.heap.size ≤ (R1 (d, t0, acc.length)).b := by
      rcases Nat.lt_or_ge (R1 (d, t0, acc.length)).b w.heap.size with hlt | hge
      · obtain ⟨κ', o', _, h2, _⟩ := h.fr.come _ _ (Nat.le_refl d) hg1 hlt
        rw [get_empty] at h2; cases h2
      · exact hge
    obtain ⟨vs, T, h1, h2, h3, h4⟩ := h.sim.obj _ _ (Nat.le_refl d) hg1
    refine VR.p_iff.2 ?_
    unfold PR
    refine ⟨_, _, rfl, h2, (fun h => by cases h), fun _ => ⟨_, _, (R1 (d, t0, acc.length)).sz, rfl, PRss.of_get fun q ee hq => ?_⟩⟩
    obtain ⟨h5, h6⟩ := h4 q ee hq
    refine ⟨h5, PRs.of_get fun j c hj => ?_⟩
    obtain ⟨v, h7, h8, h9⟩ := h6 j c hj
    exact ⟨v, mem_new hs hge (by rw [cell_of_row w' _ _ vs T _ h1]; exact h7) h8, PR.mono (mem_frz hs h) _ _ h9⟩
  | .agg gs, acc, x, hp, hv => by
    unfold adopt at hv hp
    unfold frz
    unfold VR at hv ⊢
    obtain ⟨vs, h1, h2, h3⟩ := hv
    exact ⟨vs, h1, h2, frzs_VR hs h gs acc vs hp h3⟩
  | .tup gs, acc, x, hp, hv => by
    unfold adopt at hv hp
    unfold frz
    unfold VR at hv ⊢
    obtain ⟨vs, h1, h3⟩ := hv
    exact ⟨vs, h1, frzs_VR hs h gs acc vs hp h3⟩
  | .undef, acc, x, hp, hv => by unfold frz; unfold VR; trivial
  | .p v, acc, x, hp, hv => by
    unfold adopt at hv
    unfold frz
    exact VR.p_iff.2 (PR.mono (mem_frz hs h) _ _ (VR.p_iff.1 hv))
  | .csl es, acc, x, hp, hv => by
    unfold adopt at hv
    unfold frz
    unfold VR at hv
    exact VR.p_iff.2 (PR.mono (mem_frz hs h) _ _ hv.1)
  | .ep cs off, acc, x, hp, hv => by
    unfold adopt at hv
    unfold frz
    unfold VR at hv ⊢
    obtain ⟨b, o, h1, h2⟩ := hv
    exact ⟨b, o, h1, PRs.mono (mem_frz hs h) _ _ _ h2⟩
  | .tsl _ _, acc, x, hp, hv => by unfold frz; unfold VR; trivial
  | .bp _ _, acc, x, hp, hv => by unfold frz; unfold VR; trivial
  | .arr _ _ _, acc, x, hp, hv => by unfold frz; unfold VR; trivial
  | .ap _ _ _ _, acc, x, hp, hv => by unfold frz; unfold VR; trivial
  | .asl _ _ _ _ _, acc, x, hp, hv => by unfold frz; unfold VR; trivial
  | .fn _ _, acc, x, hp, hv => by unfold frz; unfold VR; trivial
theorem frzs_VR (hs : Sim X d G R w) (h : Step (Xc X d G R w) d empty R w (fillKey empty d t0 os) R1 w') : ∀ (rs : List GV) (acc : List Obj') (xs : List Value), (∀ (i : Nat) (o : Obj'), (adopts d t0 rs acc).2[i]? = some o → os[i]? = some o) →
    VRs (Mem (Xc X d G R w) d (fillKey empty d t0 os) R1 w') (fillKey empty d t0 os) R1 d (adopts d t0 rs acc).1 xs → VRs (Mem X d G R w') G R d (frzs rs) xs
  | [], acc, xs, hp, hv => by
    unfold adopts at hv
    unfold frzs
    cases xs with
    | nil => exact VRs.nil
    | cons _ _ => unfold VRs at hv; exact hv.elim
  | r :: rs, acc, [], hp, hv => by
    unfold adopts at hv; unfold VRs at hv; exact hv.elim
  | r :: rs, acc, x :: xs, hp, hv => by
    unfold adopts at hv hp
    unfold VRs at hv
    unfold frzs
    exact VRs.cons (frz_VR hs h r acc x (fun i o hi => hp i o (adopts_pre t0 rs _ i o hi)) hv.1) (frzs_VR hs h rs _ xs hp hv.2)
end
end
theorem Sim.look (hs : Sim X d G R w) : Sim X d empty R w :=
  ⟨fun κ _ o _ _ _ h => (by rw [get_empty] at h; cases h), fun κ o _ h => (by rw [get_empty] at h; cases h), hs.off, fun κ o _ h => (by rw [get_empty] at h; cases h), fun b o h => ⟨(hs.tab b o h).1, fun κ o' _ h' => (by rw [get_empty] at h'; cases h')⟩⟩
theorem Mem.look {b i : Nat} {v : Value} (hm : Mem X d G R w b i v) : Mem X d empty R w b i v :=
  ⟨hm.1, hm.2.1, hm.2.2.1, fun κ o _ h => by rw [get_empty] at h; cases h⟩
theorem mem_look (hs : Sim X d G R w) {κ : Key} {o : Obj'} (hk : κ.1 ≤ d) (hg : get G κ = some o) {i : Nat} {v : Value} (hc : w.cell? ⟨(R κ).b, i, none⟩ = some v) (h1 : v.oneCell' = true) : Mem X d empty R w (R κ).b i v :=
  ⟨hc, h1, hs.apart κ o hk hg i, fun κ o _ h => by rw [get_empty] at h; cases h⟩
mutual
theorem wkB_VR (hs : Sim X d G R w) : ∀ (g : GV) {r : GV} {x : Value}, wkB G d g r → closed r → VR (Mem X d G R w) G R d g x → VR (Mem X d empty R w) empty R d r x
  | .csl es, r, x, h, hc, hv => by
    unfold wkB at h
    unfold VR at hv
    rcases h with rfl | rfl
    · unfold VR; exact ⟨PR.mono (fun _ _ _ => Mem.look) _ _ hv.1, hv.2⟩
    · exact VR.p_iff.2 (PR.mono (fun _ _ _ => Mem.look) _ _ hv.1)
  | .tsl es κ, r, x, h, hc, hv => by
    unfold wkB at h
    subst h
    exact VR.p_iff.2 (PR.mono (fun _ _ _ => Mem.look) _ _ hv.tsl_sl)
  | .bp κ off, r, x, h, hc, hv => by
    unfold wkB at h
    obtain ⟨hk, h⟩ := h
    split at h
    case h_2 => exact h.elim
    rename_i cs hg
    split at h
    case h_2 => exact h.elim
    rename_i ps hps
    unfold VR at hv
    obtain ⟨_, _, rfl⟩ := hv
    obtain ⟨vs, T, h1, h2, h3⟩ := hs.obj κ _ hk hg
    obtain ⟨h4, h5⟩ := purs_get hps h3
    have hp : PRs (Mem X d empty R w) ps (R κ).b 0 := by
      refine PRs.of_get fun j c hj => ?_
      obtain ⟨v, h6, h7⟩ := h5 j c hj
      exact ⟨v, mem_look hs hk hg (by rw [Nat.zero_add, cell_of_row w _ j vs T _ h1]; simpa using h6) (h2 v (List.mem_of_getElem? h6)), PR.mono (fun _ _ _ => Mem.look) _ _ h7⟩
    rcases h with rfl | ⟨rfl, rfl⟩
    · unfold VR
      exact ⟨_, 0, by rw [Nat.zero_add], hp⟩
    · refine VR.p_iff.2 ?_
      unfold PR
      exact ⟨_, 0, rfl, hp⟩
  | .arr κ n sz, r, x, h, hc, hv => by
    unfold wkB at h
    obtain ⟨hk, h⟩ := h
    split at h
    case h_2 => exact h.elim
    rename_i es hg
    obtain ⟨hn, rfl⟩ := h
    unfold VR at hv
    obtain ⟨_, hsz, es0, hg0, _, b, o, c, rfl, _, ha⟩ := hv
    rw [hg] at hg0
    cases hg0
    obtain ⟨rfl, rfl, rfl⟩ := ha hn
    obtain ⟨vs, T, h1, h2, h3, h4⟩ := hs.obj κ _ hk hg
    refine VR.p_iff.2 ?_
    unfold PR
    refine ⟨_, _, by rw [hn], h2, (fun h => by cases h), fun _ => ⟨_, _, (R κ).sz, rfl, PRss.of_get fun q ee hq => ?_⟩⟩
    obtain ⟨h5, h6⟩ := h4 q ee hq
    refine ⟨h5, PRs.of_get fun j c hj => ?_⟩
    obtain ⟨v, h7, h8, h9⟩ := h6 j c hj
    exact ⟨v, mem_look hs hk hg (by rw [cell_of_row w _ _ vs T _ h1]; exact h7) h8, PR.mono (fun _ _ _ => Mem.look) _ _ h9⟩
  | .asl κ m lo hi sz, r, x, h, hc, hv => by
    unfold wkB at h
    obtain ⟨hk, h⟩ := h
    split at h
    case h_2 => exact h.elim
    rename_i es hg
    obtain ⟨hn, rfl⟩ := h
    unfold VR at hv
    obtain ⟨_, hlo, hhi, hsz, es0, hg0, _, a, c, rfl, hc, ha⟩ := hv
    rw [hg] at hg0
    cases hg0
    obtain ⟨vs, T, h1, h2, h3, h4⟩ := hs.obj κ _ hk hg
    have hl : ((es.take hi).drop lo).length = hi - lo := by simp; omega
    refine VR.p_iff.2 ?_
    unfold PR
    refine ⟨_, _, by rw [hl], by rw [hl]; exact hc, (fun h => by cases h), fun hne => ?_⟩
    have hlt : lo < hi := by
      have : 0 < ((es.take hi).drop lo).length := List.length_pos_iff.2 hne
      omega
    have ea := ha hn hlt
    subst ea
    refine ⟨_, _, (R κ).sz, rfl, PRss.of_get fun q ee hq => ?_⟩
    have hq' : es[lo + q]? = some ee := by
      rw [List.getElem?_drop, List.getElem?_take] at hq
      split at hq
      · exact hq
      · cases hq
    obtain ⟨h5, h6⟩ := h4 (lo + q) ee hq'
    refine ⟨h5, PRs.of_get fun j c hj => ?_⟩
    obtain ⟨v, h7, h8, h9⟩ := h6 j c hj
    have e1 : (R κ).o + lo * sz + q * (R κ).sz + j = (R κ).o + (lo + q) * (R κ).sz + j := by rw [hsz, Nat.add_mul]; omega
    exact ⟨v, mem_look hs hk hg (by rw [e1, cell_of_row w _ _ vs T _ h1]; exact h7) h8, PR.mono (fun _ _ _ => Mem.look) _ _ h9⟩
  | .fn f gs, r, x, h, hc, hv => by
    unfold wkB at h
    obtain ⟨rs, rfl, h⟩ := h
    unfold closed at hc
    unfold VR at hv ⊢
    obtain ⟨vs, h1, h2⟩ := hv
    exact ⟨vs, h1, wkBs_VRs hs gs h hc h2⟩
  | .agg gs, r, x, h, hc, hv => by
    unfold wkB at h
    obtain ⟨rs, rfl, h⟩ := h
    unfold closed at hc
    unfold VR at hv ⊢
    obtain ⟨vs, h1, h0, h2⟩ := hv
    exact ⟨vs, h1, h0, wkBs_VRs hs gs h hc h2⟩
  | .undef, r, x, h, hc, hv => by unfold wkB at h; subst h; exact closed_VR (fun _ _ _ => Mem.look) _ _ hc hv
  | .p _, r, x, h, hc, hv => by unfold wkB at h; subst h; exact closed_VR (fun _ _ _ => Mem.look) _ _ hc hv
  | .own _ _, r, x, h, hc, hv => by unfold wkB at h; subst h; exact closed_VR (fun _ _ _ => Mem.look) _ _ hc hv
  | .obx _, r, x, h, hc, hv => by unfold wkB at h; subst h; exact closed_VR (fun _ _ _ => Mem.look) _ _ hc hv
  | .oar _ _, r, x, h, hc, hv => by unfold wkB at h; subst h; exact closed_VR (fun _ _ _ => Mem.look) _ _ hc hv
  | .ep _ _, r, x, h, hc, hv => by unfold wkB at h; subst h; exact closed_VR (fun _ _ _ => Mem.look) _ _ hc hv
  | .ap _ _ _ _, r, x, h, hc, hv => by unfold wkB at h; subst h; exact closed_VR (fun _ _ _ => Mem.look) _ _ hc hv
  | .tup _, r, x, h, hc, hv => by unfold wkB at h; subst h; exact closed_VR (fun _ _ _ => Mem.look) _ _ hc hv
theorem wkBs_VRs (hs : Sim X d G R w) : ∀ (gs : List GV) {rs : List GV} {xs : List Value}, wkBs G d gs rs → closeds rs → VRs (Mem X d G R w) G R d gs xs → VRs (Mem X d empty R w) empty R d rs xs
  | [], rs, xs, h, hc, hv => by
    unfold wkBs at h
    subst h
    cases xs with
    | nil => exact VRs.nil
    | cons _ _ => unfold VRs at hv; exact hv.elim
  | g :: gs, rs, [], h, hc, hv => by unfold VRs at hv; exact hv.elim
  | g :: gs, rs, x :: xs, h, hc, hv => by
    unfold wkBs at h
    obtain ⟨r, rs', rfl, h1, h2⟩ := h
    unfold closeds at hc
    unfold VRs at hv
    exact VRs.cons (wkB_VR hs g h1 hc.1 hv.1) (wkBs_VRs hs gs h2 hc.2 hv.2)
end
mutual
theorem scal_VR {M M' : Nat → Nat → Value → Prop} {G' : Heap} {R' : RMap} : ∀ (r : GV) (x : Value), scal r → VR M G R d r x → VR M' G' R' d r x
  | .p (.int _ _), x, _, hv => by have := VR.p_iff.1 hv; unfold PR at this; exact VR.p_iff.2 (by unfold PR; exact this)
  | .p (.bool _), x, _, hv => by have := VR.p_iff.1 hv; unfold PR at this; exact VR.p_iff.2 (by unfold PR; exact this)
  | .p (.str _), x, _, hv => by have := VR.p_iff.1 hv; unfold PR at this; exact VR.p_iff.2 (by unfold PR; exact this)
  | .p .null, x, _, hv => by have := VR.p_iff.1 hv; unfold PR at this; exact VR.p_iff.2 (by unfold PR; exact this)
  | .p .nfn, x, h, hv => by unfold scal at h; exact h.elim
  | .p (.sl _), x, h, hv => by unfold scal at h; exact h.elim
  | .p (.pt _), x, h, hv => by unfold scal at h; exact h.elim
  | .agg gs, x, h, hv => by
    unfold scal at h
    unfold VR at hv ⊢
    obtain ⟨vs, h1, h0, h2⟩ := hv
    exact ⟨vs, h1, h0, scals_VRs gs vs h h2⟩
  | .tup gs, x, h, hv => by
    unfold scal at h
    unfold VR at hv ⊢
    obtain ⟨vs, h1, h2⟩ := hv
    exact ⟨vs, h1, scals_VRs gs vs h h2⟩
  | .undef, x, h, hv => by unfold scal at h; exact h.elim
  | .csl _, x, h, hv => by unfold scal at h; exact h.elim
  | .tsl _ _, x, h, hv => by unfold scal at h; exact h.elim
  | .own _ _, x, h, hv => by unfold scal at h; exact h.elim
  | .obx _, x, h, hv => by unfold scal at h; exact h.elim
  | .oar _ _, x, h, hv => by unfold scal at h; exact h.elim
  | .bp _ _, x, h, hv => by unfold scal at h; exact h.elim
  | .ep _ _, x, h, hv => by unfold scal at h; exact h.elim
  | .arr _ _ _, x, h, hv => by unfold scal at h; exact h.elim
  | .ap _ _ _ _, x, h, hv => by unfold scal at h; exact h.elim
  | .asl _ _ _ _ _, x, h, hv => by unfold scal at h; exact h.elim
  | .fn _ _, x, h, hv => by unfold scal at h; exact h.elim
theorem scals_VRs {M M' : Nat → Nat → Value → Prop} {G' : Heap} {R' : RMap} : ∀ (rs : List GV) (xs : List Value), scals rs → VRs M G R d rs xs → VRs M' G' R' d rs xs
  | [], [], _, _ => VRs.nil
  | g :: gs, v :: vs, h, hv => by
    unfold scals at h
    unfold VRs at hv
    exact VRs.cons (scal_VR g v h.1 hv.1) (scals_VRs gs vs h.2 hv.2)
  | [], _ :: _, _, hv => by unfold VRs at hv; exact hv.elim
  | _ :: _, [], _, hv => by unfold VRs at hv; exact hv.elim
end
mutual
theorem scal_adopt (t : Nat) : ∀ (r : GV), scal r → ∀ acc, adopt d t r acc = (r, acc)
  | .p _, _, acc => by unfold adopt; rfl
  | .agg gs, h, acc => by unfold scal at h; unfold adopt; rw [scals_adopts t gs h acc]
  | .tup gs, h, acc => by unfold scal at h; unfold adopt; rw [scals_adopts t gs h acc]
  | .undef, h, _ => by unfold scal at h; exact h.elim
  | .csl _, h, _ => by unfold scal at h; exact h.elim
  | .tsl _ _, h, _ => by unfold scal at h; exact h.elim
  | .own _ _, h, _ => by unfold scal at h; exact h.elim
  | .obx _, h, _ => by unfold scal at h; exact h.elim
  | .oar _ _, h, _ => by unfold scal at h; exact h.elim
  | .bp _ _, h, _ => by unfold scal at h; exact h.elim
  | .ep _ _, h, _ => by unfold scal at h; exact h.elim
  | .arr _ _ _, h, _ => by unfold scal at h; exact h.elim
  | .ap _ _ _ _, h, _ => by unfold scal at h; exact h.elim
  | .asl _ _ _ _ _, h, _ => by unfold scal at h; exact h.elim
  | .fn _ _, h, _ => by unfold scal at h; exact h.elim
theorem scals_adopts (t : Nat) : ∀ (rs : List GV), scals rs → ∀ acc, adopts d t rs acc = (rs, acc)
  | [], _, acc => by unfold adopts; rfl
  | g :: gs, h, acc => by
    unfold scals at h
    unfold adopts
    rw [scal_adopt t g h.1 acc]
    dsimp only
    rw [scals_adopts t gs h.2 acc]
end
theorem ge_sound {M : Nat → Nat → Value → Prop} {F : Nat → GV} {a : Act} (hF : ∀ t, VR M G R d (F t) (a.tmps.getD t undef)) (x : Operand) : VR M G R d (ge F x) (a.eval x) := by
  cases x with
  | tmp t => exact hF t
  | const v =>
    show VR M G R d (cv v) v
    unfold cv
    split
    · rename_i cs
      split
      · rename_i h1
        unfold VR
        refine ⟨cs.toList, by simp, fun v hv => List.all_eq_true.1 h1 v hv, ?_⟩
        have := VRs.map (M := M) (G := G) (R := R) (d := d) cv1 id cs.toList (fun v _ => VR.cv1 v)
        rwa [List.map_id] at this
      · unfold VR; trivial
    · exact VR.cv1 v
  | global g => unfold ge; unfold VR; trivial
  | func f => unfold ge Act.eval; unfold VR; exact ⟨[], rfl, VRs.nil⟩
end
end Go.Eng
end
section
set_option linter.all false
namespace Go.Eng
section
variable {X : XS} {P : Program} {G : Heap} {R : RMap} {d : Nat} {w : World}
theorem wp_val {o : Oper} {a : Act} {next : Act → World → Prop} {Q : Exit → Act → World → Prop} {rv : Value} {w' : World} (hr : (execOp a.eval o).run P w = .ok (.value rv) w') (h : next (a.put o.dst rv) w') : o.wp P a w next Q := by
  unfold Oper.wp
  rw [hr]
  exact h
theorem wp_skp {o : Oper} {a : Act} {next : Act → World → Prop} {Q : Exit → Act → World → Prop} {w' : World} (hr : (execOp a.eval o).run P w = .ok .skip w') (h : next (a.put o.dst undef) w') : o.wp P a w next Q := by
  unfold Oper.wp
  rw [hr]
  exact h
theorem run_v {s : Sem Value} {rv : Value} {w' : World} (h : s.run P w = .ok rv w') : (do pure (Next.value (← s)) : Sem Next).run P w = .ok (.value rv) w' := by
  rw [Sem.run_bind, h]; rfl
theorem run_u {s : Sem Unit} {w' : World} (h : s.run P w = .ok () w') : (do s; pure Next.skip : Sem Next).run P w = .ok .skip w' := by
  rw [Sem.run_bind, h]; rfl
theorem map_rel {M : Nat → Nat → Value → Prop} {F : Nat → GV} {a : Act} (hF : ∀ t, VR M G R d (F t) (a.tmps.getD t undef)) : ∀ (l : List Operand), VRs M G R d (l.map (ge F)) (l.map a.eval)
  | [] => VRs.nil
  | x :: l => VRs.cons (ge_sound hF x) (map_rel hF l)
mutual
theorem wkR_VR {M : Nat → Nat → Value → Prop} : ∀ (g : GV) {r : GV} {x : Value}, wkR g r → VR M G R d g x → VR M G R d r x
  | .csl es, r, x, h, hv => by
    unfold wkR at h
    rcases h with rfl | rfl
    · exact hv
    · exact VR.p_iff.2 hv.csl_sl
  | .tsl es κ, r, x, h, hv => by
    unfold wkR at h
    rcases h with rfl | rfl
    · exact VR.p_iff.2 hv.tsl_sl
    · exact hv
  | .agg gs, r, x, h, hv => by
    unfold wkR at h
    obtain ⟨rs, rfl, h⟩ := h
    unfold VR at hv ⊢
    obtain ⟨vs, h1, h2, h3⟩ := hv
    exact ⟨vs, h1, h2, wkRs_VRs gs h h3⟩
  | .undef, r, x, h, hv => by unfold wkR at h; rw [h]; exact hv
  | .p _, r, x, h, hv => by unfold wkR at h; rw [h]; exact hv
  | .own _ _, r, x, h, hv => by unfold wkR at h; rw [h]; exact hv
  | .obx _, r, x, h, hv => by unfold wkR at h; rw [h]; exact hv
  | .bp _ _, r, x, h, hv => by unfold wkR at h; rw [h]; exact hv
  | .ep _ _, r, x, h, hv => by unfold wkR at h; rw [h]; exact hv
  | .arr _ _ _, r, x, h, hv => by unfold wkR at h; rw [h]; exact hv
  | .oar _ _, r, x, h, hv => by unfold wkR at h; rw [h]; exact hv
  | .ap _ _ _ _, r, x, h, hv => by unfold wkR at h; rw [h]; exact hv
  | .asl _ _ _ _ _, r, x, h, hv => by unfold wkR at h; rw [h]; exact hv
  | .fn _ _, r, x, h, hv => by unfold wkR at h; rw [h]; exact hv
  | .tup _, r, x, h, hv => by unfold wkR at h; rw [h]; exact hv
theorem wkRs_VRs {M : Nat → Nat → Value → Prop} : ∀ (gs : List GV) {rs : List GV} {vs : List Value}, wkRs gs rs → VRs M G R d gs vs → VRs M G R d rs vs
  | [], rs, vs, h, hv => by unfold wkRs at h; rw [h]; exact hv
  | g :: gs, rs, [], h, hv => by unfold VRs at hv; exact hv.elim
  | g :: gs, rs, v :: vs, h, hv => by
    unfold wkRs at h
    obtain ⟨r, rs', rfl, h1, h2⟩ := h
    unfold VRs at hv
    exact VRs.cons (wkR_VR g h1 hv.1) (wkRs_VRs gs h2 hv.2)
end
theorem gcall_sound {TB : Nat → Option Obj} {C : CR} (hC : Known P TB C) (hX : Tabs TB X) {A : Ann} (hs : Sim X d G R w) {g : GV} {x : Value} {args : List GV} {vals : List Value} {dst : Option Nat} {K : GV → Dl → Prop} (hx : VR (Mem X d G R w) G R d g x) (hv : VRs (Mem X d G R w) G R d args vals)
    (h : gCall C A d G g args dst K) {c : Call} {ty : TypeId} {f0 : Operand} {ρ : Operand → Value} (hcal : c.callee = .value f0) (hf0 : ρ f0 = x) (hargs : c.args.toList.map ρ = vals) :
    (∃ n us, (do let d ← resolve ρ c ty; invoke d.target d.args : Sem Next).run P w = .ok (.enter n us) w ∧
      Calls P n us w (fun e w' => ∃ v δ rv R', e = .returned rv ∧ K v δ ∧ Step X d G R w (appD G d dst δ) R' w' ∧ VR (Mem X d (appD G d dst δ) R' w') (appD G d dst δ) R' d v rv)) ∨
    ∃ rv w', (do let d ← resolve ρ c ty; invoke d.target d.args : Sem Next).run P w = .ok (.value rv) w' ∧ ∃ v δ R', K v δ ∧ Step X d G R w (appD G d dst δ) R' w' ∧ VR (Mem X d (appD G d dst δ) R' w') (appD G d dst δ) R' d v rv := by
  unfold gCall at h
  split at h
  case h_2 => exact h.elim
  rename_i n caps
  unfold VR at hx
  obtain ⟨cs, rfl, hcs⟩ := hx
  have hargs' : c.args.map ρ = vals.toArray := by
    apply Array.ext'
    rw [Array.toList_map, hargs]
  have hpre : (do let d ← resolve ρ c ty; invoke d.target d.args : Sem Next).run P w = (callFunc n (vals ++ cs).toArray).run P w := by
    simp [resolve, hcal, hf0, hargs', Deferred.ofValue, invoke]
  have hrun : FnOK P n → (do let d ← resolve ρ c ty; invoke d.target d.args : Sem Next).run P w = .ok (.enter n (vals ++ cs).toArray) w := by
    rintro ⟨fn, h1, h2, h3⟩
    rw [hpre]
    have h1' : (P.funcs[n]? : Option Func) = some fn := h1
    simp [callFunc, h1']
    simp at h3
    simp [h3]
    intro e
    rw [e] at h2; cases h2
  have main : ∀ {T : Value → World → Prop}, Runs P n (vals ++ cs).toArray w T → (∀ rv w', T rv w' → ∃ v δ R', K v δ ∧ Step X d G R w (appD G d dst δ) R' w' ∧ VR (Mem X d (appD G d dst δ) R' w') (appD G d dst δ) R' d v rv) →
      (∃ n us, (do let d ← resolve ρ c ty; invoke d.target d.args : Sem Next).run P w = .ok (.enter n us) w ∧
        Calls P n us w (fun e w' => ∃ v δ rv R', e = .returned rv ∧ K v δ ∧ Step X d G R w (appD G d dst δ) R' w' ∧ VR (Mem X d (appD G d dst δ) R' w') (appD G d dst δ) R' d v rv)) ∨
      ∃ rv w', (do let d ← resolve ρ c ty; invoke d.target d.args : Sem Next).run P w = .ok (.value rv) w' ∧ ∃ v δ R', K v δ ∧ Step X d G R w (appD G d dst δ) R' w' ∧ VR (Mem X d (appD G d dst δ) R' w') (appD G d dst δ) R' d v rv := by
    intro T hT ht
    rcases hT with ⟨h1, h2⟩ | ⟨v, w', h1, h2⟩
    · refine .inl ⟨n, _, hrun h1, h2.mono fun e w' => ?_⟩
      rintro ⟨rv, rfl, hrv⟩
      obtain ⟨v, δ, R', h3⟩ := ht rv w' hrv
      exact ⟨v, δ, rv, R', rfl, h3⟩
    · exact .inr ⟨v, w', by rw [hpre]; exact h1, ht v w' h2⟩
  split at h
  · obtain ⟨as, hw, hcl, r, hcall, hsc, hK⟩ := h
    have hall := wkBs_VRs hs _ hw hcl (VRs.app hv hcs)
    refine main (hC _ _ _ _ _ _ hcall X R w _ hX hs.look hall 0 rfl rfl) fun rv w' => ?_
    rintro ⟨R', hst, hvr⟩
    rw [scal_adopt _ _ hsc] at hvr
    exact ⟨_, _, R, hK, Step.grow hs hst.bare_grows, scal_VR _ _ hsc hvr⟩
  obtain ⟨as, hw, h⟩ := h
  have hall := wkRs_VRs _ hw (VRs.app hv hcs)
  split at h
  · obtain ⟨r, G', hcall, ⟨_, hfree, hfree', hK⟩ | ⟨t0, ht, ht', ha, _, hK⟩⟩ := h
    case inr =>
      refine main (hC _ _ _ _ _ _ hcall X R w _ hX hs hall t0 ht ht') fun rv w' => ?_
      rintro ⟨R', hst, hvr⟩
      have e : fillKey G' d t0 [] = G' := by
        funext k j
        unfold fillKey
        split
        · rename_i e; rw [e.1, e.2, ht']
        · rfl
      rw [ha, e] at hst
      rw [ha, e] at hvr
      exact ⟨_, _, R', hK, hst, hvr⟩
    cases dst with
    | none => exact hfree.elim
    | some t0 =>
      unfold free at hfree hfree'
      refine main (hC _ _ _ _ _ _ hcall X R w _ hX hs hall t0 hfree hfree') fun rv w' => ?_
      rintro ⟨R', hst, hvr⟩
      exact ⟨_, _, R', hK, hst, hvr⟩
  · obtain ⟨hclosed, r, hcall, h⟩ := h
    split at h
    · refine main (hC _ _ _ _ _ _ hcall (Xc X d G R w) R w _ hX hs.bare (closed_VRs (fun _ _ _ hm => hm.bare) _ _ hclosed hall) 0 rfl rfl) fun rv w' => ?_
      rintro ⟨R', hst, hvr⟩
      exact ⟨_, _, R, h, Step.grow hs hst.bare_grows, frz_VR hs hst r [] rv (fun i o hi => hi) hvr⟩
    obtain ⟨hfree, hK⟩ := h
    cases dst with
    | none => exact hfree.elim
    | some t0 =>
      unfold free at hfree
      refine main (hC _ _ _ _ _ _ hcall (Xc X d G R w) R w _ hX hs.bare (closed_VRs (fun _ _ _ hm => hm.bare) _ _ hclosed hall) t0 rfl rfl) fun rv w' => ?_
      rintro ⟨R', hst, hvr⟩
      obtain ⟨R2, h1, h2⟩ := embed hs hfree hst hvr
      exact ⟨_, _, R2, hK, h1, h2⟩
theorem opt_rel {M : Nat → Nat → Value → Prop} {F : Nat → GV} {a : Act} (hF : ∀ t, VR M G R d (F t) (a.tmps.getD t undef)) (o : Option Operand) : OR M G R d (o.map (ge F)) (o.map a.eval) := by
  cases o with
  | none => trivial
  | some x => exact ge_sound hF x
theorem gop_sound {TB : Nat → Option Obj} {C : CR} (hC : Known P TB C) (hX : Tabs TB X) {A : Ann} (hs : Sim X d G R w) {F : Nat → GV} {a : Act} (hF : ∀ t, VR (Mem X d G R w) G R d (F t) (a.tmps.getD t undef)) {o : Oper} {K : GV → Dl → Prop} (h : gop P C A d o F G K)
    {next : Act → World → Prop} {Q : Exit → Act → World → Prop}
    (cont : ∀ v δ rv w' R', K v δ → Step X d G R w (appD G d o.dst δ) R' w' → VR (Mem X d (appD G d o.dst δ) R' w') (appD G d o.dst δ) R' d v rv → next (a.put o.dst rv) w') : o.wp P a w next Q := by
  have same : ∀ {v rv}, K v .nop → VR (Mem X d G R w) G R d v rv → (execOp a.eval o).run P w = .ok (.value rv) w → o.wp P a w next Q := fun hK hv hr =>
    wp_val hr (cont _ _ _ _ R hK (Step.refl hs) hv)
  obtain ⟨dst, op, ty, pos, after, guard⟩ := o
  have bld : ∀ (ps : Array (Nat × Operand)) (i : Nat) (p : Nat × GV) (q : Nat × Value), (ps.toList.map fun q => (q.1, ge F q.2))[i]? = some p → (ps.map fun (i, x) => (i, a.eval x))[i]? = some q → p.1 = q.1 ∧ VR (Mem X d G R w) G R d p.2 q.2 := by
    intro ps i p q h1 h2
    rw [List.getElem?_map] at h1
    rw [Array.getElem?_map] at h2
    cases hq : ps[i]? with
    | none => rw [hq] at h2; cases h2
    | some y =>
      rw [hq] at h2
      rw [Array.getElem?_toList, hq] at h1
      cases h1
      cases h2
      exact ⟨rfl, ge_sound hF _⟩
  cases op <;> unfold gop at h <;> dsimp only at h <;> try exact h.elim
  case move x => exact same h (ge_sound hF x) rfl
  case assign x =>
    have hx := ge_sound hF x
    have hw : VR (Mem X d G R w) G R d (wkA (dstIn A.pureAt dst) (ge F x)) (a.eval x) := by
      revert hx
      generalize ge F x = g
      intro hx
      cases dstIn A.pureAt dst with
      | false => unfold wkA; exact hx
      | true =>
        cases g <;> first | exact hx | exact VR.p_iff.2 hx.csl_sl | exact VR.p_iff.2 hx.tsl_sl
    exact same h hw rfl
  case pick c x y =>
    have hc := ge_sound hF c
    split at h
    case h_2 => exact h.elim
    rename_i t ht
    rw [ht] at hc
    have hc' := VR.p_iff.1 hc
    unfold PR at hc'
    cases t with
    | true => exact same (h.1 rfl) (ge_sound hF x) (by simp [execOp, hc', asBool])
    | false => exact same (h.2 rfl) (ge_sound hF y) (by simp [execOp, hc', asBool])
  case alloc t =>
    split at h
    case h_2 => exact h.elim
    rename_i zs hz
    obtain ⟨hf, hK⟩ := h
    cases dst with
    | none => exact hf.elim
    | some t0 =>
      unfold free at hf
      obtain ⟨i, z, h1, h2, h3, h4⟩ := zc_spec hz
      obtain ⟨R', hst, hv⟩ := newBox hs hf (gs := zs.map cv1) (vs := zs) t (by
        have := VRs.map (M := Mem X d G R w) (G := G) (R := R) (d := d) cv1 id zs (fun v _ => VR.cv1 v)
        rwa [List.map_id] at this) h4
      have hzc : z.cells = zs.toArray := by apply Array.ext'; simpa using h3
      refine wp_val (rv := .pointer (some ⟨w.heap.size, 0, none⟩)) (w' := w.alloc (.cells zs.toArray t)) ?_ (cont _ _ _ _ R' hK (by simpa [appD, fillD] using hst) (by simpa [appD, fillD] using hv))
      simp [execOp, Instr.alloc, zeroValue, typeInfo, h1, h2, newVar, newRow, hzc]
  case box t x =>
    split at h
    case h_2 => exact h.elim
    rename_i cs hcs
    by_cases hfz : dstIn A.frzAt dst = true
    · rw [if_pos hfz] at h
      split at h
      case h_2 => exact h.elim
      rename_i ps hps
      obtain ⟨vs, h1, h2, h3, _⟩ := (ge_sound hF x).cells hcs
      obtain ⟨h4, h5⟩ := purs_get hps h3
      have hg := Grows.alloc w (.cells vs.toArray t)
      refine wp_val (rv := .pointer (some ⟨w.heap.size, 0, none⟩)) (w' := w.alloc (.cells vs.toArray t)) ?_ (cont _ .nop _ _ R h (Step.grow hs hg) ?_)
      · simp [execOp, Instr.box, newVar, newRow, h1]
      · show VR (Mem X d G R (w.alloc (.cells vs.toArray t))) G R d (.ep ps 0) _
        unfold VR
        refine ⟨w.heap.size, 0, by simp, PRs.of_get fun i c hi => ?_⟩
        obtain ⟨v, h6, h7⟩ := h5 i c hi
        refine ⟨v, ?_, PR.mono (Ext.grow (d := d) (G := G) (R := R) (X := X) hg).mem _ _ h7⟩
        rw [Nat.zero_add]
        exact Mem.new hs (by simpa using h6) (h2 v (List.mem_of_getElem? h6))
    rw [if_neg hfz] at h
    obtain ⟨hf, hK⟩ := h
    cases dst with
    | none => exact hf.elim
    | some t0 =>
      unfold free at hf
      obtain ⟨vs, h1, h2, h3, _⟩ := (ge_sound hF x).cells hcs
      obtain ⟨R', hst, hv⟩ := newBox hs hf t h3 h2
      refine wp_val (rv := .pointer (some ⟨w.heap.size, 0, none⟩)) (w' := w.alloc (.cells vs.toArray t)) ?_ (cont _ _ _ _ R' hK (by simpa [appD, fillD] using hst) (by simpa [appD, fillD] using hv))
      simp [execOp, Instr.box, newVar, newRow, h1]
  case build t ps =>
    obtain ⟨v, rv, hK, hr, hv⟩ := build_sound (parts := ps.toList.map fun q => (q.1, ge F q.2)) (vals := ps.map fun (i, x) => (i, a.eval x)) (by simp) (bld ps) h
    exact same hK hv (run_v hr)
  case buildSlice t n ps =>
    obtain ⟨v, δ, rv, w', R', hK, hr, hst, hv⟩ := buildSlice_sound hs (parts := ps.toList.map fun q => (q.1, ge F q.2)) (vals := ps.map fun (i, x) => (i, a.eval x)) (by simp) (bld ps) h
    exact wp_val (run_v hr) (cont _ _ _ _ R' hK hst hv)
  case makeSlice t l c =>
    obtain ⟨v, δ, rv, w', R', hK, hr, hst, hv⟩ := make_sound hs (ge_sound hF l) (ge_sound hF c) h
    exact wp_val (run_v hr) (cont _ _ _ _ R' hK hst hv)
  case load t x =>
    replace h := h.2.2
    obtain ⟨v, rv, hK, hr, hv⟩ := load_sound hs (ge_sound hF x) h
    exact same hK hv (run_v hr)
  case store t x y =>
    replace h := h.2
    obtain ⟨κ, o', w', hK, hr, hst⟩ := store_sound hs (ge_sound hF x) (ge_sound hF y) h
    exact wp_skp (run_u hr) (cont _ _ undef _ R hK hst (by unfold VR; trivial))
  case nilCheck x =>
    have hx := ge_sound hF x
    split at h
    case h_6 => exact h.elim
    all_goals
      rename_i hg
      rw [hg] at hx
      refine same h hx ?_
      unfold VR at hx
      first
        | (unfold PR at hx; obtain ⟨b, o, e, _⟩ := hx; simp [execOp, e]; done)
        | (obtain ⟨_, _, _, _, _, b, o, e, _⟩ := hx; simp [execOp, e]; done)
        | (obtain ⟨_, _, e⟩ := hx; simp [execOp, e]; done)
        | (obtain ⟨b, o, e, _⟩ := hx; simp [execOp, e]; done)
        | (obtain ⟨vs, e, _⟩ := hx; simp [execOp, e]; done)
  case binOp op t x y ty' =>
    obtain ⟨v, rv, hK, hr, hv⟩ := bin_sound (ox := x) (oy := y) (ge_sound hF x) (ge_sound hF y) h
    exact same hK hv (run_v hr)
  case unOp op t x =>
    obtain ⟨v, rv, hK, hr, hv⟩ := un_sound (ge_sound hF x) h
    exact same hK hv (run_v hr)
  case convert s t x =>
    obtain ⟨v, rv, hK, hr, hv⟩ := conv_sound (ge_sound hF x) h
    exact same hK hv (run_v hr)
  case makeFunc f first caps =>
    cases f <;> dsimp only at h <;> try exact h.elim
    rename_i f
    obtain ⟨h0, hK⟩ := h
    have hfirst : first = #[] := Array.eq_empty_of_size_eq_zero h0
    subst hfirst
    refine same (rv := .func (.func f) #[] (caps.map a.eval)) hK ?_ (run_v (by simp [Instr.makeFunc]))
    unfold VR
    exact ⟨caps.toList.map a.eval, by congr 1; apply Array.ext'; simp, map_rel hF caps.toList⟩
  case slice t x lo hi mx =>
    obtain ⟨v, rv, hK, hr, hv⟩ := slice_sound (ge_sound hF x) (opt_rel hF lo) (opt_rel hF hi) (opt_rel hF mx) h
    exact same hK hv (run_v hr)
  case fieldAddr t x k =>
    obtain ⟨v, rv, hK, hr, hv⟩ := fieldAddr_sound (ge_sound hF x) h
    exact same hK hv (run_v hr)
  case field t x k =>
    obtain ⟨v, rv, hK, hr, hv⟩ := field_sound (ge_sound hF x) h
    exact same hK hv (run_v hr)
  case indexAddr t x i =>
    obtain ⟨v, rv, hK, hr, hv⟩ := indexAddr_sound (ge_sound hF x) (ge_sound hF i) h
    exact same hK hv (run_v hr)
  case index t x i =>
    obtain ⟨v, rv, hK, hr, hv⟩ := index_sound (ge_sound hF x) (ge_sound hF i) h
    exact same hK hv (run_v hr)
  case extract x k =>
    have hx := ge_sound hF x
    split at h
    case h_2 => exact h.elim
    rename_i vs hg
    rw [hg] at hx
    split at h
    case h_2 => exact h.elim
    rename_i v hv
    unfold VR at hx
    obtain ⟨us, e, hus⟩ := hx
    obtain ⟨u, h1, h2⟩ := VRs.get hus hv
    have h1' : us.toArray[k]? = some u := by simpa using h1
    exact same h h2 (by simp only [execOp, e, Instr.extract, h1']; rfl)
  case call c =>
    split at h
    case h_3 => exact h.elim
    · rename_i f0 hcal
      rcases gcall_sound hC hX hs (ge_sound hF f0) (map_rel hF c.args.toList) h (ty := ty) hcal rfl rfl with ⟨n, us, hr, hcalls⟩ | ⟨rv, w', hr, v, δ, R', hK, hst, hv⟩
      · unfold Oper.wp
        have hr' : (execOp a.eval ⟨dst, .call c, ty, pos, after, guard⟩).run P w = .ok (.enter n us) w := hr
        rw [hr']
        refine hcalls.mono fun e w' => ?_
        rintro ⟨v, δ, rv, R', rfl, hK, hst, hv⟩
        exact cont v δ rv w' R' hK hst hv
      · exact wp_val hr (cont v δ rv w' R' hK hst hv)
    · rename_i b hcal
      have hres : ∀ {rv w'}, (builtin b c.argTypes ty (c.args.map fun | .const _ => true | _ => false) (c.args.map a.eval)).run P w = .ok (.value rv) w' →
          (execOp a.eval ⟨dst, .call c, ty, pos, after, guard⟩).run P w = .ok (.value rv) w' := fun hr => by
        simp only [execOp, resolve, hcal, Sem.run_bind, Sem.run_pure, Result.andThen_ok, invoke]
        exact hr
      have hat : ∀ {l : List TypeId}, c.argTypes.toList = l → c.argTypes = l.toArray := fun e => by apply Array.ext'; simpa using e
      have hav : ∀ {l : List Operand}, c.args.toList = l → c.args.map a.eval = (l.map a.eval).toArray := fun e => by apply Array.ext'; simp [e]
      unfold gBuiltin at h
      split at h
      case h_6 => exact h.elim
      · rename_i t g hts hxs
        cases hl : c.args.toList with
        | nil => rw [hl] at hxs; cases hxs
        | cons x l => cases l with
          | cons y l => rw [hl] at hxs; simp at hxs
          | nil =>
            rw [hl] at hxs
            simp only [List.map_cons, List.map_nil, List.cons.injEq, and_true] at hxs
            subst hxs
            obtain ⟨v, rv, hK, hr, hv⟩ := len_sound (ty := ty) (ge_sound hF x) h
            refine same hK hv (hres ?_)
            rw [hav hl, hat hts]
            exact run_v hr
      · rename_i t tx s x hts hxs
        replace h := h.2
        cases hl : c.args.toList with
        | nil => rw [hl] at hxs; cases hxs
        | cons y l => cases l with
          | nil => rw [hl] at hxs; simp at hxs
          | cons z l => cases l with
            | cons q l => rw [hl] at hxs; simp at hxs
            | nil =>
              rw [hl] at hxs
              simp only [List.map_cons, List.map_nil, List.cons.injEq, and_true] at hxs
              obtain ⟨rfl, rfl⟩ := hxs
              obtain ⟨v, δ, rv, w', R', hK, hr, hst, hv⟩ := append_sound hs (ty := ty) (ge_sound hF y) (ge_sound hF z) h
              refine wp_val (hres ?_) (cont _ _ _ _ R' hK hst hv)
              rw [hav hl, hat hts]
              exact run_v hr
      · rename_i t tx s x hts hxs
        cases hl : c.args.toList with
        | nil => rw [hl] at hxs; cases hxs
        | cons y l => cases l with
          | nil => rw [hl] at hxs; simp at hxs
          | cons z l => cases l with
            | cons q l => rw [hl] at hxs; simp at hxs
            | nil =>
              rw [hl] at hxs
              simp only [List.map_cons, List.map_nil, List.cons.injEq, and_true] at hxs
              obtain ⟨rfl, rfl⟩ := hxs
              obtain ⟨v, δ, rv, w', hK, hr, hst, hv⟩ := copy_sound hs (ty := ty) (ge_sound hF y) (ge_sound hF z) h
              refine wp_val (hres ?_) (cont _ _ _ _ R hK hst hv)
              rw [hav hl, hat hts]
              exact run_v hr
      · split at h
        case h_2 => exact h.elim
        rename_i v hv
        obtain ⟨rv, hr, hvr⟩ := min_sound (k := true) (map_rel hF c.args.toList) hv c.argTypes ty
        refine same h hvr (hres ?_)
        rw [hav rfl]
        exact run_v hr
      · split at h
        case h_2 => exact h.elim
        rename_i v hv
        obtain ⟨rv, hr, hvr⟩ := min_sound (k := false) (map_rel hF c.args.toList) hv c.argTypes ty
        refine same h hvr (hres ?_)
        rw [hav rfl]
        exact run_v hr
end
end Go.Eng
end
section
set_option linter.all false
namespace Go.Eng
section
variable {P : Program} {C : CR} {A : Ann} {d : Nat} {G G' : Heap}
theorem cps_gLoad {t : TypeId} {a : GV} {K : GV → Prop} : gLoad P G t a K → ∃ v, gLoad P G t a (· = v) ∧ K v := by
  unfold gLoad gLoadC
  (repeat' split) <;> intro h <;> first | exact h.elim | exact h.2.elim | exact ⟨_, ⟨h.1, h.2.1, rfl⟩, h.2.2⟩ | exact ⟨_, ⟨h.1, rfl⟩, h.2⟩ | exact ⟨_, rfl, h⟩
theorem cps_gStore {t : TypeId} {a v : GV} {K : Dl → Prop} : gStore P G t a v K → ∃ δ, gStore P G t a v (· = δ) ∧ K δ := by
  unfold gStore
  (repeat' split) <;> intro h <;> first | exact h.elim | exact h.2.elim | exact h.2.2.elim | exact ⟨_, ⟨h.1, h.2.1, h.2.2.1, rfl⟩, h.2.2.2⟩ | exact ⟨_, ⟨h.1, h.2.1, rfl⟩, h.2.2⟩
theorem cps_gBuild {t : TypeId} {ps : List (Nat × GV)} {K : GV → Prop} : gBuild P t ps K → ∃ v, gBuild P t ps (· = v) ∧ K v := by
  unfold gBuild
  (repeat' split) <;> intro h <;> first | exact h.elim | exact ⟨_, rfl, h⟩
theorem cps_gBuildSlice {t : TypeId} {n : Nat} {ps : List (Nat × GV)} {K : GV → Dl → Prop} {dst : Option Nat} : gBuildSlice P A d t n ps K dst G → ∃ v δ, gBuildSlice P A d t n ps (fun v' δ' => v' = v ∧ δ' = δ) dst G ∧ K v δ := by
  unfold gBuildSlice
  (repeat' split) <;> intro h <;> first | exact h.elim | exact ⟨_, _, ⟨h.1, h.2.1, h.2.2.1, rfl, rfl⟩, h.2.2.2⟩ | exact ⟨_, _, ⟨h.1, h.2.1, rfl, rfl⟩, h.2.2⟩
theorem cps_gIndexAddr {t : TypeId} {x i : GV} {K : GV → Prop} : gIndexAddr P t x i K → ∃ v, gIndexAddr P t x i (· = v) ∧ K v := by
  unfold gIndexAddr
  (repeat' split) <;> intro h <;> first | exact h.elim | exact h.2.elim | exact ⟨_, ⟨h.1, h.2.1, h.2.2.1, rfl⟩, h.2.2.2⟩ | exact ⟨_, ⟨h.1, h.2.1, rfl⟩, h.2.2⟩
theorem cps_gFieldAddr {t : TypeId} {x : GV} {k : Nat} {K : GV → Prop} : gFieldAddr P t x k K → ∃ v, gFieldAddr P t x k (· = v) ∧ K v := by
  unfold gFieldAddr
  (repeat' split) <;> intro h <;> first | exact h.elim | exact h.2.elim | exact ⟨_, ⟨h.1, rfl⟩, h.2⟩
theorem cps_gField {t : TypeId} {x : GV} {k : Nat} {K : GV → Prop} : gField P t x k K → ∃ v, gField P t x k (· = v) ∧ K v := by
  unfold gField
  (repeat' split) <;> intro h <;> first | exact h.elim | exact ⟨_, ⟨h.1, rfl⟩, h.2⟩ | exact ⟨_, rfl, h⟩
theorem cps_gIndex {t : TypeId} {x i : GV} {K : GV → Prop} : gIndex P t x i K → ∃ v, gIndex P t x i (· = v) ∧ K v := by
  unfold gIndex
  (repeat' split) <;> intro h <;> first | exact h.elim | exact h.2.2.elim | exact ⟨_, ⟨h.1, h.2.1, rfl⟩, h.2.2⟩
theorem cps_gSlice {t : TypeId} {x : GV} {lo hi mx : Option GV} {K : GV → Prop} : gSlice P t x lo hi mx K → ∃ v, gSlice P t x lo hi mx (· = v) ∧ K v := by
  unfold gSlice
  (repeat' split) <;> intro h <;> first | exact h.elim | exact h.2.elim | exact h.2.2.elim | exact ⟨_, ⟨h.1, h.2.1, h.2.2.1, h.2.2.2.1, h.2.2.2.2.1, h.2.2.2.2.2.1, rfl⟩, h.2.2.2.2.2.2⟩ | exact ⟨_, ⟨h.1, h.2.1, h.2.2.1, h.2.2.2.1, h.2.2.2.2.1, rfl⟩, h.2.2.2.2.2⟩ | exact ⟨_, ⟨h.1, h.2.1, h.2.2.1, h.2.2.2.1, rfl⟩, h.2.2.2.2⟩
theorem cps_gLen {t : TypeId} {x : GV} {K : GV → Prop} : gLen P t x K → ∃ v, gLen P t x (· = v) ∧ K v := by
  unfold gLen
  rintro ⟨h1, h⟩
  split at h
  · exact ⟨_, ⟨h1, by simp [*]⟩, h⟩
  · exact h.elim
theorem cps_gAppend {t tx : TypeId} {s x : GV} {dst : Option Nat} {K : GV → Dl → Prop} : gAppend P A d G t tx s x dst K → ∃ v δ, gAppend P A d G t tx s x dst (fun v' δ' => v' = v ∧ δ' = δ) ∧ K v δ := by
  unfold gAppend
  (repeat' split) <;> intro h <;> first | exact h.elim | exact h.2.elim | (obtain ⟨h1, h2, h3, k, t, h4, h5, h6⟩ := h; exact ⟨_, _, ⟨h1, h2, h3, k, t, h4, h5, rfl, rfl⟩, h6⟩) | exact ⟨_, _, ⟨h.1, h.2.1, h.2.2.1, h.2.2.2.1, h.2.2.2.2.1, rfl, rfl⟩, h.2.2.2.2.2⟩ | exact ⟨_, _, ⟨h.1, h.2.1, h.2.2.1, h.2.2.2.1, rfl, rfl⟩, h.2.2.2.2⟩ | exact ⟨_, _, ⟨h.1, h.2.1, h.2.2.1, rfl, rfl⟩, h.2.2.2⟩
theorem cps_gCopy {t tx : TypeId} {s x : GV} {K : GV → Dl → Prop} : gCopy P G t tx s x K → ∃ v δ, gCopy P G t tx s x (fun v' δ' => v' = v ∧ δ' = δ) ∧ K v δ := by
  unfold gCopy
  (repeat' split) <;> intro h <;> first | exact h.elim | exact ⟨_, _, ⟨h.1, h.2.1, h.2.2.1, h.2.2.2.1, rfl, rfl⟩, h.2.2.2.2⟩
theorem cps_gMake {t : TypeId} {l c : GV} {dst : Option Nat} {K : GV → Dl → Prop} : gMake P A d t l c dst G K → ∃ v δ, gMake P A d t l c dst G (fun v' δ' => v' = v ∧ δ' = δ) ∧ K v δ := by
  unfold gMake
  (repeat' split) <;> intro h <;> first | exact h.elim | exact ⟨_, _, ⟨h.1, h.2.1, h.2.2.1, h.2.2.2.1, h.2.2.2.2.1, h.2.2.2.2.2.1, rfl, rfl⟩, h.2.2.2.2.2.2⟩
theorem mono_gCopy {t tx : TypeId} {s x : GV} {K K' : GV → Dl → Prop} (hk : ∀ v δ, K v δ → K' v δ) : gCopy P G t tx s x K → gCopy P G t tx s x K' := by
  unfold gCopy
  (repeat' split) <;> intro h <;> first | exact h.elim | exact ⟨h.1, h.2.1, h.2.2.1, h.2.2.2.1, hk _ _ h.2.2.2.2⟩
theorem mono_gMake {t : TypeId} {l c : GV} {dst : Option Nat} {K K' : GV → Dl → Prop} (hk : ∀ v δ, K v δ → K' v δ) : gMake P A d t l c dst G K → gMake P A d t l c dst G K' := by
  unfold gMake
  (repeat' split) <;> intro h <;> first | exact h.elim | exact ⟨h.1, h.2.1, h.2.2.1, h.2.2.2.1, h.2.2.2.2.1, h.2.2.2.2.2.1, hk _ _ h.2.2.2.2.2.2⟩
theorem cps_gEqS {t : TypeId} {x y : List GV} {n : Bool} {K : GV → Prop} : gEqS P t x y n K → ∃ v, gEqS P t x y n (· = v) ∧ K v := by
  unfold gEqS
  split
  · rintro ⟨r, h1, h2⟩
    exact ⟨_, ⟨r, h1, rfl⟩, h2⟩
  · exact fun h => h.elim
theorem cps_gBin {op : BinOp} {t : TypeId} {x y : GV} {K : GV → Prop} : gBin P op t x y K → ∃ v, gBin P op t x y (· = v) ∧ K v := by
  unfold gBin
  (repeat' split) <;> intro h <;> first | exact h.elim | exact h.2.elim | exact h.2.2.elim | exact cps_gEqS h | exact ⟨_, ⟨h.1, h.2.1, rfl⟩, h.2.2⟩ | exact ⟨_, ⟨h.1, rfl⟩, h.2⟩ | exact ⟨_, rfl, h⟩
theorem cps_gUn {op : UnOp} {x : GV} {K : GV → Prop} : gUn op x K → ∃ v, gUn op x (· = v) ∧ K v := by
  unfold gUn
  (repeat' split) <;> intro h <;> first | exact h.elim | exact ⟨_, rfl, h⟩
theorem cps_gConv {s t : TypeId} {x : GV} {K : GV → Prop} : gConv P s t x K → ∃ v, gConv P s t x (· = v) ∧ K v := by
  unfold gConv
  (repeat' split) <;> intro h <;> first | exact h.elim | exact h.2.2.2.2.elim | exact ⟨_, ⟨h.1, h.2.1, h.2.2.1, h.2.2.2.1, rfl⟩, h.2.2.2.2⟩ | exact ⟨_, ⟨h.1, h.2.1, rfl⟩, h.2.2⟩ | exact ⟨_, rfl, h⟩
theorem cps_gCall {f : GV} {args : List GV} {dst : Option Nat} {K : GV → Dl → Prop} : gCall C A d G f args dst K → ∃ v δ, gCall C A d G f args dst (fun v' δ' => v' = v ∧ δ' = δ) ∧ K v δ := by
  unfold gCall
  split
  case h_2 => intro h; exact h.elim
  by_cases hb : dstIn A.borAt dst = true
  · rw [if_pos hb]
    rintro ⟨as, hw, hcl, r, h1, h2, h3⟩
    exact ⟨_, _, by rw [if_pos hb]; exact ⟨as, hw, hcl, r, h1, h2, rfl, rfl⟩, h3⟩
  rw [if_neg hb]
  rintro ⟨as, hw, h⟩
  split at h
  · rename_i hc
    obtain ⟨r, G', h1, ⟨hd0, h2, h2', h3⟩ | ⟨t0, ht, ht', ha, hop, h3⟩⟩ := h
    · exact ⟨_, _, by rw [if_neg hb]; exact ⟨as, hw, by rw [if_pos hc]; exact ⟨r, G', h1, .inl ⟨hd0, h2, h2', rfl, rfl⟩⟩⟩, h3⟩
    · exact ⟨_, _, by rw [if_neg hb]; exact ⟨as, hw, by rw [if_pos hc]; exact ⟨r, G', h1, .inr ⟨t0, ht, ht', ha, hop, rfl, rfl⟩⟩⟩, h3⟩
  · rename_i hc
    obtain ⟨h0, r, h1, h⟩ := h
    split at h
    · rename_i hf
      exact ⟨_, _, by rw [if_neg hb]; exact ⟨as, hw, by rw [if_neg hc]; exact ⟨h0, r, h1, by rw [if_pos hf]; exact ⟨rfl, rfl⟩⟩⟩, h⟩
    · rename_i hf
      obtain ⟨h2, h3⟩ := h
      exact ⟨_, _, by rw [if_neg hb]; exact ⟨as, hw, by rw [if_neg hc]; exact ⟨h0, r, h1, by rw [if_neg hf]; exact ⟨h2, rfl, rfl⟩⟩⟩, h3⟩
theorem mono_gLoad {t : TypeId} {a : GV} {K K' : GV → Prop} (hk : ∀ v, K v → K' v) : gLoad P G t a K → gLoad P G t a K' := fun h => by
  obtain ⟨v, h1, h2⟩ := cps_gLoad h
  revert h1
  unfold gLoad gLoadC
  (repeat' split) <;> intro h <;> first | exact h.elim | exact h.2.elim | (exact ⟨h.1, h.2.1, h.2.2 ▸ hk _ h2⟩) | (exact ⟨h.1, h.2 ▸ hk _ h2⟩) | exact h ▸ hk _ h2
theorem mono_gStore {t : TypeId} {a v : GV} {K K' : Dl → Prop} (hk : ∀ v, K v → K' v) : gStore P G t a v K → gStore P G t a v K' := by
  unfold gStore
  (repeat' split) <;> intro h <;> first | exact h.elim | exact h.2.elim | exact h.2.2.elim | exact ⟨h.1, h.2.1, h.2.2.1, hk _ h.2.2.2⟩ | exact ⟨h.1, h.2.1, hk _ h.2.2⟩
theorem mono_gBuild {t : TypeId} {ps : List (Nat × GV)} {K K' : GV → Prop} (hk : ∀ v, K v → K' v) : gBuild P t ps K → gBuild P t ps K' := by
  unfold gBuild
  (repeat' split) <;> intro h <;> first | exact h.elim | exact hk _ h
theorem mono_gBuildSlice {t : TypeId} {n : Nat} {ps : List (Nat × GV)} {K K' : GV → Dl → Prop} (hk : ∀ v δ, K v δ → K' v δ) {dst : Option Nat} : gBuildSlice P A d t n ps K dst G → gBuildSlice P A d t n ps K' dst G := by
  unfold gBuildSlice
  (repeat' split) <;> intro h <;> first | exact h.elim | exact ⟨h.1, h.2.1, h.2.2.1, hk _ _ h.2.2.2⟩ | exact ⟨h.1, h.2.1, hk _ _ h.2.2⟩
theorem mono_gIndexAddr {t : TypeId} {x i : GV} {K K' : GV → Prop} (hk : ∀ v, K v → K' v) : gIndexAddr P t x i K → gIndexAddr P t x i K' := by
  unfold gIndexAddr
  (repeat' split) <;> intro h <;> first | exact h.elim | exact h.2.elim | exact ⟨h.1, h.2.1, h.2.2.1, hk _ h.2.2.2⟩ | exact ⟨h.1, h.2.1, hk _ h.2.2⟩
theorem mono_gFieldAddr {t : TypeId} {x : GV} {k : Nat} {K K' : GV → Prop} (hk : ∀ v, K v → K' v) : gFieldAddr P t x k K → gFieldAddr P t x k K' := by
  unfold gFieldAddr
  (repeat' split) <;> intro h <;> first | exact h.elim | exact h.2.elim | exact ⟨h.1, hk _ h.2⟩
theorem mono_gField {t : TypeId} {x : GV} {k : Nat} {K K' : GV → Prop} (hk : ∀ v, K v → K' v) : gField P t x k K → gField P t x k K' := by
  unfold gField
  (repeat' split) <;> intro h <;> first | exact h.elim | exact ⟨h.1, hk _ h.2⟩ | exact hk _ h
theorem mono_gIndex {t : TypeId} {x i : GV} {K K' : GV → Prop} (hk : ∀ v, K v → K' v) : gIndex P t x i K → gIndex P t x i K' := by
  unfold gIndex
  (repeat' split) <;> intro h <;> first | exact h.elim | exact h.2.2.elim | exact ⟨h.1, h.2.1, hk _ h.2.2⟩
theorem mono_gSlice {t : TypeId} {x : GV} {lo hi mx : Option GV} {K K' : GV → Prop} (hk : ∀ v, K v → K' v) : gSlice P t x lo hi mx K → gSlice P t x lo hi mx K' := by
  unfold gSlice
  (repeat' split) <;> intro h <;> first | exact h.elim | exact h.2.elim | exact h.2.2.elim | exact ⟨h.1, h.2.1, h.2.2.1, h.2.2.2.1, h.2.2.2.2.1, h.2.2.2.2.2.1, hk _ h.2.2.2.2.2.2⟩ | exact ⟨h.1, h.2.1, h.2.2.1, h.2.2.2.1, h.2.2.2.2.1, hk _ h.2.2.2.2.2⟩ | exact ⟨h.1, h.2.1, h.2.2.1, h.2.2.2.1, hk _ h.2.2.2.2⟩
theorem mono_gLen {t : TypeId} {x : GV} {K K' : GV → Prop} (hk : ∀ v, K v → K' v) : gLen P t x K → gLen P t x K' := by
  unfold gLen
  rintro ⟨h1, h⟩
  refine ⟨h1, ?_⟩
  split at h
  · first | exact hk _ h | (simp only [*]; exact hk _ h)
  · exact h.elim
theorem mono_gAppend {t tx : TypeId} {s x : GV} {dst : Option Nat} {K K' : GV → Dl → Prop} (hk : ∀ v δ, K v δ → K' v δ) : gAppend P A d G t tx s x dst K → gAppend P A d G t tx s x dst K' := by
  unfold gAppend
  (repeat' split) <;> intro h <;> first | exact h.elim | exact h.2.elim | (obtain ⟨h1, h2, h3, k, t, h4, h5, h6⟩ := h; exact ⟨h1, h2, h3, k, t, h4, h5, hk _ _ h6⟩) | exact ⟨h.1, h.2.1, h.2.2.1, h.2.2.2.1, h.2.2.2.2.1, hk _ _ h.2.2.2.2.2⟩ | exact ⟨h.1, h.2.1, h.2.2.1, h.2.2.2.1, hk _ _ h.2.2.2.2⟩ | exact ⟨h.1, h.2.1, h.2.2.1, hk _ _ h.2.2.2⟩
theorem mono_gEqS {t : TypeId} {x y : List GV} {n : Bool} {K K' : GV → Prop} (hk : ∀ v, K v → K' v) : gEqS P t x y n K → gEqS P t x y n K' := by
  unfold gEqS
  split
  · rintro ⟨r, h1, h2⟩
    exact ⟨r, h1, hk _ h2⟩
  · exact fun h => h.elim
theorem mono_gBin {op : BinOp} {t : TypeId} {x y : GV} {K K' : GV → Prop} (hk : ∀ v, K v → K' v) : gBin P op t x y K → gBin P op t x y K' := by
  unfold gBin
  (repeat' split) <;> intro h <;> first | exact h.elim | exact h.2.elim | exact h.2.2.elim | exact mono_gEqS hk h | exact ⟨h.1, h.2.1, hk _ h.2.2⟩ | exact ⟨h.1, hk _ h.2⟩ | exact hk _ h
theorem mono_gUn {op : UnOp} {x : GV} {K K' : GV → Prop} (hk : ∀ v, K v → K' v) : gUn op x K → gUn op x K' := by
  unfold gUn
  (repeat' split) <;> intro h <;> first | exact h.elim | exact hk _ h
theorem mono_gConv {s t : TypeId} {x : GV} {K K' : GV → Prop} (hk : ∀ v, K v → K' v) : gConv P s t x K → gConv P s t x K' := by
  unfold gConv
  (repeat' split) <;> intro h <;> first | exact h.elim | exact h.2.2.2.2.elim | exact ⟨h.1, h.2.1, h.2.2.1, h.2.2.2.1, hk _ h.2.2.2.2⟩ | exact ⟨h.1, h.2.1, hk _ h.2.2⟩ | exact hk _ h
theorem mono_gCall {f : GV} {args : List GV} {dst : Option Nat} {K K' : GV → Dl → Prop} (hk : ∀ v δ, K v δ → K' v δ) : gCall C A d G f args dst K → gCall C A d G f args dst K' := by
  unfold gCall
  split
  case h_2 => intro h; exact h.elim
  split
  · rintro ⟨as, hw, hcl, r, h1, h2, h3⟩
    exact ⟨as, hw, hcl, r, h1, h2, hk _ _ h3⟩
  rintro ⟨as, hw, h⟩
  refine ⟨as, hw, ?_⟩
  split at h
  · rename_i hc
    rw [if_pos hc]
    obtain ⟨r, G', h1, ⟨hd0, h2, h2', h3⟩ | ⟨t0, ht, ht', ha, hop, h3⟩⟩ := h
    · exact ⟨r, G', h1, .inl ⟨hd0, h2, h2', hk _ _ h3⟩⟩
    · exact ⟨r, G', h1, .inr ⟨t0, ht, ht', ha, hop, hk _ _ h3⟩⟩
  · rename_i hc
    rw [if_neg hc]
    obtain ⟨h0, r, h1, h⟩ := h
    refine ⟨h0, r, h1, ?_⟩
    split at h
    · rename_i hf; rw [if_pos hf]; exact hk _ _ h
    · rename_i hf; rw [if_neg hf]; exact ⟨h.1, hk _ _ h.2⟩
theorem up {g : (GV → Prop) → Prop} {K : GV → Dl → Prop} {δ : Dl} (hm : ∀ K K' : GV → Prop, (∀ v, K v → K' v) → g K → g K') (h : ∃ v, g (· = v) ∧ K v δ) : ∃ v δ', g (fun v' => v' = v ∧ δ = δ') ∧ K v δ' := by
  obtain ⟨v, h1, h2⟩ := h
  exact ⟨v, δ, hm _ _ (fun _ e => ⟨e, rfl⟩) h1, h2⟩
theorem cps_gop {o : Oper} {F : Nat → GV} {K : GV → Dl → Prop} (h : gop P C A d o F G K) : ∃ v δ, gop P C A d o F G (fun v' δ' => v' = v ∧ δ' = δ) ∧ K v δ := by
  obtain ⟨dst, op, ty, pos, after, guard⟩ := o
  have up' : ∀ {g : (GV → Prop) → Prop} {δ : Dl}, (∀ K K' : GV → Prop, (∀ v, K v → K' v) → g K → g K') → (∃ v, g (· = v) ∧ K v δ) → ∃ v δ', g (fun v' => v' = v ∧ δ = δ') ∧ K v δ' := fun hm h => up hm h
  cases op <;> unfold gop at h ⊢ <;> dsimp only at h ⊢ <;> try exact h.elim
  case move x => exact ⟨_, _, ⟨rfl, rfl⟩, h⟩
  case assign x => exact ⟨_, _, ⟨rfl, rfl⟩, h⟩
  case pick c x y =>
    split at h
    case h_2 => exact h.elim
    rename_i t ht
    cases t with
    | true => exact ⟨_, _, ⟨fun _ => ⟨rfl, rfl⟩, fun e => (by cases e)⟩, h.1 rfl⟩
    | false => exact ⟨_, _, ⟨(fun e => by cases e), fun _ => ⟨rfl, rfl⟩⟩, h.2 rfl⟩
  case alloc t =>
    split at h
    case h_2 => exact h.elim
    exact ⟨_, _, ⟨h.1, rfl, rfl⟩, h.2⟩
  case box t x =>
    split at h
    case h_2 => exact h.elim
    by_cases hfz : dstIn A.frzAt dst = true
    · rw [if_pos hfz] at h
      split at h
      case h_2 => exact h.elim
      exact ⟨_, _, by rw [if_pos hfz]; exact ⟨rfl, rfl⟩, h⟩
    · rw [if_neg hfz] at h
      exact ⟨_, _, by rw [if_neg hfz]; exact ⟨h.1, rfl, rfl⟩, h.2⟩
  case build => exact up' (fun _ _ hk => mono_gBuild hk) (cps_gBuild h)
  case buildSlice => exact cps_gBuildSlice h
  case makeSlice => exact cps_gMake h
  case load =>
    obtain ⟨hb, hb2, h⟩ := h
    obtain ⟨v, δ, h1, h2⟩ := up' (fun _ _ hk => mono_gLoad hk) (cps_gLoad h)
    exact ⟨v, δ, ⟨hb, hb2, h1⟩, h2⟩
  case store =>
    obtain ⟨hb, h⟩ := h
    obtain ⟨δ, h1, h2⟩ := cps_gStore h
    exact ⟨_, δ, ⟨hb, mono_gStore (fun _ e => ⟨rfl, e⟩) h1⟩, h2⟩
  case nilCheck x => (repeat' split at h) <;> first | exact h.elim | exact ⟨_, _, ⟨rfl, rfl⟩, h⟩
  case binOp => exact up' (fun _ _ hk => mono_gBin hk) (cps_gBin h)
  case unOp => exact up' (fun _ _ hk => mono_gUn hk) (cps_gUn h)
  case convert => exact up' (fun _ _ hk => mono_gConv hk) (cps_gConv h)
  case makeFunc f first caps =>
    cases f <;> dsimp only at h ⊢ <;> try exact h.elim
    exact ⟨_, _, ⟨h.1, rfl, rfl⟩, h.2⟩
  case slice => exact up' (fun _ _ hk => mono_gSlice hk) (cps_gSlice h)
  case fieldAddr => exact up' (fun _ _ hk => mono_gFieldAddr hk) (cps_gFieldAddr h)
  case field => exact up' (fun _ _ hk => mono_gField hk) (cps_gField h)
  case indexAddr => exact up' (fun _ _ hk => mono_gIndexAddr hk) (cps_gIndexAddr h)
  case index => exact up' (fun _ _ hk => mono_gIndex hk) (cps_gIndex h)
  case extract x k =>
    split at h
    case h_2 => exact h.elim
    rename_i vs hv
    split at h
    case h_2 => exact h.elim
    rename_i v hv'
    exact ⟨_, _, ⟨rfl, rfl⟩, h⟩
  case call c =>
    split at h
    · exact cps_gCall h
    · unfold gBuiltin at h ⊢
      split at h
      · exact up' (g := fun K => gLen P _ _ K) (fun _ _ hk => mono_gLen hk) (cps_gLen h)
      · obtain ⟨v, δ, h1, h2⟩ := cps_gAppend h.2
        exact ⟨v, δ, ⟨h.1, h1⟩, h2⟩
      · exact cps_gCopy h
      · split at h
        · exact ⟨_, _, ⟨rfl, rfl⟩, h⟩
        · exact h.elim
      · split at h
        · exact ⟨_, _, ⟨rfl, rfl⟩, h⟩
        · exact h.elim
      · exact h.elim
    · exact h.elim
theorem mono_gop {o : Oper} {F : Nat → GV} {K K' : GV → Dl → Prop} (hk : ∀ v δ, K v δ → K' v δ) (h : gop P C A d o F G K) : gop P C A d o F G K' := by
  obtain ⟨dst, op, ty, pos, after, guard⟩ := o
  cases op <;> unfold gop at h ⊢ <;> dsimp only at h ⊢ <;> try exact h.elim
  case move x => exact hk _ _ h
  case assign x => exact hk _ _ h
  case pick c x y =>
    split at h
    case h_2 => exact h.elim
    exact ⟨fun e => hk _ _ (h.1 e), fun e => hk _ _ (h.2 e)⟩
  case alloc t =>
    split at h
    case h_2 => exact h.elim
    exact ⟨h.1, hk _ _ h.2⟩
  case box t x =>
    split at h
    case h_2 => exact h.elim
    by_cases hfz : dstIn A.frzAt dst = true
    · rw [if_pos hfz] at h ⊢
      split at h
      case h_2 => exact h.elim
      exact hk _ _ h
    · rw [if_neg hfz] at h ⊢
      exact ⟨h.1, hk _ _ h.2⟩
  case build => exact mono_gBuild (fun _ => hk _ _) h
  case buildSlice => exact mono_gBuildSlice hk h
  case makeSlice => exact mono_gMake hk h
  case load => exact ⟨h.1, h.2.1, mono_gLoad (fun _ => hk _ _) h.2.2⟩
  case store => exact ⟨h.1, mono_gStore (fun _ => hk _ _) h.2⟩
  case nilCheck x => (repeat' split at h) <;> first | exact h.elim | exact hk _ _ h
  case binOp => exact mono_gBin (fun _ => hk _ _) h
  case unOp => exact mono_gUn (fun _ => hk _ _) h
  case convert => exact mono_gConv (fun _ => hk _ _) h
  case makeFunc f first caps =>
    cases f <;> dsimp only at h ⊢ <;> try exact h.elim
    exact ⟨h.1, hk _ _ h.2⟩
  case slice => exact mono_gSlice (fun _ => hk _ _) h
  case fieldAddr => exact mono_gFieldAddr (fun _ => hk _ _) h
  case field => exact mono_gField (fun _ => hk _ _) h
  case indexAddr => exact mono_gIndexAddr (fun _ => hk _ _) h
  case index => exact mono_gIndex (fun _ => hk _ _) h
  case extract x k =>
    split at h
    case h_2 => exact h.elim
    split at h
    case h_2 => exact h.elim
    exact hk _ _ h
  case call c =>
    split at h
    · exact mono_gCall hk h
    · unfold gBuiltin at h ⊢
      split at h
      · exact mono_gLen (fun _ => hk _ _) h
      · exact ⟨h.1, mono_gAppend hk h.2⟩
      · exact mono_gCopy hk h
      · split at h
        · exact hk _ _ h
        · exact h.elim
      · split at h
        · exact hk _ _ h
        · exact h.elim
      · exact h.elim
    · exact h.elim
end
end Go.Eng
end
section
set_option linter.all false
namespace Go.Eng
def tgtV : GV → List Key
  | .bp κ _ => [κ]
  | .ap κ _ _ _ => [κ]
  | _ => []
def tgtD : GV → List Key
  | .tsl _ κ => [κ]
  | .arr κ _ _ => [κ]
  | _ => []
mutual
def keysV : GV → List Key
  | .bp κ _ => [κ]
  | .arr κ _ _ => [κ]
  | .asl κ _ _ _ _ => [κ]
  | .fn _ gs => keysVs gs
  | .agg gs => keysVs gs
  | _ => []
def keysVs : List GV → List Key
  | [] => []
  | g :: gs => keysV g ++ keysVs gs
end
def tgtS : GV → List Key
  | .arr κ _ _ => [κ]
  | .asl κ _ _ _ _ => [κ]
  | _ => []
def tgtC : List GV → List Key
  | [s, x] => tgtS s ++ tgtS x
  | _ => []
def tgtA : List GV → List Key
  | [s, x] => tgtD s ++ tgtS x
  | _ => []
def tgt (A : Ann) (o : Oper) (F : Nat → GV) : List Key :=
  match o.op with
  | .load _ a => tgtV (ge F a)
  | .store _ a _ => tgtV (ge F a)
  | .call c => match c.callee with
    | .builtin .append => tgtA (c.args.toList.map (ge F))
    | .builtin .copy => tgtC (c.args.toList.map (ge F))
    | .value f => if dstIn A.borAt o.dst then keysVs (ge F f :: c.args.toList.map (ge F)) else []
    | _ => []
  | _ => []
def rdO (A : Ann) (o : Oper) : Bool :=
  match o.op with
  | .load _ _ => true
  | .store _ _ _ => true
  | .call c => match c.callee with
    | .builtin .append => true
    | .builtin .copy => true
    | .value _ => dstIn A.borAt o.dst
    | _ => false
  | _ => false
def wrO (A : Ann) (o : Oper) : Bool :=
  match o.op with
  | .store _ _ _ => true
  | .call c => match c.callee with
    | .builtin .append => !dstIn A.pureAt o.dst
    | .builtin .copy => true
    | _ => false
  | _ => false
def boxOf (A : Ann) (o : Oper) : Option Nat :=
  match o.op with
  | .load _ (.tmp t) => A.boxAt t
  | .store _ (.tmp t) _ => A.boxAt t
  | .call c => match c.callee with
    | .builtin .append => (o.dst).bind fun j => A.boxAt (j + 1000000)
    | _ => none
  | _ => none
theorem tgt_nil {A : Ann} {o : Oper} (h : rdO A o = false) (F : Nat → GV) : tgt A o F = [] := by
  unfold rdO at h
  unfold tgt
  split at h <;> first | (cases h; done) | skip
  · split at h
    · cases h
    · cases h
    · rw [if_neg (by rw [h]; exact Bool.false_ne_true)]
    · rfl
  · rfl
theorem keysVs_app : ∀ (as bs : List GV), keysVs (as ++ bs) = keysVs as ++ keysVs bs
  | [], _ => rfl
  | a :: as, bs => by
    show keysVs (a :: (as ++ bs)) = _
    show keysV a ++ keysVs (as ++ bs) = (keysV a ++ keysVs as) ++ keysVs bs
    rw [keysVs_app as bs, List.append_assoc]
mutual
theorem wkB_live {G : Heap} {d : Nat} : ∀ (g r : GV), wkB G d g r → ∀ κ ∈ keysV g, get G κ ≠ none
  | .bp κ off, r, h, κ', hk => by
    unfold wkB at h
    simp [keysV] at hk
    subst hk
    obtain ⟨_, h⟩ := h
    intro e
    rw [e] at h
    exact h
  | .arr κ n sz, r, h, κ', hk => by
    unfold wkB at h
    simp [keysV] at hk
    subst hk
    obtain ⟨_, h⟩ := h
    intro e
    rw [e] at h
    exact h
  | .asl κ m lo hi sz, r, h, κ', hk => by
    unfold wkB at h
    simp [keysV] at hk
    subst hk
    obtain ⟨_, h⟩ := h
    intro e
    rw [e] at h
    exact h
  | .fn f gs, r, h, κ', hk => by
    unfold wkB at h
    unfold keysV at hk
    obtain ⟨rs, _, h⟩ := h
    exact wkBs_live gs rs h κ' hk
  | .agg gs, r, h, κ', hk => by
    unfold wkB at h
    unfold keysV at hk
    obtain ⟨rs, _, h⟩ := h
    exact wkBs_live gs rs h κ' hk
  | .undef, _, _, _, hk => by simp [keysV] at hk
  | .p _, _, _, _, hk => by simp [keysV] at hk
  | .csl _, _, _, _, hk => by simp [keysV] at hk
  | .tsl _ _, _, _, _, hk => by simp [keysV] at hk
  | .own _ _, _, _, _, hk => by simp [keysV] at hk
  | .obx _, _, _, _, hk => by simp [keysV] at hk
  | .oar _ _, _, _, _, hk => by simp [keysV] at hk
  | .ep _ _, _, _, _, hk => by simp [keysV] at hk
  | .ap _ _ _ _, _, _, _, hk => by simp [keysV] at hk
  | .tup _, _, _, _, hk => by simp [keysV] at hk
theorem wkBs_live {G : Heap} {d : Nat} : ∀ (gs rs : List GV), wkBs G d gs rs → ∀ κ ∈ keysVs gs, get G κ ≠ none
  | [], _, _, _, hk => by simp [keysVs] at hk
  | g :: gs, rs, h, κ, hk => by
    unfold wkBs at h
    unfold keysVs at hk
    obtain ⟨r, rs', rfl, h1, h2⟩ := h
    rcases List.mem_append.1 hk with hk | hk
    · exact wkB_live g r h1 κ hk
    · exact wkBs_live gs rs' h2 κ hk
end
mutual
theorem wkB_congr {G G' : Heap} {d : Nat} : ∀ (g r : GV), (∀ κ ∈ keysV g, get G' κ = get G κ) → wkB G d g r → wkB G' d g r
  | .bp κ off, r, hg, h => by
    unfold wkB at h ⊢
    rw [hg κ (by simp [keysV])]; exact h
  | .arr κ n sz, r, hg, h => by
    unfold wkB at h ⊢
    rw [hg κ (by simp [keysV])]; exact h
  | .asl κ m lo hi sz, r, hg, h => by
    unfold wkB at h ⊢
    rw [hg κ (by simp [keysV])]; exact h
  | .fn f gs, r, hg, h => by
    unfold wkB at h ⊢
    obtain ⟨rs, h1, h⟩ := h
    exact ⟨rs, h1, wkBs_congr gs rs (by unfold keysV at hg; exact hg) h⟩
  | .agg gs, r, hg, h => by
    unfold wkB at h ⊢
    obtain ⟨rs, h1, h⟩ := h
    exact ⟨rs, h1, wkBs_congr gs rs (by unfold keysV at hg; exact hg) h⟩
  | .undef, _, _, h => by unfold wkB at h ⊢; exact h
  | .p _, _, _, h => by unfold wkB at h ⊢; exact h
  | .csl _, _, _, h => by unfold wkB at h ⊢; exact h
  | .tsl _ _, _, _, h => by unfold wkB at h ⊢; exact h
  | .own _ _, _, _, h => by unfold wkB at h ⊢; exact h
  | .obx _, _, _, h => by unfold wkB at h ⊢; exact h
  | .oar _ _, _, _, h => by unfold wkB at h ⊢; exact h
  | .ep _ _, _, _, h => by unfold wkB at h ⊢; exact h
  | .ap _ _ _ _, _, _, h => by unfold wkB at h ⊢; exact h
  | .tup _, _, _, h => by unfold wkB at h ⊢; exact h
theorem wkBs_congr {G G' : Heap} {d : Nat} : ∀ (gs rs : List GV), (∀ κ ∈ keysVs gs, get G' κ = get G κ) → wkBs G d gs rs → wkBs G' d gs rs
  | [], _, _, h => by unfold wkBs at h ⊢; exact h
  | g :: gs, rs, hg, h => by
    unfold wkBs at h ⊢
    unfold keysVs at hg
    obtain ⟨r, rs', h1, h2, h3⟩ := h
    exact ⟨r, rs', h1, wkB_congr g r (fun κ hk => hg κ (List.mem_append_left _ hk)) h2, wkBs_congr gs rs' (fun κ hk => hg κ (List.mem_append_right _ hk)) h3⟩
end
def Shape (A : Ann) (d : Nat) (G : Heap) (T : List Key) (o : Oper) : Dl → Prop
  | .nop => True
  | .fill _ => free G d o.dst
  | .set κ _ => κ ∈ T ∧ get G κ ≠ none ∧ wrO A o = true
  | .heap _ _ => False
  | .heap0 _ => False
section
variable {P : Program} {C : CR} {A : Ann} {d : Nat} {G G' : Heap}
theorem gLoad_live {t : TypeId} {a : GV} {K : GV → Prop} (h : gLoad P G t a K) : ∀ κ ∈ tgtV a, get G κ ≠ none := by
  unfold gLoad at h
  intro κ hk
  (repeat' split at h) <;> first | exact h.elim | (simp only [tgtV, List.mem_singleton, List.not_mem_nil] at hk; subst hk; simp_all; done) | (simp [tgtV] at hk)
theorem gStore_live {t : TypeId} {a v : GV} {K : Dl → Prop} (h : gStore P G t a v K) : ∀ κ ∈ tgtV a, get G κ ≠ none := by
  unfold gStore at h
  intro κ hk
  (repeat' split at h) <;> first | exact h.elim | exact h.2.elim | (simp only [tgtV, List.mem_singleton, List.not_mem_nil] at hk; subst hk; simp_all; done)
theorem srcOf_live {t : TypeId} {n : Nat} {x : GV} {xs : List (List PV)} (h : srcOf P G t n x = some xs) : ∀ κ ∈ tgtS x, get G κ ≠ none := by
  intro κ hk
  cases x <;> simp [tgtS] at hk
  all_goals
    subst hk
    unfold srcOf at h
    dsimp only at h
    split at h
    · split at h
      · simp_all
      · cases h
    · cases h
theorem srcOf_congr {t : TypeId} {n : Nat} {x : GV} (h : ∀ κ ∈ tgtS x, get G' κ = get G κ) : srcOf P G' t n x = srcOf P G t n x := by
  cases x <;> unfold srcOf
  case p v => cases v <;> rfl
  case arr => dsimp only; rw [h _ (by simp [tgtS])]
  case asl => dsimp only; rw [h _ (by simp [tgtS])]
  all_goals rfl
theorem gAppend_live {t tx : TypeId} {s x : GV} {dst : Option Nat} {K : GV → Dl → Prop} (h : gAppend P A d G t tx s x dst K) : ∀ κ ∈ tgtA [s, x], get G κ ≠ none := by
  unfold gAppend at h
  intro κ hk
  unfold tgtA at hk
  split at h
  case h_2 => exact h.elim
  split at h
  case h_1 => exact h.elim
  rename_i xs hxs
  rcases List.mem_append.1 hk with hk | hk
  · split at h
    · simp [tgtD] at hk
    · simp only [tgtD, List.mem_singleton] at hk
      subst hk
      rw [h.2.2.2.2.1]; simp
    · simp only [tgtD, List.mem_singleton] at hk
      subst hk
      have h2 := h.2
      split at h2
      · rename_i hg; rw [hg]; simp
      · exact h2.elim
    · exact h.elim
  · exact srcOf_live hxs κ hk
theorem partOf_tgt {s : GV} {κ : Key} {m lo hi sz : Nat} (h : partOf s = some (κ, m, lo, hi, sz)) : tgtS s = [κ] := by
  cases s <;> simp [partOf] at h <;> simp [tgtS, h.1]
theorem gCopy_live {t tx : TypeId} {s x : GV} {K : GV → Dl → Prop} (h : gCopy P G t tx s x K) : ∀ κ ∈ tgtC [s, x], get G κ ≠ none := by
  unfold gCopy at h
  intro κ hk
  unfold tgtC at hk
  split at h
  case h_2 => exact h.elim
  rename_i hp
  split at h
  case h_2 => exact h.elim
  rename_i hxs hg
  rcases List.mem_append.1 hk with hk | hk
  · rw [partOf_tgt hp] at hk
    simp at hk
    subst hk
    rw [hg]; simp
  · exact srcOf_live hxs κ hk
theorem gCopy_congr {t tx : TypeId} {s x : GV} {K : GV → Dl → Prop} (hg : ∀ κ ∈ tgtC [s, x], get G' κ = get G κ) (h : gCopy P G t tx s x K) : gCopy P G' t tx s x K := by
  unfold gCopy at h ⊢
  split at h
  case h_2 => exact h.elim
  rename_i hp
  rw [srcOf_congr (G := G) (G' := G') (fun κ hk => hg κ (by unfold tgtC; exact List.mem_append.2 (.inr hk))), hg _ (by show _ ∈ tgtS s ++ tgtS x; rw [partOf_tgt hp]; simp)]
  exact h
theorem gop_live {o : Oper} {F : Nat → GV} {K : GV → Dl → Prop} (h : gop P C A d o F G K) : ∀ κ ∈ tgt A o F, get G κ ≠ none := by
  obtain ⟨dst, op, ty, pos, after, guard⟩ := o
  intro κ hk
  unfold tgt at hk
  cases op <;> dsimp only at hk <;> first | (cases hk; done) | skip
  case load t a => unfold gop at h; exact gLoad_live h.2.2 κ hk
  case store t a v => unfold gop at h; exact gStore_live h.2 κ hk
  case call c =>
    split at hk
    · rename_i hc
      unfold gop at h
      dsimp only at h
      rw [hc] at h
      dsimp only at h
      unfold gBuiltin at h
      split at h
      case h_2 => rename_i hxs; rw [hxs] at hk; exact gAppend_live h.2 κ hk
      case h_1 => rename_i hb _ _; cases hb
      case h_3 => rename_i hb _ _; cases hb
      case h_4 => rename_i hb; cases hb
      case h_5 => rename_i hb; cases hb
      case h_6 => exact h.elim
    · rename_i hc
      unfold gop at h
      dsimp only at h
      rw [hc] at h
      dsimp only at h
      unfold gBuiltin at h
      split at h
      case h_3 => rename_i hxs; rw [hxs] at hk; exact gCopy_live h κ hk
      case h_1 => rename_i hb _ _; cases hb
      case h_2 => rename_i hb _ _; cases hb
      case h_4 => rename_i hb; cases hb
      case h_5 => rename_i hb; cases hb
      case h_6 => exact h.elim
    · rename_i f hc
      split at hk
      case isFalse => cases hk
      rename_i hb
      unfold gop at h
      dsimp only at h
      rw [hc] at h
      dsimp only at h
      unfold gCall at h
      split at h
      case h_2 => exact h.elim
      rename_i n caps hf
      rw [if_pos hb] at h
      obtain ⟨as, hw, _⟩ := h
      refine wkBs_live _ _ hw κ ?_
      rw [keysVs_app]
      unfold keysVs at hk
      rw [hf] at hk
      rcases List.mem_append.1 hk with hk | hk
      · exact List.mem_append_right _ (by unfold keysV at hk; exact hk)
      · exact List.mem_append_left _ hk
    · cases hk
theorem gLoad_congr {t : TypeId} {a : GV} {K : GV → Prop} (hg : ∀ κ ∈ tgtV a, get G' κ = get G κ) (h : gLoad P G t a K) : gLoad P G' t a K := by
  cases a
  case p v => cases v <;> exact h
  case bp κ off => unfold gLoad at h ⊢; dsimp only at h ⊢; rw [hg _ (by simp [tgtV])]; exact h
  case ap κ n i off => unfold gLoad at h ⊢; dsimp only at h ⊢; rw [hg _ (by simp [tgtV])]; exact h
  all_goals exact h
theorem gStore_congr {t : TypeId} {a v : GV} {K : Dl → Prop} (hg : ∀ κ ∈ tgtV a, get G' κ = get G κ) (h : gStore P G t a v K) : gStore P G' t a v K := by
  unfold gStore at h ⊢
  split at h
  case h_2 => exact h.elim
  refine ⟨h.1, ?_⟩
  have h2 := h.2
  cases a <;> dsimp only at h2 ⊢ <;> try exact h2
  · rw [hg _ (by simp [tgtV])]; exact h2
  · rw [hg _ (by simp [tgtV])]; exact h2
theorem gAppend_congr {t tx : TypeId} {s x : GV} {dst : Option Nat} {K : GV → Dl → Prop} (ho : dstIn A.openAt dst = false) (hg : ∀ κ ∈ tgtA [s, x], get G' κ = get G κ) (hf : free G d dst → free G' d dst) (h : gAppend P A d G t tx s x dst K) : gAppend P A d G' t tx s x dst K := by
  unfold gAppend at h ⊢
  split at h
  case h_2 => exact h.elim
  rw [srcOf_congr (G := G) (G' := G') (fun κ hk => hg κ (by unfold tgtA; exact List.mem_append.2 (.inr hk)))]
  split at h
  case h_1 => exact h.elim
  rename_i xs _
  cases s <;> dsimp only at h ⊢ <;> try exact h.elim
  · by_cases hp : dstIn A.pureAt dst = true
    · rw [if_pos hp] at h ⊢; exact h
    · rw [if_neg hp] at h ⊢
      by_cases hemp : xs.isEmpty = true
      · rw [if_pos hemp] at h ⊢
        exact h
      rw [if_neg hemp] at h ⊢
      simp only [ho, Bool.false_eq_true, if_false] at h ⊢
      by_cases ha : dstIn A.arrAt dst = true
      · rw [if_pos ha] at h ⊢
        exact ⟨h.1, h.2.1, h.2.2.1, hf h.2.2.2.1, h.2.2.2.2⟩
      · rw [if_neg ha] at h ⊢
        exact ⟨h.1, h.2.1, h.2.2.1, hf h.2.2.2.1, h.2.2.2.2⟩
  · exact ⟨h.1, h.2.1, h.2.2.1, h.2.2.2.1, by rw [hg _ (by simp [tgtA, tgtD])]; exact h.2.2.2.2.1, h.2.2.2.2.2⟩
  · rw [hg _ (by simp [tgtA, tgtD])]; exact h
theorem gop_congrG {o : Oper} {F : Nat → GV} {K : GV → Dl → Prop} (ho : dstIn A.openAt o.dst = false) (hg : ∀ κ ∈ tgt A o F, get G' κ = get G κ) (hf : free G d o.dst → free G' d o.dst) (h : gop P C A d o F G K) : gop P C A d o F G' K := by
  obtain ⟨dst, op, ty, pos, after, guard⟩ := o
  unfold tgt at hg
  cases op <;> unfold gop at h ⊢ <;> dsimp only at h hg ho hf ⊢ <;> try exact h
  case alloc t =>
    split at h
    case h_2 => exact h.elim
    exact ⟨hf h.1, h.2⟩
  case box t x =>
    split at h
    case h_2 => exact h.elim
    by_cases hfz : dstIn A.frzAt dst = true
    · rw [if_pos hfz] at h ⊢; exact h
    · rw [if_neg hfz] at h ⊢; exact ⟨hf h.1, h.2⟩
  case buildSlice t n ps =>
    unfold gBuildSlice at h ⊢
    split at h
    case h_2 => exact h.elim
    split at h
    case h_2 => exact h.elim
    refine ⟨h.1, h.2.1, ?_⟩
    have h2 := h.2.2
    by_cases hc : dstIn A.arrAt dst = true
    · rw [if_pos hc] at h2 ⊢; exact ⟨hf h2.1, h2.2⟩
    · rw [if_neg hc] at h2 ⊢; exact h2
  case makeFunc f first caps => cases f <;> dsimp only at h ⊢ <;> exact h
  case makeSlice t l c =>
    unfold gMake at h ⊢
    split at h
    case h_2 => exact h.elim
    split at h
    case h_2 => exact h.elim
    exact ⟨h.1, h.2.1, h.2.2.1, h.2.2.2.1, h.2.2.2.2.1, hf h.2.2.2.2.2.1, h.2.2.2.2.2.2⟩
  case load t a => exact ⟨h.1, h.2.1, gLoad_congr hg h.2.2⟩
  case store t a v => exact ⟨h.1, gStore_congr hg h.2⟩
  case call c =>
    split at h
    · rename_i f hc
      rw [hc] at hg
      dsimp only at hg
      unfold gCall at h ⊢
      split at h
      case h_2 => exact h.elim
      rename_i n caps hfn
      by_cases hb : dstIn A.borAt dst = true
      · rw [if_pos hb] at h ⊢
        rw [if_pos hb] at hg
        obtain ⟨as, hw, h⟩ := h
        refine ⟨as, wkBs_congr _ _ (fun κ hk => hg κ ?_) hw, h⟩
        rw [keysVs_app] at hk
        unfold keysVs
        rw [hfn]
        rcases List.mem_append.1 hk with hk | hk
        · exact List.mem_append_right _ hk
        · exact List.mem_append_left _ (by unfold keysV; exact hk)
      rw [if_neg hb] at h ⊢
      rw [ho] at h ⊢
      simp only [Bool.false_eq_true, if_false] at h ⊢
      obtain ⟨as, hw, h0, r, h1, h⟩ := h
      refine ⟨as, hw, h0, r, h1, ?_⟩
      split at h
      · rename_i hz; rw [if_pos hz]; exact h
      · rename_i hz; rw [if_neg hz]; exact ⟨hf h.1, h.2⟩
    · rename_i b hc
      unfold gBuiltin at h ⊢
      split at h <;> try exact h
      · rename_i hxs
        refine ⟨h.1, ?_⟩
        replace h := h.2
        exact gAppend_congr ho (fun κ hk => hg κ (by rw [hc]; dsimp only; rw [hxs]; exact hk)) hf h
      · rename_i hxs
        exact gCopy_congr (fun κ hk => hg κ (by rw [hc]; dsimp only; rw [hxs]; exact hk)) h
    · exact h.elim
theorem gop_shape {o : Oper} {F : Nat → GV} {K : GV → Dl → Prop} (ho : dstIn A.openAt o.dst = false) (h : gop P C A d o F G K) : gop P C A d o F G (fun v δ => K v δ ∧ Shape A d G (tgt A o F) o δ) := by
  obtain ⟨dst, op, ty, pos, after, guard⟩ := o
  cases op <;> unfold gop at h ⊢ <;> dsimp only at h ho ⊢ <;> try exact h.elim
  case move x => exact ⟨h, trivial⟩
  case assign x => exact ⟨h, trivial⟩
  case pick c x y =>
    split at h
    case h_2 => exact h.elim
    exact ⟨fun e => ⟨h.1 e, trivial⟩, fun e => ⟨h.2 e, trivial⟩⟩
  case alloc t =>
    split at h
    case h_2 => exact h.elim
    exact ⟨h.1, h.2, h.1⟩
  case box t x =>
    split at h
    case h_2 => exact h.elim
    by_cases hfz : dstIn A.frzAt dst = true
    · rw [if_pos hfz] at h ⊢
      split at h
      case h_2 => exact h.elim
      exact ⟨h, trivial⟩
    · rw [if_neg hfz] at h ⊢; exact ⟨h.1, h.2, h.1⟩
  case build => exact mono_gBuild (fun _ h => ⟨h, trivial⟩) h
  case buildSlice =>
    unfold gBuildSlice at h ⊢
    split at h
    case h_2 => exact h.elim
    split at h
    case h_2 => exact h.elim
    refine ⟨h.1, h.2.1, ?_⟩
    have h2 := h.2.2
    by_cases hc : dstIn A.arrAt dst = true
    · rw [if_pos hc] at h2 ⊢; exact ⟨h2.1, h2.2, h2.1⟩
    · rw [if_neg hc] at h2 ⊢; exact ⟨h2, trivial⟩
  case makeSlice =>
    unfold gMake at h ⊢
    split at h
    case h_2 => exact h.elim
    split at h
    case h_2 => exact h.elim
    exact ⟨h.1, h.2.1, h.2.2.1, h.2.2.2.1, h.2.2.2.2.1, h.2.2.2.2.2.1, h.2.2.2.2.2.2, h.2.2.2.2.2.1⟩
  case load => exact ⟨h.1, h.2.1, mono_gLoad (fun _ h => ⟨h, trivial⟩) h.2.2⟩
  case store t a v =>
    refine ⟨h.1, ?_⟩
    replace h := h.2
    have hl := gStore_live h
    unfold tgt
    dsimp only
    generalize ge F a = ga at h hl ⊢
    generalize ge F v = gv at h ⊢
    unfold gStore at h ⊢
    split at h
    case h_2 => exact h.elim
    refine ⟨h.1, ?_⟩
    have h2 := h.2
    split at h2
    · split at h2
      · exact ⟨h2.1, h2.2.1, h2.2.2, by simp [tgtV], hl _ (by simp [tgtV]), rfl⟩
      · exact h2.elim
    · split at h2
      · split at h2
        · exact ⟨h2.1, h2.2.1, h2.2.2, by simp [tgtV], hl _ (by simp [tgtV]), rfl⟩
        · exact h2.2.elim
      · exact h2.elim
    · exact h2.elim
  case nilCheck x => (repeat' split at h) <;> first | exact h.elim | exact ⟨h, trivial⟩
  case binOp => exact mono_gBin (fun _ h => ⟨h, trivial⟩) h
  case unOp => exact mono_gUn (fun _ h => ⟨h, trivial⟩) h
  case convert => exact mono_gConv (fun _ h => ⟨h, trivial⟩) h
  case makeFunc f first caps =>
    cases f <;> dsimp only at h ⊢ <;> try exact h.elim
    exact ⟨h.1, h.2, trivial⟩
  case slice => exact mono_gSlice (fun _ h => ⟨h, trivial⟩) h
  case fieldAddr => exact mono_gFieldAddr (fun _ h => ⟨h, trivial⟩) h
  case field => exact mono_gField (fun _ h => ⟨h, trivial⟩) h
  case indexAddr => exact mono_gIndexAddr (fun _ h => ⟨h, trivial⟩) h
  case index => exact mono_gIndex (fun _ h => ⟨h, trivial⟩) h
  case extract x k =>
    split at h
    case h_2 => exact h.elim
    split at h
    case h_2 => exact h.elim
    exact ⟨h, trivial⟩
  case call c =>
    split at h
    · unfold gCall at h ⊢
      split at h
      case h_2 => exact h.elim
      by_cases hb : dstIn A.borAt dst = true
      · rw [if_pos hb] at h ⊢
        obtain ⟨as, hw, hcl, r, h1, h2, h3⟩ := h
        exact ⟨as, hw, hcl, r, h1, h2, h3, trivial⟩
      rw [if_neg hb] at h ⊢
      rw [ho] at h ⊢
      simp only [Bool.false_eq_true, if_false] at h ⊢
      obtain ⟨as, hw, h0, r, h1, h⟩ := h
      refine ⟨as, hw, h0, r, h1, ?_⟩
      split at h
      · rename_i hz; rw [if_pos hz]; exact ⟨h, trivial⟩
      · rename_i hz; rw [if_neg hz]; exact ⟨h.1, h.2, h.1⟩
    · rename_i b hc
      unfold gBuiltin at h ⊢
      split at h
      · exact mono_gLen (fun _ h => ⟨h, trivial⟩) h
      · refine ⟨h.1, ?_⟩
        replace h := h.2
        have hl := gAppend_live h
        unfold gAppend at h ⊢
        split at h
        case h_2 => exact h.elim
        split at h
        case h_1 => exact h.elim
        rename_i xs _
        split at h
        · have h2 := h.2.2.2
          refine ⟨h.1, h.2.1, h.2.2.1, ?_⟩
          by_cases hp : dstIn A.pureAt dst = true
          · rw [if_pos hp] at h2 ⊢; exact ⟨h2, trivial⟩
          · rw [if_neg hp] at h2 ⊢
            by_cases hemp : xs.isEmpty = true
            · rw [if_pos hemp] at h2 ⊢; exact ⟨h2, trivial⟩
            rw [if_neg hemp] at h2 ⊢
            simp only [ho, Bool.false_eq_true, if_false] at h2 ⊢
            by_cases ha : dstIn A.arrAt dst = true
            · rw [if_pos ha] at h2 ⊢; exact ⟨h2.1, h2.2, h2.1⟩
            · rw [if_neg ha] at h2 ⊢; exact ⟨h2.1, h2.2, h2.1⟩
        · exact ⟨h.1, h.2.1, h.2.2.1, h.2.2.2.1, h.2.2.2.2.1, h.2.2.2.2.2, by simp only [tgt, hc, *]; simp [tgtA, tgtD], hl _ (by simp [tgtA, tgtD]), by simp [wrO, hc, h.1]⟩
        · have h2 := h.2
          refine ⟨h.1, ?_⟩
          split at h2
          · exact ⟨h2.1, h2.2.1, h2.2.2.1, h2.2.2.2.1, h2.2.2.2.2, by simp only [tgt, hc, *]; simp [tgtA, tgtD], hl _ (by simp [tgtA, tgtD]), by simp [wrO, hc, h.1]⟩
          · exact h2.elim
        · exact h.elim
      · have hl := gCopy_live h
        rename_i hxs
        unfold gCopy at h ⊢
        split at h
        case h_2 => exact h.elim
        rename_i hp
        split at h
        case h_2 => exact h.elim
        have hm := partOf_tgt hp
        exact ⟨h.1, h.2.1, h.2.2.1, h.2.2.2.1, h.2.2.2.2, by simp only [tgt, hc, hxs]; simp [tgtC, hm], hl _ (by simp [tgtC, hm]), by simp [wrO, hc]⟩
      · split at h
        · exact ⟨h, trivial⟩
        · exact h.elim
      · split at h
        · exact ⟨h, trivial⟩
        · exact h.elim
      · exact h.elim
    · exact h.elim
theorem boxed {o : Oper} {F : Nat → GV} {K : GV → Dl → Prop} {k : Nat} (hb : boxOf A o = some k) (h : gop P C A d o F G K) : ∀ κ ∈ tgt A o F, κ.1 = d ∧ κ.2.1 = k := by
  obtain ⟨dst, op, ty, pos, after, guard⟩ := o
  unfold boxOf at hb
  unfold tgt
  cases op <;> dsimp only at hb ⊢ <;> try (cases hb; done)
  case load t a =>
    cases a <;> dsimp only at hb <;> try (cases hb; done)
    rename_i x
    unfold gop at h
    obtain ⟨h, _⟩ := h
    unfold boxC at h
    dsimp only at h
    rw [hb] at h
    dsimp only at h
    intro κ hk
    generalize ge F (.tmp x) = g at h hk
    cases g <;> simp only [tgtV, List.mem_singleton, List.not_mem_nil] at hk
    · subst hk; exact h
    · exact h.elim
  case call c =>
    split at hb
    case h_2 => cases hb
    rename_i hc
    rw [hc]
    dsimp only
    unfold gop at h
    dsimp only at h
    rw [hc] at h
    dsimp only at h
    unfold gBuiltin at h
    split at h
    case h_1 => rename_i hb2 _ _; cases hb2
    case h_3 => rename_i hb2 _ _; cases hb2
    case h_4 => rename_i hb2; cases hb2
    case h_5 => rename_i hb2; cases hb2
    case h_6 => exact h.elim
    rename_i s y _ _ hxs
    rw [hxs]
    obtain ⟨h, _⟩ := h
    unfold appC at h
    cases dst with
    | none => cases hb
    | some j =>
      simp only [Option.bind_some] at hb
      dsimp only at h
      rw [hb] at h
      dsimp only at h
      intro κ hk
      unfold tgtA at hk
      rcases List.mem_append.1 hk with hk | hk
      · cases s <;> unfold appG at h <;> simp [tgtD] at hk
        · subst hk; exact ⟨h.1, h.2.1⟩
        · subst hk; exact ⟨h.1, h.2.1⟩
      · cases y <;> simp [tgtS] at hk
        all_goals (cases s <;> unfold appG at h <;> simp at h)
  case store t a v =>
    cases a <;> dsimp only at hb <;> try (cases hb; done)
    rename_i x
    unfold gop at h
    obtain ⟨h, _⟩ := h
    unfold boxC at h
    dsimp only at h
    rw [hb] at h
    dsimp only at h
    intro κ hk
    generalize ge F (.tmp x) = g at h hk
    cases g <;> simp only [tgtV, List.mem_singleton, List.not_mem_nil] at hk
    · subst hk; exact h
    · exact h.elim
end
end Go.Eng
end
section
set_option linter.all false
namespace Go.Eng
section
variable {P : Program} {C : CR} {A : Ann} {d : Nat} {G G' : Heap}
theorem gop_congrF {o : Oper} {F F' : Nat → GV} {K : GV → Dl → Prop} (he : ∀ x ∈ o.op.operands, ge F' x = ge F x) (h : gop P C A d o F G K) : gop P C A d o F' G K := by
  obtain ⟨dst, op, ty, pos, after, guard⟩ := o
  have pairs : ∀ ps : Array (Nat × Operand), (∀ x ∈ (ps.toList.map (·.2)).toArray, ge F' x = ge F x) → (ps.toList.map fun q => (q.1, ge F' q.2)) = ps.toList.map fun q => (q.1, ge F q.2) := fun ps hp =>
    List.map_congr_left fun p hm => by rw [hp p.2 (by simp only [List.mem_toArray, List.mem_map]; exact ⟨p, hm, rfl⟩)]
  have opt : ∀ o : Option Operand, (∀ x ∈ o.toArray, ge F' x = ge F x) → o.map (ge F') = o.map (ge F) := fun o ho => by
    cases o with
    | none => rfl
    | some x => simp only [Option.map_some]; rw [ho x (by simp)]
  unfold gop at h ⊢
  cases op <;> simp only [Op.operands] at he <;> dsimp only at h ⊢ <;> try exact h
  case makeFunc f first caps =>
    cases f <;> dsimp only at h ⊢ <;> try exact h
    have e : caps.toList.map (ge F') = caps.toList.map (ge F) := List.map_congr_left fun x hx => he x (Array.mem_append.2 (.inr (Array.mem_toList_iff.1 hx)))
    rw [e]; exact h
  case build t ps => rw [pairs ps he]; exact h
  case buildSlice t n ps => rw [pairs ps he]; exact h
  case makeSlice t l c => rw [he l (by simp), he c (by simp)]; exact h
  case slice t x lo hi mx =>
    rw [he x (by simp), opt lo (fun y hy => he y (by simp only [Array.mem_append]; simp [hy])), opt hi (fun y hy => he y (by simp only [Array.mem_append]; simp [hy])), opt mx (fun y hy => he y (by simp only [Array.mem_append]; simp [hy]))]
    exact h
  case call c =>
    have e : c.args.toList.map (ge F') = c.args.toList.map (ge F) := List.map_congr_left fun x hx => he x (by unfold Call.operands; exact Array.mem_append.2 (.inr (Array.mem_toList_iff.1 hx)))
    rw [e]
    split at h
    · rename_i f hc
      rw [he f (by simp [Call.operands, hc])]; exact h
    · exact h
    · exact h.elim
  case pick c x y => rw [he c (by simp), he x (by simp), he y (by simp)]; exact h
  case store t x y => rw [he x (by simp), he y (by simp)]; exact h
  case binOp op t x y ty' => rw [he x (by simp), he y (by simp)]; exact h
  case indexAddr t x y => rw [he x (by simp), he y (by simp)]; exact h
  case index t x y => rw [he x (by simp), he y (by simp)]; exact h
  all_goals (rw [he _ (by simp)]; exact h)
theorem tgt_congr {o : Oper} {F F' : Nat → GV} (he : ∀ x ∈ o.op.operands, ge F' x = ge F x) : tgt A o F' = tgt A o F := by
  obtain ⟨dst, op, ty, pos, after, guard⟩ := o
  unfold tgt
  cases op <;> simp only [Op.operands] at he <;> dsimp only
  case load t a => rw [he a (by simp)]
  case store t a v => rw [he a (by simp)]
  case call c =>
    have e : c.args.toList.map (ge F') = c.args.toList.map (ge F) := List.map_congr_left fun x hx => he x (by unfold Call.operands; exact Array.mem_append.2 (.inr (Array.mem_toList_iff.1 hx)))
    rw [e]
    split
    · rfl
    · rfl
    · rename_i f hc
      rw [he f (by simp [Call.operands, hc])]
    · rfl
def gop1v (P : Program) (C : CR) (A : Ann) (d : Nat) (all : Array Oper) (o : Oper) (F : Nat → GV) (G : Heap) (K : GV → Dl → Prop) : Prop :=
  match o.guard with
  | none => gop P C A d o F G K
  | some (j, want) => match (all[j]?).bind (·.dst) with
    | some t => match F t with
      | .p (.bool b) => (b = want → gop P C A d o F G K) ∧ (b = (!want) → K (.tup []) .nop)
      | .tup [] => K (.tup []) .nop
      | _ => False
    | none => False
theorem gop1_eq {all : Array Oper} {o : Oper} {K : St → Prop} {s : St} : gop1 P C A d all o K s ↔ gop1v P C A d all o s.F s.G (fun v δ => K ⟨put s.F o.dst v, appD s.G d o.dst δ⟩) := by
  unfold gop1 gop1v
  cases o.guard with
  | none => rfl
  | some g =>
    obtain ⟨j, want⟩ := g
    rfl
theorem cps_gop1v {all : Array Oper} {o : Oper} {F : Nat → GV} {K : GV → Dl → Prop} (h : gop1v P C A d all o F G K) : ∃ v δ, gop1v P C A d all o F G (fun v' δ' => v' = v ∧ δ' = δ) ∧ K v δ := by
  unfold gop1v at h ⊢
  cases hgd : o.guard with
  | none => rw [hgd] at h; exact cps_gop h
  | some g =>
    obtain ⟨j, want⟩ := g
    rw [hgd] at h
    dsimp only at h ⊢
    cases ht : (all[j]?).bind (·.dst) with
    | none => rw [ht] at h; exact h.elim
    | some t =>
    rw [ht] at h
    dsimp only at h ⊢
    split at h
    case h_3 => exact h.elim
    case h_2 => exact ⟨_, _, ⟨rfl, rfl⟩, h⟩
    rename_i b hb
    by_cases e : b = want
    · obtain ⟨v, δ, h1, h2⟩ := cps_gop (h.1 e)
      exact ⟨v, δ, ⟨fun _ => h1, fun e' => absurd (e.symm.trans e') (by cases want <;> simp)⟩, h2⟩
    · have e' : b = !want := by cases b <;> cases want <;> simp_all
      exact ⟨_, _, ⟨fun e2 => absurd e2 e, fun _ => ⟨rfl, rfl⟩⟩, h.2 e'⟩
theorem mono_gop1v {all : Array Oper} {o : Oper} {F : Nat → GV} {K K' : GV → Dl → Prop} (hk : ∀ v δ, K v δ → K' v δ) (h : gop1v P C A d all o F G K) : gop1v P C A d all o F G K' := by
  unfold gop1v at h ⊢
  split at h
  · exact mono_gop hk h
  · split at h
    case h_2 => exact h.elim
    split at h
    case h_3 => exact h.elim
    case h_2 => exact hk _ _ h
    exact ⟨fun e => mono_gop hk (h.1 e), fun e => hk _ _ (h.2 e)⟩
theorem gop1v_shape {all : Array Oper} {o : Oper} {F : Nat → GV} {K : GV → Dl → Prop} (ho : dstIn A.openAt o.dst = false) (h : gop1v P C A d all o F G K) : gop1v P C A d all o F G (fun v δ => K v δ ∧ Shape A d G (tgt A o F) o δ) := by
  unfold gop1v at h ⊢
  split at h
  · exact gop_shape ho h
  · split at h
    case h_2 => exact h.elim
    split at h
    case h_3 => exact h.elim
    case h_2 => exact ⟨h, trivial⟩
    exact ⟨fun e => gop_shape ho (h.1 e), fun e => ⟨h.2 e, trivial⟩⟩
theorem gop1v_congr {all : Array Oper} {o : Oper} {F F' : Nat → GV} {K : GV → Dl → Prop} (ho : dstIn A.openAt o.dst = false) (hF : ∀ t, t ∈ o.looksAt all → F' t = F t)
    (hg : (gop P C A d o F G fun _ _ => True) → ∀ κ ∈ tgt A o F, get G' κ = get G κ) (hf : free G d o.dst → free G' d o.dst) (h : gop1v P C A d all o F G K) : gop1v P C A d all o F' G' K := by
  have he : ∀ x ∈ o.op.operands, ge F' x = ge F x := fun x hx => by
    cases x with
    | tmp t => exact hF t (List.mem_append_left _ (List.mem_filterMap.2 ⟨.tmp t, by simpa using hx, rfl⟩))
    | _ => rfl
  have main : ∀ {K : GV → Dl → Prop}, gop P C A d o F G K → gop P C A d o F' G' K := fun h => gop_congrF he (gop_congrG ho (hg (mono_gop (fun _ _ _ => trivial) h)) hf h)
  unfold gop1v at h ⊢
  split at h
  · exact main h
  · rename_i j want hgd
    split at h
    case h_2 => exact h.elim
    rename_i t ht
    have hFt : F' t = F t := hF t (List.mem_append_right _ (by simp [hgd, ht]))
    rw [hFt]
    split at h
    case h_3 => exact h.elim
    case h_2 => exact h
    exact ⟨fun e => main (h.1 e), h.2⟩
theorem wr_rd {o : Oper} (h : wrO A o = true) : rdO A o = true := by
  unfold wrO at h
  unfold rdO
  split at h
  · rename_i e; rw [e]
  · rename_i e
    rw [e]
    dsimp only
    split at h
    · rename_i e2; rw [e2]
    · rename_i e2; rw [e2]
    · cases h
  · cases h
theorem put_comm {F : Nat → GV} {a b : Option Nat} {u v : GV} (h : ∀ t, a = some t → b ≠ some t) : put (put F a u) b v = put (put F b v) a u := by
  cases a with
  | none => rfl
  | some x => cases b with
    | none => rfl
    | some y =>
      have : x ≠ y := fun e => h x rfl (by rw [e])
      funext t
      simp only [put, upd]
      by_cases h1 : t = x <;> by_cases h2 : t = y <;> simp_all
theorem put_other {F : Nat → GV} {a : Option Nat} {u : GV} {t : Nat} (h : a ≠ some t) : put F a u t = F t := by
  cases a with
  | none => rfl
  | some x =>
    simp only [put, upd]
    rw [if_neg]
    rintro rfl
    exact h rfl
theorem free_fill {os : List Obj'} {a b : Option Nat} (h : ∀ t, a = some t → b ≠ some t) : free (fillD G d a os) d b ↔ free G d b := by
  cases a with
  | none => rfl
  | some x => cases b with
    | none => rfl
    | some y =>
      have : ¬ y = x := fun e => h x rfl (by rw [e])
      simp [free, fillD, fillKey, this]
theorem free_set {κ : Key} {o : Obj'} {b : Option Nat} : free (setKey G κ o) d b ↔ free G d b := by
  cases b with
  | none => rfl
  | some y =>
    simp only [free, setKey]
    split <;> simp
theorem alive_fill {os : List Obj'} {a : Option Nat} (hf : free G d a) {κ : Key} (hk : get G κ ≠ none) : get (fillD G d a os) κ = get G κ := by
  cases a with
  | none => rfl
  | some x =>
    unfold free at hf
    simp only [fillD]
    rw [get_fillKey, if_neg]
    rintro ⟨e1, e2⟩
    apply hk
    unfold get
    rw [e1, e2, hf]; rfl
theorem fill_fill {os os' : List Obj'} {a b : Option Nat} (h : ∀ t, a = some t → b ≠ some t) : fillD (fillD G d a os) d b os' = fillD (fillD G d b os') d a os := by
  cases a with
  | none => rfl
  | some x => cases b with
    | none => rfl
    | some y =>
      have : ¬ x = y := fun e => h x rfl (by rw [e])
      funext k t
      simp only [fillD, fillKey]
      by_cases h1 : k = d ∧ t = x
      · have h2 : ¬ (k = d ∧ t = y) := fun h2 => this (h1.2.symm.trans h2.2)
        rw [if_neg h2, if_pos h1, if_pos h1]
      · rw [if_neg h1, if_neg h1]
theorem fill_set {os : List Obj'} {a : Option Nat} (hf : free G d a) {κ : Key} {o : Obj'} (hk : get G κ ≠ none) : setKey (fillD G d a os) κ o = fillD (setKey G κ o) d a os := by
  cases a with
  | none => rfl
  | some x =>
    unfold free at hf
    have hne : ¬ (κ.1 = d ∧ κ.2.1 = x) := by
      rintro ⟨e1, e2⟩
      apply hk
      unfold get
      rw [e1, e2, hf]; rfl
    funext k t
    simp only [fillD, fillKey, setKey]
    by_cases h1 : k = d ∧ t = x
    · have : ¬ (k = κ.1 ∧ t = κ.2.1) := by rintro ⟨rfl, rfl⟩; exact hne h1
      rw [if_neg this, if_pos h1, if_pos h1]
    · rw [if_neg h1, if_neg h1]
theorem set_set {κ κ' : Key} {o o' : Obj'} (h : ¬ (κ.1 = κ'.1 ∧ κ.2.1 = κ'.2.1)) : setKey (setKey G κ o) κ' o' = setKey (setKey G κ' o') κ o := by
  funext k t
  unfold setKey
  by_cases h1 : k = κ.1 ∧ t = κ.2.1
  · have h2 : ¬ (k = κ'.1 ∧ t = κ'.2.1) := fun e => h ⟨h1.1.symm.trans e.1, h1.2.symm.trans e.2⟩
    simp only [if_pos h1, if_neg h2]
  · by_cases h2 : k = κ'.1 ∧ t = κ'.2.1
    · simp only [if_neg h1, if_pos h2]
    · simp only [if_neg h1, if_neg h2]
theorem gop1v_some {all : Array Oper} {o : Oper} {F : Nat → GV} {v : GV} {δ : Dl} (h : gop1v P C A d all o F G (fun v' δ' => v' = v ∧ δ' = δ)) : δ = .nop ∨ gop P C A d o F G (fun v' δ' => v' = v ∧ δ' = δ) := by
  unfold gop1v at h
  split at h
  · exact .inr h
  · rename_i j want _
    split at h
    case h_2 => exact h.elim
    split at h
    case h_3 => exact h.elim
    case h_2 => exact .inl h.2.symm
    rename_i b _
    by_cases e : b = want
    · exact .inr (h.1 e)
    · exact .inl (h.2 (by cases b <;> simp_all)).2.symm
def apartB (A : Ann) (x y : Oper) : Bool := match boxOf A x, boxOf A y with
  | some a, some b => a != b
  | _, _ => false
def indep (A : Ann) (all : Array Oper) (x y : Oper) : Bool :=
  x.apart all y && ((!(wrO A x && rdO A y) && !(wrO A y && rdO A x)) || apartB A x y)
theorem swap {all : Array Oper} {oi oj : Oper} {K : St → Prop} {s : St} (hoi : dstIn A.openAt oi.dst = false) (hoj : dstIn A.openAt oj.dst = false) (hind : indep A all oj oi = true)
    (hlive : ∀ κ ∈ tgt A oi s.F, get s.G κ ≠ none) (h : gop1 P C A d all oj (gop1 P C A d all oi K) s) : gop1 P C A d all oi (gop1 P C A d all oj K) s := by
  unfold indep at hind
  simp only [Bool.and_eq_true, Bool.or_eq_true, Bool.not_eq_true', Bool.and_eq_false_iff] at hind
  obtain ⟨hap, hw⟩ := hind
  obtain ⟨ha1, ha2, ha3⟩ := Oper.apart_spec hap
  obtain ⟨F, G⟩ := s
  rw [gop1_eq] at h ⊢
  obtain ⟨vj, δj, hj, hj'⟩ := cps_gop1v (gop1v_shape hoj h)
  obtain ⟨h2, hsj⟩ := hj'
  rw [gop1_eq] at h2
  obtain ⟨vi, δi, hi, hi'⟩ := cps_gop1v (gop1v_shape hoi h2)
  obtain ⟨hK, hsi⟩ := hi'
  simp only at hj hsj hi hK hsi hlive ⊢
  have hFi : ∀ t, t ∈ oi.looksAt all → put F oj.dst vj t = F t := fun t ht => put_other fun e => ha1 t e ht
  have hFj : ∀ t, t ∈ oj.looksAt all → put F oi.dst vi t = F t := fun t ht => put_other fun e => ha3 t e ht
  have hti : tgt A oi (put F oj.dst vj) = tgt A oi F := tgt_congr fun x hx => by
    cases x with
    | tmp t => exact hFi t (List.mem_append_left _ (List.mem_filterMap.2 ⟨.tmp t, by simpa using hx, rfl⟩))
    | _ => rfl
  rw [hti] at hsi
  have hapart : ∀ κ κ' : Key, apartB A oj oi = true → (∀ k, boxOf A oj = some k → κ.2.1 = k) → (∀ k, boxOf A oi = some k → κ'.2.1 = k) → ¬ (κ.1 = κ'.1 ∧ κ.2.1 = κ'.2.1) := fun κ κ' hab h1 h2 e => by
    unfold apartB at hab
    split at hab
    · rename_i a b ea eb
      have e1 := h1 a ea
      have e2 := h2 b eb
      have : a = b := by rw [← e1, ← e2]; exact e.2
      simp [this] at hab
    · cases hab
  have hjb : ∀ κ0 o0, δj = .set κ0 o0 → ∀ k, boxOf A oj = some k → κ0.2.1 = k := fun κ0 o0 e k hk => by
    rcases gop1v_some hj with h0 | h0
    · rw [e] at h0; cases h0
    · rw [e] at hsj
      exact (boxed hk h0 κ0 hsj.1).2
  have hib : ∀ κ0 o0, δi = .set κ0 o0 → ∀ k, boxOf A oi = some k → κ0.2.1 = k := fun κ0 o0 e k hk => by
    rcases gop1v_some hi with h0 | h0
    · rw [e] at h0; cases h0
    · rw [e] at hsi
      exact (boxed hk h0 κ0 (by rw [hti]; exact hsi.1)).2
  have hgi : (∀ K', gop P C A d oi (put F oj.dst vj) (appD G d oj.dst δj) K' → ∀ κ ∈ tgt A oi F, get (appD G d oj.dst δj) κ = get G κ) ∧ (free (appD G d oj.dst δj) d oi.dst ↔ free G d oi.dst) := by
    cases δj with
    | nop => exact ⟨fun _ _ _ _ => rfl, Iff.rfl⟩
    | fill os => exact ⟨fun _ _ κ hk => alive_fill hsj (hlive κ hk), free_fill (os := os) ha2⟩
    | set κ0 o0 =>
      refine ⟨fun K' hgop κ hk => ?_, free_set⟩
      rcases hw with ⟨hw1, _⟩ | hab
      · obtain ⟨_, _, hw⟩ := hsj
        have hr : rdO A oi = false := hw1.resolve_left (by simp [hw])
        rw [tgt_nil hr] at hk; cases hk
      · have hne := hapart κ0 κ hab (hjb κ0 o0 rfl) (fun k hkk => (boxed hkk hgop κ (by rw [hti]; exact hk)).2)
        show get (setKey G κ0 o0) κ = get G κ
        rw [get_setKey, if_neg (fun e => hne (by rw [e]; exact ⟨rfl, rfl⟩))]
    | heap G' os => exact hsj.elim
    | heap0 G' => exact hsj.elim
  have hi1 : gop1v P C A d all oi F G (fun v' δ' => v' = vi ∧ δ' = δi) := by
    refine gop1v_congr (F := put F oj.dst vj) (G := appD G d oj.dst δj) hoi (fun t ht => (hFi t ht).symm) (fun hgop κ hk => ?_) hgi.2.1 hi
    rw [hti] at hk
    exact (hgi.1 _ hgop κ hk).symm
  have hsi' : Shape A d G (tgt A oi F) oi δi := by
    cases δi with
    | nop => trivial
    | fill os => exact hgi.2.1 hsi
    | set κ0 o0 => exact ⟨hsi.1, hlive κ0 hsi.1, hsi.2.2⟩
    | heap G' os => exact hsi.elim
    | heap0 G' => exact hsi.elim
  have hne : ∀ t, oi.dst = some t → oj.dst ≠ some t := fun t e e' => ha2 t e' e
  have hj1 : gop1v P C A d all oj (put F oi.dst vi) (appD G d oi.dst δi) (fun v' δ' => v' = vj ∧ δ' = δj) := by
    refine gop1v_congr (F := F) (G := G) hoj hFj (fun hgop κ hk => ?_) ?_ hj
    · cases δi with
      | nop => rfl
      | fill os => exact alive_fill hsi' (gop_live hgop κ hk)
      | set κ0 o0 =>
        rcases hw with ⟨_, hw2⟩ | hab
        · have hr : rdO A oj = false := hw2.resolve_left (by simp [hsi'.2.2])
          rw [tgt_nil hr] at hk; cases hk
        · have hne := hapart κ κ0 hab (fun k hkk => (boxed hkk hgop κ hk).2) (hib κ0 o0 rfl)
          show get (setKey G κ0 o0) κ = get G κ
          rw [get_setKey, if_neg (fun e => hne (by rw [e]; exact ⟨rfl, rfl⟩))]
      | heap G' os => exact hsi'.elim
      | heap0 G' => exact hsi'.elim
    · cases δi with
      | nop => exact id
      | fill os => exact (free_fill hne).2
      | set κ0 o0 => exact free_set.2
      | heap G' os => exact hsi'.elim
      | heap0 G' => exact hsi'.elim
  refine mono_gop1v (K := fun v' δ' => v' = vi ∧ δ' = δi) (fun v' δ' e => ?_) hi1
  obtain ⟨rfl, rfl⟩ := e
  rw [gop1_eq]
  refine mono_gop1v (K := fun v' δ' => v' = vj ∧ δ' = δj) (fun v'' δ'' e => ?_) hj1
  obtain ⟨rfl, rfl⟩ := e
  simp only at hK ⊢
  have hF : put (put F oi.dst v') oj.dst v'' = put (put F oj.dst v'') oi.dst v' := put_comm hne
  have hG : appD (appD G d oi.dst δ') d oj.dst δ'' = appD (appD G d oj.dst δ'') d oi.dst δ' := by
    cases δ'' with
    | nop => rfl
    | fill os =>
      cases δ' with
      | nop => rfl
      | fill os' => exact fill_fill hne
      | set κ0 o0 => exact (fill_set hsj hsi'.2.1).symm
      | heap G' os => exact hsi'.elim
      | heap0 G' => exact hsi'.elim
    | set κ1 o1 =>
      cases δ' with
      | nop => rfl
      | fill os' => exact fill_set hsi' hsj.2.1
      | set κ0 o0 =>
        rcases hw with ⟨hw1, _⟩ | hab
        · have hr : rdO A oi = false := hw1.resolve_left (by simp [hsj.2.2])
          rw [wr_rd hsi'.2.2] at hr; cases hr
        · exact set_set fun e => hapart κ1 κ0 hab (hjb κ1 o1 rfl) (hib κ0 o0 rfl) ⟨e.1.symm, e.2.symm⟩
      | heap G' os => exact hsi'.elim
      | heap0 G' => exact hsi'.elim
    | heap G' os => exact hsj.elim
    | heap0 G' => exact hsj.elim
  rw [hF, hG]
  exact hK
def heapless (A : Ann) (o : Oper) : Bool :=
  match o.op with
  | .move _ => true
  | .assign _ => true
  | .pick _ _ _ => true
  | .build _ _ => true
  | .nilCheck _ => true
  | .binOp _ _ _ _ _ => true
  | .unOp _ _ _ => true
  | .convert _ _ _ => true
  | .slice _ _ _ _ _ => true
  | .fieldAddr _ _ _ => true
  | .field _ _ _ => true
  | .indexAddr _ _ _ => true
  | .index _ _ _ => true
  | .extract _ _ => true
  | .buildSlice _ _ _ => !dstIn A.arrAt o.dst
  | .call c => match c.callee with
    | .value _ => !dstIn A.openAt o.dst && !dstIn A.borAt o.dst && dstIn A.frzAt o.dst
    | .builtin .len => true
    | .builtin .min => true
    | .builtin .max => true
    | _ => false
  | _ => false
theorem heapless_gop {o : Oper} {F : Nat → GV} {K : GV → Dl → Prop} (hh : heapless A o = true) (h : gop P C A d o F G K) : gop P C A d o F G' (fun v δ => K v δ ∧ δ = .nop) := by
  obtain ⟨dst, op, ty, pos, after, guard⟩ := o
  unfold heapless at hh
  cases op <;> dsimp only at hh <;> try (cases hh; done)
  all_goals unfold gop at h ⊢; try dsimp only at h ⊢
  case move x => exact ⟨h, (by first | rfl | trivial)⟩
  case assign x => exact ⟨h, (by first | rfl | trivial)⟩
  case pick c x y =>
    split at h
    case h_2 => exact h.elim
    exact ⟨fun e => ⟨h.1 e, by first | rfl | trivial⟩, fun e => ⟨h.2 e, by first | rfl | trivial⟩⟩
  case build => exact mono_gBuild (fun _ h => ⟨h, (by first | rfl | trivial)⟩) h
  case buildSlice =>
    unfold gBuildSlice at h ⊢
    split at h
    case h_2 => exact h.elim
    split at h
    case h_2 => exact h.elim
    refine ⟨h.1, h.2.1, ?_⟩
    have h2 := h.2.2
    have hc : ¬ dstIn A.arrAt dst = true := by simpa using hh
    rw [if_neg hc] at h2 ⊢; exact ⟨h2, by first | rfl | trivial⟩
  case nilCheck x => (repeat' split at h) <;> first | exact h.elim | exact ⟨h, (by first | rfl | trivial)⟩
  case binOp => exact mono_gBin (fun _ h => ⟨h, (by first | rfl | trivial)⟩) h
  case unOp => exact mono_gUn (fun _ h => ⟨h, (by first | rfl | trivial)⟩) h
  case convert => exact mono_gConv (fun _ h => ⟨h, (by first | rfl | trivial)⟩) h
  case slice => exact mono_gSlice (fun _ h => ⟨h, (by first | rfl | trivial)⟩) h
  case fieldAddr => exact mono_gFieldAddr (fun _ h => ⟨h, (by first | rfl | trivial)⟩) h
  case field => exact mono_gField (fun _ h => ⟨h, (by first | rfl | trivial)⟩) h
  case indexAddr => exact mono_gIndexAddr (fun _ h => ⟨h, (by first | rfl | trivial)⟩) h
  case index => exact mono_gIndex (fun _ h => ⟨h, (by first | rfl | trivial)⟩) h
  case extract x k =>
    split at h
    case h_2 => exact h.elim
    split at h
    case h_2 => exact h.elim
    exact ⟨h, (by first | rfl | trivial)⟩
  case call c =>
    split at h
    · rename_i f hc
      rw [hc] at hh
      dsimp only at hh
      simp only [Bool.and_eq_true, Bool.not_eq_true'] at hh
      obtain ⟨⟨h1, h2⟩, h3⟩ := hh
      unfold gCall at h ⊢
      split at h
      case h_2 => exact h.elim
      rw [h2] at h ⊢
      rw [h1] at h ⊢
      rw [h3] at h ⊢
      simp only [Bool.false_eq_true, if_false, if_true] at h ⊢
      obtain ⟨as, hw, h0, r, hc, h⟩ := h
      exact ⟨as, hw, h0, r, hc, h, (by first | rfl | trivial)⟩
    · rename_i b hc
      rw [hc] at hh
      unfold gBuiltin at h ⊢
      cases b <;> (try dsimp only at hh) <;> try (cases hh; done)
      case len =>
        split at h
        · exact mono_gLen (fun _ h => ⟨h, (by first | rfl | trivial)⟩) h
        all_goals first | exact h.elim | (rename_i hb; cases hb) | (rename_i hb _ _; cases hb) | (rename_i hb _; cases hb)
      all_goals
        dsimp only at h ⊢
        split at h
        · exact ⟨h, (by first | rfl | trivial)⟩
        · exact h.elim
    · exact h.elim
theorem gop1v_congrF {all : Array Oper} {o : Oper} {F F' : Nat → GV} {K : GV → Dl → Prop} (hF : ∀ t, t ∈ o.looksAt all → F' t = F t) (h : gop1v P C A d all o F G K) : gop1v P C A d all o F' G K := by
  have he : ∀ x ∈ o.op.operands, ge F' x = ge F x := fun x hx => by
    cases x with
    | tmp t => exact hF t (List.mem_append_left _ (List.mem_filterMap.2 ⟨.tmp t, by simpa using hx, rfl⟩))
    | _ => rfl
  unfold gop1v at h ⊢
  split at h
  · exact gop_congrF he h
  · rename_i j want hgd
    split at h
    case h_2 => exact h.elim
    rename_i t ht
    have hFt : F' t = F t := hF t (List.mem_append_right _ (by simp [hgd, ht]))
    rw [hFt]
    split at h
    case h_3 => exact h.elim
    case h_2 => exact h
    exact ⟨fun e => gop_congrF he (h.1 e), h.2⟩
theorem heapless_gop1v {all : Array Oper} {o : Oper} {F : Nat → GV} {K : GV → Dl → Prop} (hh : heapless A o = true) (h : gop1v P C A d all o F G K) : gop1v P C A d all o F G' (fun v δ => K v δ ∧ δ = .nop) := by
  unfold gop1v at h ⊢
  split at h
  · exact heapless_gop hh h
  · split at h
    case h_2 => exact h.elim
    split at h
    case h_3 => exact h.elim
    case h_2 => exact ⟨h, rfl⟩
    exact ⟨fun e => heapless_gop hh (h.1 e), fun e => ⟨h.2 e, rfl⟩⟩
theorem addAt_addAt {ts : List Nat} {H H' : Nat → List Obj'} : addAt (addAt G d ts H) d ts H' = addAt G d ts H' := by
  funext k t
  unfold addAt
  split <;> rfl
theorem get_addAt {ts : List Nat} {H : Nat → List Obj'} {κ : Key} (h : ¬ (κ.1 = d ∧ κ.2.1 ∈ ts)) : get (addAt G d ts H) κ = get G κ := by
  unfold get addAt
  rw [if_neg h]
def isCallV (o : Oper) : Bool := match o.op with
  | .call c => match c.callee with
    | .value _ => true
    | _ => false
  | _ => false
theorem open_gop {o : Oper} {F : Nat → GV} {v : GV} {δ : Dl} {j : Nat} (hv : isCallV o = true) (hj : o.dst = some j) (ho : dstIn A.openAt o.dst = true) (hd : dstIn A.drwAt o.dst = true) (hb : dstIn A.borAt o.dst = false) (h : gop P C A d o F G (fun v' δ' => v' = v ∧ δ' = δ)) :
    ∃ G', δ = .heap0 G' ∧ (∀ t ∈ A.also j, G' d t = G d t) ∧ (∀ κ, get G κ ≠ none → get G' κ ≠ none) ∧ (∀ x ∈ A.watch j, ∃ κ o, A.wkey x = some (κ, o) ∧ ∃ cs cs', get G κ = some (.box cs) ∧ get G' κ = some (.box cs') ∧ sameAt o cs cs') ∧
      ∀ H : Nat → List Obj', gop P C A d o F (addAt G d (A.also j) H) (fun v' δ' => v' = v ∧ δ' = .heap0 (addAt G' d (A.also j) H)) := by
  obtain ⟨dst, op, ty, pos, after, guard⟩ := o
  dsimp only at hj ho hd hb
  subst hj
  unfold isCallV at hv
  cases op <;> dsimp only at hv <;> try (cases hv; done)
  rename_i c
  unfold gop at h
  dsimp only at h
  split at hv
  case h_2 => cases hv
  rename_i f hc
  rw [hc] at h
  dsimp only at h
  unfold gCall at h
  split at h
  case h_2 => exact h.elim
  rename_i n caps hf
  rw [hb] at h
  simp only [Bool.false_eq_true, if_false] at h
  obtain ⟨as, hw, h⟩ := h
  rw [ho] at h
  simp only [if_true] at h
  obtain ⟨r, G', hcall, ⟨hd0, _⟩ | ⟨t0, ht, ht', ha, hop, rfl, rfl⟩⟩ := h
  · rw [hd] at hd0; cases hd0
  obtain ⟨hnt, hop⟩ := hop hd
  simp only [Option.getD_some] at hnt hop
  refine ⟨G', rfl, hop.same, hop.live, fun x hx => ?_, fun H => ?_⟩
  · obtain ⟨κ, o, h1, _, h2⟩ := hop.look x hx
    exact ⟨κ, o, h1, h2⟩
  · unfold gop
    dsimp only
    rw [hc]
    dsimp only
    unfold gCall
    rw [hf]
    dsimp only
    rw [hb]
    simp only [Bool.false_eq_true, if_false]
    refine ⟨as, hw, ?_⟩
    rw [ho]
    simp only [if_true]
    have h1 : ∀ {G1 : Heap}, G1 d t0 = [] → addAt G1 d (A.also j) H d t0 = [] := fun h => by
      unfold addAt
      rw [if_neg (fun e => hnt e.2)]; exact h
    refine ⟨r, addAt G' d (A.also j) H, hop.call H, .inr ⟨t0, h1 ht, h1 ht', ha, fun _ => ⟨hnt, fun t hm => ?_, fun H' => ?_, fun κ hk => ?_, fun x hx => ?_⟩, rfl, rfl⟩⟩
    · simp only [Option.getD_some] at hm
      unfold addAt
      rw [if_pos ⟨rfl, hm⟩, if_pos ⟨rfl, hm⟩]
    · simp only [Option.getD_some]
      rw [addAt_addAt, addAt_addAt]
      exact hop.call H'
    · by_cases e : κ.1 = d ∧ κ.2.1 ∈ A.also j
      · unfold get addAt at hk ⊢
        rw [if_pos e] at hk ⊢; exact hk
      · rw [get_addAt e] at hk ⊢
        exact hop.live κ hk
    · simp only [Option.getD_some] at hx ⊢
      obtain ⟨κ, o, e1, e2, cs, cs', e3, e4, e5⟩ := hop.look x hx
      exact ⟨κ, o, e1, e2, cs, cs', by rw [get_addAt e2]; exact e3, by rw [get_addAt e2]; exact e4, e5⟩
theorem open_gop1v {all : Array Oper} {o : Oper} {F : Nat → GV} {v : GV} {δ : Dl} {j : Nat} (hv : isCallV o = true) (hj : o.dst = some j) (ho : dstIn A.openAt o.dst = true) (hd : dstIn A.drwAt o.dst = true) (hb : dstIn A.borAt o.dst = false) (h : gop1v P C A d all o F G (fun v' δ' => v' = v ∧ δ' = δ)) :
    (δ = .nop ∧ ∀ G2, gop1v P C A d all o F G2 (fun v' δ' => v' = v ∧ δ' = .nop)) ∨ ∃ G', δ = .heap0 G' ∧ (∀ t ∈ A.also j, G' d t = G d t) ∧ (∀ κ, get G κ ≠ none → get G' κ ≠ none) ∧ (∀ x ∈ A.watch j, ∃ κ o, A.wkey x = some (κ, o) ∧ ∃ cs cs', get G κ = some (.box cs) ∧ get G' κ = some (.box cs') ∧ sameAt o cs cs') ∧
      ∀ H : Nat → List Obj', gop1v P C A d all o F (addAt G d (A.also j) H) (fun v' δ' => v' = v ∧ δ' = .heap0 (addAt G' d (A.also j) H)) := by
  unfold gop1v at h ⊢
  cases hgd : o.guard with
  | none =>
    rw [hgd] at h
    dsimp only at h
    obtain ⟨G', h1, h2, h2', h3, h4⟩ := open_gop hv hj ho hd hb h
    exact .inr ⟨G', h1, h2, h2', h3, h4⟩
  | some g =>
    obtain ⟨j', want⟩ := g
    rw [hgd] at h
    dsimp only at h ⊢
    cases ht : (all[j']?).bind (·.dst) with
    | none => rw [ht] at h; exact h.elim
    | some t =>
    rw [ht] at h
    dsimp only at h ⊢
    split at h
    case h_3 => exact h.elim
    case h_2 => exact .inl ⟨h.2.symm, fun G2 => ⟨h.1, rfl⟩⟩
    rename_i b hb'
    by_cases e : b = want
    · obtain ⟨G', h1, h2, h2', h3, h4⟩ := open_gop hv hj ho hd hb (h.1 e)
      exact .inr ⟨G', h1, h2, h2', h3, fun H => ⟨fun _ => h4 H, fun e' => absurd (e.symm.trans e') (by cases want <;> simp)⟩⟩
    · have e' : b = !want := by cases b <;> cases want <;> simp_all
      obtain ⟨q1, q2⟩ := h.2 e'
      exact .inl ⟨q2.symm, fun G2 => ⟨fun e2 => absurd e2 e, fun _ => ⟨q1, rfl⟩⟩⟩
theorem addAt_self {ts : List Nat} : addAt G d ts (fun t => G d t) = G := by
  funext k t
  unfold addAt
  split
  · rename_i h; rw [h.1]
  · rfl
theorem addAt_fill {ts : List Nat} {t0 : Nat} {os : List Obj'} (h : t0 ∈ ts) : addAt G d ts (fun t => if t = t0 then os else G d t) = fillKey G d t0 os := by
  funext k t
  unfold addAt fillKey
  by_cases h1 : k = d
  · subst h1
    by_cases h2 : t = t0
    · subst h2; simp [h]
    · simp [h2]
  · simp [h1]
def allocB (o : Oper) : Bool := match o.op with
  | .alloc _ => true
  | _ => false
theorem alloc_gop1v {all : Array Oper} {o : Oper} {F : Nat → GV} {v : GV} {δ : Dl} {j : Nat} (ha : allocB o = true) (hj : o.dst = some j) (hG : G' d j = G d j) (h : gop1v P C A d all o F G' (fun v' δ' => v' = v ∧ δ' = δ)) :
    (δ = .nop ∨ ∃ os, δ = .fill os) ∧ gop1v P C A d all o F G (fun v' δ' => v' = v ∧ δ' = δ) := by
  obtain ⟨dst, op, ty, pos, after, guard⟩ := o
  dsimp only at hj
  subst hj
  unfold allocB at ha
  cases op <;> dsimp only at ha <;> try (cases ha; done)
  rename_i t
  have main : gop P C A d ⟨some j, .alloc t, ty, pos, after, guard⟩ F G' (fun v' δ' => v' = v ∧ δ' = δ) → (δ = .nop ∨ ∃ os, δ = .fill os) ∧ gop P C A d ⟨some j, .alloc t, ty, pos, after, guard⟩ F G (fun v' δ' => v' = v ∧ δ' = δ) := fun h => by
    unfold gop at h ⊢
    dsimp only at h ⊢
    split at h
    case h_2 => exact h.elim
    obtain ⟨h1, h2, h3⟩ := h
    exact ⟨.inr ⟨_, h3.symm⟩, by unfold free at h1 ⊢; dsimp only at h1 ⊢; rw [← hG]; exact h1, h2, h3⟩
  unfold gop1v at h ⊢
  dsimp only at h ⊢
  cases guard with
  | none => exact main h
  | some g =>
    obtain ⟨j', want⟩ := g
    dsimp only at h ⊢
    cases ht : (all[j']?).bind (·.dst) with
    | none => rw [ht] at h; exact h.elim
    | some t' =>
    rw [ht] at h
    dsimp only at h ⊢
    split at h
    case h_3 => exact h.elim
    case h_2 => exact ⟨.inl h.2.symm, h⟩
    rename_i b hb
    by_cases e : b = want
    · obtain ⟨h1, h2⟩ := main (h.1 e)
      exact ⟨h1, fun _ => h2, h.2⟩
    · have e' : b = !want := by cases b <;> cases want <;> simp_all
      exact ⟨.inl (h.2 e').2.symm, fun e2 => absurd e2 e, h.2⟩
def loadOf (o : Oper) : Option Nat := match o.op with
  | .load _ (.tmp x) => some x
  | _ => none
theorem load_gop1v {all : Array Oper} {o : Oper} {F : Nat → GV} {v : GV} {δ : Dl} {x : Nat} {κ : Key} {off : Nat} (hx : loadOf o = some x) (hk : A.wkey x = some (κ, off)) {cs cs' : List GV} (h1 : get G κ = some (.box cs)) (h2 : get G' κ = some (.box cs')) (he : sameAt off cs cs')
    (h : gop1v P C A d all o F G (fun v' δ' => v' = v ∧ δ' = δ)) : δ = .nop ∧ gop1v P C A d all o F G' (fun v' δ' => v' = v ∧ δ' = δ) := by
  obtain ⟨dst, op, ty, pos, after, guard⟩ := o
  unfold loadOf at hx
  cases op <;> dsimp only at hx <;> try (cases hx; done)
  rename_i t a
  cases a <;> dsimp only at hx <;> try (cases hx; done)
  cases hx
  have main : gop P C A d ⟨dst, .load t (.tmp x), ty, pos, after, guard⟩ F G (fun v' δ' => v' = v ∧ δ' = δ) → δ = .nop ∧ gop P C A d ⟨dst, .load t (.tmp x), ty, pos, after, guard⟩ F G' (fun v' δ' => v' = v ∧ δ' = δ) := fun h => by
    unfold gop at h ⊢
    dsimp only at h ⊢
    obtain ⟨hb, hw, h⟩ := h
    have hw' := hw
    unfold wkC at hw'
    dsimp only at hw'
    rw [hk] at hw'
    dsimp only at hw'
    unfold wkG at hw'
    by_cases hbig : off < 1000000
    case neg =>
      rw [if_neg hbig] at hw'
      unfold sameAt at he
      rw [if_neg hbig] at he
      subst he
      rw [hw'] at h ⊢
      unfold gLoad at h ⊢
      dsimp only at h ⊢
      rw [h1] at h
      rw [h2]
      dsimp only at h ⊢
      have hn : δ = .nop := by
        unfold gLoadC at h
        split at h
        · exact h.2.2.symm
        · split at h
          · exact h.2.symm
          · exact h.elim
        · exact h.elim
      rw [hw'] at hb hw
      exact ⟨hn, hb, hw, h⟩
    rw [if_pos hbig] at hw'
    unfold sameAt at he
    rw [if_pos hbig] at he
    obtain ⟨e1, e2⟩ := hw'
    rw [e1] at h
    unfold gLoad at h
    dsimp only at h
    rw [h1] at h
    dsimp only at h
    unfold gLoadC at h
    cases htk : tk P t with
    | bad => rw [htk] at e2; exact e2.elim
    | row n => rw [htk] at e2; exact e2.elim
    | one =>
      rw [htk] at h
      dsimp only at h
      cases hc : cs[off]? with
      | none => rw [hc] at h; exact h.elim
      | some g =>
        rw [hc] at h
        obtain ⟨h3, h4⟩ := h
        refine ⟨h4.symm, hb, hw, ?_⟩
        rw [e1]
        unfold gLoad
        dsimp only
        rw [h2]
        dsimp only
        unfold gLoadC
        rw [htk]
        dsimp only
        rw [he, hc]
        exact ⟨h3, h4⟩
  unfold gop1v at h ⊢
  dsimp only at h ⊢
  cases guard with
  | none => exact main h
  | some g =>
    obtain ⟨j', want⟩ := g
    dsimp only at h ⊢
    cases ht : (all[j']?).bind (·.dst) with
    | none => rw [ht] at h; exact h.elim
    | some t' =>
    rw [ht] at h
    dsimp only at h ⊢
    split at h
    case h_3 => exact h.elim
    case h_2 => exact ⟨h.2.symm, h⟩
    rename_i b hb
    by_cases e : b = want
    · obtain ⟨h1, h2⟩ := main (h.1 e)
      exact ⟨h1, fun _ => h2, h.2⟩
    · have e' : b = !want := by cases b <;> cases want <;> simp_all
      exact ⟨(h.2 e').2.symm, fun e2 => absurd e2 e, h.2⟩
def openB (A : Ann) (o : Oper) : Bool := dstIn A.openAt o.dst && dstIn A.drwAt o.dst && !dstIn A.borAt o.dst && isCallV o
def watchB (A : Ann) (oc o : Oper) : Bool := match oc.dst, loadOf o with
  | some j, some x => (A.watch j).contains x
  | _, _ => false
def alsoB (A : Ann) (oc o : Oper) : Bool := match oc.dst, o.dst with
  | some j, some t => allocB o && (A.also j).contains t
  | _, _ => false
theorem swapO1 {all : Array Oper} {oi oj : Oper} {K : St → Prop} {s : St} (hoj : openB A oj = true) (hap : oj.apart all oi = true) (hcl : (heapless A oi || alsoB A oj oi || watchB A oj oi) = true)
    (h : gop1 P C A d all oj (gop1 P C A d all oi K) s) : gop1 P C A d all oi (gop1 P C A d all oj K) s := by
  unfold openB at hoj
  simp only [Bool.and_eq_true, Bool.not_eq_true'] at hoj
  obtain ⟨⟨⟨o1, o2⟩, o3⟩, o4⟩ := hoj
  obtain ⟨j, hj⟩ : ∃ j, oj.dst = some j := by
    cases hq : oj.dst with
    | none => rw [hq] at o1; cases o1
    | some j => exact ⟨j, rfl⟩
  obtain ⟨ha1, ha2, ha3⟩ := Oper.apart_spec hap
  obtain ⟨F, G⟩ := s
  rw [gop1_eq] at h ⊢
  obtain ⟨vj, δj, hj1, h2⟩ := cps_gop1v h
  rw [gop1_eq] at h2
  obtain ⟨vi, δi, hi1, hK⟩ := cps_gop1v h2
  simp only at hj1 hi1 hK ⊢
  have hne : ∀ t, oi.dst = some t → oj.dst ≠ some t := fun t e e' => ha2 t e' e
  have hFi : ∀ t, t ∈ oi.looksAt all → F t = put F oj.dst vj t := fun t ht => (put_other fun e => ha1 t e ht).symm
  have hFj : ∀ t, t ∈ oj.looksAt all → put F oi.dst vi t = F t := fun t ht => put_other fun e => ha3 t e ht
  have hput : put (put F oj.dst vj) oi.dst vi = put (put F oi.dst vi) oj.dst vj := (put_comm hne).symm
  have fin : ∀ (δi' : Dl), gop1v P C A d all oi F G (fun v' δ' => v' = vi ∧ δ' = δi') → (∃ δj', gop1v P C A d all oj F (appD G d oi.dst δi') (fun v' δ' => v' = vj ∧ δ' = δj') ∧ appD (appD G d oi.dst δi') d oj.dst δj' = appD (appD G d oj.dst δj) d oi.dst δi) →
      gop1v P C A d all oi F G (fun v δ => gop1 P C A d all oj K ⟨put F oi.dst v, appD G d oi.dst δ⟩) := fun δi' h1 ⟨δj', h3, h4⟩ => by
    refine mono_gop1v (fun v' δ' e => ?_) h1
    obtain ⟨rfl, rfl⟩ := e
    rw [gop1_eq]
    refine mono_gop1v (fun v'' δ'' e => ?_) (gop1v_congrF hFj h3)
    obtain ⟨rfl, rfl⟩ := e
    simp only
    rw [h4, ← hput]
    exact hK
  have hi2 := gop1v_congrF hFi hi1
  rcases open_gop1v o4 hj o1 o2 o3 hj1 with ⟨rfl, hany⟩ | ⟨G', rfl, hsame, _, hlook, hcall⟩
  · 
    have e0 : appD G d oj.dst .nop = G := rfl
    rw [e0] at hi2
    refine fin δi hi2 ⟨.nop, hany _, rfl⟩
  · have e0 : appD G d oj.dst (.heap0 G') = G' := rfl
    rw [e0] at hi2
    simp only [Bool.or_eq_true] at hcl
    rcases hcl with (hh | hal) | hwt
    · have h3 := heapless_gop1v (G' := G) hh hi2
      obtain ⟨v', δ', h4, ⟨rfl, rfl⟩, e3⟩ := cps_gop1v h3
      subst e3
      refine fin .nop h4 ⟨.heap0 G', ?_, rfl⟩
      have := hcall (fun t => G d t)
      rw [addAt_self] at this
      have e5 : addAt G' d (A.also j) (fun t => G d t) = G' := by
        funext k t
        unfold addAt
        split
        · rename_i e; show G d t = G' k t; rw [e.1]; exact (hsame t e.2).symm
        · rfl
      rw [e5] at this
      exact this
    · unfold alsoB at hal
      rw [hj] at hal
      obtain ⟨t, ht⟩ : ∃ t, oi.dst = some t := by
        cases hq : oi.dst with
        | none => rw [hq] at hal; cases hal
        | some t => exact ⟨t, rfl⟩
      · rw [ht] at hal
        simp only [Bool.and_eq_true, List.contains_iff_mem] at hal
        obtain ⟨hal, hmem⟩ := hal
        obtain ⟨hδ, h3⟩ := alloc_gop1v (G := G) hal ht (hsame t hmem) hi2
        refine fin δi h3 ?_
        rcases hδ with rfl | ⟨os, rfl⟩
        · refine ⟨.heap0 G', ?_, rfl⟩
          have := hcall (fun t => G d t)
          rw [addAt_self] at this
          have e5 : addAt G' d (A.also j) (fun t => G d t) = G' := by
            funext k t
            unfold addAt
            split
            · rename_i e; show G d t = G' k t; rw [e.1]; exact (hsame t e.2).symm
            · rfl
          rw [e5] at this
          exact this
        · refine ⟨.heap0 (fillKey G' d t os), ?_, ?_⟩
          · have := hcall (fun t' => if t' = t then os else G d t')
            rw [addAt_fill hmem] at this
            have e5 : addAt G' d (A.also j) (fun t' => if t' = t then os else G d t') = fillKey G' d t os := by
              rw [← addAt_fill (G := G') hmem]
              funext k t'
              unfold addAt
              split
              · rename_i e; show (if t' = t then os else G d t') = if t' = t then os else G' d t'; rw [hsame t' e.2]
              · rfl
            rw [e5] at this
            rw [ht]
            exact this
          · rw [ht]; rfl
    · unfold watchB at hwt
      rw [hj] at hwt
      cases hl : loadOf oi with
      | none => rw [hl] at hwt; cases hwt
      | some x =>
        rw [hl] at hwt
        simp only [List.contains_iff_mem] at hwt
        obtain ⟨κ, off, hk, cs, cs', g1, g2, g3⟩ := hlook x hwt
        obtain ⟨rfl, h3⟩ := load_gop1v (G := G') (G' := G) hl hk g2 g1 g3.symm hi2
        refine fin .nop h3 ⟨.heap0 G', ?_, rfl⟩
        have := hcall (fun t => G d t)
        rw [addAt_self] at this
        have e5 : addAt G' d (A.also j) (fun t => G d t) = G' := by
          funext k t
          unfold addAt
          split
          · rename_i e; show G d t = G' k t; rw [e.1]; exact (hsame t e.2).symm
          · rfl
        rw [e5] at this
        exact this
theorem swapO2 {all : Array Oper} {oi oj : Oper} {K : St → Prop} {s : St} (hoi : openB A oi = true) (hap : oj.apart all oi = true) (hcl : (heapless A oj || watchB A oi oj) = true)
    (h : gop1 P C A d all oj (gop1 P C A d all oi K) s) : gop1 P C A d all oi (gop1 P C A d all oj K) s := by
  unfold openB at hoi
  simp only [Bool.and_eq_true, Bool.not_eq_true'] at hoi
  obtain ⟨⟨⟨o1, o2⟩, o3⟩, o4⟩ := hoi
  obtain ⟨i, hi⟩ : ∃ i, oi.dst = some i := by
    cases hq : oi.dst with
    | none => rw [hq] at o1; cases o1
    | some i => exact ⟨i, rfl⟩
  obtain ⟨ha1, ha2, ha3⟩ := Oper.apart_spec hap
  obtain ⟨F, G⟩ := s
  rw [gop1_eq] at h ⊢
  obtain ⟨vj, δj, hj1, h2⟩ := cps_gop1v h
  rw [gop1_eq] at h2
  obtain ⟨vi, δi, hi1, hK⟩ := cps_gop1v h2
  simp only at hj1 hi1 hK ⊢
  have hne : ∀ t, oi.dst = some t → oj.dst ≠ some t := fun t e e' => ha2 t e' e
  have hFi : ∀ t, t ∈ oi.looksAt all → F t = put F oj.dst vj t := fun t ht => (put_other fun e => ha1 t e ht).symm
  have hFj : ∀ t, t ∈ oj.looksAt all → put F oi.dst vi t = F t := fun t ht => put_other fun e => ha3 t e ht
  have hput : put (put F oj.dst vj) oi.dst vi = put (put F oi.dst vi) oj.dst vj := (put_comm hne).symm
  have hi2 := gop1v_congrF hFi hi1
  have fin : δj = .nop → gop1v P C A d all oj F (appD G d oi.dst δi) (fun v' δ' => v' = vj ∧ δ' = .nop) → gop1v P C A d all oi F G (fun v δ => gop1 P C A d all oj K ⟨put F oi.dst v, appD G d oi.dst δ⟩) := fun e h3 => by
    subst e
    refine mono_gop1v (fun v' δ' e => ?_) hi2
    obtain ⟨rfl, rfl⟩ := e
    rw [gop1_eq]
    refine mono_gop1v (fun v'' δ'' e => ?_) (gop1v_congrF hFj h3)
    obtain ⟨rfl, rfl⟩ := e
    simp only
    rw [← hput]
    exact hK
  simp only [Bool.or_eq_true] at hcl
  rcases hcl with hh | hwt
  · have h3 := heapless_gop1v (G' := G) hh hj1
    obtain ⟨v', δ', h4, ⟨rfl, rfl⟩, e3⟩ := cps_gop1v h3
    subst e3
    have h5 := heapless_gop1v (G' := appD G d oi.dst δi) hh hj1
    exact fin rfl (mono_gop1v (fun _ _ e => e.1) h5)
  · unfold watchB at hwt
    rw [hi] at hwt
    cases hl : loadOf oj with
    | none => rw [hl] at hwt; cases hwt
    | some x =>
      rw [hl] at hwt
      simp only [List.contains_iff_mem] at hwt
      have hnop : δj = .nop := by
        rcases gop1v_some hj1 with e | hg
        · exact e
        · obtain ⟨dst, op, ty, pos, after, guard⟩ := oj
          unfold loadOf at hl
          cases op <;> dsimp only at hl <;> try (cases hl; done)
          unfold gop at hg
          dsimp only at hg
          obtain ⟨_, _, hg⟩ := hg
          obtain ⟨v, hv, hv2⟩ := cps_gLoad hg
          exact hv2.2.symm
      subst hnop
      have e0 : appD G d oj.dst .nop = G := rfl
      rw [e0] at hi2
      rcases open_gop1v o4 hi o1 o2 o3 hi2 with ⟨rfl, _⟩ | ⟨G', rfl, hsame, _, hlook, hcall⟩
      · exact fin rfl hj1
      · obtain ⟨κ, off, hk, cs, cs', g1, g2, g3⟩ := hlook x hwt
        obtain ⟨_, h3⟩ := load_gop1v (G := G) (G' := G') hl hk g1 g2 g3 hj1
        exact fin rfl h3
end
end Go.Eng
end
