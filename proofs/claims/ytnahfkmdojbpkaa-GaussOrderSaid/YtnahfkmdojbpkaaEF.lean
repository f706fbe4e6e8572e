import Derived.Test.YtnahfkmdojbpkaaEE
/-! The engine, part F: the operations that change no object. -/
set_option linter.all false
namespace Go.Eng
section
variable {X : XS} {P : Program} {G : Heap} {R : RMap} {d : Nat} {w : World}

theorem zc_spec {t : TypeId} {zs : List Value} (h : zc P t = some zs) : ∃ i z, P.info? t = some i ∧ i.zero = some z ∧ z.cells.toList = zs ∧ ∀ v ∈ zs, v.oneCell' = true := by
  unfold zc at h
  cases hi : P.info? t with
  | none => simp [hi] at h
  | some i =>
    cases hz : i.zero with
    | none => simp [hi, hz] at h
    | some z =>
      simp only [hi, hz, Option.bind_some] at h
      split at h
      · rename_i ho
        cases h
        exact ⟨i, z, rfl, hz, rfl, fun v hv => (List.all_eq_true.1 ho) v hv⟩
      · cases h
theorem flds_spec {t : TypeId} {pl : List (Nat × Nat)} (h : flds P t = some pl) : ∃ fs, P.underlying t = some (.struct fs) ∧ fs.toList.mapM (fun f => (P.info? f.type).map fun i => (f.offset, i.size)) = some pl := by
  unfold flds at h
  split at h
  · rename_i fs hu
    exact ⟨fs, hu, h⟩
  · cases h
theorem mapM_get {α β : Type} {f : α → Option β} : ∀ {l : List α} {r : List β} {k : Nat} {y : β}, l.mapM f = some r → r[k]? = some y → ∃ x, l[k]? = some x ∧ f x = some y
  | [], r, k, y, h, hk => by simp at h; subst h; simp at hk
  | x :: l, r, k, y, h, hk => by
    rw [List.mapM_cons] at h
    cases hx : f x with
    | none => simp [hx] at h
    | some z =>
      cases hr : l.mapM f with
      | none => simp [hx, hr] at h
      | some zs =>
        simp [hx, hr] at h
        subst h
        cases k with
        | zero => simp at hk; subst hk; exact ⟨x, rfl, hx⟩
        | succ k => simp at hk; simpa using mapM_get hr hk

theorem build_sound {t : TypeId} {parts : List (Nat × GV)} {vals : Array (Nat × Value)} {K : GV → Prop}
    (hl : parts.length = vals.size) (hp : ∀ (i : Nat) (p : Nat × GV) (q : Nat × Value), parts[i]? = some p → vals[i]? = some q → p.1 = q.1 ∧ VR (Mem X d G R w) G R d p.2 q.2) (h : gBuild P t parts K) :
    ∃ v rv, K v ∧ (Instr.build t vals).run P w = .ok rv w ∧ VR (Mem X d G R w) G R d v rv := by
  unfold gBuild at h
  split at h
  · rename_i zs pl hz hf
    split at h
    · rename_i cells hc
      obtain ⟨i, z, h1, h2, h3, h4⟩ := zc_spec hz
      obtain ⟨fs, h5, h6⟩ := flds_spec hf
      obtain ⟨cs', h7, h8, h9⟩ := gfill_sound (R := R) (G := G) (d := d) (M := Mem X d G R w) parts vals.toList (zs.map cv1) cells z.cells (by simpa using hl) (fun i p q h1 h2 => hp i p q h1 (by simpa using h2))
        (by rw [h3]; simpa using VRs.map (R := R) (G := G) (d := d) (M := Mem X d G R w) cv1 id zs (fun v _ => VR.cv1 v)) (by rw [h3]; exact h4) hc
      refine ⟨_, .agg cs', h, run_build w t vals cs' ?_, ?_⟩
      · unfold Program.built
        simp only [h1, h5, h2, h6]
        simpa using h7
      · unfold VR
        exact ⟨cs'.toList, by simp, h9, h8⟩
    · exact h.elim
  · exact h.elim

theorem elT_spec {t e : TypeId} {n bytes : Nat} (h : elT P t = some (e, n, bytes)) :
    ∃ i z, P.underlying t = some (.slice e) ∧ P.info? e = some i ∧ i.zero = some z ∧ z.cells.size = n ∧ i.size = n ∧ i.bytes = bytes ∧ 0 < n ∧ 0 < bytes := by
  unfold elT at h
  split at h
  · rename_i e' hu
    cases hi : P.info? e' with
    | none => simp [hi] at h
    | some i =>
      cases hz : i.zero with
      | none => simp [hi, hz] at h
      | some z =>
        simp only [hi, hz, Option.bind_some] at h
        split at h
        · rename_i hc
          simp only [Option.some.injEq, Prod.mk.injEq] at h
          obtain ⟨rfl, rfl, rfl⟩ := h
          exact ⟨i, z, hu, hi, hz, hc.1, rfl, rfl, hc.2.1, hc.2.2⟩
        · cases h
  · cases h

theorem fill_row {M : Nat → Nat → Value → Prop} {n : Nat} : ∀ (parts : List (Nat × GV)) (vals : List (Nat × Value)) (k : Nat) (cs : Array Value) (es : List (List PV)),
    parts.length = vals.length → (∀ (i : Nat) (p : Nat × GV) (q : Nat × Value), parts[i]? = some p → vals[i]? = some q → p.1 = q.1 ∧ VR M G R d p.2 q.2) → partsOf k n parts = some es → (k + parts.length) * n ≤ cs.size →
    ∃ cs', Instr.fill (fun i => some (i * n, n)) cs vals = some cs' ∧ cs'.size = cs.size ∧ es.length = parts.length ∧ (∀ i, i < k * n → cs'[i]? = cs[i]?) ∧
      ∀ (i : Nat) (e : List PV), es[i]? = some e → e.length = n ∧ ∀ (j : Nat) (c : PV), e[j]? = some c → ∃ v, cs'[(k + i) * n + j]? = some v ∧ v.oneCell' = true ∧ PR M c v
  | [], [], k, cs, es, _, _, h, _ => by
    unfold partsOf at h
    cases h
    exact ⟨cs, rfl, rfl, rfl, fun _ _ => rfl, fun i e hi => by simp at hi⟩
  | (i, g) :: parts, (i', x) :: vals, k, cs, es, hl, hp, h, hsz => by
    obtain ⟨hik, hgx⟩ := hp 0 _ _ rfl rfl
    simp only at hik hgx
    subst hik
    unfold partsOf at h
    split at h
    case isFalse => cases h
    rename_i hk
    subst hk
    split at h
    case h_2 => cases h
    rename_i ps r hps hr
    split at h
    case isFalse => cases h
    rename_i hpl
    cases h
    cases hgc : gcells g with
    | none => rw [hgc] at hps; cases hps
    | some gs =>
      rw [hgc] at hps
      simp only [Option.bind_some] at hps
      obtain ⟨ys, hyc, hy1, hyv, _⟩ := hgx.cells hgc
      obtain ⟨hpl', hpg⟩ := purs_get hps hyv
      have hsz' : i * n + n + parts.length * n ≤ cs.size := by
        have : (i + (parts.length + 1)) * n = i * n + n + parts.length * n := by
          rw [Nat.add_mul, Nat.add_mul]; omega
        simp only [List.length_cons] at hsz
        omega
      have hset := foldl_set_toList ys 0 (i * n) cs (by omega)
      simp only [Nat.add_zero] at hset
      generalize hC : (ys.zipIdx.foldl (fun cs (x : Value × Nat) => cs.setIfInBounds (i * n + x.2) x.1) cs) = C at hset
      have hCsz : C.size = cs.size := by
        rw [← Array.length_toList, hset]; simp; omega
      have hCget : ∀ k : Nat, C[k]? = if i * n ≤ k ∧ k < i * n + n then ys[k - i * n]? else cs[k]? := fun k => by
        rw [← Array.getElem?_toList, hset]
        simp only [List.getElem?_append, List.length_take, Array.length_toList, List.getElem?_take, List.getElem?_drop, Array.getElem?_toList]
        have hm : min (i * n) cs.size = i * n := by omega
        rw [hm]
        by_cases c1 : k < i * n
        · rw [if_pos c1, if_pos c1, if_neg (by omega)]
        · rw [if_neg c1]
          by_cases c2 : k - i * n < ys.length
          · rw [if_pos c2, if_pos (by omega)]
          · rw [if_neg c2, if_neg (by omega)]
            congr 1; omega
      obtain ⟨cs', h2, h3, h4, h5, h6⟩ := fill_row parts vals (i + 1) C r (by simpa using hl) (fun j p q hj1 hj2 => hp (j + 1) p q (by simpa using hj1) (by simpa using hj2)) hr
        (by rw [hCsz, Nat.add_mul, Nat.add_mul]; omega)
      refine ⟨cs', ?_, h3.trans hCsz, by simp [h4], fun j hj => ?_, fun j e hj => ?_⟩
      · unfold Instr.fill
        simp only [hyc]
        rw [if_neg (by simp; omega), ← h2]
        congr 1
        rw [← hC, ← Array.foldl_toList]
        congr 1
        simp
      · rw [h5 j (by rw [Nat.add_mul]; omega), hCget, if_neg (by omega)]
      · cases j with
        | zero =>
          simp only [List.getElem?_cons_zero, Option.some.injEq] at hj
          subst hj
          refine ⟨hpl, fun q c hq => ?_⟩
          obtain ⟨v, h7, h8⟩ := hpg q c hq
          have hqlt : q < ps.length := (List.getElem?_eq_some_iff.1 hq).1
          refine ⟨v, ?_, hy1 v (List.mem_of_getElem? h7), h8⟩
          rw [Nat.add_zero, h5 _ (by rw [Nat.add_mul]; omega), hCget, if_pos (by omega), show i * n + q - i * n = q by omega]
          exact h7
        | succ j =>
          simp only [List.getElem?_cons_succ] at hj
          obtain ⟨h7, h8⟩ := h6 j e hj
          exact ⟨h7, fun q c hq => by
            obtain ⟨v, h9⟩ := h8 q c hq
            exact ⟨v, by rwa [show i + (j + 1) = i + 1 + j by omega]⟩⟩
  | [], _ :: _, _, _, _, hl, _, _, _ => by simp at hl
  | _ :: _, [], _, _, _, hl, _, _, _ => by simp at hl

/-- A cell of a block that is new: it stays as it is. -/
theorem Mem.new (hs : Sim X d G R w) {cs : Array Value} {T : TypeId} {i : Nat} {v : Value} (hi : cs[i]? = some v) (h1 : v.oneCell' = true) : Mem X d G R (w.alloc (.cells cs T)) w.heap.size i v :=
  ⟨by rw [cell_of_row _ _ i cs T _ (heap_alloc_new w _)]; exact hi, h1, (fun hX => absurd (hs.off _ _ hX) (by omega)), fun κ o hk hg hb => absurd (hs.lt hk hg) (by omega)⟩

theorem run_buildSlice_eng {t e : TypeId} {i : TypeInfo} {z : Value} {len : Nat} {parts : Array (Nat × Value)} {cells : Array Value} (ht : P.underlying t = some (.slice e)) (hi : P.info? e = some i) (hz : i.zero = some z)
    (hle : len * i.size ≤ 16777216)
    (hf : Instr.fill (fun k => some (k * i.size, i.size)) ((Array.range (len * i.size)).map ((if len * i.size = 0 then #[] else z.cells)[· % (if len * i.size = 0 then (#[] : Array Value) else z.cells).size]!)) parts.toList = some cells) :
    (Instr.buildSlice t len parts).run P w = .ok (.slice (some ⟨w.heap.size, 0, none⟩) len len) (w.alloc (.cells cells e)) := by
  have hle' : ¬ (16777216 < len * i.size) := by omega
  by_cases h0 : len * i.size = 0
  · simp only [h0, if_true] at hf
    simp [Instr.buildSlice, run_underlying ht, sizeOf, typeInfo, zeroValue, hi, hz, h0, newRow]
    simp at hf
    rw [hf]
    rfl
  · simp only [h0, if_false] at hf
    simp [Instr.buildSlice, run_underlying ht, sizeOf, typeInfo, zeroValue, hi, hz, hle', h0, newRow, hf]

theorem buildSlice_sound (hs : Sim X d G R w) {A : Ann} {t : TypeId} {len : Nat} {parts : List (Nat × GV)} {vals : Array (Nat × Value)} {K : GV → Dl → Prop} {dst : Option Nat}
    (hl : parts.length = vals.size) (hp : ∀ (i : Nat) (p : Nat × GV) (q : Nat × Value), parts[i]? = some p → vals[i]? = some q → p.1 = q.1 ∧ VR (Mem X d G R w) G R d p.2 q.2) (h : gBuildSlice P A d t len parts K dst G) :
    ∃ v δ rv w' R', K v δ ∧ (Instr.buildSlice t len vals).run P w = .ok rv w' ∧ Step X d G R w (appD G d dst δ) R' w' ∧ VR (Mem X d (appD G d dst δ) R' w') (appD G d dst δ) R' d v rv := by
  unfold gBuildSlice at h
  split at h
  case h_2 => exact h.elim
  rename_i e n bytes he
  split at h
  case h_2 => exact h.elim
  rename_i es hes
  obtain ⟨hlen, hle, h⟩ := h
  obtain ⟨i, z, ht, hi, hz, hzn, hin, _, hn0, _⟩ := elT_spec he
  subst hin
  have hpl : parts.length = len := by
    have : ∀ (ps : List (Nat × GV)) (k : Nat) (r : List (List PV)), partsOf k i.size ps = some r → r.length = ps.length := by
      intro ps
      induction ps with
      | nil => intro k r hr; unfold partsOf at hr; cases hr; rfl
      | cons p ps ih =>
        intro k r hr
        obtain ⟨a, b⟩ := p
        unfold partsOf at hr
        split at hr
        · split at hr
          · split at hr
            · rename_i hq _
              cases hr
              simp [ih _ _ (by assumption)]
            · cases hr
          · cases hr
        · cases hr
    rw [← hlen, this _ _ _ hes]
  obtain ⟨cs', h1, h2, h3, _, h5⟩ := fill_row (R := R) (G := G) (d := d) (M := Mem X d G R w) parts vals.toList 0 ((Array.range (len * i.size)).map ((if len * i.size = 0 then #[] else z.cells)[· % (if len * i.size = 0 then (#[] : Array Value) else z.cells).size]!)) es
    (by simpa using hl) (fun i p q h1 h2 => hp i p q h1 (by simpa using h2)) hes (by simp [hpl])
  have hsz : cs'.size = len * i.size := by rw [h2]; simp
  have hrun := run_buildSlice_eng (P := P) (w := w) ht hi hz hle h1
  have hall : ∀ v ∈ cs'.toList, v.oneCell' = true := fun v hv => by
    obtain ⟨k, hk⟩ := List.getElem?_of_mem hv
    have hk' : k < len * i.size := by have := (List.getElem?_eq_some_iff.1 hk).1; simpa [hsz] using this
    have hq : k / i.size < es.length := by rw [hlen]; exact Nat.div_lt_of_lt_mul (by rw [Nat.mul_comm]; exact hk')
    obtain ⟨h6, h7⟩ := h5 (k / i.size) es[k / i.size] (List.getElem?_eq_getElem hq)
    have hm : k % i.size < i.size := Nat.mod_lt _ hn0
    obtain ⟨v', h8, h9, _⟩ := h7 (k % i.size) _ (List.getElem?_eq_getElem (by rw [h6]; exact hm))
    rw [Nat.zero_add, show k / i.size * i.size + k % i.size = k by rw [Nat.mul_comm]; exact Nat.div_add_mod k i.size] at h8
    have hk2 : cs'[k]? = some v := by simpa using hk
    rw [hk2] at h8
    cases h8
    exact h9
  by_cases ha : dstIn A.arrAt dst = true
  · rw [if_pos ha] at h
    obtain ⟨hf, hK⟩ := h
    cases dst with
    | none => exact hf.elim
    | some t0 =>
      unfold free at hf
      obtain ⟨R', hst, hv⟩ := newArr (es := es) (vs := cs'.toList) (sz := i.size) (n := len) hs hf e hlen (by simpa using hsz) hall (fun k x hk => by
        obtain ⟨h6, h7⟩ := h5 k x hk
        exact ⟨h6, fun j c hj => by obtain ⟨v, h8, _, h10⟩ := h7 j c hj; exact ⟨v, by simpa using h8, h10⟩⟩)
      exact ⟨_, _, _, _, R', hK, hrun, by simpa [appD, fillD] using hst, by simpa [appD, fillD] using hv⟩
  · rw [if_neg ha] at h
    have hst := Step.grow hs (Grows.alloc w (.cells cs' e))
    refine ⟨_, _, _, _, R, h, hrun, hst, ?_⟩
    unfold VR
    refine ⟨?_, ⟨some ⟨w.heap.size, 0, none⟩, by rw [hlen]⟩⟩
    unfold PR
    refine ⟨some ⟨w.heap.size, 0, none⟩, len, by rw [hlen], by rw [hlen]; exact Nat.le_refl _, (fun hh => by cases hh), fun _ => ⟨w.heap.size, 0, i.size, rfl, PRss.of_get fun k x hk => ?_⟩⟩
    obtain ⟨h6, h7⟩ := h5 k x hk
    refine ⟨h6, PRs.of_get fun j c hj => ?_⟩
    obtain ⟨v, h8, h9, h10⟩ := h7 j c hj
    exact ⟨v, Mem.new hs (by simpa using h8) h9, PR.mono hst.ext.mem _ _ h10⟩

/-! ### Places and parts -/
theorem flds_get {t : TypeId} {k o n : Nat} (h : (flds P t).bind (·[k]?) = some (o, n)) : ∃ fs f i, P.underlying t = some (.struct fs) ∧ fs[k]? = some f ∧ f.offset = o ∧ P.info? f.type = some i ∧ i.size = n := by
  cases hf : flds P t with
  | none => rw [hf] at h; cases h
  | some pl =>
    rw [hf] at h
    simp only [Option.bind_some] at h
    obtain ⟨fs, hu, hm⟩ := flds_spec hf
    obtain ⟨f, h1, h2⟩ := mapM_get hm h
    cases hi : P.info? f.type with
    | none => rw [hi] at h2; cases h2
    | some i =>
      rw [hi] at h2
      simp only [Option.map_some, Option.some.injEq, Prod.mk.injEq] at h2
      exact ⟨fs, f, i, hu, by simpa using h1, h2.1, hi, h2.2⟩
theorem run_fieldAt {t : TypeId} {k o n : Nat} (h : (flds P t).bind (·[k]?) = some (o, n)) (hn : n ≠ 0) (b off : Nat) :
    (Instr.fieldAt t (.pointer (some ⟨b, off, none⟩)) k).run P w = .ok (.pointer (some ⟨b, off + o, none⟩)) w := by
  obtain ⟨fs, f, i, h1, h2, rfl, h4, rfl⟩ := flds_get h
  simp [Instr.fieldAt, run_underlying h1, h2, Instr.sureAddr, fieldPlace, sizeOf, typeInfo, h4, hn, Addr.add_mid]
theorem fieldAddr_sound {t : TypeId} {g : GV} {x : Value} {k : Nat} {K : GV → Prop} (hx : VR (Mem X d G R w) G R d g x) (h : gFieldAddr P t g k K) :
    ∃ v rv, K v ∧ (Instr.fieldAt t x k).run P w = .ok rv w ∧ VR (Mem X d G R w) G R d v rv := by
  unfold gFieldAddr at h
  split at h
  case h_2 => exact h.elim
  rename_i o n hf
  obtain ⟨hn, h⟩ := h
  split at h
  case h_5 => exact h.elim
  case h_1 =>
    rename_i κ off
    unfold VR at hx
    obtain ⟨h1, h2, rfl⟩ := hx
    exact ⟨_, _, h, run_fieldAt hf hn _ _, by unfold VR; exact ⟨h1, h2, rfl⟩⟩
  case h_2 =>
    rename_i cells off
    unfold VR at hx
    obtain ⟨b, o', rfl, h2⟩ := hx
    exact ⟨_, _, h, run_fieldAt hf hn _ _, by unfold VR; exact ⟨b, o', by rw [Nat.add_assoc], h2⟩⟩
  case h_3 =>
    rename_i cells
    have hx := VR.p_iff.1 hx
    unfold PR at hx
    obtain ⟨b, o', rfl, h2⟩ := hx
    exact ⟨_, _, h, run_fieldAt hf hn _ _, by unfold VR; exact ⟨b, o', rfl, h2⟩⟩
  case h_4 =>
    rename_i κ m i off
    unfold VR at hx
    obtain ⟨h1, h2, es, h3, h4, b, o', rfl, h5⟩ := hx
    exact ⟨_, _, h, run_fieldAt hf hn _ _, by unfold VR; exact ⟨h1, h2, es, h3, h4, b, o', by rw [Nat.add_assoc], h5⟩⟩
theorem run_indexAt {t e : TypeId} {n bytes : Nat} (he : elT P t = some (e, n, bytes)) {kk : IntKind} {j : Int} {b o len cap : Nat} (h0 : 0 ≤ j) (h1 : j < len) :
    (Instr.indexAt t (.slice (some ⟨b, o, none⟩) len cap) (.int kk j)).run P w = .ok (.pointer (some ⟨b, o + j.toNat * n, none⟩)) w := by
  obtain ⟨i, z, ht, hi, hz, hzn, hin, _, hn0, _⟩ := elT_spec he
  subst hin
  simp [Instr.indexAt, asIntOf, run_underlying ht, h0, h1, sizeOf, typeInfo, hi, Addr.add_mid]
theorem aelT_spec {t : TypeId} {m n : Nat} (h : aelT P t = some (m, n)) : ∃ e i, P.underlying t = some (.array m e) ∧ P.info? e = some i ∧ i.size = n := by
  unfold aelT at h
  split at h
  case h_2 => cases h
  rename_i k e ht
  cases hi : P.info? e with
  | none => rw [hi] at h; cases h
  | some i =>
    rw [hi] at h
    simp only [Option.bind_some] at h
    split at h
    · injection h with h
      injection h with h1 h2
      exact ⟨e, i, by rw [ht, h1], hi, h2⟩
    · cases h
theorem run_indexArr {t : TypeId} {m n : Nat} (he : aelT P t = some (m, n)) {kk : IntKind} {j : Int} {b o : Nat} (h0 : 0 ≤ j) (h1 : j < m) :
    (Instr.indexAt t (.pointer (some ⟨b, o, none⟩)) (.int kk j)).run P w = .ok (.pointer (some ⟨b, o + j.toNat * n, none⟩)) w := by
  obtain ⟨e, i, ht, hi, rfl⟩ := aelT_spec he
  simp [Instr.indexAt, asIntOf, run_underlying ht, h0, h1, sizeOf, typeInfo, hi, Addr.add_mid, Instr.sureAddr]
theorem indexAddr_sound {t : TypeId} {g gi : GV} {x y : Value} {K : GV → Prop} (hx : VR (Mem X d G R w) G R d g x) (hy : VR (Mem X d G R w) G R d gi y) (h : gIndexAddr P t g gi K) :
    ∃ v rv, K v ∧ (Instr.indexAt t x y).run P w = .ok rv w ∧ VR (Mem X d G R w) G R d v rv := by
  unfold gIndexAddr at h
  split at h
  case h_3 => exact h.elim
  case h_2 =>
    rename_i kk j he
    have hy' := VR.p_iff.1 hy
    unfold PR at hy'
    subst hy'
    split at h
    case h_2 => exact h.elim
    rename_i m n κ off ha
    obtain ⟨h0, h1, hK⟩ := h
    unfold VR at hx
    obtain ⟨h2, h3, rfl⟩ := hx
    exact ⟨_, _, hK, run_indexArr ha h0 h1, by unfold VR; exact ⟨h2, h3, rfl⟩⟩
  rename_i e n bytes kk j he
  have hy' := VR.p_iff.1 hy
  unfold PR at hy'
  subst hy'
  split at h
  · rename_i es hes
    obtain ⟨h0, h⟩ := h
    split at h
    case h_2 => exact h.elim
    rename_i q hq
    obtain ⟨hql, hK⟩ := h
    have hp := hx.elems hes
    unfold PR at hp
    obtain ⟨a, cap, rfl, hcap, _, hne⟩ := hp
    have hlt := (List.getElem?_eq_some_iff.1 hq).1
    obtain ⟨b, o, sz, rfl, hss⟩ := hne (by rintro rfl; simp at hq)
    obtain ⟨hsz, hps⟩ := PRss.get hss hq
    obtain rfl : sz = n := by omega
    refine ⟨_, _, hK, run_indexAt he h0 (by omega), ?_⟩
    unfold VR
    exact ⟨b, o + j.toNat * sz, rfl, hps⟩
  · split at h
    case h_2 => exact h.elim
    rename_i κ m sz _
    obtain ⟨rfl, h0, h1, hK⟩ := h
    unfold VR at hx
    obtain ⟨h2, h5, es, h3, h4, b, o, c, rfl, h6⟩ := hx
    refine ⟨_, _, hK, run_indexAt he h0 h1, ?_⟩
    unfold VR
    exact ⟨h2, by omega, es, h3, h4, b, o, by rw [h5]; rfl, fun e => ⟨(h6 e).1, (h6 e).2.1⟩⟩
theorem index_sound {t : TypeId} {g gi : GV} {x y : Value} {K : GV → Prop} (hx : VR (Mem X d G R w) G R d g x) (hy : VR (Mem X d G R w) G R d gi y) (h : gIndex P t g gi K) :
    ∃ v rv, K v ∧ (Instr.index t x y).run P w = .ok rv w ∧ VR (Mem X d G R w) G R d v rv := by
  unfold gIndex at h
  split at h
  case h_2 => exact h.elim
  rename_i s kk j
  obtain ⟨ht, h0, h⟩ := h
  have hx' := VR.p_iff.1 hx
  have hy' := VR.p_iff.1 hy
  unfold PR at hx' hy'
  subst hx' hy'
  split at h
  case h_2 => exact h.elim
  rename_i b hb
  unfold isStr at ht
  split at ht
  case h_2 => cases ht
  rename_i hu
  refine ⟨_, .int .u8 b.toNat, h, ?_, VR.p_iff.2 (by unfold PR; rfl)⟩
  simp [Instr.index, asIntOf, run_underlying hu, h0, hb]
theorem field_sound {t : TypeId} {g : GV} {x : Value} {k : Nat} {K : GV → Prop} (hx : VR (Mem X d G R w) G R d g x) (h : gField P t g k K) :
    ∃ v rv, K v ∧ (Instr.field t x k).run P w = .ok rv w ∧ VR (Mem X d G R w) G R d v rv := by
  have ftype : ∀ {fs : Array Field} {f : Field} {q : TK}, P.underlying t = some (.struct fs) → fs[k]? = some f → (fldT P t k).map (tk P) = some q → tk P f.type = q := by
    intro fs f q hu hf hq
    unfold fldT at hq
    rw [hu] at hq
    simp only [hf, Option.map_some, Option.some.injEq] at hq
    exact hq
  unfold gField at h
  split at h
  case h_3 => exact h.elim
  case h_1 =>
    rename_i cells o n' n hf ht
    obtain ⟨hle, hK⟩ := h
    obtain ⟨fs, f, i, h1, h2, rfl, h4, rfl⟩ := flds_get hf
    have htk := ftype h1 h2 ht
    obtain ⟨dd, i', h5, h6, h7, h8⟩ := tk_row htk
    rw [h4] at h7
    cases h7
    subst h8
    unfold VR at hx
    obtain ⟨vs, rfl, h9, h10⟩ := hx
    have hlen := VRs.length h10
    refine ⟨_, .agg (vs.toArray.extract f.offset (f.offset + i.size)), hK, ?_, ?_⟩
    · simp [Instr.field, run_underlying h1, h2, part, run_isAgg_row h5 h6 w, asAgg, sizeOf, typeInfo, h4]
    · unfold VR
      refine ⟨(vs.drop f.offset).take i.size, ?_, fun v hv => h9 v (List.mem_of_mem_drop (List.mem_of_mem_take hv)), (h10.drop _).take _⟩
      congr 1
      apply Array.ext'
      simp [List.extract_eq_take_drop]
  case h_2 =>
    rename_i cells o n' hf ht
    obtain ⟨fs, f, i, h1, h2, rfl, h4, rfl⟩ := flds_get hf
    have htk := ftype h1 h2 ht
    obtain ⟨dd, i', h5, h6, h7⟩ := tk_one htk
    split at h
    case h_2 => exact h.elim
    rename_i g' hg'
    unfold VR at hx
    obtain ⟨vs, rfl, h9, h10⟩ := hx
    obtain ⟨v, h11, h12⟩ := VRs.get h10 hg'
    refine ⟨_, v, h, ?_, h12⟩
    have h11' : vs.toArray[f.offset]? = some v := by simpa using h11
    simp [Instr.field, run_underlying h1, h2, part, run_isAgg_one h5 h6 w, asAgg]
    simp at h11'
    simp [h11']
end
end Go.Eng
