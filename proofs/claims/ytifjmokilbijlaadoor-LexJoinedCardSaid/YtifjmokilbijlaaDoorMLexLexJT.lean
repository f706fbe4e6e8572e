import Derived.Test.YtifjmokilbijlaaDoorMLexLexST
-- Plain laws of the tokens of a text (no program in sight).
set_option linter.unusedVariables false
namespace BallLex
theorem rp_shift {p : Nat → Bool} {s t : ByteArray} (n : Nat) : ∀ (i u : Nat), i + n ≤ s.size → (∀ m, m < n → u + m < t.size ∧ by_ t (u + m) = by_ s (i + m)) →
    ¬ (u + n < t.size ∧ p (by_ t (u + n)) = true) → rp p s i ≤ i + n → rp p t u + i = rp p s i + u := by
  induction n with
  | zero =>
    intro i u hi hb hs hle
    have h1 := rp_ge p s i
    rw [rp_stop (s := t) (i := u) (by simpa using hs)]
    omega
  | succ n ih =>
    intro i u hi hb hs hle
    have h0 := hb 0 (by omega)
    simp only [Nat.add_zero] at h0
    by_cases hp : p (by_ s i) = true
    · rw [rp_go (s := t) (i := u) h0.1 (by rw [h0.2]; exact hp), rp_go (s := s) (i := i) (by omega) hp]
      have h2 := ih (i + 1) (u + 1) (by omega) (fun m hm => by
        have := hb (m + 1) (by omega)
        rw [show u + 1 + m = u + (m + 1) by omega, show i + 1 + m = i + (m + 1) by omega]; exact this) (by rw [show u + 1 + n = u + (n + 1) by omega]; exact hs) (by rw [rp_go (s := s) (i := i) (by omega) hp] at hle; omega)
      omega
    · rw [rp_stop (s := s) (i := i) (fun h => hp h.2), rp_stop (s := t) (i := u) (fun h => hp (by rw [← h0.2]; exact h.2))]
      omega
/-- A byte that ends each token. -/
def sep (c : Nat) : Bool := !letter c && !digit c && !(c == 61) && !(c == 62)
theorem tok_shift {s t : ByteArray} {i u n : Nat} (hn : 1 ≤ n) (hi : i + n ≤ s.size) (hb : ∀ m, m < n → u + m < t.size ∧ by_ t (u + m) = by_ s (i + m))
    (hs : ¬ (u + n < t.size) ∨ sep (by_ t (u + n)) = true) (hw : letter (by_ s i) = true → rp (fun c => letter c || digit c) s i ≤ i + n) (hd : digit (by_ s i) = true → rp digit s i ≤ i + n)
    (hp : pair s i = true → 2 ≤ n) : tokAt t u = (tokAt s i).map (fun x => (x.1, x.2 - i + u)) := by
  have h0 := hb 0 (by omega)
  simp only [Nat.add_zero] at h0
  have stopw : ¬ (u + n < t.size ∧ (fun c => letter c || digit c) (by_ t (u + n)) = true) := by
    rintro ⟨h1, h2⟩
    rcases hs with h | h
    · exact h h1
    · simp [sep] at h; simp [h] at h2
  have stopd : ¬ (u + n < t.size ∧ digit (by_ t (u + n)) = true) := by
    rintro ⟨h1, h2⟩
    rcases hs with h | h
    · exact h h1
    · simp [sep] at h; simp [h] at h2
  have hpair : pair t u = pair s i := by
    by_cases h2 : 2 ≤ n
    · have h3 := hb 1 (by omega)
      unfold pair
      rw [h0.2, h3.2, decide_eq_true (show u + 1 < t.size from h3.1), decide_eq_true (show i + 1 < s.size by omega)]
    · have hn1 : n = 1 := by omega
      subst hn1
      have e1 : pair s i = false := by
        cases e : pair s i with
        | false => rfl
        | true => exact absurd (hp e) h2
      rw [e1]
      unfold pair
      rcases hs with h | h
      · rw [decide_eq_false h]; rfl
      · simp [sep] at h; simp [h]
  unfold tokAt
  rw [h0.2, hpair]
  by_cases c1 : letter (by_ s i) = true
  · rw [if_pos c1, if_pos c1]
    have := rp_shift n i u hi hb stopw (hw c1)
    have := rp_ge (fun c => letter c || digit c) s i
    simp only [Option.map_some, Option.some.injEq, Prod.mk.injEq, true_and]
    omega
  · rw [if_neg c1, if_neg c1]
    by_cases c2 : digit (by_ s i) = true
    · rw [if_pos c2, if_pos c2]
      have e := rp_shift n i u hi hb stopd (hd c2)
      have e2 := rp_ge digit s i
      have e3 := rp_ge digit t u
      by_cases c3 : 18 < rp digit s i - i
      · rw [if_pos c3, if_pos (by omega)]; rfl
      · rw [if_neg c3, if_neg (by omega)]
        simp only [Option.map_some, Option.some.injEq, Prod.mk.injEq, true_and]
        omega
    · rw [if_neg c2, if_neg c2]
      by_cases c3 : pair s i = true
      · rw [if_pos c3, if_pos c3]
        simp only [Option.map_some, Option.some.injEq, Prod.mk.injEq, true_and]
        omega
      · rw [if_neg c3, if_neg c3]
        by_cases c4 : sign (by_ s i) = true
        · rw [if_pos c4, if_pos c4]
          simp only [Option.map_some, Option.some.injEq, Prod.mk.injEq, true_and]
          omega
        · rw [if_neg c4, if_neg c4]; rfl
theorem toks_of_nb {s : ByteArray} {i j : Nat} (h : nb s i = nb s j) : toks s i = toks s j := by
  by_cases h1 : nb s i < s.size
  · cases ht : tokAt s (nb s i) with
    | none => rw [toks_bad h1 ht, toks_bad (h ▸ h1) (h ▸ ht), h]
    | some x =>
      obtain ⟨k, q⟩ := x
      have h1' : nb s j < s.size := h ▸ h1
      have ht' : tokAt s (nb s j) = some (k, q) := h ▸ ht
      rw [toks_more h1 ht, toks_more h1' ht', h]
  · rw [toks_end h1, toks_end (h ▸ h1)]
theorem nb_shift {s t : ByteArray} (n : Nat) : ∀ (i u : Nat), i + n = s.size → (∀ m, m < n → u + m < t.size ∧ by_ t (u + m) = by_ s (i + m)) →
    (¬ (u + n < t.size) ∨ by_ t (u + n) = 10) → (nb s i < s.size → nb t u + i = nb s i + u) ∧ (¬ nb s i < s.size → nb t u = nb t (u + n)) := by
  induction n using Nat.strongRecOn with
  | ind n ih =>
    intro i u hi hb hs
    by_cases hn : n = 0
    · subst hn
      have e := nb_end (s := s) (i := i) (by omega)
      exact ⟨fun h => by omega, fun _ => rfl⟩
    have h0 := hb 0 (by omega)
    simp only [Nat.add_zero] at h0
    by_cases h1 : blank (by_ s i) = true
    · have h2 := ih (n - 1) (by omega) (i + 1) (u + 1) (by omega) (fun m hm => by
        have := hb (m + 1) (by omega)
        rw [show u + 1 + m = u + (m + 1) by omega, show i + 1 + m = i + (m + 1) by omega]; exact this) (by rw [show u + 1 + (n - 1) = u + n by omega]; exact hs)
      rw [nb_blank (s := s) (i := i) (by omega) h1, nb_blank (s := t) (i := u) h0.1 (by rw [h0.2]; exact h1)]
      rw [show u + 1 + (n - 1) = u + n by omega] at h2
      exact ⟨fun h => by have := h2.1 h; omega, h2.2⟩
    · by_cases h3 : by_ s i = 35
      · rw [nb_mark (s := s) (i := i) (by omega) h3, nb_mark (s := t) (i := u) h0.1 (by rw [h0.2]; exact h3)]
        have hle := rp_le inLine s i (by omega)
        have hg := rp_gt (p := inLine) (s := s) (i := i) (by omega) (by rw [h3]; rfl)
        have e := rp_shift (p := inLine) (s := s) (t := t) n i u (by omega) hb (by
          rintro ⟨a, b⟩
          rcases hs with h | h
          · exact h a
          · rw [h] at b; exact absurd b (by decide)) (by omega)
        have h2 := ih (s.size - rp inLine s i) (by omega) (rp inLine s i) (rp inLine t u) (by omega) (fun m hm => by
          have := hb (m + (rp inLine s i - i)) (by omega)
          rw [show rp inLine t u + m = u + (m + (rp inLine s i - i)) by omega, show rp inLine s i + m = i + (m + (rp inLine s i - i)) by omega]; exact this) (by
          rw [show rp inLine t u + (s.size - rp inLine s i) = u + n by omega]; exact hs)
        rw [show rp inLine t u + (s.size - rp inLine s i) = u + n by omega] at h2
        exact ⟨fun h => by have := h2.1 h; omega, h2.2⟩
      · rw [nb_stop (s := s) (i := i) (by omega) (by simpa using h1) h3, nb_stop (s := t) (i := u) h0.1 (by rw [h0.2]; simpa using h1) (by rw [h0.2]; exact h3)]
        exact ⟨fun _ => by omega, fun h => absurd (show i < s.size by omega) h⟩
/-- A token at another place. -/
def Tk.sh (i u : Nat) (x : Tk) : Tk := ⟨x.k, x.a - i + u, x.b - i + u⟩
theorem toks_shape (s : ByteArray) (i : Nat) : (∃ l, toks s i = .inl (l ++ [⟨3, s.size, s.size⟩])) ∨ ∃ e, toks s i = .inr e := by
  by_cases h : nb s i < s.size
  · cases ht : tokAt s (nb s i) with
    | none => exact .inr ⟨_, toks_bad h ht⟩
    | some x =>
      obtain ⟨k, j⟩ := x
      have h1 := nb_ge s i
      have h2 := tokAt_gt h ht
      rw [toks_more h ht]
      rcases toks_shape s j with ⟨l, hl⟩ | ⟨e, he⟩
      · rw [hl]; exact .inl ⟨⟨k, nb s i, j⟩ :: l, rfl⟩
      · rw [he]; exact .inr ⟨e, rfl⟩
  · exact .inl ⟨[], toks_end h⟩
termination_by s.size - i
def onto (l : List Tk) : List Tk ⊕ Nat → List Tk ⊕ Nat
  | .inl m => .inl (l ++ m)
  | .inr e => .inr e
/-- The tokens of a part of another text, that ends with it or at a line's end. -/
theorem toks_shift {s t : ByteArray} (n : Nat) : ∀ (i u : Nat), i + n = s.size → (∀ m, m < n → u + m < t.size ∧ by_ t (u + m) = by_ s (i + m)) →
    (¬ (u + n < t.size) ∨ by_ t (u + n) = 10) → match toks s i with
      | .inr e => e < s.size ∧ toks t u = .inr (e - i + u)
      | .inl l => toks t u = onto (l.dropLast.map (Tk.sh i u)) (toks t (u + n)) := by
  induction n using Nat.strongRecOn with
  | ind n ih =>
    intro i u hi hb hs
    have hsh := nb_shift n i u hi hb hs
    have hge := nb_ge s i
    by_cases h : nb s i < s.size
    · have e1 := hsh.1 h
      have hb2 : ∀ m, m < s.size - nb s i → nb t u + m < t.size ∧ by_ t (nb t u + m) = by_ s (nb s i + m) := fun m hm => by
        have := hb (m + (nb s i - i)) (by omega)
        rw [show nb t u + m = u + (m + (nb s i - i)) by omega, show nb s i + m = i + (m + (nb s i - i)) by omega]; exact this
      have hend : nb t u + (s.size - nb s i) = u + n := by omega
      have hlt : nb t u < t.size := (hb2 0 (by omega)).1
      have htk := tok_shift (s := s) (t := t) (i := nb s i) (u := nb t u) (n := s.size - nb s i) (by omega) (by omega) hb2 (by
        rw [hend]; rcases hs with h | h
        · exact .inl h
        · right; rw [h]; decide) (fun _ => by have := rp_le (fun c => letter c || digit c) s (nb s i) (by omega); omega) (fun _ => by have := rp_le digit s (nb s i) (by omega); omega) (fun hp => by
        simp [pair] at hp; omega)
      cases ht : tokAt s (nb s i) with
      | none =>
        rw [ht] at htk
        rw [toks_bad h ht, toks_bad hlt htk]
        exact ⟨h, by rw [show nb t u = nb s i - i + u by omega]⟩
      | some x =>
        obtain ⟨k, j⟩ := x
        rw [ht] at htk
        simp only [Option.map_some] at htk
        have hgt := tokAt_gt h ht
        rw [toks_more h ht, toks_more hlt htk]
        have h2 := ih (s.size - j) (by omega) j (j - nb s i + nb t u) (by omega) (fun m hm => by
          have := hb (m + (j - i)) (by omega)
          rw [show j - nb s i + nb t u + m = u + (m + (j - i)) by omega, show j + m = i + (m + (j - i)) by omega]; exact this) (by
          rw [show j - nb s i + nb t u + (s.size - j) = u + n by omega]; exact hs)
        rw [show j - nb s i + nb t u + (s.size - j) = u + n by omega] at h2
        have hu : j - nb s i + nb t u = j - i + u := by omega
        rcases toks_shape s j with ⟨l, hl⟩ | ⟨e, he⟩
        · rw [hl] at h2 ⊢
          simp only at h2 ⊢
          rw [h2]
          have hm : (fun x => Tk.sh j (j - nb s i + nb t u) x) = Tk.sh j (j - i + u) := by rw [hu]
          rw [show (({ k := k, a := nb s i, b := j } : Tk) :: (l ++ [{ k := 3, a := s.size, b := s.size }])).dropLast = ({ k := k, a := nb s i, b := j } : Tk) :: l by
            rw [← List.cons_append, List.dropLast_concat]]
          rw [List.dropLast_concat, List.map_cons]
          have hl2 : ∀ x ∈ l, j ≤ x.a ∧ x.a ≤ x.b := toks_ge s j _ hl
          have hmap : l.map (Tk.sh j (j - nb s i + nb t u)) = l.map (Tk.sh i u) := by
            apply List.map_congr_left
            intro x hx
            have := hl2 x hx
            simp only [Tk.sh, Tk.mk.injEq, true_and]
            omega
          rw [hmap]
          have hh : ({ k := k, a := nb t u, b := j - nb s i + nb t u } : Tk) = Tk.sh i u { k := k, a := nb s i, b := j } := by
            simp only [Tk.sh, Tk.mk.injEq, true_and]
            omega
          cases toks t (u + n) with
          | inl m => simp only [onto, hh, List.cons_append]
          | inr e => rfl
        · rw [he] at h2 ⊢
          simp only at h2 ⊢
          rw [h2.2]
          refine ⟨h2.1, ?_⟩
          have := toks_inr_ge s j e he
          show Sum.inr _ = Sum.inr _
          rw [show e - j + (j - nb s i + nb t u) = e - i + u by omega]
    · rw [toks_end h]
      have e2 := hsh.2 h
      rw [toks_of_nb e2]
      simp only [List.dropLast_singleton, List.map_nil]
      cases toks t (u + n) <;> rfl
where
  toks_ge (s : ByteArray) (i : Nat) (l : List Tk) (h : toks s i = .inl (l ++ [⟨3, s.size, s.size⟩])) : ∀ x ∈ l, i ≤ x.a ∧ x.a ≤ x.b := by
    by_cases h1 : nb s i < s.size
    · cases ht : tokAt s (nb s i) with
      | none => rw [toks_bad h1 ht] at h; cases h
      | some x =>
        obtain ⟨k, j⟩ := x
        have g1 := nb_ge s i
        have g2 := tokAt_gt h1 ht
        rw [toks_more h1 ht] at h
        rcases toks_shape s j with ⟨l2, hl⟩ | ⟨e, he⟩
        · rw [hl] at h
          simp only [Sum.inl.injEq] at h
          have e : l = ⟨k, nb s i, j⟩ :: l2 := by
            have := congrArg List.dropLast h
            rw [← List.cons_append, List.dropLast_concat, List.dropLast_concat] at this
            exact this.symm
          subst e
          intro x hx
          rcases List.mem_cons.1 hx with rfl | hx
          · exact ⟨g1, by show nb s i ≤ j; omega⟩
          · have := toks_ge s j l2 hl x hx; omega
        · rw [he] at h; cases h
    · rw [toks_end h1] at h
      have e : l = [] := by
        have := congrArg (fun z => match z with | Sum.inl m => m.length | _ => 0) h
        simp at this
        exact this
      subst e
      intro x hx; cases hx
  termination_by s.size - i
  toks_inr_ge (s : ByteArray) (i : Nat) (e : Nat) (h : toks s i = .inr e) : i ≤ e := by
    by_cases h1 : nb s i < s.size
    · cases ht : tokAt s (nb s i) with
      | none => rw [toks_bad h1 ht] at h; have := nb_ge s i; cases h; exact this
      | some x =>
        obtain ⟨k, j⟩ := x
        have g1 := nb_ge s i
        have g2 := tokAt_gt h1 ht
        rw [toks_more h1 ht] at h
        rcases toks_shape s j with ⟨l2, hl⟩ | ⟨e2, he⟩
        · rw [hl] at h; cases h
        · rw [he] at h
          cases h
          have := toks_inr_ge s j e he
          omega
    · rw [toks_end h1] at h; cases h
  termination_by s.size - i
theorem by_at {s : ByteArray} {i : Nat} (h : i < s.size) : by_ s i = (s[i]'h).toNat := by unfold by_; rw [dif_pos h]
theorem ba_ext {x y : ByteArray} (hs : x.size = y.size) (h : ∀ m, m < x.size → by_ x m = by_ y m) : x = y := by
  apply ByteArray.ext_getElem hs
  intro i h1 h2
  have := h i h1
  rw [by_at h1, by_at h2] at this
  exact UInt8.toNat_inj.1 this
theorem by_left {a b : ByteArray} {i : Nat} (h : i < a.size) : by_ (a ++ b) i = by_ a i := by
  rw [by_at h, by_at (by rw [ByteArray.size_append]; omega), ByteArray.getElem_append_left h]
theorem by_right {a b : ByteArray} {i j : Nat} (h : j < b.size) (e : i = a.size + j) : by_ (a ++ b) i = by_ b j := by
  subst e
  rw [by_at h, by_at (by rw [ByteArray.size_append]; omega), ByteArray.getElem_append_right (by omega)]
  simp
theorem by_extract {s : ByteArray} {a b m : Nat} (h : m < b - a) (hb : b ≤ s.size) : by_ (s.extract a b) m = by_ s (a + m) := by
  rw [by_at (i := m) (by rw [ByteArray.size_extract]; omega), by_at (i := a + m) (by omega), ByteArray.getElem_extract]
theorem ext_same {s t : ByteArray} {i u n : Nat} (hi : i + n ≤ s.size) (hu : u + n ≤ t.size) (hb : ∀ m, m < n → by_ t (u + m) = by_ s (i + m)) : t.extract u (u + n) = s.extract i (i + n) := by
  apply ba_ext
  · rw [ByteArray.size_extract, ByteArray.size_extract]; omega
  · intro m hm
    rw [ByteArray.size_extract] at hm
    rw [by_extract (by omega) (by omega), by_extract (by omega) (by omega)]
    exact hb m (by omega)
def Chain (s : ByteArray) : Nat → List Tk → Prop
  | _, [] => True
  | i, x :: r => i ≤ x.a ∧ x.a < x.b ∧ x.b ≤ s.size ∧ x.k < 3 ∧ tokAt s x.a = some (x.k, x.b) ∧ nb s x.a = x.a ∧ Chain s x.b r
theorem nb_idem (s : ByteArray) (i : Nat) : nb s (nb s i) = nb s i := by
  by_cases h : i < s.size
  · by_cases h1 : blank (by_ s i) = true
    · rw [nb_blank h h1]; exact nb_idem s (i + 1)
    · by_cases h2 : by_ s i = 35
      · have h3 := rp_gt (p := inLine) h (by rw [h2]; rfl)
        have h4 := rp_le inLine s i (by omega)
        rw [nb_mark h h2]; exact nb_idem s (rp inLine s i)
      · have e := nb_stop h (by simpa using h1) h2
        rw [e, e]
  · have e := nb_end h
    rw [e, e]
termination_by s.size - i
theorem tokAt_k {s : ByteArray} {i k j : Nat} (h : tokAt s i = some (k, j)) : k < 3 := by
  unfold tokAt at h
  split at h
  · cases h; omega
  · split at h
    · split at h
      · cases h
      · cases h; omega
    · split at h
      · cases h; omega
      · split at h
        · cases h; omega
        · cases h
theorem toks_chain (s : ByteArray) (i : Nat) (l : List Tk) (h : toks s i = .inl (l ++ [⟨3, s.size, s.size⟩])) : Chain s i l := by
  by_cases h1 : nb s i < s.size
  · cases ht : tokAt s (nb s i) with
    | none => rw [toks_bad h1 ht] at h; cases h
    | some x =>
      obtain ⟨k, j⟩ := x
      have g1 := nb_ge s i
      have g2 := tokAt_gt h1 ht
      rw [toks_more h1 ht] at h
      rcases toks_shape s j with ⟨l2, hl⟩ | ⟨e, he⟩
      · rw [hl] at h
        simp only [Sum.inl.injEq] at h
        have e : l = ⟨k, nb s i, j⟩ :: l2 := by
          have := congrArg List.dropLast h
          rw [← List.cons_append, List.dropLast_concat, List.dropLast_concat] at this
          exact this.symm
        subst e
        exact ⟨g1, g2.1, g2.2, tokAt_k ht, ht, nb_idem s i, toks_chain s j l2 hl⟩
      · rw [he] at h; cases h
  · rw [toks_end h1] at h
    have e : l = [] := by
      have := congrArg (fun z => match z with | Sum.inl m => m.length | _ => 0) h
      simp at this
      exact this
    subst e
    trivial
termination_by s.size - i
theorem chain_mem {s : ByteArray} {i : Nat} {l : List Tk} (h : Chain s i l) : ∀ x ∈ l, i ≤ x.a ∧ x.a < x.b ∧ x.b ≤ s.size ∧ x.k < 3 := by
  induction l generalizing i with
  | nil => intro x hx; cases hx
  | cons y r ih =>
    obtain ⟨h1, h2, h3, h4, _, _, h5⟩ := h
    intro x hx
    rcases List.mem_cons.1 hx with rfl | hx
    · exact ⟨h1, h2, h3, h4⟩
    · have := ih h5 x hx; exact ⟨by omega, this.2⟩
/-! Two texts with a line feed between. -/
def nl : ByteArray := ⟨#[10]⟩
theorem join_size (a b : ByteArray) : (a ++ nl ++ b).size = a.size + 1 + b.size := by rw [ByteArray.size_append, ByteArray.size_append]; rfl
theorem join_left (a b : ByteArray) {m : Nat} (h : m < a.size) : by_ (a ++ nl ++ b) m = by_ a m := by
  rw [by_left (by rw [ByteArray.size_append]; omega), by_left h]
theorem join_mid (a b : ByteArray) : by_ (a ++ nl ++ b) a.size = 10 := by
  rw [by_left (by rw [ByteArray.size_append]; show a.size < a.size + 1; omega), by_right (i := a.size) (j := 0) (by show 0 < 1; omega) rfl]; rfl
theorem join_right (a b : ByteArray) {m : Nat} (h : m < b.size) : by_ (a ++ nl ++ b) (a.size + 1 + m) = by_ b m := by
  rw [by_right h (by rw [ByteArray.size_append]; rfl)]
theorem toks_joined (a b : ByteArray) : match toks a 0 with
    | .inr e => e < a.size ∧ toks (a ++ nl ++ b) 0 = .inr e
    | .inl x => match toks b 0 with
      | .inr f => f < b.size ∧ toks (a ++ nl ++ b) 0 = .inr (f + (a.size + 1))
      | .inl y => toks (a ++ nl ++ b) 0 = .inl (x.dropLast ++ y.map (Tk.sh 0 (a.size + 1))) := by
  have h1 := toks_shift (s := a) (t := a ++ nl ++ b) a.size 0 0 (by omega) (fun m hm => ⟨by rw [join_size]; omega, by rw [Nat.zero_add, join_left a b hm]⟩) (.inr (by rw [Nat.zero_add]; exact join_mid a b))
  have h2 := toks_shift (s := b) (t := a ++ nl ++ b) b.size 0 (a.size + 1) (by omega) (fun m hm => ⟨by rw [join_size]; omega, by rw [Nat.zero_add]; exact join_right a b hm⟩) (.inl (by rw [join_size]; omega))
  have e1 : toks (a ++ nl ++ b) (0 + a.size) = toks (a ++ nl ++ b) (a.size + 1) := by
    rw [Nat.zero_add]
    exact toks_of_nb (nb_blank (by rw [join_size]; omega) (by rw [join_mid]; rfl))
  rw [e1] at h1
  have e2 : toks (a ++ nl ++ b) (a.size + 1 + b.size) = .inl [⟨3, (a ++ nl ++ b).size, (a ++ nl ++ b).size⟩] := by
    apply toks_end
    rw [join_size, nb_end (by rw [join_size]; omega)]; omega
  rw [e2] at h2
  rcases toks_shape a 0 with ⟨l, hl⟩ | ⟨e, he⟩
  · rw [hl] at h1 ⊢
    simp only at h1 ⊢
    have hc := toks_chain a 0 l hl
    have hid : (l ++ [({ k := 3, a := a.size, b := a.size } : Tk)]).dropLast.map (Tk.sh 0 0) = (l ++ [({ k := 3, a := a.size, b := a.size } : Tk)]).dropLast := by
      apply List.map_id''; intro x; rfl
    rw [hid] at h1
    rcases toks_shape b 0 with ⟨m, hm⟩ | ⟨f, hf⟩
    · rw [hm] at h2 ⊢
      simp only at h2 ⊢
      rw [h1, h2]
      simp only [onto, List.dropLast_concat, List.map_append, List.map_cons, List.map_nil, Tk.sh, join_size, Nat.sub_zero]
      rw [show b.size + (a.size + 1) = a.size + 1 + b.size by omega]
    · rw [hf] at h2 ⊢
      simp only at h2 ⊢
      rw [h1, h2.2]
      exact ⟨h2.1, by simp only [onto, Nat.sub_zero]⟩
  · rw [he] at h1 ⊢
    exact h1
theorem join_ext_left (a b : ByteArray) {p q : Nat} (h : p ≤ q) (hq : q ≤ a.size) : (a ++ nl ++ b).extract p q = a.extract p q := by
  obtain ⟨n, rfl⟩ : ∃ n, q = p + n := ⟨q - p, by omega⟩
  exact ext_same hq (by rw [join_size]; omega) (fun m hm => join_left a b (by omega))
theorem join_ext_right (a b : ByteArray) {p q : Nat} (h : p ≤ q) (hq : q ≤ b.size) : (a ++ nl ++ b).extract (p - 0 + (a.size + 1)) (q - 0 + (a.size + 1)) = b.extract p q := by
  obtain ⟨n, rfl⟩ : ∃ n, q = p + n := ⟨q - p, by omega⟩
  have := ext_same (s := b) (t := a ++ nl ++ b) (i := p) (u := a.size + 1 + p) (n := n) hq (by rw [join_size]; omega) (fun m hm => by rw [Nat.add_assoc]; exact join_right a b (by omega))
  rw [← this]
  congr 1 <;> omega
/-! The tokens of a text, one behind the other, with something between. -/
def wove (s z : ByteArray) : List Tk → ByteArray
  | [] => ⟨#[]⟩
  | x :: r => s.extract x.a x.b ++ z ++ wove s z r
/-- Something that may stand between. -/
def Gap (z : ByteArray) : Prop := (z.size = 1 ∧ by_ z 0 = 32) ∨ (z.size = 4 ∧ by_ z 0 = 35 ∧ by_ z 1 = 32 ∧ by_ z 2 = 120 ∧ by_ z 3 = 10)
theorem nb_gap {z : ByteArray} (hz : Gap z) (t : ByteArray) (u : Nat) (hu : u + z.size ≤ t.size) (hb : ∀ m, m < z.size → by_ t (u + m) = by_ z m) : nb t u = nb t (u + z.size) := by
  rcases hz with ⟨h1, h2⟩ | ⟨h1, h2, h3, h4, h5⟩
  · have := hb 0 (by omega)
    rw [h1]
    exact nb_blank (by omega) (by rw [show by_ t u = 32 by rw [← h2]; exact this]; rfl)
  · have b0 := hb 0 (by omega)
    have b1 := hb 1 (by omega)
    have b2 := hb 2 (by omega)
    have b3 := hb 3 (by omega)
    rw [h2] at b0; rw [h3] at b1; rw [h4] at b2; rw [h5] at b3
    rw [Nat.add_zero] at b0
    rw [nb_mark (by omega) b0]
    have e : rp inLine t u = u + 3 := by
      rw [rp_go (by omega) (by rw [b0]; rfl), rp_go (by omega) (by rw [b1]; rfl), rp_go (by omega) (by rw [show u + 1 + 1 = u + 2 from rfl, b2]; rfl)]
      exact rp_stop (by rintro ⟨_, h⟩; rw [show u + 1 + 1 + 1 = u + 3 from rfl, b3] at h; exact absurd h (by decide))
    rw [e, h1]
    exact nb_blank (by omega) (by rw [b3]; rfl)
theorem gap_sep {z : ByteArray} (hz : Gap z) : 0 < z.size ∧ sep (by_ z 0) = true := by
  rcases hz with ⟨h1, h2⟩ | ⟨h1, h2, _⟩
  · exact ⟨by omega, by rw [h2]; rfl⟩
  · exact ⟨by omega, by rw [h2]; rfl⟩
theorem ext_size {s : ByteArray} {a b : Nat} (h : b ≤ s.size) : (s.extract a b).size = b - a := by rw [ByteArray.size_extract]; omega
theorem nb_first {s : ByteArray} {i : Nat} (h : i < s.size) (e : nb s i = i) : blank (by_ s i) = false ∧ by_ s i ≠ 35 := by
  constructor
  · cases hb : blank (by_ s i) with
    | false => rfl
    | true => rw [nb_blank h hb] at e; have := nb_ge s (i + 1); omega
  · intro hb
    rw [nb_mark h hb] at e
    have := rp_gt (p := inLine) h (by rw [hb]; rfl)
    have := nb_ge s (rp inLine s i)
    omega
theorem not_letter_digit {c : Nat} (h : digit c = true) : letter c = false := by
  simp [digit, letter] at h ⊢
  omega
theorem tok_hyps {s : ByteArray} {i k j : Nat} (ht : tokAt s i = some (k, j)) : (letter (by_ s i) = true → rp (fun c => letter c || digit c) s i ≤ j) ∧ (digit (by_ s i) = true → rp digit s i ≤ j) ∧ (letter (by_ s i) = false → digit (by_ s i) = false → pair s i = true → i + 2 ≤ j) := by
  unfold tokAt at ht
  refine ⟨fun h => ?_, fun h => ?_, fun h1 h2 h3 => ?_⟩
  · rw [if_pos h] at ht; cases ht; exact Nat.le_refl _
  · rw [if_neg (by simp [not_letter_digit h]), if_pos h] at ht
    split at ht
    · cases ht
    · cases ht; exact Nat.le_refl _
  · rw [if_neg (by simp [h1]), if_neg (by simp [h2]), if_pos h3] at ht
    cases ht; exact Nat.le_refl _
theorem pair_not {s : ByteArray} {i : Nat} (h : pair s i = true) : letter (by_ s i) = false ∧ digit (by_ s i) = false := by
  simp [pair] at h
  rcases h.2 with ⟨h1, _⟩ | ⟨h1, _⟩ <;> rw [h1] <;> exact ⟨rfl, rfl⟩
theorem toks_wove {s z : ByteArray} (hz : Gap z) : ∀ (l : List Tk) (i : Nat), Chain s i l → ∀ X : ByteArray, ∃ m, toks (X ++ wove s z l) X.size = .inl m ∧ m.map (fun y => (y.k, (X ++ wove s z l).extract y.a y.b)) = l.map (fun x => (x.k, s.extract x.a x.b)) ++ [(3, ⟨#[]⟩)] := by
  intro l
  induction l with
  | nil =>
    intro i _ X
    have e : (X ++ wove s z []).size = X.size := by rw [ByteArray.size_append]; rfl
    refine ⟨[⟨3, X.size, X.size⟩], ?_, ?_⟩
    · rw [toks_end (by rw [nb_end (by omega)]; omega), e]
    · simp only [List.map_cons, List.map_nil, List.nil_append, List.cons.injEq, Prod.mk.injEq, true_and, and_true]
      apply ba_ext
      · rw [ByteArray.size_extract]; show _ = 0; omega
      · intro q hq
        rw [ByteArray.size_extract] at hq
        omega
  | cons x r ih =>
    intro i hc X
    obtain ⟨h1, h2, h3, h4, h5, h6, h7⟩ := hc
    obtain ⟨m, hm1, hm2⟩ := ih x.b h7 (X ++ s.extract x.a x.b ++ z)
    have et : X ++ wove s z (x :: r) = X ++ s.extract x.a x.b ++ z ++ wove s z r := by
      show X ++ (s.extract x.a x.b ++ z ++ wove s z r) = _
      rw [← ByteArray.append_assoc, ← ByteArray.append_assoc]
    rw [et]
    generalize hT : X ++ s.extract x.a x.b ++ z ++ wove s z r = T at hm1 hm2 ⊢
    have es := ext_size (s := s) (a := x.a) (b := x.b) h3
    have sz : T.size = X.size + (x.b - x.a) + z.size + (wove s z r).size := by rw [← hT, ByteArray.size_append, ByteArray.size_append, ByteArray.size_append, es]
    have hb : ∀ q, q < x.b - x.a → X.size + q < T.size ∧ by_ T (X.size + q) = by_ s (x.a + q) := by
      intro q hq
      refine ⟨by omega, ?_⟩
      rw [← hT, by_left (by rw [ByteArray.size_append, ByteArray.size_append, es]; omega), by_left (by rw [ByteArray.size_append, es]; omega), by_right (by rw [es]; exact hq) rfl, by_extract hq h3]
    have hbz : ∀ q, q < z.size → by_ T (X.size + (x.b - x.a) + q) = by_ z q := by
      intro q hq
      rw [← hT, by_left (by rw [ByteArray.size_append, ByteArray.size_append, es]; omega), by_right hq (by rw [ByteArray.size_append, es])]
    obtain ⟨gz1, gz2⟩ := gap_sep hz
    obtain ⟨t1, t2, t3⟩ := tok_hyps h5
    have hfirst := nb_first (by omega) h6
    have b0 := hb 0 (by omega)
    rw [Nat.add_zero, Nat.add_zero] at b0
    have hnb : nb T X.size = X.size := nb_stop b0.1 (by rw [b0.2]; exact hfirst.1) (by rw [b0.2]; exact hfirst.2)
    have htk := tok_shift (s := s) (t := T) (i := x.a) (u := X.size) (n := x.b - x.a) (by omega) (by omega) hb (.inr (by
      have := hbz 0 gz1
      rw [Nat.add_zero] at this
      rw [this]; exact gz2)) (fun h => by have := t1 h; omega) (fun h => by have := t2 h; omega) (fun h => by have := t3 (pair_not h).1 (pair_not h).2 h; omega)
    rw [h5] at htk
    simp only [Option.map_some] at htk
    have hg := nb_gap hz T (X.size + (x.b - x.a)) (by omega) hbz
    have eX : (X ++ s.extract x.a x.b ++ z).size = X.size + (x.b - x.a) + z.size := by rw [ByteArray.size_append, ByteArray.size_append, es]
    rw [eX] at hm1
    have e1 : toks T (X.size + (x.b - x.a)) = .inl m := by rw [toks_of_nb hg]; exact hm1
    have htk2 : tokAt T (nb T X.size) = some (x.k, X.size + (x.b - x.a)) := by rw [hnb, htk, show x.b - x.a + X.size = X.size + (x.b - x.a) by omega]
    refine ⟨⟨x.k, X.size, X.size + (x.b - x.a)⟩ :: m, ?_, ?_⟩
    · rw [toks_more (by rw [hnb]; exact b0.1) htk2, e1, hnb]
    · rw [List.map_cons, hm2, List.map_cons, List.cons_append]
      congr 1
      congr 1
      have := ext_same (s := s) (t := T) (i := x.a) (u := X.size) (n := x.b - x.a) (by omega) (by omega) (fun q hq => (hb q hq).2)
      rw [this, show x.a + (x.b - x.a) = x.b by omega]
theorem rp_all {p : Nat → Bool} {s : ByteArray} (n : Nat) : ∀ i, i + n = s.size → (∀ m, i ≤ m → m < s.size → p (by_ s m) = true) → rp p s i = s.size := by
  induction n with
  | zero => intro i hi _; rw [rp_stop (by omega)]; omega
  | succ n ih => intro i hi h; rw [rp_go (by omega) (h i (by omega) (by omega))]; exact ih (i + 1) (by omega) (fun m h1 h2 => h m (by omega) h2)
theorem nb_all {s : ByteArray} (n : Nat) : ∀ i, i + n = s.size → (∀ m, i ≤ m → m < s.size → by_ s m = 32) → nb s i = s.size := by
  induction n with
  | zero => intro i hi _; rw [nb_end (by omega)]; omega
  | succ n ih => intro i hi h; rw [nb_blank (by omega) (by rw [h i (by omega) (by omega)]; rfl)]; exact ih (i + 1) (by omega) (fun m h1 h2 => h m (by omega) h2)
theorem toks_blank {s : ByteArray} (h : ∀ m, m < s.size → by_ s m = 32) : toks s 0 = .inl [⟨3, s.size, s.size⟩] := by
  apply toks_end; rw [nb_all s.size 0 (by omega) (fun m _ h2 => h m h2)]; omega
/-- Digits alone. -/
theorem toks_digits {s : ByteArray} (h0 : 0 < s.size) (h : ∀ m, m < s.size → by_ s m = 55) : toks s 0 = if 18 < s.size then .inr 0 else .inl [⟨1, 0, s.size⟩, ⟨3, s.size, s.size⟩] := by
  have e0 := h 0 h0
  have hn : nb s 0 = 0 := nb_stop h0 (by rw [e0]; rfl) (by rw [e0]; decide)
  have hr : rp digit s 0 = s.size := rp_all s.size 0 (by omega) (fun m _ h2 => by rw [h m h2]; rfl)
  have ht : tokAt s (nb s 0) = if 18 < s.size then none else some (1, s.size) := by
    rw [hn]; unfold tokAt
    rw [if_neg (by rw [e0]; decide), if_pos (by rw [e0]; rfl), hr, Nat.sub_zero]
  by_cases h18 : 18 < s.size
  · rw [if_pos h18] at ht ⊢
    rw [toks_bad (by omega) ht, hn]
  · rw [if_neg h18] at ht ⊢
    rw [toks_more (by omega) ht, toks_end (by rw [nb_end (by omega)]; omega), hn]
/-- A letter, and digits. -/
theorem toks_word {s : ByteArray} (h0 : 0 < s.size) (hl : by_ s 0 = 110) (h : ∀ m, 0 < m → m < s.size → by_ s m = 55) : toks s 0 = .inl [⟨0, 0, s.size⟩, ⟨3, s.size, s.size⟩] ∧ rp (fun c => letter c || digit c) s 0 = s.size := by
  have hn : nb s 0 = 0 := nb_stop h0 (by rw [hl]; rfl) (by rw [hl]; decide)
  have hr : rp (fun c => letter c || digit c) s 0 = s.size := rp_all s.size 0 (by omega) (fun m _ h2 => by
    by_cases hm : m = 0
    · subst hm; rw [hl]; rfl
    · rw [h m (by omega) h2]; rfl)
  have ht : tokAt s (nb s 0) = some (0, s.size) := by
    rw [hn]; unfold tokAt
    rw [if_pos (by rw [hl]; rfl), hr]
  refine ⟨?_, hr⟩
  rw [toks_more (by omega) ht, toks_end (by rw [nb_end (by omega)]; omega), hn]
end BallLex
