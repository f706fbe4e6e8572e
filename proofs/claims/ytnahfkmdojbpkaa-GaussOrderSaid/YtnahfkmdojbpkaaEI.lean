import Derived.Test.YtnahfkmdojbpkaaEH
/-! The engine, part I: appends. -/
set_option linter.all false
namespace Go.Eng
section
variable {X : XS} {P : Program} {G : Heap} {R : RMap} {d : Nat} {w : World}

/-- The cells of a list of elements, one behind the other. -/
def Cells (M : Nat → Nat → Value → Prop) (es : List (List PV)) (n : Nat) (cs : List Value) : Prop :=
  cs.length = es.length * n ∧ (∀ v ∈ cs, v.oneCell' = true) ∧ ∀ i e, es[i]? = some e → e.length = n ∧ ∀ j c, e[j]? = some c → ∃ v, cs[i * n + j]? = some v ∧ PR M c v
theorem Cells.app {M : Nat → Nat → Value → Prop} {es xs : List (List PV)} {n : Nat} {cs us : List Value} (h : Cells M es n cs) (h' : Cells M xs n us) : Cells M (es ++ xs) n (cs ++ us) := by
  obtain ⟨h1, h2, h3⟩ := h
  obtain ⟨h4, h5, h6⟩ := h'
  refine ⟨by simp [h1, h4, Nat.add_mul], fun v hv => ?_, fun i e hi => ?_⟩
  · rcases List.mem_append.1 hv with hv | hv
    · exact h2 v hv
    · exact h5 v hv
  · rw [List.getElem?_append] at hi
    split at hi
    · rename_i hlt
      obtain ⟨h7, h8⟩ := h3 i e hi
      refine ⟨h7, fun j c hj => ?_⟩
      obtain ⟨v, h9, h10⟩ := h8 j c hj
      refine ⟨v, ?_, h10⟩
      rw [List.getElem?_append_left (List.getElem?_eq_some_iff.1 h9).1]
      exact h9
    · rename_i hge
      obtain ⟨h7, h8⟩ := h6 (i - es.length) e hi
      refine ⟨h7, fun j c hj => ?_⟩
      obtain ⟨v, h9, h10⟩ := h8 j c hj
      refine ⟨v, ?_, h10⟩
      have e1 : es.length * n + (i - es.length) * n = i * n := by rw [← Nat.add_mul]; congr 1; omega
      rw [List.getElem?_append_right (by rw [h1]; omega), h1, show i * n + j - es.length * n = (i - es.length) * n + j by omega]
      exact h9
theorem Cells.of {M Q : Nat → Nat → Value → Prop} {es : List (List PV)} {n b o : Nat} (hn : 0 < n)
    (h : ∀ i e, es[i]? = some e → e.length = n ∧ ∀ j c, e[j]? = some c → ∃ v, Q b (o + i * n + j) v ∧ v.oneCell' = true ∧ PR M c v) :
    ∃ cs, Cells M es n cs ∧ ∀ k v, cs[k]? = some v → Q b (o + k) v := by
  obtain ⟨cs, h1, h2⟩ := exists_list (Pr := fun k v => Q b (o + k) v ∧ v.oneCell' = true ∧ ∀ i j e c, k = i * n + j → es[i]? = some e → e[j]? = some c → PR M c v) (es.length * n) (fun k hk => by
    have hq : k / n < es.length := Nat.div_lt_of_lt_mul (by rw [Nat.mul_comm]; exact hk)
    obtain ⟨h3, h4⟩ := h (k / n) es[k / n] (List.getElem?_eq_getElem hq)
    have hm : k % n < n := Nat.mod_lt _ hn
    obtain ⟨v, h5, h6, h7⟩ := h4 (k % n) _ (List.getElem?_eq_getElem (by rw [h3]; exact hm))
    have hk' : k / n * n + k % n = k := by rw [Nat.mul_comm]; exact Nat.div_add_mod k n
    refine ⟨v, by rwa [Nat.add_assoc, hk'] at h5, h6, fun i j e c hij he hc => ?_⟩
    have hjn : j < n := by
      have := (h i e he).1
      have := (List.getElem?_eq_some_iff.1 hc).1
      omega
    have hi : i = k / n := by
      rw [hij, Nat.add_comm, Nat.add_mul_div_right _ _ hn, Nat.div_eq_of_lt hjn, Nat.zero_add]
    have hj : j = k % n := by
      rw [hij, Nat.add_comm, Nat.add_mul_mod_self_right, Nat.mod_eq_of_lt hjn]
    subst hi hj
    rw [List.getElem?_eq_getElem hq] at he
    cases he
    rw [List.getElem?_eq_getElem (by rw [h3]; exact hm)] at hc
    cases hc
    exact h7)
  refine ⟨cs, ⟨h1, fun v hv => ?_, fun i e hi => ⟨(h i e hi).1, fun j c hj => ?_⟩⟩, fun k v hv => (h2 k v hv).1⟩
  · obtain ⟨k, hk⟩ := List.getElem?_of_mem hv
    exact (h2 k v hk).2.1
  · have hi' := (List.getElem?_eq_some_iff.1 hi).1
    have hj' := (List.getElem?_eq_some_iff.1 hj).1
    have hlt : i * n + j < cs.length := by
      rw [h1]
      have := (h i e hi).1
      have : (i + 1) * n ≤ es.length * n := Nat.mul_le_mul_right _ hi'
      rw [Nat.add_mul] at this
      omega
    exact ⟨cs[i * n + j], List.getElem?_eq_getElem hlt, (h2 _ _ (List.getElem?_eq_getElem hlt)).2.2 i j e c rfl hi hj⟩
theorem sl_cells {es : List (List PV)} {n : Nat} {a : Option Addr} {cap : Nat} (hn : 0 < n) (hs : sizes es n) (hp : PR (Mem X d G R w) (.sl es) (.slice a es.length cap)) :
    ∃ cs, Cells (Mem X d G R w) es n cs ∧ (a = none → es = []) ∧ ∀ b, a = some b → ∀ k v, cs[k]? = some v → w.cell? (b.add k) = some v := by
  unfold PR at hp
  obtain ⟨a', cap', e, h1, h2, h3⟩ := hp
  injection e with e1 e2 e3
  subst e1 e3
  cases es with
  | nil => exact ⟨[], ⟨by simp, fun v hv => by simp at hv, fun i e hi => by simp at hi⟩, fun _ => rfl, fun b _ k v hk => by simp at hk⟩
  | cons e0 es =>
    obtain ⟨b, o, sz, rfl, hss⟩ := h3 (by simp)
    have hsz : sz = n := by rw [← (PRss.get hss (i := 0) rfl).1]; exact hs e0 (by simp)
    subst hsz
    obtain ⟨cs, h4, h5⟩ := Cells.of (M := Mem X d G R w) (Q := fun b i v => w.cell? ⟨b, i, none⟩ = some v) (es := e0 :: es) (n := sz) (b := b) (o := o) hn (fun i e hi => by
      obtain ⟨h6, h7⟩ := PRss.get hss hi
      refine ⟨h6, fun j c hj => ?_⟩
      obtain ⟨v, h8, h9⟩ := PRs.get h7 hj
      exact ⟨v, h8.1, h8.2.1, h9⟩)
    refine ⟨cs, h4, fun h => by (cases h), fun b' hb k v hk => ?_⟩
    cases hb
    rw [Addr.add_mid]
    exact h5 k v hk
theorem src_sound (hs : Sim X d G R w) {tx : TypeId} {n : Nat} {g : GV} {x : Value} {xs : List (List PV)} (hn : 0 < n) (hz : sizes xs n) (hx : VR (Mem X d G R w) G R d g x) (h : srcOf P G tx n g = some xs) :
    ∃ news, Cells (Mem X d G R w) xs n news ∧ Src P n tx x xs.length news w := by
  have sl : ∀ (es : List (List PV)), PR (Mem X d G R w) (.sl es) x → sizes es n → isSl P tx = true → ∃ news, Cells (Mem X d G R w) es n news ∧ Src P n tx x es.length news w := by
    intro es hp hz ht
    obtain ⟨e, hu⟩ := isSl_spec ht
    have hp' := hp
    unfold PR at hp'
    obtain ⟨a, cap, rfl, _⟩ := hp'
    obtain ⟨cs, h1, h2, h3⟩ := sl_cells hn hz hp
    refine ⟨cs, h1, ?_⟩
    cases a with
    | none =>
      have := h2 rfl
      subst this
      have hcs : cs = [] := List.eq_nil_of_length_eq_zero (by simpa using h1.1)
      subst hcs
      exact Src.ofNil w hu cap
    | some ad => exact Src.ofSlice w hu ad es.length cap cs h1.1 (h3 ad rfl) h1.2.1
  unfold srcOf at h
  split at h
  · rename_i s
    split at h
    case isFalse => cases h
    rename_i hc
    obtain ⟨ht, rfl⟩ := hc
    cases h
    have hx' := VR.p_iff.1 hx
    unfold PR at hx'
    subst hx'
    have hl : (List.map (fun b : UInt8 => [PV.int .u8 (b.toNat : Int)]) s.data.toList).length = s.size := by
      rw [List.length_map, Array.length_toList]; rfl
    refine ⟨byteCells s, ⟨by rw [hl, byteCells_length]; omega, fun v hv => ?_, fun i e hi => ?_⟩, by rw [hl]; exact Src.ofString w (isStr_spec ht) s⟩
    · obtain ⟨_, _, rfl⟩ := List.mem_map.1 hv; rfl
    · rw [List.getElem?_map] at hi
      cases hq : s.data.toList[i]? with
      | none => rw [hq] at hi; cases hi
      | some q =>
        rw [hq] at hi
        cases hi
        refine ⟨rfl, fun j c hj => ?_⟩
        cases j with
        | zero =>
          simp at hj
          subst hj
          refine ⟨.int .u8 q.toNat, ?_, by unfold PR; rfl⟩
          unfold byteCells
          rw [List.getElem?_map, Nat.mul_one, Nat.add_zero, hq]; rfl
        | succ j => simp at hj
  · rename_i κ m sz
    split at h
    case isFalse => cases h
    rename_i ht
    split at h
    case h_2 => cases h
    rename_i es hg
    split at h
    case isFalse => cases h
    rename_i hm
    cases h
    obtain ⟨e, hu⟩ := isSl_spec ht
    unfold VR at hx
    obtain ⟨hk, rfl, es0, hg0, _, b, o, c, rfl, ha⟩ := hx
    have e0 : xs = es0 := by rw [hg] at hg0; injection hg0 with e; injection e
    subst e0
    obtain ⟨rfl, rfl, rfl⟩ := ha hm
    obtain ⟨cs, T, h1, hcap, hsize, h4⟩ := hs.obj κ _ hk hg
    subst hm
    have hszn : ∀ i e, xs[i]? = some e → (R κ).sz = n := fun i e hi => by
      rw [← (h4 i e hi).1]; exact hz e (List.mem_of_getElem? hi)
    cases hxs : xs with
    | nil =>
      refine ⟨[], ⟨by simp, fun v hv => by simp at hv, fun i e hi => by simp at hi⟩, ?_⟩
      exact Src.ofSlice w hu _ 0 _ [] (by simp) (fun j u hj => by simp at hj) (fun u hu => by simp at hu)
    | cons x0 xr =>
      have hsz := hszn 0 x0 (by rw [hxs]; rfl)
      rw [← hxs]
      obtain ⟨us, h5, h6⟩ := Cells.of (M := Mem X d G R w) (Q := fun b i v => w.cell? ⟨b, i, none⟩ = some v) (es := xs) (n := n) (b := (R κ).b) (o := (R κ).o) hn (fun i e hi => by
        obtain ⟨h6, h7⟩ := h4 i e hi
        refine ⟨h6.trans hsz, fun j c hj => ?_⟩
        obtain ⟨v, h8, h9, h10⟩ := h7 j c hj
        exact ⟨v, by rw [cell_of_row w _ _ cs T _ h1, ← hsz]; exact h8, h9, h10⟩)
      exact ⟨us, h5, Src.ofSlice w hu _ _ _ us h5.1 (fun j u hj => by rw [Addr.add_mid]; exact h6 j u hj) h5.2.1⟩
  · split at h
    case isFalse => cases h
    rename_i ht
    exact sl xs (hx.elems h) hz ht

theorem setKey_same {κ : Key} {o : Obj'} (h : get G κ = some o) : setKey G κ o = G := by
  funext a b
  unfold setKey
  split
  · rename_i e
    obtain ⟨rfl, rfl⟩ := e
    unfold Eng.get at h
    apply List.ext_getElem?
    intro i
    rw [List.getElem?_set]
    split
    · rename_i e
      subst e
      obtain ⟨h1, h2⟩ := List.getElem?_eq_some_iff.1 h
      rw [if_pos h1, h]
    · rfl
  · rfl
/-- What lies in a new row that stays. -/
theorem PR.row {M : Nat → Nat → Value → Prop} {es : List (List PV)} {n b len cap : Nat} {cs : List Value} {C : Array Value} (hl : es.length = len) (hcap : len ≤ cap) (hc : Cells M es n cs) {M' : Nat → Nat → Value → Prop} (hmono : ∀ b i v, M b i v → M' b i v)
    (hC : ∀ (k : Nat) (v : Value), cs[k]? = some v → C[k]? = some v) (hM : ∀ (k : Nat) (v : Value), k < len * n → C[k]? = some v → v.oneCell' = true → M' b k v) : PR M' (.sl es) (.slice (some ⟨b, 0, none⟩) len cap) := by
  unfold PR
  refine ⟨_, cap, by rw [hl], by rw [hl]; exact hcap, (fun h => by cases h), fun _ => ⟨b, 0, n, rfl, PRss.of_get fun i e hi => ?_⟩⟩
  obtain ⟨h1, h2, h3⟩ := hc
  obtain ⟨h4, h5⟩ := h3 i e hi
  refine ⟨h4, PRs.of_get fun j c hj => ?_⟩
  obtain ⟨v, h6, h7⟩ := h5 j c hj
  rw [Nat.zero_add]
  have hlt := (List.getElem?_eq_some_iff.1 h6).1
  exact ⟨v, hM _ v (by rw [← hl, ← h1]; exact hlt) (hC _ v h6) (h2 v (List.mem_of_getElem? h6)), PR.mono hmono c v h7⟩
/-- The cells of a row that is written. -/
theorem arr_cells (hs : Sim X d G R w) {κ : Key} {es : List (List PV)} (hk : κ.1 ≤ d) (hg : get G κ = some (.arr es)) (hn : 0 < (R κ).sz) :
    ∃ us, Cells (Mem X d G R w) es (R κ).sz us ∧ ∀ j u, us[j]? = some u → w.cell? ⟨(R κ).b, (R κ).o + j, none⟩ = some u := by
  obtain ⟨cs, T, h1, hcap, hsize, h4⟩ := hs.obj κ _ hk hg
  obtain ⟨us, h5, h6⟩ := Cells.of (M := Mem X d G R w) (Q := fun b i v => w.cell? ⟨b, i, none⟩ = some v) (es := es) (n := (R κ).sz) (b := (R κ).b) (o := (R κ).o) hn (fun i e hi => by
    obtain ⟨h6, h7⟩ := h4 i e hi
    refine ⟨h6, fun j c hj => ?_⟩
    obtain ⟨v, h8, h9, h10⟩ := h7 j c hj
    exact ⟨v, by rw [cell_of_row w _ _ cs T _ h1]; exact h8, h9, h10⟩)
  exact ⟨us, h5, h6⟩
/-- Onto a row that is written. -/
theorem append_arr (hs : Sim X d G R w) {t tx ty e : TypeId} {i : TypeInfo} {z : Value} {n bytes : Nat} (ht : P.underlying t = some (.slice e)) (hi : P.info? e = some i) (hz : i.zero = some z) (hzn : z.cells.size = n) (hin : i.size = n) (hby : i.bytes = bytes) (hn0 : 0 < n) (hb0 : 0 < bytes)
    {κ : Key} {es xs : List (List PV)} (hk : κ.1 ≤ d) (hgt : get G κ = some (.arr es)) (hsz : (R κ).sz = n) {y : Value} {news : List Value} (hnews : Cells (Mem X d G R w) xs n news) (hsrc : Src P n tx y xs.length news w)
    (hB : (es.length + xs.length) * bytes ≤ 140737488355328) :
    ∃ rv w' R', (Builtin.append_ #[t, tx] ty #[.slice (some ⟨(R κ).b, (R κ).o, none⟩) es.length (R κ).cap, y]).run P w = .ok rv w' ∧ Step X d G R w (setKey G κ (.arr (es ++ xs))) R' w' ∧
      VR (Mem X d (setKey G κ (.arr (es ++ xs))) R' w') (setKey G κ (.arr (es ++ xs))) R' d (.arr κ (es.length + xs.length) n) rv := by
  obtain ⟨cs, T, h1, hcap, hsize, h4⟩ := hs.obj κ _ hk hgt
  by_cases hne : xs = []
  · subst hne
    have hnil : news = [] := List.eq_nil_of_length_eq_zero (by simpa using hnews.1)
    subst hnil
    refine ⟨.slice (some ⟨(R κ).b, (R κ).o, none⟩) es.length (R κ).cap, w, R, ?_, ?_, ?_⟩
    · have hc := hsrc.cells
      rcases hsrc.kind with ⟨e', hk'⟩ | hk' <;> simp [Builtin.append_, run_underlying ht, run_underlying hk', sizeOf, typeInfo, hi, hsrc.len, hin, hcap] <;> (simp at hc; simp [hc, storeCells])
    · rw [List.append_nil, setKey_same hgt]; exact Step.refl hs
    · rw [List.append_nil, setKey_same hgt]
      unfold VR
      exact ⟨hk, hsz, es, hgt, by simp, _, _, _, rfl, fun _ => ⟨rfl, rfl, rfl⟩⟩
  have hxl : 0 < xs.length := List.length_pos_iff.2 hne
  have hlen : (es ++ xs).length = es.length + xs.length := by simp
  obtain ⟨olds, holds, hcell⟩ := arr_cells hs hk hgt (by omega)
  rw [hsz] at holds
  have hcells := holds.app hnews
  by_cases hroom : es.length + xs.length ≤ (R κ).cap
  · have hfit : (R κ).o + es.length * n + news.length ≤ cs.size := by
      have h2 : (es.length + xs.length) * n ≤ (R κ).cap * n := Nat.mul_le_mul_right _ hroom
      rw [Nat.add_mul] at h2
      rw [hsz] at hsize
      have := hnews.1
      omega
    have hrun := run_append_room_src (P := P) w t tx ty e i ht hi (R κ).b (R κ).o es.length (R κ).cap y xs.length news (by rw [hin]; exact hsrc) hroom
      (fun j hj => by rw [hin, cell_of_row w _ _ cs T _ h1, Array.getElem?_eq_getElem (by omega)]; rfl) (fun j hj => frozen_of_row w _ _ cs T h1)
    rw [hin] at hrun
    have hrow := setCells_row P w (R κ).b ((R κ).o + es.length * n) T cs news h1 hfit hnews.2.1
    rw [hrow] at hrun
    have hC : ∀ k : Nat, (cs.toList.take ((R κ).o + es.length * n) ++ news ++ cs.toList.drop ((R κ).o + es.length * n + news.length)).toArray[k]? =
        if (R κ).o + es.length * n ≤ k ∧ k < (R κ).o + es.length * n + news.length then news[k - ((R κ).o + es.length * n)]? else cs[k]? := fun k => by
      simp only [List.getElem?_toArray, List.getElem?_append, List.length_append, List.length_take, Array.length_toList, List.getElem?_take, List.getElem?_drop, Array.getElem?_toList]
      have hm : min ((R κ).o + es.length * n) cs.size = (R κ).o + es.length * n := by omega
      rw [hm]
      by_cases c1 : k < (R κ).o + es.length * n
      · rw [if_pos (by omega), if_pos c1, if_pos c1, if_neg (by omega)]
      · by_cases c2 : k < (R κ).o + es.length * n + news.length
        · rw [if_pos (by omega), if_neg c1, if_pos (by omega)]
        · rw [if_neg (by omega), if_neg (by omega)]
          congr 1; omega
    have hold : ∀ b, b < w.heap.size → b ≠ (R κ).b → (w.setRow (R κ).b (cs.toList.take ((R κ).o + es.length * n) ++ news ++ cs.toList.drop ((R κ).o + es.length * n + news.length)).toArray).heap[b]? = w.heap[b]? := fun b _ hb => setRow_other w _ _ _ hb
    obtain ⟨hs', hx'⟩ := hs.arrGrow (R' := R) hk hgt (es' := es ++ xs) (by omega) (w' := w.setRow (R κ).b (cs.toList.take ((R κ).o + es.length * n) ++ news ++ cs.toList.drop ((R κ).o + es.length * n + news.length)).toArray)
      (by simp) (fun _ _ => rfl) (.inl rfl) rfl hold (setRow_heap w _ _ _ _ _ h1) (by rw [hlen]; exact hroom) (Nat.le_trans hsize (by simp; omega)) (fun q ee hq => by
        rw [hsz]
        rw [List.getElem?_append] at hq
        split at hq
        · rename_i hql
          obtain ⟨h5, h6⟩ := h4 q ee hq
          rw [hsz] at h5 h6
          refine ⟨h5, fun j c hj => ?_⟩
          obtain ⟨v, h7, h8, h9⟩ := h6 j c hj
          have hjl := (List.getElem?_eq_some_iff.1 hj).1
          have h2 : (q + 1) * n ≤ es.length * n := Nat.mul_le_mul_right _ hql
          rw [Nat.add_mul] at h2
          exact ⟨v, by rw [hC, if_neg (by omega)]; exact h7, h8, h9⟩
        · rename_i hql
          obtain ⟨h5, h6⟩ := hnews.2.2 _ ee hq
          refine ⟨h5, fun j c hj => ?_⟩
          obtain ⟨v, h7, h8⟩ := h6 j c hj
          have hvl := (List.getElem?_eq_some_iff.1 h7).1
          have hq1 : (q - es.length) * n + es.length * n = q * n := by rw [← Nat.add_mul]; congr 1; omega
          refine ⟨v, ?_, hnews.2.1 v (List.mem_of_getElem? h7), h8⟩
          rw [hC, if_pos (by omega), show (R κ).o + q * n + j - ((R κ).o + es.length * n) = (q - es.length) * n + j by omega]
          exact h7)
    refine ⟨_, _, R, hrun, ⟨hs', hx', Fr.one hk hgt (by simp) hold ⟨rfl, rfl, rfl⟩⟩, ?_⟩
    unfold VR
    exact ⟨hk, hsz, es ++ xs, by rw [get_setKey, if_pos rfl, hgt]; rfl, by simp, _, _, _, rfl, fun _ => ⟨rfl, rfl, rfl⟩⟩
  · have hlt : (R κ).cap < es.length + xs.length := by omega
    have hle : (es.length + xs.length) ≤ (es.length + xs.length) * bytes := Nat.le_mul_of_pos_right _ (by omega)
    have hfc : (Builtin.firstCells i.size es.length (.slice (some ⟨(R κ).b, (R κ).o, none⟩) es.length (R κ).cap)).run P w.drew = .ok olds.toArray w.drew :=
      run_firstCells_some (P := P) w.drew i.size es.length _ _ _ olds (by rw [hin]; exact holds.1) (fun j v hj => by rw [Addr.add_mid]; exact hcell j v (by simpa using hj))
    have hrun := run_append_grow_src (P := P) w t tx ty e i z ht hi hz (some ⟨(R κ).b, (R κ).o, none⟩) es.length (R κ).cap olds hfc y xs.length news (by rw [hin]; exact hsrc) hlt (by omega) (by rw [hby]; exact growslice_fits hlt hB)
    generalize hNC : grownCap w (es.length + xs.length) (R κ).cap e = NC at hrun
    have hNCge : es.length + xs.length ≤ NC := by rw [← hNC]; exact grownCap_ge w _ _ e
    have hg := (Grows.drew w).trans (Grows.alloc w.drew (.cells ((olds ++ news).toArray ++ Builtin.zeroCells z.cells (NC - (es.length + xs.length))) e))
    have hCs : ((olds ++ news).toArray ++ Builtin.zeroCells z.cells (NC - (es.length + xs.length))).size = NC * n := by
      have h1 := hcells.1
      rw [Array.size_append, size_zeroCells, List.size_toArray, h1, hlen, hzn, ← Nat.add_mul]
      congr 1; omega
    have hCget : ∀ k v, (olds ++ news)[k]? = some v → ((olds ++ news).toArray ++ Builtin.zeroCells z.cells (NC - (es.length + xs.length)))[k]? = some v := fun k v hk => by
      have hlt := (List.getElem?_eq_some_iff.1 hk).1
      rw [Array.getElem?_append_left (by simpa using hlt)]
      simpa using hk
    have hr0 : setR R κ ⟨w.heap.size, 0, NC, n⟩ κ = ⟨w.heap.size, 0, NC, n⟩ := by simp [setR]
    obtain ⟨hs', hx'⟩ := hs.arrGrow (R' := setR R κ ⟨w.heap.size, 0, NC, n⟩) hk hgt (es' := es ++ xs) (by omega) (w' := w.drew.alloc (.cells ((olds ++ news).toArray ++ Builtin.zeroCells z.cells (NC - (es.length + xs.length))) e))
      hg.size (fun κ' e' => by unfold setR; rw [if_neg e']) (.inr (by rw [hr0]; exact Nat.le_refl _)) (by rw [hr0]; exact hsz.symm) (fun b hb _ => hg.old b hb) (by rw [hr0]; exact heap_alloc_new w.drew _) (by rw [hr0, hlen]; exact hNCge) (by rw [hr0]; simp only [Nat.zero_add]; exact Nat.le_of_eq hCs.symm) (fun q ee hq => by
        rw [hr0]
        obtain ⟨h5, h6⟩ := hcells.2.2 q ee hq
        refine ⟨h5, fun j c hj => ?_⟩
        obtain ⟨v, h7, h8⟩ := h6 j c hj
        exact ⟨v, by simp only [Nat.zero_add]; exact hCget _ v h7, hcells.2.1 v (List.mem_of_getElem? h7), h8⟩)
    refine ⟨_, _, _, hrun, ⟨hs', hx', ⟨hg.size, fun b hb _ => hg.old b hb, fun κ' o' hk' hg' hlt' => ?_, hg.env⟩⟩, ?_⟩
    · by_cases e0 : κ' = κ
      · subst e0; rw [hr0] at hlt'; simp only at hlt'; omega
      · rw [get_setKey, if_neg e0] at hg'
        exact ⟨κ', o', hk', hg', by unfold setR; rw [if_neg e0]⟩
    · unfold VR
      exact ⟨hk, by rw [hr0], es ++ xs, by rw [get_setKey, if_pos rfl, hgt]; rfl, by simp, _, _, _, rfl, fun _ => by rw [hr0]; exact ⟨rfl, rfl, rfl⟩⟩
theorem append_sound (hs : Sim X d G R w) {A : Ann} {t tx ty : TypeId} {g gx : GV} {x y : Value} {dst : Option Nat} {K : GV → Dl → Prop} (hx : VR (Mem X d G R w) G R d g x) (hy : VR (Mem X d G R w) G R d gx y)
    (h : gAppend P A d G t tx g gx dst K) :
    ∃ v δ rv w' R', K v δ ∧ (Builtin.append_ #[t, tx] ty #[x, y]).run P w = .ok rv w' ∧ Step X d G R w (appD G d dst δ) R' w' ∧ VR (Mem X d (appD G d dst δ) R' w') (appD G d dst δ) R' d v rv := by
  unfold gAppend at h
  split at h
  case h_2 => exact h.elim
  rename_i e n bytes he
  obtain ⟨i, z, ht, hi, hz, hzn, hin, hby, hn0, hb0⟩ := elT_spec he
  split at h
  case h_1 => exact h.elim
  rename_i xs hxs
  split at h
  case h_4 => exact h.elim
  case h_3 =>
    rename_i κ m sz
    obtain ⟨_, h⟩ := h
    split at h
    case h_2 => exact h.elim
    rename_i es hgt
    obtain ⟨rfl, rfl, hzx, hB, hK⟩ := h
    obtain ⟨news, hnews, hsrc⟩ := src_sound hs hn0 hzx hy hxs
    unfold VR at hx
    obtain ⟨hk, hsz, es0, hg0, _, b, o, c, rfl, ha⟩ := hx
    have e0 : es = es0 := by rw [hgt] at hg0; injection hg0 with e; injection e
    subst e0
    obtain ⟨rfl, rfl, rfl⟩ := ha rfl
    obtain ⟨rv, w', R', h1, h2, h3⟩ := append_arr hs (ty := ty) ht hi hz hzn hin hby hn0 hb0 hk hgt hsz hnews hsrc hB
    exact ⟨_, _, rv, w', R', hK, h1, h2, h3⟩
  · rename_i es
    obtain ⟨hze, hzx, hB, h⟩ := h
    obtain ⟨news, hnews, hsrc⟩ := src_sound hs hn0 hzx hy hxs
    unfold VR at hx
    obtain ⟨hp, a, rfl⟩ := hx
    obtain ⟨olds, holds, hnone, hcell⟩ := sl_cells hn0 hze hp
    have hfc : (Builtin.firstCells i.size es.length (.slice a es.length es.length)).run P w.drew = .ok olds.toArray w.drew := by
      cases a with
      | none =>
        have := hnone rfl
        subst this
        have : olds = [] := List.eq_nil_of_length_eq_zero (by simpa using holds.1)
        subst this
        exact run_firstCells_none w.drew i.size 0 0 0
      | some ad => exact run_firstCells_some (P := P) w.drew i.size es.length ad _ _ olds (by rw [hin]; exact holds.1) (fun j v hj => by simpa using hcell ad rfl j v hj)
    -- the growing arm
    have grow : xs ≠ [] → (Builtin.append_ #[t, tx] ty #[.slice a es.length es.length, y]).run P w =
        .ok (.slice (some ⟨w.heap.size, 0, none⟩) (es.length + xs.length) (grownCap w (es.length + xs.length) es.length e))
          (w.drew.alloc (.cells ((olds ++ news).toArray ++ Builtin.zeroCells z.cells (grownCap w (es.length + xs.length) es.length e - (es.length + xs.length))) e)) := fun hne => by
      have hlt : es.length < es.length + xs.length := by have := List.length_pos_iff.2 hne; omega
      have hle : (es.length + xs.length) ≤ (es.length + xs.length) * bytes := Nat.le_mul_of_pos_right _ (by omega)
      exact run_append_grow_src (P := P) w t tx ty e i z ht hi hz a es.length es.length olds hfc y xs.length news (by rw [hin]; exact hsrc) hlt (by omega) (by rw [hby]; exact growslice_fits hlt hB)
    have hCget : ∀ (C : Array Value) k v, (olds ++ news)[k]? = some v → ((olds ++ news).toArray ++ C)[k]? = some v := fun C k v hk => by
      have hlt := (List.getElem?_eq_some_iff.1 hk).1
      rw [Array.getElem?_append_left (by simpa using hlt)]
      simpa using hk
    have hcells := holds.app hnews
    have hlen : (es ++ xs).length = es.length + xs.length := by simp
    by_cases hpure : dstIn A.pureAt dst = true
    · rw [if_pos hpure] at h
      by_cases hne : xs = []
      · subst hne
        have hnil : news = [] := List.eq_nil_of_length_eq_zero (by simpa using hnews.1)
        subst hnil
        refine ⟨_, _, .slice a es.length es.length, w, R, h, ?_, Step.refl hs, ?_⟩
        · cases a with
          | none =>
            have := hnone rfl
            subst this
            have hc := hsrc.cells
            rcases hsrc.kind with ⟨e', hk⟩ | hk <;> simp [Builtin.append_, run_underlying ht, run_underlying hk, sizeOf, typeInfo, hi, hsrc.len, hin] <;> (simp at hc; simp [hc])
          | some ad =>
            have hc := hsrc.cells
            rcases hsrc.kind with ⟨e', hk⟩ | hk <;> simp [Builtin.append_, run_underlying ht, run_underlying hk, sizeOf, typeInfo, hi, hsrc.len, hin] <;> (simp at hc; simp [hc, storeCells])
        · rw [List.append_nil]; exact VR.p_iff.2 hp
      · have hst := Step.grow hs ((Grows.drew w).trans (Grows.alloc w.drew (.cells ((olds ++ news).toArray ++ Builtin.zeroCells z.cells (grownCap w (es.length + xs.length) es.length e - (es.length + xs.length))) e)))
        refine ⟨_, _, _, _, R, h, grow hne, hst, VR.p_iff.2 (PR.row (by simp) (grownCap_ge w _ _ e) hcells hst.ext.mem (hCget _) fun k v _ hk h1 => Mem.new (w := w.drew) (hs.grow (Grows.drew w)) hk h1)⟩
    · rw [if_neg hpure] at h
      by_cases hemp : xs.isEmpty = true
      · rw [if_pos hemp] at h
        have hne : xs = [] := by simpa using hemp
        subst hne
        have hnil : news = [] := List.eq_nil_of_length_eq_zero (by simpa using hnews.1)
        subst hnil
        refine ⟨_, _, .slice a es.length es.length, w, R, h, ?_, Step.refl hs, ?_⟩
        · cases a with
          | none =>
            have := hnone rfl
            subst this
            have hc := hsrc.cells
            rcases hsrc.kind with ⟨e', hk⟩ | hk <;> simp [Builtin.append_, run_underlying ht, run_underlying hk, sizeOf, typeInfo, hi, hsrc.len, hin] <;> (simp at hc; simp [hc])
          | some ad =>
            have hc := hsrc.cells
            rcases hsrc.kind with ⟨e', hk⟩ | hk <;> simp [Builtin.append_, run_underlying ht, run_underlying hk, sizeOf, typeInfo, hi, hsrc.len, hin] <;> (simp at hc; simp [hc, storeCells])
        · unfold VR; exact ⟨hp, a, rfl⟩
      rw [if_neg hemp] at h
      have hne : xs ≠ [] := by simpa using hemp
      by_cases hopen : dstIn A.openAt dst = true
      · rw [if_pos hopen] at h
        obtain ⟨k0, t0, hk0, hf, hK⟩ := h
        have hg := (Grows.drew w).trans (Grows.alloc w.drew (.cells ((olds ++ news).toArray ++ Builtin.zeroCells z.cells (grownCap w (es.length + xs.length) es.length e - (es.length + xs.length))) e))
        have hCs : ((olds ++ news).toArray ++ Builtin.zeroCells z.cells (grownCap w (es.length + xs.length) es.length e - (es.length + xs.length))).size = grownCap w (es.length + xs.length) es.length e * n := by
          have h1 := hcells.1
          have h2 := grownCap_ge w (es.length + xs.length) es.length e
          rw [Array.size_append, size_zeroCells, List.size_toArray, h1, hlen, hzn, ← Nat.add_mul]
          congr 1; omega
        have hst := Step.fillAt hs hg hk0 hf (.arr (es ++ xs)) ⟨w.heap.size, 0, grownCap w (es.length + xs.length) es.length e, n⟩ (Nat.le_refl _)
          (fun G' R' hx hr => ⟨_, e, by rw [hr]; exact heap_alloc_new w.drew _, by rw [hr, hlen]; exact grownCap_ge w _ _ e, by rw [hr]; simp only [Nat.zero_add]; exact Nat.le_of_eq hCs.symm, fun q ee hq => by
            rw [hr]
            obtain ⟨h5, h6⟩ := hcells.2.2 q ee hq
            refine ⟨h5, fun j c hj => ?_⟩
            obtain ⟨v, h7, h8⟩ := h6 j c hj
            exact ⟨v, by simp only [Nat.zero_add]; exact hCget _ _ v h7, hcells.2.1 v (List.mem_of_getElem? h7), PR.mono hx.mem _ _ h8⟩⟩)
        refine ⟨_, _, _, _, _, hK, grow hne, hst, ?_⟩
        unfold VR
        exact ⟨hk0, by simp [setR], _, get_fill_new G k0 t0 _, by simp, _, _, _, rfl, fun _ => by simp [setR]⟩
      rw [if_neg hopen] at h
      by_cases harr : dstIn A.arrAt dst = true
      · rw [if_pos harr] at h
        obtain ⟨hf, hK⟩ := h
        cases dst with
        | none => exact hf.elim
        | some t0 =>
          unfold free at hf
          have hg := (Grows.drew w).trans (Grows.alloc w.drew (.cells ((olds ++ news).toArray ++ Builtin.zeroCells z.cells (grownCap w (es.length + xs.length) es.length e - (es.length + xs.length))) e))
          have hCs : ((olds ++ news).toArray ++ Builtin.zeroCells z.cells (grownCap w (es.length + xs.length) es.length e - (es.length + xs.length))).size = grownCap w (es.length + xs.length) es.length e * n := by
            have h1 := hcells.1
            have h2 := grownCap_ge w (es.length + xs.length) es.length e
            rw [Array.size_append, size_zeroCells, List.size_toArray, h1, hlen, hzn, ← Nat.add_mul]
            congr 1; omega
          have hst := Step.fill hs hg hf (.arr (es ++ xs)) ⟨w.heap.size, 0, grownCap w (es.length + xs.length) es.length e, n⟩ (Nat.le_refl _)
            (fun G' R' hx hr => ⟨_, e, by rw [hr]; exact heap_alloc_new w.drew _, by rw [hr, hlen]; exact grownCap_ge w _ _ e, by rw [hr]; simp only [Nat.zero_add]; exact Nat.le_of_eq hCs.symm, fun q ee hq => by
              rw [hr]
              obtain ⟨h5, h6⟩ := hcells.2.2 q ee hq
              refine ⟨h5, fun j c hj => ?_⟩
              obtain ⟨v, h7, h8⟩ := h6 j c hj
              exact ⟨v, by simp only [Nat.zero_add]; exact hCget _ _ v h7, hcells.2.1 v (List.mem_of_getElem? h7), PR.mono hx.mem _ _ h8⟩⟩)
          refine ⟨_, _, _, _, _, hK, grow hne, hst, ?_⟩
          unfold VR
          exact ⟨Nat.le_refl _, by simp [setR], _, get_fill_new G d t0 _, by simp, _, _, _, rfl, fun _ => by simp [setR]⟩
      rw [if_neg harr] at h
      obtain ⟨hf, hK⟩ := h
      cases dst with
      | none => exact hf.elim
      | some t0 =>
        unfold free at hf
        have hg := (Grows.drew w).trans (Grows.alloc w.drew (.cells ((olds ++ news).toArray ++ Builtin.zeroCells z.cells (grownCap w (es.length + xs.length) es.length e - (es.length + xs.length))) e))
        have hCs : ((olds ++ news).toArray ++ Builtin.zeroCells z.cells (grownCap w (es.length + xs.length) es.length e - (es.length + xs.length))).size = grownCap w (es.length + xs.length) es.length e * n := by
          have h1 := hcells.1
          have h2 := grownCap_ge w (es.length + xs.length) es.length e
          rw [Array.size_append, size_zeroCells, List.size_toArray, h1, hlen, hzn, ← Nat.add_mul]
          congr 1; omega
        have hst := Step.fill hs hg hf (.tok (es.length + xs.length) n) ⟨w.heap.size, 0, grownCap w (es.length + xs.length) es.length e, n⟩ (Nat.le_refl _)
          (fun G' R' hx hr => ⟨⟨_, e, by rw [hr]; exact heap_alloc_new w.drew _, by rw [hr]; exact grownCap_ge w _ _ e, by rw [hr]; simp only [Nat.zero_add]; exact Nat.le_of_eq hCs.symm⟩, by rw [hr]⟩)
        refine ⟨_, _, _, _, _, hK, grow hne, hst, ?_⟩
        unfold VR
        refine ⟨PR.row (by simp) (grownCap_ge w _ _ e) hcells hst.ext.mem (hCget (Builtin.zeroCells z.cells (grownCap w (es.length + xs.length) es.length e - (es.length + xs.length)))) (fun k v hk hkv h1 => ⟨?_, h1, (fun hX => absurd (hs.off _ _ hX) (by omega)), fun κ o hk' hg' hbb => ?_⟩), Nat.le_refl _, _, n, get_fill_new G d t0 _, by rw [hlen]; exact Nat.le_refl _, fun _ => by simp [setR]⟩
        · exact (cell_of_row _ w.heap.size k _ e _ (heap_alloc_new w.drew _)).trans hkv
        · rw [show appD G d (some t0) (.fill [.tok (es.length + xs.length) n]) = fillKey G d t0 [.tok (es.length + xs.length) n] from rfl] at hg'
          by_cases e0 : κ = (d, t0, 0)
          · subst e0
            rw [get_fill_new] at hg'
            cases hg'
            exact ⟨_, _, rfl, by simp only [setR, if_true, Nat.zero_add]; exact hk⟩
          · exfalso
            have hg2 : get G κ = some o := by
              rw [get_fillKey] at hg'
              split at hg'
              · rename_i e1
                exfalso
                apply e0
                obtain ⟨k1, k2, k3⟩ := κ
                simp only at e1
                obtain ⟨rfl, rfl⟩ := e1
                cases k3 with
                | zero => rfl
                | succ k3 => simp at hg'
              · exact hg'
            have := hs.lt hk' hg2
            unfold setR at hbb
            rw [if_neg e0] at hbb
            omega
  · rename_i es κ
    obtain ⟨_, hze, hzx, hB, hgt, hK⟩ := h
    obtain ⟨news, hnews, hsrc⟩ := src_sound hs hn0 hzx hy hxs
    unfold VR at hx
    obtain ⟨hp, hk, m, sz, hg2, hm1, hm2⟩ := hx
    rw [hgt] at hg2
    cases hg2
    have hxe := hm2 rfl
    subst hxe
    obtain ⟨⟨cs, T, h1, hcap, hsize⟩, hsz⟩ := hs.obj κ _ hk hgt
    by_cases hne : xs = []
    · subst hne
      have hnil : news = [] := List.eq_nil_of_length_eq_zero (by simpa using hnews.1)
      subst hnil
      refine ⟨_, _, .slice (some ⟨(R κ).b, (R κ).o, none⟩) es.length (R κ).cap, w, R, hK, ?_, ?_, ?_⟩
      · have hc := hsrc.cells
        rcases hsrc.kind with ⟨e', hk'⟩ | hk' <;> simp [Builtin.append_, run_underlying ht, run_underlying hk', sizeOf, typeInfo, hi, hsrc.len, hin, hcap] <;> (simp at hc; simp [hc, storeCells])
      · simp only [appD, List.length_nil, Nat.add_zero, setKey_same hgt]
        exact Step.refl hs
      · simp only [appD, List.length_nil, Nat.add_zero, setKey_same hgt, List.append_nil]
        unfold VR
        exact ⟨hp, hk, _, n, hgt, Nat.le_refl _, fun _ => rfl⟩
    · have hxl : 0 < xs.length := List.length_pos_iff.2 hne
      obtain ⟨olds, holds, _, hcell⟩ := sl_cells hn0 hze hp
      have hcells := holds.app hnews
      have hlen : (es ++ xs).length = es.length + xs.length := by simp
      by_cases hroom : es.length + xs.length ≤ (R κ).cap
      · -- in its room
        have hfit : (R κ).o + es.length * n + news.length ≤ cs.size := by
          have h2 : (es.length + xs.length) * n ≤ (R κ).cap * n := Nat.mul_le_mul_right _ hroom
          rw [Nat.add_mul] at h2
          rw [hsz] at hsize
          have := hnews.1
          omega
        have hrun := run_append_room_src (P := P) w t tx ty e i ht hi (R κ).b (R κ).o es.length (R κ).cap y xs.length news (by rw [hin]; exact hsrc) hroom
          (fun j hj => by rw [hin, cell_of_row w _ _ cs T _ h1, Array.getElem?_eq_getElem (by omega)]; rfl) (fun j hj => frozen_of_row w _ _ cs T h1)
        rw [hin] at hrun
        have hrow := setCells_row P w (R κ).b ((R κ).o + es.length * n) T cs news h1 hfit hnews.2.1
        rw [hrow] at hrun
        have hC : ∀ k : Nat, (cs.toList.take ((R κ).o + es.length * n) ++ news ++ cs.toList.drop ((R κ).o + es.length * n + news.length)).toArray[k]? =
            if (R κ).o + es.length * n ≤ k ∧ k < (R κ).o + es.length * n + news.length then news[k - ((R κ).o + es.length * n)]? else cs[k]? := fun k => by
          simp only [List.getElem?_toArray, List.getElem?_append, List.length_append, List.length_take, Array.length_toList, List.getElem?_take, List.getElem?_drop, Array.getElem?_toList]
          have hm : min ((R κ).o + es.length * n) cs.size = (R κ).o + es.length * n := by omega
          rw [hm]
          by_cases c1 : k < (R κ).o + es.length * n
          · rw [if_pos (by omega), if_pos c1, if_pos c1, if_neg (by omega)]
          · by_cases c2 : k < (R κ).o + es.length * n + news.length
            · rw [if_pos (by omega), if_neg c1, if_pos (by omega)]
            · rw [if_neg (by omega), if_neg (by omega)]
              congr 1; omega
        have hold : ∀ b, b < w.heap.size → b ≠ (R κ).b → (w.setRow (R κ).b (cs.toList.take ((R κ).o + es.length * n) ++ news ++ cs.toList.drop ((R κ).o + es.length * n + news.length)).toArray).heap[b]? = w.heap[b]? := fun b _ hb => setRow_other w _ _ _ hb
        obtain ⟨hs', hx'⟩ := hs.room hk hgt (n' := es.length + xs.length) (by omega) hroom (w' := w.setRow (R κ).b (cs.toList.take ((R κ).o + es.length * n) ++ news ++ cs.toList.drop ((R κ).o + es.length * n + news.length)).toArray)
          (by simp) hold h1 (setRow_heap w _ _ _ _ _ h1) (by simp; omega) (fun k hk => by rw [hC, if_neg (by rw [hsz] at hk; omega)])
        refine ⟨_, _, _, _, R, hK, hrun, ⟨hs', hx', Fr.one hk hgt (by simp) hold ⟨rfl, rfl, rfl⟩⟩, ?_⟩
        have hp' := PR.mono hx'.mem _ _ hp
        simp only [appD]
        unfold VR
        refine ⟨?_, hk, es.length + xs.length, n, by rw [get_setKey, if_pos rfl, hgt]; rfl, by rw [hlen]; exact Nat.le_refl _, fun _ => rfl⟩
        -- what is read of it
        unfold PR at hp' ⊢
        obtain ⟨a', cap', e1, e2, e3, e4⟩ := hp'
        injection e1 with e5 e6 e7
        subst e5 e7
        refine ⟨_, _, by rw [hlen], by rw [hlen]; exact hroom, (fun h => by cases h), fun _ => ⟨(R κ).b, (R κ).o, n, rfl, PRss.of_get fun q ee hq => ?_⟩⟩
        rw [List.getElem?_append] at hq
        split at hq
        · rename_i hql
          obtain ⟨b0, o0, sz0, e8, e9⟩ := e4 (by rintro rfl; simp at hql)
          cases e8
          have hsz0 : sz0 = n := by
            obtain ⟨ee0, hee0⟩ : ∃ ee0, es[0]? = some ee0 := ⟨es[0]'(by omega), List.getElem?_eq_getElem (by omega)⟩
            rw [← (PRss.get e9 hee0).1]; exact hze ee0 (List.mem_of_getElem? hee0)
          subst hsz0
          exact PRss.get e9 hq
        · rename_i hql
          obtain ⟨h5, h6⟩ := hnews.2.2 _ ee hq
          refine ⟨h5, PRs.of_get fun j c hj => ?_⟩
          obtain ⟨v, h7, h8⟩ := h6 j c hj
          have hjl := (List.getElem?_eq_some_iff.1 hj).1
          have hvl := (List.getElem?_eq_some_iff.1 h7).1
          have hq1 : (q - es.length) * n + es.length * n = q * n := by rw [← Nat.add_mul]; congr 1; omega
          refine ⟨v, ⟨?_, hnews.2.1 v (List.mem_of_getElem? h7), hs.apart κ _ hk hgt _, fun κ' o' hk' hg' hbb => ?_⟩, PR.mono hx'.mem c v h8⟩
          · rw [cell_of_row _ _ _ _ T _ (setRow_heap w _ _ _ _ _ h1), hC, if_pos (by omega), show (R κ).o + q * n + j - ((R κ).o + es.length * n) = (q - es.length) * n + j by omega]
            exact h7
          · have hkk : κ' = κ := by
              refine hs'.inj κ' κ o' (.tok (es.length + xs.length) n) hk' hk hg' (by rw [get_setKey, if_pos rfl, hgt]; rfl) hbb
            subst hkk
            rw [get_setKey, if_pos rfl, hgt] at hg'
            cases hg'
            refine ⟨_, _, rfl, ?_⟩
            rw [hsz]
            have := hnews.1
            rw [Nat.add_mul]
            omega
      · -- a new row
        have hlt : (R κ).cap < es.length + xs.length := by omega
        have hle : (es.length + xs.length) ≤ (es.length + xs.length) * bytes := Nat.le_mul_of_pos_right _ (by omega)
        have hfc : (Builtin.firstCells i.size es.length (.slice (some ⟨(R κ).b, (R κ).o, none⟩) es.length (R κ).cap)).run P w.drew = .ok olds.toArray w.drew :=
          run_firstCells_some (P := P) w.drew i.size es.length _ _ _ olds (by rw [hin]; exact holds.1) (fun j v hj => by simpa using hcell _ rfl j v hj)
        have hrun := run_append_grow_src (P := P) w t tx ty e i z ht hi hz (some ⟨(R κ).b, (R κ).o, none⟩) es.length (R κ).cap olds hfc y xs.length news (by rw [hin]; exact hsrc) hlt (by omega) (by rw [hby]; exact growslice_fits hlt hB)
        generalize hNC : grownCap w (es.length + xs.length) (R κ).cap e = NC at hrun
        have hNCge : es.length + xs.length ≤ NC := by rw [← hNC]; exact grownCap_ge w _ _ e
        have hg := (Grows.drew w).trans (Grows.alloc w.drew (.cells ((olds ++ news).toArray ++ Builtin.zeroCells z.cells (NC - (es.length + xs.length))) e))
        have hCs : ((olds ++ news).toArray ++ Builtin.zeroCells z.cells (NC - (es.length + xs.length))).size = NC * n := by
          have h1 := hcells.1
          rw [Array.size_append, size_zeroCells, List.size_toArray, h1, hlen, hzn, ← Nat.add_mul]
          congr 1; omega
        have hCget : ∀ k v, (olds ++ news)[k]? = some v → ((olds ++ news).toArray ++ Builtin.zeroCells z.cells (NC - (es.length + xs.length)))[k]? = some v := fun k v hk => by
          have hlt := (List.getElem?_eq_some_iff.1 hk).1
          rw [Array.getElem?_append_left (by simpa using hlt)]
          simpa using hk
        obtain ⟨hs', hx'⟩ := hs.anew hk hgt (n' := es.length + xs.length) (by omega) hg ⟨w.heap.size, 0, NC, n⟩ (Nat.le_refl _) (heap_alloc_new w.drew _) hNCge (by simp only [Nat.zero_add]; exact Nat.le_of_eq hCs.symm) rfl
        refine ⟨_, _, _, _, _, hK, hrun, ⟨hs', hx', ⟨hg.size, fun b hb _ => hg.old b hb, fun κ' o' hk' hg' hlt' => ?_, hg.env⟩⟩, ?_⟩
        · by_cases e0 : κ' = κ
          · subst e0; simp only [setR, if_true] at hlt'; omega
          · rw [show appD G d dst (.set κ (.tok (es.length + xs.length) n)) = setKey G κ (.tok (es.length + xs.length) n) from rfl, get_setKey, if_neg e0] at hg'
            exact ⟨κ', o', hk', hg', by unfold setR; rw [if_neg e0]⟩
        · simp only [appD]
          unfold VR
          refine ⟨PR.row (by simp) hNCge hcells hx'.mem hCget (fun k v hkl hkv h1' => ⟨?_, h1', (fun hX => absurd (hs.off _ _ hX) (by omega)), fun κ' o' hk' hg' hbb => ?_⟩), hk, es.length + xs.length, n, by rw [get_setKey, if_pos rfl, hgt]; rfl, by rw [hlen]; exact Nat.le_refl _, fun _ => by simp [setR]⟩
          · exact (cell_of_row _ w.heap.size k _ e _ (heap_alloc_new w.drew _)).trans hkv
          · by_cases e0 : κ' = κ
            · subst e0
              rw [get_setKey, if_pos rfl, hgt] at hg'
              cases hg'
              exact ⟨_, _, rfl, by simp only [setR, if_true, Nat.zero_add]; exact hkl⟩
            · exfalso
              rw [get_setKey, if_neg e0] at hg'
              have := hs.lt hk' hg'
              unfold setR at hbb
              rw [if_neg e0] at hbb
              omega
end
end Go.Eng
