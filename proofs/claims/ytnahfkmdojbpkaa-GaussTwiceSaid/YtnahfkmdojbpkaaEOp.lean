import Derived.Test.YtnahfkmdojbpkaaEMc
import Derived.ChangeArms
import Derived.ChangeSame
import Derived.Lib.SmallJoins
import Derived.ChangeOld
import Derived.Below
/-! What came in, opened: cells that read as data of a type are what an encoder prints. -/
set_option linter.all false
namespace Go.Eng
open Go Go.RowKit Go.ChangeShapes Go.WideShapes
variable {α β : Type} {P : Program}
def MW (W : World) (b i : Nat) (v : Value) : Prop := W.cell? ⟨b, i, none⟩ = some v ∧ v.oneCell' = true
/-- A row of values that reads so. -/
def PRl (M : Nat → Nat → Value → Prop) : List PV → List Value → Prop
  | [], [] => True
  | p :: ps, v :: vs => (PR M p v ∧ v.oneCell' = true) ∧ PRl M ps vs
  | _, _ => False
theorem PRl.len {M : Nat → Nat → Value → Prop} : ∀ {ps : List PV} {vs : List Value}, PRl M ps vs → ps.length = vs.length
  | [], [], _ => rfl
  | _ :: _, _ :: _, h => by simp [PRl.len h.2]
  | [], _ :: _, h => h.elim
  | _ :: _, [], h => h.elim
theorem PRl.app {M : Nat → Nat → Value → Prop} : ∀ {ps qs : List PV} {vs us : List Value}, PRl M ps vs → PRl M qs us → PRl M (ps ++ qs) (vs ++ us)
  | [], _, [], _, _, h => h
  | _ :: _, _, _ :: _, _, h, h' => ⟨h.1, PRl.app h.2 h'⟩
  | [], _, _ :: _, _, h, _ => h.elim
  | _ :: _, _, [], _, h, _ => h.elim
theorem PRl.mono {M M' : Nat → Nat → Value → Prop} (hm : ∀ b i v, M b i v → M' b i v) : ∀ {ps : List PV} {vs : List Value}, PRl M ps vs → PRl M' ps vs
  | [], [], h => h
  | _ :: _, _ :: _, h => ⟨⟨PR.mono hm _ _ h.1.1, h.1.2⟩, PRl.mono hm h.2⟩
  | [], _ :: _, h => h.elim
  | _ :: _, [], h => h.elim
theorem PRl.vrs {M : Nat → Nat → Value → Prop} {G : Heap} {R : RMap} {d : Nat} : ∀ {ps : List PV} {vs : List Value}, PRl M ps vs → VRs M G R d (ps.map .p) vs
  | [], [], _ => by unfold VRs; trivial
  | _ :: _, _ :: _, h => by rw [List.map_cons]; unfold VRs; exact ⟨by unfold VR; exact h.1.1, PRl.vrs h.2⟩
  | [], _ :: _, h => h.elim
  | _ :: _, [], h => h.elim
theorem PRl.one {M : Nat → Nat → Value → Prop} : ∀ {ps : List PV} {vs : List Value}, PRl M ps vs → ∀ v ∈ vs, v.oneCell' = true
  | [], [], _, _, h => by cases h
  | _ :: _, _ :: _, h, v, hv => by
    rcases List.mem_cons.1 hv with rfl | hv
    · exact h.1.2
    · exact PRl.one h.2 v hv
  | [], _ :: _, h, _, _ => h.elim
  | _ :: _, [], h, _, _ => h.elim
theorem PRl.prs {W : World} {b : Nat} : ∀ {ps : List PV} {vs : List Value} {o : Nat}, PRl (MW W) ps vs → (∀ (j : Nat) (u : Value), vs[j]? = some u → W.cell? ⟨b, o + j, none⟩ = some u) → PRs (MW W) ps b o
  | [], [], _, _, _ => by unfold PRs; trivial
  | _ :: _, v :: _, o, h, hc => by
    unfold PRs
    refine ⟨⟨v, ⟨by simpa using hc 0 v rfl, h.1.2⟩, h.1.1⟩, PRl.prs h.2 fun j u hj => ?_⟩
    have := hc (j + 1) u (by simpa using hj)
    rwa [show o + (j + 1) = o + 1 + j from by omega] at this
  | [], _ :: _, _, h, _ => h.elim
  | _ :: _, [], _, h, _ => h.elim
/-- Cells that read as data of type t are what E prints of a value of which ok holds. -/
def Opens (P : Program) (t : TypeId) (E : α → List PV) (ok : α → Prop) : Prop :=
  ∀ (H : Type) (enc : TypeId × Value → H) (W : World) (base : Nat) (spare : Nat → Bool) (held : Bool) (fuel : Nat) (cs : List Value) (x : DataW H × List MemPlace), DataW.trod enc P W base spare held fuel t cs = some x → (x.1.weights P t).all (· ≤ reachBytes) = true → ∃ a, PRl (MW W) (E a) cs ∧ ok a
theorem opens_int {t : TypeId} {k : IntKind} (ht : P.underlying t = some (.int k)) : Opens P t (fun n => [.int k n]) (fun n => (Lit.int k n).wf = true) := by
  intro H enc W base spare held fuel cs x h hwt
  obtain ⟨n, rfl, _, hw⟩ := DataW.trod_int ht h
  exact ⟨n, ⟨⟨by unfold PR; rfl, rfl⟩, trivial⟩, hw⟩
theorem opens_bool {t : TypeId} (ht : P.underlying t = some .bool) : Opens P t (fun b => [.bool b]) (fun _ => True) := by
  intro H enc W base spare held fuel cs x h hwt
  obtain ⟨b, rfl, _⟩ := DataW.trod_bool ht h
  exact ⟨b, ⟨⟨by unfold PR; rfl, rfl⟩, trivial⟩, trivial⟩
theorem opens_string {t : TypeId} (ht : P.underlying t = some .string) : Opens P t (fun s => [.str s]) (fun s => s.size ≤ 140737488351232) := by
  intro H enc W base spare held fuel cs x h hwt
  obtain ⟨s, rfl, hx, hs⟩ := DataW.trod_string ht h
  refine ⟨s, ⟨⟨by unfold PR; rfl, rfl⟩, trivial⟩, ?_⟩
  rw [hx] at hwt
  simp [DataW.weights, reachBytes] at hwt
  exact of_decide_eq_true hwt
theorem add_add (a : Addr) (x y : Nat) : (a.add x).add y = a.add (x + y) := by
  unfold Addr.add
  by_cases hx : x = 0
  · subst hx; simp
  · by_cases hy : y = 0
    · subst hy; simp
    · rw [if_neg hx, if_neg hy, if_neg (by omega)]
      simp only [Addr.mk.injEq, and_true, true_and]
      omega
theorem cells_get {W : World} {base : Nat} {a : Addr} {n : Nat} {c : List Value} (h : W.cells? base a n = some c) : c.length = n ∧ ∀ (j : Nat) (u : Value), c[j]? = some u → W.cell? (a.add j) = some u := by
  unfold World.cells? at h
  split at h
  · refine ⟨by simpa using mapM_some_length h, fun j u hj => ?_⟩
    have hl := mapM_some_length h
    have hjl : j < c.length := (List.getElem?_eq_some_iff.1 hj).1
    have := mapM_some_get h j j (by rw [List.getElem?_range]; rw [hl] at hjl; simpa using hjl)
    rw [this]; exact hj
  · cases h
theorem cell_spot {W : World} {a : Addr} {v : Value} (h : W.cell? a = some v) : a.spot = none := by
  unfold World.cell? at h
  split at h
  · split at h
    · cases h
    · rename_i hn; simpa using hn
  · cases h
theorem add_none {b o n : Nat} : (Addr.mk b o none).add n = ⟨b, o + n, none⟩ := by
  unfold Addr.add
  by_cases h : n = 0
  · subst h; rfl
  · rw [if_neg h]
theorem add_spot {a : Addr} {n : Nat} (h : (a.add n).spot = none) (hn : n = 0) : a = ⟨a.block, a.off, none⟩ := by
  subst hn
  unfold Addr.add at h
  rw [if_pos rfl] at h
  cases a
  simp only at h
  rw [h]
/-- The elements of a slice. -/
theorem opens_rows {e : TypeId} {E : α → List PV} {ok : α → Prop} (he : Opens P e E ok) (hsz : ∀ a, (E a).length = P.cellsOf e) {H : Type} {enc : TypeId × Value → H} {W : World} {base : Nat} {spare : Nat → Bool} {held : Bool} {n b o : Nat} :
    ∀ (elems : List (DataW H × List MemPlace)) (k : Nat), (∀ i, i < elems.length → (W.cells? base ((Addr.mk b o none).add ((k + i) * P.cellsOf e)) (P.cellsOf e)).bind (DataW.trod enc P W base spare held n e) = elems[i]?) → (DataW.weightsAll P e (elems.map (·.1))).all (· ≤ reachBytes) = true →
    ∃ l : List α, l.length = elems.length ∧ (∀ x ∈ l, ok x) ∧ PRss (MW W) (l.map E) b (o + k * P.cellsOf e) (P.cellsOf e)
  | [], k, _, _ => ⟨[], rfl, by simp, by rw [List.map_nil]; unfold PRss; trivial⟩
  | d :: ds, k, h, hwt => by
    rw [List.map_cons] at hwt
    unfold DataW.weightsAll at hwt
    rw [List.all_append, Bool.and_eq_true] at hwt
    have h0 := h 0 (by simp)
    rw [List.getElem?_cons_zero, Nat.add_zero] at h0
    obtain ⟨c, hc, ht⟩ := Option.bind_eq_some_iff.1 h0
    obtain ⟨x, hx, hok⟩ := he H enc W base spare held n c _ ht hwt.1
    obtain ⟨c1, c2⟩ := cells_get hc
    obtain ⟨l, h1, h2, h3⟩ := opens_rows he hsz ds (k + 1) (fun i hi => by
      have := h (i + 1) (by simpa using hi)
      rw [List.getElem?_cons_succ] at this
      rwa [show k + 1 + i = k + (i + 1) from by omega]) hwt.2
    refine ⟨x :: l, by simp [h1], fun y hy => ?_, ?_⟩
    · rcases List.mem_cons.1 hy with rfl | hy
      · exact hok
      · exact h2 y hy
    · rw [List.map_cons]
      unfold PRss
      refine ⟨⟨hsz x, PRl.prs hx fun j u hj => ?_⟩, ?_⟩
      · have := c2 j u hj
        rwa [add_none, add_none] at this
      · rwa [show o + k * P.cellsOf e + P.cellsOf e = o + (k + 1) * P.cellsOf e from by rw [Nat.add_mul, Nat.one_mul, Nat.add_assoc]]
theorem opens_slice {t e : TypeId} {E : α → List PV} {ok : α → Prop} (he : Opens P e E ok) (hsz : ∀ a, (E a).length = P.cellsOf e) (hpos : 0 < P.cellsOf e) {k : Nat} (hk : P.bytesOf e = k) (ht : P.underlying t = some (.slice e)) : Opens P t (fun l : List α => [.sl (l.map E)]) (fun l : List α => l.length * k ≤ 140737488351232 ∧ ∀ x ∈ l, ok x) := by
  intro H enc W base spare held fuel cs x h hwt
  rcases DataW.trod_slice ht h with ⟨rfl, _⟩ | ⟨a, len, cap, elems, rest, n, _, rfl, hx, hb, hl, hm, hlen, hel, _⟩
  · exact ⟨[], ⟨⟨by unfold PR; exact ⟨none, 0, rfl, Nat.le_refl _, fun _ => rfl, fun h => absurd rfl h⟩, rfl⟩, trivial⟩, by simp, by simp⟩
  · subst hlen
    rw [hx] at hwt
    unfold DataW.weights at hwt
    rw [ht] at hwt
    simp only [List.all_cons, List.all_append, Bool.and_eq_true, List.length_map, decide_eq_true_eq, hk] at hwt
    obtain ⟨hw0, hw1, _⟩ := hwt
    by_cases hne : elems = []
    · subst hne
      exact ⟨[], ⟨⟨by unfold PR; exact ⟨some a, cap, rfl, Nat.zero_le _, fun h => (by cases h), fun h => absurd rfl h⟩, rfl⟩, trivial⟩, by simp, by simp⟩
    · have hp : 0 < elems.length := List.length_pos_iff.2 hne
      have ha : a = ⟨a.block, a.off, none⟩ := by
        have h0 := hel 0 hp
        rw [List.getElem?_eq_getElem hp] at h0
        obtain ⟨c, hc, _⟩ := Option.bind_eq_some_iff.1 h0
        obtain ⟨c1, c2⟩ := cells_get hc
        obtain ⟨u, hu⟩ : ∃ u, c[0]? = some u := ⟨c[0], List.getElem?_eq_getElem (by omega)⟩
        have := cell_spot (c2 0 u hu)
        rw [Nat.zero_mul, add_add] at this
        exact add_spot this rfl
      rw [ha] at hel
      obtain ⟨l, h1, h2, h3⟩ := opens_rows he hsz (b := a.block) (o := a.off) elems 0 (fun i hi => by rw [Nat.zero_add]; exact hel i hi) hw1
      rw [Nat.zero_mul, Nat.add_zero] at h3
      refine ⟨l, ⟨⟨?_, rfl⟩, trivial⟩, by
        rw [h1]
        have : elems.length * k ≤ (elems.length + rest.length) * k := Nat.mul_le_mul_right _ (Nat.le_add_right _ _)
        unfold reachBytes at hw0
        omega, h2⟩
      unfold PR
      refine ⟨some a, cap, by rw [List.length_map, h1], by rw [List.length_map, h1]; exact hl, fun h => (by cases h), fun _ => ⟨a.block, a.off, P.cellsOf e, by rw [← ha], h3⟩⟩
/-- Fields from a place on. -/
def OpensF (P : Program) (fs : List Field) (off tot : Nat) (E : α → List PV) (ok : α → Prop) : Prop :=
  ∀ (H : Type) (enc : TypeId × Value → H) (W : World) (base : Nat) (spare : Nat → Bool) (held : Bool) (fuel : Nat) (cs : List Value) (xs : List (DataW H × List MemPlace)), cs.length = tot →
    (fs.mapM fun f => DataW.trod enc P W base spare held fuel f.type ((cs.drop f.offset).take (P.cellsOf f.type))) = some xs → (DataW.weightsEach P (fs.map (·.type)) (xs.map (·.1))).all (· ≤ reachBytes) = true → ∃ a, PRl (MW W) (E a) (cs.drop off) ∧ ok a
theorem opensF_nil {off : Nat} : OpensF P [] off off (fun _ : Unit => []) (fun _ => True) := by
  intro H enc W base spare held fuel cs xs hl h hwt
  exact ⟨(), by rw [List.drop_of_length_le (by omega)]; trivial, trivial⟩
theorem opensF_cons {f : Field} {fs : List Field} {off tot k : Nat} {E : α → List PV} {E' : β → List PV} {ok : α → Prop} {ok' : β → Prop} (h0 : Opens P f.type E ok) (h1 : OpensF P fs (off + k) tot E' ok') (ho : f.offset = off) (hk : P.cellsOf f.type = k) :
    OpensF P (f :: fs) off tot (fun x : α × β => E x.1 ++ E' x.2) (fun x => ok x.1 ∧ ok' x.2) := by
  intro H enc W base spare held fuel cs xs hl h hwt
  rw [List.mapM_cons] at h
  obtain ⟨y, hy, h⟩ := Option.bind_eq_some_iff.1 h
  obtain ⟨ys, hys, h⟩ := Option.bind_eq_some_iff.1 h
  cases h
  rw [List.map_cons, List.map_cons] at hwt
  unfold DataW.weightsEach at hwt
  rw [List.all_append, Bool.and_eq_true] at hwt
  obtain ⟨a, ha, oa⟩ := h0 H enc W base spare held fuel _ _ hy hwt.1
  obtain ⟨b, hb, ob⟩ := h1 H enc W base spare held fuel cs ys hl hys hwt.2
  refine ⟨(a, b), ?_, oa, ob⟩
  have := PRl.app ha hb
  rw [ho, hk] at this
  rwa [show (cs.drop off).take k ++ cs.drop (off + k) = cs.drop off from by rw [← List.drop_drop, List.take_append_drop]] at this
theorem opens_struct {t : TypeId} {fs : Array Field} {E : α → List PV} {ok : α → Prop} {l : List Field} {n : Nat} (hn : P.cellsOf t = n) (h : OpensF P l 0 n E ok) (ht : P.underlying t = some (.struct fs)) (hl : fs.toList = l) : Opens P t E ok := by
  intro H enc W base spare held fuel cs x hx hwt
  cases fuel with
  | zero => simp [DataW.trod] at hx
  | succ m =>
    unfold DataW.trod at hx
    rw [ht] at hx
    simp only [hl] at hx
    split at hx
    · rename_i hlen
      obtain ⟨xs, hxs, hxe⟩ := Option.map_eq_some_iff.1 hx
      rw [← hxe] at hwt
      unfold DataW.weights at hwt
      rw [ht] at hwt
      simp only [hl] at hwt
      obtain ⟨a, ha, oa⟩ := h H enc W base spare held m cs xs (hlen.trans hn) hxs hwt
      exact ⟨a, by rwa [List.drop_zero] at ha, oa⟩
    · cases hx
theorem opens_iso {t : TypeId} {E : α → List PV} {E' : β → List PV} {ok : α → Prop} (h : Opens P t E ok) (f : β → α) (g : α → β) (hE : ∀ a, E a = E' (g a)) (hg : ∀ a, f (g a) = a) : Opens P t E' (fun y => ok (f y)) := by
  intro H enc W base spare held fuel cs x hx hwt
  obtain ⟨a, ha, oa⟩ := h H enc W base spare held fuel cs x hx hwt
  exact ⟨g a, by rw [← hE]; exact ha, by show ok (f (g a)); rw [hg]; exact oa⟩
theorem mw_mem {W : World} {X : XS} {R : RMap} (hX : ∀ b i, ¬ X.off b i) (b i : Nat) (v : Value) (h : MW W b i v) : Mem X 0 empty R W b i v :=
  ⟨h.1, h.2, hX b i, fun κ o _ hg => by rw [get_empty] at hg; cases hg⟩
/-- A struct that came in by value. -/
theorem opens_arg {t : TypeId} {E : α → List PV} {ok : α → Prop} (h : Opens P t E ok) {fs : Array Field} (hs : P.underlying t = some (.struct fs)) {H : Type} {enc : TypeId × Value → H} {W : World} {base : Nat} {spare : Nat → Bool} {held : Bool} {r : Reach} {b0 : Nat} {v : Value} {dd : DataW H} {p : List MemPlace}
    (hv : Value.okWide P W r b0 t v) (hd : DataW.Trod enc P W base spare held t v dd p) (hwt : (dd.weights P t).all (· ≤ reachBytes) = true) : ∃ a, (∀ M, (∀ b i v, MW W b i v → M b i v) → ∀ G R d, VR M G R d (.agg ((E a).map .p)) v) ∧ ok a := by
  obtain ⟨cs, rfl, hsz⟩ := okWide_struct hs hv
  obtain ⟨fuel, hf⟩ := hd
  obtain ⟨a, ha, oa⟩ := h H enc W base spare held fuel _ _ hf hwt
  have ha' : PRl (MW W) (E a) cs.toList := by simpa [Value.cells] using ha
  refine ⟨a, fun M hm G R d => ?_, oa⟩
  unfold VR
  exact ⟨cs.toList, rfl, PRl.one ha', PRl.vrs (PRl.mono hm ha')⟩
/-- A value of one cell that came in. -/
theorem opens_arg1 {t : TypeId} {E : α → PV} {ok : α → Prop} (h : Opens P t (fun a => [E a]) ok) {H : Type} {enc : TypeId × Value → H} {W : World} {base : Nat} {spare : Nat → Bool} {held : Bool} {v : Value} {dd : DataW H} {p : List MemPlace}
    (hc : v.cells = #[v]) (hd : DataW.Trod enc P W base spare held t v dd p) (hwt : (dd.weights P t).all (· ≤ reachBytes) = true) : ∃ a, (∀ M, (∀ b i v, MW W b i v → M b i v) → ∀ G R d, VR M G R d (.p (E a)) v) ∧ ok a := by
  obtain ⟨fuel, hf⟩ := hd
  obtain ⟨a, ha, oa⟩ := h H enc W base spare held fuel _ _ hf hwt
  rw [hc] at ha
  exact ⟨a, fun M hm G R d => by unfold VR; exact PR.mono hm _ _ ha.1.1, oa⟩
def X0 : XS := ⟨fun _ _ => False, fun _ => none⟩
def T0 : Nat → Option Obj := fun _ => none
theorem sim0 (R : RMap) (W : World) : Sim X0 0 empty R W :=
  have no : ∀ {κ : Key} {o : Obj'}, get empty κ = some o → False := fun h => by rw [get_empty] at h; cases h
  ⟨fun _ _ _ _ _ _ h => (no h).elim, fun _ _ _ h => (no h).elim, fun _ _ h => h.elim, fun _ _ _ h => (no h).elim, fun _ _ h => by cases h⟩
/-- A law that answers so, in the machine's words. -/
theorem law_calls {f : FuncId} {fn : Func} (hfn : P.funcs[f]? = some fn) (hb : fn.body.isNone = false) (hn : (fn.name == "runtime.NumGoroutine") = false) {args : List GV} {b : Bool} {vals : Array Value} {W : World} (h : Tel P T0 0 f args empty (.p (.bool b)) empty)
    (hv : ∀ M, (∀ b i v, MW W b i v → M b i v) → ∀ G R d, VRs M G R d args vals.toList) : Calls P f vals W fun e W' => e = .returned (.bool b) ∧ Below W.heap.size W W' := by
  have hR : RMap := fun _ => ⟨0, 0, 0, 0⟩
  rcases known_Tel 0 f args empty (.p (.bool b)) empty h X0 hR W vals.toList (fun _ _ h => h) (sim0 hR W) (hv _ (mw_mem fun _ _ h => h) _ _ _) 0 rfl rfl with ⟨_, hc⟩ | ⟨v, w', hr, _⟩
  · refine hc.mono fun e w' ⟨v, he, R', hst, hvr⟩ => ⟨?_, ?_⟩
    · unfold adopt VR at hvr
      unfold PR at hvr
      rw [he, hvr]
    · have g := hst.bare_grows
      exact ⟨g.env.1, g.env.2.1, g.env.2.2, g.size, g.old⟩
  · exfalso
    have he : (callFunc f vals).run P W = .ok (.enter f vals) W := by
      unfold callFunc
      go_simp
      rw [if_neg (by simpa using hn), if_neg (by intro e; rw [e] at hb; cases hb)]
    rw [show vals.toList.toArray = vals from by simp] at hr
    rw [he] at hr
    cases hr
end Go.Eng
