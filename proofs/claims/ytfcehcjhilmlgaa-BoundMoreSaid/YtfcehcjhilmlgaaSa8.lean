import Derived.ChangeArms
import Derived.ChangeSame
import Derived.Lib.SmallJoins
import Derived.ChangeOld
import Derived.Below
import Derived.Test.YtfcehcjhilmlgaaSa7
section
set_option linter.all false
namespace Go.Eng
open Go Go.RowKit Go.ChangeShapes Go.WideShapes
variable {α β : Type} {P : Program}
def MW (W : World) (b i : Nat) (v : Value) : Prop := W.cell? ⟨b, i, none⟩ = some v ∧ v.oneCell' = true
def PRl (M : Nat → Nat → Value → Prop) : List PV → List Value → Prop
  | [], [] => True
  | p :: ps, v :: vs => (PR M p v ∧ v.oneCell' = true) ∧ PRl M ps vs
  | _, _ => False
theorem PRl.len {M : Nat → Nat → Value → Prop} : ∀ {ps : List PV} {vs : List Value}, PRl M ps vs → ps.length = vs.length
  | [], [], _ => rfl
  | _ :: _, _ :: _, h => by simp [PRl.len h.2]
  | [], _ :: _, h => h.elim
  | _ :: _, [], h => h.elim
theorem PRl.app {M : Nat → Nat → Value → Prop} : ∀ {ps qs : List PV} {vs us : List Value}, PRl M ps vs → PRl M qs us → PRl M (ps ++ qs) (vs ++ us)
  | [], _, [], _, _, h => h
  | _ :: _, _, _ :: _, _, h, h' => ⟨h.1, PRl.app h.2 h'⟩
  | [], _, _ :: _, _, h, _ => h.elim
  | _ :: _, _, [], _, h, _ => h.elim
theorem PRl.mono {M M' : Nat → Nat → Value → Prop} (hm : ∀ b i v, M b i v → M' b i v) : ∀ {ps : List PV} {vs : List Value}, PRl M ps vs → PRl M' ps vs
  | [], [], h => h
  | _ :: _, _ :: _, h => ⟨⟨PR.mono hm _ _ h.1.1, h.1.2⟩, PRl.mono hm h.2⟩
  | [], _ :: _, h => h.elim
  | _ :: _, [], h => h.elim
theorem PRl.vrs {M : Nat → Nat → Value → Prop} {G : Heap} {R : RMap} {d : Nat} : ∀ {ps : List PV} {vs : List Value}, PRl M ps vs → VRs M G R d (ps.map .p) vs
  | [], [], _ => by unfold VRs; trivial
  | _ :: _, _ :: _, h => by rw [List.map_cons]; unfold VRs; exact ⟨by unfold VR; exact h.1.1, PRl.vrs h.2⟩
  | [], _ :: _, h => h.elim
  | _ :: _, [], h => h.elim
theorem PRl.one {M : Nat → Nat → Value → Prop} : ∀ {ps : List PV} {vs : List Value}, PRl M ps vs → ∀ v ∈ vs, v.oneCell' = true
  | [], [], _, _, h => by cases h
  | _ :: _, _ :: _, h, v, hv => by
    rcases List.mem_cons.1 hv with rfl | hv
    · exact h.1.2
    · exact PRl.one h.2 v hv
  | [], _ :: _, h, _, _ => h.elim
  | _ :: _, [], h, _, _ => h.elim
theorem PRl.prs {W : World} {b : Nat} : ∀ {ps : List PV} {vs : List Value} {o : Nat}, PRl (MW W) ps vs → (∀ (j : Nat) (u : Value), vs[j]? = some u → W.cell? ⟨b, o + j, none⟩ = some u) → PRs (MW W) ps b o
  | [], [], _, _, _ => by unfold PRs; trivial
  | _ :: _, v :: _, o, h, hc => by
    unfold PRs
    refine ⟨⟨v, ⟨by simpa using hc 0 v rfl, h.1.2⟩, h.1.1⟩, PRl.prs h.2 fun j u hj => ?_⟩
    have := hc (j + 1) u (by simpa using hj)
    rwa [show o + (j + 1) = o + 1 + j from by omega] at this
  | [], _ :: _, _, h, _ => h.elim
  | _ :: _, [], _, h, _ => h.elim
def Opens (P : Program) (t : TypeId) (E : α → List PV) (ok : α → Prop) : Prop :=
  ∀ (H : Type) (enc : TypeId × Value → H) (W : World) (base : Nat) (spare : Nat → Bool) (held : Bool) (fuel : Nat) (cs : List Value) (x : DataW H × List MemPlace), DataW.trod enc P W base spare held fuel t cs = some x → (x.1.weights P t).all (· ≤ reachBytes) = true → ∃ a, PRl (MW W) (E a) cs ∧ ok a
theorem opens_int {t : TypeId} {k : IntKind} (ht : P.underlying t = some (.int k)) : Opens P t (fun n => [.int k n]) (fun n => (Lit.int k n).wf = true) := by
  intro H enc W base spare held fuel cs x h hwt
  obtain ⟨n, rfl, _, hw⟩ := DataW.trod_int ht h
  exact ⟨n, ⟨⟨by unfold PR; rfl, rfl⟩, trivial⟩, hw⟩
theorem add_add (a : Addr) (x y : Nat) : (a.add x).add y = a.add (x + y) := by
  unfold Addr.add
  by_cases hx : x = 0
  · subst hx; simp
  · by_cases hy : y = 0
    · subst hy; simp
    · rw [if_neg hx, if_neg hy, if_neg (by omega)]
      simp only [Addr.mk.injEq, and_true, true_and]
      omega
theorem cells_get {W : World} {base : Nat} {a : Addr} {n : Nat} {c : List Value} (h : W.cells? base a n = some c) : c.length = n ∧ ∀ (j : Nat) (u : Value), c[j]? = some u → W.cell? (a.add j) = some u := by
  unfold World.cells? at h
  split at h
  · refine ⟨by simpa using mapM_some_length h, fun j u hj => ?_⟩
    have hl := mapM_some_length h
    have hjl : j < c.length := (List.getElem?_eq_some_iff.1 hj).1
    have := mapM_some_get h j j (by rw [List.getElem?_range]; rw [hl] at hjl; simpa using hjl)
    rw [this]; exact hj
  · cases h
theorem cell_spot {W : World} {a : Addr} {v : Value} (h : W.cell? a = some v) : a.spot = none := by
  unfold World.cell? at h
  split at h
  · split at h
    · cases h
    · rename_i hn; simpa using hn
  · cases h
theorem add_none {b o n : Nat} : (Addr.mk b o none).add n = ⟨b, o + n, none⟩ := by
  unfold Addr.add
  by_cases h : n = 0
  · subst h; rfl
  · rw [if_neg h]
theorem add_spot {a : Addr} {n : Nat} (h : (a.add n).spot = none) (hn : n = 0) : a = ⟨a.block, a.off, none⟩ := by
  subst hn
  unfold Addr.add at h
  rw [if_pos rfl] at h
  cases a
  simp only at h
  rw [h]
theorem opens_rows {e : TypeId} {E : α → List PV} {ok : α → Prop} (he : Opens P e E ok) (hsz : ∀ a, (E a).length = P.cellsOf e) {H : Type} {enc : TypeId × Value → H} {W : World} {base : Nat} {spare : Nat → Bool} {held : Bool} {n b o : Nat} :
    ∀ (elems : List (DataW H × List MemPlace)) (k : Nat), (∀ i, i < elems.length → (W.cells? base ((Addr.mk b o none).add ((k + i) * P.cellsOf e)) (P.cellsOf e)).bind (DataW.trod enc P W base spare held n e) = elems[i]?) → (DataW.weightsAll P e (elems.map (·.1))).all (· ≤ reachBytes) = true →
    ∃ l : List α, l.length = elems.length ∧ (∀ x ∈ l, ok x) ∧ PRss (MW W) (l.map E) b (o + k * P.cellsOf e) (P.cellsOf e)
  | [], k, _, _ => ⟨[], rfl, by simp, by rw [List.map_nil]; unfold PRss; trivial⟩
  | d :: ds, k, h, hwt => by
    rw [List.map_cons] at hwt
    unfold DataW.weightsAll at hwt
    rw [List.all_append, Bool.and_eq_true] at hwt
    have h0 := h 0 (by simp)
    rw [List.getElem?_cons_zero, Nat.add_zero] at h0
    obtain ⟨c, hc, ht⟩ := Option.bind_eq_some_iff.1 h0
    obtain ⟨x, hx, hok⟩ := he H enc W base spare held n c _ ht hwt.1
    obtain ⟨c1, c2⟩ := cells_get hc
    obtain ⟨l, h1, h2, h3⟩ := opens_rows he hsz ds (k + 1) (fun i hi => by
      have := h (i + 1) (by simpa using hi)
      rw [List.getElem?_cons_succ] at this
      rwa [show k + 1 + i = k + (i + 1) from by omega]) hwt.2
    refine ⟨x :: l, by simp [h1], fun y hy => ?_, ?_⟩
    · rcases List.mem_cons.1 hy with rfl | hy
      · exact hok
      · exact h2 y hy
    · rw [List.map_cons]
      unfold PRss
      refine ⟨⟨hsz x, PRl.prs hx fun j u hj => ?_⟩, ?_⟩
      · have := c2 j u hj
        rwa [add_none, add_none] at this
      · rwa [show o + k * P.cellsOf e + P.cellsOf e = o + (k + 1) * P.cellsOf e from by rw [Nat.add_mul, Nat.one_mul, Nat.add_assoc]]
theorem opens_slice {t e : TypeId} {E : α → List PV} {ok : α → Prop} (he : Opens P e E ok) (hsz : ∀ a, (E a).length = P.cellsOf e) (hpos : 0 < P.cellsOf e) {k : Nat} (hk : P.bytesOf e = k) (ht : P.underlying t = some (.slice e)) : Opens P t (fun l : List α => [.sl (l.map E)]) (fun l : List α => l.length * k ≤ 140737488351232 ∧ ∀ x ∈ l, ok x) := by
  intro H enc W base spare held fuel cs x h hwt
  rcases DataW.trod_slice ht h with ⟨rfl, _⟩ | ⟨a, len, cap, elems, rest, n, _, rfl, hx, hb, hl, hm, hlen, hel, _⟩
  · exact ⟨[], ⟨⟨by unfold PR; exact ⟨none, 0, rfl, Nat.le_refl _, fun _ => rfl, fun h => absurd rfl h⟩, rfl⟩, trivial⟩, by simp, by simp⟩
  · subst hlen
    rw [hx] at hwt
    unfold DataW.weights at hwt
    rw [ht] at hwt
    simp only [List.all_cons, List.all_append, Bool.and_eq_true, List.length_map, decide_eq_true_eq, hk] at hwt
    obtain ⟨hw0, hw1, _⟩ := hwt
    by_cases hne : elems = []
    · subst hne
      exact ⟨[], ⟨⟨by unfold PR; exact ⟨some a, cap, rfl, Nat.zero_le _, fun h => (by cases h), fun h => absurd rfl h⟩, rfl⟩, trivial⟩, by simp, by simp⟩
    · have hp : 0 < elems.length := List.length_pos_iff.2 hne
      have ha : a = ⟨a.block, a.off, none⟩ := by
        have h0 := hel 0 hp
        rw [List.getElem?_eq_getElem hp] at h0
        obtain ⟨c, hc, _⟩ := Option.bind_eq_some_iff.1 h0
        obtain ⟨c1, c2⟩ := cells_get hc
        obtain ⟨u, hu⟩ : ∃ u, c[0]? = some u := ⟨c[0], List.getElem?_eq_getElem (by omega)⟩
        have := cell_spot (c2 0 u hu)
        rw [Nat.zero_mul, add_add] at this
        exact add_spot this rfl
      rw [ha] at hel
      obtain ⟨l, h1, h2, h3⟩ := opens_rows he hsz (b := a.block) (o := a.off) elems 0 (fun i hi => by rw [Nat.zero_add]; exact hel i hi) hw1
      rw [Nat.zero_mul, Nat.add_zero] at h3
      refine ⟨l, ⟨⟨?_, rfl⟩, trivial⟩, by
        rw [h1]
        have : elems.length * k ≤ (elems.length + rest.length) * k := Nat.mul_le_mul_right _ (Nat.le_add_right _ _)
        unfold reachBytes at hw0
        omega, h2⟩
      unfold PR
      refine ⟨some a, cap, by rw [List.length_map, h1], by rw [List.length_map, h1]; exact hl, fun h => (by cases h), fun _ => ⟨a.block, a.off, P.cellsOf e, by rw [← ha], h3⟩⟩
def OpensF (P : Program) (fs : List Field) (off tot : Nat) (E : α → List PV) (ok : α → Prop) : Prop :=
  ∀ (H : Type) (enc : TypeId × Value → H) (W : World) (base : Nat) (spare : Nat → Bool) (held : Bool) (fuel : Nat) (cs : List Value) (xs : List (DataW H × List MemPlace)), cs.length = tot →
    (fs.mapM fun f => DataW.trod enc P W base spare held fuel f.type ((cs.drop f.offset).take (P.cellsOf f.type))) = some xs → (DataW.weightsEach P (fs.map (·.type)) (xs.map (·.1))).all (· ≤ reachBytes) = true → ∃ a, PRl (MW W) (E a) (cs.drop off) ∧ ok a
theorem opensF_nil {off : Nat} : OpensF P [] off off (fun _ : Unit => []) (fun _ => True) := by
  intro H enc W base spare held fuel cs xs hl h hwt
  exact ⟨(), by rw [List.drop_of_length_le (by omega)]; trivial, trivial⟩
theorem opensF_cons {f : Field} {fs : List Field} {off tot k : Nat} {E : α → List PV} {E' : β → List PV} {ok : α → Prop} {ok' : β → Prop} (h0 : Opens P f.type E ok) (h1 : OpensF P fs (off + k) tot E' ok') (ho : f.offset = off) (hk : P.cellsOf f.type = k) :
    OpensF P (f :: fs) off tot (fun x : α × β => E x.1 ++ E' x.2) (fun x => ok x.1 ∧ ok' x.2) := by
  intro H enc W base spare held fuel cs xs hl h hwt
  rw [List.mapM_cons] at h
  obtain ⟨y, hy, h⟩ := Option.bind_eq_some_iff.1 h
  obtain ⟨ys, hys, h⟩ := Option.bind_eq_some_iff.1 h
  cases h
  rw [List.map_cons, List.map_cons] at hwt
  unfold DataW.weightsEach at hwt
  rw [List.all_append, Bool.and_eq_true] at hwt
  obtain ⟨a, ha, oa⟩ := h0 H enc W base spare held fuel _ _ hy hwt.1
  obtain ⟨b, hb, ob⟩ := h1 H enc W base spare held fuel cs ys hl hys hwt.2
  refine ⟨(a, b), ?_, oa, ob⟩
  have := PRl.app ha hb
  rw [ho, hk] at this
  rwa [show (cs.drop off).take k ++ cs.drop (off + k) = cs.drop off from by rw [← List.drop_drop, List.take_append_drop]] at this
theorem opens_struct {t : TypeId} {fs : Array Field} {E : α → List PV} {ok : α → Prop} {l : List Field} {n : Nat} (hn : P.cellsOf t = n) (h : OpensF P l 0 n E ok) (ht : P.underlying t = some (.struct fs)) (hl : fs.toList = l) : Opens P t E ok := by
  intro H enc W base spare held fuel cs x hx hwt
  cases fuel with
  | zero => simp [DataW.trod] at hx
  | succ m =>
    unfold DataW.trod at hx
    rw [ht] at hx
    simp only [hl] at hx
    split at hx
    · rename_i hlen
      obtain ⟨xs, hxs, hxe⟩ := Option.map_eq_some_iff.1 hx
      rw [← hxe] at hwt
      unfold DataW.weights at hwt
      rw [ht] at hwt
      simp only [hl] at hwt
      obtain ⟨a, ha, oa⟩ := h H enc W base spare held m cs xs (hlen.trans hn) hxs hwt
      exact ⟨a, by rwa [List.drop_zero] at ha, oa⟩
    · cases hx
theorem opens_iso {t : TypeId} {E : α → List PV} {E' : β → List PV} {ok : α → Prop} (h : Opens P t E ok) (f : β → α) (g : α → β) (hE : ∀ a, E a = E' (g a)) (hg : ∀ a, f (g a) = a) : Opens P t E' (fun y => ok (f y)) := by
  intro H enc W base spare held fuel cs x hx hwt
  obtain ⟨a, ha, oa⟩ := h H enc W base spare held fuel cs x hx hwt
  exact ⟨g a, by rw [← hE]; exact ha, by show ok (f (g a)); rw [hg]; exact oa⟩
theorem mw_mem {W : World} {X : XS} {R : RMap} (hX : ∀ b i, ¬ X.off b i) (b i : Nat) (v : Value) (h : MW W b i v) : Mem X 0 empty R W b i v :=
  ⟨h.1, h.2, hX b i, fun κ o _ hg => by rw [get_empty] at hg; cases hg⟩
theorem opens_arg {t : TypeId} {E : α → List PV} {ok : α → Prop} (h : Opens P t E ok) {fs : Array Field} (hs : P.underlying t = some (.struct fs)) {H : Type} {enc : TypeId × Value → H} {W : World} {base : Nat} {spare : Nat → Bool} {held : Bool} {r : Reach} {b0 : Nat} {v : Value} {dd : DataW H} {p : List MemPlace}
    (hv : Value.okWide P W r b0 t v) (hd : DataW.Trod enc P W base spare held t v dd p) (hwt : (dd.weights P t).all (· ≤ reachBytes) = true) : ∃ a, (∀ M, (∀ b i v, MW W b i v → M b i v) → ∀ G R d, VR M G R d (.agg ((E a).map .p)) v) ∧ ok a := by
  obtain ⟨cs, rfl, hsz⟩ := okWide_struct hs hv
  obtain ⟨fuel, hf⟩ := hd
  obtain ⟨a, ha, oa⟩ := h H enc W base spare held fuel _ _ hf hwt
  have ha' : PRl (MW W) (E a) cs.toList := by simpa [Value.cells] using ha
  refine ⟨a, fun M hm G R d => ?_, oa⟩
  unfold VR
  exact ⟨cs.toList, rfl, PRl.one ha', PRl.vrs (PRl.mono hm ha')⟩
theorem opens_arg1 {t : TypeId} {E : α → PV} {ok : α → Prop} (h : Opens P t (fun a => [E a]) ok) {H : Type} {enc : TypeId × Value → H} {W : World} {base : Nat} {spare : Nat → Bool} {held : Bool} {v : Value} {dd : DataW H} {p : List MemPlace}
    (hc : v.cells = #[v]) (hd : DataW.Trod enc P W base spare held t v dd p) (hwt : (dd.weights P t).all (· ≤ reachBytes) = true) : ∃ a, (∀ M, (∀ b i v, MW W b i v → M b i v) → ∀ G R d, VR M G R d (.p (E a)) v) ∧ ok a := by
  obtain ⟨fuel, hf⟩ := hd
  obtain ⟨a, ha, oa⟩ := h H enc W base spare held fuel _ _ hf hwt
  rw [hc] at ha
  exact ⟨a, fun M hm G R d => by unfold VR; exact PR.mono hm _ _ ha.1.1, oa⟩
def X0 : XS := ⟨fun _ _ => False, fun _ => none⟩
def T0 : Nat → Option Obj := fun _ => none
theorem sim0 (R : RMap) (W : World) : Sim X0 0 empty R W :=
  have no : ∀ {κ : Key} {o : Obj'}, get empty κ = some o → False := fun h => by rw [get_empty] at h; cases h
  ⟨fun _ _ _ _ _ _ h => (no h).elim, fun _ _ _ h => (no h).elim, fun _ _ h => h.elim, fun _ _ _ h => (no h).elim, fun _ _ h => by cases h⟩
theorem law_calls {f : FuncId} {fn : Func} (hfn : P.funcs[f]? = some fn) (hb : fn.body.isNone = false) (hn : (fn.name == "runtime.NumGoroutine") = false) {args : List GV} {b : Bool} {vals : Array Value} {W : World} (h : Tel P T0 0 f args empty (.p (.bool b)) empty)
    (hv : ∀ M, (∀ b i v, MW W b i v → M b i v) → ∀ G R d, VRs M G R d args vals.toList) : Calls P f vals W fun e W' => e = .returned (.bool b) ∧ Below W.heap.size W W' := by
  have hR : RMap := fun _ => ⟨0, 0, 0, 0⟩
  rcases known_Tel 0 f args empty (.p (.bool b)) empty h X0 hR W vals.toList (fun _ _ h => h) (sim0 hR W) (hv _ (mw_mem fun _ _ h => h) _ _ _) 0 rfl rfl with ⟨_, hc⟩ | ⟨v, w', hr, _⟩
  · refine hc.mono fun e w' ⟨v, he, R', hst, hvr⟩ => ⟨?_, ?_⟩
    · unfold adopt VR at hvr
      unfold PR at hvr
      rw [he, hvr]
    · have g := hst.bare_grows
      exact ⟨g.env.1, g.env.2.1, g.env.2.2, g.size, g.old⟩
  · exfalso
    have he : (callFunc f vals).run P W = .ok (.enter f vals) W := by
      unfold callFunc
      go_simp
      rw [if_neg (by simpa using hn), if_neg (by intro e; rw [e] at hb; cases hb)]
    rw [show vals.toList.toArray = vals from by simp] at hr
    rw [he] at hr
    cases hr
end Go.Eng
end
section
set_option linter.all false
set_option maxRecDepth 100000
namespace Go.E
open Go Go.Proofs Go.Eng
def okTRat (y : TRat) : Prop := ((Lit.int .i64 y.f0).wf = true) ∧ ((Lit.int .i64 y.f1).wf = true) ∧ True
theorem op_TRat_25 : Opens Try.prog 25 cTRat okTRat :=
  opens_iso (opens_struct (n := 2) (l := _) (by kernel_rfl) (opensF_cons (k := 1) (opens_int Try.underlying2) (opensF_cons (k := 1) (opens_int Try.underlying2) opensF_nil rfl (by kernel_rfl)) rfl (by kernel_rfl)) Try.underlying25 rfl) (fun y : TRat => (y.f0, y.f1, ())) (fun a => ⟨a.1, a.2.1⟩) (fun _ => rfl) (fun _ => rfl)
def okTTerm (y : TTerm) : Prop := (y.f0.length * 16 ≤ 140737488351232 ∧ ∀ z ∈ y.f0, okTRat z) ∧ (okTRat y.f1) ∧ True
theorem op_TTerm_27 : Opens Try.prog 27 cTTerm okTTerm :=
  opens_iso (opens_struct (n := 3) (l := _) (by kernel_rfl) (opensF_cons (k := 1) (opens_slice (t := 23) (e := 25) op_TRat_25 (fun _ => by rw [show Try.prog.cellsOf 25 = 2 from by kernel_rfl]; rfl) (by rw [show Try.prog.cellsOf 25 = 2 from by kernel_rfl]; decide) (k := 16) (by kernel_rfl) Try.underlying23) (opensF_cons (k := 2) op_TRat_25 opensF_nil rfl (by kernel_rfl)) rfl (by kernel_rfl)) Try.underlying27 rfl) (fun y : TTerm => (y.f0, y.f1, ())) (fun a => ⟨a.1, a.2.1⟩) (fun _ => rfl) (fun _ => rfl)
def okTRow (y : TRow) : Prop := ((Lit.int .i64 y.f0).wf = true) ∧ (okTTerm y.f1) ∧ True
theorem op_TRow_29 : Opens Try.prog 29 cTRow okTRow :=
  opens_iso (opens_struct (n := 4) (l := _) (by kernel_rfl) (opensF_cons (k := 1) (opens_int Try.underlying3) (opensF_cons (k := 3) op_TTerm_27 opensF_nil rfl (by kernel_rfl)) rfl (by kernel_rfl)) Try.underlying29 rfl) (fun y : TRow => (y.f0, y.f1, ())) (fun a => ⟨a.1, a.2.1⟩) (fun _ => rfl) (fun _ => rfl)
end Go.E
end
section
set_option linter.all false
set_option maxRecDepth 100000
namespace Go.E
open Go Go.Proofs Go.Eng
variable {TB : Nat → Option Obj}
theorem m_rat_Right_ev (a0 : TRat) (r0 : Bool) (h : m_rat_Right a0 = some r0) (d : Nat) (G : Heap) : Tel Try.prog TB d 48 [.agg ((cTRat a0).map .p)] G (.p (.bool r0)) G := by
  unfold m_rat_Right at h
  obtain ⟨_, c, h⟩ := bs h
  obtain ⟨h1, h2⟩ := rqs c
  cases h
  exact right_ev a0.f0 a0.f1 h1 h2 d G
theorem m_rat_Add_ev (a0 a1 : TRat) (r0 : TRat × Int) (h : m_rat_Add a0 a1 = some r0) (d : Nat) (G : Heap) : Tel Try.prog TB d 58 [.agg ((cTRat a0).map .p), .agg ((cTRat a1).map .p)] G (.tup [.agg ((cTRat r0.1).map .p), .p (.int .i64 r0.2)]) G := by
  unfold m_rat_Add at h
  obtain ⟨_, c, h⟩ := bs h
  obtain ⟨⟨h1, h2⟩, h3, h4⟩ := rqs c
  cases h
  exact add_ev a0.f0 a0.f1 a1.f0 a1.f1 h1 h2 h3 h4 d G
theorem m_rat_Mul_ev (a0 a1 : TRat) (r0 : TRat × Int) (h : m_rat_Mul a0 a1 = some r0) (d : Nat) (G : Heap) : Tel Try.prog TB d 51 [.agg ((cTRat a0).map .p), .agg ((cTRat a1).map .p)] G (.tup [.agg ((cTRat r0.1).map .p), .p (.int .i64 r0.2)]) G := by
  unfold m_rat_Mul at h
  obtain ⟨_, c, h⟩ := bs h
  obtain ⟨⟨h1, h2⟩, h3, h4⟩ := rqs c
  cases h
  exact mul_ev a0.f0 a0.f1 a1.f0 a1.f1 h1 h2 h3 h4 d G
theorem m_rat_Div_ev (a0 : TRat) (a1 : TRat) (r0 : TRat × Int) (h : m_rat_Div a0 a1 = some r0) (d : Nat) (G : Heap) : Tel Try.prog TB d 100 [.agg ((cTRat a0).map .p), .agg ((cTRat a1).map .p)] G (.tup [.agg ((cTRat r0.1).map .p), .p (.int .i64 r0.2)]) (G) := by
  unfold m_rat_Div at h
  refine Tel.intro mix Try.func100 rfl (Nat.le_of_ble_eq_true rfl) {frzAt := fun t => t == 2 || t == 3 || t == 7 || t == 11 || t == 31 || t == 40} (by kernel_rfl) (by kernel_rfl) ?_
  generalize hQ : callPost _ _ _ _ _ = Q
  obtain ⟨r1, hr1, h⟩ := bs h
  simp -implicitDefEqProofs only [go_sem, Nat.reduceEqDiff, Nat.reduceAdd, Nat.reduceLT, Nat.reduceLeDiff, Nat.reduceMul, Nat.reduceBEq, reduceIte]
  refine call_frz (r' := .p (.bool r1)) (m_rat_Right_ev a0 r1 hr1 (d + 1) empty) (by simp -implicitDefEqProofs only [go_sem, Nat.reduceEqDiff, Nat.reduceAdd, Nat.reduceLT, Nat.reduceLeDiff, Nat.reduceMul, Nat.reduceBEq, reduceIte]) rfl (by simp -implicitDefEqProofs only [go_sem, Nat.reduceEqDiff, Nat.reduceAdd, Nat.reduceLT, Nat.reduceLeDiff, Nat.reduceMul, Nat.reduceBEq, reduceIte]) (by simp -implicitDefEqProofs only [go_sem, Nat.reduceEqDiff, Nat.reduceAdd, Nat.reduceLT, Nat.reduceLeDiff, Nat.reduceMul, Nat.reduceBEq, reduceIte]) ?_ rfl rfl
  simp -implicitDefEqProofs only [go_sem, Nat.reduceEqDiff, Nat.reduceAdd, Nat.reduceLT, Nat.reduceLeDiff, Nat.reduceMul, Nat.reduceBEq, reduceIte]
  obtain ⟨v2, hz, h⟩ := bs h
  obtain ⟨R3, hR3⟩ : ∃ R : St → Prop, R = fun s => s.G = fillKey (cut d G) (d + 1) 4 [.box [.p (.int .i64 0), .p (.int .i64 0)]] ∧ s.F 2 = .ep (cTRat a0) 0 ∧ s.F 3 = .ep (cTRat a1) 0 ∧ s.F 4 = .bp (d + 1, 4, 0) 0 ∧ s.F 18 = .p (.bool v2) ∧ True := ⟨_, rfl⟩
  refine cutR R3 ?_ ?_
  · replace h := hz
    rcases ib h with ⟨c4, h⟩ | ⟨c4, h⟩
    · cases h
      simp -implicitDefEqProofs only [go_sem, Nat.reduceEqDiff, Nat.reduceAdd, Nat.reduceLT, Nat.reduceLeDiff, Nat.reduceMul, Nat.reduceBEq, reduceIte, c4]
      rw [hR3]
      simp -implicitDefEqProofs only [go_sem, Nat.reduceEqDiff, Nat.reduceAdd, Nat.reduceLT, Nat.reduceLeDiff, Nat.reduceMul, Nat.reduceBEq, reduceIte, c4]
    · obtain ⟨r5, hr5, h⟩ := bs h
      simp -implicitDefEqProofs only [go_sem, Nat.reduceEqDiff, Nat.reduceAdd, Nat.reduceLT, Nat.reduceLeDiff, Nat.reduceMul, Nat.reduceBEq, reduceIte, c4]
      refine call_frz (r' := .p (.bool r5)) (m_rat_Right_ev a1 r5 hr5 (d + 1) empty) (by simp -implicitDefEqProofs only [go_sem, Nat.reduceEqDiff, Nat.reduceAdd, Nat.reduceLT, Nat.reduceLeDiff, Nat.reduceMul, Nat.reduceBEq, reduceIte, c4]) rfl (by simp -implicitDefEqProofs only [go_sem, Nat.reduceEqDiff, Nat.reduceAdd, Nat.reduceLT, Nat.reduceLeDiff, Nat.reduceMul, Nat.reduceBEq, reduceIte]) (by simp -implicitDefEqProofs only [go_sem, Nat.reduceEqDiff, Nat.reduceAdd, Nat.reduceLT, Nat.reduceLeDiff, Nat.reduceMul, Nat.reduceBEq, reduceIte]) ?_ rfl rfl
      rcases ib h with ⟨c6, h⟩ | ⟨c6, h⟩
      · cases h
        simp -implicitDefEqProofs only [go_sem, Nat.reduceEqDiff, Nat.reduceAdd, Nat.reduceLT, Nat.reduceLeDiff, Nat.reduceMul, Nat.reduceBEq, reduceIte, c4, c6]
        rw [hR3]
        simp -implicitDefEqProofs only [go_sem, Nat.reduceEqDiff, Nat.reduceAdd, Nat.reduceLT, Nat.reduceLeDiff, Nat.reduceMul, Nat.reduceBEq, reduceIte, c4, c6]
      · cases h
        simp -implicitDefEqProofs only [go_sem, Nat.reduceEqDiff, Nat.reduceAdd, Nat.reduceLT, Nat.reduceLeDiff, Nat.reduceMul, Nat.reduceBEq, reduceIte, c4, c6]
        rw [hR3]
        simp -implicitDefEqProofs only [go_sem, Nat.reduceEqDiff, Nat.reduceAdd, Nat.reduceLT, Nat.reduceLeDiff, Nat.reduceMul, Nat.reduceBEq, reduceIte, c4, c6]
  · replace h := h; clear hz
    rintro s i
    rw [hR3] at i
    obtain ⟨gi7, i7⟩ := i
    clear hR3
    try dsimp only at h
    rcases ib h with ⟨c8, h⟩ | ⟨c8, h⟩
    · cases h
      subst hQ
      simp -implicitDefEqProofs only [go_sem, Nat.reduceEqDiff, Nat.reduceAdd, Nat.reduceLT, Nat.reduceLeDiff, Nat.reduceMul, Nat.reduceBEq, reduceIte, gi7, i7, c8, Try.results100]
    · rcases ib h with ⟨c9, h⟩ | ⟨c9, h⟩
      · obtain ⟨r10, hr10, h⟩ := bs h
        simp -implicitDefEqProofs only [go_sem, Nat.reduceEqDiff, Nat.reduceAdd, Nat.reduceLT, Nat.reduceLeDiff, Nat.reduceMul, Nat.reduceBEq, reduceIte, gi7, i7, c8, c9]
        refine call_frz (r' := .tup [.agg [.p (.int .i64 r10.1.f0), .p (.int .i64 r10.1.f1)], .p (.int .i64 r10.2)]) (m_rat_Mul_ev a0 (⟨IntKind.wrap .i64 (0 - a1.f1), IntKind.wrap .i64 (0 - a1.f0)⟩ : TRat) r10 hr10 (d + 1) empty) (by simp -implicitDefEqProofs only [go_sem, Nat.reduceEqDiff, Nat.reduceAdd, Nat.reduceLT, Nat.reduceLeDiff, Nat.reduceMul, Nat.reduceBEq, reduceIte, gi7, i7, c8, c9]) rfl (by simp -implicitDefEqProofs only [go_sem, Nat.reduceEqDiff, Nat.reduceAdd, Nat.reduceLT, Nat.reduceLeDiff, Nat.reduceMul, Nat.reduceBEq, reduceIte]) (by simp -implicitDefEqProofs only [go_sem, Nat.reduceEqDiff, Nat.reduceAdd, Nat.reduceLT, Nat.reduceLeDiff, Nat.reduceMul, Nat.reduceBEq, reduceIte]) ?_ rfl rfl
        cases h
        subst hQ
        simp -implicitDefEqProofs only [go_sem, Nat.reduceEqDiff, Nat.reduceAdd, Nat.reduceLT, Nat.reduceLeDiff, Nat.reduceMul, Nat.reduceBEq, reduceIte, gi7, i7, c8, c9, Try.results100]
      · obtain ⟨r11, hr11, h⟩ := bs h
        simp -implicitDefEqProofs only [go_sem, Nat.reduceEqDiff, Nat.reduceAdd, Nat.reduceLT, Nat.reduceLeDiff, Nat.reduceMul, Nat.reduceBEq, reduceIte, gi7, i7, c8, c9]
        refine call_frz (r' := .tup [.agg [.p (.int .i64 r11.1.f0), .p (.int .i64 r11.1.f1)], .p (.int .i64 r11.2)]) (m_rat_Mul_ev a0 (⟨a1.f1, a1.f0⟩ : TRat) r11 hr11 (d + 1) empty) (by simp -implicitDefEqProofs only [go_sem, Nat.reduceEqDiff, Nat.reduceAdd, Nat.reduceLT, Nat.reduceLeDiff, Nat.reduceMul, Nat.reduceBEq, reduceIte, gi7, i7, c8, c9]) rfl (by simp -implicitDefEqProofs only [go_sem, Nat.reduceEqDiff, Nat.reduceAdd, Nat.reduceLT, Nat.reduceLeDiff, Nat.reduceMul, Nat.reduceBEq, reduceIte]) (by simp -implicitDefEqProofs only [go_sem, Nat.reduceEqDiff, Nat.reduceAdd, Nat.reduceLT, Nat.reduceLeDiff, Nat.reduceMul, Nat.reduceBEq, reduceIte]) ?_ rfl rfl
        cases h
        subst hQ
        simp -implicitDefEqProofs only [go_sem, Nat.reduceEqDiff, Nat.reduceAdd, Nat.reduceLT, Nat.reduceLeDiff, Nat.reduceMul, Nat.reduceBEq, reduceIte, gi7, i7, c8, c9, Try.results100]
theorem m_rat_sum_ev (a0 a1 a2 a3 : Int) (r0 : Int × Int × Bool) (h : m_rat_sum a0 a1 a2 a3 = some r0) (d : Nat) (G : Heap) : Tel Try.prog TB d 89 [.p (.int .i64 a0), .p (.int .i64 a1), .p (.int .i64 a2), .p (.int .i64 a3)] G (.tup [.p (.int .u64 r0.1), .p (.int .u64 r0.2.1), .p (.bool r0.2.2)]) G := by
  unfold m_rat_sum at h
  obtain ⟨_, c, h⟩ := bs h
  obtain ⟨h1, h2, h3, h4, h5⟩ := rqs c
  cases h
  obtain ⟨m, hm, ht⟩ := sum_ev (TB := TB) a0 a1 a2 a3 _ h1 h2 h3 h4 rfl
  rw [hm h5] at ht
  exact ht d G
theorem m_rat_minus_ev (a0 : TRat) (r0 : TRat) (h : m_rat_minus a0 = some r0) (d : Nat) (G : Heap) : Tel Try.prog TB d 118 [.agg ((cTRat a0).map .p)] G (.agg ((cTRat r0).map .p)) (G) := by
  unfold m_rat_minus at h
  refine Tel.intro mix Try.func118 rfl (Nat.le_of_ble_eq_true rfl) {frzAt := fun t => t == 1} (by kernel_rfl) (by kernel_rfl) ?_
  generalize hQ : callPost _ _ _ _ _ = Q
  cases h
  subst hQ
  simp -implicitDefEqProofs only [go_sem, Nat.reduceEqDiff, Nat.reduceAdd, Nat.reduceLT, Nat.reduceLeDiff, Nat.reduceMul, Nat.reduceBEq, reduceIte, Try.results118]
theorem m_rat_Sub_ev (a0 : TRat) (a1 : TRat) (r0 : TRat × Int) (h : m_rat_Sub a0 a1 = some r0) (d : Nat) (G : Heap) : Tel Try.prog TB d 104 [.agg ((cTRat a0).map .p), .agg ((cTRat a1).map .p)] G (.tup [.agg ((cTRat r0.1).map .p), .p (.int .i64 r0.2)]) (G) := by
  unfold m_rat_Sub at h
  refine Tel.intro mix Try.func104 rfl (Nat.le_of_ble_eq_true rfl) {frzAt := fun t => t == 2 || t == 3 || t == 7 || t == 12 || t == 13, boxAt := fun t => if t = 2 then some 900002 else if t = 3 then some 900003 else if t = 4 then some 4 else none} (by kernel_rfl) (by kernel_rfl) ?_
  generalize hQ : callPost _ _ _ _ _ = Q
  obtain ⟨r1, hr1, h⟩ := bs h
  simp -implicitDefEqProofs only [go_sem, Nat.reduceEqDiff, Nat.reduceAdd, Nat.reduceLT, Nat.reduceLeDiff, Nat.reduceMul, Nat.reduceBEq, reduceIte]
  refine call_frz (r' := .p (.bool r1)) (m_rat_Right_ev a1 r1 hr1 (d + 1) empty) (by simp -implicitDefEqProofs only [go_sem, Nat.reduceEqDiff, Nat.reduceAdd, Nat.reduceLT, Nat.reduceLeDiff, Nat.reduceMul, Nat.reduceBEq, reduceIte]) rfl (by simp -implicitDefEqProofs only [go_sem, Nat.reduceEqDiff, Nat.reduceAdd, Nat.reduceLT, Nat.reduceLeDiff, Nat.reduceMul, Nat.reduceBEq, reduceIte]) (by simp -implicitDefEqProofs only [go_sem, Nat.reduceEqDiff, Nat.reduceAdd, Nat.reduceLT, Nat.reduceLeDiff, Nat.reduceMul, Nat.reduceBEq, reduceIte]) ?_ rfl rfl
  rcases ib h with ⟨c2, h⟩ | ⟨c2, h⟩
  · cases h
    subst hQ
    simp -implicitDefEqProofs only [go_sem, Nat.reduceEqDiff, Nat.reduceAdd, Nat.reduceLT, Nat.reduceLeDiff, Nat.reduceMul, Nat.reduceBEq, reduceIte, c2, Try.results104]
  · obtain ⟨r3, hr3, h⟩ := bs h
    simp -implicitDefEqProofs only [go_sem, Nat.reduceEqDiff, Nat.reduceAdd, Nat.reduceLT, Nat.reduceLeDiff, Nat.reduceMul, Nat.reduceBEq, reduceIte, c2]
    refine call_frz (r' := .agg [.p (.int .i64 r3.f0), .p (.int .i64 r3.f1)]) (m_rat_minus_ev a1 r3 hr3 (d + 1) empty) (by simp -implicitDefEqProofs only [go_sem, Nat.reduceEqDiff, Nat.reduceAdd, Nat.reduceLT, Nat.reduceLeDiff, Nat.reduceMul, Nat.reduceBEq, reduceIte, c2]) rfl (by simp -implicitDefEqProofs only [go_sem, Nat.reduceEqDiff, Nat.reduceAdd, Nat.reduceLT, Nat.reduceLeDiff, Nat.reduceMul, Nat.reduceBEq, reduceIte]) (by simp -implicitDefEqProofs only [go_sem, Nat.reduceEqDiff, Nat.reduceAdd, Nat.reduceLT, Nat.reduceLeDiff, Nat.reduceMul, Nat.reduceBEq, reduceIte]) ?_ rfl rfl
    obtain ⟨r4, hr4, h⟩ := bs h
    simp -implicitDefEqProofs only [go_sem, Nat.reduceEqDiff, Nat.reduceAdd, Nat.reduceLT, Nat.reduceLeDiff, Nat.reduceMul, Nat.reduceBEq, reduceIte, c2]
    refine call_frz (r' := .tup [.agg [.p (.int .i64 r4.1.f0), .p (.int .i64 r4.1.f1)], .p (.int .i64 r4.2)]) (m_rat_Add_ev a0 r3 r4 hr4 (d + 1) empty) (by simp -implicitDefEqProofs only [go_sem, Nat.reduceEqDiff, Nat.reduceAdd, Nat.reduceLT, Nat.reduceLeDiff, Nat.reduceMul, Nat.reduceBEq, reduceIte, c2]) rfl (by simp -implicitDefEqProofs only [go_sem, Nat.reduceEqDiff, Nat.reduceAdd, Nat.reduceLT, Nat.reduceLeDiff, Nat.reduceMul, Nat.reduceBEq, reduceIte]) (by simp -implicitDefEqProofs only [go_sem, Nat.reduceEqDiff, Nat.reduceAdd, Nat.reduceLT, Nat.reduceLeDiff, Nat.reduceMul, Nat.reduceBEq, reduceIte]) ?_ rfl rfl
    cases h
    subst hQ
    simp -implicitDefEqProofs only [go_sem, Nat.reduceEqDiff, Nat.reduceAdd, Nat.reduceLT, Nat.reduceLeDiff, Nat.reduceMul, Nat.reduceBEq, reduceIte, c2, Try.results104]
theorem m_rat_Compare_ev (a0 : TRat) (a1 : TRat) (r0 : Int) (h : m_rat_Compare a0 a1 = some r0) (d : Nat) (G : Heap) : Tel Try.prog TB d 117 [.agg ((cTRat a0).map .p), .agg ((cTRat a1).map .p)] G (.p (.int .i64 r0)) (G) := by
  unfold m_rat_Compare at h
  refine Tel.intro mix Try.func117 rfl (Nat.le_of_ble_eq_true rfl) {frzAt := fun t => t == 2 || t == 3 || t == 9 || t == 13 || t == 31} (by kernel_rfl) (by kernel_rfl) ?_
  generalize hQ : callPost _ _ _ _ _ = Q
  obtain ⟨r1, hr1, h⟩ := bs h
  simp -implicitDefEqProofs only [go_sem, Nat.reduceEqDiff, Nat.reduceAdd, Nat.reduceLT, Nat.reduceLeDiff, Nat.reduceMul, Nat.reduceBEq, reduceIte]
  refine call_frz (r' := .p (.bool r1)) (m_rat_Right_ev a0 r1 hr1 (d + 1) empty) (by simp -implicitDefEqProofs only [go_sem, Nat.reduceEqDiff, Nat.reduceAdd, Nat.reduceLT, Nat.reduceLeDiff, Nat.reduceMul, Nat.reduceBEq, reduceIte]) rfl (by simp -implicitDefEqProofs only [go_sem, Nat.reduceEqDiff, Nat.reduceAdd, Nat.reduceLT, Nat.reduceLeDiff, Nat.reduceMul, Nat.reduceBEq, reduceIte]) (by simp -implicitDefEqProofs only [go_sem, Nat.reduceEqDiff, Nat.reduceAdd, Nat.reduceLT, Nat.reduceLeDiff, Nat.reduceMul, Nat.reduceBEq, reduceIte]) ?_ rfl rfl
  simp -implicitDefEqProofs only [go_sem, Nat.reduceEqDiff, Nat.reduceAdd, Nat.reduceLT, Nat.reduceLeDiff, Nat.reduceMul, Nat.reduceBEq, reduceIte]
  obtain ⟨v2, hz, h⟩ := bs h
  obtain ⟨R3, hR3⟩ : ∃ R : St → Prop, R = fun s => s.G = cut d G ∧ s.F 2 = .ep (cTRat a0) 0 ∧ s.F 3 = .ep (cTRat a1) 0 ∧ s.F 20 = .p (.bool v2) ∧ True := ⟨_, rfl⟩
  refine cutR R3 ?_ ?_
  · replace h := hz
    rcases ib h with ⟨c4, h⟩ | ⟨c4, h⟩
    · cases h
      simp -implicitDefEqProofs only [go_sem, Nat.reduceEqDiff, Nat.reduceAdd, Nat.reduceLT, Nat.reduceLeDiff, Nat.reduceMul, Nat.reduceBEq, reduceIte, c4]
      rw [hR3]
      simp -implicitDefEqProofs only [go_sem, Nat.reduceEqDiff, Nat.reduceAdd, Nat.reduceLT, Nat.reduceLeDiff, Nat.reduceMul, Nat.reduceBEq, reduceIte, c4]
    · obtain ⟨r5, hr5, h⟩ := bs h
      simp -implicitDefEqProofs only [go_sem, Nat.reduceEqDiff, Nat.reduceAdd, Nat.reduceLT, Nat.reduceLeDiff, Nat.reduceMul, Nat.reduceBEq, reduceIte, c4]
      refine call_frz (r' := .p (.bool r5)) (m_rat_Right_ev a1 r5 hr5 (d + 1) empty) (by simp -implicitDefEqProofs only [go_sem, Nat.reduceEqDiff, Nat.reduceAdd, Nat.reduceLT, Nat.reduceLeDiff, Nat.reduceMul, Nat.reduceBEq, reduceIte, c4]) rfl (by simp -implicitDefEqProofs only [go_sem, Nat.reduceEqDiff, Nat.reduceAdd, Nat.reduceLT, Nat.reduceLeDiff, Nat.reduceMul, Nat.reduceBEq, reduceIte]) (by simp -implicitDefEqProofs only [go_sem, Nat.reduceEqDiff, Nat.reduceAdd, Nat.reduceLT, Nat.reduceLeDiff, Nat.reduceMul, Nat.reduceBEq, reduceIte]) ?_ rfl rfl
      rcases ib h with ⟨c6, h⟩ | ⟨c6, h⟩
      · cases h
        simp -implicitDefEqProofs only [go_sem, Nat.reduceEqDiff, Nat.reduceAdd, Nat.reduceLT, Nat.reduceLeDiff, Nat.reduceMul, Nat.reduceBEq, reduceIte, c4, c6]
        rw [hR3]
        simp -implicitDefEqProofs only [go_sem, Nat.reduceEqDiff, Nat.reduceAdd, Nat.reduceLT, Nat.reduceLeDiff, Nat.reduceMul, Nat.reduceBEq, reduceIte, c4, c6]
      · simp -implicitDefEqProofs only [go_sem, Nat.reduceEqDiff, Nat.reduceAdd, Nat.reduceLT, Nat.reduceLeDiff, Nat.reduceMul, Nat.reduceBEq, reduceIte, c4, c6]
        refine eqS_TRat a0 a1 ?_
        cases h
        simp -implicitDefEqProofs only [go_sem, Nat.reduceEqDiff, Nat.reduceAdd, Nat.reduceLT, Nat.reduceLeDiff, Nat.reduceMul, Nat.reduceBEq, reduceIte, c4, c6]
        rw [hR3]
        simp -implicitDefEqProofs only [go_sem, Nat.reduceEqDiff, Nat.reduceAdd, Nat.reduceLT, Nat.reduceLeDiff, Nat.reduceMul, Nat.reduceBEq, reduceIte, c4, c6]
  · replace h := h; clear hz
    rintro s i
    rw [hR3] at i
    obtain ⟨gi7, i7⟩ := i
    clear hR3
    try dsimp only at h
    rcases ib h with ⟨c8, h⟩ | ⟨c8, h⟩
    · cases h
      subst hQ
      simp -implicitDefEqProofs only [go_sem, Nat.reduceEqDiff, Nat.reduceAdd, Nat.reduceLT, Nat.reduceLeDiff, Nat.reduceMul, Nat.reduceBEq, reduceIte, gi7, i7, c8, Try.results117]
    · obtain ⟨r9, hr9, h⟩ := bs h
      simp -implicitDefEqProofs only [go_sem, Nat.reduceEqDiff, Nat.reduceAdd, Nat.reduceLT, Nat.reduceLeDiff, Nat.reduceMul, Nat.reduceBEq, reduceIte, gi7, i7, c8]
      refine call_frz (r' := .tup [.p (.int .u64 r9.1), .p (.int .u64 r9.2.1), .p (.bool r9.2.2)]) (m_rat_sum_ev a0.f0 a1.f1 (IntKind.wrap .i64 (0 - a1.f0)) a0.f1 r9 hr9 (d + 1) empty) (by simp -implicitDefEqProofs only [go_sem, Nat.reduceEqDiff, Nat.reduceAdd, Nat.reduceLT, Nat.reduceLeDiff, Nat.reduceMul, Nat.reduceBEq, reduceIte, gi7, i7, c8]) rfl (by simp -implicitDefEqProofs only [go_sem, Nat.reduceEqDiff, Nat.reduceAdd, Nat.reduceLT, Nat.reduceLeDiff, Nat.reduceMul, Nat.reduceBEq, reduceIte]) (by simp -implicitDefEqProofs only [go_sem, Nat.reduceEqDiff, Nat.reduceAdd, Nat.reduceLT, Nat.reduceLeDiff, Nat.reduceMul, Nat.reduceBEq, reduceIte]) ?_ rfl rfl
      rcases ib h with ⟨c10, h⟩ | ⟨c10, h⟩
      · cases h
        subst hQ
        simp -implicitDefEqProofs only [go_sem, Nat.reduceEqDiff, Nat.reduceAdd, Nat.reduceLT, Nat.reduceLeDiff, Nat.reduceMul, Nat.reduceBEq, reduceIte, gi7, i7, c8, c10, Try.results117]
      · cases h
        subst hQ
        simp -implicitDefEqProofs only [go_sem, Nat.reduceEqDiff, Nat.reduceAdd, Nat.reduceLT, Nat.reduceLeDiff, Nat.reduceMul, Nat.reduceBEq, reduceIte, gi7, i7, c8, c10, Try.results117]
theorem m_slices_IndexFunc_api_Rat_ev (a0 : List TRat) (a1 : (TRat → Option Bool)) (n1 : FuncId) (q1 : List GV) (hc1 : closeds q1) (hf1 : ∀ x0 r, a1 x0 = some r → ∀ d, Tel Try.prog TB d n1 ([.agg ((cTRat x0).map .p)] ++ q1) empty (.p (.bool r)) empty) (r0 : Int) (h : m_slices_IndexFunc_api_Rat a0 a1 = some r0) (d : Nat) (G : Heap) : Tel Try.prog TB d 92 [.p (.sl (a0.map cTRat)), .fn n1 q1] G (.p (.int .i64 r0)) (G) := by
  unfold m_slices_IndexFunc_api_Rat at h
  refine Tel.intro mix Try.func92 rfl (Nat.le_of_ble_eq_true rfl) {frzAt := fun t => t == 16} (by kernel_rfl) (by kernel_rfl) ?_
  generalize hQ : callPost _ _ _ _ _ = Q
  simp -implicitDefEqProofs only [go_sem, Nat.reduceEqDiff, Nat.reduceAdd, Nat.reduceLT, Nat.reduceLeDiff, Nat.reduceMul, Nat.reduceBEq, reduceIte]
  obtain ⟨z3, hL3, h⟩ := bs h
  obtain ⟨I3, hI3⟩ : ∃ I : Int → St → Prop, I = fun v4 s => s.G = cut d G ∧ s.F 0 = .p (.sl (a0.map cTRat)) ∧ s.F 1 = .fn n1 q1 ∧ s.F 7 = .p (.int .i64 (a0.length : Int)) ∧ s.F 8 = .p (.int .i64 v4) ∧ True := ⟨_, rfl⟩
  obtain ⟨R3, hR3⟩ : ∃ R : ((Unit) ⊕ (Int)) → GE → St → Prop, R = fun x e s => match x with | .inl _ => e = .exit 0 ∧ s.G = cut d G ∧ True | .inr r => e = .ret ∧ (r = r0 → Q .ret s) := ⟨_, rfl⟩
  refine lp (ts := []) rfl hL3 I3 R3 ?_ ?_ ?_
  · rw [hI3]
    simp -implicitDefEqProofs only [go_sem, Nat.reduceEqDiff, Nat.reduceAdd, Nat.reduceLT, Nat.reduceLeDiff, Nat.reduceMul, Nat.reduceBEq, reduceIte]
  · clear h hL3
    rintro v4 y s h i
    rw [hI3] at i
    obtain ⟨gi3, i3⟩ := i
    replace h : m_slices_IndexFunc_api_Rat_L0 a0 a1 (v4) = some y := h
    unfold m_slices_IndexFunc_api_Rat_L0 at h
    rcases ib h with ⟨c5, h⟩ | ⟨c5, h⟩
    · obtain ⟨v6, hv6, h⟩ := bs h
      replace hv6 := gis hv6
      obtain ⟨r7, hr7, h⟩ := bs h
      simp -implicitDefEqProofs only [go_sem, Nat.reduceEqDiff, Nat.reduceAdd, Nat.reduceLT, Nat.reduceLeDiff, Nat.reduceMul, Nat.reduceBEq, reduceIte, gi3, i3, c5, hv6]
      refine call_frz (r' := .p (.bool r7)) (hf1 v6 r7 hr7 (d + 1)) (by simp -implicitDefEqProofs only [go_sem, Nat.reduceEqDiff, Nat.reduceAdd, Nat.reduceLT, Nat.reduceLeDiff, Nat.reduceMul, Nat.reduceBEq, reduceIte, gi3, i3, c5, hv6]) rfl (by simp -implicitDefEqProofs only [go_sem, Nat.reduceEqDiff, Nat.reduceAdd, Nat.reduceLT, Nat.reduceLeDiff, Nat.reduceMul, Nat.reduceBEq, reduceIte, hc1]) (by simp -implicitDefEqProofs only [go_sem, Nat.reduceEqDiff, Nat.reduceAdd, Nat.reduceLT, Nat.reduceLeDiff, Nat.reduceMul, Nat.reduceBEq, reduceIte]) ?_ rfl rfl
      rcases ib h with ⟨c8, h⟩ | ⟨c8, h⟩
      · cases h
        simp -implicitDefEqProofs only [go_sem, Nat.reduceEqDiff, Nat.reduceAdd, Nat.reduceLT, Nat.reduceLeDiff, Nat.reduceMul, Nat.reduceBEq, reduceIte, gi3, i3, c5, hv6, c8]
        rw [hR3]
        refine ⟨rfl, ?_⟩
        intro hr
        subst hr
        subst hQ
        simp -implicitDefEqProofs only [go_sem, Nat.reduceEqDiff, Nat.reduceAdd, Nat.reduceLT, Nat.reduceLeDiff, Nat.reduceMul, Nat.reduceBEq, reduceIte, gi3, i3, c5, hv6, c8, Try.results92]
      · cases h
        simp -implicitDefEqProofs only [go_sem, Nat.reduceEqDiff, Nat.reduceAdd, Nat.reduceLT, Nat.reduceLeDiff, Nat.reduceMul, Nat.reduceBEq, reduceIte, gi3, i3, c5, hv6, c8]
        rw [hI3]
        simp -implicitDefEqProofs only [go_sem, Nat.reduceEqDiff, Nat.reduceAdd, Nat.reduceLT, Nat.reduceLeDiff, Nat.reduceMul, Nat.reduceBEq, reduceIte, gi3, i3, c5, hv6, c8]
    · cases h
      simp -implicitDefEqProofs only [go_sem, Nat.reduceEqDiff, Nat.reduceAdd, Nat.reduceLT, Nat.reduceLeDiff, Nat.reduceMul, Nat.reduceBEq, reduceIte, gi3, i3, c5]
      rw [hR3]
      first | refine ⟨rfl, ?_⟩ | refine ⟨(), rfl, ?_⟩
      simp -implicitDefEqProofs only [go_sem, Nat.reduceEqDiff, Nat.reduceAdd, Nat.reduceLT, Nat.reduceLeDiff, Nat.reduceMul, Nat.reduceBEq, reduceIte, gi3, i3, c5]
  · clear hL3 hI3
    intro e s hr3
    rw [hR3] at hr3
    clear hR3
    rcases z3 with _ | r
    · try dsimp only at h hr3
      obtain ⟨rfl, gi9, i9⟩ := hr3
      cases h
      subst hQ
      simp -implicitDefEqProofs only [go_sem, Nat.reduceEqDiff, Nat.reduceAdd, Nat.reduceLT, Nat.reduceLeDiff, Nat.reduceMul, Nat.reduceBEq, reduceIte, gi9, i9, Try.results92]
    · try dsimp only at h hr3
      obtain ⟨rfl, hr3⟩ := hr3
      cases h
      try simp -implicitDefEqProofs only [go_sem, Nat.reduceEqDiff, Nat.reduceAdd, Nat.reduceLT, Nat.reduceLeDiff, Nat.reduceMul, Nat.reduceBEq, reduceIte]
      exact hr3 rfl
theorem m_slices_ContainsFunc_api_Rat_ev (a0 : List TRat) (a1 : (TRat → Option Bool)) (n1 : FuncId) (q1 : List GV) (hc1 : closeds q1) (hf1 : ∀ x0 r, a1 x0 = some r → ∀ d, Tel Try.prog TB d n1 ([.agg ((cTRat x0).map .p)] ++ q1) empty (.p (.bool r)) empty) (r0 : Bool) (h : m_slices_ContainsFunc_api_Rat a0 a1 = some r0) (d : Nat) (G : Heap) : Tel Try.prog TB d 59 [.p (.sl (a0.map cTRat)), .fn n1 q1] G (.p (.bool r0)) (G) := by
  unfold m_slices_ContainsFunc_api_Rat at h
  refine Tel.intro mix Try.func59 rfl (Nat.le_of_ble_eq_true rfl) {frzAt := fun t => t == 7} (by kernel_rfl) (by kernel_rfl) ?_
  generalize hQ : callPost _ _ _ _ _ = Q
  obtain ⟨r1, hr1, h⟩ := bs h
  simp -implicitDefEqProofs only [go_sem, Nat.reduceEqDiff, Nat.reduceAdd, Nat.reduceLT, Nat.reduceLeDiff, Nat.reduceMul, Nat.reduceBEq, reduceIte]
  refine call_frz (r' := .p (.int .i64 r1)) (m_slices_IndexFunc_api_Rat_ev a0 a1 n1 q1 hc1 hf1 r1 hr1 (d + 1) empty) (by simp -implicitDefEqProofs only [go_sem, Nat.reduceEqDiff, Nat.reduceAdd, Nat.reduceLT, Nat.reduceLeDiff, Nat.reduceMul, Nat.reduceBEq, reduceIte]) rfl (by simp -implicitDefEqProofs only [go_sem, Nat.reduceEqDiff, Nat.reduceAdd, Nat.reduceLT, Nat.reduceLeDiff, Nat.reduceMul, Nat.reduceBEq, reduceIte, hc1]) (by simp -implicitDefEqProofs only [go_sem, Nat.reduceEqDiff, Nat.reduceAdd, Nat.reduceLT, Nat.reduceLeDiff, Nat.reduceMul, Nat.reduceBEq, reduceIte]) ?_ rfl rfl
  cases h
  subst hQ
  simp -implicitDefEqProofs only [go_sem, Nat.reduceEqDiff, Nat.reduceAdd, Nat.reduceLT, Nat.reduceLeDiff, Nat.reduceMul, Nat.reduceBEq, reduceIte, Try.results59]
theorem m_slices_Clone_api_Rat_ev (a0 : List TRat) (r0 : List TRat) (h : m_slices_Clone_api_Rat a0 = some r0) (d : Nat) (G : Heap) : Tel Try.prog TB d 99 [.p (.sl (a0.map cTRat))] G (.p (.sl (r0.map cTRat))) G := by
  unfold m_slices_Clone_api_Rat at h
  obtain ⟨_, c1, h⟩ := bs h
  replace c1 := rqs c1
  cases h
  refine Tel.intro_nil mix Try.func99 rfl (by decide) {pureAt := fun t => t == 7} m_slices_Clone_api_Rat_A m_slices_Clone_api_Rat_B (x := 2) (y := 3) (z := 4) (by decide) (by decide) (by decide) (by kernel_rfl) (by kernel_rfl) (by kernel_rfl) ?_ ?_
  · intro a n m Q w a0 h0 hs h
    have s3 : 3 < a0.tmps.size := by rw [hs]; decide
    refine wp_seq (wp_region ?_)
    show wpOps _ _ _ [0] _ _
    simp only [wpOps, Region.wanted, if_true, List.getElem?_toArray, List.getElem?_cons_zero]
    refine .inl (wp_val (rv := .slice none 0 0) (w' := w) (by simp [execOp, Act.eval]) ?_)
    show Code.wp _ _ _ _ _
    refine wp_seq (wp_seq (wp_region ?_))
    show wpOps _ _ _ [0, 1] _ _
    simp only [wpOps, Region.wanted, if_true, List.getElem?_toArray, List.getElem?_cons_zero, List.getElem?_cons_succ]
    refine .inl (wp_val (rv := .slice a n m) (w' := w) ?_ ?_)
    · have e : (a0.put (some 2) (.slice none 0 0)).tmps.getD 0 undef = .slice a n m := by simpa [Act.put, Array.getD_eq_getD_getElem?] using h0
      show Sem.run _ (pure (Next.value ((a0.put (some 2) (.slice none 0 0)).tmps.getD 0 undef))) w = _
      rw [e]; rfl
    · refine .inl (wp_val (rv := .bool a.isNone) (w' := w) ?_ ?_)
      · have e : ((a0.put (some 2) (.slice none 0 0)).put (some 3) (.slice a n m)).tmps.getD 3 undef = .slice a n m := by simp [Act.put, Array.getD_eq_getD_getElem?, s3]
        have isn := run_equal_slice_nil (P := Try.prog) w 23 25 a n m Try.underlying23
        have e' : ((a0.put (some 2) (.slice none 0 0)).put (some 3) (.slice a n m)).eval (.tmp 3) = .slice a n m := e
        simp only [execOp, e']
        simp [Act.eval, binOp, isn, eqGuard]
      · exact h
  · intro b hb
    show gwp _ _ _ _ m_slices_Clone_api_Rat_A _ _
    simp only [m_slices_Clone_api_Rat_A, m_slices_Clone_api_Rat_B, Try.f99]
    cases b
    · simp -implicitDefEqProofs only [go_sem, Nat.reduceEqDiff, Nat.reduceAdd, Nat.reduceLT, Nat.reduceLeDiff, Nat.reduceMul, Nat.reduceBEq, reduceIte]
      refine append_pure (n := 2) (es := []) (xs := a0.map cTRat) el23 (by simp -implicitDefEqProofs only [go_sem, Nat.reduceEqDiff, Nat.reduceAdd, Nat.reduceLT, Nat.reduceLeDiff, Nat.reduceMul, Nat.reduceBEq, reduceIte]) rfl sizes_nil (by simp -implicitDefEqProofs only [go_sem, Nat.reduceEqDiff, Nat.reduceAdd, Nat.reduceLT, Nat.reduceLeDiff, Nat.reduceMul, Nat.reduceBEq, reduceIte]) (by simp; omega) ?_
      simp -implicitDefEqProofs only [go_sem, Nat.reduceEqDiff, Nat.reduceAdd, Nat.reduceLT, Nat.reduceLeDiff, Nat.reduceMul, Nat.reduceBEq, reduceIte, Try.results99]
    · obtain rfl : a0 = [] := by simpa using hb rfl
      simp -implicitDefEqProofs only [go_sem, Nat.reduceEqDiff, Nat.reduceAdd, Nat.reduceLT, Nat.reduceLeDiff, Nat.reduceMul, Nat.reduceBEq, reduceIte, Try.results99]
theorem m_term_nought_ev  (r0 : TRat) (h : m_term_nought  = some r0) (d : Nat) (G : Heap) : Tel Try.prog TB d 57 [] G (.agg ((cTRat r0).map .p)) (G) := by
  unfold m_term_nought at h
  refine Tel.intro mix Try.func57 rfl (Nat.le_of_ble_eq_true rfl) {} (by kernel_rfl) (by kernel_rfl) ?_
  generalize hQ : callPost _ _ _ _ _ = Q
  cases h
  subst hQ
  simp -implicitDefEqProofs only [go_sem, Nat.reduceEqDiff, Nat.reduceAdd, Nat.reduceLT, Nat.reduceLeDiff, Nat.reduceMul, Nat.reduceBEq, reduceIte, Try.results57]
theorem m_term_At_ev (a0 : TTerm) (a1 : Int) (r0 : TRat) (h : m_term_At a0 a1 = some r0) (d : Nat) (G : Heap) : Tel Try.prog TB d 66 [.agg ((cTTerm a0).map .p), .p (.int .i64 a1)] G (.agg ((cTRat r0).map .p)) (G) := by
  unfold m_term_At at h
  refine Tel.intro mix Try.func66 rfl (Nat.le_of_ble_eq_true rfl) {frzAt := fun t => t == 2 || t == 14} (by kernel_rfl) (by kernel_rfl) ?_
  generalize hQ : callPost _ _ _ _ _ = Q
  rcases ib h with ⟨c1, h⟩ | ⟨c1, h⟩
  · obtain ⟨r2, hr2, h⟩ := bs h
    simp -implicitDefEqProofs only [go_sem, Nat.reduceEqDiff, Nat.reduceAdd, Nat.reduceLT, Nat.reduceLeDiff, Nat.reduceMul, Nat.reduceBEq, reduceIte, c1]
    refine call_frz (r' := .agg [.p (.int .i64 r2.f0), .p (.int .i64 r2.f1)]) (args := []) (caps := []) (m_term_nought_ev  r2 hr2 (d + 1) empty) (wkRs_refl []) rfl (by simp -implicitDefEqProofs only [go_sem, Nat.reduceEqDiff, Nat.reduceAdd, Nat.reduceLT, Nat.reduceLeDiff, Nat.reduceMul, Nat.reduceBEq, reduceIte]) (by simp -implicitDefEqProofs only [go_sem, Nat.reduceEqDiff, Nat.reduceAdd, Nat.reduceLT, Nat.reduceLeDiff, Nat.reduceMul, Nat.reduceBEq, reduceIte]) ?_ rfl rfl
    cases h
    subst hQ
    simp -implicitDefEqProofs only [go_sem, Nat.reduceEqDiff, Nat.reduceAdd, Nat.reduceLT, Nat.reduceLeDiff, Nat.reduceMul, Nat.reduceBEq, reduceIte, c1, Try.results66]
  · rcases ib h with ⟨c3, h⟩ | ⟨c3, h⟩
    · obtain ⟨r4, hr4, h⟩ := bs h
      simp -implicitDefEqProofs only [go_sem, Nat.reduceEqDiff, Nat.reduceAdd, Nat.reduceLT, Nat.reduceLeDiff, Nat.reduceMul, Nat.reduceBEq, reduceIte, c1, c3]
      refine call_frz (r' := .agg [.p (.int .i64 r4.f0), .p (.int .i64 r4.f1)]) (args := []) (caps := []) (m_term_nought_ev  r4 hr4 (d + 1) empty) (wkRs_refl []) rfl (by simp -implicitDefEqProofs only [go_sem, Nat.reduceEqDiff, Nat.reduceAdd, Nat.reduceLT, Nat.reduceLeDiff, Nat.reduceMul, Nat.reduceBEq, reduceIte]) (by simp -implicitDefEqProofs only [go_sem, Nat.reduceEqDiff, Nat.reduceAdd, Nat.reduceLT, Nat.reduceLeDiff, Nat.reduceMul, Nat.reduceBEq, reduceIte]) ?_ rfl rfl
      cases h
      subst hQ
      simp -implicitDefEqProofs only [go_sem, Nat.reduceEqDiff, Nat.reduceAdd, Nat.reduceLT, Nat.reduceLeDiff, Nat.reduceMul, Nat.reduceBEq, reduceIte, c1, c3, Try.results66]
    · obtain ⟨v5, hv5, h⟩ := bs h
      replace hv5 := gis hv5
      cases h
      subst hQ
      simp -implicitDefEqProofs only [go_sem, Nat.reduceEqDiff, Nat.reduceAdd, Nat.reduceLT, Nat.reduceLeDiff, Nat.reduceMul, Nat.reduceBEq, reduceIte, c1, c3, hv5, Try.results66]
theorem m_term_one_ev (a0 : TTerm) (a1 : Int) (r0 : TRat) (h : m_term_one a0 a1 = some r0) (d : Nat) (G : Heap) : Tel Try.prog TB d 52 [.agg ((cTTerm a0).map .p), .p (.int .i64 a1)] G (.agg ((cTRat r0).map .p)) (G) := by
  unfold m_term_one at h
  refine Tel.intro mix Try.func52 rfl (Nat.le_of_ble_eq_true rfl) {frzAt := fun t => t == 2 || t == 11} (by kernel_rfl) (by kernel_rfl) ?_
  generalize hQ : callPost _ _ _ _ _ = Q
  rcases ib h with ⟨c1, h⟩ | ⟨c1, h⟩
  · cases h
    subst hQ
    simp -implicitDefEqProofs only [go_sem, Nat.reduceEqDiff, Nat.reduceAdd, Nat.reduceLT, Nat.reduceLeDiff, Nat.reduceMul, Nat.reduceBEq, reduceIte, c1, Try.results52]
  · obtain ⟨r2, hr2, h⟩ := bs h
    simp -implicitDefEqProofs only [go_sem, Nat.reduceEqDiff, Nat.reduceAdd, Nat.reduceLT, Nat.reduceLeDiff, Nat.reduceMul, Nat.reduceBEq, reduceIte, c1]
    refine call_frz (r' := .agg [.p (.int .i64 r2.f0), .p (.int .i64 r2.f1)]) (m_term_At_ev a0 a1 r2 hr2 (d + 1) empty) (by simp -implicitDefEqProofs only [go_sem, Nat.reduceEqDiff, Nat.reduceAdd, Nat.reduceLT, Nat.reduceLeDiff, Nat.reduceMul, Nat.reduceBEq, reduceIte, c1]) rfl (by simp -implicitDefEqProofs only [go_sem, Nat.reduceEqDiff, Nat.reduceAdd, Nat.reduceLT, Nat.reduceLeDiff, Nat.reduceMul, Nat.reduceBEq, reduceIte]) (by simp -implicitDefEqProofs only [go_sem, Nat.reduceEqDiff, Nat.reduceAdd, Nat.reduceLT, Nat.reduceLeDiff, Nat.reduceMul, Nat.reduceBEq, reduceIte]) ?_ rfl rfl
    cases h
    subst hQ
    simp -implicitDefEqProofs only [go_sem, Nat.reduceEqDiff, Nat.reduceAdd, Nat.reduceLT, Nat.reduceLeDiff, Nat.reduceMul, Nat.reduceBEq, reduceIte, c1, Try.results52]
theorem m_term_Right_1_ev (a0 : TRat) (r0 : Bool) (h : m_term_Right_1 a0 = some r0) (d : Nat) (G : Heap) : Tel Try.prog TB d 60 [.agg ((cTRat a0).map .p)] G (.p (.bool r0)) (G) := by
  unfold m_term_Right_1 at h
  refine Tel.intro mix Try.func60 rfl (Nat.le_of_ble_eq_true rfl) {frzAt := fun t => t == 1 || t == 4} (by kernel_rfl) (by kernel_rfl) ?_
  generalize hQ : callPost _ _ _ _ _ = Q
  obtain ⟨r1, hr1, h⟩ := bs h
  simp -implicitDefEqProofs only [go_sem, Nat.reduceEqDiff, Nat.reduceAdd, Nat.reduceLT, Nat.reduceLeDiff, Nat.reduceMul, Nat.reduceBEq, reduceIte]
  refine call_frz (r' := .p (.bool r1)) (m_rat_Right_ev a0 r1 hr1 (d + 1) empty) (by simp -implicitDefEqProofs only [go_sem, Nat.reduceEqDiff, Nat.reduceAdd, Nat.reduceLT, Nat.reduceLeDiff, Nat.reduceMul, Nat.reduceBEq, reduceIte]) rfl (by simp -implicitDefEqProofs only [go_sem, Nat.reduceEqDiff, Nat.reduceAdd, Nat.reduceLT, Nat.reduceLeDiff, Nat.reduceMul, Nat.reduceBEq, reduceIte]) (by simp -implicitDefEqProofs only [go_sem, Nat.reduceEqDiff, Nat.reduceAdd, Nat.reduceLT, Nat.reduceLeDiff, Nat.reduceMul, Nat.reduceBEq, reduceIte]) ?_ rfl rfl
  cases h
  subst hQ
  simp -implicitDefEqProofs only [go_sem, Nat.reduceEqDiff, Nat.reduceAdd, Nat.reduceLT, Nat.reduceLeDiff, Nat.reduceMul, Nat.reduceBEq, reduceIte, Try.results60]
theorem m_term_Right_ev (a0 : TTerm) (r0 : Bool) (h : m_term_Right a0 = some r0) (d : Nat) (G : Heap) : Tel Try.prog TB d 35 [.agg ((cTTerm a0).map .p)] G (.p (.bool r0)) (G) := by
  unfold m_term_Right at h
  refine Tel.intro mix Try.func35 rfl (Nat.le_of_ble_eq_true rfl) {frzAt := fun t => t == 1 || t == 10 || t == 15} (by kernel_rfl) (by kernel_rfl) ?_
  generalize hQ : callPost _ _ _ _ _ = Q
  rcases ib h with ⟨c1, h⟩ | ⟨c1, h⟩
  · obtain ⟨r2, hr2, h⟩ := bs h
    simp -implicitDefEqProofs only [go_sem, Nat.reduceEqDiff, Nat.reduceAdd, Nat.reduceLT, Nat.reduceLeDiff, Nat.reduceMul, Nat.reduceBEq, reduceIte, c1]
    refine call_frz (r' := .p (.bool r2)) (m_rat_Right_ev a0.f1 r2 hr2 (d + 1) empty) (by simp -implicitDefEqProofs only [go_sem, Nat.reduceEqDiff, Nat.reduceAdd, Nat.reduceLT, Nat.reduceLeDiff, Nat.reduceMul, Nat.reduceBEq, reduceIte, c1]) rfl (by simp -implicitDefEqProofs only [go_sem, Nat.reduceEqDiff, Nat.reduceAdd, Nat.reduceLT, Nat.reduceLeDiff, Nat.reduceMul, Nat.reduceBEq, reduceIte]) (by simp -implicitDefEqProofs only [go_sem, Nat.reduceEqDiff, Nat.reduceAdd, Nat.reduceLT, Nat.reduceLeDiff, Nat.reduceMul, Nat.reduceBEq, reduceIte]) ?_ rfl rfl
    rcases ib h with ⟨c3, h⟩ | ⟨c3, h⟩
    · obtain ⟨r4, hr4, h⟩ := bs h
      simp -implicitDefEqProofs only [go_sem, Nat.reduceEqDiff, Nat.reduceAdd, Nat.reduceLT, Nat.reduceLeDiff, Nat.reduceMul, Nat.reduceBEq, reduceIte, c1, c3]
      refine call_frz (r' := .p (.bool r4)) (m_slices_ContainsFunc_api_Rat_ev a0.f0 (fun x0 => m_term_Right_1 x0) 60 [] (by simp -implicitDefEqProofs only [go_sem, Nat.reduceEqDiff, Nat.reduceAdd, Nat.reduceLT, Nat.reduceLeDiff, Nat.reduceMul, Nat.reduceBEq, reduceIte]) (fun x0 r h d => m_term_Right_1_ev x0 r h d empty) r4 hr4 (d + 1) empty) (by simp -implicitDefEqProofs only [go_sem, Nat.reduceEqDiff, Nat.reduceAdd, Nat.reduceLT, Nat.reduceLeDiff, Nat.reduceMul, Nat.reduceBEq, reduceIte, c1, c3]) rfl (by simp -implicitDefEqProofs only [go_sem, Nat.reduceEqDiff, Nat.reduceAdd, Nat.reduceLT, Nat.reduceLeDiff, Nat.reduceMul, Nat.reduceBEq, reduceIte]) (by simp -implicitDefEqProofs only [go_sem, Nat.reduceEqDiff, Nat.reduceAdd, Nat.reduceLT, Nat.reduceLeDiff, Nat.reduceMul, Nat.reduceBEq, reduceIte]) ?_ rfl rfl
      cases h
      subst hQ
      simp -implicitDefEqProofs only [go_sem, Nat.reduceEqDiff, Nat.reduceAdd, Nat.reduceLT, Nat.reduceLeDiff, Nat.reduceMul, Nat.reduceBEq, reduceIte, c1, c3, Try.results35]
    · cases h
      subst hQ
      simp -implicitDefEqProofs only [go_sem, Nat.reduceEqDiff, Nat.reduceAdd, Nat.reduceLT, Nat.reduceLeDiff, Nat.reduceMul, Nat.reduceBEq, reduceIte, c1, c3, Try.results35]
  · cases h
    subst hQ
    simp -implicitDefEqProofs only [go_sem, Nat.reduceEqDiff, Nat.reduceAdd, Nat.reduceLT, Nat.reduceLeDiff, Nat.reduceMul, Nat.reduceBEq, reduceIte, c1, Try.results35]
theorem m_term_trim_ev (a0 : TTerm) (r0 : TTerm) (h : m_term_trim a0 = some r0) (d : Nat) (G : Heap) : Tel Try.prog TB d 69 [.agg ((cTTerm a0).map .p)] G (.agg ((cTTerm r0).map .p)) (G) := by
  unfold m_term_trim at h
  refine Tel.intro mix Try.func69 rfl (Nat.le_of_ble_eq_true rfl) {frzAt := fun t => t == 1 || t == 25, boxAt := fun t => if t = 2 then some 2 else if t = 21 then some 900021 else if t = 26 then some 900026 else none} (by kernel_rfl) (by kernel_rfl) ?_
  generalize hQ : callPost _ _ _ _ _ = Q
  simp -implicitDefEqProofs only [go_sem, Nat.reduceEqDiff, Nat.reduceAdd, Nat.reduceLT, Nat.reduceLeDiff, Nat.reduceMul, Nat.reduceBEq, reduceIte]
  obtain ⟨z3, hL3, h⟩ := bs h
  obtain ⟨I3, hI3⟩ : ∃ I : Int → St → Prop, I = fun v4 s => s.G = fillKey (cut d G) (d + 1) 2 [.box [.csl [], .p (.int .i64 0), .p (.int .i64 0)]] ∧ s.F 1 = .ep (cTTerm a0) 0 ∧ s.F 2 = .bp (d + 1, 2, 0) 0 ∧ s.F 3 = .p (.int .i64 v4) ∧ True := ⟨_, rfl⟩
  obtain ⟨R3, hR3⟩ : ∃ R : (Int) → GE → St → Prop, R = fun v5 e s => e = .exit 0 ∧ s.G = fillKey (cut d G) (d + 1) 2 [.box [.csl [], .p (.int .i64 0), .p (.int .i64 0)]] ∧ s.F 1 = .ep (cTTerm a0) 0 ∧ s.F 2 = .bp (d + 1, 2, 0) 0 ∧ s.F 3 = .p (.int .i64 v5) ∧ True := ⟨_, rfl⟩
  refine lp (ts := []) rfl hL3 I3 R3 ?_ ?_ ?_
  · rw [hI3]
    simp -implicitDefEqProofs only [go_sem, Nat.reduceEqDiff, Nat.reduceAdd, Nat.reduceLT, Nat.reduceLeDiff, Nat.reduceMul, Nat.reduceBEq, reduceIte]
  · clear h hL3
    rintro v4 y s h i
    rw [hI3] at i
    obtain ⟨gi3, i3⟩ := i
    replace h : m_term_trim_L0 a0 (v4) = some y := h
    unfold m_term_trim_L0 at h
    simp -implicitDefEqProofs only [go_sem, Nat.reduceEqDiff, Nat.reduceAdd, Nat.reduceLT, Nat.reduceLeDiff, Nat.reduceMul, Nat.reduceBEq, reduceIte, gi3, i3]
    obtain ⟨v6, hz, h⟩ := bs h
    obtain ⟨R7, hR7⟩ : ∃ R : St → Prop, R = fun s => s.G = fillKey (cut d G) (d + 1) 2 [.box [.csl [], .p (.int .i64 0), .p (.int .i64 0)]] ∧ s.F 1 = .ep (cTTerm a0) 0 ∧ s.F 2 = .bp (d + 1, 2, 0) 0 ∧ s.F 3 = .p (.int .i64 v4) ∧ s.F 18 = .p (.bool v6) ∧ True := ⟨_, rfl⟩
    refine cutR R7 ?_ ?_
    · replace h := hz
      rcases ib h with ⟨c8, h⟩ | ⟨c8, h⟩
      · obtain ⟨v9, hv9, h⟩ := bs h
        replace hv9 := gis hv9
        cases h
        simp -implicitDefEqProofs only [go_sem, Nat.reduceEqDiff, Nat.reduceAdd, Nat.reduceLT, Nat.reduceLeDiff, Nat.reduceMul, Nat.reduceBEq, reduceIte, gi3, i3, c8, hv9]
        rw [hR7]
        simp -implicitDefEqProofs only [go_sem, Nat.reduceEqDiff, Nat.reduceAdd, Nat.reduceLT, Nat.reduceLeDiff, Nat.reduceMul, Nat.reduceBEq, reduceIte, gi3, i3, c8, hv9]
      · cases h
        simp -implicitDefEqProofs only [go_sem, Nat.reduceEqDiff, Nat.reduceAdd, Nat.reduceLT, Nat.reduceLeDiff, Nat.reduceMul, Nat.reduceBEq, reduceIte, gi3, i3, c8]
        rw [hR7]
        simp -implicitDefEqProofs only [go_sem, Nat.reduceEqDiff, Nat.reduceAdd, Nat.reduceLT, Nat.reduceLeDiff, Nat.reduceMul, Nat.reduceBEq, reduceIte, gi3, i3, c8]
    · replace h := h; clear hz
      rintro s i
      rw [hR7] at i
      obtain ⟨gi10, i10⟩ := i
      clear hR7
      try dsimp only at h
      rcases ib h with ⟨c11, h⟩ | ⟨c11, h⟩
      · cases h
        simp -implicitDefEqProofs only [go_sem, Nat.reduceEqDiff, Nat.reduceAdd, Nat.reduceLT, Nat.reduceLeDiff, Nat.reduceMul, Nat.reduceBEq, reduceIte, gi3, i3, gi10, i10, c11]
        rw [hI3]
        simp -implicitDefEqProofs only [go_sem, Nat.reduceEqDiff, Nat.reduceAdd, Nat.reduceLT, Nat.reduceLeDiff, Nat.reduceMul, Nat.reduceBEq, reduceIte, gi3, i3, gi10, i10, c11]
      · cases h
        simp -implicitDefEqProofs only [go_sem, Nat.reduceEqDiff, Nat.reduceAdd, Nat.reduceLT, Nat.reduceLeDiff, Nat.reduceMul, Nat.reduceBEq, reduceIte, gi3, i3, gi10, i10, c11]
        rw [hR3]
        first | refine ⟨rfl, ?_⟩ | refine ⟨(), rfl, ?_⟩
        simp -implicitDefEqProofs only [go_sem, Nat.reduceEqDiff, Nat.reduceAdd, Nat.reduceLT, Nat.reduceLeDiff, Nat.reduceMul, Nat.reduceBEq, reduceIte, gi3, i3, gi10, i10, c11]
  · clear hL3 hI3
    intro e s hr3
    rw [hR3] at hr3
    clear hR3
    revert h hr3
    generalize z3 = v5
    intro h hr3
    try dsimp only at h hr3
    obtain ⟨rfl, gi12, i12⟩ := hr3
    obtain ⟨v13, hv13, h⟩ := bs h
    replace hv13 := subLs hv13
    obtain ⟨r14, hr14, h⟩ := bs h
    simp -implicitDefEqProofs only [go_sem, Nat.reduceEqDiff, Nat.reduceAdd, Nat.reduceLT, Nat.reduceLeDiff, Nat.reduceMul, Nat.reduceBEq, reduceIte, gi12, i12, hv13]
    refine call_frz (r' := .p (.sl (r14.map cTRat))) (m_slices_Clone_api_Rat_ev v13 r14 hr14 (d + 1) empty) (by simp -implicitDefEqProofs only [go_sem, Nat.reduceEqDiff, Nat.reduceAdd, Nat.reduceLT, Nat.reduceLeDiff, Nat.reduceMul, Nat.reduceBEq, reduceIte, gi12, i12, hv13]) rfl (by simp -implicitDefEqProofs only [go_sem, Nat.reduceEqDiff, Nat.reduceAdd, Nat.reduceLT, Nat.reduceLeDiff, Nat.reduceMul, Nat.reduceBEq, reduceIte]) (by simp -implicitDefEqProofs only [go_sem, Nat.reduceEqDiff, Nat.reduceAdd, Nat.reduceLT, Nat.reduceLeDiff, Nat.reduceMul, Nat.reduceBEq, reduceIte]) ?_ rfl rfl
    cases h
    subst hQ
    simp -implicitDefEqProofs only [go_sem, Nat.reduceEqDiff, Nat.reduceAdd, Nat.reduceLT, Nat.reduceLeDiff, Nat.reduceMul, Nat.reduceBEq, reduceIte, gi12, i12, hv13, Try.results69]
theorem m_term_Own_ev (a0 : TTerm) (r0 : TTerm) (h : m_term_Own a0 = some r0) (d : Nat) (G : Heap) : Tel Try.prog TB d 38 [.agg ((cTTerm a0).map .p)] G (.agg ((cTTerm r0).map .p)) (G) := by
  unfold m_term_Own at h
  refine Tel.intro mix Try.func38 rfl (Nat.le_of_ble_eq_true rfl) {frzAt := fun t => t == 1 || t == 4 || t == 6 || t == 9} (by kernel_rfl) (by kernel_rfl) ?_
  generalize hQ : callPost _ _ _ _ _ = Q
  obtain ⟨r1, hr1, h⟩ := bs h
  simp -implicitDefEqProofs only [go_sem, Nat.reduceEqDiff, Nat.reduceAdd, Nat.reduceLT, Nat.reduceLeDiff, Nat.reduceMul, Nat.reduceBEq, reduceIte]
  refine call_frz (r' := .p (.bool r1)) (m_term_Right_ev a0 r1 hr1 (d + 1) empty) (by simp -implicitDefEqProofs only [go_sem, Nat.reduceEqDiff, Nat.reduceAdd, Nat.reduceLT, Nat.reduceLeDiff, Nat.reduceMul, Nat.reduceBEq, reduceIte]) rfl (by simp -implicitDefEqProofs only [go_sem, Nat.reduceEqDiff, Nat.reduceAdd, Nat.reduceLT, Nat.reduceLeDiff, Nat.reduceMul, Nat.reduceBEq, reduceIte]) (by simp -implicitDefEqProofs only [go_sem, Nat.reduceEqDiff, Nat.reduceAdd, Nat.reduceLT, Nat.reduceLeDiff, Nat.reduceMul, Nat.reduceBEq, reduceIte]) ?_ rfl rfl
  rcases ib h with ⟨c2, h⟩ | ⟨c2, h⟩
  · obtain ⟨r3, hr3, h⟩ := bs h
    simp -implicitDefEqProofs only [go_sem, Nat.reduceEqDiff, Nat.reduceAdd, Nat.reduceLT, Nat.reduceLeDiff, Nat.reduceMul, Nat.reduceBEq, reduceIte, c2]
    refine call_frz (r' := .agg [.p (.int .i64 r3.f0), .p (.int .i64 r3.f1)]) (args := []) (caps := []) (m_term_nought_ev  r3 hr3 (d + 1) empty) (wkRs_refl []) rfl (by simp -implicitDefEqProofs only [go_sem, Nat.reduceEqDiff, Nat.reduceAdd, Nat.reduceLT, Nat.reduceLeDiff, Nat.reduceMul, Nat.reduceBEq, reduceIte]) (by simp -implicitDefEqProofs only [go_sem, Nat.reduceEqDiff, Nat.reduceAdd, Nat.reduceLT, Nat.reduceLeDiff, Nat.reduceMul, Nat.reduceBEq, reduceIte]) ?_ rfl rfl
    cases h
    subst hQ
    simp -implicitDefEqProofs only [go_sem, Nat.reduceEqDiff, Nat.reduceAdd, Nat.reduceLT, Nat.reduceLeDiff, Nat.reduceMul, Nat.reduceBEq, reduceIte, c2, Try.results38]
  · obtain ⟨r4, hr4, h⟩ := bs h
    simp -implicitDefEqProofs only [go_sem, Nat.reduceEqDiff, Nat.reduceAdd, Nat.reduceLT, Nat.reduceLeDiff, Nat.reduceMul, Nat.reduceBEq, reduceIte, c2]
    refine call_frz (r' := .agg [.p (.sl (r4.f0.map cTRat)), .p (.int .i64 r4.f1.f0), .p (.int .i64 r4.f1.f1)]) (m_term_trim_ev a0 r4 hr4 (d + 1) empty) (by simp -implicitDefEqProofs only [go_sem, Nat.reduceEqDiff, Nat.reduceAdd, Nat.reduceLT, Nat.reduceLeDiff, Nat.reduceMul, Nat.reduceBEq, reduceIte, c2]) rfl (by simp -implicitDefEqProofs only [go_sem, Nat.reduceEqDiff, Nat.reduceAdd, Nat.reduceLT, Nat.reduceLeDiff, Nat.reduceMul, Nat.reduceBEq, reduceIte]) (by simp -implicitDefEqProofs only [go_sem, Nat.reduceEqDiff, Nat.reduceAdd, Nat.reduceLT, Nat.reduceLeDiff, Nat.reduceMul, Nat.reduceBEq, reduceIte]) ?_ rfl rfl
    cases h
    subst hQ
    simp -implicitDefEqProofs only [go_sem, Nat.reduceEqDiff, Nat.reduceAdd, Nat.reduceLT, Nat.reduceLeDiff, Nat.reduceMul, Nat.reduceBEq, reduceIte, c2, Try.results38]
theorem m_term_Scale_1_ev (a0 : Int) (u0 : TTerm) (u1 : TRat) (r0 : TRat × Int) (h : m_term_Scale_1 a0 u0 u1 = some r0) (d : Nat) (G : Heap) : Tel Try.prog TB d 50 [.p (.int .i64 a0), .ep (cTTerm u0) 0, .ep (cTRat u1) 0] G (.tup [.agg ((cTRat r0.1).map .p), .p (.int .i64 r0.2)]) (G) := by
  unfold m_term_Scale_1 at h
  refine Tel.intro mix Try.func50 rfl (Nat.le_of_ble_eq_true rfl) {frzAt := fun t => t == 8 || t == 10, boxAt := fun t => if t = 1 then some 900001 else if t = 2 then some 900002 else if t = 4 then some 4 else none} (by kernel_rfl) (by kernel_rfl) ?_
  generalize hQ : callPost _ _ _ _ _ = Q
  obtain ⟨r1, hr1, h⟩ := bs h
  simp -implicitDefEqProofs only [go_sem, Nat.reduceEqDiff, Nat.reduceAdd, Nat.reduceLT, Nat.reduceLeDiff, Nat.reduceMul, Nat.reduceBEq, reduceIte]
  refine call_frz (r' := .agg [.p (.int .i64 r1.f0), .p (.int .i64 r1.f1)]) (m_term_one_ev u0 a0 r1 hr1 (d + 1) empty) (by simp -implicitDefEqProofs only [go_sem, Nat.reduceEqDiff, Nat.reduceAdd, Nat.reduceLT, Nat.reduceLeDiff, Nat.reduceMul, Nat.reduceBEq, reduceIte]) rfl (by simp -implicitDefEqProofs only [go_sem, Nat.reduceEqDiff, Nat.reduceAdd, Nat.reduceLT, Nat.reduceLeDiff, Nat.reduceMul, Nat.reduceBEq, reduceIte]) (by simp -implicitDefEqProofs only [go_sem, Nat.reduceEqDiff, Nat.reduceAdd, Nat.reduceLT, Nat.reduceLeDiff, Nat.reduceMul, Nat.reduceBEq, reduceIte]) ?_ rfl rfl
  obtain ⟨r2, hr2, h⟩ := bs h
  simp -implicitDefEqProofs only [go_sem, Nat.reduceEqDiff, Nat.reduceAdd, Nat.reduceLT, Nat.reduceLeDiff, Nat.reduceMul, Nat.reduceBEq, reduceIte]
  refine call_frz (r' := .tup [.agg [.p (.int .i64 r2.1.f0), .p (.int .i64 r2.1.f1)], .p (.int .i64 r2.2)]) (m_rat_Mul_ev r1 u1 r2 hr2 (d + 1) empty) (by simp -implicitDefEqProofs only [go_sem, Nat.reduceEqDiff, Nat.reduceAdd, Nat.reduceLT, Nat.reduceLeDiff, Nat.reduceMul, Nat.reduceBEq, reduceIte]) rfl (by simp -implicitDefEqProofs only [go_sem, Nat.reduceEqDiff, Nat.reduceAdd, Nat.reduceLT, Nat.reduceLeDiff, Nat.reduceMul, Nat.reduceBEq, reduceIte]) (by simp -implicitDefEqProofs only [go_sem, Nat.reduceEqDiff, Nat.reduceAdd, Nat.reduceLT, Nat.reduceLeDiff, Nat.reduceMul, Nat.reduceBEq, reduceIte]) ?_ rfl rfl
  cases h
  subst hQ
  simp -implicitDefEqProofs only [go_sem, Nat.reduceEqDiff, Nat.reduceAdd, Nat.reduceLT, Nat.reduceLeDiff, Nat.reduceMul, Nat.reduceBEq, reduceIte, Try.results50]
theorem m_term_Add_1_ev (a0 : Int) (u0 : TTerm) (u1 : TTerm) (r0 : TRat × Int) (h : m_term_Add_1 a0 u0 u1 = some r0) (d : Nat) (G : Heap) : Tel Try.prog TB d 98 [.p (.int .i64 a0), .ep (cTTerm u0) 0, .ep (cTTerm u1) 0] G (.tup [.agg ((cTRat r0.1).map .p), .p (.int .i64 r0.2)]) (G) := by
  unfold m_term_Add_1 at h
  refine Tel.intro mix Try.func98 rfl (Nat.le_of_ble_eq_true rfl) {frzAt := fun t => t == 8 || t == 11 || t == 12, boxAt := fun t => if t = 1 then some 900001 else if t = 2 then some 900002 else if t = 4 then some 4 else none} (by kernel_rfl) (by kernel_rfl) ?_
  generalize hQ : callPost _ _ _ _ _ = Q
  obtain ⟨r1, hr1, h⟩ := bs h
  simp -implicitDefEqProofs only [go_sem, Nat.reduceEqDiff, Nat.reduceAdd, Nat.reduceLT, Nat.reduceLeDiff, Nat.reduceMul, Nat.reduceBEq, reduceIte]
  refine call_frz (r' := .agg [.p (.int .i64 r1.f0), .p (.int .i64 r1.f1)]) (m_term_one_ev u0 a0 r1 hr1 (d + 1) empty) (by simp -implicitDefEqProofs only [go_sem, Nat.reduceEqDiff, Nat.reduceAdd, Nat.reduceLT, Nat.reduceLeDiff, Nat.reduceMul, Nat.reduceBEq, reduceIte]) rfl (by simp -implicitDefEqProofs only [go_sem, Nat.reduceEqDiff, Nat.reduceAdd, Nat.reduceLT, Nat.reduceLeDiff, Nat.reduceMul, Nat.reduceBEq, reduceIte]) (by simp -implicitDefEqProofs only [go_sem, Nat.reduceEqDiff, Nat.reduceAdd, Nat.reduceLT, Nat.reduceLeDiff, Nat.reduceMul, Nat.reduceBEq, reduceIte]) ?_ rfl rfl
  obtain ⟨r2, hr2, h⟩ := bs h
  simp -implicitDefEqProofs only [go_sem, Nat.reduceEqDiff, Nat.reduceAdd, Nat.reduceLT, Nat.reduceLeDiff, Nat.reduceMul, Nat.reduceBEq, reduceIte]
  refine call_frz (r' := .agg [.p (.int .i64 r2.f0), .p (.int .i64 r2.f1)]) (m_term_one_ev u1 a0 r2 hr2 (d + 1) empty) (by simp -implicitDefEqProofs only [go_sem, Nat.reduceEqDiff, Nat.reduceAdd, Nat.reduceLT, Nat.reduceLeDiff, Nat.reduceMul, Nat.reduceBEq, reduceIte]) rfl (by simp -implicitDefEqProofs only [go_sem, Nat.reduceEqDiff, Nat.reduceAdd, Nat.reduceLT, Nat.reduceLeDiff, Nat.reduceMul, Nat.reduceBEq, reduceIte]) (by simp -implicitDefEqProofs only [go_sem, Nat.reduceEqDiff, Nat.reduceAdd, Nat.reduceLT, Nat.reduceLeDiff, Nat.reduceMul, Nat.reduceBEq, reduceIte]) ?_ rfl rfl
  obtain ⟨r3, hr3, h⟩ := bs h
  simp -implicitDefEqProofs only [go_sem, Nat.reduceEqDiff, Nat.reduceAdd, Nat.reduceLT, Nat.reduceLeDiff, Nat.reduceMul, Nat.reduceBEq, reduceIte]
  refine call_frz (r' := .tup [.agg [.p (.int .i64 r3.1.f0), .p (.int .i64 r3.1.f1)], .p (.int .i64 r3.2)]) (m_rat_Add_ev r1 r2 r3 hr3 (d + 1) empty) (by simp -implicitDefEqProofs only [go_sem, Nat.reduceEqDiff, Nat.reduceAdd, Nat.reduceLT, Nat.reduceLeDiff, Nat.reduceMul, Nat.reduceBEq, reduceIte]) rfl (by simp -implicitDefEqProofs only [go_sem, Nat.reduceEqDiff, Nat.reduceAdd, Nat.reduceLT, Nat.reduceLeDiff, Nat.reduceMul, Nat.reduceBEq, reduceIte]) (by simp -implicitDefEqProofs only [go_sem, Nat.reduceEqDiff, Nat.reduceAdd, Nat.reduceLT, Nat.reduceLeDiff, Nat.reduceMul, Nat.reduceBEq, reduceIte]) ?_ rfl rfl
  cases h
  subst hQ
  simp -implicitDefEqProofs only [go_sem, Nat.reduceEqDiff, Nat.reduceAdd, Nat.reduceLT, Nat.reduceLeDiff, Nat.reduceMul, Nat.reduceBEq, reduceIte, Try.results98]
theorem m_term_each_ev (a0 : Int) (a1 : (Int → Option (TRat × Int))) (n1 : FuncId) (q1 : List GV) (hc1 : closeds q1) (hf1 : ∀ x0 r, a1 x0 = some r → ∀ d, Tel Try.prog TB d n1 ([.p (.int .i64 x0)] ++ q1) empty (.tup [.agg ((cTRat r.1).map .p), .p (.int .i64 r.2)]) empty) (r0 : TTerm × Int) (h : m_term_each a0 a1 = some r0) (d : Nat) (G : Heap) : Tel Try.prog TB d 49 [.p (.int .i64 a0), .fn n1 q1] G (.tup [.agg ((cTTerm r0.1).map .p), .p (.int .i64 r0.2)]) (G) := by
  unfold m_term_each at h
  refine Tel.intro mix Try.func49 rfl (Nat.le_of_ble_eq_true rfl) {frzAt := fun t => t == 19 || t == 38, clean := fun r => if r = 3 then [8] else []} (by kernel_rfl) (by kernel_rfl) ?_
  generalize hQ : callPost _ _ _ _ _ = Q
  simp -implicitDefEqProofs only [go_sem, Nat.reduceEqDiff, Nat.reduceAdd, Nat.reduceLT, Nat.reduceLeDiff, Nat.reduceMul, Nat.reduceBEq, reduceIte]
  obtain ⟨z11, hL11, h⟩ := bs h
  obtain ⟨I11, hI11⟩ : ∃ I : (Int × (List TRat) × Int × Int) → St → Prop, I = fun a s => match a with | (v12, v13, v15, v16) => ∃ o14, s.G = fillKey (fillKey (fillKey (cut d G) (d + 1) 4 [.box [.csl [], .p (.int .i64 0), .p (.int .i64 0)]]) (d + 1) 6 [.box [growV o14 (d + 1) (v13.map cTRat), .p (.int .i64 v15), .p (.int .i64 v16)]]) (d + 1) 34 (growO o14 34 2 (v13.map cTRat)) ∧ growOK o14 [34] ∧ s.F 1 = .fn n1 q1 ∧ s.F 4 = .bp (d + 1, 4, 0) 0 ∧ s.F 6 = .bp (d + 1, 6, 0) 0 ∧ s.F 11 = .p (.int .i64 (IntKind.wrap .i64 (a0 + 1))) ∧ s.F 12 = .p (.int .i64 v12) ∧ True := ⟨_, rfl⟩
  obtain ⟨R11, hR11⟩ : ∃ R : (((List TRat) × Int × Int) ⊕ (TTerm × Int)) → GE → St → Prop, R = fun x e s => match x with | .inl (v17, v19, v20) => e = .exit 0 ∧ (∃ o18, s.G = fillKey (fillKey (fillKey (cut d G) (d + 1) 4 [.box [.csl [], .p (.int .i64 0), .p (.int .i64 0)]]) (d + 1) 6 [.box [growV o18 (d + 1) (v17.map cTRat), .p (.int .i64 v19), .p (.int .i64 v20)]]) (d + 1) 34 (growO o18 34 2 (v17.map cTRat)) ∧ growOK o18 [34] ∧ s.F 4 = .bp (d + 1, 4, 0) 0 ∧ s.F 6 = .bp (d + 1, 6, 0) 0 ∧ True) | .inr r => e = .ret ∧ (r = r0 → Q .ret s) := ⟨_, rfl⟩
  refine lp (ts := [8]) rfl hL11 I11 R11 ?_ ?_ ?_
  · rw [hI11]
    refine ⟨none, ?_⟩
    simp -implicitDefEqProofs only [go_sem, Nat.reduceEqDiff, Nat.reduceAdd, Nat.reduceLT, Nat.reduceLeDiff, Nat.reduceMul, Nat.reduceBEq, reduceIte, poisons_closed (d := d + 1) (ts := [8]) _ hc1]
  · clear h hL11
    rintro ⟨v12, v13, v15, v16⟩ y s h i
    rw [hI11] at i
    obtain ⟨o14, gi11, ko14, i11⟩ := i
    replace h : m_term_each_L0 a0 a1 (v12, v13, v15, v16) = some y := h
    unfold m_term_each_L0 at h
    rcases ib h with ⟨c21, h⟩ | ⟨c21, h⟩
    · obtain ⟨r22, hr22, h⟩ := bs h
      simp -implicitDefEqProofs only [go_sem, Nat.reduceEqDiff, Nat.reduceAdd, Nat.reduceLT, Nat.reduceLeDiff, Nat.reduceMul, Nat.reduceBEq, reduceIte, gi11, ko14, i11, c21]
      refine call_frz (r' := .tup [.agg [.p (.int .i64 r22.1.f0), .p (.int .i64 r22.1.f1)], .p (.int .i64 r22.2)]) (hf1 (IntKind.wrap .i64 (v12 - 1)) r22 hr22 (d + 1)) (by simp -implicitDefEqProofs only [go_sem, Nat.reduceEqDiff, Nat.reduceAdd, Nat.reduceLT, Nat.reduceLeDiff, Nat.reduceMul, Nat.reduceBEq, reduceIte, gi11, ko14, i11, c21]) rfl (by simp -implicitDefEqProofs only [go_sem, Nat.reduceEqDiff, Nat.reduceAdd, Nat.reduceLT, Nat.reduceLeDiff, Nat.reduceMul, Nat.reduceBEq, reduceIte, hc1]) (by simp -implicitDefEqProofs only [go_sem, Nat.reduceEqDiff, Nat.reduceAdd, Nat.reduceLT, Nat.reduceLeDiff, Nat.reduceMul, Nat.reduceBEq, reduceIte]) ?_ rfl rfl
      rcases ib h with ⟨c23, h⟩ | ⟨c23, h⟩
      · cases h
        simp -implicitDefEqProofs only [go_sem, Nat.reduceEqDiff, Nat.reduceAdd, Nat.reduceLT, Nat.reduceLeDiff, Nat.reduceMul, Nat.reduceBEq, reduceIte, gi11, ko14, i11, c21, c23]
        rw [hR11]
        refine ⟨rfl, ?_⟩
        intro hr
        subst hr
        subst hQ
        simp -implicitDefEqProofs only [go_sem, Nat.reduceEqDiff, Nat.reduceAdd, Nat.reduceLT, Nat.reduceLeDiff, Nat.reduceMul, Nat.reduceBEq, reduceIte, gi11, ko14, i11, c21, c23, Try.results49]
      · simp -implicitDefEqProofs only [go_sem, Nat.reduceEqDiff, Nat.reduceAdd, Nat.reduceLT, Nat.reduceLeDiff, Nat.reduceMul, Nat.reduceBEq, reduceIte, gi11, ko14, i11, c21, c23]
        obtain ⟨⟨v24, v26, v27⟩, hz, h⟩ := bs h
        obtain ⟨R28, hR28⟩ : ∃ R : St → Prop, R = fun s => ∃ o25, s.G = fillKey (fillKey (fillKey (fillKey (cut d G) (d + 1) 4 [.box [.csl [], .p (.int .i64 0), .p (.int .i64 0)]]) (d + 1) 6 [.box [growV o25 (d + 1) (v24.map cTRat), .p (.int .i64 v26), .p (.int .i64 v27)]]) (d + 1) 8 [.box [.p (.int .i64 r22.1.f0), .p (.int .i64 r22.1.f1)]]) (d + 1) 34 (growO o25 34 2 (v24.map cTRat)) ∧ growOK o25 [34] ∧ s.F 1 = .fn n1 q1 ∧ s.F 4 = .bp (d + 1, 4, 0) 0 ∧ s.F 6 = .bp (d + 1, 6, 0) 0 ∧ s.F 11 = .p (.int .i64 (IntKind.wrap .i64 (a0 + 1))) ∧ s.F 12 = .p (.int .i64 v12) ∧ True := ⟨_, rfl⟩
        refine cutG R28 ?_ ?_
        · replace h := hz
          rcases ib h with ⟨c29, h⟩ | ⟨c29, h⟩
          · cases h
            simp -implicitDefEqProofs only [go_sem, Nat.reduceEqDiff, Nat.reduceAdd, Nat.reduceLT, Nat.reduceLeDiff, Nat.reduceMul, Nat.reduceBEq, reduceIte, gi11, ko14, i11, c21, c23, c29]
            rw [hR28]
            refine ⟨o14, ?_⟩
            simp -implicitDefEqProofs only [go_sem, Nat.reduceEqDiff, Nat.reduceAdd, Nat.reduceLT, Nat.reduceLeDiff, Nat.reduceMul, Nat.reduceBEq, reduceIte, gi11, ko14, i11, c21, c23, c29]
          · obtain ⟨_, c30, h⟩ := bs h
            replace c30 := rqs c30
            simp -implicitDefEqProofs only [go_sem, Nat.reduceEqDiff, Nat.reduceAdd, Nat.reduceLT, Nat.reduceLeDiff, Nat.reduceMul, Nat.reduceBEq, reduceIte, gi11, ko14, i11, c21, c23, c29, c30]
            refine append_G (o := o14) (ts := [34]) (es := (v13 : List TRat).map cTRat) (xs := ([r22.1] : List TRat).map cTRat) (ho := growOK.sub ko14 (by decide)) (hG := by simp -implicitDefEqProofs only [go_sem, Nat.reduceEqDiff, Nat.reduceAdd, Nat.reduceLT, Nat.reduceLeDiff, Nat.reduceMul, Nat.reduceBEq, reduceIte, gi11, ko14, i11, c21, c23, c29, c30]) (hj := by simp -implicitDefEqProofs only [go_sem, Nat.reduceEqDiff, Nat.reduceAdd, Nat.reduceLT, Nat.reduceLeDiff, Nat.reduceMul, Nat.reduceBEq, reduceIte]) (he := el23) (hx := by simp -implicitDefEqProofs only [go_sem, Nat.reduceEqDiff, Nat.reduceAdd, Nat.reduceLT, Nat.reduceLeDiff, Nat.reduceMul, Nat.reduceBEq, reduceIte, gi11, ko14, i11, c21, c23, c29, c30]) (h1 := by simp -implicitDefEqProofs only [go_sem, Nat.reduceEqDiff, Nat.reduceAdd, Nat.reduceLT, Nat.reduceLeDiff, Nat.reduceMul, Nat.reduceBEq, reduceIte]) (h2 := by simp -implicitDefEqProofs only [go_sem, Nat.reduceEqDiff, Nat.reduceAdd, Nat.reduceLT, Nat.reduceLeDiff, Nat.reduceMul, Nat.reduceBEq, reduceIte]) (ha := rfl) (hra := rfl) (hb := by simpa using c30) (hbb := by decide) ?_
            intro o31 ko31
            cases h
            simp -implicitDefEqProofs only [go_sem, Nat.reduceEqDiff, Nat.reduceAdd, Nat.reduceLT, Nat.reduceLeDiff, Nat.reduceMul, Nat.reduceBEq, reduceIte, gi11, ko14, i11, c21, c23, c29, c30, ko31]
            rw [hR28]
            refine ⟨o31, ?_⟩
            simp -implicitDefEqProofs only [go_sem, Nat.reduceEqDiff, Nat.reduceAdd, Nat.reduceLT, Nat.reduceLeDiff, Nat.reduceMul, Nat.reduceBEq, reduceIte, gi11, ko14, i11, c21, c23, c29, c30, ko31]
        · replace h := h; clear hz
          rintro s i
          rw [hR28] at i
          obtain ⟨o25, gi32, ko25, i32⟩ := i
          clear hR28
          try dsimp only at h
          cases h
          simp -implicitDefEqProofs only [go_sem, Nat.reduceEqDiff, Nat.reduceAdd, Nat.reduceLT, Nat.reduceLeDiff, Nat.reduceMul, Nat.reduceBEq, reduceIte, gi11, ko14, i11, c21, c23, gi32, ko25, i32]
          rw [hI11]
          refine ⟨o25, ?_⟩
          simp -implicitDefEqProofs only [go_sem, Nat.reduceEqDiff, Nat.reduceAdd, Nat.reduceLT, Nat.reduceLeDiff, Nat.reduceMul, Nat.reduceBEq, reduceIte, gi11, ko14, i11, c21, c23, gi32, ko25, i32, poison_grow (d := d + 1) (ts := [8]) ko25 (by decide), poisons_closed (d := d + 1) (ts := [8]) _ hc1]
    · cases h
      simp -implicitDefEqProofs only [go_sem, Nat.reduceEqDiff, Nat.reduceAdd, Nat.reduceLT, Nat.reduceLeDiff, Nat.reduceMul, Nat.reduceBEq, reduceIte, gi11, ko14, i11, c21]
      rw [hR11]
      first | refine ⟨rfl, o14, ?_⟩ | refine ⟨(), rfl, o14, ?_⟩
      simp -implicitDefEqProofs only [go_sem, Nat.reduceEqDiff, Nat.reduceAdd, Nat.reduceLT, Nat.reduceLeDiff, Nat.reduceMul, Nat.reduceBEq, reduceIte, gi11, ko14, i11, c21]
  · clear hL11 hI11
    intro e s hr11
    rw [hR11] at hr11
    clear hR11
    rcases z11 with ⟨v17, v19, v20⟩ | r
    · try dsimp only at h hr11
      obtain ⟨rfl, o18, gi33, ko18, i33⟩ := hr11
      obtain ⟨r34, hr34, h⟩ := bs h
      simp -implicitDefEqProofs only [go_sem, Nat.reduceEqDiff, Nat.reduceAdd, Nat.reduceLT, Nat.reduceLeDiff, Nat.reduceMul, Nat.reduceBEq, reduceIte, gi33, ko18, i33]
      refine call_frz (r' := .agg [.p (.sl (r34.f0.map cTRat)), .p (.int .i64 r34.f1.f0), .p (.int .i64 r34.f1.f1)]) (m_term_trim_ev (⟨v17, (⟨v19, v20⟩ : TRat)⟩ : TTerm) r34 hr34 (d + 1) empty) (by simp -implicitDefEqProofs only [go_sem, Nat.reduceEqDiff, Nat.reduceAdd, Nat.reduceLT, Nat.reduceLeDiff, Nat.reduceMul, Nat.reduceBEq, reduceIte, gi33, ko18, i33]) rfl (by simp -implicitDefEqProofs only [go_sem, Nat.reduceEqDiff, Nat.reduceAdd, Nat.reduceLT, Nat.reduceLeDiff, Nat.reduceMul, Nat.reduceBEq, reduceIte, hc1]) (by simp -implicitDefEqProofs only [go_sem, Nat.reduceEqDiff, Nat.reduceAdd, Nat.reduceLT, Nat.reduceLeDiff, Nat.reduceMul, Nat.reduceBEq, reduceIte]) ?_ rfl rfl
      cases h
      subst hQ
      simp -implicitDefEqProofs only [go_sem, Nat.reduceEqDiff, Nat.reduceAdd, Nat.reduceLT, Nat.reduceLeDiff, Nat.reduceMul, Nat.reduceBEq, reduceIte, gi33, ko18, i33, Try.results49]
    · try dsimp only at h hr11
      obtain ⟨rfl, hr11⟩ := hr11
      cases h
      try simp -implicitDefEqProofs only [go_sem, Nat.reduceEqDiff, Nat.reduceAdd, Nat.reduceLT, Nat.reduceLeDiff, Nat.reduceMul, Nat.reduceBEq, reduceIte]
      exact hr11 rfl
theorem m_term_Add_ev (a0 : TTerm) (a1 : TTerm) (r0 : TTerm × Int) (h : m_term_Add a0 a1 = some r0) (d : Nat) (G : Heap) : Tel Try.prog TB d 68 [.agg ((cTTerm a0).map .p), .agg ((cTTerm a1).map .p)] G (.tup [.agg ((cTTerm r0.1).map .p), .p (.int .i64 r0.2)]) (G) := by
  unfold m_term_Add at h
  refine Tel.intro mix Try.func68 rfl (Nat.le_of_ble_eq_true rfl) {frzAt := fun t => t == 2 || t == 3 || t == 7 || t == 11 || t == 23} (by kernel_rfl) (by kernel_rfl) ?_
  generalize hQ : callPost _ _ _ _ _ = Q
  obtain ⟨r1, hr1, h⟩ := bs h
  simp -implicitDefEqProofs only [go_sem, Nat.reduceEqDiff, Nat.reduceAdd, Nat.reduceLT, Nat.reduceLeDiff, Nat.reduceMul, Nat.reduceBEq, reduceIte]
  refine call_frz (r' := .p (.bool r1)) (m_term_Right_ev a0 r1 hr1 (d + 1) empty) (by simp -implicitDefEqProofs only [go_sem, Nat.reduceEqDiff, Nat.reduceAdd, Nat.reduceLT, Nat.reduceLeDiff, Nat.reduceMul, Nat.reduceBEq, reduceIte]) rfl (by simp -implicitDefEqProofs only [go_sem, Nat.reduceEqDiff, Nat.reduceAdd, Nat.reduceLT, Nat.reduceLeDiff, Nat.reduceMul, Nat.reduceBEq, reduceIte]) (by simp -implicitDefEqProofs only [go_sem, Nat.reduceEqDiff, Nat.reduceAdd, Nat.reduceLT, Nat.reduceLeDiff, Nat.reduceMul, Nat.reduceBEq, reduceIte]) ?_ rfl rfl
  simp -implicitDefEqProofs only [go_sem, Nat.reduceEqDiff, Nat.reduceAdd, Nat.reduceLT, Nat.reduceLeDiff, Nat.reduceMul, Nat.reduceBEq, reduceIte]
  obtain ⟨v2, hz, h⟩ := bs h
  obtain ⟨R3, hR3⟩ : ∃ R : St → Prop, R = fun s => s.G = fillKey (cut d G) (d + 1) 4 [.box [.csl [], .p (.int .i64 0), .p (.int .i64 0)]] ∧ s.F 2 = .ep (cTTerm a0) 0 ∧ s.F 3 = .ep (cTTerm a1) 0 ∧ s.F 4 = .bp (d + 1, 4, 0) 0 ∧ s.F 13 = .p (.bool v2) ∧ True := ⟨_, rfl⟩
  refine cutR R3 ?_ ?_
  · replace h := hz
    rcases ib h with ⟨c4, h⟩ | ⟨c4, h⟩
    · cases h
      simp -implicitDefEqProofs only [go_sem, Nat.reduceEqDiff, Nat.reduceAdd, Nat.reduceLT, Nat.reduceLeDiff, Nat.reduceMul, Nat.reduceBEq, reduceIte, c4]
      rw [hR3]
      simp -implicitDefEqProofs only [go_sem, Nat.reduceEqDiff, Nat.reduceAdd, Nat.reduceLT, Nat.reduceLeDiff, Nat.reduceMul, Nat.reduceBEq, reduceIte, c4]
    · obtain ⟨r5, hr5, h⟩ := bs h
      simp -implicitDefEqProofs only [go_sem, Nat.reduceEqDiff, Nat.reduceAdd, Nat.reduceLT, Nat.reduceLeDiff, Nat.reduceMul, Nat.reduceBEq, reduceIte, c4]
      refine call_frz (r' := .p (.bool r5)) (m_term_Right_ev a1 r5 hr5 (d + 1) empty) (by simp -implicitDefEqProofs only [go_sem, Nat.reduceEqDiff, Nat.reduceAdd, Nat.reduceLT, Nat.reduceLeDiff, Nat.reduceMul, Nat.reduceBEq, reduceIte, c4]) rfl (by simp -implicitDefEqProofs only [go_sem, Nat.reduceEqDiff, Nat.reduceAdd, Nat.reduceLT, Nat.reduceLeDiff, Nat.reduceMul, Nat.reduceBEq, reduceIte]) (by simp -implicitDefEqProofs only [go_sem, Nat.reduceEqDiff, Nat.reduceAdd, Nat.reduceLT, Nat.reduceLeDiff, Nat.reduceMul, Nat.reduceBEq, reduceIte]) ?_ rfl rfl
      cases h
      simp -implicitDefEqProofs only [go_sem, Nat.reduceEqDiff, Nat.reduceAdd, Nat.reduceLT, Nat.reduceLeDiff, Nat.reduceMul, Nat.reduceBEq, reduceIte, c4]
      rw [hR3]
      simp -implicitDefEqProofs only [go_sem, Nat.reduceEqDiff, Nat.reduceAdd, Nat.reduceLT, Nat.reduceLeDiff, Nat.reduceMul, Nat.reduceBEq, reduceIte, c4]
  · replace h := h; clear hz
    rintro s i
    rw [hR3] at i
    obtain ⟨gi6, i6⟩ := i
    clear hR3
    try dsimp only at h
    rcases ib h with ⟨c7, h⟩ | ⟨c7, h⟩
    · cases h
      subst hQ
      simp -implicitDefEqProofs only [go_sem, Nat.reduceEqDiff, Nat.reduceAdd, Nat.reduceLT, Nat.reduceLeDiff, Nat.reduceMul, Nat.reduceBEq, reduceIte, gi6, i6, c7, Try.results68]
    · obtain ⟨r8, hr8, h⟩ := bs h
      simp -implicitDefEqProofs only [go_sem, Nat.reduceEqDiff, Nat.reduceAdd, Nat.reduceLT, Nat.reduceLeDiff, Nat.reduceMul, Nat.reduceBEq, reduceIte, gi6, i6, c7]
      refine call_frz (r' := .tup [.agg [.p (.sl (r8.1.f0.map cTRat)), .p (.int .i64 r8.1.f1.f0), .p (.int .i64 r8.1.f1.f1)], .p (.int .i64 r8.2)]) (m_term_each_ev (if (a0.f0.length : Int) < (a1.f0.length : Int) then (a1.f0.length : Int) else (a0.f0.length : Int)) (fun x0 => m_term_Add_1 x0 a0 a1) 98 [.ep (cTTerm a0) 0, .ep (cTTerm a1) 0] (by simp -implicitDefEqProofs only [go_sem, Nat.reduceEqDiff, Nat.reduceAdd, Nat.reduceLT, Nat.reduceLeDiff, Nat.reduceMul, Nat.reduceBEq, reduceIte]) (fun x0 r h d => m_term_Add_1_ev x0 a0 a1 r h d empty) r8 hr8 (d + 1) empty) (by simp -implicitDefEqProofs only [go_sem, Nat.reduceEqDiff, Nat.reduceAdd, Nat.reduceLT, Nat.reduceLeDiff, Nat.reduceMul, Nat.reduceBEq, reduceIte, gi6, i6, c7]) rfl (by simp -implicitDefEqProofs only [go_sem, Nat.reduceEqDiff, Nat.reduceAdd, Nat.reduceLT, Nat.reduceLeDiff, Nat.reduceMul, Nat.reduceBEq, reduceIte]) (by simp -implicitDefEqProofs only [go_sem, Nat.reduceEqDiff, Nat.reduceAdd, Nat.reduceLT, Nat.reduceLeDiff, Nat.reduceMul, Nat.reduceBEq, reduceIte]) ?_ rfl rfl
      cases h
      subst hQ
      simp -implicitDefEqProofs only [go_sem, Nat.reduceEqDiff, Nat.reduceAdd, Nat.reduceLT, Nat.reduceLeDiff, Nat.reduceMul, Nat.reduceBEq, reduceIte, gi6, i6, c7, Try.results68]
theorem m_term_Scale_ev (a0 : TTerm) (a1 : TRat) (r0 : TTerm × Int) (h : m_term_Scale a0 a1 = some r0) (d : Nat) (G : Heap) : Tel Try.prog TB d 29 [.agg ((cTTerm a0).map .p), .agg ((cTRat a1).map .p)] G (.tup [.agg ((cTTerm r0.1).map .p), .p (.int .i64 r0.2)]) (G) := by
  unfold m_term_Scale at h
  refine Tel.intro mix Try.func29 rfl (Nat.le_of_ble_eq_true rfl) {frzAt := fun t => t == 2 || t == 3 || t == 7 || t == 11 || t == 19} (by kernel_rfl) (by kernel_rfl) ?_
  generalize hQ : callPost _ _ _ _ _ = Q
  obtain ⟨r1, hr1, h⟩ := bs h
  simp -implicitDefEqProofs only [go_sem, Nat.reduceEqDiff, Nat.reduceAdd, Nat.reduceLT, Nat.reduceLeDiff, Nat.reduceMul, Nat.reduceBEq, reduceIte]
  refine call_frz (r' := .p (.bool r1)) (m_term_Right_ev a0 r1 hr1 (d + 1) empty) (by simp -implicitDefEqProofs only [go_sem, Nat.reduceEqDiff, Nat.reduceAdd, Nat.reduceLT, Nat.reduceLeDiff, Nat.reduceMul, Nat.reduceBEq, reduceIte]) rfl (by simp -implicitDefEqProofs only [go_sem, Nat.reduceEqDiff, Nat.reduceAdd, Nat.reduceLT, Nat.reduceLeDiff, Nat.reduceMul, Nat.reduceBEq, reduceIte]) (by simp -implicitDefEqProofs only [go_sem, Nat.reduceEqDiff, Nat.reduceAdd, Nat.reduceLT, Nat.reduceLeDiff, Nat.reduceMul, Nat.reduceBEq, reduceIte]) ?_ rfl rfl
  simp -implicitDefEqProofs only [go_sem, Nat.reduceEqDiff, Nat.reduceAdd, Nat.reduceLT, Nat.reduceLeDiff, Nat.reduceMul, Nat.reduceBEq, reduceIte]
  obtain ⟨v2, hz, h⟩ := bs h
  obtain ⟨R3, hR3⟩ : ∃ R : St → Prop, R = fun s => s.G = fillKey (cut d G) (d + 1) 4 [.box [.csl [], .p (.int .i64 0), .p (.int .i64 0)]] ∧ s.F 2 = .ep (cTTerm a0) 0 ∧ s.F 3 = .ep (cTRat a1) 0 ∧ s.F 4 = .bp (d + 1, 4, 0) 0 ∧ s.F 13 = .p (.bool v2) ∧ True := ⟨_, rfl⟩
  refine cutR R3 ?_ ?_
  · replace h := hz
    rcases ib h with ⟨c4, h⟩ | ⟨c4, h⟩
    · cases h
      simp -implicitDefEqProofs only [go_sem, Nat.reduceEqDiff, Nat.reduceAdd, Nat.reduceLT, Nat.reduceLeDiff, Nat.reduceMul, Nat.reduceBEq, reduceIte, c4]
      rw [hR3]
      simp -implicitDefEqProofs only [go_sem, Nat.reduceEqDiff, Nat.reduceAdd, Nat.reduceLT, Nat.reduceLeDiff, Nat.reduceMul, Nat.reduceBEq, reduceIte, c4]
    · obtain ⟨r5, hr5, h⟩ := bs h
      simp -implicitDefEqProofs only [go_sem, Nat.reduceEqDiff, Nat.reduceAdd, Nat.reduceLT, Nat.reduceLeDiff, Nat.reduceMul, Nat.reduceBEq, reduceIte, c4]
      refine call_frz (r' := .p (.bool r5)) (m_rat_Right_ev a1 r5 hr5 (d + 1) empty) (by simp -implicitDefEqProofs only [go_sem, Nat.reduceEqDiff, Nat.reduceAdd, Nat.reduceLT, Nat.reduceLeDiff, Nat.reduceMul, Nat.reduceBEq, reduceIte, c4]) rfl (by simp -implicitDefEqProofs only [go_sem, Nat.reduceEqDiff, Nat.reduceAdd, Nat.reduceLT, Nat.reduceLeDiff, Nat.reduceMul, Nat.reduceBEq, reduceIte]) (by simp -implicitDefEqProofs only [go_sem, Nat.reduceEqDiff, Nat.reduceAdd, Nat.reduceLT, Nat.reduceLeDiff, Nat.reduceMul, Nat.reduceBEq, reduceIte]) ?_ rfl rfl
      cases h
      simp -implicitDefEqProofs only [go_sem, Nat.reduceEqDiff, Nat.reduceAdd, Nat.reduceLT, Nat.reduceLeDiff, Nat.reduceMul, Nat.reduceBEq, reduceIte, c4]
      rw [hR3]
      simp -implicitDefEqProofs only [go_sem, Nat.reduceEqDiff, Nat.reduceAdd, Nat.reduceLT, Nat.reduceLeDiff, Nat.reduceMul, Nat.reduceBEq, reduceIte, c4]
  · replace h := h; clear hz
    rintro s i
    rw [hR3] at i
    obtain ⟨gi6, i6⟩ := i
    clear hR3
    try dsimp only at h
    rcases ib h with ⟨c7, h⟩ | ⟨c7, h⟩
    · cases h
      subst hQ
      simp -implicitDefEqProofs only [go_sem, Nat.reduceEqDiff, Nat.reduceAdd, Nat.reduceLT, Nat.reduceLeDiff, Nat.reduceMul, Nat.reduceBEq, reduceIte, gi6, i6, c7, Try.results29]
    · obtain ⟨r8, hr8, h⟩ := bs h
      simp -implicitDefEqProofs only [go_sem, Nat.reduceEqDiff, Nat.reduceAdd, Nat.reduceLT, Nat.reduceLeDiff, Nat.reduceMul, Nat.reduceBEq, reduceIte, gi6, i6, c7]
      refine call_frz (r' := .tup [.agg [.p (.sl (r8.1.f0.map cTRat)), .p (.int .i64 r8.1.f1.f0), .p (.int .i64 r8.1.f1.f1)], .p (.int .i64 r8.2)]) (m_term_each_ev (a0.f0.length : Int) (fun x0 => m_term_Scale_1 x0 a0 a1) 50 [.ep (cTTerm a0) 0, .ep (cTRat a1) 0] (by simp -implicitDefEqProofs only [go_sem, Nat.reduceEqDiff, Nat.reduceAdd, Nat.reduceLT, Nat.reduceLeDiff, Nat.reduceMul, Nat.reduceBEq, reduceIte]) (fun x0 r h d => m_term_Scale_1_ev x0 a0 a1 r h d empty) r8 hr8 (d + 1) empty) (by simp -implicitDefEqProofs only [go_sem, Nat.reduceEqDiff, Nat.reduceAdd, Nat.reduceLT, Nat.reduceLeDiff, Nat.reduceMul, Nat.reduceBEq, reduceIte, gi6, i6, c7]) rfl (by simp -implicitDefEqProofs only [go_sem, Nat.reduceEqDiff, Nat.reduceAdd, Nat.reduceLT, Nat.reduceLeDiff, Nat.reduceMul, Nat.reduceBEq, reduceIte]) (by simp -implicitDefEqProofs only [go_sem, Nat.reduceEqDiff, Nat.reduceAdd, Nat.reduceLT, Nat.reduceLeDiff, Nat.reduceMul, Nat.reduceBEq, reduceIte]) ?_ rfl rfl
      cases h
      subst hQ
      simp -implicitDefEqProofs only [go_sem, Nat.reduceEqDiff, Nat.reduceAdd, Nat.reduceLT, Nat.reduceLeDiff, Nat.reduceMul, Nat.reduceBEq, reduceIte, gi6, i6, c7, Try.results29]
theorem m_term_Value_ev (a0 : TTerm) (a1 : List TRat) (r0 : TRat × Int) (h : m_term_Value a0 a1 = some r0) (d : Nat) (G : Heap) : Tel Try.prog TB d 33 [.agg ((cTTerm a0).map .p), .p (.sl (a1.map cTRat))] G (.tup [.agg ((cTRat r0.1).map .p), .p (.int .i64 r0.2)]) (G) := by
  unfold m_term_Value at h
  refine Tel.intro mix Try.func33 rfl (Nat.le_of_ble_eq_true rfl) {frzAt := fun t => t == 2 || t == 18 || t == 22 || t == 24 || t == 51 || t == 61, boxAt := fun t => if t = 9 then some 9 else if t = 10 then some 10 else if t = 49 then some 900049 else none, clean := fun r => if r = 6 then [9, 10] else []} (by kernel_rfl) (by kernel_rfl) ?_
  generalize hQ : callPost _ _ _ _ _ = Q
  obtain ⟨v1, hv1, h⟩ := bs h
  replace hv1 := subLs hv1
  obtain ⟨r2, hr2, h⟩ := bs h
  simp -implicitDefEqProofs only [go_sem, Nat.reduceEqDiff, Nat.reduceAdd, Nat.reduceLT, Nat.reduceLeDiff, Nat.reduceMul, Nat.reduceBEq, reduceIte, hv1]
  refine call_frz (r' := .p (.bool r2)) (m_term_Right_ev a0 r2 hr2 (d + 1) empty) (by simp -implicitDefEqProofs only [go_sem, Nat.reduceEqDiff, Nat.reduceAdd, Nat.reduceLT, Nat.reduceLeDiff, Nat.reduceMul, Nat.reduceBEq, reduceIte, hv1]) rfl (by simp -implicitDefEqProofs only [go_sem, Nat.reduceEqDiff, Nat.reduceAdd, Nat.reduceLT, Nat.reduceLeDiff, Nat.reduceMul, Nat.reduceBEq, reduceIte]) (by simp -implicitDefEqProofs only [go_sem, Nat.reduceEqDiff, Nat.reduceAdd, Nat.reduceLT, Nat.reduceLeDiff, Nat.reduceMul, Nat.reduceBEq, reduceIte]) ?_ rfl rfl
  simp -implicitDefEqProofs only [go_sem, Nat.reduceEqDiff, Nat.reduceAdd, Nat.reduceLT, Nat.reduceLeDiff, Nat.reduceMul, Nat.reduceBEq, reduceIte, hv1]
  obtain ⟨v3, hz, h⟩ := bs h
  obtain ⟨R4, hR4⟩ : ∃ R : St → Prop, R = fun s => s.G = fillKey (cut d G) (d + 1) 4 [.box [.p (.int .i64 0), .p (.int .i64 0)]] ∧ s.F 2 = .ep (cTTerm a0) 0 ∧ s.F 4 = .bp (d + 1, 4, 0) 0 ∧ s.F 6 = .p (.sl (v1.map cTRat)) ∧ s.F 26 = .p (.bool v3) ∧ True := ⟨_, rfl⟩
  refine cutR R4 ?_ ?_
  · replace h := hz
    rcases ib h with ⟨c5, h⟩ | ⟨c5, h⟩
    · cases h
      simp -implicitDefEqProofs only [go_sem, Nat.reduceEqDiff, Nat.reduceAdd, Nat.reduceLT, Nat.reduceLeDiff, Nat.reduceMul, Nat.reduceBEq, reduceIte, hv1, c5]
      rw [hR4]
      simp -implicitDefEqProofs only [go_sem, Nat.reduceEqDiff, Nat.reduceAdd, Nat.reduceLT, Nat.reduceLeDiff, Nat.reduceMul, Nat.reduceBEq, reduceIte, hv1, c5]
    · obtain ⟨r6, hr6, h⟩ := bs h
      simp -implicitDefEqProofs only [go_sem, Nat.reduceEqDiff, Nat.reduceAdd, Nat.reduceLT, Nat.reduceLeDiff, Nat.reduceMul, Nat.reduceBEq, reduceIte, hv1, c5]
      refine call_frz (r' := .agg [.p (.int .i64 r6.f0), .p (.int .i64 r6.f1)]) (args := []) (caps := []) (m_term_nought_ev  r6 hr6 (d + 1) empty) (wkRs_refl []) rfl (by simp -implicitDefEqProofs only [go_sem, Nat.reduceEqDiff, Nat.reduceAdd, Nat.reduceLT, Nat.reduceLeDiff, Nat.reduceMul, Nat.reduceBEq, reduceIte]) (by simp -implicitDefEqProofs only [go_sem, Nat.reduceEqDiff, Nat.reduceAdd, Nat.reduceLT, Nat.reduceLeDiff, Nat.reduceMul, Nat.reduceBEq, reduceIte]) ?_ rfl rfl
      obtain ⟨r7, hr7, h⟩ := bs h
      simp -implicitDefEqProofs only [go_sem, Nat.reduceEqDiff, Nat.reduceAdd, Nat.reduceLT, Nat.reduceLeDiff, Nat.reduceMul, Nat.reduceBEq, reduceIte, hv1, c5]
      refine call_frz (r' := .p (.bool r7)) (m_term_Right_ev (⟨v1, r6⟩ : TTerm) r7 hr7 (d + 1) empty) (by simp -implicitDefEqProofs only [go_sem, Nat.reduceEqDiff, Nat.reduceAdd, Nat.reduceLT, Nat.reduceLeDiff, Nat.reduceMul, Nat.reduceBEq, reduceIte, hv1, c5]) rfl (by simp -implicitDefEqProofs only [go_sem, Nat.reduceEqDiff, Nat.reduceAdd, Nat.reduceLT, Nat.reduceLeDiff, Nat.reduceMul, Nat.reduceBEq, reduceIte]) (by simp -implicitDefEqProofs only [go_sem, Nat.reduceEqDiff, Nat.reduceAdd, Nat.reduceLT, Nat.reduceLeDiff, Nat.reduceMul, Nat.reduceBEq, reduceIte]) ?_ rfl rfl
      cases h
      simp -implicitDefEqProofs only [go_sem, Nat.reduceEqDiff, Nat.reduceAdd, Nat.reduceLT, Nat.reduceLeDiff, Nat.reduceMul, Nat.reduceBEq, reduceIte, hv1, c5]
      rw [hR4]
      simp -implicitDefEqProofs only [go_sem, Nat.reduceEqDiff, Nat.reduceAdd, Nat.reduceLT, Nat.reduceLeDiff, Nat.reduceMul, Nat.reduceBEq, reduceIte, hv1, c5]
  · replace h := h; clear hz
    rintro s i
    rw [hR4] at i
    obtain ⟨gi8, i8⟩ := i
    clear hR4
    try dsimp only at h
    rcases ib h with ⟨c9, h⟩ | ⟨c9, h⟩
    · cases h
      subst hQ
      simp -implicitDefEqProofs only [go_sem, Nat.reduceEqDiff, Nat.reduceAdd, Nat.reduceLT, Nat.reduceLeDiff, Nat.reduceMul, Nat.reduceBEq, reduceIte, hv1, gi8, i8, c9, Try.results33]
    · obtain ⟨v10, hv10, h⟩ := bs h
      replace hv10 := subLs hv10
      simp -implicitDefEqProofs only [go_sem, Nat.reduceEqDiff, Nat.reduceAdd, Nat.reduceLT, Nat.reduceLeDiff, Nat.reduceMul, Nat.reduceBEq, reduceIte, hv1, gi8, i8, c9, hv10]
      obtain ⟨z17, hL17, h⟩ := bs h
      obtain ⟨I17, hI17⟩ : ∃ I : (Int × Int × Int) → St → Prop, I = fun a s => match a with | (v18, v19, v20) => s.G = fillKey (fillKey (cut d G) (d + 1) 4 [.box [.p (.int .i64 0), .p (.int .i64 0)]]) (d + 1) 7 [.box [.p (.int .i64 v19), .p (.int .i64 v20)]] ∧ s.F 4 = .bp (d + 1, 4, 0) 0 ∧ s.F 6 = .p (.sl (v1.map cTRat)) ∧ s.F 7 = .bp (d + 1, 7, 0) 0 ∧ s.F 38 = .p (.sl (v10.map cTRat)) ∧ s.F 39 = .p (.int .i64 (v10.length : Int)) ∧ s.F 40 = .p (.int .i64 v18) ∧ True := ⟨_, rfl⟩
      obtain ⟨R17, hR17⟩ : ∃ R : ((Int × Int) ⊕ (TRat × Int)) → GE → St → Prop, R = fun x e s => match x with | .inl (v21, v22) => e = .exit 0 ∧ s.G = fillKey (fillKey (cut d G) (d + 1) 4 [.box [.p (.int .i64 0), .p (.int .i64 0)]]) (d + 1) 7 [.box [.p (.int .i64 v21), .p (.int .i64 v22)]] ∧ s.F 4 = .bp (d + 1, 4, 0) 0 ∧ s.F 7 = .bp (d + 1, 7, 0) 0 ∧ True | .inr r => e = .ret ∧ (r = r0 → Q .ret s) := ⟨_, rfl⟩
      refine lp (ts := [9, 10]) rfl hL17 I17 R17 ?_ ?_ ?_
      · rw [hI17]
        simp -implicitDefEqProofs only [go_sem, Nat.reduceEqDiff, Nat.reduceAdd, Nat.reduceLT, Nat.reduceLeDiff, Nat.reduceMul, Nat.reduceBEq, reduceIte, hv1, gi8, i8, c9, hv10]
      · clear h hL17
        rintro ⟨v18, v19, v20⟩ y s h i
        rw [hI17] at i
        obtain ⟨gi17, i17⟩ := i
        replace h : m_term_Value_L0 v10 v1 (v18, v19, v20) = some y := h
        unfold m_term_Value_L0 at h
        rcases ib h with ⟨c23, h⟩ | ⟨c23, h⟩
        · obtain ⟨v24, hv24, h⟩ := bs h
          replace hv24 := gis hv24
          obtain ⟨v25, hv25, h⟩ := bs h
          replace hv25 := gis hv25
          obtain ⟨r26, hr26, h⟩ := bs h
          simp -implicitDefEqProofs only [go_sem, Nat.reduceEqDiff, Nat.reduceAdd, Nat.reduceLT, Nat.reduceLeDiff, Nat.reduceMul, Nat.reduceBEq, reduceIte, hv1, gi8, i8, c9, hv10, gi17, i17, c23, hv24, hv25]
          refine call_frz (r' := .tup [.agg [.p (.int .i64 r26.1.f0), .p (.int .i64 r26.1.f1)], .p (.int .i64 r26.2)]) (m_rat_Mul_ev v24 v25 r26 hr26 (d + 1) empty) (by simp -implicitDefEqProofs only [go_sem, Nat.reduceEqDiff, Nat.reduceAdd, Nat.reduceLT, Nat.reduceLeDiff, Nat.reduceMul, Nat.reduceBEq, reduceIte, hv1, gi8, i8, c9, hv10, gi17, i17, c23, hv24, hv25]) rfl (by simp -implicitDefEqProofs only [go_sem, Nat.reduceEqDiff, Nat.reduceAdd, Nat.reduceLT, Nat.reduceLeDiff, Nat.reduceMul, Nat.reduceBEq, reduceIte]) (by simp -implicitDefEqProofs only [go_sem, Nat.reduceEqDiff, Nat.reduceAdd, Nat.reduceLT, Nat.reduceLeDiff, Nat.reduceMul, Nat.reduceBEq, reduceIte]) ?_ rfl rfl
          rcases ib h with ⟨c27, h⟩ | ⟨c27, h⟩
          · cases h
            simp -implicitDefEqProofs only [go_sem, Nat.reduceEqDiff, Nat.reduceAdd, Nat.reduceLT, Nat.reduceLeDiff, Nat.reduceMul, Nat.reduceBEq, reduceIte, hv1, gi8, i8, c9, hv10, gi17, i17, c23, hv24, hv25, c27]
            rw [hR17]
            refine ⟨rfl, ?_⟩
            intro hr
            subst hr
            subst hQ
            simp -implicitDefEqProofs only [go_sem, Nat.reduceEqDiff, Nat.reduceAdd, Nat.reduceLT, Nat.reduceLeDiff, Nat.reduceMul, Nat.reduceBEq, reduceIte, hv1, gi8, i8, c9, hv10, gi17, i17, c23, hv24, hv25, c27, Try.results33]
          · obtain ⟨r28, hr28, h⟩ := bs h
            simp -implicitDefEqProofs only [go_sem, Nat.reduceEqDiff, Nat.reduceAdd, Nat.reduceLT, Nat.reduceLeDiff, Nat.reduceMul, Nat.reduceBEq, reduceIte, hv1, gi8, i8, c9, hv10, gi17, i17, c23, hv24, hv25, c27]
            refine call_frz (r' := .tup [.agg [.p (.int .i64 r28.1.f0), .p (.int .i64 r28.1.f1)], .p (.int .i64 r28.2)]) (m_rat_Add_ev (⟨v19, v20⟩ : TRat) r26.1 r28 hr28 (d + 1) empty) (by simp -implicitDefEqProofs only [go_sem, Nat.reduceEqDiff, Nat.reduceAdd, Nat.reduceLT, Nat.reduceLeDiff, Nat.reduceMul, Nat.reduceBEq, reduceIte, hv1, gi8, i8, c9, hv10, gi17, i17, c23, hv24, hv25, c27]) rfl (by simp -implicitDefEqProofs only [go_sem, Nat.reduceEqDiff, Nat.reduceAdd, Nat.reduceLT, Nat.reduceLeDiff, Nat.reduceMul, Nat.reduceBEq, reduceIte]) (by simp -implicitDefEqProofs only [go_sem, Nat.reduceEqDiff, Nat.reduceAdd, Nat.reduceLT, Nat.reduceLeDiff, Nat.reduceMul, Nat.reduceBEq, reduceIte]) ?_ rfl rfl
            rcases ib h with ⟨c29, h⟩ | ⟨c29, h⟩
            · cases h
              simp -implicitDefEqProofs only [go_sem, Nat.reduceEqDiff, Nat.reduceAdd, Nat.reduceLT, Nat.reduceLeDiff, Nat.reduceMul, Nat.reduceBEq, reduceIte, hv1, gi8, i8, c9, hv10, gi17, i17, c23, hv24, hv25, c27, c29]
              rw [hR17]
              refine ⟨rfl, ?_⟩
              intro hr
              subst hr
              subst hQ
              simp -implicitDefEqProofs only [go_sem, Nat.reduceEqDiff, Nat.reduceAdd, Nat.reduceLT, Nat.reduceLeDiff, Nat.reduceMul, Nat.reduceBEq, reduceIte, hv1, gi8, i8, c9, hv10, gi17, i17, c23, hv24, hv25, c27, c29, Try.results33]
            · cases h
              simp -implicitDefEqProofs only [go_sem, Nat.reduceEqDiff, Nat.reduceAdd, Nat.reduceLT, Nat.reduceLeDiff, Nat.reduceMul, Nat.reduceBEq, reduceIte, hv1, gi8, i8, c9, hv10, gi17, i17, c23, hv24, hv25, c27, c29]
              rw [hI17]
              simp -implicitDefEqProofs only [go_sem, Nat.reduceEqDiff, Nat.reduceAdd, Nat.reduceLT, Nat.reduceLeDiff, Nat.reduceMul, Nat.reduceBEq, reduceIte, hv1, gi8, i8, c9, hv10, gi17, i17, c23, hv24, hv25, c27, c29]
        · cases h
          simp -implicitDefEqProofs only [go_sem, Nat.reduceEqDiff, Nat.reduceAdd, Nat.reduceLT, Nat.reduceLeDiff, Nat.reduceMul, Nat.reduceBEq, reduceIte, hv1, gi8, i8, c9, hv10, gi17, i17, c23]
          rw [hR17]
          first | refine ⟨rfl, ?_⟩ | refine ⟨(), rfl, ?_⟩
          simp -implicitDefEqProofs only [go_sem, Nat.reduceEqDiff, Nat.reduceAdd, Nat.reduceLT, Nat.reduceLeDiff, Nat.reduceMul, Nat.reduceBEq, reduceIte, hv1, gi8, i8, c9, hv10, gi17, i17, c23]
      · clear hL17 hI17
        intro e s hr17
        rw [hR17] at hr17
        clear hR17
        rcases z17 with ⟨v21, v22⟩ | r
        · try dsimp only at h hr17
          obtain ⟨rfl, gi30, i30⟩ := hr17
          cases h
          subst hQ
          simp -implicitDefEqProofs only [go_sem, Nat.reduceEqDiff, Nat.reduceAdd, Nat.reduceLT, Nat.reduceLeDiff, Nat.reduceMul, Nat.reduceBEq, reduceIte, hv1, gi8, i8, c9, hv10, gi30, i30, Try.results33]
        · try dsimp only at h hr17
          obtain ⟨rfl, hr17⟩ := hr17
          cases h
          try simp -implicitDefEqProofs only [go_sem, Nat.reduceEqDiff, Nat.reduceAdd, Nat.reduceLT, Nat.reduceLeDiff, Nat.reduceMul, Nat.reduceBEq, reduceIte]
          exact hr17 rfl
theorem m_ref02_Small_ev (a0 : TTerm) (r0 : Bool) (h : m_ref02_Small a0 = some r0) (d : Nat) (G : Heap) : Tel Try.prog TB d 12 [.agg ((cTTerm a0).map .p)] G (.p (.bool r0)) (G) := by
  unfold m_ref02_Small at h
  refine Tel.intro mix Try.func12 rfl (Nat.le_of_ble_eq_true rfl) {frzAt := fun t => t == 1} (by kernel_rfl) (by kernel_rfl) ?_
  generalize hQ : callPost _ _ _ _ _ = Q
  cases h
  subst hQ
  simp -implicitDefEqProofs only [go_sem, Nat.reduceEqDiff, Nat.reduceAdd, Nat.reduceLT, Nat.reduceLeDiff, Nat.reduceMul, Nat.reduceBEq, reduceIte, Try.results12]
theorem m_slices_IndexFunc_api_Term_ev (a0 : List TTerm) (a1 : (TTerm → Option Bool)) (n1 : FuncId) (q1 : List GV) (hc1 : closeds q1) (hf1 : ∀ x0 r, a1 x0 = some r → ∀ d, Tel Try.prog TB d n1 ([.agg ((cTTerm x0).map .p)] ++ q1) empty (.p (.bool r)) empty) (r0 : Int) (h : m_slices_IndexFunc_api_Term a0 a1 = some r0) (d : Nat) (G : Heap) : Tel Try.prog TB d 93 [.p (.sl (a0.map cTTerm)), .fn n1 q1] G (.p (.int .i64 r0)) (G) := by
  unfold m_slices_IndexFunc_api_Term at h
  refine Tel.intro mix Try.func93 rfl (Nat.le_of_ble_eq_true rfl) {frzAt := fun t => t == 16} (by kernel_rfl) (by kernel_rfl) ?_
  generalize hQ : callPost _ _ _ _ _ = Q
  simp -implicitDefEqProofs only [go_sem, Nat.reduceEqDiff, Nat.reduceAdd, Nat.reduceLT, Nat.reduceLeDiff, Nat.reduceMul, Nat.reduceBEq, reduceIte]
  obtain ⟨z3, hL3, h⟩ := bs h
  obtain ⟨I3, hI3⟩ : ∃ I : Int → St → Prop, I = fun v4 s => s.G = cut d G ∧ s.F 0 = .p (.sl (a0.map cTTerm)) ∧ s.F 1 = .fn n1 q1 ∧ s.F 7 = .p (.int .i64 (a0.length : Int)) ∧ s.F 8 = .p (.int .i64 v4) ∧ True := ⟨_, rfl⟩
  obtain ⟨R3, hR3⟩ : ∃ R : ((Unit) ⊕ (Int)) → GE → St → Prop, R = fun x e s => match x with | .inl _ => e = .exit 0 ∧ s.G = cut d G ∧ True | .inr r => e = .ret ∧ (r = r0 → Q .ret s) := ⟨_, rfl⟩
  refine lp (ts := []) rfl hL3 I3 R3 ?_ ?_ ?_
  · rw [hI3]
    simp -implicitDefEqProofs only [go_sem, Nat.reduceEqDiff, Nat.reduceAdd, Nat.reduceLT, Nat.reduceLeDiff, Nat.reduceMul, Nat.reduceBEq, reduceIte]
  · clear h hL3
    rintro v4 y s h i
    rw [hI3] at i
    obtain ⟨gi3, i3⟩ := i
    replace h : m_slices_IndexFunc_api_Term_L0 a0 a1 (v4) = some y := h
    unfold m_slices_IndexFunc_api_Term_L0 at h
    rcases ib h with ⟨c5, h⟩ | ⟨c5, h⟩
    · obtain ⟨v6, hv6, h⟩ := bs h
      replace hv6 := gis hv6
      obtain ⟨r7, hr7, h⟩ := bs h
      simp -implicitDefEqProofs only [go_sem, Nat.reduceEqDiff, Nat.reduceAdd, Nat.reduceLT, Nat.reduceLeDiff, Nat.reduceMul, Nat.reduceBEq, reduceIte, gi3, i3, c5, hv6]
      refine call_frz (r' := .p (.bool r7)) (hf1 v6 r7 hr7 (d + 1)) (by simp -implicitDefEqProofs only [go_sem, Nat.reduceEqDiff, Nat.reduceAdd, Nat.reduceLT, Nat.reduceLeDiff, Nat.reduceMul, Nat.reduceBEq, reduceIte, gi3, i3, c5, hv6]) rfl (by simp -implicitDefEqProofs only [go_sem, Nat.reduceEqDiff, Nat.reduceAdd, Nat.reduceLT, Nat.reduceLeDiff, Nat.reduceMul, Nat.reduceBEq, reduceIte, hc1]) (by simp -implicitDefEqProofs only [go_sem, Nat.reduceEqDiff, Nat.reduceAdd, Nat.reduceLT, Nat.reduceLeDiff, Nat.reduceMul, Nat.reduceBEq, reduceIte]) ?_ rfl rfl
      rcases ib h with ⟨c8, h⟩ | ⟨c8, h⟩
      · cases h
        simp -implicitDefEqProofs only [go_sem, Nat.reduceEqDiff, Nat.reduceAdd, Nat.reduceLT, Nat.reduceLeDiff, Nat.reduceMul, Nat.reduceBEq, reduceIte, gi3, i3, c5, hv6, c8]
        rw [hR3]
        refine ⟨rfl, ?_⟩
        intro hr
        subst hr
        subst hQ
        simp -implicitDefEqProofs only [go_sem, Nat.reduceEqDiff, Nat.reduceAdd, Nat.reduceLT, Nat.reduceLeDiff, Nat.reduceMul, Nat.reduceBEq, reduceIte, gi3, i3, c5, hv6, c8, Try.results93]
      · cases h
        simp -implicitDefEqProofs only [go_sem, Nat.reduceEqDiff, Nat.reduceAdd, Nat.reduceLT, Nat.reduceLeDiff, Nat.reduceMul, Nat.reduceBEq, reduceIte, gi3, i3, c5, hv6, c8]
        rw [hI3]
        simp -implicitDefEqProofs only [go_sem, Nat.reduceEqDiff, Nat.reduceAdd, Nat.reduceLT, Nat.reduceLeDiff, Nat.reduceMul, Nat.reduceBEq, reduceIte, gi3, i3, c5, hv6, c8]
    · cases h
      simp -implicitDefEqProofs only [go_sem, Nat.reduceEqDiff, Nat.reduceAdd, Nat.reduceLT, Nat.reduceLeDiff, Nat.reduceMul, Nat.reduceBEq, reduceIte, gi3, i3, c5]
      rw [hR3]
      first | refine ⟨rfl, ?_⟩ | refine ⟨(), rfl, ?_⟩
      simp -implicitDefEqProofs only [go_sem, Nat.reduceEqDiff, Nat.reduceAdd, Nat.reduceLT, Nat.reduceLeDiff, Nat.reduceMul, Nat.reduceBEq, reduceIte, gi3, i3, c5]
  · clear hL3 hI3
    intro e s hr3
    rw [hR3] at hr3
    clear hR3
    rcases z3 with _ | r
    · try dsimp only at h hr3
      obtain ⟨rfl, gi9, i9⟩ := hr3
      cases h
      subst hQ
      simp -implicitDefEqProofs only [go_sem, Nat.reduceEqDiff, Nat.reduceAdd, Nat.reduceLT, Nat.reduceLeDiff, Nat.reduceMul, Nat.reduceBEq, reduceIte, gi9, i9, Try.results93]
    · try dsimp only at h hr3
      obtain ⟨rfl, hr3⟩ := hr3
      cases h
      try simp -implicitDefEqProofs only [go_sem, Nat.reduceEqDiff, Nat.reduceAdd, Nat.reduceLT, Nat.reduceLeDiff, Nat.reduceMul, Nat.reduceBEq, reduceIte]
      exact hr3 rfl
theorem m_slices_ContainsFunc_api_Term_ev (a0 : List TTerm) (a1 : (TTerm → Option Bool)) (n1 : FuncId) (q1 : List GV) (hc1 : closeds q1) (hf1 : ∀ x0 r, a1 x0 = some r → ∀ d, Tel Try.prog TB d n1 ([.agg ((cTTerm x0).map .p)] ++ q1) empty (.p (.bool r)) empty) (r0 : Bool) (h : m_slices_ContainsFunc_api_Term a0 a1 = some r0) (d : Nat) (G : Heap) : Tel Try.prog TB d 61 [.p (.sl (a0.map cTTerm)), .fn n1 q1] G (.p (.bool r0)) (G) := by
  unfold m_slices_ContainsFunc_api_Term at h
  refine Tel.intro mix Try.func61 rfl (Nat.le_of_ble_eq_true rfl) {frzAt := fun t => t == 7} (by kernel_rfl) (by kernel_rfl) ?_
  generalize hQ : callPost _ _ _ _ _ = Q
  obtain ⟨r1, hr1, h⟩ := bs h
  simp -implicitDefEqProofs only [go_sem, Nat.reduceEqDiff, Nat.reduceAdd, Nat.reduceLT, Nat.reduceLeDiff, Nat.reduceMul, Nat.reduceBEq, reduceIte]
  refine call_frz (r' := .p (.int .i64 r1)) (m_slices_IndexFunc_api_Term_ev a0 a1 n1 q1 hc1 hf1 r1 hr1 (d + 1) empty) (by simp -implicitDefEqProofs only [go_sem, Nat.reduceEqDiff, Nat.reduceAdd, Nat.reduceLT, Nat.reduceLeDiff, Nat.reduceMul, Nat.reduceBEq, reduceIte]) rfl (by simp -implicitDefEqProofs only [go_sem, Nat.reduceEqDiff, Nat.reduceAdd, Nat.reduceLT, Nat.reduceLeDiff, Nat.reduceMul, Nat.reduceBEq, reduceIte, hc1]) (by simp -implicitDefEqProofs only [go_sem, Nat.reduceEqDiff, Nat.reduceAdd, Nat.reduceLT, Nat.reduceLeDiff, Nat.reduceMul, Nat.reduceBEq, reduceIte]) ?_ rfl rfl
  cases h
  subst hQ
  simp -implicitDefEqProofs only [go_sem, Nat.reduceEqDiff, Nat.reduceAdd, Nat.reduceLT, Nat.reduceLeDiff, Nat.reduceMul, Nat.reduceBEq, reduceIte, Try.results61]
theorem m_slices_Index_int_ev (a0 : List Int) (a1 : Int) (r0 : Int) (h : m_slices_Index_int a0 a1 = some r0) (d : Nat) (G : Heap) : Tel Try.prog TB d 102 [.p (.sl (a0.map cii64)), .p (.int .i64 a1)] G (.p (.int .i64 r0)) (G) := by
  unfold m_slices_Index_int at h
  refine Tel.intro mix Try.func102 rfl (Nat.le_of_ble_eq_true rfl) {} (by kernel_rfl) (by kernel_rfl) ?_
  generalize hQ : callPost _ _ _ _ _ = Q
  simp -implicitDefEqProofs only [go_sem, Nat.reduceEqDiff, Nat.reduceAdd, Nat.reduceLT, Nat.reduceLeDiff, Nat.reduceMul, Nat.reduceBEq, reduceIte]
  obtain ⟨z3, hL3, h⟩ := bs h
  obtain ⟨I3, hI3⟩ : ∃ I : Int → St → Prop, I = fun v4 s => s.G = cut d G ∧ s.F 0 = .p (.sl (a0.map cii64)) ∧ s.F 1 = .p (.int .i64 a1) ∧ s.F 7 = .p (.int .i64 (a0.length : Int)) ∧ s.F 8 = .p (.int .i64 v4) ∧ True := ⟨_, rfl⟩
  obtain ⟨R3, hR3⟩ : ∃ R : ((Unit) ⊕ (Int)) → GE → St → Prop, R = fun x e s => match x with | .inl _ => e = .exit 0 ∧ s.G = cut d G ∧ True | .inr r => e = .ret ∧ (r = r0 → Q .ret s) := ⟨_, rfl⟩
  refine lp (ts := []) rfl hL3 I3 R3 ?_ ?_ ?_
  · rw [hI3]
    simp -implicitDefEqProofs only [go_sem, Nat.reduceEqDiff, Nat.reduceAdd, Nat.reduceLT, Nat.reduceLeDiff, Nat.reduceMul, Nat.reduceBEq, reduceIte]
  · clear h hL3
    rintro v4 y s h i
    rw [hI3] at i
    obtain ⟨gi3, i3⟩ := i
    replace h : m_slices_Index_int_L0 a0 a1 (v4) = some y := h
    unfold m_slices_Index_int_L0 at h
    rcases ib h with ⟨c5, h⟩ | ⟨c5, h⟩
    · obtain ⟨v6, hv6, h⟩ := bs h
      replace hv6 := gis hv6
      rcases ib h with ⟨c7, h⟩ | ⟨c7, h⟩
      · cases h
        simp -implicitDefEqProofs only [go_sem, Nat.reduceEqDiff, Nat.reduceAdd, Nat.reduceLT, Nat.reduceLeDiff, Nat.reduceMul, Nat.reduceBEq, reduceIte, gi3, i3, c5, hv6, c7]
        rw [hR3]
        refine ⟨rfl, ?_⟩
        intro hr
        subst hr
        subst hQ
        simp -implicitDefEqProofs only [go_sem, Nat.reduceEqDiff, Nat.reduceAdd, Nat.reduceLT, Nat.reduceLeDiff, Nat.reduceMul, Nat.reduceBEq, reduceIte, gi3, i3, c5, hv6, c7, Try.results102]
      · cases h
        simp -implicitDefEqProofs only [go_sem, Nat.reduceEqDiff, Nat.reduceAdd, Nat.reduceLT, Nat.reduceLeDiff, Nat.reduceMul, Nat.reduceBEq, reduceIte, gi3, i3, c5, hv6, c7]
        rw [hI3]
        simp -implicitDefEqProofs only [go_sem, Nat.reduceEqDiff, Nat.reduceAdd, Nat.reduceLT, Nat.reduceLeDiff, Nat.reduceMul, Nat.reduceBEq, reduceIte, gi3, i3, c5, hv6, c7]
    · cases h
      simp -implicitDefEqProofs only [go_sem, Nat.reduceEqDiff, Nat.reduceAdd, Nat.reduceLT, Nat.reduceLeDiff, Nat.reduceMul, Nat.reduceBEq, reduceIte, gi3, i3, c5]
      rw [hR3]
      first | refine ⟨rfl, ?_⟩ | refine ⟨(), rfl, ?_⟩
      simp -implicitDefEqProofs only [go_sem, Nat.reduceEqDiff, Nat.reduceAdd, Nat.reduceLT, Nat.reduceLeDiff, Nat.reduceMul, Nat.reduceBEq, reduceIte, gi3, i3, c5]
  · clear hL3 hI3
    intro e s hr3
    rw [hR3] at hr3
    clear hR3
    rcases z3 with _ | r
    · try dsimp only at h hr3
      obtain ⟨rfl, gi8, i8⟩ := hr3
      cases h
      subst hQ
      simp -implicitDefEqProofs only [go_sem, Nat.reduceEqDiff, Nat.reduceAdd, Nat.reduceLT, Nat.reduceLeDiff, Nat.reduceMul, Nat.reduceBEq, reduceIte, gi8, i8, Try.results102]
    · try dsimp only at h hr3
      obtain ⟨rfl, hr3⟩ := hr3
      cases h
      try simp -implicitDefEqProofs only [go_sem, Nat.reduceEqDiff, Nat.reduceAdd, Nat.reduceLT, Nat.reduceLeDiff, Nat.reduceMul, Nat.reduceBEq, reduceIte]
      exact hr3 rfl
theorem m_slices_Contains_int_ev (a0 : List Int) (a1 : Int) (r0 : Bool) (h : m_slices_Contains_int a0 a1 = some r0) (d : Nat) (G : Heap) : Tel Try.prog TB d 72 [.p (.sl (a0.map cii64)), .p (.int .i64 a1)] G (.p (.bool r0)) (G) := by
  unfold m_slices_Contains_int at h
  refine Tel.intro mix Try.func72 rfl (Nat.le_of_ble_eq_true rfl) {frzAt := fun t => t == 7} (by kernel_rfl) (by kernel_rfl) ?_
  generalize hQ : callPost _ _ _ _ _ = Q
  obtain ⟨r1, hr1, h⟩ := bs h
  simp -implicitDefEqProofs only [go_sem, Nat.reduceEqDiff, Nat.reduceAdd, Nat.reduceLT, Nat.reduceLeDiff, Nat.reduceMul, Nat.reduceBEq, reduceIte]
  refine call_frz (r' := .p (.int .i64 r1)) (m_slices_Index_int_ev a0 a1 r1 hr1 (d + 1) empty) (by simp -implicitDefEqProofs only [go_sem, Nat.reduceEqDiff, Nat.reduceAdd, Nat.reduceLT, Nat.reduceLeDiff, Nat.reduceMul, Nat.reduceBEq, reduceIte]) rfl (by simp -implicitDefEqProofs only [go_sem, Nat.reduceEqDiff, Nat.reduceAdd, Nat.reduceLT, Nat.reduceLeDiff, Nat.reduceMul, Nat.reduceBEq, reduceIte]) (by simp -implicitDefEqProofs only [go_sem, Nat.reduceEqDiff, Nat.reduceAdd, Nat.reduceLT, Nat.reduceLeDiff, Nat.reduceMul, Nat.reduceBEq, reduceIte]) ?_ rfl rfl
  cases h
  subst hQ
  simp -implicitDefEqProofs only [go_sem, Nat.reduceEqDiff, Nat.reduceAdd, Nat.reduceLT, Nat.reduceLeDiff, Nat.reduceMul, Nat.reduceBEq, reduceIte, Try.results72]
theorem m_gauss_Solve_1_ev (a0 : TTerm) (r0 : Bool) (h : m_gauss_Solve_1 a0 = some r0) (d : Nat) (G : Heap) : Tel Try.prog TB d 62 [.agg ((cTTerm a0).map .p)] G (.p (.bool r0)) (G) := by
  unfold m_gauss_Solve_1 at h
  refine Tel.intro mix Try.func62 rfl (Nat.le_of_ble_eq_true rfl) {frzAt := fun t => t == 1 || t == 4} (by kernel_rfl) (by kernel_rfl) ?_
  generalize hQ : callPost _ _ _ _ _ = Q
  obtain ⟨r1, hr1, h⟩ := bs h
  simp -implicitDefEqProofs only [go_sem, Nat.reduceEqDiff, Nat.reduceAdd, Nat.reduceLT, Nat.reduceLeDiff, Nat.reduceMul, Nat.reduceBEq, reduceIte]
  refine call_frz (r' := .p (.bool r1)) (m_term_Right_ev a0 r1 hr1 (d + 1) empty) (by simp -implicitDefEqProofs only [go_sem, Nat.reduceEqDiff, Nat.reduceAdd, Nat.reduceLT, Nat.reduceLeDiff, Nat.reduceMul, Nat.reduceBEq, reduceIte]) rfl (by simp -implicitDefEqProofs only [go_sem, Nat.reduceEqDiff, Nat.reduceAdd, Nat.reduceLT, Nat.reduceLeDiff, Nat.reduceMul, Nat.reduceBEq, reduceIte]) (by simp -implicitDefEqProofs only [go_sem, Nat.reduceEqDiff, Nat.reduceAdd, Nat.reduceLT, Nat.reduceLeDiff, Nat.reduceMul, Nat.reduceBEq, reduceIte]) ?_ rfl rfl
  cases h
  subst hQ
  simp -implicitDefEqProofs only [go_sem, Nat.reduceEqDiff, Nat.reduceAdd, Nat.reduceLT, Nat.reduceLeDiff, Nat.reduceMul, Nat.reduceBEq, reduceIte, Try.results62]
theorem m_gauss_Solve_2_ev (a0 : TGauss_row) (a1 : TGauss_row) (r0 : Int) (h : m_gauss_Solve_2 a0 a1 = some r0) (d : Nat) (G : Heap) : Tel Try.prog TB d 65 [.agg ((cTGauss_row a0).map .p), .agg ((cTGauss_row a1).map .p)] G (.p (.int .i64 r0)) (G) := by
  unfold m_gauss_Solve_2 at h
  refine Tel.intro mix Try.func65 rfl (Nat.le_of_ble_eq_true rfl) {frzAt := fun t => t == 2 || t == 3} (by kernel_rfl) (by kernel_rfl) ?_
  generalize hQ : callPost _ _ _ _ _ = Q
  cases h
  subst hQ
  simp -implicitDefEqProofs only [go_sem, Nat.reduceEqDiff, Nat.reduceAdd, Nat.reduceLT, Nat.reduceLeDiff, Nat.reduceMul, Nat.reduceBEq, reduceIte, Try.results65]
theorem m_gauss_system_keep_ev (a0 : TGauss_system) (a1 : TTerm) (a2 : Int) (r0 : TTerm × TGauss_system) (h : m_gauss_system_keep a0 a1 a2 = some r0) (d : Nat) (G : Heap) (e0 t0 t0_0 : Nat) (he0 : e0 ≤ d) (hGt0 : G e0 t0 = [.box [arV ((a0.f0 : List TGauss_row).map cTGauss_row) (e0, t0_0, 0) 4, .p (.bool a0.f1)]]) (hGt0_0 : G e0 t0_0 = arO ((a0.f0 : List TGauss_row).map cTGauss_row)) (hnt0t0_0 : (t0 = t0_0) = False) (hnt0_0t0 : (t0_0 = t0) = False) : Tel Try.prog TB d 113 [.bp (e0, t0, 0) 0, .agg ((cTTerm a1).map .p), .p (.int .i64 a2)] G (.agg ((cTTerm r0.1).map .p)) (fillKey (fillKey (G) e0 t0 ([.box [arV ((r0.2.f0 : List TGauss_row).map cTGauss_row) (e0, t0_0, 0) 4, .p (.bool r0.2.f1)]])) e0 t0_0 (arO ((r0.2.f0 : List TGauss_row).map cTGauss_row))) := by
  unfold m_gauss_system_keep at h
  refine Tel.intro mix Try.func113 rfl (Nat.le_of_ble_eq_true rfl) {frzAt := fun t => t == 4} (by kernel_rfl) (by kernel_rfl) ?_
  have le0 : (e0 ≤ d + 1) = True := by simp; omega
  have qe0 : (e0 = d + 1) = False := by simp; omega
  have pe0 : (d + 1 = e0) = False := by simp; omega
  have wt0t0_0 := fk_swap (a := e0) (b := t0_0) (a' := e0) (b' := t0) (fun x => by rw [← hnt0_0t0]; exact x.2)
  refine gwp_heap (H' := fillKey (fillKey (cut d G) e0 t0 [.box [arV ((a0.f0 : List TGauss_row).map cTGauss_row) (e0, t0_0, 0) 4, .p (.bool a0.f1)]]) e0 t0_0 (arO ((a0.f0 : List TGauss_row).map cTGauss_row))) ?_ ?_
  · rw [fill_self (B := cut d G) (a := e0) (b := t0) (by rw [cut_app, if_pos he0]; exact hGt0), fill_self (B := cut d G) (a := e0) (b := t0_0) (by rw [cut_app, if_pos he0]; exact hGt0_0)]
  generalize hQ : callPost _ _ _ _ _ = Q
  rcases ib h with ⟨c1, h⟩ | ⟨c1, h⟩
  · cases h
    subst hQ
    simp -implicitDefEqProofs only [go_sem, Nat.reduceEqDiff, Nat.reduceAdd, Nat.reduceLT, Nat.reduceLeDiff, Nat.reduceMul, Nat.reduceBEq, reduceIte, he0, le0, qe0, pe0, hnt0t0_0, hnt0_0t0, wt0t0_0, c1, Try.results113]
  · cases h
    subst hQ
    simp -implicitDefEqProofs only [go_sem, Nat.reduceEqDiff, Nat.reduceAdd, Nat.reduceLT, Nat.reduceLeDiff, Nat.reduceMul, Nat.reduceBEq, reduceIte, he0, le0, qe0, pe0, hnt0t0_0, hnt0_0t0, wt0t0_0, c1, Try.results113]
theorem m_gauss_system_times_ev (a0 : TGauss_system) (a1 : TTerm) (a2 : TRat) (r0 : TTerm × TGauss_system) (h : m_gauss_system_times a0 a1 a2 = some r0) (d : Nat) (G : Heap) (e0 t0 t0_0 : Nat) (he0 : e0 ≤ d) (hGt0 : G e0 t0 = [.box [arV ((a0.f0 : List TGauss_row).map cTGauss_row) (e0, t0_0, 0) 4, .p (.bool a0.f1)]]) (hGt0_0 : G e0 t0_0 = arO ((a0.f0 : List TGauss_row).map cTGauss_row)) (hnt0t0_0 : (t0 = t0_0) = False) (hnt0_0t0 : (t0_0 = t0) = False) : Tel Try.prog TB d 112 [.bp (e0, t0, 0) 0, .agg ((cTTerm a1).map .p), .agg ((cTRat a2).map .p)] G (.agg ((cTTerm r0.1).map .p)) (fillKey (fillKey (G) e0 t0 ([.box [arV ((r0.2.f0 : List TGauss_row).map cTGauss_row) (e0, t0_0, 0) 4, .p (.bool r0.2.f1)]])) e0 t0_0 (arO ((r0.2.f0 : List TGauss_row).map cTGauss_row))) := by
  unfold m_gauss_system_times at h
  refine Tel.intro mix Try.func112 rfl (Nat.le_of_ble_eq_true rfl) {openAt := fun t => t == 13, frzAt := fun t => t == 4 || t == 5 || t == 10} (by kernel_rfl) (by kernel_rfl) ?_
  have le0 : (e0 ≤ d + 1) = True := by simp; omega
  have qe0 : (e0 = d + 1) = False := by simp; omega
  have pe0 : (d + 1 = e0) = False := by simp; omega
  have wt0t0_0 := fk_swap (a := e0) (b := t0_0) (a' := e0) (b' := t0) (fun x => by rw [← hnt0_0t0]; exact x.2)
  refine gwp_heap (H' := fillKey (fillKey (cut d G) e0 t0 [.box [arV ((a0.f0 : List TGauss_row).map cTGauss_row) (e0, t0_0, 0) 4, .p (.bool a0.f1)]]) e0 t0_0 (arO ((a0.f0 : List TGauss_row).map cTGauss_row))) ?_ ?_
  · rw [fill_self (B := cut d G) (a := e0) (b := t0) (by rw [cut_app, if_pos he0]; exact hGt0), fill_self (B := cut d G) (a := e0) (b := t0_0) (by rw [cut_app, if_pos he0]; exact hGt0_0)]
  generalize hQ : callPost _ _ _ _ _ = Q
  obtain ⟨r1, hr1, h⟩ := bs h
  simp -implicitDefEqProofs only [go_sem, Nat.reduceEqDiff, Nat.reduceAdd, Nat.reduceLT, Nat.reduceLeDiff, Nat.reduceMul, Nat.reduceBEq, reduceIte, he0, le0, qe0, pe0, hnt0t0_0, hnt0_0t0, wt0t0_0]
  refine call_frz (r' := .tup [.agg [.p (.sl (r1.1.f0.map cTRat)), .p (.int .i64 r1.1.f1.f0), .p (.int .i64 r1.1.f1.f1)], .p (.int .i64 r1.2)]) (m_term_Scale_ev a1 a2 r1 hr1 (d + 1) empty) (by simp -implicitDefEqProofs only [go_sem, Nat.reduceEqDiff, Nat.reduceAdd, Nat.reduceLT, Nat.reduceLeDiff, Nat.reduceMul, Nat.reduceBEq, reduceIte, he0, le0, qe0, pe0, hnt0t0_0, hnt0_0t0, wt0t0_0]) rfl (by simp -implicitDefEqProofs only [go_sem, Nat.reduceEqDiff, Nat.reduceAdd, Nat.reduceLT, Nat.reduceLeDiff, Nat.reduceMul, Nat.reduceBEq, reduceIte]) (by simp -implicitDefEqProofs only [go_sem, Nat.reduceEqDiff, Nat.reduceAdd, Nat.reduceLT, Nat.reduceLeDiff, Nat.reduceMul, Nat.reduceBEq, reduceIte]) ?_ rfl rfl
  obtain ⟨r2, hr2, h⟩ := bs h
  simp -implicitDefEqProofs only [go_sem, Nat.reduceEqDiff, Nat.reduceAdd, Nat.reduceLT, Nat.reduceLeDiff, Nat.reduceMul, Nat.reduceBEq, reduceIte, he0, le0, qe0, pe0, hnt0t0_0, hnt0_0t0, wt0t0_0]
  refine call_open0 (t0 := 999) (r := .agg [.p (.sl (r2.1.f0.map cTRat)), .p (.int .i64 r2.1.f1.f0), .p (.int .i64 r2.1.f1.f1)]) (m_gauss_system_keep_ev a0 r1.1 r1.2 r2 hr2 (d + 1) _ e0 t0 t0_0 (Nat.le_succ_of_le he0) (by simp -implicitDefEqProofs only [go_sem, Nat.reduceEqDiff, Nat.reduceAdd, Nat.reduceLT, Nat.reduceLeDiff, Nat.reduceMul, Nat.reduceBEq, reduceIte, he0, le0, qe0, pe0, hnt0t0_0, hnt0_0t0, wt0t0_0]) (by simp -implicitDefEqProofs only [go_sem, Nat.reduceEqDiff, Nat.reduceAdd, Nat.reduceLT, Nat.reduceLeDiff, Nat.reduceMul, Nat.reduceBEq, reduceIte, he0, le0, qe0, pe0, hnt0t0_0, hnt0_0t0, wt0t0_0]) hnt0t0_0 hnt0_0t0) (by simp -implicitDefEqProofs only [go_sem, Nat.reduceEqDiff, Nat.reduceAdd, Nat.reduceLT, Nat.reduceLeDiff, Nat.reduceMul, Nat.reduceBEq, reduceIte, he0, le0, qe0, pe0, hnt0t0_0, hnt0_0t0, wt0t0_0]) rfl (by simp -implicitDefEqProofs only [go_sem, Nat.reduceEqDiff, Nat.reduceAdd, Nat.reduceLT, Nat.reduceLeDiff, Nat.reduceMul, Nat.reduceBEq, reduceIte, he0, le0, qe0, pe0, hnt0t0_0, hnt0_0t0, wt0t0_0]) (by simp -implicitDefEqProofs only [go_sem, Nat.reduceEqDiff, Nat.reduceAdd, Nat.reduceLT, Nat.reduceLeDiff, Nat.reduceMul, Nat.reduceBEq, reduceIte, he0, le0, qe0, pe0, hnt0t0_0, hnt0_0t0, wt0t0_0]) (by simp -implicitDefEqProofs only [go_sem, Nat.reduceEqDiff, Nat.reduceAdd, Nat.reduceLT, Nat.reduceLeDiff, Nat.reduceMul, Nat.reduceBEq, reduceIte]) ?_
  have cl3 : (r2.2.f0).length = ((a0.f0 : List TGauss_row)).length := by have := len_keep hr2; (try simp only [List.length_set] at this); first | exact this | exact this.trans rfl
  have cv3 := arV_len (c := cTGauss_row) (κ := (e0, t0_0, 0)) (n := 4) cl3
  have ce3 := nil_len cl3
  cases h
  subst hQ
  simp -implicitDefEqProofs only [go_sem, Nat.reduceEqDiff, Nat.reduceAdd, Nat.reduceLT, Nat.reduceLeDiff, Nat.reduceMul, Nat.reduceBEq, reduceIte, he0, le0, qe0, pe0, hnt0t0_0, hnt0_0t0, wt0t0_0, cl3, cv3, ce3, Try.results112]
end Go.E
end
