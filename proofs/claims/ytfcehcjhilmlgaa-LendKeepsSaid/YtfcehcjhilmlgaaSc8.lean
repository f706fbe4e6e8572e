import Derived.ChangeArms
import Derived.ChangeSame
import Derived.Lib.SmallJoins
import Derived.ChangeOld
import Derived.Below
import Derived.Test.YtfcehcjhilmlgaaSc7
section
set_option linter.all false
namespace Go.Eng
open Go Go.RowKit Go.ChangeShapes Go.WideShapes
variable {α β : Type} {P : Program}
def MW (W : World) (b i : Nat) (v : Value) : Prop := W.cell? ⟨b, i, none⟩ = some v ∧ v.oneCell' = true
def PRl (M : Nat → Nat → Value → Prop) : List PV → List Value → Prop
  | [], [] => True
  | p :: ps, v :: vs => (PR M p v ∧ v.oneCell' = true) ∧ PRl M ps vs
  | _, _ => False
theorem PRl.len {M : Nat → Nat → Value → Prop} : ∀ {ps : List PV} {vs : List Value}, PRl M ps vs → ps.length = vs.length
  | [], [], _ => rfl
  | _ :: _, _ :: _, h => by simp [PRl.len h.2]
  | [], _ :: _, h => h.elim
  | _ :: _, [], h => h.elim
theorem PRl.app {M : Nat → Nat → Value → Prop} : ∀ {ps qs : List PV} {vs us : List Value}, PRl M ps vs → PRl M qs us → PRl M (ps ++ qs) (vs ++ us)
  | [], _, [], _, _, h => h
  | _ :: _, _, _ :: _, _, h, h' => ⟨h.1, PRl.app h.2 h'⟩
  | [], _, _ :: _, _, h, _ => h.elim
  | _ :: _, _, [], _, h, _ => h.elim
theorem PRl.mono {M M' : Nat → Nat → Value → Prop} (hm : ∀ b i v, M b i v → M' b i v) : ∀ {ps : List PV} {vs : List Value}, PRl M ps vs → PRl M' ps vs
  | [], [], h => h
  | _ :: _, _ :: _, h => ⟨⟨PR.mono hm _ _ h.1.1, h.1.2⟩, PRl.mono hm h.2⟩
  | [], _ :: _, h => h.elim
  | _ :: _, [], h => h.elim
theorem PRl.vrs {M : Nat → Nat → Value → Prop} {G : Heap} {R : RMap} {d : Nat} : ∀ {ps : List PV} {vs : List Value}, PRl M ps vs → VRs M G R d (ps.map .p) vs
  | [], [], _ => by unfold VRs; trivial
  | _ :: _, _ :: _, h => by rw [List.map_cons]; unfold VRs; exact ⟨by unfold VR; exact h.1.1, PRl.vrs h.2⟩
  | [], _ :: _, h => h.elim
  | _ :: _, [], h => h.elim
theorem PRl.one {M : Nat → Nat → Value → Prop} : ∀ {ps : List PV} {vs : List Value}, PRl M ps vs → ∀ v ∈ vs, v.oneCell' = true
  | [], [], _, _, h => by cases h
  | _ :: _, _ :: _, h, v, hv => by
    rcases List.mem_cons.1 hv with rfl | hv
    · exact h.1.2
    · exact PRl.one h.2 v hv
  | [], _ :: _, h, _, _ => h.elim
  | _ :: _, [], h, _, _ => h.elim
theorem PRl.prs {W : World} {b : Nat} : ∀ {ps : List PV} {vs : List Value} {o : Nat}, PRl (MW W) ps vs → (∀ (j : Nat) (u : Value), vs[j]? = some u → W.cell? ⟨b, o + j, none⟩ = some u) → PRs (MW W) ps b o
  | [], [], _, _, _ => by unfold PRs; trivial
  | _ :: _, v :: _, o, h, hc => by
    unfold PRs
    refine ⟨⟨v, ⟨by simpa using hc 0 v rfl, h.1.2⟩, h.1.1⟩, PRl.prs h.2 fun j u hj => ?_⟩
    have := hc (j + 1) u (by simpa using hj)
    rwa [show o + (j + 1) = o + 1 + j from by omega] at this
  | [], _ :: _, _, h, _ => h.elim
  | _ :: _, [], _, h, _ => h.elim
def Opens (P : Program) (t : TypeId) (E : α → List PV) (ok : α → Prop) : Prop :=
  ∀ (H : Type) (enc : TypeId × Value → H) (W : World) (base : Nat) (spare : Nat → Bool) (held : Bool) (fuel : Nat) (cs : List Value) (x : DataW H × List MemPlace), DataW.trod enc P W base spare held fuel t cs = some x → (x.1.weights P t).all (· ≤ reachBytes) = true → ∃ a, PRl (MW W) (E a) cs ∧ ok a
theorem opens_int {t : TypeId} {k : IntKind} (ht : P.underlying t = some (.int k)) : Opens P t (fun n => [.int k n]) (fun n => (Lit.int k n).wf = true) := by
  intro H enc W base spare held fuel cs x h hwt
  obtain ⟨n, rfl, _, hw⟩ := DataW.trod_int ht h
  exact ⟨n, ⟨⟨by unfold PR; rfl, rfl⟩, trivial⟩, hw⟩
theorem opens_bool {t : TypeId} (ht : P.underlying t = some .bool) : Opens P t (fun b => [.bool b]) (fun _ => True) := by
  intro H enc W base spare held fuel cs x h hwt
  obtain ⟨b, rfl, _⟩ := DataW.trod_bool ht h
  exact ⟨b, ⟨⟨by unfold PR; rfl, rfl⟩, trivial⟩, trivial⟩
theorem opens_string {t : TypeId} (ht : P.underlying t = some .string) : Opens P t (fun s => [.str s]) (fun s => s.size ≤ 140737488351232) := by
  intro H enc W base spare held fuel cs x h hwt
  obtain ⟨s, rfl, hx, hs⟩ := DataW.trod_string ht h
  refine ⟨s, ⟨⟨by unfold PR; rfl, rfl⟩, trivial⟩, ?_⟩
  rw [hx] at hwt
  simp [DataW.weights, reachBytes] at hwt
  exact of_decide_eq_true hwt
theorem add_add (a : Addr) (x y : Nat) : (a.add x).add y = a.add (x + y) := by
  unfold Addr.add
  by_cases hx : x = 0
  · subst hx; simp
  · by_cases hy : y = 0
    · subst hy; simp
    · rw [if_neg hx, if_neg hy, if_neg (by omega)]
      simp only [Addr.mk.injEq, and_true, true_and]
      omega
theorem cells_get {W : World} {base : Nat} {a : Addr} {n : Nat} {c : List Value} (h : W.cells? base a n = some c) : c.length = n ∧ ∀ (j : Nat) (u : Value), c[j]? = some u → W.cell? (a.add j) = some u := by
  unfold World.cells? at h
  split at h
  · refine ⟨by simpa using mapM_some_length h, fun j u hj => ?_⟩
    have hl := mapM_some_length h
    have hjl : j < c.length := (List.getElem?_eq_some_iff.1 hj).1
    have := mapM_some_get h j j (by rw [List.getElem?_range]; rw [hl] at hjl; simpa using hjl)
    rw [this]; exact hj
  · cases h
theorem cell_spot {W : World} {a : Addr} {v : Value} (h : W.cell? a = some v) : a.spot = none := by
  unfold World.cell? at h
  split at h
  · split at h
    · cases h
    · rename_i hn; simpa using hn
  · cases h
theorem add_none {b o n : Nat} : (Addr.mk b o none).add n = ⟨b, o + n, none⟩ := by
  unfold Addr.add
  by_cases h : n = 0
  · subst h; rfl
  · rw [if_neg h]
theorem add_spot {a : Addr} {n : Nat} (h : (a.add n).spot = none) (hn : n = 0) : a = ⟨a.block, a.off, none⟩ := by
  subst hn
  unfold Addr.add at h
  rw [if_pos rfl] at h
  cases a
  simp only at h
  rw [h]
theorem opens_rows {e : TypeId} {E : α → List PV} {ok : α → Prop} (he : Opens P e E ok) (hsz : ∀ a, (E a).length = P.cellsOf e) {H : Type} {enc : TypeId × Value → H} {W : World} {base : Nat} {spare : Nat → Bool} {held : Bool} {n b o : Nat} :
    ∀ (elems : List (DataW H × List MemPlace)) (k : Nat), (∀ i, i < elems.length → (W.cells? base ((Addr.mk b o none).add ((k + i) * P.cellsOf e)) (P.cellsOf e)).bind (DataW.trod enc P W base spare held n e) = elems[i]?) → (DataW.weightsAll P e (elems.map (·.1))).all (· ≤ reachBytes) = true →
    ∃ l : List α, l.length = elems.length ∧ (∀ x ∈ l, ok x) ∧ PRss (MW W) (l.map E) b (o + k * P.cellsOf e) (P.cellsOf e)
  | [], k, _, _ => ⟨[], rfl, by simp, by rw [List.map_nil]; unfold PRss; trivial⟩
  | d :: ds, k, h, hwt => by
    rw [List.map_cons] at hwt
    unfold DataW.weightsAll at hwt
    rw [List.all_append, Bool.and_eq_true] at hwt
    have h0 := h 0 (by simp)
    rw [List.getElem?_cons_zero, Nat.add_zero] at h0
    obtain ⟨c, hc, ht⟩ := Option.bind_eq_some_iff.1 h0
    obtain ⟨x, hx, hok⟩ := he H enc W base spare held n c _ ht hwt.1
    obtain ⟨c1, c2⟩ := cells_get hc
    obtain ⟨l, h1, h2, h3⟩ := opens_rows he hsz ds (k + 1) (fun i hi => by
      have := h (i + 1) (by simpa using hi)
      rw [List.getElem?_cons_succ] at this
      rwa [show k + 1 + i = k + (i + 1) from by omega]) hwt.2
    refine ⟨x :: l, by simp [h1], fun y hy => ?_, ?_⟩
    · rcases List.mem_cons.1 hy with rfl | hy
      · exact hok
      · exact h2 y hy
    · rw [List.map_cons]
      unfold PRss
      refine ⟨⟨hsz x, PRl.prs hx fun j u hj => ?_⟩, ?_⟩
      · have := c2 j u hj
        rwa [add_none, add_none] at this
      · rwa [show o + k * P.cellsOf e + P.cellsOf e = o + (k + 1) * P.cellsOf e from by rw [Nat.add_mul, Nat.one_mul, Nat.add_assoc]]
theorem opens_slice {t e : TypeId} {E : α → List PV} {ok : α → Prop} (he : Opens P e E ok) (hsz : ∀ a, (E a).length = P.cellsOf e) (hpos : 0 < P.cellsOf e) {k : Nat} (hk : P.bytesOf e = k) (ht : P.underlying t = some (.slice e)) : Opens P t (fun l : List α => [.sl (l.map E)]) (fun l : List α => l.length * k ≤ 140737488351232 ∧ ∀ x ∈ l, ok x) := by
  intro H enc W base spare held fuel cs x h hwt
  rcases DataW.trod_slice ht h with ⟨rfl, _⟩ | ⟨a, len, cap, elems, rest, n, _, rfl, hx, hb, hl, hm, hlen, hel, _⟩
  · exact ⟨[], ⟨⟨by unfold PR; exact ⟨none, 0, rfl, Nat.le_refl _, fun _ => rfl, fun h => absurd rfl h⟩, rfl⟩, trivial⟩, by simp, by simp⟩
  · subst hlen
    rw [hx] at hwt
    unfold DataW.weights at hwt
    rw [ht] at hwt
    simp only [List.all_cons, List.all_append, Bool.and_eq_true, List.length_map, decide_eq_true_eq, hk] at hwt
    obtain ⟨hw0, hw1, _⟩ := hwt
    by_cases hne : elems = []
    · subst hne
      exact ⟨[], ⟨⟨by unfold PR; exact ⟨some a, cap, rfl, Nat.zero_le _, fun h => (by cases h), fun h => absurd rfl h⟩, rfl⟩, trivial⟩, by simp, by simp⟩
    · have hp : 0 < elems.length := List.length_pos_iff.2 hne
      have ha : a = ⟨a.block, a.off, none⟩ := by
        have h0 := hel 0 hp
        rw [List.getElem?_eq_getElem hp] at h0
        obtain ⟨c, hc, _⟩ := Option.bind_eq_some_iff.1 h0
        obtain ⟨c1, c2⟩ := cells_get hc
        obtain ⟨u, hu⟩ : ∃ u, c[0]? = some u := ⟨c[0], List.getElem?_eq_getElem (by omega)⟩
        have := cell_spot (c2 0 u hu)
        rw [Nat.zero_mul, add_add] at this
        exact add_spot this rfl
      rw [ha] at hel
      obtain ⟨l, h1, h2, h3⟩ := opens_rows he hsz (b := a.block) (o := a.off) elems 0 (fun i hi => by rw [Nat.zero_add]; exact hel i hi) hw1
      rw [Nat.zero_mul, Nat.add_zero] at h3
      refine ⟨l, ⟨⟨?_, rfl⟩, trivial⟩, by
        rw [h1]
        have : elems.length * k ≤ (elems.length + rest.length) * k := Nat.mul_le_mul_right _ (Nat.le_add_right _ _)
        unfold reachBytes at hw0
        omega, h2⟩
      unfold PR
      refine ⟨some a, cap, by rw [List.length_map, h1], by rw [List.length_map, h1]; exact hl, fun h => (by cases h), fun _ => ⟨a.block, a.off, P.cellsOf e, by rw [← ha], h3⟩⟩
def OpensF (P : Program) (fs : List Field) (off tot : Nat) (E : α → List PV) (ok : α → Prop) : Prop :=
  ∀ (H : Type) (enc : TypeId × Value → H) (W : World) (base : Nat) (spare : Nat → Bool) (held : Bool) (fuel : Nat) (cs : List Value) (xs : List (DataW H × List MemPlace)), cs.length = tot →
    (fs.mapM fun f => DataW.trod enc P W base spare held fuel f.type ((cs.drop f.offset).take (P.cellsOf f.type))) = some xs → (DataW.weightsEach P (fs.map (·.type)) (xs.map (·.1))).all (· ≤ reachBytes) = true → ∃ a, PRl (MW W) (E a) (cs.drop off) ∧ ok a
theorem opensF_nil {off : Nat} : OpensF P [] off off (fun _ : Unit => []) (fun _ => True) := by
  intro H enc W base spare held fuel cs xs hl h hwt
  exact ⟨(), by rw [List.drop_of_length_le (by omega)]; trivial, trivial⟩
theorem opensF_cons {f : Field} {fs : List Field} {off tot k : Nat} {E : α → List PV} {E' : β → List PV} {ok : α → Prop} {ok' : β → Prop} (h0 : Opens P f.type E ok) (h1 : OpensF P fs (off + k) tot E' ok') (ho : f.offset = off) (hk : P.cellsOf f.type = k) :
    OpensF P (f :: fs) off tot (fun x : α × β => E x.1 ++ E' x.2) (fun x => ok x.1 ∧ ok' x.2) := by
  intro H enc W base spare held fuel cs xs hl h hwt
  rw [List.mapM_cons] at h
  obtain ⟨y, hy, h⟩ := Option.bind_eq_some_iff.1 h
  obtain ⟨ys, hys, h⟩ := Option.bind_eq_some_iff.1 h
  cases h
  rw [List.map_cons, List.map_cons] at hwt
  unfold DataW.weightsEach at hwt
  rw [List.all_append, Bool.and_eq_true] at hwt
  obtain ⟨a, ha, oa⟩ := h0 H enc W base spare held fuel _ _ hy hwt.1
  obtain ⟨b, hb, ob⟩ := h1 H enc W base spare held fuel cs ys hl hys hwt.2
  refine ⟨(a, b), ?_, oa, ob⟩
  have := PRl.app ha hb
  rw [ho, hk] at this
  rwa [show (cs.drop off).take k ++ cs.drop (off + k) = cs.drop off from by rw [← List.drop_drop, List.take_append_drop]] at this
theorem opens_struct {t : TypeId} {fs : Array Field} {E : α → List PV} {ok : α → Prop} {l : List Field} {n : Nat} (hn : P.cellsOf t = n) (h : OpensF P l 0 n E ok) (ht : P.underlying t = some (.struct fs)) (hl : fs.toList = l) : Opens P t E ok := by
  intro H enc W base spare held fuel cs x hx hwt
  cases fuel with
  | zero => simp [DataW.trod] at hx
  | succ m =>
    unfold DataW.trod at hx
    rw [ht] at hx
    simp only [hl] at hx
    split at hx
    · rename_i hlen
      obtain ⟨xs, hxs, hxe⟩ := Option.map_eq_some_iff.1 hx
      rw [← hxe] at hwt
      unfold DataW.weights at hwt
      rw [ht] at hwt
      simp only [hl] at hwt
      obtain ⟨a, ha, oa⟩ := h H enc W base spare held m cs xs (hlen.trans hn) hxs hwt
      exact ⟨a, by rwa [List.drop_zero] at ha, oa⟩
    · cases hx
theorem opens_iso {t : TypeId} {E : α → List PV} {E' : β → List PV} {ok : α → Prop} (h : Opens P t E ok) (f : β → α) (g : α → β) (hE : ∀ a, E a = E' (g a)) (hg : ∀ a, f (g a) = a) : Opens P t E' (fun y => ok (f y)) := by
  intro H enc W base spare held fuel cs x hx hwt
  obtain ⟨a, ha, oa⟩ := h H enc W base spare held fuel cs x hx hwt
  exact ⟨g a, by rw [← hE]; exact ha, by show ok (f (g a)); rw [hg]; exact oa⟩
theorem mw_mem {W : World} {X : XS} {R : RMap} (hX : ∀ b i, ¬ X.off b i) (b i : Nat) (v : Value) (h : MW W b i v) : Mem X 0 empty R W b i v :=
  ⟨h.1, h.2, hX b i, fun κ o _ hg => by rw [get_empty] at hg; cases hg⟩
theorem opens_arg {t : TypeId} {E : α → List PV} {ok : α → Prop} (h : Opens P t E ok) {fs : Array Field} (hs : P.underlying t = some (.struct fs)) {H : Type} {enc : TypeId × Value → H} {W : World} {base : Nat} {spare : Nat → Bool} {held : Bool} {r : Reach} {b0 : Nat} {v : Value} {dd : DataW H} {p : List MemPlace}
    (hv : Value.okWide P W r b0 t v) (hd : DataW.Trod enc P W base spare held t v dd p) (hwt : (dd.weights P t).all (· ≤ reachBytes) = true) : ∃ a, (∀ M, (∀ b i v, MW W b i v → M b i v) → ∀ G R d, VR M G R d (.agg ((E a).map .p)) v) ∧ ok a := by
  obtain ⟨cs, rfl, hsz⟩ := okWide_struct hs hv
  obtain ⟨fuel, hf⟩ := hd
  obtain ⟨a, ha, oa⟩ := h H enc W base spare held fuel _ _ hf hwt
  have ha' : PRl (MW W) (E a) cs.toList := by simpa [Value.cells] using ha
  refine ⟨a, fun M hm G R d => ?_, oa⟩
  unfold VR
  exact ⟨cs.toList, rfl, PRl.one ha', PRl.vrs (PRl.mono hm ha')⟩
theorem opens_arg1 {t : TypeId} {E : α → PV} {ok : α → Prop} (h : Opens P t (fun a => [E a]) ok) {H : Type} {enc : TypeId × Value → H} {W : World} {base : Nat} {spare : Nat → Bool} {held : Bool} {v : Value} {dd : DataW H} {p : List MemPlace}
    (hc : v.cells = #[v]) (hd : DataW.Trod enc P W base spare held t v dd p) (hwt : (dd.weights P t).all (· ≤ reachBytes) = true) : ∃ a, (∀ M, (∀ b i v, MW W b i v → M b i v) → ∀ G R d, VR M G R d (.p (E a)) v) ∧ ok a := by
  obtain ⟨fuel, hf⟩ := hd
  obtain ⟨a, ha, oa⟩ := h H enc W base spare held fuel _ _ hf hwt
  rw [hc] at ha
  exact ⟨a, fun M hm G R d => by unfold VR; exact PR.mono hm _ _ ha.1.1, oa⟩
def X0 : XS := ⟨fun _ _ => False, fun _ => none⟩
def T0 : Nat → Option Obj := fun _ => none
theorem sim0 (R : RMap) (W : World) : Sim X0 0 empty R W :=
  have no : ∀ {κ : Key} {o : Obj'}, get empty κ = some o → False := fun h => by rw [get_empty] at h; cases h
  ⟨fun _ _ _ _ _ _ h => (no h).elim, fun _ _ _ h => (no h).elim, fun _ _ h => h.elim, fun _ _ _ h => (no h).elim, fun _ _ h => by cases h⟩
theorem law_calls {f : FuncId} {fn : Func} (hfn : P.funcs[f]? = some fn) (hb : fn.body.isNone = false) (hn : (fn.name == "runtime.NumGoroutine") = false) {args : List GV} {b : Bool} {vals : Array Value} {W : World} (h : Tel P T0 0 f args empty (.p (.bool b)) empty)
    (hv : ∀ M, (∀ b i v, MW W b i v → M b i v) → ∀ G R d, VRs M G R d args vals.toList) : Calls P f vals W fun e W' => e = .returned (.bool b) ∧ Below W.heap.size W W' := by
  have hR : RMap := fun _ => ⟨0, 0, 0, 0⟩
  rcases known_Tel 0 f args empty (.p (.bool b)) empty h X0 hR W vals.toList (fun _ _ h => h) (sim0 hR W) (hv _ (mw_mem fun _ _ h => h) _ _ _) 0 rfl rfl with ⟨_, hc⟩ | ⟨v, w', hr, _⟩
  · refine hc.mono fun e w' ⟨v, he, R', hst, hvr⟩ => ⟨?_, ?_⟩
    · unfold adopt VR at hvr
      unfold PR at hvr
      rw [he, hvr]
    · have g := hst.bare_grows
      exact ⟨g.env.1, g.env.2.1, g.env.2.2, g.size, g.old⟩
  · exfalso
    have he : (callFunc f vals).run P W = .ok (.enter f vals) W := by
      unfold callFunc
      go_simp
      rw [if_neg (by simpa using hn), if_neg (by intro e; rw [e] at hb; cases hb)]
    rw [show vals.toList.toArray = vals from by simp] at hr
    rw [he] at hr
    cases hr
end Go.Eng
end
section
set_option linter.all false
set_option maxRecDepth 100000
namespace Go.E
open Go Go.Proofs Go.Eng
def okTRat (y : TRat) : Prop := ((Lit.int .i64 y.f0).wf = true) ∧ ((Lit.int .i64 y.f1).wf = true) ∧ True
theorem op_TRat_25 : Opens Try.prog 25 cTRat okTRat :=
  opens_iso (opens_struct (n := 2) (l := _) (by kernel_rfl) (opensF_cons (k := 1) (opens_int Try.underlying2) (opensF_cons (k := 1) (opens_int Try.underlying2) opensF_nil rfl (by kernel_rfl)) rfl (by kernel_rfl)) Try.underlying25 rfl) (fun y : TRat => (y.f0, y.f1, ())) (fun a => ⟨a.1, a.2.1⟩) (fun _ => rfl) (fun _ => rfl)
def okTContract (y : TContract) : Prop := (y.f0.size ≤ 140737488351232) ∧ (True) ∧ (y.f2.size ≤ 140737488351232) ∧ ((Lit.int .i64 y.f3).wf = true) ∧ (okTRat y.f4) ∧ ((Lit.int .u32 y.f5).wf = true) ∧ ((Lit.int .u32 y.f6).wf = true) ∧ ((Lit.int .u32 y.f7).wf = true) ∧ True
theorem op_TContract_59 : Opens Try.prog 59 cTContract okTContract :=
  opens_iso (opens_struct (n := 9) (l := _) (by kernel_rfl) (opensF_cons (k := 1) (opens_string Try.underlying9) (opensF_cons (k := 1) (opens_bool Try.underlying4) (opensF_cons (k := 1) (opens_string Try.underlying9) (opensF_cons (k := 1) (opens_int Try.underlying3) (opensF_cons (k := 2) op_TRat_25 (opensF_cons (k := 1) (opens_int Try.underlying44) (opensF_cons (k := 1) (opens_int Try.underlying44) (opensF_cons (k := 1) (opens_int Try.underlying44) opensF_nil rfl (by kernel_rfl)) rfl (by kernel_rfl)) rfl (by kernel_rfl)) rfl (by kernel_rfl)) rfl (by kernel_rfl)) rfl (by kernel_rfl)) rfl (by kernel_rfl)) rfl (by kernel_rfl)) Try.underlying59 rfl) (fun y : TContract => (y.f0, y.f1, y.f2, y.f3, y.f4, y.f5, y.f6, y.f7, ())) (fun a => ⟨a.1, a.2.1, a.2.2.1, a.2.2.2.1, a.2.2.2.2.1, a.2.2.2.2.2.1, a.2.2.2.2.2.2.1, a.2.2.2.2.2.2.2.1⟩) (fun _ => rfl) (fun _ => rfl)
def okTPerm (y : TPerm) : Prop := ((Lit.int .i64 y.f0).wf = true) ∧ (okTRat y.f1) ∧ ((Lit.int .i64 y.f2).wf = true) ∧ ((Lit.int .u32 y.f3).wf = true) ∧ True
theorem op_TPerm_52 : Opens Try.prog 52 cTPerm okTPerm :=
  opens_iso (opens_struct (n := 5) (l := _) (by kernel_rfl) (opensF_cons (k := 1) (opens_int Try.underlying3) (opensF_cons (k := 2) op_TRat_25 (opensF_cons (k := 1) (opens_int Try.underlying3) (opensF_cons (k := 1) (opens_int Try.underlying44) opensF_nil rfl (by kernel_rfl)) rfl (by kernel_rfl)) rfl (by kernel_rfl)) rfl (by kernel_rfl)) Try.underlying52 rfl) (fun y : TPerm => (y.f0, y.f1, y.f2, y.f3, ())) (fun a => ⟨a.1, a.2.1, a.2.2.1, a.2.2.2.1⟩) (fun _ => rfl) (fun _ => rfl)
def okTBallcocklaw18_Case (y : TBallcocklaw18_Case) : Prop := (y.f0.length * 40 ≤ 140737488351232 ∧ ∀ z ∈ y.f0, okTPerm z) ∧ (y.f1.length * 4 ≤ 140737488351232 ∧ ∀ z ∈ y.f1, (Lit.int .u32 z).wf = true) ∧ (y.f2.length * 16 ≤ 140737488351232 ∧ ∀ z ∈ y.f2, okTRat z) ∧ True
theorem op_TBallcocklaw18_Case_62 : Opens Try.prog 62 cTBallcocklaw18_Case okTBallcocklaw18_Case :=
  opens_iso (opens_struct (n := 3) (l := _) (by kernel_rfl) (opensF_cons (k := 1) (opens_slice (t := 54) (e := 52) op_TPerm_52 (fun _ => by rw [show Try.prog.cellsOf 52 = 5 from by kernel_rfl]; rfl) (by rw [show Try.prog.cellsOf 52 = 5 from by kernel_rfl]; decide) (k := 40) (by kernel_rfl) Try.underlying54) (opensF_cons (k := 1) (opens_slice (t := 47) (e := 44) (opens_int Try.underlying44) (fun _ => by rw [show Try.prog.cellsOf 44 = 1 from by kernel_rfl]; rfl) (by rw [show Try.prog.cellsOf 44 = 1 from by kernel_rfl]; decide) (k := 4) (by kernel_rfl) Try.underlying47) (opensF_cons (k := 1) (opens_slice (t := 23) (e := 25) op_TRat_25 (fun _ => by rw [show Try.prog.cellsOf 25 = 2 from by kernel_rfl]; rfl) (by rw [show Try.prog.cellsOf 25 = 2 from by kernel_rfl]; decide) (k := 16) (by kernel_rfl) Try.underlying23) opensF_nil rfl (by kernel_rfl)) rfl (by kernel_rfl)) rfl (by kernel_rfl)) Try.underlying62 rfl) (fun y : TBallcocklaw18_Case => (y.f0, y.f1, y.f2, ())) (fun a => ⟨a.1, a.2.1, a.2.2.1⟩) (fun _ => rfl) (fun _ => rfl)
end Go.E
end
attribute [go_sem_proc] Nat.reduceEqDiff Nat.reduceAdd Nat.reduceLT Nat.reduceLeDiff Nat.reduceMul Nat.reduceBEq reduceIte
section
set_option linter.all false
set_option maxRecDepth 100000
namespace Go.E
open Go Go.Proofs Go.Eng
variable {TB : Nat → Option Obj}
theorem m_rat_Right_ev (a0 : TRat) (r0 : Bool) (h : m_rat_Right a0 = some r0) (d : Nat) (G : Heap) : Tel Try.prog TB d 48 [.agg ((cTRat a0).map .p)] G (.p (.bool r0)) G := by
  unfold m_rat_Right at h
  obtain ⟨_, c, h⟩ := bs h
  obtain ⟨h1, h2⟩ := rqs c
  cases h
  exact right_ev a0.f0 a0.f1 h1 h2 d G
theorem m_rat_Add_ev (a0 a1 : TRat) (r0 : TRat × Int) (h : m_rat_Add a0 a1 = some r0) (d : Nat) (G : Heap) : Tel Try.prog TB d 58 [.agg ((cTRat a0).map .p), .agg ((cTRat a1).map .p)] G (.tup [.agg ((cTRat r0.1).map .p), .p (.int .i64 r0.2)]) G := by
  unfold m_rat_Add at h
  obtain ⟨_, c, h⟩ := bs h
  obtain ⟨⟨h1, h2⟩, h3, h4⟩ := rqs c
  cases h
  exact add_ev a0.f0 a0.f1 a1.f0 a1.f1 h1 h2 h3 h4 d G
theorem m_rat_Mul_ev (a0 a1 : TRat) (r0 : TRat × Int) (h : m_rat_Mul a0 a1 = some r0) (d : Nat) (G : Heap) : Tel Try.prog TB d 51 [.agg ((cTRat a0).map .p), .agg ((cTRat a1).map .p)] G (.tup [.agg ((cTRat r0.1).map .p), .p (.int .i64 r0.2)]) G := by
  unfold m_rat_Mul at h
  obtain ⟨_, c, h⟩ := bs h
  obtain ⟨⟨h1, h2⟩, h3, h4⟩ := rqs c
  cases h
  exact mul_ev a0.f0 a0.f1 a1.f0 a1.f1 h1 h2 h3 h4 d G
theorem m_rat_Div_ev (a0 : TRat) (a1 : TRat) (r0 : TRat × Int) (h : m_rat_Div a0 a1 = some r0) (d : Nat) (G : Heap) : Tel Try.prog TB d 100 [.agg ((cTRat a0).map .p), .agg ((cTRat a1).map .p)] G (.tup [.agg ((cTRat r0.1).map .p), .p (.int .i64 r0.2)]) (G) := by
  unfold m_rat_Div at h
  refine Tel.intro mix Try.func100 rfl (Nat.le_of_ble_eq_true rfl) {frzAt := fun t => t == 2 || t == 3 || t == 7 || t == 11 || t == 31 || t == 40} (by kernel_rfl) (by kernel_rfl) ?_
  generalize hQ : callPost _ _ _ _ _ = Q
  obtain ⟨r1, hr1, h⟩ := bs h
  simp -implicitDefEqProofs only [go_sem]
  refine call_frz (r' := .p (.bool r1)) (m_rat_Right_ev a0 r1 hr1 (d + 1) empty) (by simp -implicitDefEqProofs only [go_sem]) rfl (by simp -implicitDefEqProofs only [go_sem]) (by simp -implicitDefEqProofs only [go_sem]) ?_ rfl rfl
  simp -implicitDefEqProofs only [go_sem]
  obtain ⟨v2, hz, h⟩ := bs h
  obtain ⟨R3, hR3⟩ : ∃ R : St → Prop, R = fun s => s.G = fillKey (cut d G) (d + 1) 4 [.box [.p (.int .i64 0), .p (.int .i64 0)]] ∧ s.F 2 = .ep (cTRat a0) 0 ∧ s.F 3 = .ep (cTRat a1) 0 ∧ s.F 4 = .bp (d + 1, 4, 0) 0 ∧ s.F 18 = .p (.bool v2) ∧ True := ⟨_, rfl⟩
  refine cutR R3 ?_ ?_
  · replace h := hz
    rcases ib h with ⟨c4, h⟩ | ⟨c4, h⟩
    · cases h
      simp -implicitDefEqProofs only [go_sem, c4]
      rw [hR3]
      simp -implicitDefEqProofs only [go_sem, c4]
    · obtain ⟨r5, hr5, h⟩ := bs h
      simp -implicitDefEqProofs only [go_sem, c4]
      refine call_frz (r' := .p (.bool r5)) (m_rat_Right_ev a1 r5 hr5 (d + 1) empty) (by simp -implicitDefEqProofs only [go_sem, c4]) rfl (by simp -implicitDefEqProofs only [go_sem]) (by simp -implicitDefEqProofs only [go_sem]) ?_ rfl rfl
      rcases ib h with ⟨c6, h⟩ | ⟨c6, h⟩
      · cases h
        simp -implicitDefEqProofs only [go_sem, c4, c6]
        rw [hR3]
        simp -implicitDefEqProofs only [go_sem, c4, c6]
      · cases h
        simp -implicitDefEqProofs only [go_sem, c4, c6]
        rw [hR3]
        simp -implicitDefEqProofs only [go_sem, c4, c6]
  · replace h := h; clear hz
    rintro s i
    rw [hR3] at i
    obtain ⟨gi7, i7⟩ := i
    clear hR3
    try dsimp only at h
    rcases ib h with ⟨c8, h⟩ | ⟨c8, h⟩
    · cases h
      subst hQ
      simp -implicitDefEqProofs only [go_sem, gi7, i7, c8, Try.results100]
    · rcases ib h with ⟨c9, h⟩ | ⟨c9, h⟩
      · obtain ⟨r10, hr10, h⟩ := bs h
        simp -implicitDefEqProofs only [go_sem, gi7, i7, c8, c9]
        refine call_frz (r' := .tup [.agg [.p (.int .i64 r10.1.f0), .p (.int .i64 r10.1.f1)], .p (.int .i64 r10.2)]) (m_rat_Mul_ev a0 (⟨IntKind.wrap .i64 (0 - a1.f1), IntKind.wrap .i64 (0 - a1.f0)⟩ : TRat) r10 hr10 (d + 1) empty) (by simp -implicitDefEqProofs only [go_sem, gi7, i7, c8, c9]) rfl (by simp -implicitDefEqProofs only [go_sem]) (by simp -implicitDefEqProofs only [go_sem]) ?_ rfl rfl
        cases h
        subst hQ
        simp -implicitDefEqProofs only [go_sem, gi7, i7, c8, c9, Try.results100]
      · obtain ⟨r11, hr11, h⟩ := bs h
        simp -implicitDefEqProofs only [go_sem, gi7, i7, c8, c9]
        refine call_frz (r' := .tup [.agg [.p (.int .i64 r11.1.f0), .p (.int .i64 r11.1.f1)], .p (.int .i64 r11.2)]) (m_rat_Mul_ev a0 (⟨a1.f1, a1.f0⟩ : TRat) r11 hr11 (d + 1) empty) (by simp -implicitDefEqProofs only [go_sem, gi7, i7, c8, c9]) rfl (by simp -implicitDefEqProofs only [go_sem]) (by simp -implicitDefEqProofs only [go_sem]) ?_ rfl rfl
        cases h
        subst hQ
        simp -implicitDefEqProofs only [go_sem, gi7, i7, c8, c9, Try.results100]
theorem m_rat_sum_ev (a0 a1 a2 a3 : Int) (r0 : Int × Int × Bool) (h : m_rat_sum a0 a1 a2 a3 = some r0) (d : Nat) (G : Heap) : Tel Try.prog TB d 89 [.p (.int .i64 a0), .p (.int .i64 a1), .p (.int .i64 a2), .p (.int .i64 a3)] G (.tup [.p (.int .u64 r0.1), .p (.int .u64 r0.2.1), .p (.bool r0.2.2)]) G := by
  unfold m_rat_sum at h
  obtain ⟨_, c, h⟩ := bs h
  obtain ⟨h1, h2, h3, h4, h5⟩ := rqs c
  cases h
  obtain ⟨m, hm, ht⟩ := sum_ev (TB := TB) a0 a1 a2 a3 _ h1 h2 h3 h4 rfl
  rw [hm h5] at ht
  exact ht d G
theorem m_rat_minus_ev (a0 : TRat) (r0 : TRat) (h : m_rat_minus a0 = some r0) (d : Nat) (G : Heap) : Tel Try.prog TB d 118 [.agg ((cTRat a0).map .p)] G (.agg ((cTRat r0).map .p)) (G) := by
  unfold m_rat_minus at h
  refine Tel.intro mix Try.func118 rfl (Nat.le_of_ble_eq_true rfl) {frzAt := fun t => t == 1} (by kernel_rfl) (by kernel_rfl) ?_
  generalize hQ : callPost _ _ _ _ _ = Q
  cases h
  subst hQ
  simp -implicitDefEqProofs only [go_sem, Try.results118]
theorem m_rat_Sub_ev (a0 : TRat) (a1 : TRat) (r0 : TRat × Int) (h : m_rat_Sub a0 a1 = some r0) (d : Nat) (G : Heap) : Tel Try.prog TB d 104 [.agg ((cTRat a0).map .p), .agg ((cTRat a1).map .p)] G (.tup [.agg ((cTRat r0.1).map .p), .p (.int .i64 r0.2)]) (G) := by
  unfold m_rat_Sub at h
  refine Tel.intro mix Try.func104 rfl (Nat.le_of_ble_eq_true rfl) {frzAt := fun t => t == 2 || t == 3 || t == 7 || t == 12 || t == 13, boxAt := fun t => if t = 2 then some 900002 else if t = 3 then some 900003 else if t = 4 then some 4 else none} (by kernel_rfl) (by kernel_rfl) ?_
  generalize hQ : callPost _ _ _ _ _ = Q
  obtain ⟨r1, hr1, h⟩ := bs h
  simp -implicitDefEqProofs only [go_sem]
  refine call_frz (r' := .p (.bool r1)) (m_rat_Right_ev a1 r1 hr1 (d + 1) empty) (by simp -implicitDefEqProofs only [go_sem]) rfl (by simp -implicitDefEqProofs only [go_sem]) (by simp -implicitDefEqProofs only [go_sem]) ?_ rfl rfl
  rcases ib h with ⟨c2, h⟩ | ⟨c2, h⟩
  · cases h
    subst hQ
    simp -implicitDefEqProofs only [go_sem, c2, Try.results104]
  · obtain ⟨r3, hr3, h⟩ := bs h
    simp -implicitDefEqProofs only [go_sem, c2]
    refine call_frz (r' := .agg [.p (.int .i64 r3.f0), .p (.int .i64 r3.f1)]) (m_rat_minus_ev a1 r3 hr3 (d + 1) empty) (by simp -implicitDefEqProofs only [go_sem, c2]) rfl (by simp -implicitDefEqProofs only [go_sem]) (by simp -implicitDefEqProofs only [go_sem]) ?_ rfl rfl
    obtain ⟨r4, hr4, h⟩ := bs h
    simp -implicitDefEqProofs only [go_sem, c2]
    refine call_frz (r' := .tup [.agg [.p (.int .i64 r4.1.f0), .p (.int .i64 r4.1.f1)], .p (.int .i64 r4.2)]) (m_rat_Add_ev a0 r3 r4 hr4 (d + 1) empty) (by simp -implicitDefEqProofs only [go_sem, c2]) rfl (by simp -implicitDefEqProofs only [go_sem]) (by simp -implicitDefEqProofs only [go_sem]) ?_ rfl rfl
    cases h
    subst hQ
    simp -implicitDefEqProofs only [go_sem, c2, Try.results104]
theorem m_rat_Compare_ev (a0 : TRat) (a1 : TRat) (r0 : Int) (h : m_rat_Compare a0 a1 = some r0) (d : Nat) (G : Heap) : Tel Try.prog TB d 117 [.agg ((cTRat a0).map .p), .agg ((cTRat a1).map .p)] G (.p (.int .i64 r0)) (G) := by
  unfold m_rat_Compare at h
  refine Tel.intro mix Try.func117 rfl (Nat.le_of_ble_eq_true rfl) {frzAt := fun t => t == 2 || t == 3 || t == 9 || t == 13 || t == 31} (by kernel_rfl) (by kernel_rfl) ?_
  generalize hQ : callPost _ _ _ _ _ = Q
  obtain ⟨r1, hr1, h⟩ := bs h
  simp -implicitDefEqProofs only [go_sem]
  refine call_frz (r' := .p (.bool r1)) (m_rat_Right_ev a0 r1 hr1 (d + 1) empty) (by simp -implicitDefEqProofs only [go_sem]) rfl (by simp -implicitDefEqProofs only [go_sem]) (by simp -implicitDefEqProofs only [go_sem]) ?_ rfl rfl
  simp -implicitDefEqProofs only [go_sem]
  obtain ⟨v2, hz, h⟩ := bs h
  obtain ⟨R3, hR3⟩ : ∃ R : St → Prop, R = fun s => s.G = cut d G ∧ s.F 2 = .ep (cTRat a0) 0 ∧ s.F 3 = .ep (cTRat a1) 0 ∧ s.F 20 = .p (.bool v2) ∧ True := ⟨_, rfl⟩
  refine cutR R3 ?_ ?_
  · replace h := hz
    rcases ib h with ⟨c4, h⟩ | ⟨c4, h⟩
    · cases h
      simp -implicitDefEqProofs only [go_sem, c4]
      rw [hR3]
      simp -implicitDefEqProofs only [go_sem, c4]
    · obtain ⟨r5, hr5, h⟩ := bs h
      simp -implicitDefEqProofs only [go_sem, c4]
      refine call_frz (r' := .p (.bool r5)) (m_rat_Right_ev a1 r5 hr5 (d + 1) empty) (by simp -implicitDefEqProofs only [go_sem, c4]) rfl (by simp -implicitDefEqProofs only [go_sem]) (by simp -implicitDefEqProofs only [go_sem]) ?_ rfl rfl
      rcases ib h with ⟨c6, h⟩ | ⟨c6, h⟩
      · cases h
        simp -implicitDefEqProofs only [go_sem, c4, c6]
        rw [hR3]
        simp -implicitDefEqProofs only [go_sem, c4, c6]
      · simp -implicitDefEqProofs only [go_sem, c4, c6]
        refine eqS_TRat a0 a1 ?_
        cases h
        simp -implicitDefEqProofs only [go_sem, c4, c6]
        rw [hR3]
        simp -implicitDefEqProofs only [go_sem, c4, c6]
  · replace h := h; clear hz
    rintro s i
    rw [hR3] at i
    obtain ⟨gi7, i7⟩ := i
    clear hR3
    try dsimp only at h
    rcases ib h with ⟨c8, h⟩ | ⟨c8, h⟩
    · cases h
      subst hQ
      simp -implicitDefEqProofs only [go_sem, gi7, i7, c8, Try.results117]
    · obtain ⟨r9, hr9, h⟩ := bs h
      simp -implicitDefEqProofs only [go_sem, gi7, i7, c8]
      refine call_frz (r' := .tup [.p (.int .u64 r9.1), .p (.int .u64 r9.2.1), .p (.bool r9.2.2)]) (m_rat_sum_ev a0.f0 a1.f1 (IntKind.wrap .i64 (0 - a1.f0)) a0.f1 r9 hr9 (d + 1) empty) (by simp -implicitDefEqProofs only [go_sem, gi7, i7, c8]) rfl (by simp -implicitDefEqProofs only [go_sem]) (by simp -implicitDefEqProofs only [go_sem]) ?_ rfl rfl
      rcases ib h with ⟨c10, h⟩ | ⟨c10, h⟩
      · cases h
        subst hQ
        simp -implicitDefEqProofs only [go_sem, gi7, i7, c8, c10, Try.results117]
      · cases h
        subst hQ
        simp -implicitDefEqProofs only [go_sem, gi7, i7, c8, c10, Try.results117]
theorem m_slices_IndexFunc_api_Rat_ev (a0 : List TRat) (a1 : (TRat → Option Bool)) (n1 : FuncId) (q1 : List GV) (hc1 : closeds q1) (hf1 : ∀ x0 r, a1 x0 = some r → ∀ d, Tel Try.prog TB d n1 ([.agg ((cTRat x0).map .p)] ++ q1) empty (.p (.bool r)) empty) (r0 : Int) (h : m_slices_IndexFunc_api_Rat a0 a1 = some r0) (d : Nat) (G : Heap) : Tel Try.prog TB d 92 [.p (.sl (a0.map cTRat)), .fn n1 q1] G (.p (.int .i64 r0)) (G) := by
  unfold m_slices_IndexFunc_api_Rat at h
  refine Tel.intro mix Try.func92 rfl (Nat.le_of_ble_eq_true rfl) {frzAt := fun t => t == 16} (by kernel_rfl) (by kernel_rfl) ?_
  generalize hQ : callPost _ _ _ _ _ = Q
  simp -implicitDefEqProofs only [go_sem]
  obtain ⟨z3, hL3, h⟩ := bs h
  obtain ⟨I3, hI3⟩ : ∃ I : Int → St → Prop, I = fun v4 s => s.G = cut d G ∧ s.F 0 = .p (.sl (a0.map cTRat)) ∧ s.F 1 = .fn n1 q1 ∧ s.F 7 = .p (.int .i64 (a0.length : Int)) ∧ s.F 8 = .p (.int .i64 v4) ∧ True := ⟨_, rfl⟩
  obtain ⟨R3, hR3⟩ : ∃ R : ((Unit) ⊕ (Int)) → GE → St → Prop, R = fun x e s => match x with | .inl _ => e = .exit 0 ∧ s.G = cut d G ∧ True | .inr r => e = .ret ∧ (r = r0 → Q .ret s) := ⟨_, rfl⟩
  refine lp (ts := []) rfl hL3 I3 R3 ?_ ?_ ?_
  · rw [hI3]
    simp -implicitDefEqProofs only [go_sem]
  · clear h hL3
    rintro v4 y s h i
    rw [hI3] at i
    obtain ⟨gi3, i3⟩ := i
    replace h : m_slices_IndexFunc_api_Rat_L0 a0 a1 (v4) = some y := h
    unfold m_slices_IndexFunc_api_Rat_L0 at h
    rcases ib h with ⟨c5, h⟩ | ⟨c5, h⟩
    · obtain ⟨v6, hv6, h⟩ := bs h
      replace hv6 := gis hv6
      obtain ⟨r7, hr7, h⟩ := bs h
      simp -implicitDefEqProofs only [go_sem, gi3, i3, c5, hv6]
      refine call_frz (r' := .p (.bool r7)) (hf1 v6 r7 hr7 (d + 1)) (by simp -implicitDefEqProofs only [go_sem, gi3, i3, c5, hv6]) rfl (by simp -implicitDefEqProofs only [go_sem, hc1]) (by simp -implicitDefEqProofs only [go_sem]) ?_ rfl rfl
      rcases ib h with ⟨c8, h⟩ | ⟨c8, h⟩
      · cases h
        simp -implicitDefEqProofs only [go_sem, gi3, i3, c5, hv6, c8]
        rw [hR3]
        refine ⟨rfl, ?_⟩
        intro hr
        subst hr
        subst hQ
        simp -implicitDefEqProofs only [go_sem, gi3, i3, c5, hv6, c8, Try.results92]
      · cases h
        simp -implicitDefEqProofs only [go_sem, gi3, i3, c5, hv6, c8]
        rw [hI3]
        simp -implicitDefEqProofs only [go_sem, gi3, i3, c5, hv6, c8]
    · cases h
      simp -implicitDefEqProofs only [go_sem, gi3, i3, c5]
      rw [hR3]
      first | refine ⟨rfl, ?_⟩ | refine ⟨(), rfl, ?_⟩
      simp -implicitDefEqProofs only [go_sem, gi3, i3, c5]
  · clear hL3 hI3
    intro e s hr3
    rw [hR3] at hr3
    clear hR3
    rcases z3 with _ | r
    · try dsimp only at h hr3
      obtain ⟨rfl, gi9, i9⟩ := hr3
      cases h
      subst hQ
      simp -implicitDefEqProofs only [go_sem, gi9, i9, Try.results92]
    · try dsimp only at h hr3
      obtain ⟨rfl, hr3⟩ := hr3
      cases h
      try simp -implicitDefEqProofs only [go_sem]
      exact hr3 rfl
theorem m_slices_ContainsFunc_api_Rat_ev (a0 : List TRat) (a1 : (TRat → Option Bool)) (n1 : FuncId) (q1 : List GV) (hc1 : closeds q1) (hf1 : ∀ x0 r, a1 x0 = some r → ∀ d, Tel Try.prog TB d n1 ([.agg ((cTRat x0).map .p)] ++ q1) empty (.p (.bool r)) empty) (r0 : Bool) (h : m_slices_ContainsFunc_api_Rat a0 a1 = some r0) (d : Nat) (G : Heap) : Tel Try.prog TB d 59 [.p (.sl (a0.map cTRat)), .fn n1 q1] G (.p (.bool r0)) (G) := by
  unfold m_slices_ContainsFunc_api_Rat at h
  refine Tel.intro mix Try.func59 rfl (Nat.le_of_ble_eq_true rfl) {frzAt := fun t => t == 7} (by kernel_rfl) (by kernel_rfl) ?_
  generalize hQ : callPost _ _ _ _ _ = Q
  obtain ⟨r1, hr1, h⟩ := bs h
  simp -implicitDefEqProofs only [go_sem]
  refine call_frz (r' := .p (.int .i64 r1)) (m_slices_IndexFunc_api_Rat_ev a0 a1 n1 q1 hc1 hf1 r1 hr1 (d + 1) empty) (by simp -implicitDefEqProofs only [go_sem]) rfl (by simp -implicitDefEqProofs only [go_sem, hc1]) (by simp -implicitDefEqProofs only [go_sem]) ?_ rfl rfl
  cases h
  subst hQ
  simp -implicitDefEqProofs only [go_sem, Try.results59]
theorem m_slices_Clone_api_Rat_ev (a0 : List TRat) (r0 : List TRat) (h : m_slices_Clone_api_Rat a0 = some r0) (d : Nat) (G : Heap) : Tel Try.prog TB d 99 [.p (.sl (a0.map cTRat))] G (.p (.sl (r0.map cTRat))) G := by
  unfold m_slices_Clone_api_Rat at h
  obtain ⟨_, c1, h⟩ := bs h
  replace c1 := rqs c1
  cases h
  refine Tel.intro_nil mix Try.func99 rfl (by decide) {pureAt := fun t => t == 7} m_slices_Clone_api_Rat_A m_slices_Clone_api_Rat_B (x := 2) (y := 3) (z := 4) (by decide) (by decide) (by decide) (by kernel_rfl) (by kernel_rfl) (by kernel_rfl) ?_ ?_
  · intro a n m Q w a0 h0 hs h
    have s3 : 3 < a0.tmps.size := by rw [hs]; decide
    refine wp_seq (wp_region ?_)
    show wpOps _ _ _ [0] _ _
    simp only [wpOps, Region.wanted, if_true, List.getElem?_toArray, List.getElem?_cons_zero]
    refine .inl (wp_val (rv := .slice none 0 0) (w' := w) (by simp [execOp, Act.eval]) ?_)
    show Code.wp _ _ _ _ _
    refine wp_seq (wp_seq (wp_region ?_))
    show wpOps _ _ _ [0, 1] _ _
    simp only [wpOps, Region.wanted, if_true, List.getElem?_toArray, List.getElem?_cons_zero, List.getElem?_cons_succ]
    refine .inl (wp_val (rv := .slice a n m) (w' := w) ?_ ?_)
    · have e : (a0.put (some 2) (.slice none 0 0)).tmps.getD 0 undef = .slice a n m := by simpa [Act.put, Array.getD_eq_getD_getElem?] using h0
      show Sem.run _ (pure (Next.value ((a0.put (some 2) (.slice none 0 0)).tmps.getD 0 undef))) w = _
      rw [e]; rfl
    · refine .inl (wp_val (rv := .bool a.isNone) (w' := w) ?_ ?_)
      · have e : ((a0.put (some 2) (.slice none 0 0)).put (some 3) (.slice a n m)).tmps.getD 3 undef = .slice a n m := by simp [Act.put, Array.getD_eq_getD_getElem?, s3]
        have isn := run_equal_slice_nil (P := Try.prog) w 23 25 a n m Try.underlying23
        have e' : ((a0.put (some 2) (.slice none 0 0)).put (some 3) (.slice a n m)).eval (.tmp 3) = .slice a n m := e
        simp only [execOp, e']
        simp [Act.eval, binOp, isn, eqGuard]
      · exact h
  · intro b hb
    show gwp _ _ _ _ m_slices_Clone_api_Rat_A _ _
    simp only [m_slices_Clone_api_Rat_A, m_slices_Clone_api_Rat_B, Try.f99]
    cases b
    · simp -implicitDefEqProofs only [go_sem]
      refine append_pure (n := 2) (es := []) (xs := a0.map cTRat) el23 (by simp -implicitDefEqProofs only [go_sem]) rfl sizes_nil (by simp -implicitDefEqProofs only [go_sem]) (by simp; omega) ?_
      simp -implicitDefEqProofs only [go_sem, Try.results99]
    · obtain rfl : a0 = [] := by simpa using hb rfl
      simp -implicitDefEqProofs only [go_sem, Try.results99]
theorem m_term_nought_ev  (r0 : TRat) (h : m_term_nought  = some r0) (d : Nat) (G : Heap) : Tel Try.prog TB d 57 [] G (.agg ((cTRat r0).map .p)) (G) := by
  unfold m_term_nought at h
  refine Tel.intro mix Try.func57 rfl (Nat.le_of_ble_eq_true rfl) {} (by kernel_rfl) (by kernel_rfl) ?_
  generalize hQ : callPost _ _ _ _ _ = Q
  cases h
  subst hQ
  simp -implicitDefEqProofs only [go_sem, Try.results57]
theorem m_term_At_ev (a0 : TTerm) (a1 : Int) (r0 : TRat) (h : m_term_At a0 a1 = some r0) (d : Nat) (G : Heap) : Tel Try.prog TB d 66 [.agg ((cTTerm a0).map .p), .p (.int .i64 a1)] G (.agg ((cTRat r0).map .p)) (G) := by
  unfold m_term_At at h
  refine Tel.intro mix Try.func66 rfl (Nat.le_of_ble_eq_true rfl) {frzAt := fun t => t == 2 || t == 14} (by kernel_rfl) (by kernel_rfl) ?_
  generalize hQ : callPost _ _ _ _ _ = Q
  rcases ib h with ⟨c1, h⟩ | ⟨c1, h⟩
  · obtain ⟨r2, hr2, h⟩ := bs h
    simp -implicitDefEqProofs only [go_sem, c1]
    refine call_frz (r' := .agg [.p (.int .i64 r2.f0), .p (.int .i64 r2.f1)]) (args := []) (caps := []) (m_term_nought_ev  r2 hr2 (d + 1) empty) (wkRs_refl []) rfl (by simp -implicitDefEqProofs only [go_sem]) (by simp -implicitDefEqProofs only [go_sem]) ?_ rfl rfl
    cases h
    subst hQ
    simp -implicitDefEqProofs only [go_sem, c1, Try.results66]
  · rcases ib h with ⟨c3, h⟩ | ⟨c3, h⟩
    · obtain ⟨r4, hr4, h⟩ := bs h
      simp -implicitDefEqProofs only [go_sem, c1, c3]
      refine call_frz (r' := .agg [.p (.int .i64 r4.f0), .p (.int .i64 r4.f1)]) (args := []) (caps := []) (m_term_nought_ev  r4 hr4 (d + 1) empty) (wkRs_refl []) rfl (by simp -implicitDefEqProofs only [go_sem]) (by simp -implicitDefEqProofs only [go_sem]) ?_ rfl rfl
      cases h
      subst hQ
      simp -implicitDefEqProofs only [go_sem, c1, c3, Try.results66]
    · obtain ⟨v5, hv5, h⟩ := bs h
      replace hv5 := gis hv5
      cases h
      subst hQ
      simp -implicitDefEqProofs only [go_sem, c1, c3, hv5, Try.results66]
theorem m_term_one_ev (a0 : TTerm) (a1 : Int) (r0 : TRat) (h : m_term_one a0 a1 = some r0) (d : Nat) (G : Heap) : Tel Try.prog TB d 52 [.agg ((cTTerm a0).map .p), .p (.int .i64 a1)] G (.agg ((cTRat r0).map .p)) (G) := by
  unfold m_term_one at h
  refine Tel.intro mix Try.func52 rfl (Nat.le_of_ble_eq_true rfl) {frzAt := fun t => t == 2 || t == 11} (by kernel_rfl) (by kernel_rfl) ?_
  generalize hQ : callPost _ _ _ _ _ = Q
  rcases ib h with ⟨c1, h⟩ | ⟨c1, h⟩
  · cases h
    subst hQ
    simp -implicitDefEqProofs only [go_sem, c1, Try.results52]
  · obtain ⟨r2, hr2, h⟩ := bs h
    simp -implicitDefEqProofs only [go_sem, c1]
    refine call_frz (r' := .agg [.p (.int .i64 r2.f0), .p (.int .i64 r2.f1)]) (m_term_At_ev a0 a1 r2 hr2 (d + 1) empty) (by simp -implicitDefEqProofs only [go_sem, c1]) rfl (by simp -implicitDefEqProofs only [go_sem]) (by simp -implicitDefEqProofs only [go_sem]) ?_ rfl rfl
    cases h
    subst hQ
    simp -implicitDefEqProofs only [go_sem, c1, Try.results52]
theorem m_term_Right_1_ev (a0 : TRat) (r0 : Bool) (h : m_term_Right_1 a0 = some r0) (d : Nat) (G : Heap) : Tel Try.prog TB d 60 [.agg ((cTRat a0).map .p)] G (.p (.bool r0)) (G) := by
  unfold m_term_Right_1 at h
  refine Tel.intro mix Try.func60 rfl (Nat.le_of_ble_eq_true rfl) {frzAt := fun t => t == 1 || t == 4} (by kernel_rfl) (by kernel_rfl) ?_
  generalize hQ : callPost _ _ _ _ _ = Q
  obtain ⟨r1, hr1, h⟩ := bs h
  simp -implicitDefEqProofs only [go_sem]
  refine call_frz (r' := .p (.bool r1)) (m_rat_Right_ev a0 r1 hr1 (d + 1) empty) (by simp -implicitDefEqProofs only [go_sem]) rfl (by simp -implicitDefEqProofs only [go_sem]) (by simp -implicitDefEqProofs only [go_sem]) ?_ rfl rfl
  cases h
  subst hQ
  simp -implicitDefEqProofs only [go_sem, Try.results60]
theorem m_term_Right_ev (a0 : TTerm) (r0 : Bool) (h : m_term_Right a0 = some r0) (d : Nat) (G : Heap) : Tel Try.prog TB d 35 [.agg ((cTTerm a0).map .p)] G (.p (.bool r0)) (G) := by
  unfold m_term_Right at h
  refine Tel.intro mix Try.func35 rfl (Nat.le_of_ble_eq_true rfl) {frzAt := fun t => t == 1 || t == 10 || t == 15} (by kernel_rfl) (by kernel_rfl) ?_
  generalize hQ : callPost _ _ _ _ _ = Q
  rcases ib h with ⟨c1, h⟩ | ⟨c1, h⟩
  · obtain ⟨r2, hr2, h⟩ := bs h
    simp -implicitDefEqProofs only [go_sem, c1]
    refine call_frz (r' := .p (.bool r2)) (m_rat_Right_ev a0.f1 r2 hr2 (d + 1) empty) (by simp -implicitDefEqProofs only [go_sem, c1]) rfl (by simp -implicitDefEqProofs only [go_sem]) (by simp -implicitDefEqProofs only [go_sem]) ?_ rfl rfl
    rcases ib h with ⟨c3, h⟩ | ⟨c3, h⟩
    · obtain ⟨r4, hr4, h⟩ := bs h
      simp -implicitDefEqProofs only [go_sem, c1, c3]
      refine call_frz (r' := .p (.bool r4)) (m_slices_ContainsFunc_api_Rat_ev a0.f0 (fun x0 => m_term_Right_1 x0) 60 [] (by simp -implicitDefEqProofs only [go_sem]) (fun x0 r h d => m_term_Right_1_ev x0 r h d empty) r4 hr4 (d + 1) empty) (by simp -implicitDefEqProofs only [go_sem, c1, c3]) rfl (by simp -implicitDefEqProofs only [go_sem]) (by simp -implicitDefEqProofs only [go_sem]) ?_ rfl rfl
      cases h
      subst hQ
      simp -implicitDefEqProofs only [go_sem, c1, c3, Try.results35]
    · cases h
      subst hQ
      simp -implicitDefEqProofs only [go_sem, c1, c3, Try.results35]
  · cases h
    subst hQ
    simp -implicitDefEqProofs only [go_sem, c1, Try.results35]
theorem m_term_trim_ev (a0 : TTerm) (r0 : TTerm) (h : m_term_trim a0 = some r0) (d : Nat) (G : Heap) : Tel Try.prog TB d 69 [.agg ((cTTerm a0).map .p)] G (.agg ((cTTerm r0).map .p)) (G) := by
  unfold m_term_trim at h
  refine Tel.intro mix Try.func69 rfl (Nat.le_of_ble_eq_true rfl) {frzAt := fun t => t == 1 || t == 25, boxAt := fun t => if t = 2 then some 2 else if t = 21 then some 900021 else if t = 26 then some 900026 else none} (by kernel_rfl) (by kernel_rfl) ?_
  generalize hQ : callPost _ _ _ _ _ = Q
  simp -implicitDefEqProofs only [go_sem]
  obtain ⟨z3, hL3, h⟩ := bs h
  obtain ⟨I3, hI3⟩ : ∃ I : Int → St → Prop, I = fun v4 s => s.G = fillKey (cut d G) (d + 1) 2 [.box [.csl [], .p (.int .i64 0), .p (.int .i64 0)]] ∧ s.F 1 = .ep (cTTerm a0) 0 ∧ s.F 2 = .bp (d + 1, 2, 0) 0 ∧ s.F 3 = .p (.int .i64 v4) ∧ True := ⟨_, rfl⟩
  obtain ⟨R3, hR3⟩ : ∃ R : (Int) → GE → St → Prop, R = fun v5 e s => e = .exit 0 ∧ s.G = fillKey (cut d G) (d + 1) 2 [.box [.csl [], .p (.int .i64 0), .p (.int .i64 0)]] ∧ s.F 1 = .ep (cTTerm a0) 0 ∧ s.F 2 = .bp (d + 1, 2, 0) 0 ∧ s.F 3 = .p (.int .i64 v5) ∧ True := ⟨_, rfl⟩
  refine lp (ts := []) rfl hL3 I3 R3 ?_ ?_ ?_
  · rw [hI3]
    simp -implicitDefEqProofs only [go_sem]
  · clear h hL3
    rintro v4 y s h i
    rw [hI3] at i
    obtain ⟨gi3, i3⟩ := i
    replace h : m_term_trim_L0 a0 (v4) = some y := h
    unfold m_term_trim_L0 at h
    simp -implicitDefEqProofs only [go_sem, gi3, i3]
    obtain ⟨v6, hz, h⟩ := bs h
    obtain ⟨R7, hR7⟩ : ∃ R : St → Prop, R = fun s => s.G = fillKey (cut d G) (d + 1) 2 [.box [.csl [], .p (.int .i64 0), .p (.int .i64 0)]] ∧ s.F 1 = .ep (cTTerm a0) 0 ∧ s.F 2 = .bp (d + 1, 2, 0) 0 ∧ s.F 3 = .p (.int .i64 v4) ∧ s.F 18 = .p (.bool v6) ∧ True := ⟨_, rfl⟩
    refine cutR R7 ?_ ?_
    · replace h := hz
      rcases ib h with ⟨c8, h⟩ | ⟨c8, h⟩
      · obtain ⟨v9, hv9, h⟩ := bs h
        replace hv9 := gis hv9
        cases h
        simp -implicitDefEqProofs only [go_sem, gi3, i3, c8, hv9]
        rw [hR7]
        simp -implicitDefEqProofs only [go_sem, gi3, i3, c8, hv9]
      · cases h
        simp -implicitDefEqProofs only [go_sem, gi3, i3, c8]
        rw [hR7]
        simp -implicitDefEqProofs only [go_sem, gi3, i3, c8]
    · replace h := h; clear hz
      rintro s i
      rw [hR7] at i
      obtain ⟨gi10, i10⟩ := i
      clear hR7
      try dsimp only at h
      rcases ib h with ⟨c11, h⟩ | ⟨c11, h⟩
      · cases h
        simp -implicitDefEqProofs only [go_sem, gi3, i3, gi10, i10, c11]
        rw [hI3]
        simp -implicitDefEqProofs only [go_sem, gi3, i3, gi10, i10, c11]
      · cases h
        simp -implicitDefEqProofs only [go_sem, gi3, i3, gi10, i10, c11]
        rw [hR3]
        first | refine ⟨rfl, ?_⟩ | refine ⟨(), rfl, ?_⟩
        simp -implicitDefEqProofs only [go_sem, gi3, i3, gi10, i10, c11]
  · clear hL3 hI3
    intro e s hr3
    rw [hR3] at hr3
    clear hR3
    revert h hr3
    generalize z3 = v5
    intro h hr3
    try dsimp only at h hr3
    obtain ⟨rfl, gi12, i12⟩ := hr3
    obtain ⟨v13, hv13, h⟩ := bs h
    replace hv13 := subLs hv13
    obtain ⟨r14, hr14, h⟩ := bs h
    simp -implicitDefEqProofs only [go_sem, gi12, i12, hv13]
    refine call_frz (r' := .p (.sl (r14.map cTRat))) (m_slices_Clone_api_Rat_ev v13 r14 hr14 (d + 1) empty) (by simp -implicitDefEqProofs only [go_sem, gi12, i12, hv13]) rfl (by simp -implicitDefEqProofs only [go_sem]) (by simp -implicitDefEqProofs only [go_sem]) ?_ rfl rfl
    cases h
    subst hQ
    simp -implicitDefEqProofs only [go_sem, gi12, i12, hv13, Try.results69]
theorem m_term_Own_ev (a0 : TTerm) (r0 : TTerm) (h : m_term_Own a0 = some r0) (d : Nat) (G : Heap) : Tel Try.prog TB d 38 [.agg ((cTTerm a0).map .p)] G (.agg ((cTTerm r0).map .p)) (G) := by
  unfold m_term_Own at h
  refine Tel.intro mix Try.func38 rfl (Nat.le_of_ble_eq_true rfl) {frzAt := fun t => t == 1 || t == 4 || t == 6 || t == 9} (by kernel_rfl) (by kernel_rfl) ?_
  generalize hQ : callPost _ _ _ _ _ = Q
  obtain ⟨r1, hr1, h⟩ := bs h
  simp -implicitDefEqProofs only [go_sem]
  refine call_frz (r' := .p (.bool r1)) (m_term_Right_ev a0 r1 hr1 (d + 1) empty) (by simp -implicitDefEqProofs only [go_sem]) rfl (by simp -implicitDefEqProofs only [go_sem]) (by simp -implicitDefEqProofs only [go_sem]) ?_ rfl rfl
  rcases ib h with ⟨c2, h⟩ | ⟨c2, h⟩
  · obtain ⟨r3, hr3, h⟩ := bs h
    simp -implicitDefEqProofs only [go_sem, c2]
    refine call_frz (r' := .agg [.p (.int .i64 r3.f0), .p (.int .i64 r3.f1)]) (args := []) (caps := []) (m_term_nought_ev  r3 hr3 (d + 1) empty) (wkRs_refl []) rfl (by simp -implicitDefEqProofs only [go_sem]) (by simp -implicitDefEqProofs only [go_sem]) ?_ rfl rfl
    cases h
    subst hQ
    simp -implicitDefEqProofs only [go_sem, c2, Try.results38]
  · obtain ⟨r4, hr4, h⟩ := bs h
    simp -implicitDefEqProofs only [go_sem, c2]
    refine call_frz (r' := .agg [.p (.sl (r4.f0.map cTRat)), .p (.int .i64 r4.f1.f0), .p (.int .i64 r4.f1.f1)]) (m_term_trim_ev a0 r4 hr4 (d + 1) empty) (by simp -implicitDefEqProofs only [go_sem, c2]) rfl (by simp -implicitDefEqProofs only [go_sem]) (by simp -implicitDefEqProofs only [go_sem]) ?_ rfl rfl
    cases h
    subst hQ
    simp -implicitDefEqProofs only [go_sem, c2, Try.results38]
theorem m_term_Scale_1_ev (a0 : Int) (u0 : TTerm) (u1 : TRat) (r0 : TRat × Int) (h : m_term_Scale_1 a0 u0 u1 = some r0) (d : Nat) (G : Heap) : Tel Try.prog TB d 50 [.p (.int .i64 a0), .ep (cTTerm u0) 0, .ep (cTRat u1) 0] G (.tup [.agg ((cTRat r0.1).map .p), .p (.int .i64 r0.2)]) (G) := by
  unfold m_term_Scale_1 at h
  refine Tel.intro mix Try.func50 rfl (Nat.le_of_ble_eq_true rfl) {frzAt := fun t => t == 8 || t == 10, boxAt := fun t => if t = 1 then some 900001 else if t = 2 then some 900002 else if t = 4 then some 4 else none} (by kernel_rfl) (by kernel_rfl) ?_
  generalize hQ : callPost _ _ _ _ _ = Q
  obtain ⟨r1, hr1, h⟩ := bs h
  simp -implicitDefEqProofs only [go_sem]
  refine call_frz (r' := .agg [.p (.int .i64 r1.f0), .p (.int .i64 r1.f1)]) (m_term_one_ev u0 a0 r1 hr1 (d + 1) empty) (by simp -implicitDefEqProofs only [go_sem]) rfl (by simp -implicitDefEqProofs only [go_sem]) (by simp -implicitDefEqProofs only [go_sem]) ?_ rfl rfl
  obtain ⟨r2, hr2, h⟩ := bs h
  simp -implicitDefEqProofs only [go_sem]
  refine call_frz (r' := .tup [.agg [.p (.int .i64 r2.1.f0), .p (.int .i64 r2.1.f1)], .p (.int .i64 r2.2)]) (m_rat_Mul_ev r1 u1 r2 hr2 (d + 1) empty) (by simp -implicitDefEqProofs only [go_sem]) rfl (by simp -implicitDefEqProofs only [go_sem]) (by simp -implicitDefEqProofs only [go_sem]) ?_ rfl rfl
  cases h
  subst hQ
  simp -implicitDefEqProofs only [go_sem, Try.results50]
theorem m_term_Add_1_ev (a0 : Int) (u0 : TTerm) (u1 : TTerm) (r0 : TRat × Int) (h : m_term_Add_1 a0 u0 u1 = some r0) (d : Nat) (G : Heap) : Tel Try.prog TB d 98 [.p (.int .i64 a0), .ep (cTTerm u0) 0, .ep (cTTerm u1) 0] G (.tup [.agg ((cTRat r0.1).map .p), .p (.int .i64 r0.2)]) (G) := by
  unfold m_term_Add_1 at h
  refine Tel.intro mix Try.func98 rfl (Nat.le_of_ble_eq_true rfl) {frzAt := fun t => t == 8 || t == 11 || t == 12, boxAt := fun t => if t = 1 then some 900001 else if t = 2 then some 900002 else if t = 4 then some 4 else none} (by kernel_rfl) (by kernel_rfl) ?_
  generalize hQ : callPost _ _ _ _ _ = Q
  obtain ⟨r1, hr1, h⟩ := bs h
  simp -implicitDefEqProofs only [go_sem]
  refine call_frz (r' := .agg [.p (.int .i64 r1.f0), .p (.int .i64 r1.f1)]) (m_term_one_ev u0 a0 r1 hr1 (d + 1) empty) (by simp -implicitDefEqProofs only [go_sem]) rfl (by simp -implicitDefEqProofs only [go_sem]) (by simp -implicitDefEqProofs only [go_sem]) ?_ rfl rfl
  obtain ⟨r2, hr2, h⟩ := bs h
  simp -implicitDefEqProofs only [go_sem]
  refine call_frz (r' := .agg [.p (.int .i64 r2.f0), .p (.int .i64 r2.f1)]) (m_term_one_ev u1 a0 r2 hr2 (d + 1) empty) (by simp -implicitDefEqProofs only [go_sem]) rfl (by simp -implicitDefEqProofs only [go_sem]) (by simp -implicitDefEqProofs only [go_sem]) ?_ rfl rfl
  obtain ⟨r3, hr3, h⟩ := bs h
  simp -implicitDefEqProofs only [go_sem]
  refine call_frz (r' := .tup [.agg [.p (.int .i64 r3.1.f0), .p (.int .i64 r3.1.f1)], .p (.int .i64 r3.2)]) (m_rat_Add_ev r1 r2 r3 hr3 (d + 1) empty) (by simp -implicitDefEqProofs only [go_sem]) rfl (by simp -implicitDefEqProofs only [go_sem]) (by simp -implicitDefEqProofs only [go_sem]) ?_ rfl rfl
  cases h
  subst hQ
  simp -implicitDefEqProofs only [go_sem, Try.results98]
theorem m_term_each_ev (a0 : Int) (a1 : (Int → Option (TRat × Int))) (n1 : FuncId) (q1 : List GV) (hc1 : closeds q1) (hf1 : ∀ x0 r, a1 x0 = some r → ∀ d, Tel Try.prog TB d n1 ([.p (.int .i64 x0)] ++ q1) empty (.tup [.agg ((cTRat r.1).map .p), .p (.int .i64 r.2)]) empty) (r0 : TTerm × Int) (h : m_term_each a0 a1 = some r0) (d : Nat) (G : Heap) : Tel Try.prog TB d 49 [.p (.int .i64 a0), .fn n1 q1] G (.tup [.agg ((cTTerm r0.1).map .p), .p (.int .i64 r0.2)]) (G) := by
  unfold m_term_each at h
  refine Tel.intro mix Try.func49 rfl (Nat.le_of_ble_eq_true rfl) {frzAt := fun t => t == 19 || t == 38, clean := fun r => if r = 3 then [8] else []} (by kernel_rfl) (by kernel_rfl) ?_
  generalize hQ : callPost _ _ _ _ _ = Q
  simp -implicitDefEqProofs only [go_sem]
  obtain ⟨z11, hL11, h⟩ := bs h
  obtain ⟨I11, hI11⟩ : ∃ I : (Int × (List TRat) × Int × Int) → St → Prop, I = fun a s => match a with | (v12, v13, v15, v16) => ∃ o14, s.G = fillKey (fillKey (fillKey (cut d G) (d + 1) 4 [.box [.csl [], .p (.int .i64 0), .p (.int .i64 0)]]) (d + 1) 6 [.box [growV o14 (d + 1) (v13.map cTRat), .p (.int .i64 v15), .p (.int .i64 v16)]]) (d + 1) 34 (growO o14 34 2 (v13.map cTRat)) ∧ growOK o14 [34] ∧ s.F 1 = .fn n1 q1 ∧ s.F 4 = .bp (d + 1, 4, 0) 0 ∧ s.F 6 = .bp (d + 1, 6, 0) 0 ∧ s.F 11 = .p (.int .i64 (IntKind.wrap .i64 (a0 + 1))) ∧ s.F 12 = .p (.int .i64 v12) ∧ True := ⟨_, rfl⟩
  obtain ⟨R11, hR11⟩ : ∃ R : (((List TRat) × Int × Int) ⊕ (TTerm × Int)) → GE → St → Prop, R = fun x e s => match x with | .inl (v17, v19, v20) => e = .exit 0 ∧ (∃ o18, s.G = fillKey (fillKey (fillKey (cut d G) (d + 1) 4 [.box [.csl [], .p (.int .i64 0), .p (.int .i64 0)]]) (d + 1) 6 [.box [growV o18 (d + 1) (v17.map cTRat), .p (.int .i64 v19), .p (.int .i64 v20)]]) (d + 1) 34 (growO o18 34 2 (v17.map cTRat)) ∧ growOK o18 [34] ∧ s.F 4 = .bp (d + 1, 4, 0) 0 ∧ s.F 6 = .bp (d + 1, 6, 0) 0 ∧ True) | .inr r => e = .ret ∧ (r = r0 → Q .ret s) := ⟨_, rfl⟩
  refine lp (ts := [8]) rfl hL11 I11 R11 ?_ ?_ ?_
  · rw [hI11]
    refine ⟨none, ?_⟩
    simp -implicitDefEqProofs only [go_sem, poisons_closed (d := d + 1) (ts := [8]) _ hc1]
  · clear h hL11
    rintro ⟨v12, v13, v15, v16⟩ y s h i
    rw [hI11] at i
    obtain ⟨o14, gi11, ko14, i11⟩ := i
    replace h : m_term_each_L0 a0 a1 (v12, v13, v15, v16) = some y := h
    unfold m_term_each_L0 at h
    rcases ib h with ⟨c21, h⟩ | ⟨c21, h⟩
    · obtain ⟨r22, hr22, h⟩ := bs h
      simp -implicitDefEqProofs only [go_sem, gi11, ko14, i11, c21]
      refine call_frz (r' := .tup [.agg [.p (.int .i64 r22.1.f0), .p (.int .i64 r22.1.f1)], .p (.int .i64 r22.2)]) (hf1 (IntKind.wrap .i64 (v12 - 1)) r22 hr22 (d + 1)) (by simp -implicitDefEqProofs only [go_sem, gi11, ko14, i11, c21]) rfl (by simp -implicitDefEqProofs only [go_sem, hc1]) (by simp -implicitDefEqProofs only [go_sem]) ?_ rfl rfl
      rcases ib h with ⟨c23, h⟩ | ⟨c23, h⟩
      · cases h
        simp -implicitDefEqProofs only [go_sem, gi11, ko14, i11, c21, c23]
        rw [hR11]
        refine ⟨rfl, ?_⟩
        intro hr
        subst hr
        subst hQ
        simp -implicitDefEqProofs only [go_sem, gi11, ko14, i11, c21, c23, Try.results49]
      · simp -implicitDefEqProofs only [go_sem, gi11, ko14, i11, c21, c23]
        obtain ⟨⟨v24, v26, v27⟩, hz, h⟩ := bs h
        obtain ⟨R28, hR28⟩ : ∃ R : St → Prop, R = fun s => ∃ o25, s.G = fillKey (fillKey (fillKey (fillKey (cut d G) (d + 1) 4 [.box [.csl [], .p (.int .i64 0), .p (.int .i64 0)]]) (d + 1) 6 [.box [growV o25 (d + 1) (v24.map cTRat), .p (.int .i64 v26), .p (.int .i64 v27)]]) (d + 1) 8 [.box [.p (.int .i64 r22.1.f0), .p (.int .i64 r22.1.f1)]]) (d + 1) 34 (growO o25 34 2 (v24.map cTRat)) ∧ growOK o25 [34] ∧ s.F 1 = .fn n1 q1 ∧ s.F 4 = .bp (d + 1, 4, 0) 0 ∧ s.F 6 = .bp (d + 1, 6, 0) 0 ∧ s.F 11 = .p (.int .i64 (IntKind.wrap .i64 (a0 + 1))) ∧ s.F 12 = .p (.int .i64 v12) ∧ True := ⟨_, rfl⟩
        refine cutG R28 ?_ ?_
        · replace h := hz
          rcases ib h with ⟨c29, h⟩ | ⟨c29, h⟩
          · cases h
            simp -implicitDefEqProofs only [go_sem, gi11, ko14, i11, c21, c23, c29]
            rw [hR28]
            refine ⟨o14, ?_⟩
            simp -implicitDefEqProofs only [go_sem, gi11, ko14, i11, c21, c23, c29]
          · obtain ⟨_, c30, h⟩ := bs h
            replace c30 := rqs c30
            simp -implicitDefEqProofs only [go_sem, gi11, ko14, i11, c21, c23, c29, c30]
            refine append_G (o := o14) (ts := [34]) (es := (v13 : List TRat).map cTRat) (xs := ([r22.1] : List TRat).map cTRat) (ho := growOK.sub ko14 (by decide)) (hG := by simp -implicitDefEqProofs only [go_sem, gi11, ko14, i11, c21, c23, c29, c30]) (hj := by simp -implicitDefEqProofs only [go_sem]) (he := el23) (hx := by simp -implicitDefEqProofs only [go_sem, gi11, ko14, i11, c21, c23, c29, c30]) (h1 := by simp -implicitDefEqProofs only [go_sem]) (h2 := by simp -implicitDefEqProofs only [go_sem]) (ha := rfl) (hra := rfl) (hb := by simpa using c30) (hbb := by decide) ?_
            intro o31 ko31
            cases h
            simp -implicitDefEqProofs only [go_sem, gi11, ko14, i11, c21, c23, c29, c30, ko31]
            rw [hR28]
            refine ⟨o31, ?_⟩
            simp -implicitDefEqProofs only [go_sem, gi11, ko14, i11, c21, c23, c29, c30, ko31]
        · replace h := h; clear hz
          rintro s i
          rw [hR28] at i
          obtain ⟨o25, gi32, ko25, i32⟩ := i
          clear hR28
          try dsimp only at h
          cases h
          simp -implicitDefEqProofs only [go_sem, gi11, ko14, i11, c21, c23, gi32, ko25, i32]
          rw [hI11]
          refine ⟨o25, ?_⟩
          simp -implicitDefEqProofs only [go_sem, gi11, ko14, i11, c21, c23, gi32, ko25, i32, poison_grow (d := d + 1) (ts := [8]) ko25 (by decide), poisons_closed (d := d + 1) (ts := [8]) _ hc1]
    · cases h
      simp -implicitDefEqProofs only [go_sem, gi11, ko14, i11, c21]
      rw [hR11]
      first | refine ⟨rfl, o14, ?_⟩ | refine ⟨(), rfl, o14, ?_⟩
      simp -implicitDefEqProofs only [go_sem, gi11, ko14, i11, c21]
  · clear hL11 hI11
    intro e s hr11
    rw [hR11] at hr11
    clear hR11
    rcases z11 with ⟨v17, v19, v20⟩ | r
    · try dsimp only at h hr11
      obtain ⟨rfl, o18, gi33, ko18, i33⟩ := hr11
      obtain ⟨r34, hr34, h⟩ := bs h
      simp -implicitDefEqProofs only [go_sem, gi33, ko18, i33]
      refine call_frz (r' := .agg [.p (.sl (r34.f0.map cTRat)), .p (.int .i64 r34.f1.f0), .p (.int .i64 r34.f1.f1)]) (m_term_trim_ev (⟨v17, (⟨v19, v20⟩ : TRat)⟩ : TTerm) r34 hr34 (d + 1) empty) (by simp -implicitDefEqProofs only [go_sem, gi33, ko18, i33]) rfl (by simp -implicitDefEqProofs only [go_sem, hc1]) (by simp -implicitDefEqProofs only [go_sem]) ?_ rfl rfl
      cases h
      subst hQ
      simp -implicitDefEqProofs only [go_sem, gi33, ko18, i33, Try.results49]
    · try dsimp only at h hr11
      obtain ⟨rfl, hr11⟩ := hr11
      cases h
      try simp -implicitDefEqProofs only [go_sem]
      exact hr11 rfl
theorem m_term_Add_ev (a0 : TTerm) (a1 : TTerm) (r0 : TTerm × Int) (h : m_term_Add a0 a1 = some r0) (d : Nat) (G : Heap) : Tel Try.prog TB d 68 [.agg ((cTTerm a0).map .p), .agg ((cTTerm a1).map .p)] G (.tup [.agg ((cTTerm r0.1).map .p), .p (.int .i64 r0.2)]) (G) := by
  unfold m_term_Add at h
  refine Tel.intro mix Try.func68 rfl (Nat.le_of_ble_eq_true rfl) {frzAt := fun t => t == 2 || t == 3 || t == 7 || t == 11 || t == 23} (by kernel_rfl) (by kernel_rfl) ?_
  generalize hQ : callPost _ _ _ _ _ = Q
  obtain ⟨r1, hr1, h⟩ := bs h
  simp -implicitDefEqProofs only [go_sem]
  refine call_frz (r' := .p (.bool r1)) (m_term_Right_ev a0 r1 hr1 (d + 1) empty) (by simp -implicitDefEqProofs only [go_sem]) rfl (by simp -implicitDefEqProofs only [go_sem]) (by simp -implicitDefEqProofs only [go_sem]) ?_ rfl rfl
  simp -implicitDefEqProofs only [go_sem]
  obtain ⟨v2, hz, h⟩ := bs h
  obtain ⟨R3, hR3⟩ : ∃ R : St → Prop, R = fun s => s.G = fillKey (cut d G) (d + 1) 4 [.box [.csl [], .p (.int .i64 0), .p (.int .i64 0)]] ∧ s.F 2 = .ep (cTTerm a0) 0 ∧ s.F 3 = .ep (cTTerm a1) 0 ∧ s.F 4 = .bp (d + 1, 4, 0) 0 ∧ s.F 13 = .p (.bool v2) ∧ True := ⟨_, rfl⟩
  refine cutR R3 ?_ ?_
  · replace h := hz
    rcases ib h with ⟨c4, h⟩ | ⟨c4, h⟩
    · cases h
      simp -implicitDefEqProofs only [go_sem, c4]
      rw [hR3]
      simp -implicitDefEqProofs only [go_sem, c4]
    · obtain ⟨r5, hr5, h⟩ := bs h
      simp -implicitDefEqProofs only [go_sem, c4]
      refine call_frz (r' := .p (.bool r5)) (m_term_Right_ev a1 r5 hr5 (d + 1) empty) (by simp -implicitDefEqProofs only [go_sem, c4]) rfl (by simp -implicitDefEqProofs only [go_sem]) (by simp -implicitDefEqProofs only [go_sem]) ?_ rfl rfl
      cases h
      simp -implicitDefEqProofs only [go_sem, c4]
      rw [hR3]
      simp -implicitDefEqProofs only [go_sem, c4]
  · replace h := h; clear hz
    rintro s i
    rw [hR3] at i
    obtain ⟨gi6, i6⟩ := i
    clear hR3
    try dsimp only at h
    rcases ib h with ⟨c7, h⟩ | ⟨c7, h⟩
    · cases h
      subst hQ
      simp -implicitDefEqProofs only [go_sem, gi6, i6, c7, Try.results68]
    · obtain ⟨r8, hr8, h⟩ := bs h
      simp -implicitDefEqProofs only [go_sem, gi6, i6, c7]
      refine call_frz (r' := .tup [.agg [.p (.sl (r8.1.f0.map cTRat)), .p (.int .i64 r8.1.f1.f0), .p (.int .i64 r8.1.f1.f1)], .p (.int .i64 r8.2)]) (m_term_each_ev (if (a0.f0.length : Int) < (a1.f0.length : Int) then (a1.f0.length : Int) else (a0.f0.length : Int)) (fun x0 => m_term_Add_1 x0 a0 a1) 98 [.ep (cTTerm a0) 0, .ep (cTTerm a1) 0] (by simp -implicitDefEqProofs only [go_sem]) (fun x0 r h d => m_term_Add_1_ev x0 a0 a1 r h d empty) r8 hr8 (d + 1) empty) (by simp -implicitDefEqProofs only [go_sem, gi6, i6, c7]) rfl (by simp -implicitDefEqProofs only [go_sem]) (by simp -implicitDefEqProofs only [go_sem]) ?_ rfl rfl
      cases h
      subst hQ
      simp -implicitDefEqProofs only [go_sem, gi6, i6, c7, Try.results68]
theorem m_term_Scale_ev (a0 : TTerm) (a1 : TRat) (r0 : TTerm × Int) (h : m_term_Scale a0 a1 = some r0) (d : Nat) (G : Heap) : Tel Try.prog TB d 29 [.agg ((cTTerm a0).map .p), .agg ((cTRat a1).map .p)] G (.tup [.agg ((cTTerm r0.1).map .p), .p (.int .i64 r0.2)]) (G) := by
  unfold m_term_Scale at h
  refine Tel.intro mix Try.func29 rfl (Nat.le_of_ble_eq_true rfl) {frzAt := fun t => t == 2 || t == 3 || t == 7 || t == 11 || t == 19} (by kernel_rfl) (by kernel_rfl) ?_
  generalize hQ : callPost _ _ _ _ _ = Q
  obtain ⟨r1, hr1, h⟩ := bs h
  simp -implicitDefEqProofs only [go_sem]
  refine call_frz (r' := .p (.bool r1)) (m_term_Right_ev a0 r1 hr1 (d + 1) empty) (by simp -implicitDefEqProofs only [go_sem]) rfl (by simp -implicitDefEqProofs only [go_sem]) (by simp -implicitDefEqProofs only [go_sem]) ?_ rfl rfl
  simp -implicitDefEqProofs only [go_sem]
  obtain ⟨v2, hz, h⟩ := bs h
  obtain ⟨R3, hR3⟩ : ∃ R : St → Prop, R = fun s => s.G = fillKey (cut d G) (d + 1) 4 [.box [.csl [], .p (.int .i64 0), .p (.int .i64 0)]] ∧ s.F 2 = .ep (cTTerm a0) 0 ∧ s.F 3 = .ep (cTRat a1) 0 ∧ s.F 4 = .bp (d + 1, 4, 0) 0 ∧ s.F 13 = .p (.bool v2) ∧ True := ⟨_, rfl⟩
  refine cutR R3 ?_ ?_
  · replace h := hz
    rcases ib h with ⟨c4, h⟩ | ⟨c4, h⟩
    · cases h
      simp -implicitDefEqProofs only [go_sem, c4]
      rw [hR3]
      simp -implicitDefEqProofs only [go_sem, c4]
    · obtain ⟨r5, hr5, h⟩ := bs h
      simp -implicitDefEqProofs only [go_sem, c4]
      refine call_frz (r' := .p (.bool r5)) (m_rat_Right_ev a1 r5 hr5 (d + 1) empty) (by simp -implicitDefEqProofs only [go_sem, c4]) rfl (by simp -implicitDefEqProofs only [go_sem]) (by simp -implicitDefEqProofs only [go_sem]) ?_ rfl rfl
      cases h
      simp -implicitDefEqProofs only [go_sem, c4]
      rw [hR3]
      simp -implicitDefEqProofs only [go_sem, c4]
  · replace h := h; clear hz
    rintro s i
    rw [hR3] at i
    obtain ⟨gi6, i6⟩ := i
    clear hR3
    try dsimp only at h
    rcases ib h with ⟨c7, h⟩ | ⟨c7, h⟩
    · cases h
      subst hQ
      simp -implicitDefEqProofs only [go_sem, gi6, i6, c7, Try.results29]
    · obtain ⟨r8, hr8, h⟩ := bs h
      simp -implicitDefEqProofs only [go_sem, gi6, i6, c7]
      refine call_frz (r' := .tup [.agg [.p (.sl (r8.1.f0.map cTRat)), .p (.int .i64 r8.1.f1.f0), .p (.int .i64 r8.1.f1.f1)], .p (.int .i64 r8.2)]) (m_term_each_ev (a0.f0.length : Int) (fun x0 => m_term_Scale_1 x0 a0 a1) 50 [.ep (cTTerm a0) 0, .ep (cTRat a1) 0] (by simp -implicitDefEqProofs only [go_sem]) (fun x0 r h d => m_term_Scale_1_ev x0 a0 a1 r h d empty) r8 hr8 (d + 1) empty) (by simp -implicitDefEqProofs only [go_sem, gi6, i6, c7]) rfl (by simp -implicitDefEqProofs only [go_sem]) (by simp -implicitDefEqProofs only [go_sem]) ?_ rfl rfl
      cases h
      subst hQ
      simp -implicitDefEqProofs only [go_sem, gi6, i6, c7, Try.results29]
theorem m_term_Value_ev (a0 : TTerm) (a1 : List TRat) (r0 : TRat × Int) (h : m_term_Value a0 a1 = some r0) (d : Nat) (G : Heap) : Tel Try.prog TB d 33 [.agg ((cTTerm a0).map .p), .p (.sl (a1.map cTRat))] G (.tup [.agg ((cTRat r0.1).map .p), .p (.int .i64 r0.2)]) (G) := by
  unfold m_term_Value at h
  refine Tel.intro mix Try.func33 rfl (Nat.le_of_ble_eq_true rfl) {frzAt := fun t => t == 2 || t == 18 || t == 22 || t == 24 || t == 51 || t == 61, boxAt := fun t => if t = 9 then some 9 else if t = 10 then some 10 else if t = 49 then some 900049 else none, clean := fun r => if r = 6 then [9, 10] else []} (by kernel_rfl) (by kernel_rfl) ?_
  generalize hQ : callPost _ _ _ _ _ = Q
  obtain ⟨v1, hv1, h⟩ := bs h
  replace hv1 := subLs hv1
  obtain ⟨r2, hr2, h⟩ := bs h
  simp -implicitDefEqProofs only [go_sem, hv1]
  refine call_frz (r' := .p (.bool r2)) (m_term_Right_ev a0 r2 hr2 (d + 1) empty) (by simp -implicitDefEqProofs only [go_sem, hv1]) rfl (by simp -implicitDefEqProofs only [go_sem]) (by simp -implicitDefEqProofs only [go_sem]) ?_ rfl rfl
  simp -implicitDefEqProofs only [go_sem, hv1]
  obtain ⟨v3, hz, h⟩ := bs h
  obtain ⟨R4, hR4⟩ : ∃ R : St → Prop, R = fun s => s.G = fillKey (cut d G) (d + 1) 4 [.box [.p (.int .i64 0), .p (.int .i64 0)]] ∧ s.F 2 = .ep (cTTerm a0) 0 ∧ s.F 4 = .bp (d + 1, 4, 0) 0 ∧ s.F 6 = .p (.sl (v1.map cTRat)) ∧ s.F 26 = .p (.bool v3) ∧ True := ⟨_, rfl⟩
  refine cutR R4 ?_ ?_
  · replace h := hz
    rcases ib h with ⟨c5, h⟩ | ⟨c5, h⟩
    · cases h
      simp -implicitDefEqProofs only [go_sem, hv1, c5]
      rw [hR4]
      simp -implicitDefEqProofs only [go_sem, hv1, c5]
    · obtain ⟨r6, hr6, h⟩ := bs h
      simp -implicitDefEqProofs only [go_sem, hv1, c5]
      refine call_frz (r' := .agg [.p (.int .i64 r6.f0), .p (.int .i64 r6.f1)]) (args := []) (caps := []) (m_term_nought_ev  r6 hr6 (d + 1) empty) (wkRs_refl []) rfl (by simp -implicitDefEqProofs only [go_sem]) (by simp -implicitDefEqProofs only [go_sem]) ?_ rfl rfl
      obtain ⟨r7, hr7, h⟩ := bs h
      simp -implicitDefEqProofs only [go_sem, hv1, c5]
      refine call_frz (r' := .p (.bool r7)) (m_term_Right_ev (⟨v1, r6⟩ : TTerm) r7 hr7 (d + 1) empty) (by simp -implicitDefEqProofs only [go_sem, hv1, c5]) rfl (by simp -implicitDefEqProofs only [go_sem]) (by simp -implicitDefEqProofs only [go_sem]) ?_ rfl rfl
      cases h
      simp -implicitDefEqProofs only [go_sem, hv1, c5]
      rw [hR4]
      simp -implicitDefEqProofs only [go_sem, hv1, c5]
  · replace h := h; clear hz
    rintro s i
    rw [hR4] at i
    obtain ⟨gi8, i8⟩ := i
    clear hR4
    try dsimp only at h
    rcases ib h with ⟨c9, h⟩ | ⟨c9, h⟩
    · cases h
      subst hQ
      simp -implicitDefEqProofs only [go_sem, hv1, gi8, i8, c9, Try.results33]
    · obtain ⟨v10, hv10, h⟩ := bs h
      replace hv10 := subLs hv10
      simp -implicitDefEqProofs only [go_sem, hv1, gi8, i8, c9, hv10]
      obtain ⟨z17, hL17, h⟩ := bs h
      obtain ⟨I17, hI17⟩ : ∃ I : (Int × Int × Int) → St → Prop, I = fun a s => match a with | (v18, v19, v20) => s.G = fillKey (fillKey (cut d G) (d + 1) 4 [.box [.p (.int .i64 0), .p (.int .i64 0)]]) (d + 1) 7 [.box [.p (.int .i64 v19), .p (.int .i64 v20)]] ∧ s.F 4 = .bp (d + 1, 4, 0) 0 ∧ s.F 6 = .p (.sl (v1.map cTRat)) ∧ s.F 7 = .bp (d + 1, 7, 0) 0 ∧ s.F 38 = .p (.sl (v10.map cTRat)) ∧ s.F 39 = .p (.int .i64 (v10.length : Int)) ∧ s.F 40 = .p (.int .i64 v18) ∧ True := ⟨_, rfl⟩
      obtain ⟨R17, hR17⟩ : ∃ R : ((Int × Int) ⊕ (TRat × Int)) → GE → St → Prop, R = fun x e s => match x with | .inl (v21, v22) => e = .exit 0 ∧ s.G = fillKey (fillKey (cut d G) (d + 1) 4 [.box [.p (.int .i64 0), .p (.int .i64 0)]]) (d + 1) 7 [.box [.p (.int .i64 v21), .p (.int .i64 v22)]] ∧ s.F 4 = .bp (d + 1, 4, 0) 0 ∧ s.F 7 = .bp (d + 1, 7, 0) 0 ∧ True | .inr r => e = .ret ∧ (r = r0 → Q .ret s) := ⟨_, rfl⟩
      refine lp (ts := [9, 10]) rfl hL17 I17 R17 ?_ ?_ ?_
      · rw [hI17]
        simp -implicitDefEqProofs only [go_sem, hv1, gi8, i8, c9, hv10]
      · clear h hL17
        rintro ⟨v18, v19, v20⟩ y s h i
        rw [hI17] at i
        obtain ⟨gi17, i17⟩ := i
        replace h : m_term_Value_L0 v10 v1 (v18, v19, v20) = some y := h
        unfold m_term_Value_L0 at h
        rcases ib h with ⟨c23, h⟩ | ⟨c23, h⟩
        · obtain ⟨v24, hv24, h⟩ := bs h
          replace hv24 := gis hv24
          obtain ⟨v25, hv25, h⟩ := bs h
          replace hv25 := gis hv25
          obtain ⟨r26, hr26, h⟩ := bs h
          simp -implicitDefEqProofs only [go_sem, hv1, gi8, i8, c9, hv10, gi17, i17, c23, hv24, hv25]
          refine call_frz (r' := .tup [.agg [.p (.int .i64 r26.1.f0), .p (.int .i64 r26.1.f1)], .p (.int .i64 r26.2)]) (m_rat_Mul_ev v24 v25 r26 hr26 (d + 1) empty) (by simp -implicitDefEqProofs only [go_sem, hv1, gi8, i8, c9, hv10, gi17, i17, c23, hv24, hv25]) rfl (by simp -implicitDefEqProofs only [go_sem]) (by simp -implicitDefEqProofs only [go_sem]) ?_ rfl rfl
          rcases ib h with ⟨c27, h⟩ | ⟨c27, h⟩
          · cases h
            simp -implicitDefEqProofs only [go_sem, hv1, gi8, i8, c9, hv10, gi17, i17, c23, hv24, hv25, c27]
            rw [hR17]
            refine ⟨rfl, ?_⟩
            intro hr
            subst hr
            subst hQ
            simp -implicitDefEqProofs only [go_sem, hv1, gi8, i8, c9, hv10, gi17, i17, c23, hv24, hv25, c27, Try.results33]
          · obtain ⟨r28, hr28, h⟩ := bs h
            simp -implicitDefEqProofs only [go_sem, hv1, gi8, i8, c9, hv10, gi17, i17, c23, hv24, hv25, c27]
            refine call_frz (r' := .tup [.agg [.p (.int .i64 r28.1.f0), .p (.int .i64 r28.1.f1)], .p (.int .i64 r28.2)]) (m_rat_Add_ev (⟨v19, v20⟩ : TRat) r26.1 r28 hr28 (d + 1) empty) (by simp -implicitDefEqProofs only [go_sem, hv1, gi8, i8, c9, hv10, gi17, i17, c23, hv24, hv25, c27]) rfl (by simp -implicitDefEqProofs only [go_sem]) (by simp -implicitDefEqProofs only [go_sem]) ?_ rfl rfl
            rcases ib h with ⟨c29, h⟩ | ⟨c29, h⟩
            · cases h
              simp -implicitDefEqProofs only [go_sem, hv1, gi8, i8, c9, hv10, gi17, i17, c23, hv24, hv25, c27, c29]
              rw [hR17]
              refine ⟨rfl, ?_⟩
              intro hr
              subst hr
              subst hQ
              simp -implicitDefEqProofs only [go_sem, hv1, gi8, i8, c9, hv10, gi17, i17, c23, hv24, hv25, c27, c29, Try.results33]
            · cases h
              simp -implicitDefEqProofs only [go_sem, hv1, gi8, i8, c9, hv10, gi17, i17, c23, hv24, hv25, c27, c29]
              rw [hI17]
              simp -implicitDefEqProofs only [go_sem, hv1, gi8, i8, c9, hv10, gi17, i17, c23, hv24, hv25, c27, c29]
        · cases h
          simp -implicitDefEqProofs only [go_sem, hv1, gi8, i8, c9, hv10, gi17, i17, c23]
          rw [hR17]
          first | refine ⟨rfl, ?_⟩ | refine ⟨(), rfl, ?_⟩
          simp -implicitDefEqProofs only [go_sem, hv1, gi8, i8, c9, hv10, gi17, i17, c23]
      · clear hL17 hI17
        intro e s hr17
        rw [hR17] at hr17
        clear hR17
        rcases z17 with ⟨v21, v22⟩ | r
        · try dsimp only at h hr17
          obtain ⟨rfl, gi30, i30⟩ := hr17
          cases h
          subst hQ
          simp -implicitDefEqProofs only [go_sem, hv1, gi8, i8, c9, hv10, gi30, i30, Try.results33]
        · try dsimp only at h hr17
          obtain ⟨rfl, hr17⟩ := hr17
          cases h
          try simp -implicitDefEqProofs only [go_sem]
          exact hr17 rfl
theorem m_slices_IndexFunc_api_Term_ev (a0 : List TTerm) (a1 : (TTerm → Option Bool)) (n1 : FuncId) (q1 : List GV) (hc1 : closeds q1) (hf1 : ∀ x0 r, a1 x0 = some r → ∀ d, Tel Try.prog TB d n1 ([.agg ((cTTerm x0).map .p)] ++ q1) empty (.p (.bool r)) empty) (r0 : Int) (h : m_slices_IndexFunc_api_Term a0 a1 = some r0) (d : Nat) (G : Heap) : Tel Try.prog TB d 93 [.p (.sl (a0.map cTTerm)), .fn n1 q1] G (.p (.int .i64 r0)) (G) := by
  unfold m_slices_IndexFunc_api_Term at h
  refine Tel.intro mix Try.func93 rfl (Nat.le_of_ble_eq_true rfl) {frzAt := fun t => t == 16} (by kernel_rfl) (by kernel_rfl) ?_
  generalize hQ : callPost _ _ _ _ _ = Q
  simp -implicitDefEqProofs only [go_sem]
  obtain ⟨z3, hL3, h⟩ := bs h
  obtain ⟨I3, hI3⟩ : ∃ I : Int → St → Prop, I = fun v4 s => s.G = cut d G ∧ s.F 0 = .p (.sl (a0.map cTTerm)) ∧ s.F 1 = .fn n1 q1 ∧ s.F 7 = .p (.int .i64 (a0.length : Int)) ∧ s.F 8 = .p (.int .i64 v4) ∧ True := ⟨_, rfl⟩
  obtain ⟨R3, hR3⟩ : ∃ R : ((Unit) ⊕ (Int)) → GE → St → Prop, R = fun x e s => match x with | .inl _ => e = .exit 0 ∧ s.G = cut d G ∧ True | .inr r => e = .ret ∧ (r = r0 → Q .ret s) := ⟨_, rfl⟩
  refine lp (ts := []) rfl hL3 I3 R3 ?_ ?_ ?_
  · rw [hI3]
    simp -implicitDefEqProofs only [go_sem]
  · clear h hL3
    rintro v4 y s h i
    rw [hI3] at i
    obtain ⟨gi3, i3⟩ := i
    replace h : m_slices_IndexFunc_api_Term_L0 a0 a1 (v4) = some y := h
    unfold m_slices_IndexFunc_api_Term_L0 at h
    rcases ib h with ⟨c5, h⟩ | ⟨c5, h⟩
    · obtain ⟨v6, hv6, h⟩ := bs h
      replace hv6 := gis hv6
      obtain ⟨r7, hr7, h⟩ := bs h
      simp -implicitDefEqProofs only [go_sem, gi3, i3, c5, hv6]
      refine call_frz (r' := .p (.bool r7)) (hf1 v6 r7 hr7 (d + 1)) (by simp -implicitDefEqProofs only [go_sem, gi3, i3, c5, hv6]) rfl (by simp -implicitDefEqProofs only [go_sem, hc1]) (by simp -implicitDefEqProofs only [go_sem]) ?_ rfl rfl
      rcases ib h with ⟨c8, h⟩ | ⟨c8, h⟩
      · cases h
        simp -implicitDefEqProofs only [go_sem, gi3, i3, c5, hv6, c8]
        rw [hR3]
        refine ⟨rfl, ?_⟩
        intro hr
        subst hr
        subst hQ
        simp -implicitDefEqProofs only [go_sem, gi3, i3, c5, hv6, c8, Try.results93]
      · cases h
        simp -implicitDefEqProofs only [go_sem, gi3, i3, c5, hv6, c8]
        rw [hI3]
        simp -implicitDefEqProofs only [go_sem, gi3, i3, c5, hv6, c8]
    · cases h
      simp -implicitDefEqProofs only [go_sem, gi3, i3, c5]
      rw [hR3]
      first | refine ⟨rfl, ?_⟩ | refine ⟨(), rfl, ?_⟩
      simp -implicitDefEqProofs only [go_sem, gi3, i3, c5]
  · clear hL3 hI3
    intro e s hr3
    rw [hR3] at hr3
    clear hR3
    rcases z3 with _ | r
    · try dsimp only at h hr3
      obtain ⟨rfl, gi9, i9⟩ := hr3
      cases h
      subst hQ
      simp -implicitDefEqProofs only [go_sem, gi9, i9, Try.results93]
    · try dsimp only at h hr3
      obtain ⟨rfl, hr3⟩ := hr3
      cases h
      try simp -implicitDefEqProofs only [go_sem]
      exact hr3 rfl
theorem m_slices_ContainsFunc_api_Term_ev (a0 : List TTerm) (a1 : (TTerm → Option Bool)) (n1 : FuncId) (q1 : List GV) (hc1 : closeds q1) (hf1 : ∀ x0 r, a1 x0 = some r → ∀ d, Tel Try.prog TB d n1 ([.agg ((cTTerm x0).map .p)] ++ q1) empty (.p (.bool r)) empty) (r0 : Bool) (h : m_slices_ContainsFunc_api_Term a0 a1 = some r0) (d : Nat) (G : Heap) : Tel Try.prog TB d 61 [.p (.sl (a0.map cTTerm)), .fn n1 q1] G (.p (.bool r0)) (G) := by
  unfold m_slices_ContainsFunc_api_Term at h
  refine Tel.intro mix Try.func61 rfl (Nat.le_of_ble_eq_true rfl) {frzAt := fun t => t == 7} (by kernel_rfl) (by kernel_rfl) ?_
  generalize hQ : callPost _ _ _ _ _ = Q
  obtain ⟨r1, hr1, h⟩ := bs h
  simp -implicitDefEqProofs only [go_sem]
  refine call_frz (r' := .p (.int .i64 r1)) (m_slices_IndexFunc_api_Term_ev a0 a1 n1 q1 hc1 hf1 r1 hr1 (d + 1) empty) (by simp -implicitDefEqProofs only [go_sem]) rfl (by simp -implicitDefEqProofs only [go_sem, hc1]) (by simp -implicitDefEqProofs only [go_sem]) ?_ rfl rfl
  cases h
  subst hQ
  simp -implicitDefEqProofs only [go_sem, Try.results61]
theorem m_slices_Index_int_ev (a0 : List Int) (a1 : Int) (r0 : Int) (h : m_slices_Index_int a0 a1 = some r0) (d : Nat) (G : Heap) : Tel Try.prog TB d 102 [.p (.sl (a0.map cii64)), .p (.int .i64 a1)] G (.p (.int .i64 r0)) (G) := by
  unfold m_slices_Index_int at h
  refine Tel.intro mix Try.func102 rfl (Nat.le_of_ble_eq_true rfl) {} (by kernel_rfl) (by kernel_rfl) ?_
  generalize hQ : callPost _ _ _ _ _ = Q
  simp -implicitDefEqProofs only [go_sem]
  obtain ⟨z3, hL3, h⟩ := bs h
  obtain ⟨I3, hI3⟩ : ∃ I : Int → St → Prop, I = fun v4 s => s.G = cut d G ∧ s.F 0 = .p (.sl (a0.map cii64)) ∧ s.F 1 = .p (.int .i64 a1) ∧ s.F 7 = .p (.int .i64 (a0.length : Int)) ∧ s.F 8 = .p (.int .i64 v4) ∧ True := ⟨_, rfl⟩
  obtain ⟨R3, hR3⟩ : ∃ R : ((Unit) ⊕ (Int)) → GE → St → Prop, R = fun x e s => match x with | .inl _ => e = .exit 0 ∧ s.G = cut d G ∧ True | .inr r => e = .ret ∧ (r = r0 → Q .ret s) := ⟨_, rfl⟩
  refine lp (ts := []) rfl hL3 I3 R3 ?_ ?_ ?_
  · rw [hI3]
    simp -implicitDefEqProofs only [go_sem]
  · clear h hL3
    rintro v4 y s h i
    rw [hI3] at i
    obtain ⟨gi3, i3⟩ := i
    replace h : m_slices_Index_int_L0 a0 a1 (v4) = some y := h
    unfold m_slices_Index_int_L0 at h
    rcases ib h with ⟨c5, h⟩ | ⟨c5, h⟩
    · obtain ⟨v6, hv6, h⟩ := bs h
      replace hv6 := gis hv6
      rcases ib h with ⟨c7, h⟩ | ⟨c7, h⟩
      · cases h
        simp -implicitDefEqProofs only [go_sem, gi3, i3, c5, hv6, c7]
        rw [hR3]
        refine ⟨rfl, ?_⟩
        intro hr
        subst hr
        subst hQ
        simp -implicitDefEqProofs only [go_sem, gi3, i3, c5, hv6, c7, Try.results102]
      · cases h
        simp -implicitDefEqProofs only [go_sem, gi3, i3, c5, hv6, c7]
        rw [hI3]
        simp -implicitDefEqProofs only [go_sem, gi3, i3, c5, hv6, c7]
    · cases h
      simp -implicitDefEqProofs only [go_sem, gi3, i3, c5]
      rw [hR3]
      first | refine ⟨rfl, ?_⟩ | refine ⟨(), rfl, ?_⟩
      simp -implicitDefEqProofs only [go_sem, gi3, i3, c5]
  · clear hL3 hI3
    intro e s hr3
    rw [hR3] at hr3
    clear hR3
    rcases z3 with _ | r
    · try dsimp only at h hr3
      obtain ⟨rfl, gi8, i8⟩ := hr3
      cases h
      subst hQ
      simp -implicitDefEqProofs only [go_sem, gi8, i8, Try.results102]
    · try dsimp only at h hr3
      obtain ⟨rfl, hr3⟩ := hr3
      cases h
      try simp -implicitDefEqProofs only [go_sem]
      exact hr3 rfl
theorem m_slices_Contains_int_ev (a0 : List Int) (a1 : Int) (r0 : Bool) (h : m_slices_Contains_int a0 a1 = some r0) (d : Nat) (G : Heap) : Tel Try.prog TB d 72 [.p (.sl (a0.map cii64)), .p (.int .i64 a1)] G (.p (.bool r0)) (G) := by
  unfold m_slices_Contains_int at h
  refine Tel.intro mix Try.func72 rfl (Nat.le_of_ble_eq_true rfl) {frzAt := fun t => t == 7} (by kernel_rfl) (by kernel_rfl) ?_
  generalize hQ : callPost _ _ _ _ _ = Q
  obtain ⟨r1, hr1, h⟩ := bs h
  simp -implicitDefEqProofs only [go_sem]
  refine call_frz (r' := .p (.int .i64 r1)) (m_slices_Index_int_ev a0 a1 r1 hr1 (d + 1) empty) (by simp -implicitDefEqProofs only [go_sem]) rfl (by simp -implicitDefEqProofs only [go_sem]) (by simp -implicitDefEqProofs only [go_sem]) ?_ rfl rfl
  cases h
  subst hQ
  simp -implicitDefEqProofs only [go_sem, Try.results72]
theorem m_gauss_Solve_1_ev (a0 : TTerm) (r0 : Bool) (h : m_gauss_Solve_1 a0 = some r0) (d : Nat) (G : Heap) : Tel Try.prog TB d 62 [.agg ((cTTerm a0).map .p)] G (.p (.bool r0)) (G) := by
  unfold m_gauss_Solve_1 at h
  refine Tel.intro mix Try.func62 rfl (Nat.le_of_ble_eq_true rfl) {frzAt := fun t => t == 1 || t == 4} (by kernel_rfl) (by kernel_rfl) ?_
  generalize hQ : callPost _ _ _ _ _ = Q
  obtain ⟨r1, hr1, h⟩ := bs h
  simp -implicitDefEqProofs only [go_sem]
  refine call_frz (r' := .p (.bool r1)) (m_term_Right_ev a0 r1 hr1 (d + 1) empty) (by simp -implicitDefEqProofs only [go_sem]) rfl (by simp -implicitDefEqProofs only [go_sem]) (by simp -implicitDefEqProofs only [go_sem]) ?_ rfl rfl
  cases h
  subst hQ
  simp -implicitDefEqProofs only [go_sem, Try.results62]
theorem m_gauss_Solve_2_ev (a0 : TGauss_row) (a1 : TGauss_row) (r0 : Int) (h : m_gauss_Solve_2 a0 a1 = some r0) (d : Nat) (G : Heap) : Tel Try.prog TB d 65 [.agg ((cTGauss_row a0).map .p), .agg ((cTGauss_row a1).map .p)] G (.p (.int .i64 r0)) (G) := by
  unfold m_gauss_Solve_2 at h
  refine Tel.intro mix Try.func65 rfl (Nat.le_of_ble_eq_true rfl) {frzAt := fun t => t == 2 || t == 3} (by kernel_rfl) (by kernel_rfl) ?_
  generalize hQ : callPost _ _ _ _ _ = Q
  cases h
  subst hQ
  simp -implicitDefEqProofs only [go_sem, Try.results65]
theorem m_gauss_system_keep_ev (a0 : TGauss_system) (a1 : TTerm) (a2 : Int) (r0 : TTerm × TGauss_system) (h : m_gauss_system_keep a0 a1 a2 = some r0) (d : Nat) (G : Heap) (e0 t0 t0_0 : Nat) (he0 : e0 ≤ d) (hGt0 : G e0 t0 = [.box [arV ((a0.f0 : List TGauss_row).map cTGauss_row) (e0, t0_0, 0) 4, .p (.bool a0.f1)]]) (hGt0_0 : G e0 t0_0 = arO ((a0.f0 : List TGauss_row).map cTGauss_row)) (hnt0t0_0 : (t0 = t0_0) = False) (hnt0_0t0 : (t0_0 = t0) = False) : Tel Try.prog TB d 113 [.bp (e0, t0, 0) 0, .agg ((cTTerm a1).map .p), .p (.int .i64 a2)] G (.agg ((cTTerm r0.1).map .p)) (fillKey (fillKey (G) e0 t0 ([.box [arV ((r0.2.f0 : List TGauss_row).map cTGauss_row) (e0, t0_0, 0) 4, .p (.bool r0.2.f1)]])) e0 t0_0 (arO ((r0.2.f0 : List TGauss_row).map cTGauss_row))) := by
  unfold m_gauss_system_keep at h
  refine Tel.intro mix Try.func113 rfl (Nat.le_of_ble_eq_true rfl) {frzAt := fun t => t == 4} (by kernel_rfl) (by kernel_rfl) ?_
  have le0 : (e0 ≤ d + 1) = True := by simp; omega
  have qe0 : (e0 = d + 1) = False := by simp; omega
  have pe0 : (d + 1 = e0) = False := by simp; omega
  have wt0t0_0 := fk_swap (a := e0) (b := t0_0) (a' := e0) (b' := t0) (fun x => by rw [← hnt0_0t0]; exact x.2)
  refine gwp_heap (H' := fillKey (fillKey (cut d G) e0 t0 [.box [arV ((a0.f0 : List TGauss_row).map cTGauss_row) (e0, t0_0, 0) 4, .p (.bool a0.f1)]]) e0 t0_0 (arO ((a0.f0 : List TGauss_row).map cTGauss_row))) ?_ ?_
  · rw [fill_self (B := cut d G) (a := e0) (b := t0) (by rw [cut_app, if_pos he0]; exact hGt0), fill_self (B := cut d G) (a := e0) (b := t0_0) (by rw [cut_app, if_pos he0]; exact hGt0_0)]
  generalize hQ : callPost _ _ _ _ _ = Q
  rcases ib h with ⟨c1, h⟩ | ⟨c1, h⟩
  · cases h
    subst hQ
    simp -implicitDefEqProofs only [go_sem, he0, le0, qe0, pe0, hnt0t0_0, hnt0_0t0, wt0t0_0, c1, Try.results113]
  · cases h
    subst hQ
    simp -implicitDefEqProofs only [go_sem, he0, le0, qe0, pe0, hnt0t0_0, hnt0_0t0, wt0t0_0, c1, Try.results113]
theorem m_gauss_system_times_ev (a0 : TGauss_system) (a1 : TTerm) (a2 : TRat) (r0 : TTerm × TGauss_system) (h : m_gauss_system_times a0 a1 a2 = some r0) (d : Nat) (G : Heap) (e0 t0 t0_0 : Nat) (he0 : e0 ≤ d) (hGt0 : G e0 t0 = [.box [arV ((a0.f0 : List TGauss_row).map cTGauss_row) (e0, t0_0, 0) 4, .p (.bool a0.f1)]]) (hGt0_0 : G e0 t0_0 = arO ((a0.f0 : List TGauss_row).map cTGauss_row)) (hnt0t0_0 : (t0 = t0_0) = False) (hnt0_0t0 : (t0_0 = t0) = False) : Tel Try.prog TB d 112 [.bp (e0, t0, 0) 0, .agg ((cTTerm a1).map .p), .agg ((cTRat a2).map .p)] G (.agg ((cTTerm r0.1).map .p)) (fillKey (fillKey (G) e0 t0 ([.box [arV ((r0.2.f0 : List TGauss_row).map cTGauss_row) (e0, t0_0, 0) 4, .p (.bool r0.2.f1)]])) e0 t0_0 (arO ((r0.2.f0 : List TGauss_row).map cTGauss_row))) := by
  unfold m_gauss_system_times at h
  refine Tel.intro mix Try.func112 rfl (Nat.le_of_ble_eq_true rfl) {openAt := fun t => t == 13, frzAt := fun t => t == 4 || t == 5 || t == 10} (by kernel_rfl) (by kernel_rfl) ?_
  have le0 : (e0 ≤ d + 1) = True := by simp; omega
  have qe0 : (e0 = d + 1) = False := by simp; omega
  have pe0 : (d + 1 = e0) = False := by simp; omega
  have wt0t0_0 := fk_swap (a := e0) (b := t0_0) (a' := e0) (b' := t0) (fun x => by rw [← hnt0_0t0]; exact x.2)
  refine gwp_heap (H' := fillKey (fillKey (cut d G) e0 t0 [.box [arV ((a0.f0 : List TGauss_row).map cTGauss_row) (e0, t0_0, 0) 4, .p (.bool a0.f1)]]) e0 t0_0 (arO ((a0.f0 : List TGauss_row).map cTGauss_row))) ?_ ?_
  · rw [fill_self (B := cut d G) (a := e0) (b := t0) (by rw [cut_app, if_pos he0]; exact hGt0), fill_self (B := cut d G) (a := e0) (b := t0_0) (by rw [cut_app, if_pos he0]; exact hGt0_0)]
  generalize hQ : callPost _ _ _ _ _ = Q
  obtain ⟨r1, hr1, h⟩ := bs h
  simp -implicitDefEqProofs only [go_sem, he0, le0, qe0, pe0, hnt0t0_0, hnt0_0t0, wt0t0_0]
  refine call_frz (r' := .tup [.agg [.p (.sl (r1.1.f0.map cTRat)), .p (.int .i64 r1.1.f1.f0), .p (.int .i64 r1.1.f1.f1)], .p (.int .i64 r1.2)]) (m_term_Scale_ev a1 a2 r1 hr1 (d + 1) empty) (by simp -implicitDefEqProofs only [go_sem, he0, le0, qe0, pe0, hnt0t0_0, hnt0_0t0, wt0t0_0]) rfl (by simp -implicitDefEqProofs only [go_sem]) (by simp -implicitDefEqProofs only [go_sem]) ?_ rfl rfl
  obtain ⟨r2, hr2, h⟩ := bs h
  simp -implicitDefEqProofs only [go_sem, he0, le0, qe0, pe0, hnt0t0_0, hnt0_0t0, wt0t0_0]
  refine call_open0 (t0 := 999) (r := .agg [.p (.sl (r2.1.f0.map cTRat)), .p (.int .i64 r2.1.f1.f0), .p (.int .i64 r2.1.f1.f1)]) (m_gauss_system_keep_ev a0 r1.1 r1.2 r2 hr2 (d + 1) _ e0 t0 t0_0 (Nat.le_succ_of_le he0) (by simp -implicitDefEqProofs only [go_sem, he0, le0, qe0, pe0, hnt0t0_0, hnt0_0t0, wt0t0_0]) (by simp -implicitDefEqProofs only [go_sem, he0, le0, qe0, pe0, hnt0t0_0, hnt0_0t0, wt0t0_0]) hnt0t0_0 hnt0_0t0) (by simp -implicitDefEqProofs only [go_sem, he0, le0, qe0, pe0, hnt0t0_0, hnt0_0t0, wt0t0_0]) rfl (by simp -implicitDefEqProofs only [go_sem, he0, le0, qe0, pe0, hnt0t0_0, hnt0_0t0, wt0t0_0]) (by simp -implicitDefEqProofs only [go_sem, he0, le0, qe0, pe0, hnt0t0_0, hnt0_0t0, wt0t0_0]) (by simp -implicitDefEqProofs only [go_sem]) ?_
  have cl3 : (r2.2.f0).length = ((a0.f0 : List TGauss_row)).length := by have := len_keep hr2; (try simp only [List.length_set] at this); first | exact this | exact this.trans rfl
  have cv3 := arV_len (c := cTGauss_row) (κ := (e0, t0_0, 0)) (n := 4) cl3
  have ce3 := nil_len cl3
  cases h
  subst hQ
  simp -implicitDefEqProofs only [go_sem, he0, le0, qe0, pe0, hnt0t0_0, hnt0_0t0, wt0t0_0, cl3, cv3, ce3, Try.results112]
end Go.E
end
section
set_option linter.all false
set_option maxRecDepth 100000
namespace Go.E
open Go Go.Proofs Go.Eng
variable {TB : Nat → Option Obj}
theorem m_gauss_system_take_ev (a0 : TGauss_system) (a1 : Int) (a2 : Int) (r0 : TGauss_system) (h : m_gauss_system_take a0 a1 a2 = some r0) (d : Nat) (G : Heap) (e0 t0 t0_0 : Nat) (he0 : e0 ≤ d) (hGt0 : G e0 t0 = [.box [arV ((a0.f0 : List TGauss_row).map cTGauss_row) (e0, t0_0, 0) 4, .p (.bool a0.f1)]]) (hGt0_0 : G e0 t0_0 = arO ((a0.f0 : List TGauss_row).map cTGauss_row)) (hnt0t0_0 : (t0 = t0_0) = False) (hnt0_0t0 : (t0_0 = t0) = False) : Tel Try.prog TB d 96 [.bp (e0, t0, 0) 0, .p (.int .i64 a1), .p (.int .i64 a2)] G (.tup []) (fillKey (fillKey (G) e0 t0 ([.box [arV ((r0.f0 : List TGauss_row).map cTGauss_row) (e0, t0_0, 0) 4, .p (.bool r0.f1)]])) e0 t0_0 (arO ((r0.f0 : List TGauss_row).map cTGauss_row))) := by
  unfold m_gauss_system_take at h
  refine Tel.intro mix Try.func96 rfl (Nat.le_of_ble_eq_true rfl) {openAt := fun t => t == 49 || t == 95 || t == 113, drwAt := fun t => t == 49 || t == 113, frzAt := fun t => t == 24 || t == 25 || t == 72 || t == 110, also := fun t => if t = 49 then [8] else [], watch := fun t => if t = 113 then [103] else [], wkey := fun t => if t = 103 then some ((e0, t0, 0), 0) else none, boxAt := fun t => if t = 6 then some 6 else if t = 8 then some 8 else if t = 12 then some 12 else if t = 107 then some 10 else none, clean := fun r => if r = 5 then [10, 11, 12] else []} (by kernel_rfl) (by kernel_rfl) ?_
  have le0 : (e0 ≤ d + 1) = True := by simp; omega
  have qe0 : (e0 = d + 1) = False := by simp; omega
  have pe0 : (d + 1 = e0) = False := by simp; omega
  have wt0t0_0 := fk_swap (a := e0) (b := t0_0) (a' := e0) (b' := t0) (fun x => by rw [← hnt0_0t0]; exact x.2)
  refine gwp_heap (H' := fillKey (fillKey (cut d G) e0 t0 [.box [arV ((a0.f0 : List TGauss_row).map cTGauss_row) (e0, t0_0, 0) 4, .p (.bool a0.f1)]]) e0 t0_0 (arO ((a0.f0 : List TGauss_row).map cTGauss_row))) ?_ ?_
  · rw [fill_self (B := cut d G) (a := e0) (b := t0) (by rw [cut_app, if_pos he0]; exact hGt0), fill_self (B := cut d G) (a := e0) (b := t0_0) (by rw [cut_app, if_pos he0]; exact hGt0_0)]
  generalize hQ : callPost _ _ _ _ _ = Q
  obtain ⟨_, c1, h⟩ := bs h
  replace c1 := rqs c1
  obtain ⟨_, c2, h⟩ := bs h
  replace c2 := rqs c2
  have c3 := ne_of_idx c1 c2
  obtain ⟨v4, hv4, h⟩ := bs h
  replace hv4 := gis hv4
  obtain ⟨r5, hr5, h⟩ := bs h
  simp -implicitDefEqProofs only [go_sem, he0, le0, qe0, pe0, hnt0t0_0, hnt0_0t0, wt0t0_0, c1, c2, c3, hv4]
  refine call_frz (r' := .agg [.p (.int .i64 r5.f0), .p (.int .i64 r5.f1)]) (m_term_At_ev v4.f0 a2 r5 hr5 (d + 1) empty) (by simp -implicitDefEqProofs only [go_sem, he0, le0, qe0, pe0, hnt0t0_0, hnt0_0t0, wt0t0_0, c1, c2, c3, hv4]) rfl (by simp -implicitDefEqProofs only [go_sem]) (by simp -implicitDefEqProofs only [go_sem]) ?_ rfl rfl
  obtain ⟨r6, hr6, h⟩ := bs h
  simp -implicitDefEqProofs only [go_sem, he0, le0, qe0, pe0, hnt0t0_0, hnt0_0t0, wt0t0_0, c1, c2, c3, hv4]
  refine call_frz (r' := .tup [.agg [.p (.int .i64 r6.1.f0), .p (.int .i64 r6.1.f1)], .p (.int .i64 r6.2)]) (m_rat_Div_ev (⟨1, 1⟩ : TRat) r5 r6 hr6 (d + 1) empty) (by simp -implicitDefEqProofs only [go_sem, he0, le0, qe0, pe0, hnt0t0_0, hnt0_0t0, wt0t0_0, c1, c2, c3, hv4]) rfl (by simp -implicitDefEqProofs only [go_sem]) (by simp -implicitDefEqProofs only [go_sem]) ?_ rfl rfl
  simp -implicitDefEqProofs only [go_sem, he0, le0, qe0, pe0, hnt0t0_0, hnt0_0t0, wt0t0_0, c1, c2, c3, hv4]
  obtain ⟨v7, hz, h⟩ := bs h
  obtain ⟨R8, hR8⟩ : ∃ R : St → Prop, R = fun s => s.G = fillKey (fillKey (fillKey (cut d G) e0 t0 [.box [arV ((a0.f0 : List TGauss_row).map cTGauss_row) (e0, t0_0, 0) 4, .p (.bool v7)]]) e0 t0_0 (arO ((a0.f0 : List TGauss_row).map cTGauss_row))) (d + 1) 6 [.box [.p (.int .i64 r6.1.f0), .p (.int .i64 r6.1.f1)]] ∧ s.F 0 = .bp (e0, t0, 0) 0 ∧ s.F 1 = .p (.int .i64 a1) ∧ s.F 2 = .p (.int .i64 a2) ∧ s.F 6 = .bp (d + 1, 6, 0) 0 ∧ True := ⟨_, rfl⟩
  refine cutR R8 ?_ ?_
  · replace h := hz
    rcases ib h with ⟨c9, h⟩ | ⟨c9, h⟩
    · cases h
      simp -implicitDefEqProofs only [go_sem, he0, le0, qe0, pe0, hnt0t0_0, hnt0_0t0, wt0t0_0, c1, c2, c3, hv4, c9]
      rw [hR8]
      simp -implicitDefEqProofs only [go_sem, he0, le0, qe0, pe0, hnt0t0_0, hnt0_0t0, wt0t0_0, c1, c2, c3, hv4, c9]
    · cases h
      simp -implicitDefEqProofs only [go_sem, he0, le0, qe0, pe0, hnt0t0_0, hnt0_0t0, wt0t0_0, c1, c2, c3, hv4, c9]
      rw [hR8]
      simp -implicitDefEqProofs only [go_sem, he0, le0, qe0, pe0, hnt0t0_0, hnt0_0t0, wt0t0_0, c1, c2, c3, hv4, c9]
  · replace h := h; clear hz
    rintro s i
    rw [hR8] at i
    obtain ⟨gi10, i10⟩ := i
    clear hR8
    try dsimp only at h
    obtain ⟨r11, hr11, h⟩ := bs h
    simp -implicitDefEqProofs only [go_sem, he0, le0, qe0, pe0, hnt0t0_0, hnt0_0t0, wt0t0_0, c1, c2, c3, hv4, gi10, i10]
    have cl12 : (r11.2.f0).length = ((a0.f0 : List TGauss_row)).length := by have := len_times hr11; (try simp only [List.length_set] at this); first | exact this | exact this.trans rfl
    have cv12 := arV_len (c := cTGauss_row) (κ := (e0, t0_0, 0)) (n := 4) cl12
    have ce12 := nil_len cl12
    refine call_drwL (t0 := 999) (r := .agg [.p (.sl (r11.1.f0.map cTRat)), .p (.int .i64 r11.1.f1.f0), .p (.int .i64 r11.1.f1.f1)]) [(e0, t0, [.box [arV ((r11.2.f0 : List TGauss_row).map cTGauss_row) (e0, t0_0, 0) 4, .p (.bool r11.2.f1)]]), (e0, t0_0, arO ((r11.2.f0 : List TGauss_row).map cTGauss_row))] (fun H => m_gauss_system_times_ev (⟨a0.f0, v7⟩ : TGauss_system) v4.f0 r6.1 r11 hr11 (d + 1) _ e0 t0 t0_0 (Nat.le_succ_of_le he0) (by simp -implicitDefEqProofs only [go_sem, he0, le0, qe0, pe0, hnt0t0_0, hnt0_0t0, wt0t0_0, c1, c2, c3, hv4, gi10, i10]) (by simp -implicitDefEqProofs only [go_sem, he0, le0, qe0, pe0, hnt0t0_0, hnt0_0t0, wt0t0_0, c1, c2, c3, hv4, gi10, i10]) hnt0t0_0 hnt0_0t0) (by simp -implicitDefEqProofs only [go_sem, he0, le0, qe0, pe0, hnt0t0_0, hnt0_0t0, wt0t0_0, c1, c2, c3, hv4, gi10, i10, cl12, cv12, ce12]) rfl (by simp -implicitDefEqProofs only [go_sem, he0, le0, qe0, pe0, hnt0t0_0, hnt0_0t0, wt0t0_0, c1, c2, c3, hv4, gi10, i10, cl12, cv12, ce12]) (by simp -implicitDefEqProofs only [go_sem, he0, le0, qe0, pe0, hnt0t0_0, hnt0_0t0, wt0t0_0, c1, c2, c3, hv4, gi10, i10, cl12, cv12, ce12]) (by simp -implicitDefEqProofs only [go_sem]) (by simp -implicitDefEqProofs only [go_sem, he0, le0, qe0, pe0, hnt0t0_0, hnt0_0t0, wt0t0_0, c1, c2, c3, hv4, gi10, i10, cl12, cv12, ce12]) (by simp -implicitDefEqProofs only [go_sem, he0, le0, qe0, pe0, hnt0t0_0, hnt0_0t0, wt0t0_0, c1, c2, c3, hv4, gi10, i10, cl12, cv12, ce12]) (by simp -implicitDefEqProofs only [go_sem]) (by simp -implicitDefEqProofs only [go_sem]) ?_
    obtain ⟨v13, hv13, h⟩ := bs h
    replace hv13 := gis hv13
    simp -implicitDefEqProofs only [go_sem, he0, le0, qe0, pe0, hnt0t0_0, hnt0_0t0, wt0t0_0, c1, c2, c3, hv4, gi10, i10, cl12, cv12, ce12, hv13]
    obtain ⟨z20, hL20, h⟩ := bs h
    obtain ⟨I20, hI20⟩ : ∃ I : (Int × Bool × (List TGauss_row)) → St → Prop, I = fun a s => match a with | (v21, v22, v23) => s.G = fillKey (fillKey (fillKey (fillKey (cut d G) e0 t0 [.box [arV ((v23 : List TGauss_row).map cTGauss_row) (e0, t0_0, 0) 4, .p (.bool v22)]]) e0 t0_0 (arO ((v23 : List TGauss_row).map cTGauss_row))) (d + 1) 6 [.box [.p (.int .i64 r6.1.f0), .p (.int .i64 r6.1.f1)]]) (d + 1) 8 [.box [.p (.sl (r11.1.f0.map cTRat)), .p (.int .i64 r11.1.f1.f0), .p (.int .i64 r11.1.f1.f1)]] ∧ s.F 0 = .bp (e0, t0, 0) 0 ∧ s.F 1 = .p (.int .i64 a1) ∧ s.F 2 = .p (.int .i64 a2) ∧ s.F 8 = .bp (d + 1, 8, 0) 0 ∧ s.F 62 = arV ((v23 : List TGauss_row).map cTGauss_row) (e0, t0_0, 0) 4 ∧ s.F 63 = .p (.int .i64 (a0.f0.length : Int)) ∧ s.F 64 = .p (.int .i64 v21) ∧ True := ⟨_, rfl⟩
    obtain ⟨R20, hR20⟩ : ∃ R : (Bool × (List TGauss_row)) → GE → St → Prop, R = fun x e s => match x with | (v24, v25) => e = .exit 0 ∧ s.G = fillKey (fillKey (fillKey (fillKey (cut d G) e0 t0 [.box [arV ((v25 : List TGauss_row).map cTGauss_row) (e0, t0_0, 0) 4, .p (.bool v24)]]) e0 t0_0 (arO ((v25 : List TGauss_row).map cTGauss_row))) (d + 1) 6 [.box [.p (.int .i64 r6.1.f0), .p (.int .i64 r6.1.f1)]]) (d + 1) 8 [.box [.p (.sl (r11.1.f0.map cTRat)), .p (.int .i64 r11.1.f1.f0), .p (.int .i64 r11.1.f1.f1)]] ∧ True := ⟨_, rfl⟩
    refine lp (ts := [10, 11, 12]) rfl hL20 I20 R20 ?_ ?_ ?_
    · rw [hI20]
      simp -implicitDefEqProofs only [go_sem, he0, le0, qe0, pe0, hnt0t0_0, hnt0_0t0, wt0t0_0, c1, c2, c3, hv4, gi10, i10, cl12, cv12, ce12, hv13]
    · clear h hL20
      rintro ⟨v21, v22, v23⟩ y s h i
      rw [hI20] at i
      obtain ⟨gi20, i20⟩ := i
      replace h : m_gauss_system_take_L0 a0 a2 a1 r11 (v21, v22, v23) = some y := h
      unfold m_gauss_system_take_L0 at h
      rcases ib h with ⟨c26, h⟩ | ⟨c26, h⟩
      · obtain ⟨_, c27, h⟩ := bs h
        replace c27 := rqs c27
        obtain ⟨_, c28, h⟩ := bs h
        replace c28 := rqs c28
        have c29 := ne_of_idx c27 c28
        obtain ⟨v30, hv30, h⟩ := bs h
        replace hv30 := gis hv30
        obtain ⟨r31, hr31, h⟩ := bs h
        simp -implicitDefEqProofs only [go_sem, he0, le0, qe0, pe0, hnt0t0_0, hnt0_0t0, wt0t0_0, c1, c2, c3, hv4, gi10, i10, cl12, cv12, ce12, hv13, gi20, i20, c26, c27, c28, c29, hv30]
        refine call_frz (r' := .agg [.p (.int .i64 r31.f0), .p (.int .i64 r31.f1)]) (m_term_At_ev v30.f0 a2 r31 hr31 (d + 1) empty) (by simp -implicitDefEqProofs only [go_sem, he0, le0, qe0, pe0, hnt0t0_0, hnt0_0t0, wt0t0_0, c1, c2, c3, hv4, gi10, i10, cl12, cv12, ce12, hv13, gi20, i20, c26, c27, c28, c29, hv30]) rfl (by simp -implicitDefEqProofs only [go_sem]) (by simp -implicitDefEqProofs only [go_sem]) ?_ rfl rfl
        simp -implicitDefEqProofs only [go_sem, he0, le0, qe0, pe0, hnt0t0_0, hnt0_0t0, wt0t0_0, c1, c2, c3, hv4, gi10, i10, cl12, cv12, ce12, hv13, gi20, i20, c26, c27, c28, c29, hv30]
        obtain ⟨v32, hz, h⟩ := bs h
        obtain ⟨R33, hR33⟩ : ∃ R : St → Prop, R = fun s => s.G = fillKey (fillKey (fillKey (fillKey (fillKey (fillKey (cut d G) e0 t0 [.box [arV ((v23 : List TGauss_row).map cTGauss_row) (e0, t0_0, 0) 4, .p (.bool v22)]]) e0 t0_0 (arO ((v23 : List TGauss_row).map cTGauss_row))) (d + 1) 6 [.box [.p (.int .i64 r6.1.f0), .p (.int .i64 r6.1.f1)]]) (d + 1) 8 [.box [.p (.sl (r11.1.f0.map cTRat)), .p (.int .i64 r11.1.f1.f0), .p (.int .i64 r11.1.f1.f1)]]) (d + 1) 10 [.box [.p (.sl (v30.f0.f0.map cTRat)), .p (.int .i64 v30.f0.f1.f0), .p (.int .i64 v30.f0.f1.f1), .p (.int .i64 v30.f1)]]) (d + 1) 11 [.box [.p (.int .i64 r31.f0), .p (.int .i64 r31.f1)]] ∧ s.F 0 = .bp (e0, t0, 0) 0 ∧ s.F 1 = .p (.int .i64 a1) ∧ s.F 2 = .p (.int .i64 a2) ∧ s.F 8 = .bp (d + 1, 8, 0) 0 ∧ s.F 9 = .p (.int .i64 v21) ∧ s.F 10 = .bp (d + 1, 10, 0) 0 ∧ s.F 11 = .bp (d + 1, 11, 0) 0 ∧ s.F 62 = arV ((v23 : List TGauss_row).map cTGauss_row) (e0, t0_0, 0) 4 ∧ s.F 63 = .p (.int .i64 (a0.f0.length : Int)) ∧ s.F 64 = .p (.int .i64 v21) ∧ s.F 86 = .p (.bool v32) ∧ True := ⟨_, rfl⟩
        refine cutR R33 ?_ ?_
        · replace h := hz
          rcases ib h with ⟨c34, h⟩ | ⟨c34, h⟩
          · cases h
            simp -implicitDefEqProofs only [go_sem, he0, le0, qe0, pe0, hnt0t0_0, hnt0_0t0, wt0t0_0, c1, c2, c3, hv4, gi10, i10, cl12, cv12, ce12, hv13, gi20, i20, c26, c27, c28, c29, hv30, c34]
            rw [hR33]
            simp -implicitDefEqProofs only [go_sem, he0, le0, qe0, pe0, hnt0t0_0, hnt0_0t0, wt0t0_0, c1, c2, c3, hv4, gi10, i10, cl12, cv12, ce12, hv13, gi20, i20, c26, c27, c28, c29, hv30, c34]
          · rcases ib h with ⟨c35, h⟩ | ⟨c35, h⟩
            · cases h
              simp -implicitDefEqProofs only [go_sem, he0, le0, qe0, pe0, hnt0t0_0, hnt0_0t0, wt0t0_0, c1, c2, c3, hv4, gi10, i10, cl12, cv12, ce12, hv13, gi20, i20, c26, c27, c28, c29, hv30, c34, c35]
              rw [hR33]
              simp -implicitDefEqProofs only [go_sem, he0, le0, qe0, pe0, hnt0t0_0, hnt0_0t0, wt0t0_0, c1, c2, c3, hv4, gi10, i10, cl12, cv12, ce12, hv13, gi20, i20, c26, c27, c28, c29, hv30, c34, c35]
            · cases h
              simp -implicitDefEqProofs only [go_sem, he0, le0, qe0, pe0, hnt0t0_0, hnt0_0t0, wt0t0_0, c1, c2, c3, hv4, gi10, i10, cl12, cv12, ce12, hv13, gi20, i20, c26, c27, c28, c29, hv30, c34, c35]
              rw [hR33]
              simp -implicitDefEqProofs only [go_sem, he0, le0, qe0, pe0, hnt0t0_0, hnt0_0t0, wt0t0_0, c1, c2, c3, hv4, gi10, i10, cl12, cv12, ce12, hv13, gi20, i20, c26, c27, c28, c29, hv30, c34, c35]
        · replace h := h; clear hz
          rintro s i
          rw [hR33] at i
          obtain ⟨gi36, i36⟩ := i
          clear hR33
          try dsimp only at h
          rcases ib h with ⟨c37, h⟩ | ⟨c37, h⟩
          · cases h
            simp -implicitDefEqProofs only [go_sem, he0, le0, qe0, pe0, hnt0t0_0, hnt0_0t0, wt0t0_0, c1, c2, c3, hv4, gi10, i10, cl12, cv12, ce12, hv13, gi20, i20, c26, c27, c28, c29, hv30, gi36, i36, c37]
            rw [hI20]
            simp -implicitDefEqProofs only [go_sem, he0, le0, qe0, pe0, hnt0t0_0, hnt0_0t0, wt0t0_0, c1, c2, c3, hv4, gi10, i10, cl12, cv12, ce12, hv13, gi20, i20, c26, c27, c28, c29, hv30, gi36, i36, c37]
          · obtain ⟨r38, hr38, h⟩ := bs h
            simp -implicitDefEqProofs only [go_sem, he0, le0, qe0, pe0, hnt0t0_0, hnt0_0t0, wt0t0_0, c1, c2, c3, hv4, gi10, i10, cl12, cv12, ce12, hv13, gi20, i20, c26, c27, c28, c29, hv30, gi36, i36, c37]
            refine call_open0 (t0 := 999) (r := .agg [.p (.sl (r38.1.f0.map cTRat)), .p (.int .i64 r38.1.f1.f0), .p (.int .i64 r38.1.f1.f1)]) (m_gauss_system_times_ev (⟨v23, v22⟩ : TGauss_system) r11.1 (⟨IntKind.wrap .i64 (0 - r31.f0), r31.f1⟩ : TRat) r38 hr38 (d + 1) _ e0 t0 t0_0 (Nat.le_succ_of_le he0) (by simp -implicitDefEqProofs only [go_sem, he0, le0, qe0, pe0, hnt0t0_0, hnt0_0t0, wt0t0_0, c1, c2, c3, hv4, gi10, i10, cl12, cv12, ce12, hv13, gi20, i20, c26, c27, c28, c29, hv30, gi36, i36, c37]) (by simp -implicitDefEqProofs only [go_sem, he0, le0, qe0, pe0, hnt0t0_0, hnt0_0t0, wt0t0_0, c1, c2, c3, hv4, gi10, i10, cl12, cv12, ce12, hv13, gi20, i20, c26, c27, c28, c29, hv30, gi36, i36, c37]) hnt0t0_0 hnt0_0t0) (by simp -implicitDefEqProofs only [go_sem, he0, le0, qe0, pe0, hnt0t0_0, hnt0_0t0, wt0t0_0, c1, c2, c3, hv4, gi10, i10, cl12, cv12, ce12, hv13, gi20, i20, c26, c27, c28, c29, hv30, gi36, i36, c37]) rfl (by simp -implicitDefEqProofs only [go_sem, he0, le0, qe0, pe0, hnt0t0_0, hnt0_0t0, wt0t0_0, c1, c2, c3, hv4, gi10, i10, cl12, cv12, ce12, hv13, gi20, i20, c26, c27, c28, c29, hv30, gi36, i36, c37]) (by simp -implicitDefEqProofs only [go_sem, he0, le0, qe0, pe0, hnt0t0_0, hnt0_0t0, wt0t0_0, c1, c2, c3, hv4, gi10, i10, cl12, cv12, ce12, hv13, gi20, i20, c26, c27, c28, c29, hv30, gi36, i36, c37]) (by simp -implicitDefEqProofs only [go_sem]) ?_
            have cl39 : (r38.2.f0).length = ((v23 : List TGauss_row)).length := by have := len_times hr38; (try simp only [List.length_set] at this); first | exact this | exact this.trans rfl
            have cv39 := arV_len (c := cTGauss_row) (κ := (e0, t0_0, 0)) (n := 4) cl39
            have ce39 := nil_len cl39
            simp -implicitDefEqProofs only [go_sem, he0, le0, qe0, pe0, hnt0t0_0, hnt0_0t0, wt0t0_0, c1, c2, c3, hv4, gi10, i10, cl12, cv12, ce12, hv13, gi20, i20, c26, c27, c28, c29, hv30, gi36, i36, c37, cl39, cv39, ce39]
            obtain ⟨⟨v40, v41⟩, hz, h⟩ := bs h
            obtain ⟨R42, hR42⟩ : ∃ R : St → Prop, R = fun s => s.G = fillKey (fillKey (fillKey (fillKey (fillKey (fillKey (fillKey (cut d G) e0 t0 [.box [arV ((v41 : List TGauss_row).map cTGauss_row) (e0, t0_0, 0) 4, .p (.bool v40)]]) e0 t0_0 (arO ((v41 : List TGauss_row).map cTGauss_row))) (d + 1) 6 [.box [.p (.int .i64 r6.1.f0), .p (.int .i64 r6.1.f1)]]) (d + 1) 8 [.box [.p (.sl (r11.1.f0.map cTRat)), .p (.int .i64 r11.1.f1.f0), .p (.int .i64 r11.1.f1.f1)]]) (d + 1) 10 [.box [.p (.sl (v30.f0.f0.map cTRat)), .p (.int .i64 v30.f0.f1.f0), .p (.int .i64 v30.f0.f1.f1), .p (.int .i64 v30.f1)]]) (d + 1) 11 [.box [.p (.int .i64 r31.f0), .p (.int .i64 r31.f1)]]) (d + 1) 12 [.box [.p (.sl (r38.1.f0.map cTRat)), .p (.int .i64 r38.1.f1.f0), .p (.int .i64 r38.1.f1.f1)]] ∧ s.F 0 = .bp (e0, t0, 0) 0 ∧ s.F 1 = .p (.int .i64 a1) ∧ s.F 2 = .p (.int .i64 a2) ∧ s.F 8 = .bp (d + 1, 8, 0) 0 ∧ s.F 62 = arV ((v41 : List TGauss_row).map cTGauss_row) (e0, t0_0, 0) 4 ∧ s.F 63 = .p (.int .i64 (a0.f0.length : Int)) ∧ s.F 64 = .p (.int .i64 v21) ∧ True := ⟨_, rfl⟩
            refine cutG R42 ?_ ?_
            · replace h := hz
              rcases ib h with ⟨c43, h⟩ | ⟨c43, h⟩
              · obtain ⟨r44, hr44, h⟩ := bs h
                simp -implicitDefEqProofs only [go_sem, he0, le0, qe0, pe0, hnt0t0_0, hnt0_0t0, wt0t0_0, c1, c2, c3, hv4, gi10, i10, cl12, cv12, ce12, hv13, gi20, i20, c26, c27, c28, c29, hv30, gi36, i36, c37, cl39, cv39, ce39, c43]
                refine call_frz (r' := .tup [.agg [.p (.sl (r44.1.f0.map cTRat)), .p (.int .i64 r44.1.f1.f0), .p (.int .i64 r44.1.f1.f1)], .p (.int .i64 r44.2)]) (m_term_Add_ev v30.f0 r38.1 r44 hr44 (d + 1) empty) (by simp -implicitDefEqProofs only [go_sem, he0, le0, qe0, pe0, hnt0t0_0, hnt0_0t0, wt0t0_0, c1, c2, c3, hv4, gi10, i10, cl12, cv12, ce12, hv13, gi20, i20, c26, c27, c28, c29, hv30, gi36, i36, c37, cl39, cv39, ce39, c43]) rfl (by simp -implicitDefEqProofs only [go_sem]) (by simp -implicitDefEqProofs only [go_sem]) ?_ rfl rfl
                obtain ⟨r45, hr45, h⟩ := bs h
                simp -implicitDefEqProofs only [go_sem, he0, le0, qe0, pe0, hnt0t0_0, hnt0_0t0, wt0t0_0, c1, c2, c3, hv4, gi10, i10, cl12, cv12, ce12, hv13, gi20, i20, c26, c27, c28, c29, hv30, gi36, i36, c37, cl39, cv39, ce39, c43]
                have cl46 : (r45.2.f0).length = ((v23 : List TGauss_row)).length := by have := len_keep hr45; (try simp only [List.length_set] at this); first | exact this | exact this.trans cl39
                have cv46 := arV_len (c := cTGauss_row) (κ := (e0, t0_0, 0)) (n := 4) cl46
                have ce46 := nil_len cl46
                refine call_drwL (t0 := 999) (r := .agg [.p (.sl (r45.1.f0.map cTRat)), .p (.int .i64 r45.1.f1.f0), .p (.int .i64 r45.1.f1.f1)]) [(e0, t0, [.box [arV ((r45.2.f0 : List TGauss_row).map cTGauss_row) (e0, t0_0, 0) 4, .p (.bool r45.2.f1)]]), (e0, t0_0, arO ((r45.2.f0 : List TGauss_row).map cTGauss_row))] (fun H => m_gauss_system_keep_ev r38.2 r44.1 r44.2 r45 hr45 (d + 1) _ e0 t0 t0_0 (Nat.le_succ_of_le he0) (by simp -implicitDefEqProofs only [go_sem, he0, le0, qe0, pe0, hnt0t0_0, hnt0_0t0, wt0t0_0, c1, c2, c3, hv4, gi10, i10, cl12, cv12, ce12, hv13, gi20, i20, c26, c27, c28, c29, hv30, gi36, i36, c37, cl39, cv39, ce39, c43]) (by simp -implicitDefEqProofs only [go_sem, he0, le0, qe0, pe0, hnt0t0_0, hnt0_0t0, wt0t0_0, c1, c2, c3, hv4, gi10, i10, cl12, cv12, ce12, hv13, gi20, i20, c26, c27, c28, c29, hv30, gi36, i36, c37, cl39, cv39, ce39, c43]) hnt0t0_0 hnt0_0t0) (by simp -implicitDefEqProofs only [go_sem, he0, le0, qe0, pe0, hnt0t0_0, hnt0_0t0, wt0t0_0, c1, c2, c3, hv4, gi10, i10, cl12, cv12, ce12, hv13, gi20, i20, c26, c27, c28, c29, hv30, gi36, i36, c37, cl39, cv39, ce39, c43, cl46, cv46, ce46]) rfl (by simp -implicitDefEqProofs only [go_sem, he0, le0, qe0, pe0, hnt0t0_0, hnt0_0t0, wt0t0_0, c1, c2, c3, hv4, gi10, i10, cl12, cv12, ce12, hv13, gi20, i20, c26, c27, c28, c29, hv30, gi36, i36, c37, cl39, cv39, ce39, c43, cl46, cv46, ce46]) (by simp -implicitDefEqProofs only [go_sem, he0, le0, qe0, pe0, hnt0t0_0, hnt0_0t0, wt0t0_0, c1, c2, c3, hv4, gi10, i10, cl12, cv12, ce12, hv13, gi20, i20, c26, c27, c28, c29, hv30, gi36, i36, c37, cl39, cv39, ce39, c43, cl46, cv46, ce46]) (by simp -implicitDefEqProofs only [go_sem]) (by simp -implicitDefEqProofs only [go_sem, he0, le0, qe0, pe0, hnt0t0_0, hnt0_0t0, wt0t0_0, c1, c2, c3, hv4, gi10, i10, cl12, cv12, ce12, hv13, gi20, i20, c26, c27, c28, c29, hv30, gi36, i36, c37, cl39, cv39, ce39, c43, cl46, cv46, ce46]) (by simp -implicitDefEqProofs only [go_sem, he0, le0, qe0, pe0, hnt0t0_0, hnt0_0t0, wt0t0_0, c1, c2, c3, hv4, gi10, i10, cl12, cv12, ce12, hv13, gi20, i20, c26, c27, c28, c29, hv30, gi36, i36, c37, cl39, cv39, ce39, c43, cl46, cv46, ce46]) (fun x hx => by simp only [go_sem, reduceIte, Nat.reduceEqDiff, List.mem_cons, List.not_mem_nil, or_false] at hx; rcases hx with rfl <;> first | exact ⟨(e0, t0, 0), 0, rfl, by simp -implicitDefEqProofs only [go_sem, he0, le0, qe0, pe0, hnt0t0_0, hnt0_0t0, wt0t0_0, c1, c2, c3, hv4, gi10, i10, cl12, cv12, ce12, hv13, gi20, i20, c26, c27, c28, c29, hv30, gi36, i36, c37, cl39, cv39, ce39, c43, cl46, cv46, ce46], [arV ((r38.2.f0 : List TGauss_row).map cTGauss_row) (e0, t0_0, 0) 4, .p (.bool r38.2.f1)], [arV ((r45.2.f0 : List TGauss_row).map cTGauss_row) (e0, t0_0, 0) 4, .p (.bool r45.2.f1)], by simp -implicitDefEqProofs only [go_sem, he0, le0, qe0, pe0, hnt0t0_0, hnt0_0t0, wt0t0_0, c1, c2, c3, hv4, gi10, i10, cl12, cv12, ce12, hv13, gi20, i20, c26, c27, c28, c29, hv30, gi36, i36, c37, cl39, cv39, ce39, c43, cl46, cv46, ce46], by simp -implicitDefEqProofs only [go_sem, he0, le0, qe0, pe0, hnt0t0_0, hnt0_0t0, wt0t0_0, c1, c2, c3, hv4, gi10, i10, cl12, cv12, ce12, hv13, gi20, i20, c26, c27, c28, c29, hv30, gi36, i36, c37, cl39, cv39, ce39, c43, cl46, cv46, ce46], by simp -implicitDefEqProofs only [go_sem, he0, le0, qe0, pe0, hnt0t0_0, hnt0_0t0, wt0t0_0, c1, c2, c3, hv4, gi10, i10, cl12, cv12, ce12, hv13, gi20, i20, c26, c27, c28, c29, hv30, gi36, i36, c37, cl39, cv39, ce39, c43, cl46, cv46, ce46]⟩) (by simp -implicitDefEqProofs only [go_sem]) ?_
                obtain ⟨v47, hv47, h⟩ := bs h
                replace hv47 := gis hv47
                cases h
                simp -implicitDefEqProofs only [go_sem, he0, le0, qe0, pe0, hnt0t0_0, hnt0_0t0, wt0t0_0, c1, c2, c3, hv4, gi10, i10, cl12, cv12, ce12, hv13, gi20, i20, c26, c27, c28, c29, hv30, gi36, i36, c37, cl39, cv39, ce39, c43, cl46, cv46, ce46, hv47]
                rw [hR42]
                simp -implicitDefEqProofs only [go_sem, he0, le0, qe0, pe0, hnt0t0_0, hnt0_0t0, wt0t0_0, c1, c2, c3, hv4, gi10, i10, cl12, cv12, ce12, hv13, gi20, i20, c26, c27, c28, c29, hv30, gi36, i36, c37, cl39, cv39, ce39, c43, cl46, cv46, ce46, hv47]
              · cases h
                simp -implicitDefEqProofs only [go_sem, he0, le0, qe0, pe0, hnt0t0_0, hnt0_0t0, wt0t0_0, c1, c2, c3, hv4, gi10, i10, cl12, cv12, ce12, hv13, gi20, i20, c26, c27, c28, c29, hv30, gi36, i36, c37, cl39, cv39, ce39, c43]
                rw [hR42]
                simp -implicitDefEqProofs only [go_sem, he0, le0, qe0, pe0, hnt0t0_0, hnt0_0t0, wt0t0_0, c1, c2, c3, hv4, gi10, i10, cl12, cv12, ce12, hv13, gi20, i20, c26, c27, c28, c29, hv30, gi36, i36, c37, cl39, cv39, ce39, c43]
            · replace h := h; clear hz
              rintro s i
              rw [hR42] at i
              obtain ⟨gi48, i48⟩ := i
              clear hR42
              try dsimp only at h
              cases h
              simp -implicitDefEqProofs only [go_sem, he0, le0, qe0, pe0, hnt0t0_0, hnt0_0t0, wt0t0_0, c1, c2, c3, hv4, gi10, i10, cl12, cv12, ce12, hv13, gi20, i20, c26, c27, c28, c29, hv30, gi36, i36, c37, cl39, cv39, ce39, gi48, i48]
              rw [hI20]
              simp -implicitDefEqProofs only [go_sem, he0, le0, qe0, pe0, hnt0t0_0, hnt0_0t0, wt0t0_0, c1, c2, c3, hv4, gi10, i10, cl12, cv12, ce12, hv13, gi20, i20, c26, c27, c28, c29, hv30, gi36, i36, c37, cl39, cv39, ce39, gi48, i48]
      · cases h
        simp -implicitDefEqProofs only [go_sem, he0, le0, qe0, pe0, hnt0t0_0, hnt0_0t0, wt0t0_0, c1, c2, c3, hv4, gi10, i10, cl12, cv12, ce12, hv13, gi20, i20, c26]
        rw [hR20]
        first | refine ⟨rfl, ?_⟩ | refine ⟨(), rfl, ?_⟩
        simp -implicitDefEqProofs only [go_sem, he0, le0, qe0, pe0, hnt0t0_0, hnt0_0t0, wt0t0_0, c1, c2, c3, hv4, gi10, i10, cl12, cv12, ce12, hv13, gi20, i20, c26]
    · clear hL20 hI20
      intro e s hr20
      rw [hR20] at hr20
      clear hR20
      rcases z20 with ⟨v24, v25⟩
      try dsimp only at h hr20
      obtain ⟨rfl, gi49, i49⟩ := hr20
      cases h
      subst hQ
      simp -implicitDefEqProofs only [go_sem, he0, le0, qe0, pe0, hnt0t0_0, hnt0_0t0, wt0t0_0, c1, c2, c3, hv4, gi10, i10, cl12, cv12, ce12, hv13, gi49, i49, Try.results96]
theorem m_slices_IndexFunc_gauss_row_ev (a0 : List TGauss_row) (a1 : (TGauss_row → Option Bool)) (n1 : FuncId) (q1 : List GV) (hc1 : closeds q1) (hf1 : ∀ x0 r, a1 x0 = some r → ∀ d, Tel Try.prog TB d n1 ([.agg ((cTGauss_row x0).map .p)] ++ q1) empty (.p (.bool r)) empty) (r0 : Int) (h : m_slices_IndexFunc_gauss_row a0 a1 = some r0) (d : Nat) (G : Heap) : Tel Try.prog TB d 94 [.p (.sl (a0.map cTGauss_row)), .fn n1 q1] G (.p (.int .i64 r0)) (G) := by
  unfold m_slices_IndexFunc_gauss_row at h
  refine Tel.intro mix Try.func94 rfl (Nat.le_of_ble_eq_true rfl) {frzAt := fun t => t == 16} (by kernel_rfl) (by kernel_rfl) ?_
  generalize hQ : callPost _ _ _ _ _ = Q
  simp -implicitDefEqProofs only [go_sem]
  obtain ⟨z3, hL3, h⟩ := bs h
  obtain ⟨I3, hI3⟩ : ∃ I : Int → St → Prop, I = fun v4 s => s.G = cut d G ∧ s.F 0 = .p (.sl (a0.map cTGauss_row)) ∧ s.F 1 = .fn n1 q1 ∧ s.F 7 = .p (.int .i64 (a0.length : Int)) ∧ s.F 8 = .p (.int .i64 v4) ∧ True := ⟨_, rfl⟩
  obtain ⟨R3, hR3⟩ : ∃ R : ((Unit) ⊕ (Int)) → GE → St → Prop, R = fun x e s => match x with | .inl _ => e = .exit 0 ∧ s.G = cut d G ∧ True | .inr r => e = .ret ∧ (r = r0 → Q .ret s) := ⟨_, rfl⟩
  refine lp (ts := []) rfl hL3 I3 R3 ?_ ?_ ?_
  · rw [hI3]
    simp -implicitDefEqProofs only [go_sem]
  · clear h hL3
    rintro v4 y s h i
    rw [hI3] at i
    obtain ⟨gi3, i3⟩ := i
    replace h : m_slices_IndexFunc_gauss_row_L0 a0 a1 (v4) = some y := h
    unfold m_slices_IndexFunc_gauss_row_L0 at h
    rcases ib h with ⟨c5, h⟩ | ⟨c5, h⟩
    · obtain ⟨v6, hv6, h⟩ := bs h
      replace hv6 := gis hv6
      obtain ⟨r7, hr7, h⟩ := bs h
      simp -implicitDefEqProofs only [go_sem, gi3, i3, c5, hv6]
      refine call_frz (r' := .p (.bool r7)) (hf1 v6 r7 hr7 (d + 1)) (by simp -implicitDefEqProofs only [go_sem, gi3, i3, c5, hv6]) rfl (by simp -implicitDefEqProofs only [go_sem, hc1]) (by simp -implicitDefEqProofs only [go_sem]) ?_ rfl rfl
      rcases ib h with ⟨c8, h⟩ | ⟨c8, h⟩
      · cases h
        simp -implicitDefEqProofs only [go_sem, gi3, i3, c5, hv6, c8]
        rw [hR3]
        refine ⟨rfl, ?_⟩
        intro hr
        subst hr
        subst hQ
        simp -implicitDefEqProofs only [go_sem, gi3, i3, c5, hv6, c8, Try.results94]
      · cases h
        simp -implicitDefEqProofs only [go_sem, gi3, i3, c5, hv6, c8]
        rw [hI3]
        simp -implicitDefEqProofs only [go_sem, gi3, i3, c5, hv6, c8]
    · cases h
      simp -implicitDefEqProofs only [go_sem, gi3, i3, c5]
      rw [hR3]
      first | refine ⟨rfl, ?_⟩ | refine ⟨(), rfl, ?_⟩
      simp -implicitDefEqProofs only [go_sem, gi3, i3, c5]
  · clear hL3 hI3
    intro e s hr3
    rw [hR3] at hr3
    clear hR3
    rcases z3 with _ | r
    · try dsimp only at h hr3
      obtain ⟨rfl, gi9, i9⟩ := hr3
      cases h
      subst hQ
      simp -implicitDefEqProofs only [go_sem, gi9, i9, Try.results94]
    · try dsimp only at h hr3
      obtain ⟨rfl, hr3⟩ := hr3
      cases h
      try simp -implicitDefEqProofs only [go_sem]
      exact hr3 rfl
theorem m_gauss_system_solve_1_ev (a0 : TGauss_row) (u0 : Int) (r0 : Bool) (h : m_gauss_system_solve_1 a0 u0 = some r0) (d : Nat) (G : Heap) : Tel Try.prog TB d 95 [.agg ((cTGauss_row a0).map .p), .ep (cii64 u0) 0] G (.p (.bool r0)) (G) := by
  unfold m_gauss_system_solve_1 at h
  refine Tel.intro mix Try.func95 rfl (Nat.le_of_ble_eq_true rfl) {frzAt := fun t => t == 2 || t == 11} (by kernel_rfl) (by kernel_rfl) ?_
  generalize hQ : callPost _ _ _ _ _ = Q
  rcases ib h with ⟨c1, h⟩ | ⟨c1, h⟩
  · obtain ⟨r2, hr2, h⟩ := bs h
    simp -implicitDefEqProofs only [go_sem, c1]
    refine call_frz (r' := .agg [.p (.int .i64 r2.f0), .p (.int .i64 r2.f1)]) (m_term_At_ev a0.f0 u0 r2 hr2 (d + 1) empty) (by simp -implicitDefEqProofs only [go_sem, c1]) rfl (by simp -implicitDefEqProofs only [go_sem]) (by simp -implicitDefEqProofs only [go_sem]) ?_ rfl rfl
    cases h
    subst hQ
    simp -implicitDefEqProofs only [go_sem, c1, Try.results95]
  · cases h
    subst hQ
    simp -implicitDefEqProofs only [go_sem, c1, Try.results95]
theorem m_gauss_system_solve_ev (a0 : TGauss_system) (r0 : TGauss_system) (h : m_gauss_system_solve a0 = some r0) (d : Nat) (G : Heap) (e0 t0 t0_0 : Nat) (he0 : e0 ≤ d) (hGt0 : G e0 t0 = [.box [arV ((a0.f0 : List TGauss_row).map cTGauss_row) (e0, t0_0, 0) 4, .p (.bool a0.f1)]]) (hGt0_0 : G e0 t0_0 = arO ((a0.f0 : List TGauss_row).map cTGauss_row)) (hnt0t0_0 : (t0 = t0_0) = False) (hnt0_0t0 : (t0_0 = t0) = False) : Tel Try.prog TB d 63 [.bp (e0, t0, 0) 0] G (.tup []) (fillKey (fillKey (G) e0 t0 ([.box [arV ((r0.f0 : List TGauss_row).map cTGauss_row) (e0, t0_0, 0) 4, .p (.bool r0.f1)]])) e0 t0_0 (arO ((r0.f0 : List TGauss_row).map cTGauss_row))) := by
  unfold m_gauss_system_solve at h
  refine Tel.intro mix Try.func63 rfl (Nat.le_of_ble_eq_true rfl) {openAt := fun t => t == 25, borAt := fun t => t == 12, clean := fun r => if r = 1 then [2] else []} (by kernel_rfl) (by kernel_rfl) ?_
  have le0 : (e0 ≤ d + 1) = True := by simp; omega
  have qe0 : (e0 = d + 1) = False := by simp; omega
  have pe0 : (d + 1 = e0) = False := by simp; omega
  have wt0t0_0 := fk_swap (a := e0) (b := t0_0) (a' := e0) (b' := t0) (fun x => by rw [← hnt0_0t0]; exact x.2)
  refine gwp_heap (H' := fillKey (fillKey (cut d G) e0 t0 [.box [arV ((a0.f0 : List TGauss_row).map cTGauss_row) (e0, t0_0, 0) 4, .p (.bool a0.f1)]]) e0 t0_0 (arO ((a0.f0 : List TGauss_row).map cTGauss_row))) ?_ ?_
  · rw [fill_self (B := cut d G) (a := e0) (b := t0) (by rw [cut_app, if_pos he0]; exact hGt0), fill_self (B := cut d G) (a := e0) (b := t0_0) (by rw [cut_app, if_pos he0]; exact hGt0_0)]
  generalize hQ : callPost _ _ _ _ _ = Q
  simp -implicitDefEqProofs only [go_sem, he0, le0, qe0, pe0, hnt0t0_0, hnt0_0t0, wt0t0_0]
  obtain ⟨z7, hL7, h⟩ := bs h
  obtain ⟨I7, hI7⟩ : ∃ I : (Int × Bool × (List TGauss_row)) → St → Prop, I = fun a s => match a with | (v8, v9, v10) => s.G = fillKey (fillKey (cut d G) e0 t0 [.box [arV ((v10 : List TGauss_row).map cTGauss_row) (e0, t0_0, 0) 4, .p (.bool v9)]]) e0 t0_0 (arO ((v10 : List TGauss_row).map cTGauss_row)) ∧ s.F 0 = .bp (e0, t0, 0) 0 ∧ s.F 4 = .p (.int .i64 v8) ∧ True := ⟨_, rfl⟩
  obtain ⟨R7, hR7⟩ : ∃ R : (Bool × (List TGauss_row)) → GE → St → Prop, R = fun x e s => match x with | (v11, v12) => e = .exit 0 ∧ s.G = fillKey (fillKey (cut d G) e0 t0 [.box [arV ((v12 : List TGauss_row).map cTGauss_row) (e0, t0_0, 0) 4, .p (.bool v11)]]) e0 t0_0 (arO ((v12 : List TGauss_row).map cTGauss_row)) ∧ True := ⟨_, rfl⟩
  refine lp (ts := [2]) rfl hL7 I7 R7 ?_ ?_ ?_
  · rw [hI7]
    simp -implicitDefEqProofs only [go_sem, he0, le0, qe0, pe0, hnt0t0_0, hnt0_0t0, wt0t0_0]
  · clear h hL7
    rintro ⟨v8, v9, v10⟩ y s h i
    rw [hI7] at i
    obtain ⟨gi7, i7⟩ := i
    replace h : m_gauss_system_solve_L0 (v8, v9, v10) = some y := h
    unfold m_gauss_system_solve_L0 at h
    rcases ib h with ⟨c13, h⟩ | ⟨c13, h⟩
    · obtain ⟨r14, hr14, h⟩ := bs h
      simp -implicitDefEqProofs only [go_sem, he0, le0, qe0, pe0, hnt0t0_0, hnt0_0t0, wt0t0_0, gi7, i7, c13]
      refine call_look (m_slices_IndexFunc_gauss_row_ev v10 (fun x0 => m_gauss_system_solve_1 x0 v8) 95 [.ep (cii64 v8) 0] (by simp -implicitDefEqProofs only [go_sem]) (fun x0 r h d => m_gauss_system_solve_1_ev x0 v8 r h d empty) r14 hr14 (d + 1) empty) (by simp -implicitDefEqProofs only [go_sem, he0, le0, qe0, pe0, hnt0t0_0, hnt0_0t0, wt0t0_0, gi7, i7, c13]) (by simp -implicitDefEqProofs only [go_sem]) (by simp -implicitDefEqProofs only [go_sem]) ?_ rfl
      simp -implicitDefEqProofs only [go_sem, he0, le0, qe0, pe0, hnt0t0_0, hnt0_0t0, wt0t0_0, gi7, i7, c13]
      obtain ⟨v15, hz, h⟩ := bs h
      obtain ⟨R16, hR16⟩ : ∃ R : St → Prop, R = fun s => s.G = fillKey (fillKey (fillKey (cut d G) e0 t0 [.box [arV ((v10 : List TGauss_row).map cTGauss_row) (e0, t0_0, 0) 4, .p (.bool v9)]]) e0 t0_0 (arO ((v10 : List TGauss_row).map cTGauss_row))) (d + 1) 2 [.box [.p (.int .i64 v8)]] ∧ s.F 0 = .bp (e0, t0, 0) 0 ∧ s.F 2 = .bp (d + 1, 2, 0) 0 ∧ s.F 3 = .p (.int .i64 r14) ∧ s.F 4 = .p (.int .i64 v8) ∧ s.F 21 = .p (.bool v15) ∧ True := ⟨_, rfl⟩
      refine cutR R16 ?_ ?_
      · replace h := hz
        rcases ib h with ⟨c17, h⟩ | ⟨c17, h⟩
        · cases h
          simp -implicitDefEqProofs only [go_sem, he0, le0, qe0, pe0, hnt0t0_0, hnt0_0t0, wt0t0_0, gi7, i7, c13, c17]
          rw [hR16]
          simp -implicitDefEqProofs only [go_sem, he0, le0, qe0, pe0, hnt0t0_0, hnt0_0t0, wt0t0_0, gi7, i7, c13, c17]
        · cases h
          simp -implicitDefEqProofs only [go_sem, he0, le0, qe0, pe0, hnt0t0_0, hnt0_0t0, wt0t0_0, gi7, i7, c13, c17]
          rw [hR16]
          simp -implicitDefEqProofs only [go_sem, he0, le0, qe0, pe0, hnt0t0_0, hnt0_0t0, wt0t0_0, gi7, i7, c13, c17]
      · replace h := h; clear hz
        rintro s i
        rw [hR16] at i
        obtain ⟨gi18, i18⟩ := i
        clear hR16
        try dsimp only at h
        simp -implicitDefEqProofs only [go_sem, he0, le0, qe0, pe0, hnt0t0_0, hnt0_0t0, wt0t0_0, gi7, i7, c13, gi18, i18]
        obtain ⟨⟨v19, v20⟩, hz, h⟩ := bs h
        obtain ⟨R21, hR21⟩ : ∃ R : St → Prop, R = fun s => s.G = fillKey (fillKey (fillKey (cut d G) e0 t0 [.box [arV ((v20 : List TGauss_row).map cTGauss_row) (e0, t0_0, 0) 4, .p (.bool v19)]]) e0 t0_0 (arO ((v20 : List TGauss_row).map cTGauss_row))) (d + 1) 2 [.box [.p (.int .i64 v8)]] ∧ s.F 0 = .bp (e0, t0, 0) 0 ∧ s.F 4 = .p (.int .i64 v8) ∧ True := ⟨_, rfl⟩
        refine cutG R21 ?_ ?_
        · replace h := hz
          rcases ib h with ⟨c22, h⟩ | ⟨c22, h⟩
          · obtain ⟨r23, hr23, h⟩ := bs h
            simp -implicitDefEqProofs only [go_sem, he0, le0, qe0, pe0, hnt0t0_0, hnt0_0t0, wt0t0_0, gi7, i7, c13, gi18, i18, c22]
            refine call_open0 (t0 := 999) (r := .tup []) (m_gauss_system_take_ev (⟨v10, v9⟩ : TGauss_system) r14 v8 r23 hr23 (d + 1) _ e0 t0 t0_0 (Nat.le_succ_of_le he0) (by simp -implicitDefEqProofs only [go_sem, he0, le0, qe0, pe0, hnt0t0_0, hnt0_0t0, wt0t0_0, gi7, i7, c13, gi18, i18, c22]) (by simp -implicitDefEqProofs only [go_sem, he0, le0, qe0, pe0, hnt0t0_0, hnt0_0t0, wt0t0_0, gi7, i7, c13, gi18, i18, c22]) hnt0t0_0 hnt0_0t0) (by simp -implicitDefEqProofs only [go_sem, he0, le0, qe0, pe0, hnt0t0_0, hnt0_0t0, wt0t0_0, gi7, i7, c13, gi18, i18, c22]) rfl (by simp -implicitDefEqProofs only [go_sem, he0, le0, qe0, pe0, hnt0t0_0, hnt0_0t0, wt0t0_0, gi7, i7, c13, gi18, i18, c22]) (by simp -implicitDefEqProofs only [go_sem, he0, le0, qe0, pe0, hnt0t0_0, hnt0_0t0, wt0t0_0, gi7, i7, c13, gi18, i18, c22]) (by simp -implicitDefEqProofs only [go_sem]) ?_
            have cl24 : (r23.f0).length = ((v10 : List TGauss_row)).length := by have := len_take hr23; (try simp only [List.length_set] at this); first | exact this | exact this.trans rfl
            have cv24 := arV_len (c := cTGauss_row) (κ := (e0, t0_0, 0)) (n := 4) cl24
            have ce24 := nil_len cl24
            cases h
            simp -implicitDefEqProofs only [go_sem, he0, le0, qe0, pe0, hnt0t0_0, hnt0_0t0, wt0t0_0, gi7, i7, c13, gi18, i18, c22, cl24, cv24, ce24]
            rw [hR21]
            simp -implicitDefEqProofs only [go_sem, he0, le0, qe0, pe0, hnt0t0_0, hnt0_0t0, wt0t0_0, gi7, i7, c13, gi18, i18, c22, cl24, cv24, ce24]
          · cases h
            simp -implicitDefEqProofs only [go_sem, he0, le0, qe0, pe0, hnt0t0_0, hnt0_0t0, wt0t0_0, gi7, i7, c13, gi18, i18, c22]
            rw [hR21]
            simp -implicitDefEqProofs only [go_sem, he0, le0, qe0, pe0, hnt0t0_0, hnt0_0t0, wt0t0_0, gi7, i7, c13, gi18, i18, c22]
        · replace h := h; clear hz
          rintro s i
          rw [hR21] at i
          obtain ⟨gi25, i25⟩ := i
          clear hR21
          try dsimp only at h
          cases h
          simp -implicitDefEqProofs only [go_sem, he0, le0, qe0, pe0, hnt0t0_0, hnt0_0t0, wt0t0_0, gi7, i7, c13, gi18, i18, gi25, i25]
          rw [hI7]
          simp -implicitDefEqProofs only [go_sem, he0, le0, qe0, pe0, hnt0t0_0, hnt0_0t0, wt0t0_0, gi7, i7, c13, gi18, i18, gi25, i25]
    · cases h
      simp -implicitDefEqProofs only [go_sem, he0, le0, qe0, pe0, hnt0t0_0, hnt0_0t0, wt0t0_0, gi7, i7, c13]
      rw [hR7]
      first | refine ⟨rfl, ?_⟩ | refine ⟨(), rfl, ?_⟩
      simp -implicitDefEqProofs only [go_sem, he0, le0, qe0, pe0, hnt0t0_0, hnt0_0t0, wt0t0_0, gi7, i7, c13]
  · clear hL7 hI7
    intro e s hr7
    rw [hR7] at hr7
    clear hR7
    rcases z7 with ⟨v11, v12⟩
    try dsimp only at h hr7
    obtain ⟨rfl, gi26, i26⟩ := hr7
    cases h
    subst hQ
    simp -implicitDefEqProofs only [go_sem, he0, le0, qe0, pe0, hnt0t0_0, hnt0_0t0, wt0t0_0, gi26, i26, Try.results63]
theorem m_slices_insertionSortCmpFunc__gauss_row_ev (a0 : List TGauss_row) (a1 : Int) (a2 : Int) (a3 : (TGauss_row → TGauss_row → Option Int)) (n3 : FuncId) (q3 : List GV) (hc3 : closeds q3) (hf3 : ∀ x0 x1 r, a3 x0 x1 = some r → ∀ d, Tel Try.prog TB d n3 ([.agg ((cTGauss_row x0).map .p), .agg ((cTGauss_row x1).map .p)] ++ q3) empty (.p (.int .i64 r)) empty) (r0 : (List TGauss_row)) (h : m_slices_insertionSortCmpFunc__gauss_row a0 a1 a2 a3 = some r0) (d : Nat) (G : Heap) (e0 t0 : Nat) (he0 : e0 ≤ d) (hGt0 : G e0 t0 = arO ((a0 : List TGauss_row).map cTGauss_row)) : Tel Try.prog TB d 114 [arV ((a0 : List TGauss_row).map cTGauss_row) (e0, t0, 0) 4, .p (.int .i64 a1), .p (.int .i64 a2), .fn n3 q3] G (.tup []) (fillKey (G) e0 t0 (arO ((r0 : List TGauss_row).map cTGauss_row))) := by
  unfold m_slices_insertionSortCmpFunc__gauss_row at h
  refine Tel.intro mix Try.func114 rfl (Nat.le_of_ble_eq_true rfl) {frzAt := fun t => t == 32} (by kernel_rfl) (by kernel_rfl) ?_
  have le0 : (e0 ≤ d + 1) = True := by simp; omega
  have qe0 : (e0 = d + 1) = False := by simp; omega
  have pe0 : (d + 1 = e0) = False := by simp; omega
  refine gwp_heap (H' := fillKey (cut d G) e0 t0 (arO ((a0 : List TGauss_row).map cTGauss_row))) ?_ ?_
  · rw [fill_self (B := cut d G) (a := e0) (b := t0) (by rw [cut_app, if_pos he0]; exact hGt0)]
  generalize hQ : callPost _ _ _ _ _ = Q
  simp -implicitDefEqProofs only [go_sem, he0, le0, qe0, pe0]
  obtain ⟨z5, hL5, h⟩ := bs h
  obtain ⟨I5, hI5⟩ : ∃ I : (Int × (List TGauss_row)) → St → Prop, I = fun a s => match a with | (v6, v7) => s.G = fillKey (cut d G) e0 t0 (arO ((v7 : List TGauss_row).map cTGauss_row)) ∧ s.F 0 = arV ((v7 : List TGauss_row).map cTGauss_row) (e0, t0, 0) 4 ∧ s.F 1 = .p (.int .i64 a1) ∧ s.F 2 = .p (.int .i64 a2) ∧ s.F 3 = .fn n3 q3 ∧ s.F 8 = .p (.int .i64 v6) ∧ True := ⟨_, rfl⟩
  obtain ⟨R5, hR5⟩ : ∃ R : ((List TGauss_row)) → GE → St → Prop, R = fun v8 e s => e = .exit 0 ∧ s.G = fillKey (cut d G) e0 t0 (arO ((v8 : List TGauss_row).map cTGauss_row)) ∧ True := ⟨_, rfl⟩
  refine lp (ts := []) rfl hL5 I5 R5 ?_ ?_ ?_
  · rw [hI5]
    simp -implicitDefEqProofs only [go_sem, he0, le0, qe0, pe0]
  · clear h hL5
    rintro ⟨v6, v7⟩ y s h i
    rw [hI5] at i
    obtain ⟨gi5, i5⟩ := i
    replace h : m_slices_insertionSortCmpFunc__gauss_row_L0 a2 a1 a3 (v6, v7) = some y := h
    unfold m_slices_insertionSortCmpFunc__gauss_row_L0 at h
    rcases ib h with ⟨c9, h⟩ | ⟨c9, h⟩
    · simp -implicitDefEqProofs only [go_sem, he0, le0, qe0, pe0, gi5, i5, c9]
      obtain ⟨z14, hL14, h⟩ := bs h
      obtain ⟨I14, hI14⟩ : ∃ I : (Int × (List TGauss_row)) → St → Prop, I = fun a s => match a with | (v15, v16) => s.G = fillKey (cut d G) e0 t0 (arO ((v16 : List TGauss_row).map cTGauss_row)) ∧ s.F 0 = arV ((v16 : List TGauss_row).map cTGauss_row) (e0, t0, 0) 4 ∧ s.F 1 = .p (.int .i64 a1) ∧ s.F 2 = .p (.int .i64 a2) ∧ s.F 3 = .fn n3 q3 ∧ s.F 8 = .p (.int .i64 v6) ∧ s.F 9 = .p (.int .i64 v15) ∧ True := ⟨_, rfl⟩
      obtain ⟨R14, hR14⟩ : ∃ R : ((List TGauss_row)) → GE → St → Prop, R = fun v17 e s => e = .exit 2 ∧ s.G = fillKey (cut d G) e0 t0 (arO ((v17 : List TGauss_row).map cTGauss_row)) ∧ s.F 0 = arV ((v17 : List TGauss_row).map cTGauss_row) (e0, t0, 0) 4 ∧ s.F 1 = .p (.int .i64 a1) ∧ s.F 2 = .p (.int .i64 a2) ∧ s.F 3 = .fn n3 q3 ∧ s.F 8 = .p (.int .i64 v6) ∧ True := ⟨_, rfl⟩
      refine lp (ts := []) rfl hL14 I14 R14 ?_ ?_ ?_
      · rw [hI14]
        simp -implicitDefEqProofs only [go_sem, he0, le0, qe0, pe0, gi5, i5, c9]
      · clear h hL14
        rintro ⟨v15, v16⟩ y s h i
        rw [hI14] at i
        obtain ⟨gi14, i14⟩ := i
        replace h : m_slices_insertionSortCmpFunc__gauss_row_L1 a1 a3 (v15, v16) = some y := h
        unfold m_slices_insertionSortCmpFunc__gauss_row_L1 at h
        simp -implicitDefEqProofs only [go_sem, he0, le0, qe0, pe0, gi5, i5, c9, gi14, i14]
        obtain ⟨v18, hz, h⟩ := bs h
        obtain ⟨R19, hR19⟩ : ∃ R : St → Prop, R = fun s => s.G = fillKey (cut d G) e0 t0 (arO ((v16 : List TGauss_row).map cTGauss_row)) ∧ s.F 0 = arV ((v16 : List TGauss_row).map cTGauss_row) (e0, t0, 0) 4 ∧ s.F 1 = .p (.int .i64 a1) ∧ s.F 2 = .p (.int .i64 a2) ∧ s.F 3 = .fn n3 q3 ∧ s.F 8 = .p (.int .i64 v6) ∧ s.F 9 = .p (.int .i64 v15) ∧ s.F 34 = .p (.bool v18) ∧ True := ⟨_, rfl⟩
        refine cutR R19 ?_ ?_
        · replace h := hz
          rcases ib h with ⟨c20, h⟩ | ⟨c20, h⟩
          · obtain ⟨_, c21, h⟩ := bs h
            replace c21 := rqs c21
            obtain ⟨_, c22, h⟩ := bs h
            replace c22 := rqs c22
            have c23 := ne_of_idx c21 c22
            obtain ⟨v24, hv24, h⟩ := bs h
            replace hv24 := gis hv24
            obtain ⟨_, c25, h⟩ := bs h
            replace c25 := rqs c25
            obtain ⟨_, c26, h⟩ := bs h
            replace c26 := rqs c26
            obtain ⟨v27, hv27, h⟩ := bs h
            replace hv27 := gis hv27
            obtain ⟨r28, hr28, h⟩ := bs h
            simp -implicitDefEqProofs only [go_sem, he0, le0, qe0, pe0, gi5, i5, c9, gi14, i14, c20, c21, c22, c23, hv24, c25, c26, hv27]
            refine call_frz (r' := .p (.int .i64 r28)) (hf3 v24 v27 r28 hr28 (d + 1)) (by simp -implicitDefEqProofs only [go_sem, he0, le0, qe0, pe0, gi5, i5, c9, gi14, i14, c20, c21, c22, c23, hv24, c25, c26, hv27]) rfl (by simp -implicitDefEqProofs only [go_sem, hc3]) (by simp -implicitDefEqProofs only [go_sem]) ?_ rfl rfl
            cases h
            simp -implicitDefEqProofs only [go_sem, he0, le0, qe0, pe0, gi5, i5, c9, gi14, i14, c20, c21, c22, c23, hv24, c25, c26, hv27]
            rw [hR19]
            simp -implicitDefEqProofs only [go_sem, he0, le0, qe0, pe0, gi5, i5, c9, gi14, i14, c20, c21, c22, c23, hv24, c25, c26, hv27]
          · cases h
            simp -implicitDefEqProofs only [go_sem, he0, le0, qe0, pe0, gi5, i5, c9, gi14, i14, c20]
            rw [hR19]
            simp -implicitDefEqProofs only [go_sem, he0, le0, qe0, pe0, gi5, i5, c9, gi14, i14, c20]
        · replace h := h; clear hz
          rintro s i
          rw [hR19] at i
          obtain ⟨gi29, i29⟩ := i
          clear hR19
          try dsimp only at h
          rcases ib h with ⟨c30, h⟩ | ⟨c30, h⟩
          · obtain ⟨_, c31, h⟩ := bs h
            replace c31 := rqs c31
            obtain ⟨_, c32, h⟩ := bs h
            replace c32 := rqs c32
            have c33 := ne_of_idx c31 c32
            obtain ⟨v34, hv34, h⟩ := bs h
            replace hv34 := gis hv34
            obtain ⟨_, c35, h⟩ := bs h
            replace c35 := rqs c35
            obtain ⟨_, c36, h⟩ := bs h
            replace c36 := rqs c36
            obtain ⟨v37, hv37, h⟩ := bs h
            replace hv37 := gis hv37
            obtain ⟨v38, hv38, h⟩ := bs h
            replace hv38 := gis hv38
            have hv38m := get_map (c := cTGauss_row) hv38.2
            simp only [go_sem] at hv38m
            cases h
            simp -implicitDefEqProofs only [go_sem, he0, le0, qe0, pe0, gi5, i5, c9, gi14, i14, gi29, i29, c30, c31, c32, c33, hv34, c35, c36, hv37, hv38, hv38m]
            rw [hI14]
            simp -implicitDefEqProofs only [go_sem, he0, le0, qe0, pe0, gi5, i5, c9, gi14, i14, gi29, i29, c30, c31, c32, c33, hv34, c35, c36, hv37, hv38, hv38m]
          · cases h
            simp -implicitDefEqProofs only [go_sem, he0, le0, qe0, pe0, gi5, i5, c9, gi14, i14, gi29, i29, c30]
            rw [hR14]
            first | refine ⟨rfl, ?_⟩ | refine ⟨(), rfl, ?_⟩
            simp -implicitDefEqProofs only [go_sem, he0, le0, qe0, pe0, gi5, i5, c9, gi14, i14, gi29, i29, c30]
      · clear hL14 hI14
        intro e s hr14
        rw [hR14] at hr14
        clear hR14
        revert h hr14
        generalize z14 = v17
        intro h hr14
        try dsimp only at h hr14
        obtain ⟨rfl, gi39, i39⟩ := hr14
        cases h
        simp -implicitDefEqProofs only [go_sem, he0, le0, qe0, pe0, gi5, i5, c9, gi39, i39]
        rw [hI5]
        simp -implicitDefEqProofs only [go_sem, he0, le0, qe0, pe0, gi5, i5, c9, gi39, i39]
    · cases h
      simp -implicitDefEqProofs only [go_sem, he0, le0, qe0, pe0, gi5, i5, c9]
      rw [hR5]
      first | refine ⟨rfl, ?_⟩ | refine ⟨(), rfl, ?_⟩
      simp -implicitDefEqProofs only [go_sem, he0, le0, qe0, pe0, gi5, i5, c9]
  · clear hL5 hI5
    intro e s hr5
    rw [hR5] at hr5
    clear hR5
    revert h hr5
    generalize z5 = v8
    intro h hr5
    try dsimp only at h hr5
    obtain ⟨rfl, gi40, i40⟩ := hr5
    cases h
    subst hQ
    simp -implicitDefEqProofs only [go_sem, he0, le0, qe0, pe0, gi40, i40, Try.results114]
theorem m_slices_stableCmpFunc__gauss_row_ev (a0 : List TGauss_row) (a1 : Int) (a2 : (TGauss_row → TGauss_row → Option Int)) (n2 : FuncId) (q2 : List GV) (hc2 : closeds q2) (hf2 : ∀ x0 x1 r, a2 x0 x1 = some r → ∀ d, Tel Try.prog TB d n2 ([.agg ((cTGauss_row x0).map .p), .agg ((cTGauss_row x1).map .p)] ++ q2) empty (.p (.int .i64 r)) empty) (r0 : (List TGauss_row)) (h : m_slices_stableCmpFunc__gauss_row a0 a1 a2 = some r0) (d : Nat) (G : Heap) (e0 t0 : Nat) (he0 : e0 ≤ d) (hGt0 : G e0 t0 = arO ((a0 : List TGauss_row).map cTGauss_row)) : Tel Try.prog TB d 97 [arV ((a0 : List TGauss_row).map cTGauss_row) (e0, t0, 0) 4, .p (.int .i64 a1), .fn n2 q2] G (.tup []) (fillKey (G) e0 t0 (arO ((r0 : List TGauss_row).map cTGauss_row))) := by
  unfold m_slices_stableCmpFunc__gauss_row at h
  refine Tel.intro mix Try.func97 rfl (Nat.le_of_ble_eq_true rfl) {openAt := fun t => t == 18 || t == 27} (by kernel_rfl) (by kernel_rfl) ?_
  have le0 : (e0 ≤ d + 1) = True := by simp; omega
  have qe0 : (e0 = d + 1) = False := by simp; omega
  have pe0 : (d + 1 = e0) = False := by simp; omega
  refine gwp_heap (H' := fillKey (cut d G) e0 t0 (arO ((a0 : List TGauss_row).map cTGauss_row))) ?_ ?_
  · rw [fill_self (B := cut d G) (a := e0) (b := t0) (by rw [cut_app, if_pos he0]; exact hGt0)]
  generalize hQ : callPost _ _ _ _ _ = Q
  simp -implicitDefEqProofs only [go_sem, he0, le0, qe0, pe0]
  obtain ⟨z7, hL7, h⟩ := bs h
  obtain ⟨I7, hI7⟩ : ∃ I : (Int × Int × (List TGauss_row)) → St → Prop, I = fun a s => match a with | (v8, v9, v10) => s.G = fillKey (cut d G) e0 t0 (arO ((v10 : List TGauss_row).map cTGauss_row)) ∧ s.F 0 = arV ((v10 : List TGauss_row).map cTGauss_row) (e0, t0, 0) 4 ∧ s.F 1 = .p (.int .i64 a1) ∧ s.F 2 = .fn n2 q2 ∧ s.F 6 = .p (.int .i64 20) ∧ s.F 7 = .p (.int .i64 v8) ∧ s.F 8 = .p (.int .i64 v9) ∧ True := ⟨_, rfl⟩
  obtain ⟨R7, hR7⟩ : ∃ R : (Int × (List TGauss_row)) → GE → St → Prop, R = fun x e s => match x with | (v11, v12) => e = .exit 0 ∧ s.G = fillKey (cut d G) e0 t0 (arO ((v12 : List TGauss_row).map cTGauss_row)) ∧ s.F 0 = arV ((v12 : List TGauss_row).map cTGauss_row) (e0, t0, 0) 4 ∧ s.F 1 = .p (.int .i64 a1) ∧ s.F 2 = .fn n2 q2 ∧ s.F 6 = .p (.int .i64 20) ∧ s.F 7 = .p (.int .i64 v11) ∧ True := ⟨_, rfl⟩
  refine lp (ts := []) rfl hL7 I7 R7 ?_ ?_ ?_
  · rw [hI7]
    simp -implicitDefEqProofs only [go_sem, he0, le0, qe0, pe0]
  · clear h hL7
    rintro ⟨v8, v9, v10⟩ y s h i
    rw [hI7] at i
    obtain ⟨gi7, i7⟩ := i
    replace h : m_slices_stableCmpFunc__gauss_row_L0 a1 a2 (v8, v9, v10) = some y := h
    unfold m_slices_stableCmpFunc__gauss_row_L0 at h
    rcases ib h with ⟨c13, h⟩ | ⟨c13, h⟩
    · obtain ⟨r14, hr14, h⟩ := bs h
      simp -implicitDefEqProofs only [go_sem, he0, le0, qe0, pe0, gi7, i7, c13]
      refine call_open0 (t0 := 999) (r := .tup []) (m_slices_insertionSortCmpFunc__gauss_row_ev v10 v8 v9 a2 n2 q2 hc2 hf2 r14 hr14 (d + 1) _ e0 t0 (Nat.le_succ_of_le he0) (by simp -implicitDefEqProofs only [go_sem, he0, le0, qe0, pe0, gi7, i7, c13]) ) (by simp -implicitDefEqProofs only [go_sem, he0, le0, qe0, pe0, gi7, i7, c13]) rfl (by simp -implicitDefEqProofs only [go_sem, he0, le0, qe0, pe0, gi7, i7, c13]) (by simp -implicitDefEqProofs only [go_sem, he0, le0, qe0, pe0, gi7, i7, c13]) (by simp -implicitDefEqProofs only [go_sem]) ?_
      have cl15 : (r14).length = ((v10 : List TGauss_row)).length := by have := len_ins hr14; (try simp only [List.length_set] at this); first | exact this | exact this.trans rfl
      have cv15 := arV_len (c := cTGauss_row) (κ := (e0, t0, 0)) (n := 4) cl15
      have ce15 := nil_len cl15
      cases h
      simp -implicitDefEqProofs only [go_sem, he0, le0, qe0, pe0, gi7, i7, c13, cl15, cv15, ce15]
      rw [hI7]
      simp -implicitDefEqProofs only [go_sem, he0, le0, qe0, pe0, gi7, i7, c13, cl15, cv15, ce15]
    · cases h
      simp -implicitDefEqProofs only [go_sem, he0, le0, qe0, pe0, gi7, i7, c13]
      rw [hR7]
      first | refine ⟨rfl, ?_⟩ | refine ⟨(), rfl, ?_⟩
      simp -implicitDefEqProofs only [go_sem, he0, le0, qe0, pe0, gi7, i7, c13]
  · clear hL7 hI7
    intro e s hr7
    rw [hR7] at hr7
    clear hR7
    rcases z7 with ⟨v11, v12⟩
    try dsimp only at h hr7
    obtain ⟨rfl, gi16, i16⟩ := hr7
    obtain ⟨r17, hr17, h⟩ := bs h
    simp -implicitDefEqProofs only [go_sem, he0, le0, qe0, pe0, gi16, i16]
    refine call_open0 (t0 := 999) (r := .tup []) (m_slices_insertionSortCmpFunc__gauss_row_ev v12 v11 a1 a2 n2 q2 hc2 hf2 r17 hr17 (d + 1) _ e0 t0 (Nat.le_succ_of_le he0) (by simp -implicitDefEqProofs only [go_sem, he0, le0, qe0, pe0, gi16, i16]) ) (by simp -implicitDefEqProofs only [go_sem, he0, le0, qe0, pe0, gi16, i16]) rfl (by simp -implicitDefEqProofs only [go_sem, he0, le0, qe0, pe0, gi16, i16]) (by simp -implicitDefEqProofs only [go_sem, he0, le0, qe0, pe0, gi16, i16]) (by simp -implicitDefEqProofs only [go_sem]) ?_
    have cl18 : (r17).length = ((v12 : List TGauss_row)).length := by have := len_ins hr17; (try simp only [List.length_set] at this); first | exact this | exact this.trans rfl
    have cv18 := arV_len (c := cTGauss_row) (κ := (e0, t0, 0)) (n := 4) cl18
    have ce18 := nil_len cl18
    simp -implicitDefEqProofs only [go_sem, he0, le0, qe0, pe0, gi16, i16, cl18, cv18, ce18]
    obtain ⟨z21, hL21, h⟩ := bs h
    obtain ⟨I21, hI21⟩ : ∃ I : Int → St → Prop, I = fun v22 s => s.G = fillKey (cut d G) e0 t0 (arO ((r17 : List TGauss_row).map cTGauss_row)) ∧ s.F 0 = arV ((r17 : List TGauss_row).map cTGauss_row) (e0, t0, 0) 4 ∧ s.F 1 = .p (.int .i64 a1) ∧ s.F 2 = .fn n2 q2 ∧ s.F 6 = .p (.int .i64 v22) ∧ True := ⟨_, rfl⟩
    obtain ⟨R21, hR21⟩ : ∃ R : (Unit) → GE → St → Prop, R = fun _ e s => e = .exit 2 ∧ s.G = fillKey (cut d G) e0 t0 (arO ((r17 : List TGauss_row).map cTGauss_row)) ∧ True := ⟨_, rfl⟩
    refine lp (ts := []) rfl hL21 I21 R21 ?_ ?_ ?_
    · rw [hI21]
      simp -implicitDefEqProofs only [go_sem, he0, le0, qe0, pe0, gi16, i16, cl18, cv18, ce18]
    · clear h hL21
      rintro v22 y s h i
      rw [hI21] at i
      obtain ⟨gi21, i21⟩ := i
      replace h : m_slices_stableCmpFunc__gauss_row_L1 a1 (v22) = some y := h
      unfold m_slices_stableCmpFunc__gauss_row_L1 at h
      rcases ib h with ⟨c23, h⟩ | ⟨c23, h⟩
      · simp -implicitDefEqProofs only [go_sem, he0, le0, qe0, pe0, gi16, i16, cl18, cv18, ce18, gi21, i21, c23]
        obtain ⟨z24, hL24, h⟩ := bs h
        obtain ⟨I24, hI24⟩ : ∃ I : Unit → St → Prop, I = fun a s => match a with | _ => s.G = fillKey (cut d G) e0 t0 (arO ((r17 : List TGauss_row).map cTGauss_row)) ∧ s.F 0 = arV ((r17 : List TGauss_row).map cTGauss_row) (e0, t0, 0) 4 ∧ s.F 1 = .p (.int .i64 a1) ∧ s.F 2 = .fn n2 q2 ∧ s.F 6 = .p (.int .i64 v22) ∧ s.F 7 = .p (.int .i64 0) ∧ s.F 8 = .p (.int .i64 (IntKind.wrap .i64 (2 * v22))) ∧ True := ⟨_, rfl⟩
        obtain ⟨R24, hR24⟩ : ∃ R : (Unit) → GE → St → Prop, R = fun _ e s => e = .exit 4 ∧ s.G = fillKey (cut d G) e0 t0 (arO ((r17 : List TGauss_row).map cTGauss_row)) ∧ s.F 0 = arV ((r17 : List TGauss_row).map cTGauss_row) (e0, t0, 0) 4 ∧ s.F 1 = .p (.int .i64 a1) ∧ s.F 2 = .fn n2 q2 ∧ s.F 6 = .p (.int .i64 v22) ∧ s.F 7 = .p (.int .i64 0) ∧ True := ⟨_, rfl⟩
        refine lp (ts := []) rfl hL24 I24 R24 ?_ ?_ ?_
        · rw [hI24]
          simp -implicitDefEqProofs only [go_sem, he0, le0, qe0, pe0, gi16, i16, cl18, cv18, ce18, gi21, i21, c23]
        · clear h hL24
          rintro a y s h i
          rw [hI24] at i
          obtain ⟨gi24, i24⟩ := i
          replace h : m_slices_stableCmpFunc__gauss_row_L2 v22 a1 a = some y := h
          unfold m_slices_stableCmpFunc__gauss_row_L2 at h
          rcases ib h with ⟨c25, h⟩ | ⟨c25, h⟩
          · cases h
          · cases h
            simp -implicitDefEqProofs only [go_sem, he0, le0, qe0, pe0, gi16, i16, cl18, cv18, ce18, gi21, i21, c23, gi24, i24, c25]
            rw [hR24]
            first | refine ⟨rfl, ?_⟩ | refine ⟨(), rfl, ?_⟩
            simp -implicitDefEqProofs only [go_sem, he0, le0, qe0, pe0, gi16, i16, cl18, cv18, ce18, gi21, i21, c23, gi24, i24, c25]
        · clear hL24 hI24
          intro e s hr24
          rw [hR24] at hr24
          clear hR24
          revert h hr24
          generalize z24 = zz
          intro h hr24
          try dsimp only at h hr24
          obtain ⟨rfl, gi26, i26⟩ := hr24
          rcases ib h with ⟨c27, h⟩ | ⟨c27, h⟩
          · cases h
          · cases h
            simp -implicitDefEqProofs only [go_sem, he0, le0, qe0, pe0, gi16, i16, cl18, cv18, ce18, gi21, i21, c23, gi26, i26, c27]
            rw [hI21]
            simp -implicitDefEqProofs only [go_sem, he0, le0, qe0, pe0, gi16, i16, cl18, cv18, ce18, gi21, i21, c23, gi26, i26, c27]
      · cases h
        simp -implicitDefEqProofs only [go_sem, he0, le0, qe0, pe0, gi16, i16, cl18, cv18, ce18, gi21, i21, c23]
        rw [hR21]
        first | refine ⟨rfl, ?_⟩ | refine ⟨(), rfl, ?_⟩
        simp -implicitDefEqProofs only [go_sem, he0, le0, qe0, pe0, gi16, i16, cl18, cv18, ce18, gi21, i21, c23]
    · clear hL21 hI21
      intro e s hr21
      rw [hR21] at hr21
      clear hR21
      revert h hr21
      generalize z21 = zz
      intro h hr21
      try dsimp only at h hr21
      obtain ⟨rfl, gi28, i28⟩ := hr21
      cases h
      subst hQ
      simp -implicitDefEqProofs only [go_sem, he0, le0, qe0, pe0, gi16, i16, cl18, cv18, ce18, gi28, i28, Try.results97]
theorem m_slices_SortStableFunc_gauss_row_ev (a0 : List TGauss_row) (a1 : (TGauss_row → TGauss_row → Option Int)) (n1 : FuncId) (q1 : List GV) (hc1 : closeds q1) (hf1 : ∀ x0 x1 r, a1 x0 x1 = some r → ∀ d, Tel Try.prog TB d n1 ([.agg ((cTGauss_row x0).map .p), .agg ((cTGauss_row x1).map .p)] ++ q1) empty (.p (.int .i64 r)) empty) (r0 : (List TGauss_row)) (h : m_slices_SortStableFunc_gauss_row a0 a1 = some r0) (d : Nat) (G : Heap) (e0 t0 : Nat) (he0 : e0 ≤ d) (hGt0 : G e0 t0 = arO ((a0 : List TGauss_row).map cTGauss_row)) : Tel Try.prog TB d 64 [arV ((a0 : List TGauss_row).map cTGauss_row) (e0, t0, 0) 4, .fn n1 q1] G (.tup []) (fillKey (G) e0 t0 (arO ((r0 : List TGauss_row).map cTGauss_row))) := by
  unfold m_slices_SortStableFunc_gauss_row at h
  refine Tel.intro mix Try.func64 rfl (Nat.le_of_ble_eq_true rfl) {openAt := fun t => t == 8} (by kernel_rfl) (by kernel_rfl) ?_
  have le0 : (e0 ≤ d + 1) = True := by simp; omega
  have qe0 : (e0 = d + 1) = False := by simp; omega
  have pe0 : (d + 1 = e0) = False := by simp; omega
  refine gwp_heap (H' := fillKey (cut d G) e0 t0 (arO ((a0 : List TGauss_row).map cTGauss_row))) ?_ ?_
  · rw [fill_self (B := cut d G) (a := e0) (b := t0) (by rw [cut_app, if_pos he0]; exact hGt0)]
  generalize hQ : callPost _ _ _ _ _ = Q
  obtain ⟨r1, hr1, h⟩ := bs h
  simp -implicitDefEqProofs only [go_sem, he0, le0, qe0, pe0]
  refine call_open0 (t0 := 999) (r := .tup []) (m_slices_stableCmpFunc__gauss_row_ev a0 (a0.length : Int) a1 n1 q1 hc1 hf1 r1 hr1 (d + 1) _ e0 t0 (Nat.le_succ_of_le he0) (by simp -implicitDefEqProofs only [go_sem, he0, le0, qe0, pe0]) ) (by simp -implicitDefEqProofs only [go_sem, he0, le0, qe0, pe0]) rfl (by simp -implicitDefEqProofs only [go_sem, he0, le0, qe0, pe0]) (by simp -implicitDefEqProofs only [go_sem, he0, le0, qe0, pe0]) (by simp -implicitDefEqProofs only [go_sem]) ?_
  have cl2 : (r1).length = ((a0 : List TGauss_row)).length := by have := len_stable hr1; (try simp only [List.length_set] at this); first | exact this | exact this.trans rfl
  have cv2 := arV_len (c := cTGauss_row) (κ := (e0, t0, 0)) (n := 4) cl2
  have ce2 := nil_len cl2
  cases h
  subst hQ
  simp -implicitDefEqProofs only [go_sem, he0, le0, qe0, pe0, cl2, cv2, ce2, Try.results64]
theorem m_gauss_Solve_ev (a0 : List TTerm) (r0 : (List TTerm) × (List Int) × Int) (h : m_gauss_Solve a0 = some r0) (d : Nat) (G : Heap) : Tel Try.prog TB d 36 [.p (.sl (a0.map cTTerm))] G (.tup [.p (.sl (r0.1.map cTTerm)), .p (.sl (r0.2.1.map cii64)), .p (.int .i64 r0.2.2)]) (G) := by
  unfold m_gauss_Solve at h
  refine Tel.intro mix Try.func36 rfl (Nat.le_of_ble_eq_true rfl) {openAt := fun t => t == 41 || t == 50, frzAt := fun t => t == 17 || t == 33, arrAt := fun t => t == 36, boxAt := fun t => if t = 7 then some 7 else if t = 30 then some 20 else if t = 38 then some 20 else if t = 65 then some 11 else if t = 70 then some 11 else if t = 1000036 then some 36 else if t = 1000068 then some 68 else if t = 1000073 then some 73 else none, clean := fun r => if r = 5 then [7] else if r = 16 then [11] else []} (by kernel_rfl) (by kernel_rfl) ?_
  generalize hQ : callPost _ _ _ _ _ = Q
  simp -implicitDefEqProofs only [go_sem]
  obtain ⟨v1, hz, h⟩ := bs h
  obtain ⟨R2, hR2⟩ : ∃ R : St → Prop, R = fun s => s.G = cut d G ∧ s.F 0 = .p (.sl (a0.map cTTerm)) ∧ s.F 18 = .p (.bool v1) ∧ True := ⟨_, rfl⟩
  refine cutR R2 ?_ ?_
  · replace h := hz
    rcases ib h with ⟨c3, h⟩ | ⟨c3, h⟩
    · cases h
      simp -implicitDefEqProofs only [go_sem, c3]
      rw [hR2]
      simp -implicitDefEqProofs only [go_sem, c3]
    · obtain ⟨r4, hr4, h⟩ := bs h
      simp -implicitDefEqProofs only [go_sem, c3]
      refine call_frz (r' := .p (.bool r4)) (m_slices_ContainsFunc_api_Term_ev a0 (fun x0 => m_gauss_Solve_1 x0) 62 [] (by simp -implicitDefEqProofs only [go_sem]) (fun x0 r h d => m_gauss_Solve_1_ev x0 r h d empty) r4 hr4 (d + 1) empty) (by simp -implicitDefEqProofs only [go_sem, c3]) rfl (by simp -implicitDefEqProofs only [go_sem]) (by simp -implicitDefEqProofs only [go_sem]) ?_ rfl rfl
      cases h
      simp -implicitDefEqProofs only [go_sem, c3]
      rw [hR2]
      simp -implicitDefEqProofs only [go_sem, c3]
  · replace h := h; clear hz
    rintro s i
    rw [hR2] at i
    obtain ⟨gi5, i5⟩ := i
    clear hR2
    try dsimp only at h
    rcases ib h with ⟨c6, h⟩ | ⟨c6, h⟩
    · cases h
      subst hQ
      simp -implicitDefEqProofs only [go_sem, gi5, i5, c6, Try.results36]
    · simp -implicitDefEqProofs only [go_sem, gi5, i5, c6]
      obtain ⟨z11, hL11, h⟩ := bs h
      obtain ⟨I11, hI11⟩ : ∃ I : (Int × (List TGauss_row)) → St → Prop, I = fun a s => match a with | (v12, v13) => s.G = fillKey (fillKey (cut d G) (d + 1) 20 [.box [arV ((v13 : List TGauss_row).map cTGauss_row) (d + 1, 36, 0) 4, .p (.bool false)]]) (d + 1) 36 (arO ((v13 : List TGauss_row).map cTGauss_row)) ∧ s.F 5 = .bp (d + 1, 20, 0) 0 ∧ s.F 21 = .p (.sl (a0.map cTTerm)) ∧ s.F 22 = .p (.int .i64 (a0.length : Int)) ∧ s.F 23 = .p (.int .i64 v12) ∧ True := ⟨_, rfl⟩
      obtain ⟨R11, hR11⟩ : ∃ R : ((List TGauss_row)) → GE → St → Prop, R = fun v14 e s => e = .exit 0 ∧ s.G = fillKey (fillKey (cut d G) (d + 1) 20 [.box [arV ((v14 : List TGauss_row).map cTGauss_row) (d + 1, 36, 0) 4, .p (.bool false)]]) (d + 1) 36 (arO ((v14 : List TGauss_row).map cTGauss_row)) ∧ s.F 5 = .bp (d + 1, 20, 0) 0 ∧ True := ⟨_, rfl⟩
      refine lp (ts := [7]) rfl hL11 I11 R11 ?_ ?_ ?_
      · rw [hI11]
        simp -implicitDefEqProofs only [go_sem, gi5, i5, c6]
      · clear h hL11
        rintro ⟨v12, v13⟩ y s h i
        rw [hI11] at i
        obtain ⟨gi11, i11⟩ := i
        replace h : m_gauss_Solve_L0 a0 (v12, v13) = some y := h
        unfold m_gauss_Solve_L0 at h
        rcases ib h with ⟨c15, h⟩ | ⟨c15, h⟩
        · obtain ⟨v16, hv16, h⟩ := bs h
          replace hv16 := gis hv16
          obtain ⟨r17, hr17, h⟩ := bs h
          simp -implicitDefEqProofs only [go_sem, gi5, i5, c6, gi11, i11, c15, hv16]
          refine call_frz (r' := .agg [.p (.sl (r17.f0.map cTRat)), .p (.int .i64 r17.f1.f0), .p (.int .i64 r17.f1.f1)]) (m_term_Own_ev v16 r17 hr17 (d + 1) empty) (by simp -implicitDefEqProofs only [go_sem, gi5, i5, c6, gi11, i11, c15, hv16]) rfl (by simp -implicitDefEqProofs only [go_sem]) (by simp -implicitDefEqProofs only [go_sem]) ?_ rfl rfl
          obtain ⟨_, c18, h⟩ := bs h
          replace c18 := rqs c18
          simp -implicitDefEqProofs only [go_sem, gi5, i5, c6, gi11, i11, c15, hv16, c18]
          refine append_A (l := (v13 : List TGauss_row)) (m := ([(⟨r17, -1⟩ : TGauss_row)] : List TGauss_row)) (c := cTGauss_row) (he := el126) (hx := by simp -implicitDefEqProofs only [go_sem, gi5, i5, c6, gi11, i11, c15, hv16, c18]) (hc := fun _ => rfl) (hm := by simp) (ha := rfl) (hra := rfl) (hb := by simpa using c18) (hbb := by decide) (hG := by simp -implicitDefEqProofs only [go_sem, gi5, i5, c6, gi11, i11, c15, hv16, c18]) (hn := fun _ => ⟨rfl, rfl⟩) ?_
          have c19 : ((v13 ++ ([(⟨r17, -1⟩ : TGauss_row)])) : List TGauss_row) ≠ [] := by simp
          cases h
          simp -implicitDefEqProofs only [go_sem, gi5, i5, c6, gi11, i11, c15, hv16, c18, c19]
          rw [hI11]
          simp -implicitDefEqProofs only [go_sem, gi5, i5, c6, gi11, i11, c15, hv16, c18, c19]
        · cases h
          simp -implicitDefEqProofs only [go_sem, gi5, i5, c6, gi11, i11, c15]
          rw [hR11]
          first | refine ⟨rfl, ?_⟩ | refine ⟨(), rfl, ?_⟩
          simp -implicitDefEqProofs only [go_sem, gi5, i5, c6, gi11, i11, c15]
      · clear hL11 hI11
        intro e s hr11
        rw [hR11] at hr11
        clear hR11
        revert h hr11
        generalize z11 = v14
        intro h hr11
        try dsimp only at h hr11
        obtain ⟨rfl, gi20, i20⟩ := hr11
        obtain ⟨r21, hr21, h⟩ := bs h
        simp -implicitDefEqProofs only [go_sem, gi5, i5, c6, gi20, i20]
        refine call_open0 (t0 := 999) (r := .tup []) (m_gauss_system_solve_ev (⟨v14, false⟩ : TGauss_system) r21 hr21 (d + 1) _ (d + 1) 20 36 (Nat.le_refl _) (by simp -implicitDefEqProofs only [go_sem, gi5, i5, c6, gi20, i20]) (by simp -implicitDefEqProofs only [go_sem, gi5, i5, c6, gi20, i20]) (by simp) (by simp)) (by simp -implicitDefEqProofs only [go_sem, gi5, i5, c6, gi20, i20]) rfl (by simp -implicitDefEqProofs only [go_sem, gi5, i5, c6, gi20, i20]) (by simp -implicitDefEqProofs only [go_sem, gi5, i5, c6, gi20, i20]) (by simp -implicitDefEqProofs only [go_sem]) ?_
        rcases ib h with ⟨c22, h⟩ | ⟨c22, h⟩
        · cases h
          subst hQ
          simp -implicitDefEqProofs only [go_sem, gi5, i5, c6, gi20, i20, c22, Try.results36]
        · obtain ⟨r23, hr23, h⟩ := bs h
          simp -implicitDefEqProofs only [go_sem, gi5, i5, c6, gi20, i20, c22]
          refine call_open0 (t0 := 999) (r := .tup []) (m_slices_SortStableFunc_gauss_row_ev r21.f0 (fun x0 x1 => m_gauss_Solve_2 x0 x1) 65 [] (by simp -implicitDefEqProofs only [go_sem]) (fun x0 x1 r h d => m_gauss_Solve_2_ev x0 x1 r h d empty) r23 hr23 (d + 1) _ (d + 1) 36 (Nat.le_refl _) (by simp -implicitDefEqProofs only [go_sem, gi5, i5, c6, gi20, i20, c22]) ) (by simp -implicitDefEqProofs only [go_sem, gi5, i5, c6, gi20, i20, c22]) rfl (by simp -implicitDefEqProofs only [go_sem, gi5, i5, c6, gi20, i20, c22]) (by simp -implicitDefEqProofs only [go_sem, gi5, i5, c6, gi20, i20, c22]) (by simp -implicitDefEqProofs only [go_sem]) ?_
          have cl24 : (r23).length = ((r21.f0 : List TGauss_row)).length := by have := len_sort hr23; (try simp only [List.length_set] at this); first | exact this | exact this.trans rfl
          have cv24 := arV_len (c := cTGauss_row) (κ := (d + 1, 36, 0)) (n := 4) cl24
          have ce24 := nil_len cl24
          simp -implicitDefEqProofs only [go_sem, gi5, i5, c6, gi20, i20, c22, cl24, cv24, ce24]
          obtain ⟨z35, hL35, h⟩ := bs h
          obtain ⟨I35, hI35⟩ : ∃ I : ((List TTerm) × (List Int) × Int) → St → Prop, I = fun a s => match a with | (v36, v38, v40) => ∃ o37 o39, s.G = fillKey (fillKey (fillKey (fillKey (cut d G) (d + 1) 20 [.box [arV ((r23 : List TGauss_row).map cTGauss_row) (d + 1, 36, 0) 4, .p (.bool r21.f1)]]) (d + 1) 36 (arO ((r23 : List TGauss_row).map cTGauss_row))) (d + 1) 68 (growO o37 68 3 (v36.map cTTerm))) (d + 1) 73 (growO o39 73 1 (v38.map cii64)) ∧ growOK o37 [68] ∧ growOK o39 [73] ∧ s.F 8 = growV o37 (d + 1) (v36.map cTTerm) ∧ s.F 9 = growV o39 (d + 1) (v38.map cii64) ∧ s.F 54 = arV ((r23 : List TGauss_row).map cTGauss_row) (d + 1, 36, 0) 4 ∧ s.F 55 = .p (.int .i64 (r21.f0.length : Int)) ∧ s.F 56 = .p (.int .i64 v40) ∧ True := ⟨_, rfl⟩
          obtain ⟨R35, hR35⟩ : ∃ R : (((List TTerm) × (List Int)) ⊕ ((List TTerm) × (List Int) × Int)) → GE → St → Prop, R = fun x e s => match x with | .inl (v41, v43) => e = .exit 2 ∧ (∃ o42 o44, s.G = fillKey (fillKey (fillKey (fillKey (cut d G) (d + 1) 20 [.box [arV ((r23 : List TGauss_row).map cTGauss_row) (d + 1, 36, 0) 4, .p (.bool r21.f1)]]) (d + 1) 36 (arO ((r23 : List TGauss_row).map cTGauss_row))) (d + 1) 68 (growO o42 68 3 (v41.map cTTerm))) (d + 1) 73 (growO o44 73 1 (v43.map cii64)) ∧ growOK o42 [68] ∧ growOK o44 [73] ∧ s.F 8 = growV o42 (d + 1) (v41.map cTTerm) ∧ s.F 9 = growV o44 (d + 1) (v43.map cii64) ∧ True) | .inr r => e = .ret ∧ (r = r0 → Q .ret s) := ⟨_, rfl⟩
          refine lp (ts := [11]) rfl hL35 I35 R35 ?_ ?_ ?_
          · rw [hI35]
            refine ⟨none, none, ?_⟩
            simp -implicitDefEqProofs only [go_sem, gi5, i5, c6, gi20, i20, c22, cl24, cv24, ce24]
          · clear h hL35
            rintro ⟨v36, v38, v40⟩ y s h i
            rw [hI35] at i
            obtain ⟨o37, o39, gi35, ko37, ko39, i35⟩ := i
            replace h : m_gauss_Solve_L1 r21 r23 (v36, v38, v40) = some y := h
            unfold m_gauss_Solve_L1 at h
            rcases ib h with ⟨c45, h⟩ | ⟨c45, h⟩
            · obtain ⟨_, c46, h⟩ := bs h
              replace c46 := rqs c46
              obtain ⟨_, c47, h⟩ := bs h
              replace c47 := rqs c47
              have c48 := ne_of_idx c46 c47
              obtain ⟨v49, hv49, h⟩ := bs h
              replace hv49 := gis hv49
              simp -implicitDefEqProofs only [go_sem, gi5, i5, c6, gi20, i20, c22, cl24, cv24, ce24, gi35, ko37, ko39, i35, c45, c46, c47, c48, hv49]
              obtain ⟨z54, hz, hk54⟩ := bs h
              obtain ⟨R54, hR54⟩ : ∃ R : St → Prop, R = fun s => ∃ v50 v52, z54 = .inl (v50, v52) ∧ ∃ o51 o53, s.G = fillKey (fillKey (fillKey (fillKey (fillKey (cut d G) (d + 1) 11 [.box [.p (.sl (v49.f0.f0.map cTRat)), .p (.int .i64 v49.f0.f1.f0), .p (.int .i64 v49.f0.f1.f1), .p (.int .i64 v49.f1)]]) (d + 1) 20 [.box [arV ((r23 : List TGauss_row).map cTGauss_row) (d + 1, 36, 0) 4, .p (.bool r21.f1)]]) (d + 1) 36 (arO ((r23 : List TGauss_row).map cTGauss_row))) (d + 1) 68 (growO o51 68 3 (v50.map cTTerm))) (d + 1) 73 (growO o53 73 1 (v52.map cii64)) ∧ growOK o51 [68] ∧ growOK o53 [73] ∧ s.F 8 = growV o51 (d + 1) (v50.map cTTerm) ∧ s.F 9 = growV o53 (d + 1) (v52.map cii64) ∧ s.F 54 = arV ((r23 : List TGauss_row).map cTGauss_row) (d + 1, 36, 0) 4 ∧ s.F 55 = .p (.int .i64 (r21.f0.length : Int)) ∧ s.F 56 = .p (.int .i64 v40) ∧ True := ⟨_, rfl⟩
              refine cutG R54 ?_ ?_
              · replace h := hz
                rcases ib h with ⟨c55, h⟩ | ⟨c55, h⟩
                · obtain ⟨_, c56, h⟩ := bs h
                  replace c56 := rqs c56
                  simp -implicitDefEqProofs only [go_sem, gi5, i5, c6, gi20, i20, c22, cl24, cv24, ce24, gi35, ko37, ko39, i35, c45, c46, c47, c48, hv49, c55, c56, appG_grow (k := 68) ko37, appG_grow_p (k := 68) ko37]
                  refine append_G (o := o37) (ts := [68]) (es := (v36 : List TTerm).map cTTerm) (xs := ([v49.f0] : List TTerm).map cTTerm) (ho := growOK.sub ko37 (by decide)) (hG := by simp -implicitDefEqProofs only [go_sem, gi5, i5, c6, gi20, i20, c22, cl24, cv24, ce24, gi35, ko37, ko39, i35, c45, c46, c47, c48, hv49, c55, c56]) (hj := by simp -implicitDefEqProofs only [go_sem]) (he := el94) (hx := by simp -implicitDefEqProofs only [go_sem, gi5, i5, c6, gi20, i20, c22, cl24, cv24, ce24, gi35, ko37, ko39, i35, c45, c46, c47, c48, hv49, c55, c56]) (h1 := by simp -implicitDefEqProofs only [go_sem]) (h2 := by simp -implicitDefEqProofs only [go_sem]) (ha := rfl) (hra := rfl) (hb := by simpa using c56) (hbb := by decide) ?_
                  intro o57 ko57
                  obtain ⟨_, c58, h⟩ := bs h
                  replace c58 := rqs c58
                  simp -implicitDefEqProofs only [go_sem, gi5, i5, c6, gi20, i20, c22, cl24, cv24, ce24, gi35, ko37, ko39, i35, c45, c46, c47, c48, hv49, c55, c56, ko57, c58, appG_grow (k := 73) ko39, appG_grow_p (k := 73) ko39]
                  refine append_G (o := o39) (ts := [73]) (es := (v38 : List Int).map cii64) (xs := ([v49.f1] : List Int).map cii64) (ho := growOK.sub ko39 (by decide)) (hG := by simp -implicitDefEqProofs only [go_sem, gi5, i5, c6, gi20, i20, c22, cl24, cv24, ce24, gi35, ko37, ko39, i35, c45, c46, c47, c48, hv49, c55, c56, ko57, c58]) (hj := by simp -implicitDefEqProofs only [go_sem]) (he := el46) (hx := by simp -implicitDefEqProofs only [go_sem, gi5, i5, c6, gi20, i20, c22, cl24, cv24, ce24, gi35, ko37, ko39, i35, c45, c46, c47, c48, hv49, c55, c56, ko57, c58]) (h1 := by simp -implicitDefEqProofs only [go_sem]) (h2 := by simp -implicitDefEqProofs only [go_sem]) (ha := rfl) (hra := rfl) (hb := by simpa using c58) (hbb := by decide) ?_
                  intro o59 ko59
                  cases h
                  simp -implicitDefEqProofs only [go_sem, gi5, i5, c6, gi20, i20, c22, cl24, cv24, ce24, gi35, ko37, ko39, i35, c45, c46, c47, c48, hv49, c55, c56, ko57, c58, ko59]
                  rw [hR54]
                  refine ⟨(v36 ++ ([v49.f0])), (v38 ++ ([v49.f1])), rfl, o57, o59, ?_⟩
                  simp -implicitDefEqProofs only [go_sem, gi5, i5, c6, gi20, i20, c22, cl24, cv24, ce24, gi35, ko37, ko39, i35, c45, c46, c47, c48, hv49, c55, c56, ko57, c58, ko59]
                · rcases ib h with ⟨c60, h⟩ | ⟨c60, h⟩
                  · obtain ⟨y54, hy54, hz54⟩ := bs h
                    replace hz54 := Option.some.inj hz54
                    subst hz54
                    replace hk54 := hk54
                    dsimp only at hk54
                    replace hk54 := Option.some.inj hk54
                    subst hk54
                    have h := hy54
                    cases h
                    simp -implicitDefEqProofs only [go_sem, gi5, i5, c6, gi20, i20, c22, cl24, cv24, ce24, gi35, ko37, ko39, i35, c45, c46, c47, c48, hv49, c55, c60]
                    rw [hR35]
                    refine ⟨rfl, ?_⟩
                    intro hr
                    subst hr
                    subst hQ
                    simp -implicitDefEqProofs only [go_sem, gi5, i5, c6, gi20, i20, c22, cl24, cv24, ce24, gi35, ko37, ko39, i35, c45, c46, c47, c48, hv49, c55, c60, Try.results36]
                  · cases h
                    simp -implicitDefEqProofs only [go_sem, gi5, i5, c6, gi20, i20, c22, cl24, cv24, ce24, gi35, ko37, ko39, i35, c45, c46, c47, c48, hv49, c55, c60]
                    rw [hR54]
                    refine ⟨v36, v38, rfl, o37, o39, ?_⟩
                    simp -implicitDefEqProofs only [go_sem, gi5, i5, c6, gi20, i20, c22, cl24, cv24, ce24, gi35, ko37, ko39, i35, c45, c46, c47, c48, hv49, c55, c60]
              · rintro s i
                rw [hR54] at i
                obtain ⟨v50, v52, rfl, o51, o53, gi61, ko51, ko53, i61⟩ := i
                clear hR54 hz
                replace h := hk54; clear hk54
                try dsimp only at h
                cases h
                simp -implicitDefEqProofs only [go_sem, gi5, i5, c6, gi20, i20, c22, cl24, cv24, ce24, gi35, ko37, ko39, i35, c45, c46, c47, c48, hv49, gi61, ko51, ko53, i61]
                rw [hI35]
                refine ⟨o51, o53, ?_⟩
                simp -implicitDefEqProofs only [go_sem, gi5, i5, c6, gi20, i20, c22, cl24, cv24, ce24, gi35, ko37, ko39, i35, c45, c46, c47, c48, hv49, gi61, ko51, ko53, i61, poison_grow (d := d + 1) (ts := [11]) ko51 (by decide), poison_grow (d := d + 1) (ts := [11]) ko53 (by decide)]
            · cases h
              simp -implicitDefEqProofs only [go_sem, gi5, i5, c6, gi20, i20, c22, cl24, cv24, ce24, gi35, ko37, ko39, i35, c45]
              rw [hR35]
              first | refine ⟨rfl, o37, o39, ?_⟩ | refine ⟨(), rfl, o37, o39, ?_⟩
              simp -implicitDefEqProofs only [go_sem, gi5, i5, c6, gi20, i20, c22, cl24, cv24, ce24, gi35, ko37, ko39, i35, c45]
          · clear hL35 hI35
            intro e s hr35
            rw [hR35] at hr35
            clear hR35
            rcases z35 with ⟨v41, v43⟩ | r
            · try dsimp only at h hr35
              obtain ⟨rfl, o42, o44, gi62, ko42, ko44, i62⟩ := hr35
              cases h
              subst hQ
              simp -implicitDefEqProofs only [go_sem, gi5, i5, c6, gi20, i20, c22, cl24, cv24, ce24, gi62, ko42, ko44, i62, Try.results36]
            · try dsimp only at h hr35
              obtain ⟨rfl, hr35⟩ := hr35
              cases h
              try simp -implicitDefEqProofs only [go_sem]
              exact hr35 rfl
theorem m_slices_Repeat_api_Rat_ev (a0 : List TRat) (a1 : Int) (r0 : List TRat) (h : m_slices_Repeat_api_Rat a0 a1 = some r0) (d : Nat) (G : Heap) : Tel Try.prog TB d 71 [.p (.sl (a0.map cTRat)), .p (.int .i64 a1)] G (.oar (r0.map cTRat) 2) G := by
  unfold m_slices_Repeat_api_Rat at h
  match a0, h with
  | [], h => cases h
  | [x], h =>
    obtain ⟨_, c, h⟩ := bs h
    obtain rfl := rqs c
    cases h
    exact repeat_ev (.int .i64 x.f0) (.int .i64 x.f1) d G
  | _ :: _ :: _, h => cases h
theorem m_slices_IndexFunc_api_Row_ev (a0 : List TRow) (a1 : (TRow → Option Bool)) (n1 : FuncId) (q1 : List GV) (hc1 : closeds q1) (hf1 : ∀ x0 r, a1 x0 = some r → ∀ d, Tel Try.prog TB d n1 ([.agg ((cTRow x0).map .p)] ++ q1) empty (.p (.bool r)) empty) (r0 : Int) (h : m_slices_IndexFunc_api_Row a0 a1 = some r0) (d : Nat) (G : Heap) : Tel Try.prog TB d 34 [.p (.sl (a0.map cTRow)), .fn n1 q1] G (.p (.int .i64 r0)) (G) := by
  unfold m_slices_IndexFunc_api_Row at h
  refine Tel.intro mix Try.func34 rfl (Nat.le_of_ble_eq_true rfl) {frzAt := fun t => t == 16} (by kernel_rfl) (by kernel_rfl) ?_
  generalize hQ : callPost _ _ _ _ _ = Q
  simp -implicitDefEqProofs only [go_sem]
  obtain ⟨z3, hL3, h⟩ := bs h
  obtain ⟨I3, hI3⟩ : ∃ I : Int → St → Prop, I = fun v4 s => s.G = cut d G ∧ s.F 0 = .p (.sl (a0.map cTRow)) ∧ s.F 1 = .fn n1 q1 ∧ s.F 7 = .p (.int .i64 (a0.length : Int)) ∧ s.F 8 = .p (.int .i64 v4) ∧ True := ⟨_, rfl⟩
  obtain ⟨R3, hR3⟩ : ∃ R : ((Unit) ⊕ (Int)) → GE → St → Prop, R = fun x e s => match x with | .inl _ => e = .exit 0 ∧ s.G = cut d G ∧ True | .inr r => e = .ret ∧ (r = r0 → Q .ret s) := ⟨_, rfl⟩
  refine lp (ts := []) rfl hL3 I3 R3 ?_ ?_ ?_
  · rw [hI3]
    simp -implicitDefEqProofs only [go_sem]
  · clear h hL3
    rintro v4 y s h i
    rw [hI3] at i
    obtain ⟨gi3, i3⟩ := i
    replace h : m_slices_IndexFunc_api_Row_L0 a0 a1 (v4) = some y := h
    unfold m_slices_IndexFunc_api_Row_L0 at h
    rcases ib h with ⟨c5, h⟩ | ⟨c5, h⟩
    · obtain ⟨v6, hv6, h⟩ := bs h
      replace hv6 := gis hv6
      obtain ⟨r7, hr7, h⟩ := bs h
      simp -implicitDefEqProofs only [go_sem, gi3, i3, c5, hv6]
      refine call_frz (r' := .p (.bool r7)) (hf1 v6 r7 hr7 (d + 1)) (by simp -implicitDefEqProofs only [go_sem, gi3, i3, c5, hv6]) rfl (by simp -implicitDefEqProofs only [go_sem, hc1]) (by simp -implicitDefEqProofs only [go_sem]) ?_ rfl rfl
      rcases ib h with ⟨c8, h⟩ | ⟨c8, h⟩
      · cases h
        simp -implicitDefEqProofs only [go_sem, gi3, i3, c5, hv6, c8]
        rw [hR3]
        refine ⟨rfl, ?_⟩
        intro hr
        subst hr
        subst hQ
        simp -implicitDefEqProofs only [go_sem, gi3, i3, c5, hv6, c8, Try.results34]
      · cases h
        simp -implicitDefEqProofs only [go_sem, gi3, i3, c5, hv6, c8]
        rw [hI3]
        simp -implicitDefEqProofs only [go_sem, gi3, i3, c5, hv6, c8]
    · cases h
      simp -implicitDefEqProofs only [go_sem, gi3, i3, c5]
      rw [hR3]
      first | refine ⟨rfl, ?_⟩ | refine ⟨(), rfl, ?_⟩
      simp -implicitDefEqProofs only [go_sem, gi3, i3, c5]
  · clear hL3 hI3
    intro e s hr3
    rw [hR3] at hr3
    clear hR3
    rcases z3 with _ | r
    · try dsimp only at h hr3
      obtain ⟨rfl, gi9, i9⟩ := hr3
      cases h
      subst hQ
      simp -implicitDefEqProofs only [go_sem, gi9, i9, Try.results34]
    · try dsimp only at h hr3
      obtain ⟨rfl, hr3⟩ := hr3
      cases h
      try simp -implicitDefEqProofs only [go_sem]
      exact hr3 rfl
theorem m_slices_ContainsFunc_api_Row_ev (a0 : List TRow) (a1 : (TRow → Option Bool)) (n1 : FuncId) (q1 : List GV) (hc1 : closeds q1) (hf1 : ∀ x0 r, a1 x0 = some r → ∀ d, Tel Try.prog TB d n1 ([.agg ((cTRow x0).map .p)] ++ q1) empty (.p (.bool r)) empty) (r0 : Bool) (h : m_slices_ContainsFunc_api_Row a0 a1 = some r0) (d : Nat) (G : Heap) : Tel Try.prog TB d 22 [.p (.sl (a0.map cTRow)), .fn n1 q1] G (.p (.bool r0)) (G) := by
  unfold m_slices_ContainsFunc_api_Row at h
  refine Tel.intro mix Try.func22 rfl (Nat.le_of_ble_eq_true rfl) {frzAt := fun t => t == 7} (by kernel_rfl) (by kernel_rfl) ?_
  generalize hQ : callPost _ _ _ _ _ = Q
  obtain ⟨r1, hr1, h⟩ := bs h
  simp -implicitDefEqProofs only [go_sem]
  refine call_frz (r' := .p (.int .i64 r1)) (m_slices_IndexFunc_api_Row_ev a0 a1 n1 q1 hc1 hf1 r1 hr1 (d + 1) empty) (by simp -implicitDefEqProofs only [go_sem]) rfl (by simp -implicitDefEqProofs only [go_sem, hc1]) (by simp -implicitDefEqProofs only [go_sem]) ?_ rfl rfl
  cases h
  subst hQ
  simp -implicitDefEqProofs only [go_sem, Try.results22]
theorem m_slices_Clone_api_Row_cl (a0 : List TRow) (r0 : List TRow) (h : m_slices_Clone_api_Row a0 = some r0) (d : Nat) (G : Heap) : Tel Try.prog TB d 47 [.p (.sl (a0.map cTRow))] G (cloR (r0.map cTRow) 4) G := by
  unfold m_slices_Clone_api_Row at h
  obtain ⟨_, c1, h⟩ := bs h
  replace c1 := rqs c1
  cases h
  refine Tel.intro_nil mix Try.func47 rfl (by decide) {} m_slices_Clone_api_Row_A m_slices_Clone_api_Row_B (x := 2) (y := 3) (z := 4) (by decide) (by decide) (by decide) (by kernel_rfl) (by kernel_rfl) (by kernel_rfl) ?_ ?_
  · intro a n m Q w a0 h0 hs h
    have s3 : 3 < a0.tmps.size := by rw [hs]; decide
    refine wp_seq (wp_region ?_)
    show wpOps _ _ _ [0] _ _
    simp only [wpOps, Region.wanted, if_true, List.getElem?_toArray, List.getElem?_cons_zero]
    refine .inl (wp_val (rv := .slice none 0 0) (w' := w) (by simp [execOp, Act.eval]) ?_)
    show Code.wp _ _ _ _ _
    refine wp_seq (wp_seq (wp_region ?_))
    show wpOps _ _ _ [0, 1] _ _
    simp only [wpOps, Region.wanted, if_true, List.getElem?_toArray, List.getElem?_cons_zero, List.getElem?_cons_succ]
    refine .inl (wp_val (rv := .slice a n m) (w' := w) ?_ ?_)
    · have e : (a0.put (some 2) (.slice none 0 0)).tmps.getD 0 undef = .slice a n m := by simpa [Act.put, Array.getD_eq_getD_getElem?] using h0
      show Sem.run _ (pure (Next.value ((a0.put (some 2) (.slice none 0 0)).tmps.getD 0 undef))) w = _
      rw [e]; rfl
    · refine .inl (wp_val (rv := .bool a.isNone) (w' := w) ?_ ?_)
      · have e : ((a0.put (some 2) (.slice none 0 0)).put (some 3) (.slice a n m)).tmps.getD 3 undef = .slice a n m := by simp [Act.put, Array.getD_eq_getD_getElem?, s3]
        have isn := run_equal_slice_nil (P := Try.prog) w 22 29 a n m Try.underlying22
        have e' : ((a0.put (some 2) (.slice none 0 0)).put (some 3) (.slice a n m)).eval (.tmp 3) = .slice a n m := e
        simp only [execOp, e']
        simp [Act.eval, binOp, isn, eqGuard]
      · exact h
  · intro b hb
    show gwp _ _ _ _ m_slices_Clone_api_Row_A _ _
    simp only [m_slices_Clone_api_Row_A, m_slices_Clone_api_Row_B, Try.f47]
    by_cases he : a0 = []
    · subst he
      cases b
      · simp -implicitDefEqProofs only [go_sem]
        refine append_nil0 el22 ?_ rfl rfl
        simp -implicitDefEqProofs only [go_sem, Try.results47, cloR_nil]
      · simp -implicitDefEqProofs only [go_sem, Try.results47, cloR_nil]
    · have hne : a0.map cTRow ≠ [] := by simpa using he
      rw [cloR_ne hne]
      cases b
      · simp -implicitDefEqProofs only [go_sem]
        refine append_new (n := 4) (es := []) (xs := a0.map cTRow) el22 (by simp -implicitDefEqProofs only [go_sem]) rfl sizes_nil (by simp -implicitDefEqProofs only [go_sem]) (by simp; omega) hne (by simp -implicitDefEqProofs only [go_sem]) ?_
        simp -implicitDefEqProofs only [go_sem, Try.results47, List.length_nil, Nat.zero_add]
      · exact absurd (by simpa using hb rfl) he
theorem m_bound_right_ev (a0 : TRow) (r0 : Bool) (h : m_bound_right a0 = some r0) (d : Nat) (G : Heap) : Tel Try.prog TB d 24 [.agg ((cTRow a0).map .p)] G (.p (.bool r0)) (G) := by
  unfold m_bound_right at h
  refine Tel.intro mix Try.func24 rfl (Nat.le_of_ble_eq_true rfl) {frzAt := fun t => t == 1 || t == 14} (by kernel_rfl) (by kernel_rfl) ?_
  generalize hQ : callPost _ _ _ _ _ = Q
  rcases ib h with ⟨c1, h⟩ | ⟨c1, h⟩
  · rcases ib h with ⟨c2, h⟩ | ⟨c2, h⟩
    · obtain ⟨r3, hr3, h⟩ := bs h
      simp -implicitDefEqProofs only [go_sem, c1, c2]
      refine call_frz (r' := .p (.bool r3)) (m_term_Right_ev a0.f1 r3 hr3 (d + 1) empty) (by simp -implicitDefEqProofs only [go_sem, c1, c2]) rfl (by simp -implicitDefEqProofs only [go_sem]) (by simp -implicitDefEqProofs only [go_sem]) ?_ rfl rfl
      cases h
      subst hQ
      simp -implicitDefEqProofs only [go_sem, c1, c2, Try.results24]
    · cases h
      subst hQ
      simp -implicitDefEqProofs only [go_sem, c1, c2, Try.results24]
  · cases h
    subst hQ
    simp -implicitDefEqProofs only [go_sem, c1, Try.results24]
theorem m_bound_engine_term_ev (a0 : TBound_engine) (a1 : TTerm) (a2 : Int) (r0 : TTerm × TBound_engine) (h : m_bound_engine_term a0 a1 a2 = some r0) (d : Nat) (G : Heap) (e0 t0 : Nat) (he0 : e0 ≤ d) (hGt0 : G e0 t0 = [.box [.p (.bool a0.f0)]]) : Tel Try.prog TB d 67 [.bp (e0, t0, 0) 0, .agg ((cTTerm a1).map .p), .p (.int .i64 a2)] G (.agg ((cTTerm r0.1).map .p)) (fillKey (G) e0 t0 ([.box [.p (.bool r0.2.f0)]])) := by
  unfold m_bound_engine_term at h
  refine Tel.intro mix Try.func67 rfl (Nat.le_of_ble_eq_true rfl) {frzAt := fun t => t == 4} (by kernel_rfl) (by kernel_rfl) ?_
  have le0 : (e0 ≤ d + 1) = True := by simp; omega
  have qe0 : (e0 = d + 1) = False := by simp; omega
  have pe0 : (d + 1 = e0) = False := by simp; omega
  refine gwp_heap (H' := fillKey (cut d G) e0 t0 [.box [.p (.bool a0.f0)]]) ?_ ?_
  · rw [fill_self (B := cut d G) (a := e0) (b := t0) (by rw [cut_app, if_pos he0]; exact hGt0)]
  generalize hQ : callPost _ _ _ _ _ = Q
  rcases ib h with ⟨c1, h⟩ | ⟨c1, h⟩
  · cases h
    subst hQ
    simp -implicitDefEqProofs only [go_sem, he0, le0, qe0, pe0, c1, Try.results67]
  · cases h
    subst hQ
    simp -implicitDefEqProofs only [go_sem, he0, le0, qe0, pe0, c1, Try.results67]
theorem m_bound_engine_rat_ev (a0 : TBound_engine) (a1 : TRat) (a2 : Int) (r0 : TRat × TBound_engine) (h : m_bound_engine_rat a0 a1 a2 = some r0) (d : Nat) (G : Heap) (e0 t0 : Nat) (he0 : e0 ≤ d) (hGt0 : G e0 t0 = [.box [.p (.bool a0.f0)]]) : Tel Try.prog TB d 74 [.bp (e0, t0, 0) 0, .agg ((cTRat a1).map .p), .p (.int .i64 a2)] G (.agg ((cTRat r0.1).map .p)) (fillKey (G) e0 t0 ([.box [.p (.bool r0.2.f0)]])) := by
  unfold m_bound_engine_rat at h
  refine Tel.intro mix Try.func74 rfl (Nat.le_of_ble_eq_true rfl) {frzAt := fun t => t == 4} (by kernel_rfl) (by kernel_rfl) ?_
  have le0 : (e0 ≤ d + 1) = True := by simp; omega
  have qe0 : (e0 = d + 1) = False := by simp; omega
  have pe0 : (d + 1 = e0) = False := by simp; omega
  refine gwp_heap (H' := fillKey (cut d G) e0 t0 [.box [.p (.bool a0.f0)]]) ?_ ?_
  · rw [fill_self (B := cut d G) (a := e0) (b := t0) (by rw [cut_app, if_pos he0]; exact hGt0)]
  generalize hQ : callPost _ _ _ _ _ = Q
  rcases ib h with ⟨c1, h⟩ | ⟨c1, h⟩
  · cases h
    subst hQ
    simp -implicitDefEqProofs only [go_sem, he0, le0, qe0, pe0, c1, Try.results74]
  · cases h
    subst hQ
    simp -implicitDefEqProofs only [go_sem, he0, le0, qe0, pe0, c1, Try.results74]
end Go.E
end
