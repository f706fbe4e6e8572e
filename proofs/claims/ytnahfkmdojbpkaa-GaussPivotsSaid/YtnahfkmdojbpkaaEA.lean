import Derived.Deep.AppendSrc
import Derived.Deep.MidRow
import Derived.Orders
/-! The engine, part A: values without memory, a heap of named objects, and what of a world they tell. -/
set_option linter.all false
namespace Go.Eng

/-- A value that no later step changes: one cell. -/
inductive PV where
  | int (k : IntKind) (n : Int)
  | bool (b : Bool)
  | str (s : ByteArray)
  | null
  | nfn
  | sl (es : List (List PV))
  | pt (cells : List PV)
  deriving Inhabited

/-- An object's name: how deep the call that made it stands, its slot, its number. -/
abbrev Key := Nat × Nat × Nat

inductive GV where
  | undef
  | p (v : PV)
  | csl (es : List (List PV))
  | tsl (es : List (List PV)) (κ : Key)
  | own (es : List (List PV)) (sz : Nat)
  | obx (cells : List GV)
  | bp (κ : Key) (off : Nat)
  | ep (cells : List PV) (off : Nat)
  | arr (κ : Key) (n sz : Nat)
  | oar (es : List (List PV)) (sz : Nat)
  | ap (κ : Key) (n i off : Nat)
  | fn (f : FuncId) (caps : List GV)
  | agg (cells : List GV)
  | tup (vs : List GV)
  deriving Inhabited

inductive Obj' where
  | box (cells : List GV)
  | tok (n sz : Nat)
  | arr (es : List (List PV))

abbrev Heap := Nat → Nat → List Obj'
def get (G : Heap) (κ : Key) : Option Obj' := (G κ.1 κ.2.1)[κ.2.2]?

/-- Where an object lies. -/
structure RObj where
  b : Nat
  o : Nat
  cap : Nat
  sz : Nat
  deriving Inhabited
abbrev RMap := Key → RObj

/-! ### Values that stay -/
mutual
def PR (M : Nat → Nat → Value → Prop) : PV → Value → Prop
  | .int k n, x => x = .int k n
  | .bool b, x => x = .bool b
  | .str s, x => x = .string s
  | .null, x => x = .pointer none
  | .nfn, x => x = .nilFunc
  | .sl es, x => ∃ a cap, x = .slice a es.length cap ∧ es.length ≤ cap ∧ (a = none → cap = 0) ∧ (es ≠ [] → ∃ b o sz, a = some ⟨b, o, none⟩ ∧ PRss M es b o sz)
  | .pt cs, x => ∃ b o, x = .pointer (some ⟨b, o, none⟩) ∧ PRs M cs b o
def PRs (M : Nat → Nat → Value → Prop) : List PV → Nat → Nat → Prop
  | [], _, _ => True
  | c :: cs, b, o => (∃ v, M b o v ∧ PR M c v) ∧ PRs M cs b (o + 1)
def PRss (M : Nat → Nat → Value → Prop) : List (List PV) → Nat → Nat → Nat → Prop
  | [], _, _, _ => True
  | e :: es, b, o, sz => (e.length = sz ∧ PRs M e b o) ∧ PRss M es b (o + sz) sz
end

mutual
theorem PR.mono {M M' : Nat → Nat → Value → Prop} (h : ∀ b i v, M b i v → M' b i v) : ∀ (p : PV) (x : Value), PR M p x → PR M' p x
  | .int _ _, _, hp => hp
  | .bool _, _, hp => hp
  | .str _, _, hp => hp
  | .null, _, hp => hp
  | .nfn, _, hp => hp
  | .sl es, _, hp => by
    unfold PR at hp ⊢
    obtain ⟨a, cap, h1, h2, h3, h4⟩ := hp
    refine ⟨a, cap, h1, h2, h3, fun hne => ?_⟩
    obtain ⟨b, o, sz, ha, hs⟩ := h4 hne
    exact ⟨b, o, sz, ha, PRss.mono h es b o sz hs⟩
  | .pt cs, _, hp => by
    unfold PR at hp ⊢
    obtain ⟨b, o, h1, h2⟩ := hp
    exact ⟨b, o, h1, PRs.mono h cs b o h2⟩
theorem PRs.mono {M M' : Nat → Nat → Value → Prop} (h : ∀ b i v, M b i v → M' b i v) : ∀ (cs : List PV) (b o : Nat), PRs M cs b o → PRs M' cs b o
  | [], _, _, _ => by unfold PRs; trivial
  | c :: cs, b, o, hp => by
    unfold PRs at hp ⊢
    obtain ⟨⟨v, h1, h2⟩, h3⟩ := hp
    exact ⟨⟨v, h _ _ _ h1, PR.mono h c v h2⟩, PRs.mono h cs b (o + 1) h3⟩
theorem PRss.mono {M M' : Nat → Nat → Value → Prop} (h : ∀ b i v, M b i v → M' b i v) : ∀ (es : List (List PV)) (b o sz : Nat), PRss M es b o sz → PRss M' es b o sz
  | [], _, _, _, _ => by unfold PRss; trivial
  | e :: es, b, o, sz, hp => by
    unfold PRss at hp ⊢
    exact ⟨⟨hp.1.1, PRs.mono h e b o hp.1.2⟩, PRss.mono h es b (o + sz) sz hp.2⟩
end

/-! ### The heap of named objects in a world -/
/-- What is off limits, and the blocks that stay as they are (tables of the library's). -/
structure XS where
  off : Nat → Nat → Prop
  tb : Nat → Option Obj
/-- A cell that reads so, and that no step changes. -/
def Mem (X : XS) (d : Nat) (G : Heap) (R : RMap) (w : World) (b i : Nat) (v : Value) : Prop :=
  w.cell? ⟨b, i, none⟩ = some v ∧ v.oneCell' = true ∧ ¬ X.off b i ∧ ∀ κ o, κ.1 ≤ d → get G κ = some o → (R κ).b = b → ∃ n sz, o = .tok n sz ∧ i < (R κ).o + n * (R κ).sz

mutual
/-- What a value tells of a machine's value, in a call of depth d. -/
def VR (M : Nat → Nat → Value → Prop) (G : Heap) (R : RMap) (d : Nat) : GV → Value → Prop
  | .undef, _ => True
  | .p v, x => PR M v x
  | .csl es, x => PR M (.sl es) x ∧ ∃ a, x = .slice a es.length es.length
  | .tsl es κ, x => PR M (.sl es) x ∧ κ.1 ≤ d ∧ ∃ n sz, get G κ = some (.tok n sz) ∧ es.length ≤ n ∧ (es.length = n → x = .slice (some ⟨(R κ).b, (R κ).o, none⟩) n (R κ).cap)
  | .own _ _, _ => False
  | .obx _, _ => False
  | .oar _ _, _ => False
  | .bp κ off, x => κ.1 ≤ d ∧ (∃ cells, get G κ = some (.box cells)) ∧ x = .pointer (some ⟨(R κ).b, off, none⟩)
  | .ep cells off, x => ∃ b o, x = .pointer (some ⟨b, o + off, none⟩) ∧ PRs M cells b o
  | .arr κ n sz, x => κ.1 ≤ d ∧ (R κ).sz = sz ∧ ∃ es, get G κ = some (.arr es) ∧ n ≤ es.length ∧ ∃ b o c, x = .slice (some ⟨b, o, none⟩) n c ∧ (es.length = n → b = (R κ).b ∧ o = (R κ).o ∧ c = (R κ).cap)
  | .ap κ n i off, x => κ.1 ≤ d ∧ i < n ∧ ∃ es, get G κ = some (.arr es) ∧ n ≤ es.length ∧ ∃ b o, x = .pointer (some ⟨b, o + i * (R κ).sz + off, none⟩) ∧ (es.length = n → b = (R κ).b ∧ o = (R κ).o)
  | .fn f caps, x => ∃ vs : List Value, x = .func (.func f) #[] vs.toArray ∧ VRs M G R d caps vs
  | .agg cells, x => ∃ vs : List Value, x = .agg vs.toArray ∧ (∀ v ∈ vs, v.oneCell' = true) ∧ VRs M G R d cells vs
  | .tup gs, x => ∃ vs : List Value, x = .tuple vs.toArray ∧ VRs M G R d gs vs
def VRs (M : Nat → Nat → Value → Prop) (G : Heap) (R : RMap) (d : Nat) : List GV → List Value → Prop
  | [], [] => True
  | g :: gs, v :: vs => VR M G R d g v ∧ VRs M G R d gs vs
  | _, _ => False
end

/-- One state tells all that the other one told. -/
structure Ext (d : Nat) (M : Nat → Nat → Value → Prop) (G : Heap) (R : RMap) (M' : Nat → Nat → Value → Prop) (G' : Heap) (R' : RMap) : Prop where
  mem : ∀ b i v, M b i v → M' b i v
  box : ∀ κ cs, κ.1 ≤ d → get G κ = some (.box cs) → (∃ cs', get G' κ = some (.box cs')) ∧ R' κ = R κ
  tok : ∀ κ n sz, κ.1 ≤ d → get G κ = some (.tok n sz) → ∃ n', get G' κ = some (.tok n' sz) ∧ n ≤ n' ∧ (n = n' → R' κ = R κ)
  arr : ∀ κ es, κ.1 ≤ d → get G κ = some (.arr es) → (R' κ).sz = (R κ).sz ∧ ∃ es', get G' κ = some (.arr es') ∧ es.length ≤ es'.length ∧ (es.length = es'.length → R' κ = R κ)

theorem Ext.refl (d : Nat) (M : Nat → Nat → Value → Prop) (G : Heap) (R : RMap) : Ext d M G R M G R :=
  ⟨fun _ _ _ h => h, fun _ cs _ h => ⟨⟨cs, h⟩, rfl⟩, fun _ n _ _ h => ⟨n, h, Nat.le_refl _, fun _ => rfl⟩, fun _ es _ h => ⟨rfl, es, h, Nat.le_refl _, fun _ => rfl⟩⟩
theorem Ext.trans {d : Nat} {M M' M'' : Nat → Nat → Value → Prop} {G G' G'' : Heap} {R R' R'' : RMap} (h : Ext d M G R M' G' R') (h' : Ext d M' G' R' M'' G'' R'') : Ext d M G R M'' G'' R'' where
  mem b i v hm := h'.mem b i v (h.mem b i v hm)
  box κ cs hk hg := by
    obtain ⟨⟨cs', h1⟩, h2⟩ := h.box κ cs hk hg
    obtain ⟨h3, h4⟩ := h'.box κ cs' hk h1
    exact ⟨h3, h4.trans h2⟩
  tok κ n sz hk hg := by
    obtain ⟨n', h1, h2, h3⟩ := h.tok κ n sz hk hg
    obtain ⟨n'', h4, h5, h6⟩ := h'.tok κ n' sz hk h1
    exact ⟨n'', h4, Nat.le_trans h2 h5, fun e => (h6 (by omega)).trans (h3 (by omega))⟩
  arr κ es hk hg := by
    obtain ⟨h0, es', h1, h2, h3⟩ := h.arr κ es hk hg
    obtain ⟨h0', es'', h4, h5, h6⟩ := h'.arr κ es' hk h1
    exact ⟨h0'.trans h0, es'', h4, Nat.le_trans h2 h5, fun e => (h6 (by omega)).trans (h3 (by omega))⟩
theorem Ext.le {d d' : Nat} (hd : d' ≤ d) {M M' : Nat → Nat → Value → Prop} {G G' : Heap} {R R' : RMap} (h : Ext d M G R M' G' R') : Ext d' M G R M' G' R' :=
  ⟨h.mem, fun κ cs hk => h.box κ cs (Nat.le_trans hk hd), fun κ n sz hk => h.tok κ n sz (Nat.le_trans hk hd), fun κ es hk => h.arr κ es (Nat.le_trans hk hd)⟩

mutual
theorem VR.ext {d : Nat} {M M' : Nat → Nat → Value → Prop} {G G' : Heap} {R R' : RMap} (h : Ext d M G R M' G' R') : ∀ (g : GV) (x : Value), VR M G R d g x → VR M' G' R' d g x
  | .undef, _, _ => by unfold VR; trivial
  | .p v, _, hv => by unfold VR at hv ⊢; exact PR.mono h.mem _ _ hv
  | .csl es, _, hv => by unfold VR at hv ⊢; exact ⟨PR.mono h.mem _ _ hv.1, hv.2⟩
  | .tsl es κ, x, hv => by
    unfold VR at hv ⊢
    obtain ⟨h1, h2, n, sz, h3, h4, h5⟩ := hv
    obtain ⟨n', h6, h7, h8⟩ := h.tok κ n sz h2 h3
    exact ⟨PR.mono h.mem _ _ h1, h2, n', sz, h6, Nat.le_trans h4 h7, fun e => by
      have e' : n = n' := by omega
      rw [h8 e', ← e']
      exact h5 (by omega)⟩
  | .own _ _, _, hv => by unfold VR at hv; exact hv.elim
  | .obx _, _, hv => by unfold VR at hv; exact hv.elim
  | .bp κ off, _, hv => by
    unfold VR at hv ⊢
    obtain ⟨h1, ⟨cs, h2⟩, h3⟩ := hv
    obtain ⟨h4, h5⟩ := h.box κ cs h1 h2
    exact ⟨h1, h4, by rw [h5]; exact h3⟩
  | .ep cells off, _, hv => by
    unfold VR at hv ⊢
    obtain ⟨b, o, h1, h2⟩ := hv
    exact ⟨b, o, h1, PRs.mono h.mem _ _ _ h2⟩
  | .oar _ _, _, hv => by unfold VR at hv; exact hv.elim
  | .arr κ n sz, _, hv => by
    unfold VR at hv ⊢
    obtain ⟨h1, h2, es, h3, h4, b, o, c, h5, h6⟩ := hv
    obtain ⟨h7, es', h8, h9, h10⟩ := h.arr κ es h1 h3
    exact ⟨h1, h7.trans h2, es', h8, Nat.le_trans h4 h9, b, o, c, h5, fun e => by rw [h10 (by omega)]; exact h6 (by omega)⟩
  | .ap κ n i off, _, hv => by
    unfold VR at hv ⊢
    obtain ⟨h1, h2, es, h3, h4, b, o, h5, h6⟩ := hv
    obtain ⟨h7, es', h8, h9, h10⟩ := h.arr κ es h1 h3
    exact ⟨h1, h2, es', h8, Nat.le_trans h4 h9, b, o, by rw [h7]; exact h5, fun e => by rw [h10 (by omega)]; exact h6 (by omega)⟩
  | .fn f caps, _, hv => by
    unfold VR at hv ⊢
    obtain ⟨vs, h1, h2⟩ := hv
    exact ⟨vs, h1, VRs.ext h caps vs h2⟩
  | .agg cells, _, hv => by
    unfold VR at hv ⊢
    obtain ⟨vs, h1, h0, h2⟩ := hv
    exact ⟨vs, h1, h0, VRs.ext h cells vs h2⟩
  | .tup cells, _, hv => by
    unfold VR at hv ⊢
    obtain ⟨vs, h1, h2⟩ := hv
    exact ⟨vs, h1, VRs.ext h cells vs h2⟩
theorem VRs.ext {d : Nat} {M M' : Nat → Nat → Value → Prop} {G G' : Heap} {R R' : RMap} (h : Ext d M G R M' G' R') : ∀ (gs : List GV) (vs : List Value), VRs M G R d gs vs → VRs M' G' R' d gs vs
  | [], [], _ => by unfold VRs; trivial
  | g :: gs, v :: vs, hv => by
    unfold VRs at hv ⊢
    exact ⟨VR.ext h g v hv.1, VRs.ext h gs vs hv.2⟩
  | [], _ :: _, hv => by unfold VRs at hv; exact hv.elim
  | _ :: _, [], hv => by unfold VRs at hv; exact hv.elim
end

mutual
theorem VR.deeper {M : Nat → Nat → Value → Prop} {G : Heap} {R : RMap} {d d' : Nat} (hd : d ≤ d') : ∀ (g : GV) (x : Value), VR M G R d g x → VR M G R d' g x
  | .undef, _, _ => by unfold VR; trivial
  | .p v, _, hv => by unfold VR at hv ⊢; exact hv
  | .csl es, _, hv => by unfold VR at hv ⊢; exact hv
  | .tsl es κ, x, hv => by unfold VR at hv ⊢; exact ⟨hv.1, Nat.le_trans hv.2.1 hd, hv.2.2⟩
  | .own _ _, _, hv => by unfold VR at hv; exact hv.elim
  | .obx _, _, hv => by unfold VR at hv; exact hv.elim
  | .oar _ _, _, hv => by unfold VR at hv; exact hv.elim
  | .bp κ off, _, hv => by unfold VR at hv ⊢; exact ⟨Nat.le_trans hv.1 hd, hv.2⟩
  | .ep cells off, _, hv => by unfold VR at hv ⊢; exact hv
  | .arr κ n _, _, hv => by unfold VR at hv ⊢; exact ⟨Nat.le_trans hv.1 hd, hv.2⟩
  | .ap κ _ _ _, _, hv => by unfold VR at hv ⊢; exact ⟨Nat.le_trans hv.1 hd, hv.2⟩
  | .fn f caps, _, hv => by
    unfold VR at hv ⊢
    obtain ⟨vs, h1, h2⟩ := hv
    exact ⟨vs, h1, VRs.deeper hd caps vs h2⟩
  | .agg cells, _, hv => by
    unfold VR at hv ⊢
    obtain ⟨vs, h1, h0, h2⟩ := hv
    exact ⟨vs, h1, h0, VRs.deeper hd cells vs h2⟩
  | .tup cells, _, hv => by
    unfold VR at hv ⊢
    obtain ⟨vs, h1, h2⟩ := hv
    exact ⟨vs, h1, VRs.deeper hd cells vs h2⟩
theorem VRs.deeper {M : Nat → Nat → Value → Prop} {G : Heap} {R : RMap} {d d' : Nat} (hd : d ≤ d') : ∀ (gs : List GV) (vs : List Value), VRs M G R d gs vs → VRs M G R d' gs vs
  | [], [], _ => by unfold VRs; trivial
  | g :: gs, v :: vs, hv => by
    unfold VRs at hv ⊢
    exact ⟨VR.deeper hd g v hv.1, VRs.deeper hd gs vs hv.2⟩
  | [], _ :: _, hv => by unfold VRs at hv; exact hv.elim
  | _ :: _, [], hv => by unfold VRs at hv; exact hv.elim
end

/-! ### Objects laid and written -/
def fillKey (G : Heap) (d0 t0 : Nat) (os : List Obj') : Heap := fun d t => if d = d0 ∧ t = t0 then os else G d t
def setKey (G : Heap) (κ : Key) (o : Obj') : Heap := fun d t => if d = κ.1 ∧ t = κ.2.1 then (G d t).set κ.2.2 o else G d t
def setR (R : RMap) (κ : Key) (r : RObj) : RMap := fun k => if k = κ then r else R k
theorem get_fillKey (G : Heap) (d0 t0 : Nat) (os : List Obj') (κ : Key) : get (fillKey G d0 t0 os) κ = if κ.1 = d0 ∧ κ.2.1 = t0 then os[κ.2.2]? else get G κ := by
  unfold get fillKey
  split <;> rfl
theorem get_setKey (G : Heap) (κ κ' : Key) (o : Obj') : get (setKey G κ o) κ' = if κ' = κ then (get G κ).map (fun _ => o) else get G κ' := by
  obtain ⟨a, b, c⟩ := κ
  obtain ⟨a', b', c'⟩ := κ'
  unfold get setKey
  by_cases h : a' = a ∧ b' = b
  · obtain ⟨rfl, rfl⟩ := h
    by_cases hc : c' = c
    · subst hc
      simp only [and_self, if_true]
      rw [List.getElem?_set_self']
      cases (G a' b')[c']? <;> rfl
    · have : ¬ ((a', b', c') : Key) = (a', b', c) := fun e => hc (by injection e with _ e; injection e)
      rw [if_neg this]
      simp only [and_self, if_true]
      rw [List.getElem?_set_ne (fun e => hc e.symm)]
  · have : ¬ ((a', b', c') : Key) = (a, b, c) := fun e => h (by injection e with e1 e; injection e with e2 e3; exact ⟨e1, e2⟩)
    rw [if_neg this]
    simp only [h, if_false]

def OK (X : XS) (d : Nat) (G : Heap) (R : RMap) (w : World) (κ : Key) : Obj' → Prop
  | .box cells => ∃ cs T, w.heap[(R κ).b]? = some (.cells cs T (0, 0)) ∧ (∀ v ∈ cs.toList, v.oneCell' = true) ∧ VRs (Mem X d G R w) G R κ.1 cells cs.toList
  | .tok n sz => (∃ cs T, w.heap[(R κ).b]? = some (.cells cs T (0, 0)) ∧ n ≤ (R κ).cap ∧ (R κ).o + (R κ).cap * (R κ).sz ≤ cs.size) ∧ (R κ).sz = sz
  | .arr es => ∃ cs T, w.heap[(R κ).b]? = some (.cells cs T (0, 0)) ∧ es.length ≤ (R κ).cap ∧ (R κ).o + (R κ).cap * (R κ).sz ≤ cs.size ∧
      ∀ i e, es[i]? = some e → e.length = (R κ).sz ∧ ∀ j c, e[j]? = some c → ∃ v, cs[(R κ).o + i * (R κ).sz + j]? = some v ∧ v.oneCell' = true ∧ PR (Mem X d G R w) c v

structure Sim (X : XS) (d : Nat) (G : Heap) (R : RMap) (w : World) : Prop where
  inj : ∀ κ κ' o o', κ.1 ≤ d → κ'.1 ≤ d → get G κ = some o → get G κ' = some o' → (R κ).b = (R κ').b → κ = κ'
  obj : ∀ κ o, κ.1 ≤ d → get G κ = some o → OK X d G R w κ o
  off : ∀ b i, X.off b i → b < w.heap.size
  apart : ∀ κ o, κ.1 ≤ d → get G κ = some o → ∀ i, ¬ X.off (R κ).b i
  tab : ∀ b o, X.tb b = some o → w.heap[b]? = some o ∧ ∀ κ o', κ.1 ≤ d → get G κ = some o' → (R κ).b ≠ b

/-- An object's block is there. -/
theorem Sim.lt {X : XS} {d : Nat} {G : Heap} {R : RMap} {w : World} (hs : Sim X d G R w) {κ : Key} {o : Obj'} (hk : κ.1 ≤ d) (hg : get G κ = some o) : (R κ).b < w.heap.size := by
  have h := hs.obj κ o hk hg
  have : ∃ cs T, w.heap[(R κ).b]? = some (.cells cs T (0, 0)) := by
    cases o with
    | box cells => obtain ⟨cs, T, h, _⟩ := h; exact ⟨cs, T, h⟩
    | tok n sz => obtain ⟨⟨cs, T, h, _⟩, _⟩ := h; exact ⟨cs, T, h⟩
    | arr es => obtain ⟨cs, T, h, _⟩ := h; exact ⟨cs, T, h⟩
  obtain ⟨cs, T, h⟩ := this
  exact (Array.getElem?_eq_some_iff.1 h).1

/-- What lies outside the heap is as it was. -/
def SameEnv (w w' : World) : Prop := w'.os = w.os ∧ w'.tape = w.tape ∧ w'.output = w.output
theorem SameEnv.refl (w : World) : SameEnv w w := ⟨rfl, rfl, rfl⟩
theorem SameEnv.trans {w w' w'' : World} (h : SameEnv w w') (h' : SameEnv w' w'') : SameEnv w w'' := ⟨h'.1.trans h.1, h'.2.1.trans h.2.1, h'.2.2.trans h.2.2⟩
/-- New blocks alone. -/
structure Grows (w w' : World) : Prop where
  size : w.heap.size ≤ w'.heap.size
  old : ∀ b, b < w.heap.size → w'.heap[b]? = w.heap[b]?
  env : SameEnv w w'
theorem Grows.refl (w : World) : Grows w w := ⟨Nat.le_refl _, fun _ _ => rfl, .refl _⟩
theorem Grows.trans {w w' w'' : World} (h : Grows w w') (h' : Grows w' w'') : Grows w w'' :=
  ⟨Nat.le_trans h.size h'.size, fun b hb => (h'.old b (Nat.lt_of_lt_of_le hb h.size)).trans (h.old b hb), h.env.trans h'.env⟩
theorem Grows.drew (w : World) : Grows w w.drew := ⟨Nat.le_refl _, fun _ _ => rfl, rfl, rfl, rfl⟩
theorem Grows.alloc (w : World) (o : Obj) : Grows w (w.alloc o) :=
  ⟨by show w.heap.size ≤ (w.heap.push o).size; simp, fun b hb => heap_alloc_old w o b hb, rfl, rfl, rfl⟩
theorem cell_heap (w w' : World) (a : Addr) (h : w'.heap[a.block]? = w.heap[a.block]?) : w'.cell? a = w.cell? a := by
  unfold World.cell?
  rw [h]
theorem Grows.cell {w w' : World} (h : Grows w w') {a : Addr} {v : Value} (hc : w.cell? a = some v) : w'.cell? a = some v := by
  rw [cell_heap w w' a (h.old _ (block_lt_of_cell hc))]; exact hc

theorem Mem.grow {X : XS} {d : Nat} {G : Heap} {R : RMap} {w w' : World} (h : Grows w w') (b i : Nat) (v : Value) (hm : Mem X d G R w b i v) : Mem X d G R w' b i v :=
  ⟨h.cell hm.1, hm.2⟩
theorem Ext.grow {X : XS} {d : Nat} {G : Heap} {R : RMap} {w w' : World} (h : Grows w w') : Ext d (Mem X d G R w) G R (Mem X d G R w') G R :=
  { Ext.refl d (Mem X d G R w) G R with mem := Mem.grow h }
/-- What an object was told to be it is in a state that tells all. -/
theorem OK.ext' {X X' : XS} {d d' : Nat} {G G' : Heap} {R R' : RMap} {w w' : World} {κ : Key} (hx : Ext κ.1 (Mem X d G R w) G R (Mem X' d' G' R' w') G' R') (hR : R' κ = R κ) (hh : w'.heap[(R κ).b]? = w.heap[(R κ).b]?) {o : Obj'}
    (h : OK X d G R w κ o) : OK X' d' G' R' w' κ o := by
  cases o with
  | box cells =>
    obtain ⟨cs, T, h1, h2, h3⟩ := h
    exact ⟨cs, T, by rw [hR, hh]; exact h1, h2, VRs.ext hx _ _ h3⟩
  | tok n sz =>
    obtain ⟨⟨cs, T, h1, h2⟩, h3⟩ := h
    exact ⟨⟨cs, T, by rw [hR, hh]; exact h1, by rw [hR]; exact h2⟩, by rw [hR]; exact h3⟩
  | arr es =>
    obtain ⟨cs, T, h1, h2, h3, h4⟩ := h
    refine ⟨cs, T, by rw [hR, hh]; exact h1, by rw [hR]; exact h2, by rw [hR]; exact h3, fun i e he => ?_⟩
    obtain ⟨h5, h6⟩ := h4 i e he
    refine ⟨by rw [hR]; exact h5, fun j c hc => ?_⟩
    obtain ⟨v, h7, h8, h9⟩ := h6 j c hc
    exact ⟨v, by rw [hR]; exact h7, h8, PR.mono hx.mem _ _ h9⟩
theorem OK.ext {X X' : XS} {d : Nat} {G G' : Heap} {R R' : RMap} {w w' : World} {κ : Key} (hk : κ.1 ≤ d) (hx : Ext d (Mem X d G R w) G R (Mem X' d G' R' w') G' R') (hR : R' κ = R κ) (hh : w'.heap[(R κ).b]? = w.heap[(R κ).b]?) {o : Obj'}
    (h : OK X d G R w κ o) : OK X' d G' R' w' κ o := h.ext' (hx.le hk) hR hh

theorem Sim.grow {X : XS} {d : Nat} {G : Heap} {R : RMap} {w w' : World} (hs : Sim X d G R w) (h : Grows w w') : Sim X d G R w' :=
  ⟨hs.inj, fun κ o hk hg => (hs.obj κ o hk hg).ext hk (Ext.grow h) rfl (h.old _ (hs.lt hk hg)), fun b i hX => Nat.lt_of_lt_of_le (hs.off b i hX) h.size, hs.apart, fun b o hb => ⟨(h.old b (Array.getElem?_eq_some_iff.1 (hs.tab b o hb).1).1).trans (hs.tab b o hb).1, (hs.tab b o hb).2⟩⟩

/-- A new object in a new block. -/
theorem Sim.fill {X : XS} {d : Nat} {G : Heap} {R : RMap} {w w' : World} (hs : Sim X d G R w) (h : Grows w w') {d0 t0 : Nat} (hd : d0 ≤ d) (he : G d0 t0 = []) (o : Obj') (r : RObj) (hb : w.heap.size ≤ r.b)
    (hok : ∀ (M' : Nat → Nat → Value → Prop) (G' : Heap) (R' : RMap), Ext d (Mem X d G R w) G R M' G' R' → (∀ b i v, M' b i v ↔ Mem X d G' R' w' b i v) → R' (d0, t0, 0) = r → OK X d G' R' w' (d0, t0, 0) o) :
    Sim X d (fillKey G d0 t0 [o]) (setR R (d0, t0, 0) r) w' ∧ Ext d (Mem X d G R w) G R (Mem X d (fillKey G d0 t0 [o]) (setR R (d0, t0, 0) r) w') (fillKey G d0 t0 [o]) (setR R (d0, t0, 0) r) := by
  have hno : ∀ κ : Key, get G κ ≠ none → κ ≠ (d0, t0, 0) := fun κ hk e => hk (by rw [e]; simp [get, he])
  have hg' : ∀ κ o', get G κ = some o' → get (fillKey G d0 t0 [o]) κ = some o' := fun κ o' hk => by
    rw [get_fillKey, if_neg, hk]
    rintro ⟨e1, e2⟩
    have : get G κ = none := by unfold get; rw [e1, e2, he]; rfl
    rw [hk] at this; cases this
  have hR : ∀ κ o', get G κ = some o' → setR R (d0, t0, 0) r κ = R κ := fun κ o' hk => by
    unfold setR; rw [if_neg (hno κ (by rw [hk]; simp))]
  have hcases : ∀ κ o', get (fillKey G d0 t0 [o]) κ = some o' → (κ = (d0, t0, 0) ∧ o' = o) ∨ get G κ = some o' := fun κ o' hk => by
    obtain ⟨a, b, c⟩ := κ
    rw [get_fillKey] at hk
    split at hk
    · rename_i e
      cases c with
      | zero => left; simp at hk; exact ⟨by rw [show a = d0 from e.1, show b = t0 from e.2], hk.symm⟩
      | succ c => simp at hk
    · exact .inr hk
  have hmem : ∀ b i v, Mem X d G R w b i v → Mem X d (fillKey G d0 t0 [o]) (setR R (d0, t0, 0) r) w' b i v := fun b i v hm => by
    refine ⟨h.cell hm.1, hm.2.1, hm.2.2.1, fun κ o' hk hg hbb => ?_⟩
    rcases hcases κ o' hg with ⟨rfl, rfl⟩ | hg0
    · exfalso
      have hlt := block_lt_of_cell hm.1
      simp only [setR, if_true] at hbb
      simp only at hlt
      omega
    · rw [hR κ o' hg0] at hbb ⊢
      exact hm.2.2.2 κ o' hk hg0 hbb
  have hx : Ext d (Mem X d G R w) G R (Mem X d (fillKey G d0 t0 [o]) (setR R (d0, t0, 0) r) w') (fillKey G d0 t0 [o]) (setR R (d0, t0, 0) r) :=
    ⟨hmem, fun κ cs _ hg => ⟨⟨cs, hg' κ _ hg⟩, hR κ _ hg⟩, fun κ n _ _ hg => ⟨n, hg' κ _ hg, Nat.le_refl _, fun _ => hR κ _ hg⟩, fun κ es _ hg => ⟨by rw [hR κ _ hg], es, hg' κ _ hg, Nat.le_refl _, fun _ => hR κ _ hg⟩⟩
  refine ⟨⟨fun κ κ' o1 o2 h1 h2 hg1 hg2 hbb => ?_, fun κ o' hk hg => ?_, fun b i hX => Nat.lt_of_lt_of_le (hs.off b i hX) h.size, fun κ o' hk hg i hX => ?_, fun b o' htb => ?_⟩, hx⟩
  · rcases hcases κ o1 hg1 with ⟨rfl, rfl⟩ | hg1' <;> rcases hcases κ' o2 hg2 with ⟨rfl, rfl⟩ | hg2'
    · rfl
    · rw [hR κ' o2 hg2'] at hbb
      have := hs.lt h2 hg2'
      simp only [setR, if_true] at hbb
      omega
    · rw [hR κ o1 hg1'] at hbb
      have := hs.lt h1 hg1'
      simp only [setR, if_true] at hbb
      omega
    · rw [hR κ o1 hg1', hR κ' o2 hg2'] at hbb
      exact hs.inj κ κ' o1 o2 h1 h2 hg1' hg2' hbb
  · rcases hcases κ o' hg with ⟨rfl, rfl⟩ | hg0
    · exact hok _ _ _ hx (fun _ _ _ => Iff.rfl) (by simp [setR])
    · exact (hs.obj κ o' hk hg0).ext hk hx (hR κ o' hg0) (h.old _ (hs.lt hk hg0))
  · rcases hcases κ o' hg with ⟨rfl, rfl⟩ | hg0
    · have := hs.off _ _ hX
      simp only [setR, if_true] at this
      omega
    · rw [hR κ o' hg0] at hX
      exact hs.apart κ o' hk hg0 i hX
  · obtain ⟨h1, h2⟩ := hs.tab b o' htb
    have hlt := (Array.getElem?_eq_some_iff.1 h1).1
    refine ⟨(h.old b hlt).trans h1, fun κ o1 hk hg hbb => ?_⟩
    rcases hcases κ o1 hg with ⟨rfl, rfl⟩ | hg0
    · simp only [setR, if_true] at hbb
      omega
    · rw [hR κ o1 hg0] at hbb
      exact h2 κ o1 hk hg0 hbb

/-- One object changed. -/
theorem Sim.change {X : XS} {d : Nat} {G G' : Heap} {R R' : RMap} {w w' : World} (hs : Sim X d G R w) {κ0 : Key} {o0 o' : Obj'} (hk0 : κ0.1 ≤ d) (h0 : get G κ0 = some o0)
    (hold : ∀ b, b < w.heap.size → b ≠ (R κ0).b → w'.heap[b]? = w.heap[b]?)
    (hg : ∀ κ, get G' κ = if κ = κ0 then some o' else get G κ) (hr : ∀ κ, κ ≠ κ0 → R' κ = R κ) (hb : (R' κ0).b = (R κ0).b ∨ w.heap.size ≤ (R' κ0).b)
    (hx : Ext d (Mem X d G R w) G R (Mem X d G' R' w') G' R') (hok : OK X d G' R' w' κ0 o') (hsz0 : w.heap.size ≤ w'.heap.size) : Sim X d G' R' w' := by
  refine ⟨fun κ κ' o1 o2 h1 h2 hg1 hg2 hbb => ?_, fun κ o hk hgk => ?_, fun b i hX => Nat.lt_of_lt_of_le (hs.off b i hX) hsz0, fun κ o hk hgk i hX => ?_, fun b o htb => ?_⟩
  · rw [hg] at hg1 hg2
    by_cases e1 : κ = κ0
    · by_cases e2 : κ' = κ0
      · rw [e1, e2]
      · rw [if_neg e2] at hg2
        rw [hr κ' e2, e1] at hbb
        have hl := hs.lt h2 hg2
        rcases hb with hb | hb
        · rw [hb] at hbb
          exact absurd (hs.inj κ0 κ' _ _ hk0 h2 h0 hg2 hbb).symm e2
        · omega
    · rw [if_neg e1] at hg1
      by_cases e2 : κ' = κ0
      · rw [hr κ e1, e2] at hbb
        have hl := hs.lt h1 hg1
        rcases hb with hb | hb
        · rw [hb] at hbb
          exact absurd (hs.inj κ κ0 _ _ h1 hk0 hg1 h0 hbb) e1
        · omega
      · rw [if_neg e2] at hg2
        rw [hr κ e1, hr κ' e2] at hbb
        exact hs.inj κ κ' _ _ h1 h2 hg1 hg2 hbb
  · rw [hg] at hgk
    by_cases e1 : κ = κ0
    · rw [if_pos e1] at hgk
      cases hgk
      rw [e1]; exact hok
    · rw [if_neg e1] at hgk
      refine (hs.obj κ o hk hgk).ext hk hx (hr κ e1) (hold _ (hs.lt hk hgk) fun e => e1 (hs.inj κ κ0 _ _ hk hk0 hgk h0 e))
  · rw [hg] at hgk
    by_cases e1 : κ = κ0
    · rw [e1] at hX
      rcases hb with hb | hb
      · rw [hb] at hX; exact hs.apart κ0 o0 hk0 h0 i hX
      · have := hs.off _ _ hX; omega
    · rw [if_neg e1] at hgk
      rw [hr κ e1] at hX
      exact hs.apart κ o hk hgk i hX
  · obtain ⟨h1, h2⟩ := hs.tab b o htb
    have hlt := (Array.getElem?_eq_some_iff.1 h1).1
    refine ⟨(hold b hlt fun e => h2 κ0 o0 hk0 h0 e.symm).trans h1, fun κ o1 hk hgk hbb => ?_⟩
    rw [hg] at hgk
    by_cases e1 : κ = κ0
    · rw [e1] at hbb
      rcases hb with hb | hb
      · rw [hb] at hbb; exact h2 κ0 o0 hk0 h0 hbb
      · omega
    · rw [if_neg e1] at hgk
      rw [hr κ e1] at hbb
      exact h2 κ o1 hk hgk hbb

/-- A box is written. -/
theorem Sim.write {X : XS} {d : Nat} {G : Heap} {R : RMap} {w w' : World} (hs : Sim X d G R w) {κ0 : Key} {cells cells' : List GV} (hk0 : κ0.1 ≤ d) (h0 : get G κ0 = some (.box cells))
    (hsz : w.heap.size ≤ w'.heap.size) (hold : ∀ b, b < w.heap.size → b ≠ (R κ0).b → w'.heap[b]? = w.heap[b]?)
    {cs' : Array Value} {T : TypeId} (hc : w'.heap[(R κ0).b]? = some (.cells cs' T (0, 0))) (h1 : ∀ v ∈ cs'.toList, v.oneCell' = true) (hv : VRs (Mem X d G R w) G R κ0.1 cells' cs'.toList) :
    Sim X d (setKey G κ0 (.box cells')) R w' ∧ Ext d (Mem X d G R w) G R (Mem X d (setKey G κ0 (.box cells')) R w') (setKey G κ0 (.box cells')) R := by
  have hg : ∀ κ, get (setKey G κ0 (.box cells')) κ = if κ = κ0 then some (.box cells') else get G κ := fun κ => by
    rw [get_setKey, h0]; rfl
  have hx : Ext d (Mem X d G R w) G R (Mem X d (setKey G κ0 (.box cells')) R w') (setKey G κ0 (.box cells')) R := by
    refine ⟨fun b i v hm => ?_, fun κ cs hk hgk => ⟨?_, rfl⟩, fun κ n _ hk hgk => ⟨n, ?_, Nat.le_refl _, fun _ => rfl⟩, fun κ es hk hgk => ⟨rfl, es, ?_, Nat.le_refl _, fun _ => rfl⟩⟩
    · have hbne : b ≠ (R κ0).b := fun e => by
        obtain ⟨n, _, hn, _⟩ := hm.2.2.2 κ0 _ hk0 h0 e.symm
        cases hn
      have hlt : b < w.heap.size := block_lt_of_cell hm.1
      refine ⟨by rw [cell_heap w w' _ (hold b hlt hbne)]; exact hm.1, hm.2.1, hm.2.2.1, fun κ o hk hgk hbb => ?_⟩
      rw [hg] at hgk
      by_cases e : κ = κ0
      · rw [e] at hbb; exact absurd hbb.symm hbne
      · rw [if_neg e] at hgk; exact hm.2.2.2 κ o hk hgk hbb
    · rw [hg]; by_cases e : κ = κ0
      · rw [if_pos e]; exact ⟨_, rfl⟩
      · rw [if_neg e]; exact ⟨_, hgk⟩
    · rw [hg, if_neg, hgk]; rintro rfl; rw [h0] at hgk; cases hgk
    · rw [hg, if_neg, hgk]; rintro rfl; rw [h0] at hgk; cases hgk
  exact ⟨hs.change hk0 h0 hold hg (fun _ _ => rfl) (.inl rfl) hx ⟨cs', T, hc, h1, VRs.ext (hx.le hk0) _ _ hv⟩ hsz, hx⟩

/-- A row of the call's own is filled behind its end. -/
theorem Sim.room {X : XS} {d : Nat} {G : Heap} {R : RMap} {w w' : World} (hs : Sim X d G R w) {κ0 : Key} {n n' sz : Nat} (hk0 : κ0.1 ≤ d) (h0 : get G κ0 = some (.tok n sz)) (hn : n < n') (hcap : n' ≤ (R κ0).cap)
    (hsz : w.heap.size ≤ w'.heap.size) (hold : ∀ b, b < w.heap.size → b ≠ (R κ0).b → w'.heap[b]? = w.heap[b]?)
    {cs cs' : Array Value} {T : TypeId} (hc : w.heap[(R κ0).b]? = some (.cells cs T (0, 0))) (hc' : w'.heap[(R κ0).b]? = some (.cells cs' T (0, 0))) (hsame : cs'.size = cs.size)
    (hpre : ∀ i, i < (R κ0).o + n * (R κ0).sz → cs'[i]? = cs[i]?) :
    Sim X d (setKey G κ0 (.tok n' sz)) R w' ∧ Ext d (Mem X d G R w) G R (Mem X d (setKey G κ0 (.tok n' sz)) R w') (setKey G κ0 (.tok n' sz)) R := by
  have hg : ∀ κ, get (setKey G κ0 (.tok n' sz)) κ = if κ = κ0 then some (.tok n' sz) else get G κ := fun κ => by
    rw [get_setKey, h0]; rfl
  have hx : Ext d (Mem X d G R w) G R (Mem X d (setKey G κ0 (.tok n' sz)) R w') (setKey G κ0 (.tok n' sz)) R := by
    refine ⟨fun b i v hm => ?_, fun κ cs hk hgk => ⟨⟨cs, ?_⟩, rfl⟩, fun κ m _ hk hgk => ?_, fun κ es hk hgk => ⟨rfl, es, ?_, Nat.le_refl _, fun _ => rfl⟩⟩
    · have hlt : b < w.heap.size := block_lt_of_cell hm.1
      refine ⟨?_, hm.2.1, hm.2.2.1, fun κ o hk hgk hbb => ?_⟩
      · by_cases e : b = (R κ0).b
        · obtain ⟨m, _, hm1, hm2⟩ := hm.2.2.2 κ0 _ hk0 h0 e.symm
          cases hm1
          have h1 := hm.1
          subst e
          rw [cell_of_row w _ i cs T _ hc] at h1
          rw [cell_of_row w' _ i cs' T _ hc', hpre i hm2]
          exact h1
        · rw [cell_heap w w' _ (hold b hlt e)]; exact hm.1
      · rw [hg] at hgk
        by_cases e : κ = κ0
        · rw [if_pos e] at hgk
          cases hgk
          rw [e] at hbb ⊢
          obtain ⟨m, _, hm1, hm2⟩ := hm.2.2.2 κ0 _ hk0 h0 hbb
          cases hm1
          refine ⟨_, _, rfl, Nat.lt_of_lt_of_le hm2 ?_⟩
          exact Nat.add_le_add_left (Nat.mul_le_mul_right _ (Nat.le_of_lt hn)) _
        · rw [if_neg e] at hgk; exact hm.2.2.2 κ o hk hgk hbb
    · rw [hg, if_neg, hgk]; rintro rfl; rw [h0] at hgk; cases hgk
    · rw [hg]
      by_cases e : κ = κ0
      · rw [e, h0] at hgk
        cases hgk
        exact ⟨n', by rw [if_pos e], Nat.le_of_lt hn, fun e' => absurd e' (by omega)⟩
      · exact ⟨m, by rw [if_neg e]; exact hgk, Nat.le_refl _, fun _ => rfl⟩
    · rw [hg, if_neg, hgk]; rintro rfl; rw [h0] at hgk; cases hgk
  obtain ⟨⟨cs0, T0, g1, g2, g3⟩, g4⟩ := hs.obj κ0 _ hk0 h0
  rw [hc] at g1
  cases g1
  exact ⟨hs.change hk0 h0 hold hg (fun _ _ => rfl) (.inl rfl) hx ⟨⟨cs', T, hc', hcap, by rw [hsame]; exact g3⟩, g4⟩ hsz, hx⟩

/-- A row of the call's own is laid anew. -/
theorem Sim.anew {X : XS} {d : Nat} {G : Heap} {R : RMap} {w w' : World} (hs : Sim X d G R w) {κ0 : Key} {n n' sz : Nat} (hk0 : κ0.1 ≤ d) (h0 : get G κ0 = some (.tok n sz)) (hn : n < n')
    (h : Grows w w') (r : RObj) (hb : w.heap.size ≤ r.b) {cs' : Array Value} {T : TypeId} (hc' : w'.heap[r.b]? = some (.cells cs' T (0, 0))) (hcap : n' ≤ r.cap) (hsz : r.o + r.cap * r.sz ≤ cs'.size) (hss : r.sz = sz) :
    Sim X d (setKey G κ0 (.tok n' sz)) (setR R κ0 r) w' ∧ Ext d (Mem X d G R w) G R (Mem X d (setKey G κ0 (.tok n' sz)) (setR R κ0 r) w') (setKey G κ0 (.tok n' sz)) (setR R κ0 r) := by
  have hg : ∀ κ, get (setKey G κ0 (.tok n' sz)) κ = if κ = κ0 then some (.tok n' sz) else get G κ := fun κ => by
    rw [get_setKey, h0]; rfl
  have hr : ∀ κ, κ ≠ κ0 → setR R κ0 r κ = R κ := fun κ e => by unfold setR; rw [if_neg e]
  have hr0 : setR R κ0 r κ0 = r := by simp [setR]
  have hx : Ext d (Mem X d G R w) G R (Mem X d (setKey G κ0 (.tok n' sz)) (setR R κ0 r) w') (setKey G κ0 (.tok n' sz)) (setR R κ0 r) := by
    refine ⟨fun b i v hm => ?_, fun κ cs hk hgk => ?_, fun κ m _ hk hgk => ?_, fun κ es hk hgk => ?_⟩
    · have hlt : b < w.heap.size := block_lt_of_cell hm.1
      refine ⟨h.cell hm.1, hm.2.1, hm.2.2.1, fun κ o hk hgk hbb => ?_⟩
      rw [hg] at hgk
      by_cases e : κ = κ0
      · rw [e, hr0] at hbb; omega
      · rw [if_neg e] at hgk; rw [hr κ e] at hbb ⊢; exact hm.2.2.2 κ o hk hgk hbb
    · have e : κ ≠ κ0 := by rintro rfl; rw [h0] at hgk; cases hgk
      exact ⟨⟨cs, by rw [hg, if_neg e, hgk]⟩, hr κ e⟩
    · rw [hg]
      by_cases e : κ = κ0
      · rw [e, h0] at hgk
        cases hgk
        exact ⟨n', by rw [if_pos e], Nat.le_of_lt hn, fun e' => absurd e' (by omega)⟩
      · exact ⟨m, by rw [if_neg e]; exact hgk, Nat.le_refl _, fun _ => hr κ e⟩
    · have e : κ ≠ κ0 := by rintro rfl; rw [h0] at hgk; cases hgk
      exact ⟨by rw [hr κ e], es, by rw [hg, if_neg e, hgk], Nat.le_refl _, fun _ => hr κ e⟩
  exact ⟨hs.change hk0 h0 (fun b hb _ => h.old b hb) hg hr (.inr (by rw [hr0]; exact hb)) hx ⟨⟨cs', T, by rw [hr0]; exact hc', by rw [hr0]; exact hcap, by rw [hr0]; exact hsz⟩, by rw [hr0]; exact hss⟩ h.size, hx⟩
/-- A row that is written grows, in its place or anew. -/
theorem Sim.arrGrow {X : XS} {d : Nat} {G : Heap} {R R' : RMap} {w w' : World} (hs : Sim X d G R w) {κ0 : Key} {es es' : List (List PV)} (hk0 : κ0.1 ≤ d) (h0 : get G κ0 = some (.arr es)) (hlen : es.length < es'.length) (hsz0 : w.heap.size ≤ w'.heap.size)
    (hr : ∀ κ, κ ≠ κ0 → R' κ = R κ) (hb : (R' κ0).b = (R κ0).b ∨ w.heap.size ≤ (R' κ0).b) (hss : (R' κ0).sz = (R κ0).sz) (hold : ∀ b, b < w.heap.size → b ≠ (R κ0).b → w'.heap[b]? = w.heap[b]?)
    {cs' : Array Value} {T : TypeId} (hc : w'.heap[(R' κ0).b]? = some (.cells cs' T (0, 0))) (hcap : es'.length ≤ (R' κ0).cap) (hsz : (R' κ0).o + (R' κ0).cap * (R' κ0).sz ≤ cs'.size)
    (hv : ∀ i e, es'[i]? = some e → e.length = (R' κ0).sz ∧ ∀ j c, e[j]? = some c → ∃ v, cs'[(R' κ0).o + i * (R' κ0).sz + j]? = some v ∧ v.oneCell' = true ∧ PR (Mem X d G R w) c v) :
    Sim X d (setKey G κ0 (.arr es')) R' w' ∧ Ext d (Mem X d G R w) G R (Mem X d (setKey G κ0 (.arr es')) R' w') (setKey G κ0 (.arr es')) R' := by
  have hg : ∀ κ, get (setKey G κ0 (.arr es')) κ = if κ = κ0 then some (.arr es') else get G κ := fun κ => by
    rw [get_setKey, h0]; rfl
  have hx : Ext d (Mem X d G R w) G R (Mem X d (setKey G κ0 (.arr es')) R' w') (setKey G κ0 (.arr es')) R' := by
    refine ⟨fun b i v hm => ?_, fun κ cs hk hgk => ?_, fun κ n _ hk hgk => ?_, fun κ xs hk hgk => ?_⟩
    · have hbne : b ≠ (R κ0).b := fun e => by
        obtain ⟨n, _, hn, _⟩ := hm.2.2.2 κ0 _ hk0 h0 e.symm
        cases hn
      have hlt : b < w.heap.size := block_lt_of_cell hm.1
      refine ⟨by rw [cell_heap w w' _ (hold b hlt hbne)]; exact hm.1, hm.2.1, hm.2.2.1, fun κ o hk hgk hbb => ?_⟩
      rw [hg] at hgk
      by_cases e : κ = κ0
      · rw [e] at hbb
        rcases hb with hb | hb
        · exact absurd (hb.symm.trans hbb).symm hbne
        · omega
      · rw [if_neg e] at hgk; rw [hr κ e] at hbb ⊢; exact hm.2.2.2 κ o hk hgk hbb
    · have e : κ ≠ κ0 := by rintro rfl; rw [h0] at hgk; cases hgk
      exact ⟨⟨cs, by rw [hg, if_neg e, hgk]⟩, hr κ e⟩
    · have e : κ ≠ κ0 := by rintro rfl; rw [h0] at hgk; cases hgk
      exact ⟨n, by rw [hg, if_neg e, hgk], Nat.le_refl _, fun _ => hr κ e⟩
    · rw [hg]
      by_cases e : κ = κ0
      · rw [e, h0] at hgk
        cases hgk
        rw [if_pos e, e]
        exact ⟨hss, es', rfl, Nat.le_of_lt hlen, fun e' => absurd e' (by omega)⟩
      · rw [if_neg e, hr κ e]
        exact ⟨rfl, xs, hgk, Nat.le_refl _, fun _ => rfl⟩
  refine ⟨hs.change hk0 h0 hold hg hr hb hx ⟨cs', T, hc, hcap, hsz, fun i e he => ?_⟩ hsz0, hx⟩
  obtain ⟨h1, h2⟩ := hv i e he
  refine ⟨h1, fun j c hj => ?_⟩
  obtain ⟨v, h3, h4, h5⟩ := h2 j c hj
  exact ⟨v, h3, h4, PR.mono hx.mem _ _ h5⟩
end Go.Eng
