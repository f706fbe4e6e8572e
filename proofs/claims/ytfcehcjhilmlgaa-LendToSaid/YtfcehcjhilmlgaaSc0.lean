import Derived.Deep.AppendSrc
import Derived.Deep.MidRow
import Derived.Orders
section
set_option linter.all false
namespace Go.Eng
inductive PV where
  | int (k : IntKind) (n : Int)
  | bool (b : Bool)
  | str (s : ByteArray)
  | null
  | nfn
  | sl (es : List (List PV))
  | pt (cells : List PV)
  deriving Inhabited
abbrev Key := Nat × Nat × Nat
inductive GV where
  | undef
  | p (v : PV)
  | csl (es : List (List PV))
  | tsl (es : List (List PV)) (κ : Key)
  | own (es : List (List PV)) (sz : Nat)
  | obx (cells : List GV)
  | bp (κ : Key) (off : Nat)
  | ep (cells : List PV) (off : Nat)
  | arr (κ : Key) (n sz : Nat)
  | oar (es : List (List PV)) (sz : Nat)
  | ap (κ : Key) (n i off : Nat)
  | asl (κ : Key) (m lo hi sz : Nat)
  | fn (f : FuncId) (caps : List GV)
  | agg (cells : List GV)
  | tup (vs : List GV)
  deriving Inhabited
inductive Obj' where
  | box (cells : List GV)
  | tok (n sz : Nat)
  | arr (es : List (List PV))
abbrev Heap := Nat → Nat → List Obj'
def get (G : Heap) (κ : Key) : Option Obj' := (G κ.1 κ.2.1)[κ.2.2]?
structure RObj where
  b : Nat
  o : Nat
  cap : Nat
  sz : Nat
  deriving Inhabited
abbrev RMap := Key → RObj
mutual
def PR (M : Nat → Nat → Value → Prop) : PV → Value → Prop
  | .int k n, x => x = .int k n
  | .bool b, x => x = .bool b
  | .str s, x => x = .string s
  | .null, x => x = .pointer none
  | .nfn, x => x = .nilFunc
  | .sl es, x => ∃ a cap, x = .slice a es.length cap ∧ es.length ≤ cap ∧ (a = none → cap = 0) ∧ (es ≠ [] → ∃ b o sz, a = some ⟨b, o, none⟩ ∧ PRss M es b o sz)
  | .pt cs, x => ∃ b o, x = .pointer (some ⟨b, o, none⟩) ∧ PRs M cs b o
def PRs (M : Nat → Nat → Value → Prop) : List PV → Nat → Nat → Prop
  | [], _, _ => True
  | c :: cs, b, o => (∃ v, M b o v ∧ PR M c v) ∧ PRs M cs b (o + 1)
def PRss (M : Nat → Nat → Value → Prop) : List (List PV) → Nat → Nat → Nat → Prop
  | [], _, _, _ => True
  | e :: es, b, o, sz => (e.length = sz ∧ PRs M e b o) ∧ PRss M es b (o + sz) sz
end
mutual
theorem PR.mono {M M' : Nat → Nat → Value → Prop} (h : ∀ b i v, M b i v → M' b i v) : ∀ (p : PV) (x : Value), PR M p x → PR M' p x
  | .int _ _, _, hp => hp
  | .bool _, _, hp => hp
  | .str _, _, hp => hp
  | .null, _, hp => hp
  | .nfn, _, hp => hp
  | .sl es, _, hp => by
    unfold PR at hp ⊢
    obtain ⟨a, cap, h1, h2, h3, h4⟩ := hp
    refine ⟨a, cap, h1, h2, h3, fun hne => ?_⟩
    obtain ⟨b, o, sz, ha, hs⟩ := h4 hne
    exact ⟨b, o, sz, ha, PRss.mono h es b o sz hs⟩
  | .pt cs, _, hp => by
    unfold PR at hp ⊢
    obtain ⟨b, o, h1, h2⟩ := hp
    exact ⟨b, o, h1, PRs.mono h cs b o h2⟩
theorem PRs.mono {M M' : Nat → Nat → Value → Prop} (h : ∀ b i v, M b i v → M' b i v) : ∀ (cs : List PV) (b o : Nat), PRs M cs b o → PRs M' cs b o
  | [], _, _, _ => by unfold PRs; trivial
  | c :: cs, b, o, hp => by
    unfold PRs at hp ⊢
    obtain ⟨⟨v, h1, h2⟩, h3⟩ := hp
    exact ⟨⟨v, h _ _ _ h1, PR.mono h c v h2⟩, PRs.mono h cs b (o + 1) h3⟩
theorem PRss.mono {M M' : Nat → Nat → Value → Prop} (h : ∀ b i v, M b i v → M' b i v) : ∀ (es : List (List PV)) (b o sz : Nat), PRss M es b o sz → PRss M' es b o sz
  | [], _, _, _, _ => by unfold PRss; trivial
  | e :: es, b, o, sz, hp => by
    unfold PRss at hp ⊢
    exact ⟨⟨hp.1.1, PRs.mono h e b o hp.1.2⟩, PRss.mono h es b (o + sz) sz hp.2⟩
end
structure XS where
  off : Nat → Nat → Prop
  tb : Nat → Option Obj
def Mem (X : XS) (d : Nat) (G : Heap) (R : RMap) (w : World) (b i : Nat) (v : Value) : Prop :=
  w.cell? ⟨b, i, none⟩ = some v ∧ v.oneCell' = true ∧ ¬ X.off b i ∧ ∀ κ o, κ.1 ≤ d → get G κ = some o → (R κ).b = b → ∃ n sz, o = .tok n sz ∧ i < (R κ).o + n * (R κ).sz
mutual
def VR (M : Nat → Nat → Value → Prop) (G : Heap) (R : RMap) (d : Nat) : GV → Value → Prop
  | .undef, _ => True
  | .p v, x => PR M v x
  | .csl es, x => PR M (.sl es) x ∧ ∃ a, x = .slice a es.length es.length
  | .tsl es κ, x => PR M (.sl es) x ∧ κ.1 ≤ d ∧ ∃ n sz, get G κ = some (.tok n sz) ∧ es.length ≤ n ∧ (es.length = n → x = .slice (some ⟨(R κ).b, (R κ).o, none⟩) n (R κ).cap)
  | .own _ _, _ => False
  | .obx _, _ => False
  | .oar _ _, _ => False
  | .bp κ off, x => κ.1 ≤ d ∧ (∃ cells, get G κ = some (.box cells)) ∧ x = .pointer (some ⟨(R κ).b, off, none⟩)
  | .ep cells off, x => ∃ b o, x = .pointer (some ⟨b, o + off, none⟩) ∧ PRs M cells b o
  | .arr κ n sz, x => κ.1 ≤ d ∧ (R κ).sz = sz ∧ ∃ es, get G κ = some (.arr es) ∧ n ≤ es.length ∧ ∃ b o c, x = .slice (some ⟨b, o, none⟩) n c ∧ n ≤ c ∧ (es.length = n → b = (R κ).b ∧ o = (R κ).o ∧ c = (R κ).cap)
  | .asl κ m lo hi sz, x => κ.1 ≤ d ∧ lo ≤ hi ∧ hi ≤ m ∧ (R κ).sz = sz ∧ ∃ es, get G κ = some (.arr es) ∧ m ≤ es.length ∧ ∃ a c, x = .slice (some a) (hi - lo) c ∧ hi - lo ≤ c ∧ (es.length = m → lo < hi → a = ⟨(R κ).b, (R κ).o + lo * sz, none⟩)
  | .ap κ n i off, x => κ.1 ≤ d ∧ i < n ∧ ∃ es, get G κ = some (.arr es) ∧ n ≤ es.length ∧ ∃ b o, x = .pointer (some ⟨b, o + i * (R κ).sz + off, none⟩) ∧ (es.length = n → b = (R κ).b ∧ o = (R κ).o)
  | .fn f caps, x => ∃ vs : List Value, x = .func (.func f) #[] vs.toArray ∧ VRs M G R d caps vs
  | .agg cells, x => ∃ vs : List Value, x = .agg vs.toArray ∧ (∀ v ∈ vs, v.oneCell' = true) ∧ VRs M G R d cells vs
  | .tup gs, x => ∃ vs : List Value, x = .tuple vs.toArray ∧ VRs M G R d gs vs
def VRs (M : Nat → Nat → Value → Prop) (G : Heap) (R : RMap) (d : Nat) : List GV → List Value → Prop
  | [], [] => True
  | g :: gs, v :: vs => VR M G R d g v ∧ VRs M G R d gs vs
  | _, _ => False
end
structure Ext (d : Nat) (M : Nat → Nat → Value → Prop) (G : Heap) (R : RMap) (M' : Nat → Nat → Value → Prop) (G' : Heap) (R' : RMap) : Prop where
  mem : ∀ b i v, M b i v → M' b i v
  box : ∀ κ cs, κ.1 ≤ d → get G κ = some (.box cs) → (∃ cs', get G' κ = some (.box cs')) ∧ R' κ = R κ
  tok : ∀ κ n sz, κ.1 ≤ d → get G κ = some (.tok n sz) → ∃ n', get G' κ = some (.tok n' sz) ∧ n ≤ n' ∧ (n = n' → R' κ = R κ)
  arr : ∀ κ es, κ.1 ≤ d → get G κ = some (.arr es) → (R' κ).sz = (R κ).sz ∧ ∃ es', get G' κ = some (.arr es') ∧ es.length ≤ es'.length ∧ (es.length = es'.length → R' κ = R κ)
theorem Ext.refl (d : Nat) (M : Nat → Nat → Value → Prop) (G : Heap) (R : RMap) : Ext d M G R M G R :=
  ⟨fun _ _ _ h => h, fun _ cs _ h => ⟨⟨cs, h⟩, rfl⟩, fun _ n _ _ h => ⟨n, h, Nat.le_refl _, fun _ => rfl⟩, fun _ es _ h => ⟨rfl, es, h, Nat.le_refl _, fun _ => rfl⟩⟩
theorem Ext.trans {d : Nat} {M M' M'' : Nat → Nat → Value → Prop} {G G' G'' : Heap} {R R' R'' : RMap} (h : Ext d M G R M' G' R') (h' : Ext d M' G' R' M'' G'' R'') : Ext d M G R M'' G'' R'' where
  mem b i v hm := h'.mem b i v (h.mem b i v hm)
  box κ cs hk hg := by
    obtain ⟨⟨cs', h1⟩, h2⟩ := h.box κ cs hk hg
    obtain ⟨h3, h4⟩ := h'.box κ cs' hk h1
    exact ⟨h3, h4.trans h2⟩
  tok κ n sz hk hg := by
    obtain ⟨n', h1, h2, h3⟩ := h.tok κ n sz hk hg
    obtain ⟨n'', h4, h5, h6⟩ := h'.tok κ n' sz hk h1
    exact ⟨n'', h4, Nat.le_trans h2 h5, fun e => (h6 (by omega)).trans (h3 (by omega))⟩
  arr κ es hk hg := by
    obtain ⟨h0, es', h1, h2, h3⟩ := h.arr κ es hk hg
    obtain ⟨h0', es'', h4, h5, h6⟩ := h'.arr κ es' hk h1
    exact ⟨h0'.trans h0, es'', h4, Nat.le_trans h2 h5, fun e => (h6 (by omega)).trans (h3 (by omega))⟩
theorem Ext.le {d d' : Nat} (hd : d' ≤ d) {M M' : Nat → Nat → Value → Prop} {G G' : Heap} {R R' : RMap} (h : Ext d M G R M' G' R') : Ext d' M G R M' G' R' :=
  ⟨h.mem, fun κ cs hk => h.box κ cs (Nat.le_trans hk hd), fun κ n sz hk => h.tok κ n sz (Nat.le_trans hk hd), fun κ es hk => h.arr κ es (Nat.le_trans hk hd)⟩
mutual
theorem VR.ext {d : Nat} {M M' : Nat → Nat → Value → Prop} {G G' : Heap} {R R' : RMap} (h : Ext d M G R M' G' R') : ∀ (g : GV) (x : Value), VR M G R d g x → VR M' G' R' d g x
  | .undef, _, _ => by unfold VR; trivial
  | .p v, _, hv => by unfold VR at hv ⊢; exact PR.mono h.mem _ _ hv
  | .csl es, _, hv => by unfold VR at hv ⊢; exact ⟨PR.mono h.mem _ _ hv.1, hv.2⟩
  | .tsl es κ, x, hv => by
    unfold VR at hv ⊢
    obtain ⟨h1, h2, n, sz, h3, h4, h5⟩ := hv
    obtain ⟨n', h6, h7, h8⟩ := h.tok κ n sz h2 h3
    exact ⟨PR.mono h.mem _ _ h1, h2, n', sz, h6, Nat.le_trans h4 h7, fun e => by
      have e' : n = n' := by omega
      rw [h8 e', ← e']
      exact h5 (by omega)⟩
  | .own _ _, _, hv => by unfold VR at hv; exact hv.elim
  | .obx _, _, hv => by unfold VR at hv; exact hv.elim
  | .bp κ off, _, hv => by
    unfold VR at hv ⊢
    obtain ⟨h1, ⟨cs, h2⟩, h3⟩ := hv
    obtain ⟨h4, h5⟩ := h.box κ cs h1 h2
    exact ⟨h1, h4, by rw [h5]; exact h3⟩
  | .ep cells off, _, hv => by
    unfold VR at hv ⊢
    obtain ⟨b, o, h1, h2⟩ := hv
    exact ⟨b, o, h1, PRs.mono h.mem _ _ _ h2⟩
  | .oar _ _, _, hv => by unfold VR at hv; exact hv.elim
  | .arr κ n sz, _, hv => by
    unfold VR at hv ⊢
    obtain ⟨h1, h2, es, h3, h4, b, o, c, h5, hnc, h6⟩ := hv
    obtain ⟨h7, es', h8, h9, h10⟩ := h.arr κ es h1 h3
    exact ⟨h1, h7.trans h2, es', h8, Nat.le_trans h4 h9, b, o, c, h5, hnc, fun e => by rw [h10 (by omega)]; exact h6 (by omega)⟩
  | .asl κ m lo hi sz, x, hv => by
    unfold VR at hv ⊢
    obtain ⟨h1, hl, hh, h2, es, h3, h4, a, c, h5, hnc, h6⟩ := hv
    obtain ⟨h7, es', h8, h9, h10⟩ := h.arr κ es h1 h3
    exact ⟨h1, hl, hh, h7.trans h2, es', h8, Nat.le_trans h4 h9, a, c, h5, hnc, fun e hlt => by rw [h10 (by omega)]; exact h6 (by omega) hlt⟩
  | .ap κ n i off, _, hv => by
    unfold VR at hv ⊢
    obtain ⟨h1, h2, es, h3, h4, b, o, h5, h6⟩ := hv
    obtain ⟨h7, es', h8, h9, h10⟩ := h.arr κ es h1 h3
    exact ⟨h1, h2, es', h8, Nat.le_trans h4 h9, b, o, by rw [h7]; exact h5, fun e => by rw [h10 (by omega)]; exact h6 (by omega)⟩
  | .fn f caps, _, hv => by
    unfold VR at hv ⊢
    obtain ⟨vs, h1, h2⟩ := hv
    exact ⟨vs, h1, VRs.ext h caps vs h2⟩
  | .agg cells, _, hv => by
    unfold VR at hv ⊢
    obtain ⟨vs, h1, h0, h2⟩ := hv
    exact ⟨vs, h1, h0, VRs.ext h cells vs h2⟩
  | .tup cells, _, hv => by
    unfold VR at hv ⊢
    obtain ⟨vs, h1, h2⟩ := hv
    exact ⟨vs, h1, VRs.ext h cells vs h2⟩
theorem VRs.ext {d : Nat} {M M' : Nat → Nat → Value → Prop} {G G' : Heap} {R R' : RMap} (h : Ext d M G R M' G' R') : ∀ (gs : List GV) (vs : List Value), VRs M G R d gs vs → VRs M' G' R' d gs vs
  | [], [], _ => by unfold VRs; trivial
  | g :: gs, v :: vs, hv => by
    unfold VRs at hv ⊢
    exact ⟨VR.ext h g v hv.1, VRs.ext h gs vs hv.2⟩
  | [], _ :: _, hv => by unfold VRs at hv; exact hv.elim
  | _ :: _, [], hv => by unfold VRs at hv; exact hv.elim
end
mutual
theorem VR.deeper {M : Nat → Nat → Value → Prop} {G : Heap} {R : RMap} {d d' : Nat} (hd : d ≤ d') : ∀ (g : GV) (x : Value), VR M G R d g x → VR M G R d' g x
  | .undef, _, _ => by unfold VR; trivial
  | .p v, _, hv => by unfold VR at hv ⊢; exact hv
  | .csl es, _, hv => by unfold VR at hv ⊢; exact hv
  | .tsl es κ, x, hv => by unfold VR at hv ⊢; exact ⟨hv.1, Nat.le_trans hv.2.1 hd, hv.2.2⟩
  | .own _ _, _, hv => by unfold VR at hv; exact hv.elim
  | .obx _, _, hv => by unfold VR at hv; exact hv.elim
  | .oar _ _, _, hv => by unfold VR at hv; exact hv.elim
  | .bp κ off, _, hv => by unfold VR at hv ⊢; exact ⟨Nat.le_trans hv.1 hd, hv.2⟩
  | .ep cells off, _, hv => by unfold VR at hv ⊢; exact hv
  | .arr κ n _, _, hv => by unfold VR at hv ⊢; exact ⟨Nat.le_trans hv.1 hd, hv.2⟩
  | .ap κ _ _ _, _, hv => by unfold VR at hv ⊢; exact ⟨Nat.le_trans hv.1 hd, hv.2⟩
  | .asl κ _ _ _ _, _, hv => by unfold VR at hv ⊢; exact ⟨Nat.le_trans hv.1 hd, hv.2⟩
  | .fn f caps, _, hv => by
    unfold VR at hv ⊢
    obtain ⟨vs, h1, h2⟩ := hv
    exact ⟨vs, h1, VRs.deeper hd caps vs h2⟩
  | .agg cells, _, hv => by
    unfold VR at hv ⊢
    obtain ⟨vs, h1, h0, h2⟩ := hv
    exact ⟨vs, h1, h0, VRs.deeper hd cells vs h2⟩
  | .tup cells, _, hv => by
    unfold VR at hv ⊢
    obtain ⟨vs, h1, h2⟩ := hv
    exact ⟨vs, h1, VRs.deeper hd cells vs h2⟩
theorem VRs.deeper {M : Nat → Nat → Value → Prop} {G : Heap} {R : RMap} {d d' : Nat} (hd : d ≤ d') : ∀ (gs : List GV) (vs : List Value), VRs M G R d gs vs → VRs M G R d' gs vs
  | [], [], _ => by unfold VRs; trivial
  | g :: gs, v :: vs, hv => by
    unfold VRs at hv ⊢
    exact ⟨VR.deeper hd g v hv.1, VRs.deeper hd gs vs hv.2⟩
  | [], _ :: _, hv => by unfold VRs at hv; exact hv.elim
  | _ :: _, [], hv => by unfold VRs at hv; exact hv.elim
end
def fillKey (G : Heap) (d0 t0 : Nat) (os : List Obj') : Heap := fun d t => if d = d0 ∧ t = t0 then os else G d t
def setKey (G : Heap) (κ : Key) (o : Obj') : Heap := fun d t => if d = κ.1 ∧ t = κ.2.1 then (G d t).set κ.2.2 o else G d t
def setR (R : RMap) (κ : Key) (r : RObj) : RMap := fun k => if k = κ then r else R k
theorem get_fillKey (G : Heap) (d0 t0 : Nat) (os : List Obj') (κ : Key) : get (fillKey G d0 t0 os) κ = if κ.1 = d0 ∧ κ.2.1 = t0 then os[κ.2.2]? else get G κ := by
  unfold get fillKey
  split <;> rfl
theorem get_setKey (G : Heap) (κ κ' : Key) (o : Obj') : get (setKey G κ o) κ' = if κ' = κ then (get G κ).map (fun _ => o) else get G κ' := by
  obtain ⟨a, b, c⟩ := κ
  obtain ⟨a', b', c'⟩ := κ'
  unfold get setKey
  by_cases h : a' = a ∧ b' = b
  · obtain ⟨rfl, rfl⟩ := h
    by_cases hc : c' = c
    · subst hc
      simp only [and_self, if_true]
      rw [List.getElem?_set_self']
      cases (G a' b')[c']? <;> rfl
    · have : ¬ ((a', b', c') : Key) = (a', b', c) := fun e => hc (by injection e with _ e; injection e)
      rw [if_neg this]
      simp only [and_self, if_true]
      rw [List.getElem?_set_ne (fun e => hc e.symm)]
  · have : ¬ ((a', b', c') : Key) = (a, b, c) := fun e => h (by injection e with e1 e; injection e with e2 e3; exact ⟨e1, e2⟩)
    rw [if_neg this]
    simp only [h, if_false]
def OK (X : XS) (d : Nat) (G : Heap) (R : RMap) (w : World) (κ : Key) : Obj' → Prop
  | .box cells => ∃ cs T, w.heap[(R κ).b]? = some (.cells cs T (0, 0)) ∧ (∀ v ∈ cs.toList, v.oneCell' = true) ∧ VRs (Mem X d G R w) G R κ.1 cells cs.toList
  | .tok n sz => (∃ cs T, w.heap[(R κ).b]? = some (.cells cs T (0, 0)) ∧ n ≤ (R κ).cap ∧ (R κ).o + (R κ).cap * (R κ).sz ≤ cs.size) ∧ (R κ).sz = sz
  | .arr es => ∃ cs T, w.heap[(R κ).b]? = some (.cells cs T (0, 0)) ∧ es.length ≤ (R κ).cap ∧ (R κ).o + (R κ).cap * (R κ).sz ≤ cs.size ∧
      ∀ i e, es[i]? = some e → e.length = (R κ).sz ∧ ∀ j c, e[j]? = some c → ∃ v, cs[(R κ).o + i * (R κ).sz + j]? = some v ∧ v.oneCell' = true ∧ PR (Mem X d G R w) c v
structure Sim (X : XS) (d : Nat) (G : Heap) (R : RMap) (w : World) : Prop where
  inj : ∀ κ κ' o o', κ.1 ≤ d → κ'.1 ≤ d → get G κ = some o → get G κ' = some o' → (R κ).b = (R κ').b → κ = κ'
  obj : ∀ κ o, κ.1 ≤ d → get G κ = some o → OK X d G R w κ o
  off : ∀ b i, X.off b i → b < w.heap.size
  apart : ∀ κ o, κ.1 ≤ d → get G κ = some o → ∀ i, ¬ X.off (R κ).b i
  tab : ∀ b o, X.tb b = some o → w.heap[b]? = some o ∧ ∀ κ o', κ.1 ≤ d → get G κ = some o' → (R κ).b ≠ b
theorem Sim.lt {X : XS} {d : Nat} {G : Heap} {R : RMap} {w : World} (hs : Sim X d G R w) {κ : Key} {o : Obj'} (hk : κ.1 ≤ d) (hg : get G κ = some o) : (R κ).b < w.heap.size := by
  have h := hs.obj κ o hk hg
  have : ∃ cs T, w.heap[(R κ).b]? = some (.cells cs T (0, 0)) := by
    cases o with
    | box cells => obtain ⟨cs, T, h, _⟩ := h; exact ⟨cs, T, h⟩
    | tok n sz => obtain ⟨⟨cs, T, h, _⟩, _⟩ := h; exact ⟨cs, T, h⟩
    | arr es => obtain ⟨cs, T, h, _⟩ := h; exact ⟨cs, T, h⟩
  obtain ⟨cs, T, h⟩ := this
  exact (Array.getElem?_eq_some_iff.1 h).1
def SameEnv (w w' : World) : Prop := w'.os = w.os ∧ w'.tape = w.tape ∧ w'.output = w.output
theorem SameEnv.refl (w : World) : SameEnv w w := ⟨rfl, rfl, rfl⟩
theorem SameEnv.trans {w w' w'' : World} (h : SameEnv w w') (h' : SameEnv w' w'') : SameEnv w w'' := ⟨h'.1.trans h.1, h'.2.1.trans h.2.1, h'.2.2.trans h.2.2⟩
structure Grows (w w' : World) : Prop where
  size : w.heap.size ≤ w'.heap.size
  old : ∀ b, b < w.heap.size → w'.heap[b]? = w.heap[b]?
  env : SameEnv w w'
theorem Grows.refl (w : World) : Grows w w := ⟨Nat.le_refl _, fun _ _ => rfl, .refl _⟩
theorem Grows.trans {w w' w'' : World} (h : Grows w w') (h' : Grows w' w'') : Grows w w'' :=
  ⟨Nat.le_trans h.size h'.size, fun b hb => (h'.old b (Nat.lt_of_lt_of_le hb h.size)).trans (h.old b hb), h.env.trans h'.env⟩
theorem Grows.drew (w : World) : Grows w w.drew := ⟨Nat.le_refl _, fun _ _ => rfl, rfl, rfl, rfl⟩
theorem Grows.alloc (w : World) (o : Obj) : Grows w (w.alloc o) :=
  ⟨by show w.heap.size ≤ (w.heap.push o).size; simp, fun b hb => heap_alloc_old w o b hb, rfl, rfl, rfl⟩
theorem cell_heap (w w' : World) (a : Addr) (h : w'.heap[a.block]? = w.heap[a.block]?) : w'.cell? a = w.cell? a := by
  unfold World.cell?
  rw [h]
theorem Grows.cell {w w' : World} (h : Grows w w') {a : Addr} {v : Value} (hc : w.cell? a = some v) : w'.cell? a = some v := by
  rw [cell_heap w w' a (h.old _ (block_lt_of_cell hc))]; exact hc
theorem Mem.grow {X : XS} {d : Nat} {G : Heap} {R : RMap} {w w' : World} (h : Grows w w') (b i : Nat) (v : Value) (hm : Mem X d G R w b i v) : Mem X d G R w' b i v :=
  ⟨h.cell hm.1, hm.2⟩
theorem Ext.grow {X : XS} {d : Nat} {G : Heap} {R : RMap} {w w' : World} (h : Grows w w') : Ext d (Mem X d G R w) G R (Mem X d G R w') G R :=
  { Ext.refl d (Mem X d G R w) G R with mem := Mem.grow h }
theorem OK.ext' {X X' : XS} {d d' : Nat} {G G' : Heap} {R R' : RMap} {w w' : World} {κ : Key} (hx : Ext κ.1 (Mem X d G R w) G R (Mem X' d' G' R' w') G' R') (hR : R' κ = R κ) (hh : w'.heap[(R κ).b]? = w.heap[(R κ).b]?) {o : Obj'}
    (h : OK X d G R w κ o) : OK X' d' G' R' w' κ o := by
  cases o with
  | box cells =>
    obtain ⟨cs, T, h1, h2, h3⟩ := h
    exact ⟨cs, T, by rw [hR, hh]; exact h1, h2, VRs.ext hx _ _ h3⟩
  | tok n sz =>
    obtain ⟨⟨cs, T, h1, h2⟩, h3⟩ := h
    exact ⟨⟨cs, T, by rw [hR, hh]; exact h1, by rw [hR]; exact h2⟩, by rw [hR]; exact h3⟩
  | arr es =>
    obtain ⟨cs, T, h1, h2, h3, h4⟩ := h
    refine ⟨cs, T, by rw [hR, hh]; exact h1, by rw [hR]; exact h2, by rw [hR]; exact h3, fun i e he => ?_⟩
    obtain ⟨h5, h6⟩ := h4 i e he
    refine ⟨by rw [hR]; exact h5, fun j c hc => ?_⟩
    obtain ⟨v, h7, h8, h9⟩ := h6 j c hc
    exact ⟨v, by rw [hR]; exact h7, h8, PR.mono hx.mem _ _ h9⟩
theorem OK.ext {X X' : XS} {d : Nat} {G G' : Heap} {R R' : RMap} {w w' : World} {κ : Key} (hk : κ.1 ≤ d) (hx : Ext d (Mem X d G R w) G R (Mem X' d G' R' w') G' R') (hR : R' κ = R κ) (hh : w'.heap[(R κ).b]? = w.heap[(R κ).b]?) {o : Obj'}
    (h : OK X d G R w κ o) : OK X' d G' R' w' κ o := h.ext' (hx.le hk) hR hh
theorem Sim.grow {X : XS} {d : Nat} {G : Heap} {R : RMap} {w w' : World} (hs : Sim X d G R w) (h : Grows w w') : Sim X d G R w' :=
  ⟨hs.inj, fun κ o hk hg => (hs.obj κ o hk hg).ext hk (Ext.grow h) rfl (h.old _ (hs.lt hk hg)), fun b i hX => Nat.lt_of_lt_of_le (hs.off b i hX) h.size, hs.apart, fun b o hb => ⟨(h.old b (Array.getElem?_eq_some_iff.1 (hs.tab b o hb).1).1).trans (hs.tab b o hb).1, (hs.tab b o hb).2⟩⟩
theorem Sim.fill {X : XS} {d : Nat} {G : Heap} {R : RMap} {w w' : World} (hs : Sim X d G R w) (h : Grows w w') {d0 t0 : Nat} (hd : d0 ≤ d) (he : G d0 t0 = []) (o : Obj') (r : RObj) (hb : w.heap.size ≤ r.b)
    (hok : ∀ (M' : Nat → Nat → Value → Prop) (G' : Heap) (R' : RMap), Ext d (Mem X d G R w) G R M' G' R' → (∀ b i v, M' b i v ↔ Mem X d G' R' w' b i v) → R' (d0, t0, 0) = r → OK X d G' R' w' (d0, t0, 0) o) :
    Sim X d (fillKey G d0 t0 [o]) (setR R (d0, t0, 0) r) w' ∧ Ext d (Mem X d G R w) G R (Mem X d (fillKey G d0 t0 [o]) (setR R (d0, t0, 0) r) w') (fillKey G d0 t0 [o]) (setR R (d0, t0, 0) r) := by
  have hno : ∀ κ : Key, get G κ ≠ none → κ ≠ (d0, t0, 0) := fun κ hk e => hk (by rw [e]; simp [get, he])
  have hg' : ∀ κ o', get G κ = some o' → get (fillKey G d0 t0 [o]) κ = some o' := fun κ o' hk => by
    rw [get_fillKey, if_neg, hk]
    rintro ⟨e1, e2⟩
    have : get G κ = none := by unfold get; rw [e1, e2, he]; rfl
    rw [hk] at this; cases this
  have hR : ∀ κ o', get G κ = some o' → setR R (d0, t0, 0) r κ = R κ := fun κ o' hk => by
    unfold setR; rw [if_neg (hno κ (by rw [hk]; simp))]
  have hcases : ∀ κ o', get (fillKey G d0 t0 [o]) κ = some o' → (κ = (d0, t0, 0) ∧ o' = o) ∨ get G κ = some o' := fun κ o' hk => by
    obtain ⟨a, b, c⟩ := κ
    rw [get_fillKey] at hk
    split at hk
    · rename_i e
      cases c with
      | zero => left; simp at hk; exact ⟨by rw [show a = d0 from e.1, show b = t0 from e.2], hk.symm⟩
      | succ c => simp at hk
    · exact .inr hk
  have hmem : ∀ b i v, Mem X d G R w b i v → Mem X d (fillKey G d0 t0 [o]) (setR R (d0, t0, 0) r) w' b i v := fun b i v hm => by
    refine ⟨h.cell hm.1, hm.2.1, hm.2.2.1, fun κ o' hk hg hbb => ?_⟩
    rcases hcases κ o' hg with ⟨rfl, rfl⟩ | hg0
    · exfalso
      have hlt := block_lt_of_cell hm.1
      simp only [setR, if_true] at hbb
      simp only at hlt
      omega
    · rw [hR κ o' hg0] at hbb ⊢
      exact hm.2.2.2 κ o' hk hg0 hbb
  have hx : Ext d (Mem X d G R w) G R (Mem X d (fillKey G d0 t0 [o]) (setR R (d0, t0, 0) r) w') (fillKey G d0 t0 [o]) (setR R (d0, t0, 0) r) :=
    ⟨hmem, fun κ cs _ hg => ⟨⟨cs, hg' κ _ hg⟩, hR κ _ hg⟩, fun κ n _ _ hg => ⟨n, hg' κ _ hg, Nat.le_refl _, fun _ => hR κ _ hg⟩, fun κ es _ hg => ⟨by rw [hR κ _ hg], es, hg' κ _ hg, Nat.le_refl _, fun _ => hR κ _ hg⟩⟩
  refine ⟨⟨fun κ κ' o1 o2 h1 h2 hg1 hg2 hbb => ?_, fun κ o' hk hg => ?_, fun b i hX => Nat.lt_of_lt_of_le (hs.off b i hX) h.size, fun κ o' hk hg i hX => ?_, fun b o' htb => ?_⟩, hx⟩
  · rcases hcases κ o1 hg1 with ⟨rfl, rfl⟩ | hg1' <;> rcases hcases κ' o2 hg2 with ⟨rfl, rfl⟩ | hg2'
    · rfl
    · rw [hR κ' o2 hg2'] at hbb
      have := hs.lt h2 hg2'
      simp only [setR, if_true] at hbb
      omega
    · rw [hR κ o1 hg1'] at hbb
      have := hs.lt h1 hg1'
      simp only [setR, if_true] at hbb
      omega
    · rw [hR κ o1 hg1', hR κ' o2 hg2'] at hbb
      exact hs.inj κ κ' o1 o2 h1 h2 hg1' hg2' hbb
  · rcases hcases κ o' hg with ⟨rfl, rfl⟩ | hg0
    · exact hok _ _ _ hx (fun _ _ _ => Iff.rfl) (by simp [setR])
    · exact (hs.obj κ o' hk hg0).ext hk hx (hR κ o' hg0) (h.old _ (hs.lt hk hg0))
  · rcases hcases κ o' hg with ⟨rfl, rfl⟩ | hg0
    · have := hs.off _ _ hX
      simp only [setR, if_true] at this
      omega
    · rw [hR κ o' hg0] at hX
      exact hs.apart κ o' hk hg0 i hX
  · obtain ⟨h1, h2⟩ := hs.tab b o' htb
    have hlt := (Array.getElem?_eq_some_iff.1 h1).1
    refine ⟨(h.old b hlt).trans h1, fun κ o1 hk hg hbb => ?_⟩
    rcases hcases κ o1 hg with ⟨rfl, rfl⟩ | hg0
    · simp only [setR, if_true] at hbb
      omega
    · rw [hR κ o1 hg0] at hbb
      exact h2 κ o1 hk hg0 hbb
theorem Sim.change {X : XS} {d : Nat} {G G' : Heap} {R R' : RMap} {w w' : World} (hs : Sim X d G R w) {κ0 : Key} {o0 o' : Obj'} (hk0 : κ0.1 ≤ d) (h0 : get G κ0 = some o0)
    (hold : ∀ b, b < w.heap.size → b ≠ (R κ0).b → w'.heap[b]? = w.heap[b]?)
    (hg : ∀ κ, get G' κ = if κ = κ0 then some o' else get G κ) (hr : ∀ κ, κ ≠ κ0 → R' κ = R κ) (hb : (R' κ0).b = (R κ0).b ∨ w.heap.size ≤ (R' κ0).b)
    (hx : Ext d (Mem X d G R w) G R (Mem X d G' R' w') G' R') (hok : OK X d G' R' w' κ0 o') (hsz0 : w.heap.size ≤ w'.heap.size) : Sim X d G' R' w' := by
  refine ⟨fun κ κ' o1 o2 h1 h2 hg1 hg2 hbb => ?_, fun κ o hk hgk => ?_, fun b i hX => Nat.lt_of_lt_of_le (hs.off b i hX) hsz0, fun κ o hk hgk i hX => ?_, fun b o htb => ?_⟩
  · rw [hg] at hg1 hg2
    by_cases e1 : κ = κ0
    · by_cases e2 : κ' = κ0
      · rw [e1, e2]
      · rw [if_neg e2] at hg2
        rw [hr κ' e2, e1] at hbb
        have hl := hs.lt h2 hg2
        rcases hb with hb | hb
        · rw [hb] at hbb
          exact absurd (hs.inj κ0 κ' _ _ hk0 h2 h0 hg2 hbb).symm e2
        · omega
    · rw [if_neg e1] at hg1
      by_cases e2 : κ' = κ0
      · rw [hr κ e1, e2] at hbb
        have hl := hs.lt h1 hg1
        rcases hb with hb | hb
        · rw [hb] at hbb
          exact absurd (hs.inj κ κ0 _ _ h1 hk0 hg1 h0 hbb) e1
        · omega
      · rw [if_neg e2] at hg2
        rw [hr κ e1, hr κ' e2] at hbb
        exact hs.inj κ κ' _ _ h1 h2 hg1 hg2 hbb
  · rw [hg] at hgk
    by_cases e1 : κ = κ0
    · rw [if_pos e1] at hgk
      cases hgk
      rw [e1]; exact hok
    · rw [if_neg e1] at hgk
      refine (hs.obj κ o hk hgk).ext hk hx (hr κ e1) (hold _ (hs.lt hk hgk) fun e => e1 (hs.inj κ κ0 _ _ hk hk0 hgk h0 e))
  · rw [hg] at hgk
    by_cases e1 : κ = κ0
    · rw [e1] at hX
      rcases hb with hb | hb
      · rw [hb] at hX; exact hs.apart κ0 o0 hk0 h0 i hX
      · have := hs.off _ _ hX; omega
    · rw [if_neg e1] at hgk
      rw [hr κ e1] at hX
      exact hs.apart κ o hk hgk i hX
  · obtain ⟨h1, h2⟩ := hs.tab b o htb
    have hlt := (Array.getElem?_eq_some_iff.1 h1).1
    refine ⟨(hold b hlt fun e => h2 κ0 o0 hk0 h0 e.symm).trans h1, fun κ o1 hk hgk hbb => ?_⟩
    rw [hg] at hgk
    by_cases e1 : κ = κ0
    · rw [e1] at hbb
      rcases hb with hb | hb
      · rw [hb] at hbb; exact h2 κ0 o0 hk0 h0 hbb
      · omega
    · rw [if_neg e1] at hgk
      rw [hr κ e1] at hbb
      exact h2 κ o1 hk hgk hbb
theorem Sim.write {X : XS} {d : Nat} {G : Heap} {R : RMap} {w w' : World} (hs : Sim X d G R w) {κ0 : Key} {cells cells' : List GV} (hk0 : κ0.1 ≤ d) (h0 : get G κ0 = some (.box cells))
    (hsz : w.heap.size ≤ w'.heap.size) (hold : ∀ b, b < w.heap.size → b ≠ (R κ0).b → w'.heap[b]? = w.heap[b]?)
    {cs' : Array Value} {T : TypeId} (hc : w'.heap[(R κ0).b]? = some (.cells cs' T (0, 0))) (h1 : ∀ v ∈ cs'.toList, v.oneCell' = true) (hv : VRs (Mem X d G R w) G R κ0.1 cells' cs'.toList) :
    Sim X d (setKey G κ0 (.box cells')) R w' ∧ Ext d (Mem X d G R w) G R (Mem X d (setKey G κ0 (.box cells')) R w') (setKey G κ0 (.box cells')) R := by
  have hg : ∀ κ, get (setKey G κ0 (.box cells')) κ = if κ = κ0 then some (.box cells') else get G κ := fun κ => by
    rw [get_setKey, h0]; rfl
  have hx : Ext d (Mem X d G R w) G R (Mem X d (setKey G κ0 (.box cells')) R w') (setKey G κ0 (.box cells')) R := by
    refine ⟨fun b i v hm => ?_, fun κ cs hk hgk => ⟨?_, rfl⟩, fun κ n _ hk hgk => ⟨n, ?_, Nat.le_refl _, fun _ => rfl⟩, fun κ es hk hgk => ⟨rfl, es, ?_, Nat.le_refl _, fun _ => rfl⟩⟩
    · have hbne : b ≠ (R κ0).b := fun e => by
        obtain ⟨n, _, hn, _⟩ := hm.2.2.2 κ0 _ hk0 h0 e.symm
        cases hn
      have hlt : b < w.heap.size := block_lt_of_cell hm.1
      refine ⟨by rw [cell_heap w w' _ (hold b hlt hbne)]; exact hm.1, hm.2.1, hm.2.2.1, fun κ o hk hgk hbb => ?_⟩
      rw [hg] at hgk
      by_cases e : κ = κ0
      · rw [e] at hbb; exact absurd hbb.symm hbne
      · rw [if_neg e] at hgk; exact hm.2.2.2 κ o hk hgk hbb
    · rw [hg]; by_cases e : κ = κ0
      · rw [if_pos e]; exact ⟨_, rfl⟩
      · rw [if_neg e]; exact ⟨_, hgk⟩
    · rw [hg, if_neg, hgk]; rintro rfl; rw [h0] at hgk; cases hgk
    · rw [hg, if_neg, hgk]; rintro rfl; rw [h0] at hgk; cases hgk
  exact ⟨hs.change hk0 h0 hold hg (fun _ _ => rfl) (.inl rfl) hx ⟨cs', T, hc, h1, VRs.ext (hx.le hk0) _ _ hv⟩ hsz, hx⟩
theorem Sim.room {X : XS} {d : Nat} {G : Heap} {R : RMap} {w w' : World} (hs : Sim X d G R w) {κ0 : Key} {n n' sz : Nat} (hk0 : κ0.1 ≤ d) (h0 : get G κ0 = some (.tok n sz)) (hn : n < n') (hcap : n' ≤ (R κ0).cap)
    (hsz : w.heap.size ≤ w'.heap.size) (hold : ∀ b, b < w.heap.size → b ≠ (R κ0).b → w'.heap[b]? = w.heap[b]?)
    {cs cs' : Array Value} {T : TypeId} (hc : w.heap[(R κ0).b]? = some (.cells cs T (0, 0))) (hc' : w'.heap[(R κ0).b]? = some (.cells cs' T (0, 0))) (hsame : cs'.size = cs.size)
    (hpre : ∀ i, i < (R κ0).o + n * (R κ0).sz → cs'[i]? = cs[i]?) :
    Sim X d (setKey G κ0 (.tok n' sz)) R w' ∧ Ext d (Mem X d G R w) G R (Mem X d (setKey G κ0 (.tok n' sz)) R w') (setKey G κ0 (.tok n' sz)) R := by
  have hg : ∀ κ, get (setKey G κ0 (.tok n' sz)) κ = if κ = κ0 then some (.tok n' sz) else get G κ := fun κ => by
    rw [get_setKey, h0]; rfl
  have hx : Ext d (Mem X d G R w) G R (Mem X d (setKey G κ0 (.tok n' sz)) R w') (setKey G κ0 (.tok n' sz)) R := by
    refine ⟨fun b i v hm => ?_, fun κ cs hk hgk => ⟨⟨cs, ?_⟩, rfl⟩, fun κ m _ hk hgk => ?_, fun κ es hk hgk => ⟨rfl, es, ?_, Nat.le_refl _, fun _ => rfl⟩⟩
    · have hlt : b < w.heap.size := block_lt_of_cell hm.1
      refine ⟨?_, hm.2.1, hm.2.2.1, fun κ o hk hgk hbb => ?_⟩
      · by_cases e : b = (R κ0).b
        · obtain ⟨m, _, hm1, hm2⟩ := hm.2.2.2 κ0 _ hk0 h0 e.symm
          cases hm1
          have h1 := hm.1
          subst e
          rw [cell_of_row w _ i cs T _ hc] at h1
          rw [cell_of_row w' _ i cs' T _ hc', hpre i hm2]
          exact h1
        · rw [cell_heap w w' _ (hold b hlt e)]; exact hm.1
      · rw [hg] at hgk
        by_cases e : κ = κ0
        · rw [if_pos e] at hgk
          cases hgk
          rw [e] at hbb ⊢
          obtain ⟨m, _, hm1, hm2⟩ := hm.2.2.2 κ0 _ hk0 h0 hbb
          cases hm1
          refine ⟨_, _, rfl, Nat.lt_of_lt_of_le hm2 ?_⟩
          exact Nat.add_le_add_left (Nat.mul_le_mul_right _ (Nat.le_of_lt hn)) _
        · rw [if_neg e] at hgk; exact hm.2.2.2 κ o hk hgk hbb
    · rw [hg, if_neg, hgk]; rintro rfl; rw [h0] at hgk; cases hgk
    · rw [hg]
      by_cases e : κ = κ0
      · rw [e, h0] at hgk
        cases hgk
        exact ⟨n', by rw [if_pos e], Nat.le_of_lt hn, fun e' => absurd e' (by omega)⟩
      · exact ⟨m, by rw [if_neg e]; exact hgk, Nat.le_refl _, fun _ => rfl⟩
    · rw [hg, if_neg, hgk]; rintro rfl; rw [h0] at hgk; cases hgk
  obtain ⟨⟨cs0, T0, g1, g2, g3⟩, g4⟩ := hs.obj κ0 _ hk0 h0
  rw [hc] at g1
  cases g1
  exact ⟨hs.change hk0 h0 hold hg (fun _ _ => rfl) (.inl rfl) hx ⟨⟨cs', T, hc', hcap, by rw [hsame]; exact g3⟩, g4⟩ hsz, hx⟩
theorem Sim.anew {X : XS} {d : Nat} {G : Heap} {R : RMap} {w w' : World} (hs : Sim X d G R w) {κ0 : Key} {n n' sz : Nat} (hk0 : κ0.1 ≤ d) (h0 : get G κ0 = some (.tok n sz)) (hn : n < n')
    (h : Grows w w') (r : RObj) (hb : w.heap.size ≤ r.b) {cs' : Array Value} {T : TypeId} (hc' : w'.heap[r.b]? = some (.cells cs' T (0, 0))) (hcap : n' ≤ r.cap) (hsz : r.o + r.cap * r.sz ≤ cs'.size) (hss : r.sz = sz) :
    Sim X d (setKey G κ0 (.tok n' sz)) (setR R κ0 r) w' ∧ Ext d (Mem X d G R w) G R (Mem X d (setKey G κ0 (.tok n' sz)) (setR R κ0 r) w') (setKey G κ0 (.tok n' sz)) (setR R κ0 r) := by
  have hg : ∀ κ, get (setKey G κ0 (.tok n' sz)) κ = if κ = κ0 then some (.tok n' sz) else get G κ := fun κ => by
    rw [get_setKey, h0]; rfl
  have hr : ∀ κ, κ ≠ κ0 → setR R κ0 r κ = R κ := fun κ e => by unfold setR; rw [if_neg e]
  have hr0 : setR R κ0 r κ0 = r := by simp [setR]
  have hx : Ext d (Mem X d G R w) G R (Mem X d (setKey G κ0 (.tok n' sz)) (setR R κ0 r) w') (setKey G κ0 (.tok n' sz)) (setR R κ0 r) := by
    refine ⟨fun b i v hm => ?_, fun κ cs hk hgk => ?_, fun κ m _ hk hgk => ?_, fun κ es hk hgk => ?_⟩
    · have hlt : b < w.heap.size := block_lt_of_cell hm.1
      refine ⟨h.cell hm.1, hm.2.1, hm.2.2.1, fun κ o hk hgk hbb => ?_⟩
      rw [hg] at hgk
      by_cases e : κ = κ0
      · rw [e, hr0] at hbb; omega
      · rw [if_neg e] at hgk; rw [hr κ e] at hbb ⊢; exact hm.2.2.2 κ o hk hgk hbb
    · have e : κ ≠ κ0 := by rintro rfl; rw [h0] at hgk; cases hgk
      exact ⟨⟨cs, by rw [hg, if_neg e, hgk]⟩, hr κ e⟩
    · rw [hg]
      by_cases e : κ = κ0
      · rw [e, h0] at hgk
        cases hgk
        exact ⟨n', by rw [if_pos e], Nat.le_of_lt hn, fun e' => absurd e' (by omega)⟩
      · exact ⟨m, by rw [if_neg e]; exact hgk, Nat.le_refl _, fun _ => hr κ e⟩
    · have e : κ ≠ κ0 := by rintro rfl; rw [h0] at hgk; cases hgk
      exact ⟨by rw [hr κ e], es, by rw [hg, if_neg e, hgk], Nat.le_refl _, fun _ => hr κ e⟩
  exact ⟨hs.change hk0 h0 (fun b hb _ => h.old b hb) hg hr (.inr (by rw [hr0]; exact hb)) hx ⟨⟨cs', T, by rw [hr0]; exact hc', by rw [hr0]; exact hcap, by rw [hr0]; exact hsz⟩, by rw [hr0]; exact hss⟩ h.size, hx⟩
theorem Sim.arrGrow {X : XS} {d : Nat} {G : Heap} {R R' : RMap} {w w' : World} (hs : Sim X d G R w) {κ0 : Key} {es es' : List (List PV)} (hk0 : κ0.1 ≤ d) (h0 : get G κ0 = some (.arr es)) (hlen : es.length < es'.length) (hsz0 : w.heap.size ≤ w'.heap.size)
    (hr : ∀ κ, κ ≠ κ0 → R' κ = R κ) (hb : (R' κ0).b = (R κ0).b ∨ w.heap.size ≤ (R' κ0).b) (hss : (R' κ0).sz = (R κ0).sz) (hold : ∀ b, b < w.heap.size → b ≠ (R κ0).b → w'.heap[b]? = w.heap[b]?)
    {cs' : Array Value} {T : TypeId} (hc : w'.heap[(R' κ0).b]? = some (.cells cs' T (0, 0))) (hcap : es'.length ≤ (R' κ0).cap) (hsz : (R' κ0).o + (R' κ0).cap * (R' κ0).sz ≤ cs'.size)
    (hv : ∀ i e, es'[i]? = some e → e.length = (R' κ0).sz ∧ ∀ j c, e[j]? = some c → ∃ v, cs'[(R' κ0).o + i * (R' κ0).sz + j]? = some v ∧ v.oneCell' = true ∧ PR (Mem X d G R w) c v) :
    Sim X d (setKey G κ0 (.arr es')) R' w' ∧ Ext d (Mem X d G R w) G R (Mem X d (setKey G κ0 (.arr es')) R' w') (setKey G κ0 (.arr es')) R' := by
  have hg : ∀ κ, get (setKey G κ0 (.arr es')) κ = if κ = κ0 then some (.arr es') else get G κ := fun κ => by
    rw [get_setKey, h0]; rfl
  have hx : Ext d (Mem X d G R w) G R (Mem X d (setKey G κ0 (.arr es')) R' w') (setKey G κ0 (.arr es')) R' := by
    refine ⟨fun b i v hm => ?_, fun κ cs hk hgk => ?_, fun κ n _ hk hgk => ?_, fun κ xs hk hgk => ?_⟩
    · have hbne : b ≠ (R κ0).b := fun e => by
        obtain ⟨n, _, hn, _⟩ := hm.2.2.2 κ0 _ hk0 h0 e.symm
        cases hn
      have hlt : b < w.heap.size := block_lt_of_cell hm.1
      refine ⟨by rw [cell_heap w w' _ (hold b hlt hbne)]; exact hm.1, hm.2.1, hm.2.2.1, fun κ o hk hgk hbb => ?_⟩
      rw [hg] at hgk
      by_cases e : κ = κ0
      · rw [e] at hbb
        rcases hb with hb | hb
        · exact absurd (hb.symm.trans hbb).symm hbne
        · omega
      · rw [if_neg e] at hgk; rw [hr κ e] at hbb ⊢; exact hm.2.2.2 κ o hk hgk hbb
    · have e : κ ≠ κ0 := by rintro rfl; rw [h0] at hgk; cases hgk
      exact ⟨⟨cs, by rw [hg, if_neg e, hgk]⟩, hr κ e⟩
    · have e : κ ≠ κ0 := by rintro rfl; rw [h0] at hgk; cases hgk
      exact ⟨n, by rw [hg, if_neg e, hgk], Nat.le_refl _, fun _ => hr κ e⟩
    · rw [hg]
      by_cases e : κ = κ0
      · rw [e, h0] at hgk
        cases hgk
        rw [if_pos e, e]
        exact ⟨hss, es', rfl, Nat.le_of_lt hlen, fun e' => absurd e' (by omega)⟩
      · rw [if_neg e, hr κ e]
        exact ⟨rfl, xs, hgk, Nat.le_refl _, fun _ => rfl⟩
  refine ⟨hs.change hk0 h0 hold hg hr hb hx ⟨cs', T, hc, hcap, hsz, fun i e he => ?_⟩ hsz0, hx⟩
  obtain ⟨h1, h2⟩ := hv i e he
  refine ⟨h1, fun j c hj => ?_⟩
  obtain ⟨v, h3, h4, h5⟩ := h2 j c hj
  exact ⟨v, h3, h4, PR.mono hx.mem _ _ h5⟩
end Go.Eng
end
section
set_option linter.all false
namespace Go.Eng
inductive TK where
  | bad | one | row (n : Nat)
def tk (P : Program) (t : TypeId) : TK :=
  match P.underlying t, P.info? t with
  | some d, some i => if d.isRow then .row i.size else .one
  | _, _ => .bad
def zc (P : Program) (t : TypeId) : Option (List Value) := ((P.info? t).bind (·.zero)).bind fun z => if z.cells.toList.all (·.oneCell') then some z.cells.toList else none
def szT (P : Program) (t : TypeId) : Option Nat := (P.info? t).map (·.size)
def elT (P : Program) (t : TypeId) : Option (TypeId × Nat × Nat) :=
  match P.underlying t with
  | some (.slice e) => (P.info? e).bind fun i => (i.zero).bind fun z => if z.cells.size = i.size ∧ 0 < i.size ∧ 0 < i.bytes then some (e, i.size, i.bytes) else none
  | _ => none
def aelT (P : Program) (t : TypeId) : Option (Nat × Nat) :=
  match P.underlying t with
  | some (.array n e) => (P.info? e).bind fun i => if 0 < i.size ∧ 0 < n then some (n, i.size) else none
  | _ => none
def flds (P : Program) (t : TypeId) : Option (List (Nat × Nat)) :=
  match P.underlying t with
  | some (.struct fs) => fs.toList.mapM (fun f => (P.info? f.type).map fun i => (f.offset, i.size))
  | _ => none
def fldT (P : Program) (t : TypeId) (k : Nat) : Option TypeId :=
  match P.underlying t with
  | some (.struct fs) => fs[k]?.map (·.type)
  | _ => none
def intK (P : Program) (t : TypeId) : Option IntKind := match P.underlying t with | some (.int k) => some k | _ => none
def isStr (P : Program) (t : TypeId) : Bool := match P.underlying t with | some .string => true | _ => false
def isSl (P : Program) (t : TypeId) : Bool := match P.underlying t with | some (.slice _) => true | _ => false
def isBool (P : Program) (t : TypeId) : Bool := match P.underlying t with | some .bool => true | _ => false
def isPtr (P : Program) (t : TypeId) : Bool := match P.underlying t with | some (.pointer _) => true | _ => false
def cv1 : Value → GV
  | .bool b => .p (.bool b)
  | .int k n => .p (.int k n)
  | .string s => .p (.str s)
  | .pointer none => .p .null
  | .nilFunc => .p .nfn
  | .slice none 0 0 => .csl []
  | _ => .undef
def cv : Value → GV
  | .agg cs => if cs.toList.all (·.oneCell') then .agg (cs.toList.map cv1) else .undef
  | v => cv1 v
def gcells : GV → Option (List GV)
  | .agg cs => some cs
  | .undef => none
  | .tup _ => none
  | .own _ _ => none
  | .obx _ => none
  | .oar _ _ => none
  | .ap _ _ _ _ => none
  | .asl _ _ _ _ _ => none
  | x => some [x]
def pur : GV → Option PV
  | .p v => some v
  | .csl es => some (.sl es)
  | .tsl es _ => some (.sl es)
  | .ep cs 0 => some (.pt cs)
  | _ => none
mutual
def okd (k : Nat) : GV → Prop
  | .tsl _ κ => κ.1 ≤ k
  | .bp κ _ => κ.1 ≤ k
  | .arr κ _ _ => κ.1 ≤ k
  | .ap κ _ _ _ => κ.1 ≤ k
  | .asl κ _ _ _ _ => κ.1 ≤ k
  | .fn _ gs => okds k gs
  | .agg gs => okds k gs
  | .tup gs => okds k gs
  | _ => True
def okds (k : Nat) : List GV → Prop
  | [] => True
  | g :: gs => okd k g ∧ okds k gs
end
mutual
def closed : GV → Prop
  | .p _ => True
  | .csl _ => True
  | .ep _ _ => True
  | .fn _ gs => closeds gs
  | .agg gs => closeds gs
  | .tup gs => closeds gs
  | _ => False
def closeds : List GV → Prop
  | [] => True
  | g :: gs => closed g ∧ closeds gs
end
mutual
def wkR : GV → GV → Prop
  | .csl es, r => r = .csl es ∨ r = .p (.sl es)
  | .tsl es κ, r => r = .p (.sl es) ∨ r = .tsl es κ
  | .agg gs, r => ∃ rs, r = .agg rs ∧ wkRs gs rs
  | g, r => r = g
def wkRs : List GV → List GV → Prop
  | [], rs => rs = []
  | g :: gs, rs => ∃ r rs', rs = r :: rs' ∧ wkR g r ∧ wkRs gs rs'
end
def elems : GV → Option (List (List PV))
  | .p (.sl es) => some es
  | .csl es => some es
  | .tsl es _ => some es
  | _ => none
def sizes (es : List (List PV)) (n : Nat) : Prop := ∀ e ∈ es, e.length = n
structure St where
  F : Nat → GV
  G : Heap
def upd (F : Nat → GV) (t : Nat) (v : GV) : Nat → GV := fun k => if k = t then v else F k
def put (F : Nat → GV) : Option Nat → GV → Nat → GV
  | some t, v => upd F t v
  | none, _ => F
def ge (F : Nat → GV) : Operand → GV
  | .tmp t => F t
  | .const v => cv v
  | .global _ => .undef
  | .func f => .fn f []
def empty : Heap := fun _ _ => []
inductive Dl where
  | nop
  | fill (os : List Obj')
  | set (κ : Key) (o : Obj')
  | heap (G : Heap) (os : List Obj')
  | heap0 (G : Heap)
def fillD (G : Heap) (d : Nat) (dst : Option Nat) (os : List Obj') : Heap :=
  match dst with
  | some t => fillKey G d t os
  | none => G
def appD (G : Heap) (d : Nat) (dst : Option Nat) : Dl → Heap
  | .nop => G
  | .fill os => fillD G d dst os
  | .set κ o => setKey G κ o
  | .heap G' os => fillD G' d dst os
  | .heap0 G' => G'
def free (G : Heap) (d : Nat) : Option Nat → Prop
  | some t => G d t = []
  | none => False
mutual
def adopt (d t : Nat) : GV → List Obj' → GV × List Obj'
  | .own es sz, acc => (.tsl es (d, t, acc.length), acc ++ [.tok es.length sz])
  | .obx cs, acc => (.bp (d, t, acc.length) 0, acc ++ [.box cs])
  | .oar es sz, acc => (.arr (d, t, acc.length) es.length sz, acc ++ [.arr es])
  | .agg gs, acc => let r := adopts d t gs acc; (.agg r.1, r.2)
  | .tup gs, acc => let r := adopts d t gs acc; (.tup r.1, r.2)
  | x, acc => (x, acc)
def adopts (d t : Nat) : List GV → List Obj' → List GV × List Obj'
  | [], acc => ([], acc)
  | g :: gs, acc => let r := adopt d t g acc; let s := adopts d t gs r.2; (r.1 :: s.1, s.2)
end
abbrev CR := Nat → FuncId → List GV → Heap → GV → Heap → Prop
structure Ann where
  pureAt : Nat → Bool := fun _ => false
  openAt : Nat → Bool := fun _ => false
  arrAt : Nat → Bool := fun _ => false
  clean : Nat → List Nat := fun _ => []
  frzAt : Nat → Bool := fun _ => false
  borAt : Nat → Bool := fun _ => false
  boxAt : Nat → Option Nat := fun _ => none
  drwAt : Nat → Bool := fun _ => false
  also : Nat → List Nat := fun _ => []
  watch : Nat → List Nat := fun _ => []
  wkey : Nat → Option (Key × Nat) := fun _ => none
def dstIn (f : Nat → Bool) : Option Nat → Bool
  | some t => f t
  | none => false
def purs : List GV → Option (List PV)
  | [] => some []
  | g :: gs => match pur g, purs gs with
    | some v, some vs => some (v :: vs)
    | _, _ => none
mutual
def frz : GV → GV
  | .own es _ => .p (.sl es)
  | .oar es _ => .p (.sl es)
  | .obx cs => match purs cs with
    | some ps => .p (.pt ps)
    | none => .undef
  | .agg gs => .agg (frzs gs)
  | .tup gs => .tup (frzs gs)
  | .p v => .p v
  | .csl es => .p (.sl es)
  | .ep cs off => .ep cs off
  | _ => .undef
def frzs : List GV → List GV
  | [] => []
  | g :: gs => frz g :: frzs gs
end
mutual
def scal : GV → Prop
  | .p (.int _ _) => True
  | .p (.bool _) => True
  | .p (.str _) => True
  | .p .null => True
  | .agg gs => scals gs
  | .tup gs => scals gs
  | _ => False
def scals : List GV → Prop
  | [] => True
  | g :: gs => scal g ∧ scals gs
end
mutual
def wkB (G : Heap) (d : Nat) : GV → GV → Prop
  | .csl es, r => r = .csl es ∨ r = .p (.sl es)
  | .tsl es _, r => r = .p (.sl es)
  | .bp κ off, r => κ.1 ≤ d ∧ match get G κ with
    | some (.box cs) => match purs cs with
      | some ps => r = .ep ps off ∨ (off = 0 ∧ r = .p (.pt ps))
      | none => False
    | _ => False
  | .arr κ n _, r => κ.1 ≤ d ∧ match get G κ with
    | some (.arr es) => es.length = n ∧ r = .p (.sl es)
    | _ => False
  | .asl κ m lo hi _, r => κ.1 ≤ d ∧ match get G κ with
    | some (.arr es) => es.length = m ∧ r = .p (.sl ((es.take hi).drop lo))
    | _ => False
  | .fn f gs, r => ∃ rs, r = .fn f rs ∧ wkBs G d gs rs
  | .agg gs, r => ∃ rs, r = .agg rs ∧ wkBs G d gs rs
  | g, r => r = g
def wkBs (G : Heap) (d : Nat) : List GV → List GV → Prop
  | [], rs => rs = []
  | g :: gs, rs => ∃ r rs', rs = r :: rs' ∧ wkB G d g r ∧ wkBs G d gs rs'
end
def boxG (d k : Nat) : GV → Prop
  | .bp κ _ => κ.1 = d ∧ κ.2.1 = k
  | .ep _ _ => True
  | .p (.pt _) => True
  | _ => False
def boxC (A : Ann) (d : Nat) (a : Operand) (g : GV) : Prop :=
  match a with
  | .tmp t => match A.boxAt t with
    | some k => boxG d k g
    | none => True
  | _ => True
def wkG (P : Program) (t : TypeId) (κ : Key) (o : Nat) (g : GV) : Prop := if o < 1000000 then g = .bp κ o ∧ match tk P t with
  | .one => True
  | _ => False else g = .bp κ (o - 1000000)
def sameAt (o : Nat) (cs cs' : List GV) : Prop := if o < 1000000 then cs'[o]? = cs[o]? else cs' = cs
theorem sameAt.symm {o : Nat} {cs cs' : List GV} (h : sameAt o cs cs') : sameAt o cs' cs := by
  unfold sameAt at h ⊢
  split
  · rename_i e; rw [if_pos e] at h; exact h.symm
  · rename_i e; rw [if_neg e] at h; exact h.symm
def wkC (P : Program) (A : Ann) (t : TypeId) (a : Operand) (g : GV) : Prop :=
  match a with
  | .tmp x => match A.wkey x with
    | some (κ, o) => wkG P t κ o g
    | none => True
  | _ => True
def addAt (G : Heap) (d : Nat) (ts : List Nat) (H : Nat → List Obj') : Heap := fun k t => if k = d ∧ t ∈ ts then H t else G k t
structure opC (C : CR) (A : Ann) (d : Nat) (n : FuncId) (as : List GV) (G : Heap) (r : GV) (G' : Heap) (j : Nat) : Prop where
  same : ∀ t ∈ A.also j, G' d t = G d t
  call : ∀ H : Nat → List Obj', C d n as (addAt G d (A.also j) H) r (addAt G' d (A.also j) H)
  live : ∀ κ, get G κ ≠ none → get G' κ ≠ none
  look : ∀ x ∈ A.watch j, ∃ κ o, A.wkey x = some (κ, o) ∧ ¬ (κ.1 = d ∧ κ.2.1 ∈ A.also j) ∧ ∃ cs cs', get G κ = some (.box cs) ∧ get G' κ = some (.box cs') ∧ sameAt o cs cs'
def appG (d k : Nat) : GV → GV → Prop
  | .csl _, x => match x with | .arr _ _ _ => False | .asl _ _ _ _ _ => False | _ => True
  | .tsl _ κ, x => κ.1 = d ∧ κ.2.1 = k ∧ match x with | .arr _ _ _ => False | .asl _ _ _ _ _ => False | _ => True
  | .arr κ _ _, x => κ.1 = d ∧ κ.2.1 = k ∧ match x with | .arr _ _ _ => False | .asl _ _ _ _ _ => False | _ => True
  | _, _ => False
def appC (A : Ann) (d : Nat) (dst : Option Nat) (s x : GV) : Prop :=
  match dst with
  | some j => match A.boxAt (j + 1000000) with
    | some k => appG d k s x
    | none => True
  | none => True
def wkA : Bool → GV → GV
  | true, .csl es => .p (.sl es)
  | true, .tsl es _ => .p (.sl es)
  | _, g => g
section
variable (P : Program) (C : CR) (A : Ann) (d : Nat)
def gLoadC (t : TypeId) (cells : List GV) (off : Nat) (K : GV → Prop) : Prop :=
  match tk P t with
  | .row n => off + n ≤ cells.length ∧ K (.agg ((cells.drop off).take n))
  | .one => match cells[off]? with
    | some g => K g
    | none => False
  | .bad => False
def gLoad (G : Heap) (t : TypeId) (a : GV) (K : GV → Prop) : Prop :=
  match a with
  | .bp κ off => match get G κ with
    | some (.box cells) => gLoadC P t cells off K
    | _ => False
  | .ep cells off => gLoadC P t (cells.map .p) off K
  | .p (.pt cells) => gLoadC P t (cells.map .p) 0 K
  | .ap κ n i off => match get G κ with
    | some (.arr es) => es.length = n ∧ match es[i]? with
      | some e => gLoadC P t (e.map .p) off K
      | none => False
    | _ => False
  | _ => False
def spl (cells : List GV) (off : Nat) (vs : List GV) : List GV := cells.take off ++ (vs ++ cells.drop (off + vs.length))
def splP (cells : List PV) (off : Nat) (vs : List PV) : List PV := cells.take off ++ (vs ++ cells.drop (off + vs.length))
def gStore (G : Heap) (t : TypeId) (a v : GV) (K : Dl → Prop) : Prop :=
  match gcells v with
  | some vs => szT P t = some vs.length ∧ match a with
    | .bp κ off => match get G κ with
      | some (.box cells) => off + vs.length ≤ cells.length ∧ okds κ.1 vs ∧ K (.set κ (.box (spl cells off vs)))
      | _ => False
    | .ap κ n i off => match get G κ, purs vs with
      | some (.arr es), some ps => es.length = n ∧ match es[i]? with
        | some e => off + ps.length ≤ e.length ∧ K (.set κ (.arr (es.set i (splP e off ps))))
        | none => False
      | _, _ => False
    | _ => False
  | none => False
def gfill (pl : Nat → Option (Nat × Nat)) : List GV → List (Nat × GV) → Option (List GV)
  | cells, [] => some cells
  | cells, (i, g) :: rest => match pl i, gcells g with
    | some (off, size), some vs => if vs.length = size ∧ off + vs.length ≤ cells.length then gfill pl (spl cells off vs) rest else none
    | _, _ => none
def gBuild (t : TypeId) (parts : List (Nat × GV)) (K : GV → Prop) : Prop :=
  match zc P t, flds P t with
  | some zs, some pl => match gfill (pl[·]?) (zs.map cv1) parts with
    | some cells => K (.agg cells)
    | none => False
  | some zs, none => match aelT P t with
    | some (_, n) => match gfill (fun i => some (i * n, n)) (zs.map cv1) parts with
      | some cells => K (.agg cells)
      | none => False
    | none => False
  | _, _ => False
def partsOf : Nat → Nat → List (Nat × GV) → Option (List (List PV))
  | _, _, [] => some []
  | k, n, (i, g) :: rest => if i = k then match (gcells g).bind purs, partsOf (k + 1) n rest with
    | some ps, some r => if ps.length = n then some (ps :: r) else none
    | _, _ => none else none
def gBuildSlice (t : TypeId) (len : Nat) (parts : List (Nat × GV)) (K : GV → Dl → Prop) (dst : Option Nat) (G : Heap) : Prop :=
  match elT P t with
  | some (_, n, _) => match partsOf 0 n parts with
    | some es => es.length = len ∧ len * n ≤ 16777216 ∧
      (if dstIn A.arrAt dst then free G d dst ∧ K (.arr (d, dst.getD 0, 0) len n) (.fill [.arr es]) else K (.csl es) .nop)
    | none => False
  | none => False
def gIndexAddr (t : TypeId) (x i : GV) (K : GV → Prop) : Prop :=
  match elT P t, i with
  | some (_, n, _), .p (.int _ j) => match elems x with
    | some es => 0 ≤ j ∧ match es[j.toNat]? with
      | some e => e.length = n ∧ K (.ep e 0)
      | none => False
    | none => match x with
      | .arr κ m sz => sz = n ∧ 0 ≤ j ∧ j < m ∧ K (.ap κ m j.toNat 0)
      | _ => False
  | none, .p (.int _ j) => match aelT P t, x with
    | some (m, n), .bp κ off => 0 ≤ j ∧ j < m ∧ K (.bp κ (off + j.toNat * n))
    | _, _ => False
  | _, _ => False
def gFieldAddr (t : TypeId) (x : GV) (k : Nat) (K : GV → Prop) : Prop :=
  match (flds P t).bind (·[k]?) with
  | some (o, n) => n ≠ 0 ∧ match x with
    | .bp κ off => K (.bp κ (off + o))
    | .ep cells off => K (.ep cells (off + o))
    | .p (.pt cells) => K (.ep cells o)
    | .ap κ m i off => K (.ap κ m i (off + o))
    | _ => False
  | none => False
def gField (t : TypeId) (x : GV) (k : Nat) (K : GV → Prop) : Prop :=
  match x, (flds P t).bind (·[k]?), (fldT P t k).map (tk P) with
  | .agg cells, some (o, _), some (.row n) => o + n ≤ cells.length ∧ K (.agg ((cells.drop o).take n))
  | .agg cells, some (o, _), some .one => match cells[o]? with
    | some g => K g
    | none => False
  | _, _, _ => False
def gIndex (t : TypeId) (x i : GV) (K : GV → Prop) : Prop :=
  match x, i with
  | .p (.str s), .p (.int _ j) => isStr P t = true ∧ 0 ≤ j ∧ match s[j.toNat]? with
    | some b => K (.p (.int .u8 b.toNat))
    | none => False
  | _, _ => False
def gbound : Option GV → Nat → Option Int
  | none, n => some n
  | some (.p (.int _ j)), _ => some j
  | _, _ => none
def gSlice (t : TypeId) (x : GV) (lo hi mx : Option GV) (K : GV → Prop) : Prop :=
  match x with
  | .p (.str s) => isStr P t = true ∧ mx.isNone = true ∧ match gbound lo 0, gbound hi s.size with
    | some l, some h => 0 ≤ l ∧ l ≤ h ∧ h ≤ s.size ∧ K (.p (.str (s.extract l.toNat h.toNat)))
    | _, _ => False
  | .arr κ m sz => match elT P t, gbound lo 0, gbound hi m with
    | some (_, n, _), some l, some h => sz = n ∧ mx.isNone = true ∧ 0 ≤ l ∧ l ≤ h ∧ h ≤ m ∧ K (.asl κ m l.toNat h.toNat sz)
    | _, _, _ => False
  | x => match elems x, elT P t with
    | some es, some (_, n, _) => sizes es n ∧ match gbound lo 0, gbound hi es.length, mx with
      | some l, some h, none => 0 ≤ l ∧ l ≤ h ∧ h ≤ es.length ∧ K (.p (.sl ((es.take h.toNat).drop l.toNat)))
      | some l, some h, some m => 0 ≤ l ∧ l ≤ h ∧ h ≤ es.length ∧ gbound (some m) 0 = some h ∧ hi.isSome = true ∧ K (.csl ((es.take h.toNat).drop l.toNat))
      | _, _, _ => False
    | _, _ => False
def lenOf : GV → Option Nat
  | .p (.str s) => some s.size
  | .p (.sl es) => some es.length
  | .csl es => some es.length
  | .tsl es _ => some es.length
  | .arr _ n _ => some n
  | .asl _ _ lo hi _ => some (hi - lo)
  | _ => none
def gLen (t : TypeId) (x : GV) (K : GV → Prop) : Prop :=
  (match x with | .p (.str _) => isStr P t | _ => isSl P t) = true ∧ match lenOf x with
  | some n => K (.p (.int .i64 n))
  | none => False
def srcOf (G : Heap) (t : TypeId) (n : Nat) (x : GV) : Option (List (List PV)) :=
  match x with
  | .p (.str s) => if isStr P t = true ∧ n = 1 then some (s.data.toList.map fun b => [.int .u8 b.toNat]) else none
  | .arr κ m _ => if isSl P t then match get G κ with
    | some (.arr es) => if es.length = m then some es else none
    | _ => none else none
  | .asl κ m lo hi _ => if isSl P t then match get G κ with
    | some (.arr es) => if es.length = m then some ((es.take hi).drop lo) else none
    | _ => none else none
  | x => if isSl P t then elems x else none
def gAppend (G : Heap) (t tx : TypeId) (s x : GV) (dst : Option Nat) (K : GV → Dl → Prop) : Prop :=
  match elT P t with
  | some (_, n, bytes) => match srcOf P G tx n x with
    | none => False
    | some xs => match s with
    | .csl es => sizes es n ∧ sizes xs n ∧ (es.length + xs.length) * bytes ≤ 140737488355328 ∧
      (if dstIn A.pureAt dst then K (.p (.sl (es ++ xs))) .nop else if xs.isEmpty = true then K (.csl es) .nop else if dstIn A.openAt dst then ∃ k t, k ≤ d ∧ G k t = [] ∧ K (.arr (k, t, 0) (es.length + xs.length) n) (.heap0 (fillKey G k t [.arr (es ++ xs)])) else if dstIn A.arrAt dst then free G d dst ∧ K (.arr (d, dst.getD 0, 0) (es.length + xs.length) n) (.fill [.arr (es ++ xs)]) else free G d dst ∧ K (.tsl (es ++ xs) (d, dst.getD 0, 0)) (.fill [.tok (es.length + xs.length) n]))
    | .tsl es κ => dstIn A.pureAt dst = false ∧ sizes es n ∧ sizes xs n ∧ (es.length + xs.length) * bytes ≤ 140737488355328 ∧ get G κ = some (.tok es.length n) ∧
      K (.tsl (es ++ xs) κ) (.set κ (.tok (es.length + xs.length) n))
    | .arr κ m sz => dstIn A.pureAt dst = false ∧ match get G κ with
      | some (.arr es) => es.length = m ∧ sz = n ∧ sizes xs n ∧ (m + xs.length) * bytes ≤ 140737488355328 ∧ K (.arr κ (m + xs.length) sz) (.set κ (.arr (es ++ xs)))
      | _ => False
    | _ => False
  | none => False
def partOf : GV → Option (Key × Nat × Nat × Nat × Nat)
  | .arr κ m sz => some (κ, m, 0, m, sz)
  | .asl κ m lo hi sz => some (κ, m, lo, hi, sz)
  | _ => none
def gCopy (G : Heap) (t tx : TypeId) (s x : GV) (K : GV → Dl → Prop) : Prop :=
  match elT P t, partOf s with
  | some (_, n, _), some (κ, m, lo, hi, sz) => match srcOf P G tx n x, get G κ with
    | some xs, some (.arr es) => es.length = m ∧ sz = n ∧ sizes xs n ∧ xs.length ≤ hi - lo ∧ K (.p (.int .i64 xs.length)) (.set κ (.arr (es.take lo ++ (xs ++ es.drop (lo + xs.length)))))
    | _, _ => False
  | _, _ => False
def gMake (t : TypeId) (l c : GV) (dst : Option Nat) (G : Heap) (K : GV → Dl → Prop) : Prop :=
  match elT P t, l, c with
  | some (e, n, bytes), .p (.int _ j), .p (.int _ j') => match (zc P e).bind fun zs => purs (zs.map cv1) with
    | some ps => dstIn A.arrAt dst = true ∧ ps.length = n ∧ 0 ≤ j ∧ j' = j ∧ j * (bytes : Int) ≤ 140737488355328 ∧ free G d dst ∧ K (.arr (d, dst.getD 0, 0) j.toNat n) (.fill [.arr (List.replicate j.toNat ps)])
    | none => False
  | _, _, _ => False
def andI (k : IntKind) (a b : Int) : Int := k.wrap (BitVec.ofInt k.bits a &&& BitVec.ofInt k.bits b).toNat
def orI (k : IntKind) (a b : Int) : Int := k.wrap (BitVec.ofInt k.bits a ||| BitVec.ofInt k.bits b).toNat
def xorI (k : IntKind) (a b : Int) : Int := k.wrap (BitVec.ofInt k.bits a ^^^ BitVec.ofInt k.bits b).toNat
def andNotI (k : IntKind) (a b : Int) : Int := k.wrap (BitVec.ofInt k.bits a &&& ~~~ BitVec.ofInt k.bits b).toNat
def shlI (k : IntKind) (a b : Int) : Int := k.wrap (a * 2 ^ min b.toNat k.bits)
def shrI (k : IntKind) (a b : Int) : Int := a.fdiv (2 ^ min b.toNat k.bits)
def ibin : BinOp → IntKind → Int → Int → Option PV
  | .add, k, a, b => some (.int k (k.wrap (a + b)))
  | .sub, k, a, b => some (.int k (k.wrap (a - b)))
  | .mul, k, a, b => some (.int k (k.wrap (a * b)))
  | .and, k, a, b => some (.int k (andI k a b))
  | .or, k, a, b => some (.int k (orI k a b))
  | .xor, k, a, b => some (.int k (xorI k a b))
  | .andNot, k, a, b => some (.int k (andNotI k a b))
  | .eql, _, a, b => some (.bool (decide (a = b)))
  | .neq, _, a, b => some (.bool (!decide (a = b)))
  | .lss, _, a, b => some (.bool (decide (a < b)))
  | .leq, _, a, b => some (.bool (decide (a ≤ b)))
  | .gtr, _, a, b => some (.bool (decide (b < a)))
  | .geq, _, a, b => some (.bool (decide (b ≤ a)))
  | _, _, _, _ => none
def toV : PV → Option Value
  | .int k n => some (.int k n)
  | .bool b => some (.bool b)
  | .str s => some (.string s)
  | _ => none
def toVs : List PV → Option (List Value)
  | [] => some []
  | p :: ps => match toV p, toVs ps with
    | some v, some vs => some (v :: vs)
    | _, _ => none
def gEqS (t : TypeId) (x y : List GV) (neg : Bool) (K : GV → Prop) : Prop :=
  match (purs x).bind toVs, (purs y).bind toVs with
  | some vs, some us => ∃ r : Bool, (∀ w : World, (do eqGuard .eql t (.const undef) (.const undef) (.agg vs.toArray) (.agg us.toArray); Op.equal t (.agg vs.toArray) (.agg us.toArray) : Sem Bool).run P w = .ok r w) ∧ K (.p (.bool (if neg then !r else r)))
  | _, _ => False
def isNilOf : GV → Option Bool
  | .p .null => some true
  | .bp _ _ => some false
  | .ep _ _ => some false
  | .p (.pt _) => some false
  | _ => none
def gBin (op : BinOp) (t : TypeId) (x y : GV) (K : GV → Prop) : Prop :=
  match x, y with
  | .p (.int k a), .p (.int k' b) => match op with
    | .shl => 0 ≤ b ∧ K (.p (.int k (shlI k a b)))
    | .shr => 0 ≤ b ∧ K (.p (.int k (shrI k a b)))
    | .quo => k = k' ∧ b ≠ 0 ∧ K (.p (.int k (k.wrap (a.tdiv b))))
    | .rem => k = k' ∧ b ≠ 0 ∧ K (.p (.int k (a.tmod b)))
    | op => k = k' ∧ match ibin op k a b with
      | some v => K (.p v)
      | none => False
  | .p (.bool a), .p (.bool b) => isBool P t = true ∧ match op with
    | .eql => K (.p (.bool (a == b)))
    | .neq => K (.p (.bool (!(a == b))))
    | _ => False
  | .p (.str a), .p (.str b) => match op with
    | .add => a.size + b.size ≤ 9223372036854775807 ∧ K (.p (.str (a ++ b)))
    | .eql => K (.p (.bool (decide (a = b))))
    | .neq => K (.p (.bool (!decide (a = b))))
    | .lss => K (.p (.bool (Op.bytesLess a.toList b.toList)))
    | _ => False
  | .agg xs, .agg ys => match op with
    | .eql => gEqS P t xs ys false K
    | .neq => gEqS P t xs ys true K
    | _ => False
  | x, y => isPtr P t = true ∧ match isNilOf x, isNilOf y with
    | some a, some b => (a || b) = true ∧ match op with
      | .eql => K (.p (.bool (a && b)))
      | .neq => K (.p (.bool (!(a && b))))
      | _ => False
    | _, _ => False
def gUn (op : UnOp) (x : GV) (K : GV → Prop) : Prop :=
  match op, x with
  | .not, .p (.bool b) => K (.p (.bool !b))
  | .neg, .p (.int k n) => K (.p (.int k (k.wrap (0 - n))))
  | .xor, .p (.int k n) => K (.p (.int k (k.wrap (BitVec.ofInt k.bits (if k.signed then -1 else k.max) ^^^ BitVec.ofInt k.bits n).toNat)))
  | _, _ => False
def bytesOf : List (List PV) → Option (List Int)
  | [] => some []
  | [.int .u8 n] :: r => (bytesOf r).map (n :: ·)
  | _ => none
def strOf (ns : List Int) : ByteArray := ns.foldl (fun r n => r.push (UInt8.ofNat n.toNat)) ByteArray.empty
def gConv (src dst : TypeId) (x : GV) (K : GV → Prop) : Prop :=
  match x with
  | .p (.int _ n) => match intK P src, intK P dst with
    | some _, some k => K (.p (.int k (k.wrap n)))
    | _, _ => False
  | .p (.str s) => isStr P src = true ∧ isStr P dst = true ∧ K (.p (.str s))
  | x => match elT P src, elems x with
    | some (e, n, _), some es => intK P e = some .u8 ∧ isStr P dst = true ∧ n = 1 ∧ sizes es 1 ∧ match bytesOf es with
      | some bs => K (.p (.str (strOf bs)))
      | none => False
    | _, _ => False
def gMin (k : Bool) : List GV → Option GV
  | .p (.int i a) :: .p (.int i' b) :: [] => if i = i' then some (.p (.int i (if k then (if b < a then b else a) else (if a < b then b else a)))) else none
  | _ => none
def gCall (G : Heap) (f : GV) (args : List GV) (dst : Option Nat) (K : GV → Dl → Prop) : Prop :=
  match f with
  | .fn n caps =>
    if dstIn A.borAt dst then ∃ as, wkBs G d (args ++ caps) as ∧ closeds as ∧ ∃ r, C d n as empty r empty ∧ scal r ∧ K r .nop else
    ∃ as, wkRs (args ++ caps) as ∧ if dstIn A.openAt dst then ∃ r G', C d n as G r G' ∧ ((dstIn A.drwAt dst = false ∧ free G d dst ∧ free G' d dst ∧ K (adopt d (dst.getD 0) r []).1 (.heap G' (adopt d (dst.getD 0) r []).2)) ∨ ∃ t0, G d t0 = [] ∧ G' d t0 = [] ∧ adopt d t0 r [] = (r, []) ∧ (dstIn A.drwAt dst = true → t0 ∉ A.also (dst.getD 0) ∧ opC C A d n as G r G' (dst.getD 0)) ∧ K r (.heap0 G'))
    else closeds as ∧ ∃ r, C d n as empty r empty ∧ if dstIn A.frzAt dst then K (frz r) .nop else free G d dst ∧ K (adopt d (dst.getD 0) r []).1 (.fill (adopt d (dst.getD 0) r []).2)
  | _ => False
def gBuiltin (G : Heap) (b : Builtin) (ts : List TypeId) (xs : List GV) (dst : Option Nat) (K : GV → Dl → Prop) : Prop :=
  match b, ts, xs with
  | .len, [t], [x] => gLen P t x fun v => K v .nop
  | .append, [t, tx], [s, x] => appC A d dst s x ∧ gAppend P A d G t tx s x dst K
  | .copy, [t, tx], [s, x] => gCopy P G t tx s x K
  | .min, _, xs => match gMin true xs with
    | some v => K v .nop
    | none => False
  | .max, _, xs => match gMin false xs with
    | some v => K v .nop
    | none => False
  | _, _, _ => False
def gop (o : Oper) (F : Nat → GV) (G : Heap) (K : GV → Dl → Prop) : Prop :=
  match o.op with
  | .move x => K (ge F x) .nop
  | .assign x => K (wkA (dstIn A.pureAt o.dst) (ge F x)) .nop
  | .pick c a b => match ge F c with
    | .p (.bool t) => (t = true → K (ge F a) .nop) ∧ (t = false → K (ge F b) .nop)
    | _ => False
  | .alloc t => match zc P t with
    | some zs => free G d o.dst ∧ K (.bp (d, o.dst.getD 0, 0) 0) (.fill [.box (zs.map cv1)])
    | none => False
  | .box _ x => match gcells (ge F x) with
    | some cs => if dstIn A.frzAt o.dst then (match purs cs with | some ps => K (.ep ps 0) .nop | none => False) else free G d o.dst ∧ K (.bp (d, o.dst.getD 0, 0) 0) (.fill [.box cs])
    | none => False
  | .build t ps => gBuild P t (ps.toList.map fun q => (q.1, ge F q.2)) fun v => K v .nop
  | .buildSlice t n ps => gBuildSlice P A d t n (ps.toList.map fun q => (q.1, ge F q.2)) K o.dst G
  | .makeSlice t l c => gMake P A d t (ge F l) (ge F c) o.dst G K
  | .load t a => boxC A d a (ge F a) ∧ wkC P A t a (ge F a) ∧ gLoad P G t (ge F a) fun v => K v .nop
  | .store t a v => boxC A d a (ge F a) ∧ gStore P G t (ge F a) (ge F v) fun δ => K .undef δ
  | .nilCheck x => match ge F x with
    | .bp κ off => K (.bp κ off) .nop
    | .ep cs off => K (.ep cs off) .nop
    | .ap κ m i off => K (.ap κ m i off) .nop
    | .p (.pt cs) => K (.p (.pt cs)) .nop
    | .fn f cs => K (.fn f cs) .nop
    | _ => False
  | .binOp op t x y _ => gBin P op t (ge F x) (ge F y) fun v => K v .nop
  | .unOp op _ x => gUn op (ge F x) fun v => K v .nop
  | .convert s t x => gConv P s t (ge F x) fun v => K v .nop
  | .makeFunc (.func f) first caps => first.size = 0 ∧ K (.fn f (caps.toList.map (ge F))) .nop
  | .slice t x lo hi mx => gSlice P t (ge F x) (lo.map (ge F)) (hi.map (ge F)) (mx.map (ge F)) fun v => K v .nop
  | .fieldAddr t x k => gFieldAddr P t (ge F x) k fun v => K v .nop
  | .field t x k => gField P t (ge F x) k fun v => K v .nop
  | .indexAddr t x i => gIndexAddr P t (ge F x) (ge F i) fun v => K v .nop
  | .index t x i => gIndex P t (ge F x) (ge F i) fun v => K v .nop
  | .extract x k => match ge F x with
    | .tup vs => match vs[k]? with
      | some v => K v .nop
      | none => False
    | _ => False
  | .call c => match c.callee with
    | .value f => gCall C A d G (ge F f) (c.args.toList.map (ge F)) o.dst K
    | .builtin b => gBuiltin P A d G b c.argTypes.toList (c.args.toList.map (ge F)) o.dst K
    | _ => False
  | _ => False
def gop1 (all : Array Oper) (o : Oper) (K : St → Prop) (s : St) : Prop :=
  match o.guard with
  | none => gop P C A d o s.F s.G fun v δ => K ⟨put s.F o.dst v, appD s.G d o.dst δ⟩
  | some (j, want) => match (all[j]?).bind (·.dst) with
    | some t => match s.F t with
      | .p (.bool b) => (b = want → gop P C A d o s.F s.G fun v δ => K ⟨put s.F o.dst v, appD s.G d o.dst δ⟩) ∧ (b = (!want) → K ⟨put s.F o.dst (.tup []), s.G⟩)
      | .tup [] => K ⟨put s.F o.dst (.tup []), s.G⟩
      | _ => False
    | none => False
def gops (all : Array Oper) : List Oper → (St → Prop) → St → Prop
  | [], K, s => K s
  | o :: os, K, s => gop1 P C A d all o (gops all os K) s
inductive GE where
  | normal | exit (id : Nat) | ret
def GE.then (next : St → Prop) (Q : GE → St → Prop) : GE → St → Prop
  | .normal, s => next s
  | e, s => Q e s
def GE.inBlock (id : Nat) (Q : GE → St → Prop) : GE → St → Prop
  | .exit k, s => if k = id then Q .normal s else Q (.exit k) s
  | e, s => Q e s
def firstId : Code → Nat
  | .region id _ _ => id
  | .seq a _ => firstId a
  | .block _ c => firstId c
  | .loop c => firstId c
  | _ => 1000000
mutual
def poison (d : Nat) (ts : List Nat) : GV → GV
  | .tsl es κ => if κ.1 = d ∧ κ.2.1 ∈ ts then .p (.sl es) else .tsl es κ
  | .bp κ off => if κ.1 = d ∧ κ.2.1 ∈ ts then .undef else .bp κ off
  | .arr κ n sz => if κ.1 = d ∧ κ.2.1 ∈ ts then .undef else .arr κ n sz
  | .ap κ m i off => if κ.1 = d ∧ κ.2.1 ∈ ts then .undef else .ap κ m i off
  | .asl κ m lo hi sz => if κ.1 = d ∧ κ.2.1 ∈ ts then .undef else .asl κ m lo hi sz
  | .fn f gs => .fn f (poisons d ts gs)
  | .agg gs => .agg (poisons d ts gs)
  | .tup gs => .tup (poisons d ts gs)
  | x => x
def poisons (d : Nat) (ts : List Nat) : List GV → List GV
  | [] => []
  | g :: gs => poison d ts g :: poisons d ts gs
end
def poisonO (d : Nat) (ts : List Nat) : Obj' → Obj'
  | .box cs => .box (poisons d ts cs)
  | o => o
def cleanS (d : Nat) (ts : List Nat) (s : St) : St :=
  ⟨fun t => wkA (decide (t + 1000000 ∈ ts)) (poison d ts (s.F t)), fun k t => if k = d then (if t ∈ ts then [] else (s.G k t).map (poisonO d ts)) else s.G k t⟩
def clean (d : Nat) (ts : List Nat) (s : St) : St := match ts with
  | [] => s
  | ts => cleanS d ts s
def loopW (body : (GE → St → Prop) → St → Prop) (ts : List Nat) (Q : GE → St → Prop) : Nat → St → Prop
  | 0, _ => False
  | n + 1, s => body (GE.then (loopW body ts Q n) Q) (clean d ts s)
def gwp : Code → (GE → St → Prop) → St → Prop
  | .skip, Q, s => Q .normal s
  | .region _ ops _, Q, s => gops P C A d ops ops.toList (Q .normal) s
  | .seq a b, Q, s => gwp a (GE.then (gwp b Q) Q) s
  | .cond c x y, Q, s => match ge s.F c with
    | .p (.bool t) => (t = true → gwp x Q s) ∧ (t = false → gwp y Q s)
    | _ => False
  | .block id c, Q, s => gwp c (GE.inBlock id Q) s
  | .loop c, Q, s => ∃ n, loopW d (gwp c) (A.clean (firstId c)) Q n s
  | .exit id, Q, s => Q (.exit id) s
  | .ret, Q, s => Q .ret s
  | _, _, _ => False
def weak (d : Nat) : GV → GV → Prop
  | .p v, r => r = .p v
  | .csl es, r => r = .csl es ∨ r = .p (.sl es)
  | .tsl es κ, r => r = .p (.sl es) ∨ (r = .tsl es κ ∧ κ.1 ≤ d)
  | .bp κ off, r => r = .bp κ off ∧ κ.1 ≤ d
  | .ep cs off, r => r = .ep cs off
  | .fn f gs, r => r = .fn f gs ∧ okds d gs
  | _, _ => False
def weaks (d : Nat) : List GV → List GV → Prop
  | [], rs => rs = []
  | g :: gs, rs => match rs with
    | r :: rs => weak d g r ∧ weaks d gs rs
    | [] => False
mutual
def Ret (G : Heap) (d : Nat) : GV → GV → List Key → List Key → Prop
  | .p v, r, ks, ks' => r = .p v ∧ ks' = ks
  | .csl es, r, ks, ks' => (r = .csl es ∨ r = .p (.sl es)) ∧ ks' = ks
  | .tsl es κ, r, ks, ks' => match r with
    | .p (.sl es') => es' = es ∧ ks' = ks
    | .own es' sz => es' = es ∧ d < κ.1 ∧ get G κ = some (.tok es.length sz) ∧ κ ∉ ks ∧ ks' = ks ++ [κ]
    | .tsl es' κ' => es' = es ∧ κ' = κ ∧ κ.1 ≤ d ∧ ks' = ks
    | _ => False
  | .arr κ n sz, r, ks, ks' => match r with
    | .own es sz' => d < κ.1 ∧ get G κ = some (.arr es) ∧ es.length = n ∧ sz' = sz ∧ κ ∉ ks ∧ ks' = ks ++ [κ]
    | .oar es sz' => d < κ.1 ∧ get G κ = some (.arr es) ∧ es.length = n ∧ sz' = sz ∧ κ ∉ ks ∧ ks' = ks ++ [κ]
    | .arr κ' n' sz' => κ' = κ ∧ n' = n ∧ sz' = sz ∧ κ.1 ≤ d ∧ ks' = ks
    | _ => False
  | .bp κ off, r, ks, ks' => match r with
    | .bp κ' off' => κ' = κ ∧ off' = off ∧ κ.1 ≤ d ∧ ks' = ks
    | .obx cs' => d < κ.1 ∧ off = 0 ∧ (∃ cs, get G κ = some (.box cs) ∧ weaks d cs cs') ∧ κ ∉ ks ∧ ks' = ks ++ [κ]
    | _ => False
  | .ep cs off, r, ks, ks' => r = .ep cs off ∧ ks' = ks
  | .fn f gs, r, ks, ks' => r = .fn f gs ∧ okds d gs ∧ ks' = ks
  | .agg gs, r, ks, ks' => match r with
    | .agg rs => Rets G d gs rs ks ks'
    | _ => False
  | .tup gs, r, ks, ks' => match r with
    | .tup rs => Rets G d gs rs ks ks'
    | _ => False
  | _, _, _, _ => False
def Rets (G : Heap) (d : Nat) : List GV → List GV → List Key → List Key → Prop
  | [], rs, ks, ks' => rs = [] ∧ ks' = ks
  | g :: gs, rs, ks, ks' => match rs with
    | r :: rs => ∃ km, Ret G d g r ks km ∧ Rets G d gs rs km ks'
    | [] => False
end
def resOf (s : St) : ResultVar → (GV → Prop) → Prop
  | .tmp t, K => K (s.F t)
  | .cell a t, K => gLoad P s.G t (s.F a) K
def ress (s : St) : List ResultVar → (List GV → Prop) → Prop
  | [], K => K []
  | r :: rs, K => resOf P s r fun g => ress s rs fun gs => K (g :: gs)
def cut (d : Nat) (G : Heap) : Heap := fun k t => if k ≤ d then G k t else []
def callPost (fn : Func) (d : Nat) (r : GV) (G' : Heap) : GE → St → Prop
  | .exit _, _ => False
  | _, s => (ress P s fn.results.toList fun gs => ∃ ks, Ret s.G d (match gs with | [g] => g | gs => .tup gs) r [] ks) ∧ ∀ k t, k ≤ d → s.G k t = G' k t
end
def initF (args : List GV) : Nat → GV := fun t => args.getD t .undef
end Go.Eng
end
section
set_option linter.all false
namespace Go.Eng
structure Fr (d : Nat) (G : Heap) (R : RMap) (w : World) (G' : Heap) (R' : RMap) (w' : World) : Prop where
  size : w.heap.size ≤ w'.heap.size
  keep : ∀ b, b < w.heap.size → (∀ κ o, κ.1 ≤ d → get G κ = some o → (R κ).b ≠ b) → w'.heap[b]? = w.heap[b]?
  come : ∀ κ o, κ.1 ≤ d → get G' κ = some o → (R' κ).b < w.heap.size → ∃ κ' o', κ'.1 ≤ d ∧ get G κ' = some o' ∧ (R κ').b = (R' κ).b
  env : SameEnv w w'
theorem Fr.refl (d : Nat) (G : Heap) (R : RMap) (w : World) : Fr d G R w G R w := ⟨Nat.le_refl _, fun _ _ _ => rfl, fun κ o hk hg _ => ⟨κ, o, hk, hg, rfl⟩, .refl _⟩
theorem Fr.trans {d : Nat} {G G' G'' : Heap} {R R' R'' : RMap} {w w' w'' : World} (h : Fr d G R w G' R' w') (h' : Fr d G' R' w' G'' R'' w'') : Fr d G R w G'' R'' w'' where
  size := Nat.le_trans h.size h'.size
  env := h.env.trans h'.env
  keep b hb hn := (h'.keep b (Nat.lt_of_lt_of_le hb h.size) (fun κ o hk hg e => by
    obtain ⟨κ', o', h1, h2, h3⟩ := h.come κ o hk hg (by omega)
    exact hn κ' o' h1 h2 (h3.trans e))).trans (h.keep b hb hn)
  come κ o hk hg hlt := by
    obtain ⟨κ', o', h1, h2, h3⟩ := h'.come κ o hk hg (Nat.lt_of_lt_of_le hlt h.size)
    obtain ⟨κ'', o'', h4, h5, h6⟩ := h.come κ' o' h1 h2 (by omega)
    exact ⟨κ'', o'', h4, h5, h6.trans h3⟩
structure Step (X : XS) (d : Nat) (G : Heap) (R : RMap) (w : World) (G' : Heap) (R' : RMap) (w' : World) : Prop where
  sim : Sim X d G' R' w'
  ext : Ext d (Mem X d G R w) G R (Mem X d G' R' w') G' R'
  fr : Fr d G R w G' R' w'
theorem Step.refl {X : XS} {d : Nat} {G : Heap} {R : RMap} {w : World} (h : Sim X d G R w) : Step X d G R w G R w := ⟨h, Ext.refl _ _ _ _, Fr.refl _ _ _ _⟩
theorem Step.trans {X : XS} {d : Nat} {G G' G'' : Heap} {R R' R'' : RMap} {w w' w'' : World} (h : Step X d G R w G' R' w') (h' : Step X d G' R' w' G'' R'' w'') : Step X d G R w G'' R'' w'' :=
  ⟨h'.sim, h.ext.trans h'.ext, h.fr.trans h'.fr⟩
theorem Step.grow {X : XS} {d : Nat} {G : Heap} {R : RMap} {w w' : World} (hs : Sim X d G R w) (h : Grows w w') : Step X d G R w G R w' :=
  ⟨hs.grow h, Ext.grow h, ⟨h.size, fun b hb _ => h.old b hb, fun κ o hk hg _ => ⟨κ, o, hk, hg, rfl⟩, h.env⟩⟩
section
variable {M : Nat → Nat → Value → Prop} {G : Heap} {R : RMap} {d : Nat}
theorem VRs.length : ∀ {gs : List GV} {vs : List Value}, VRs M G R d gs vs → gs.length = vs.length
  | [], [], _ => rfl
  | _ :: _, _ :: _, h => by unfold VRs at h; simp [VRs.length h.2]
  | [], _ :: _, h => by unfold VRs at h; exact h.elim
  | _ :: _, [], h => by unfold VRs at h; exact h.elim
theorem VRs.get : ∀ {gs : List GV} {vs : List Value} {i : Nat} {g : GV}, VRs M G R d gs vs → gs[i]? = some g → ∃ v, vs[i]? = some v ∧ VR M G R d g v
  | g :: gs, v :: vs, 0, g', h, hi => by unfold VRs at h; simp at hi; subst hi; exact ⟨v, rfl, h.1⟩
  | g :: gs, v :: vs, i + 1, g', h, hi => by
    unfold VRs at h
    simp at hi
    obtain ⟨v', h1, h2⟩ := VRs.get h.2 hi
    exact ⟨v', by simpa using h1, h2⟩
  | [], _, _, _, _, hi => by simp at hi
  | _ :: _, [], _, _, h, _ => by unfold VRs at h; exact h.elim
theorem VRs.app : ∀ {gs gs' : List GV} {vs vs' : List Value}, VRs M G R d gs vs → VRs M G R d gs' vs' → VRs M G R d (gs ++ gs') (vs ++ vs')
  | [], _, [], _, _, h' => h'
  | g :: gs, gs', v :: vs, vs', h, h' => by
    unfold VRs at h
    show VRs M G R d (g :: (gs ++ gs')) (v :: (vs ++ vs'))
    unfold VRs
    exact ⟨h.1, VRs.app h.2 h'⟩
  | [], _, _ :: _, _, h, _ => by unfold VRs at h; exact h.elim
  | _ :: _, _, [], _, h, _ => by unfold VRs at h; exact h.elim
theorem VRs.take : ∀ {gs : List GV} {vs : List Value} (n : Nat), VRs M G R d gs vs → VRs M G R d (gs.take n) (vs.take n)
  | [], [], _, _ => by simp [VRs]
  | _ :: _, _ :: _, 0, _ => by simp [VRs]
  | g :: gs, v :: vs, n + 1, h => by
    unfold VRs at h
    simp only [List.take_succ_cons]
    unfold VRs
    exact ⟨h.1, VRs.take n h.2⟩
  | [], _ :: _, _, h => by unfold VRs at h; exact h.elim
  | _ :: _, [], _, h => by unfold VRs at h; exact h.elim
theorem VRs.drop : ∀ {gs : List GV} {vs : List Value} (n : Nat), VRs M G R d gs vs → VRs M G R d (gs.drop n) (vs.drop n)
  | [], [], _, _ => by simp [VRs]
  | _ :: _, _ :: _, 0, h => h
  | g :: gs, v :: vs, n + 1, h => by
    unfold VRs at h
    simp only [List.drop_succ_cons]
    exact VRs.drop n h.2
  | [], _ :: _, _, h => by unfold VRs at h; exact h.elim
  | _ :: _, [], _, h => by unfold VRs at h; exact h.elim
theorem VRs.cons {g : GV} {v : Value} {gs : List GV} {vs : List Value} (h : VR M G R d g v) (h' : VRs M G R d gs vs) : VRs M G R d (g :: gs) (v :: vs) := by
  unfold VRs; exact ⟨h, h'⟩
theorem VRs.nil : VRs M G R d [] [] := by unfold VRs; trivial
theorem VRs.one {g : GV} {v : Value} (h : VR M G R d g v) : VRs M G R d [g] [v] := VRs.cons h VRs.nil
theorem VRs.map {α : Type} (f : α → GV) (f' : α → Value) : ∀ (l : List α), (∀ x ∈ l, VR M G R d (f x) (f' x)) → VRs M G R d (l.map f) (l.map f')
  | [], _ => VRs.nil
  | x :: l, h => VRs.cons (h x (by simp)) (VRs.map f f' l fun y hy => h y (by simp [hy]))
theorem PR.one {p : PV} {x : Value} (h : PR M p x) : x.oneCell' = true := by
  cases p <;> unfold PR at h
  case sl es => obtain ⟨a, cap, rfl, _⟩ := h; rfl
  case pt cs => obtain ⟨b, o, rfl, _⟩ := h; rfl
  all_goals subst h; rfl
theorem VR.p_iff {p : PV} {x : Value} : VR M G R d (.p p) x ↔ PR M p x := by unfold VR; rfl
theorem VR.csl_sl {es : List (List PV)} {x : Value} (h : VR M G R d (.csl es) x) : PR M (.sl es) x := by unfold VR at h; exact h.1
theorem VR.tsl_sl {es : List (List PV)} {κ : Key} {x : Value} (h : VR M G R d (.tsl es κ) x) : PR M (.sl es) x := by unfold VR at h; exact h.1
theorem VR.elems {g : GV} {es : List (List PV)} {x : Value} (h : VR M G R d g x) (he : elems g = some es) : PR M (.sl es) x := by
  cases g <;> simp [Eng.elems] at he
  case p v =>
    cases v <;> simp at he
    subst he; exact VR.p_iff.1 h
  case csl => subst he; exact h.csl_sl
  case tsl => subst he; exact h.tsl_sl
theorem VR.pur {g : GV} {p : PV} {x : Value} (h : VR M G R d g x) (he : pur g = some p) : PR M p x := by
  cases g <;> try (simp [Eng.pur] at he; done)
  case p v => simp [Eng.pur] at he; subst he; exact VR.p_iff.1 h
  case csl => simp [Eng.pur] at he; subst he; exact h.csl_sl
  case tsl => simp [Eng.pur] at he; subst he; exact h.tsl_sl
  case ep cs off =>
    cases off with
    | succ n => simp [Eng.pur] at he
    | zero =>
      simp [Eng.pur] at he
      subst he
      unfold VR at h
      obtain ⟨b, o, h1, h2⟩ := h
      unfold PR
      exact ⟨b, o, by simpa using h1, h2⟩
theorem VR.cells {g : GV} {x : Value} {cs : List GV} (h : VR M G R d g x) (hc : gcells g = some cs) :
    ∃ vs : List Value, x.cells = vs.toArray ∧ (∀ v ∈ vs, v.oneCell' = true) ∧ VRs M G R d cs vs ∧ (cs.length ≠ 1 → x = .agg vs.toArray) := by
  have one : ∀ (hx : x.oneCell' = true), VR M G R d g x → cs = [g] → ∃ vs : List Value, x.cells = vs.toArray ∧ (∀ v ∈ vs, v.oneCell' = true) ∧ VRs M G R d cs vs ∧ (cs.length ≠ 1 → x = .agg vs.toArray) := by
    intro hx hv hcs
    subst hcs
    refine ⟨[x], ?_, by simpa using hx, VRs.one hv, fun hne => absurd rfl hne⟩
    cases x <;> first | rfl | (simp [Value.oneCell'] at hx)
  cases g <;> simp only [gcells, Option.some.injEq, reduceCtorEq] at hc
  case p v => exact one (PR.one (VR.p_iff.1 h)) h hc.symm
  case csl => exact one (PR.one h.csl_sl) h hc.symm
  case tsl => exact one (PR.one h.tsl_sl) h hc.symm
  case bp => refine one ?_ h hc.symm; unfold VR at h; rw [h.2.2]; rfl
  case ep => refine one ?_ h hc.symm; unfold VR at h; obtain ⟨b, o, rfl, _⟩ := h; rfl
  case arr => refine one ?_ h hc.symm; unfold VR at h; obtain ⟨_, _, es, _, _, b, o, c, rfl, _, _⟩ := h; rfl
  case fn => refine one ?_ h hc.symm; unfold VR at h; obtain ⟨vs, rfl, _⟩ := h; rfl
  case agg gs =>
    subst hc
    unfold VR at h
    obtain ⟨vs, rfl, h1, h2⟩ := h
    exact ⟨vs, rfl, h1, h2, fun _ => rfl⟩
theorem VR.cv1 (v : Value) : VR M G R d (cv1 v) v := by
  unfold Eng.cv1
  split <;> unfold VR
  case h_6 => unfold PR; exact ⟨⟨none, 0, rfl, Nat.le_refl _, fun _ => rfl, fun h => absurd rfl h⟩, none, rfl⟩
  all_goals first | trivial | rfl
end
theorem exists_list {Pr : Nat → Value → Prop} : ∀ (n : Nat), (∀ i, i < n → ∃ v, Pr i v) → ∃ vs : List Value, vs.length = n ∧ ∀ i v, vs[i]? = some v → Pr i v
  | 0, _ => ⟨[], rfl, fun i v h => by simp at h⟩
  | n + 1, h => by
    obtain ⟨vs, h1, h2⟩ := exists_list n (fun i hi => h i (by omega))
    obtain ⟨v, hv⟩ := h n (by omega)
    refine ⟨vs ++ [v], by simp [h1], fun i u hu => ?_⟩
    rw [List.getElem?_append] at hu
    split at hu
    · exact h2 i u hu
    · rename_i hi
      have : i = n := by
        have hlt := (List.getElem?_eq_some_iff.1 hu).1
        simp at hlt
        omega
      subst this
      simp [h1] at hu
      subst hu; exact hv
section
variable {M : Nat → Nat → Value → Prop} {G : Heap} {R : RMap} {d : Nat}
theorem VRs.of_get : ∀ {gs : List GV} {vs : List Value}, gs.length = vs.length → (∀ (i : Nat) (g : GV) (v : Value), gs[i]? = some g → vs[i]? = some v → VR M G R d g v) → VRs M G R d gs vs
  | [], [], _, _ => VRs.nil
  | g :: gs, v :: vs, hl, h => VRs.cons (h 0 g v rfl rfl) (VRs.of_get (by simpa using hl) fun i g' v' h1 h2 => h (i + 1) g' v' (by simpa using h1) (by simpa using h2))
  | [], _ :: _, hl, _ => by simp at hl
  | _ :: _, [], hl, _ => by simp at hl
theorem PRs.get : ∀ {cs : List PV} {b o i : Nat} {c : PV}, PRs M cs b o → cs[i]? = some c → ∃ v, M b (o + i) v ∧ PR M c v
  | c :: cs, b, o, 0, c', h, hi => by unfold PRs at h; simp at hi; subst hi; exact h.1
  | c :: cs, b, o, i + 1, c', h, hi => by
    unfold PRs at h
    simp at hi
    obtain ⟨v, h1, h2⟩ := PRs.get h.2 hi
    exact ⟨v, by rwa [show o + (i + 1) = o + 1 + i by omega], h2⟩
  | [], _, _, _, _, _, hi => by simp at hi
theorem PRs.of_get : ∀ {cs : List PV} {b o : Nat}, (∀ i c, cs[i]? = some c → ∃ v, M b (o + i) v ∧ PR M c v) → PRs M cs b o
  | [], _, _, _ => by unfold PRs; trivial
  | c :: cs, b, o, h => by
    unfold PRs
    refine ⟨h 0 c rfl, PRs.of_get fun i c' hi => ?_⟩
    obtain ⟨v, h1, h2⟩ := h (i + 1) c' (by simpa using hi)
    exact ⟨v, by rwa [show o + 1 + i = o + (i + 1) by omega], h2⟩
theorem PRss.get : ∀ {es : List (List PV)} {b o sz i : Nat} {e : List PV}, PRss M es b o sz → es[i]? = some e → e.length = sz ∧ PRs M e b (o + i * sz)
  | e :: es, b, o, sz, 0, e', h, hi => by unfold PRss at h; simp at hi; subst hi; simpa using h.1
  | e :: es, b, o, sz, i + 1, e', h, hi => by
    unfold PRss at h
    simp at hi
    obtain ⟨h1, h2⟩ := PRss.get h.2 hi
    exact ⟨h1, by rwa [show o + (i + 1) * sz = o + sz + i * sz by rw [Nat.add_mul]; omega]⟩
  | [], _, _, _, _, _, _, hi => by simp at hi
theorem PRss.of_get : ∀ {es : List (List PV)} {b o sz : Nat}, (∀ i e, es[i]? = some e → e.length = sz ∧ PRs M e b (o + i * sz)) → PRss M es b o sz
  | [], _, _, _, _ => by unfold PRss; trivial
  | e :: es, b, o, sz, h => by
    unfold PRss
    refine ⟨by simpa using h 0 e rfl, PRss.of_get fun i e' hi => ?_⟩
    obtain ⟨h1, h2⟩ := h (i + 1) e' (by simpa using hi)
    exact ⟨h1, by rwa [show o + sz + i * sz = o + (i + 1) * sz by rw [Nat.add_mul]; omega]⟩
end
section
variable {P : Program}
theorem tk_row {t : TypeId} {n : Nat} (h : tk P t = .row n) : ∃ d i, P.underlying t = some d ∧ d.isRow = true ∧ P.info? t = some i ∧ i.size = n := by
  unfold tk at h
  split at h
  · rename_i d i hd hi
    split at h
    · rename_i hr
      injection h with h
      exact ⟨d, i, hd, hr, hi, h⟩
    · cases h
  · cases h
theorem tk_one {t : TypeId} (h : tk P t = .one) : ∃ d i, P.underlying t = some d ∧ d.isRow = false ∧ P.info? t = some i := by
  unfold tk at h
  split at h
  · rename_i d i hd hi
    split at h
    · cases h
    · rename_i hr
      exact ⟨d, i, hd, by simpa using hr, hi⟩
  · cases h
theorem run_isAgg_one {t : TypeId} {d : TypeDesc} (hu : P.underlying t = some d) (hd : d.isRow = false) (w : World) : (isAgg t).run P w = .ok false w := by
  unfold isAgg
  rw [Sem.run_bind, run_underlying hu w]
  cases d <;> simp_all
theorem run_isAgg_row {t : TypeId} {d : TypeDesc} (hu : P.underlying t = some d) (hd : d.isRow = true) (w : World) : (isAgg t).run P w = .ok true w := by
  unfold isAgg
  rw [Sem.run_bind, run_underlying hu w]
  cases d <;> simp_all
theorem run_loadAt_one {t : TypeId} (h : tk P t = .one) {w : World} {ad : Addr} {v : Value} (hc : w.cell? ad = some v) : (Instr.loadAt t (.pointer (some ad))).run P w = .ok v w := by
  obtain ⟨d, i, hu, hd, _⟩ := tk_one h
  simp only [Instr.loadAt, Instr.sureAddr, loadVar, Sem.run_bind, Sem.run_pure, Result.andThen_ok, run_isAgg_one hu hd w, Bool.false_eq_true, if_false, run_load, hc]
theorem run_loadAt_row {t : TypeId} {n : Nat} (h : tk P t = .row n) {w : World} {b o : Nat} {cs : List Value} (hc : w.rangeAt b o cs) (hn : cs.length = n) :
    (Instr.loadAt t (.pointer (some ⟨b, o, none⟩))).run P w = .ok (.agg cs.toArray) w := by
  obtain ⟨d, i, hu, hd, hi, hs⟩ := tk_row h
  exact run_loadAt_mid w b o t cs d hc hu hd (by rw [hi]; simp [hs, hn])
end
section
variable {X : XS} {P : Program} {G : Heap} {R : RMap} {d : Nat} {w : World}
theorem loadC_sound {t : TypeId} {cells : List GV} {off b o : Nat} {K : GV → Prop}
    (hc : ∀ i g, cells[i]? = some g → ∃ v, w.cell? ⟨b, o + i, none⟩ = some v ∧ v.oneCell' = true ∧ VR (Mem X d G R w) G R d g v) (h : gLoadC P t cells off K) :
    ∃ v rv, K v ∧ (Instr.loadAt t (.pointer (some ⟨b, o + off, none⟩))).run P w = .ok rv w ∧ VR (Mem X d G R w) G R d v rv := by
  unfold gLoadC at h
  split at h
  · rename_i n ht
    obtain ⟨hle, hK⟩ := h
    obtain ⟨vs, hvl, hv⟩ := exists_list (Pr := fun i v => w.cell? ⟨b, o + off + i, none⟩ = some v ∧ v.oneCell' = true ∧ ∀ g, cells[off + i]? = some g → VR (Mem X d G R w) G R d g v) n (fun i hi => by
      obtain ⟨v, h1, h2, h3⟩ := hc (off + i) cells[off + i] (List.getElem?_eq_getElem (by omega))
      exact ⟨v, by rwa [show o + off + i = o + (off + i) by omega], h2, fun g hg => by rw [List.getElem?_eq_getElem (by omega)] at hg; cases hg; exact h3⟩)
    refine ⟨_, _, hK, run_loadAt_row ht (cs := vs) (fun j v hj => (hv j v hj).1) hvl, ?_⟩
    unfold VR
    refine ⟨vs, rfl, fun v hm => ?_, VRs.of_get (by simp [hvl]; omega) fun i g v hg hvi => ?_⟩
    · obtain ⟨i, hi⟩ := List.getElem?_of_mem hm
      exact (hv i v hi).2.1
    · refine (hv i v hvi).2.2 g ?_
      have hi : i < n := by have := (List.getElem?_eq_some_iff.1 hvi).1; omega
      rw [List.getElem?_take, if_pos hi, List.getElem?_drop] at hg
      exact hg
  · rename_i ht
    split at h
    · rename_i g hg
      obtain ⟨v, h1, _, h3⟩ := hc off g hg
      exact ⟨g, v, h, run_loadAt_one ht h1, h3⟩
    · exact h.elim
  · exact h.elim
theorem box_cells (hs : Sim X d G R w) {κ : Key} {cells : List GV} (hk : κ.1 ≤ d) (hg : get G κ = some (.box cells)) :
    ∀ i g, cells[i]? = some g → ∃ v, w.cell? ⟨(R κ).b, 0 + i, none⟩ = some v ∧ v.oneCell' = true ∧ VR (Mem X d G R w) G R d g v := by
  obtain ⟨cs, T, h1, h2, h3⟩ := hs.obj κ _ hk hg
  intro i g hi
  obtain ⟨v, hv1, hv2⟩ := VRs.get h3 hi
  refine ⟨v, ?_, h2 v (List.mem_of_getElem? hv1), hv2.deeper hk⟩
  rw [Nat.zero_add, cell_of_row w _ i cs T _ h1]
  simpa using hv1
theorem load_sound (hs : Sim X d G R w) {t : TypeId} {g : GV} {x : Value} {K : GV → Prop} (hx : VR (Mem X d G R w) G R d g x) (h : gLoad P G t g K) :
    ∃ v rv, K v ∧ (Instr.loadAt t x).run P w = .ok rv w ∧ VR (Mem X d G R w) G R d v rv := by
  unfold gLoad at h
  split at h
  · rename_i κ off
    unfold VR at hx
    obtain ⟨hk, _, rfl⟩ := hx
    split at h
    · rename_i cells hg
      have := loadC_sound (P := P) (t := t) (off := off) (b := (R κ).b) (o := 0) (box_cells hs hk hg) h
      rwa [Nat.zero_add] at this
    · exact h.elim
  · rename_i cells off
    unfold VR at hx
    obtain ⟨b, o, rfl, hp⟩ := hx
    refine loadC_sound (fun i g hi => ?_) h
    rw [List.getElem?_map] at hi
    cases hc : cells[i]? with
    | none => rw [hc] at hi; cases hi
    | some c =>
      rw [hc] at hi
      cases hi
      obtain ⟨v, h1, h2⟩ := PRs.get hp hc
      exact ⟨v, h1.1, h1.2.1, VR.p_iff.2 h2⟩
  · rename_i cells
    have hx := VR.p_iff.1 hx
    unfold PR at hx
    obtain ⟨b, o, rfl, hp⟩ := hx
    have := loadC_sound (P := P) (t := t) (off := 0) (b := b) (o := o) (d := d) (G := G) (R := R) (w := w) (X := X) (cells := cells.map .p) (K := K) (fun i g hi => by
      rw [List.getElem?_map] at hi
      cases hc : cells[i]? with
      | none => rw [hc] at hi; cases hi
      | some c =>
        rw [hc] at hi
        cases hi
        obtain ⟨v, h1, h2⟩ := PRs.get hp hc
        exact ⟨v, h1.1, h1.2.1, VR.p_iff.2 h2⟩) h
    exact this
  · rename_i κ n i off
    unfold VR at hx
    obtain ⟨hk, hin, es, hg, hle, b, o, rfl, ha⟩ := hx
    rw [hg] at h
    dsimp only at h
    · obtain ⟨hen, h⟩ := h
      obtain ⟨rfl, rfl⟩ := ha hen
      split at h
      · rename_i e he
        obtain ⟨cs, T, h1, _, _, h4⟩ := hs.obj κ _ hk hg
        obtain ⟨_, h5⟩ := h4 i e he
        refine loadC_sound (fun j g hj => ?_) h
        rw [List.getElem?_map] at hj
        cases hc : e[j]? with
        | none => rw [hc] at hj; cases hj
        | some c =>
          rw [hc] at hj
          cases hj
          obtain ⟨v, h6, h7, h8⟩ := h5 j c hc
          exact ⟨v, by rw [cell_of_row w _ _ cs T _ h1]; exact h6, h7, VR.p_iff.2 h8⟩
      · exact h.elim
  · exact h.elim
end
end Go.Eng
end
section
set_option linter.all false
namespace Go.Eng
theorem setCells_row (P : Program) (w : World) (g o : Nat) (t : TypeId) (cur : Array Value) (vs : List Value) (hg : w.heap[g]? = some (.cells cur t (0, 0))) (hl : o + vs.length ≤ cur.size) (h1 : ∀ v ∈ vs, v.oneCell' = true) :
    w.setCells g o vs = w.setRow g (cur.toList.take o ++ vs ++ cur.toList.drop (o + vs.length)).toArray := by
  have h := run_storeCells_at (P := P) g o t vs 0 cur w hg (by simpa using hl) h1
  have h' := run_storeCells_cells (P := P) g o vs 0 w
    (fun j hj => by rw [cell_of_row w g _ cur t _ hg]; simp; omega)
    (fun j hj => frozen_of_row w g _ cur t hg) h1
  rw [h] at h'
  injection h' with _ h'
  simpa using h'.symm
section
variable {X : XS} {P : Program} {G : Heap} {R : RMap} {d : Nat} {w : World}
mutual
theorem okd_VR {M : Nat → Nat → Value → Prop} {k : Nat} : ∀ (g : GV) (x : Value), okd k g → VR M G R d g x → VR M G R k g x
  | .undef, _, _, _ => by unfold VR; trivial
  | .p _, _, _, hv => by unfold VR at hv ⊢; exact hv
  | .csl _, _, _, hv => by unfold VR at hv ⊢; exact hv
  | .tsl _ _, _, ho, hv => by unfold okd at ho; unfold VR at hv ⊢; exact ⟨hv.1, ho, hv.2.2⟩
  | .own _ _, _, _, hv => by unfold VR at hv; exact hv.elim
  | .obx _, _, _, hv => by unfold VR at hv; exact hv.elim
  | .bp _ _, _, ho, hv => by unfold okd at ho; unfold VR at hv ⊢; exact ⟨ho, hv.2⟩
  | .ep _ _, _, _, hv => by unfold VR at hv ⊢; exact hv
  | .oar _ _, _, _, hv => by unfold VR at hv; exact hv.elim
  | .arr _ _ _, _, ho, hv => by unfold okd at ho; unfold VR at hv ⊢; exact ⟨ho, hv.2⟩
  | .ap _ _ _ _, _, ho, hv => by unfold okd at ho; unfold VR at hv ⊢; exact ⟨ho, hv.2⟩
  | .asl _ _ _ _ _, _, ho, hv => by unfold okd at ho; unfold VR at hv ⊢; exact ⟨ho, hv.2⟩
  | .fn _ gs, _, ho, hv => by
    unfold okd at ho; unfold VR at hv ⊢
    obtain ⟨vs, h1, h2⟩ := hv
    exact ⟨vs, h1, okds_VRs gs vs ho h2⟩
  | .agg gs, _, ho, hv => by
    unfold okd at ho; unfold VR at hv ⊢
    obtain ⟨vs, h1, h0, h2⟩ := hv
    exact ⟨vs, h1, h0, okds_VRs gs vs ho h2⟩
  | .tup gs, _, ho, hv => by
    unfold okd at ho; unfold VR at hv ⊢
    obtain ⟨vs, h1, h2⟩ := hv
    exact ⟨vs, h1, okds_VRs gs vs ho h2⟩
theorem okds_VRs {M : Nat → Nat → Value → Prop} {k : Nat} : ∀ (gs : List GV) (vs : List Value), okds k gs → VRs M G R d gs vs → VRs M G R k gs vs
  | [], [], _, _ => VRs.nil
  | g :: gs, v :: vs, ho, hv => by
    unfold okds at ho
    unfold VRs at hv
    exact VRs.cons (okd_VR g v ho.1 hv.1) (okds_VRs gs vs ho.2 hv.2)
  | [], _ :: _, _, hv => by unfold VRs at hv; exact hv.elim
  | _ :: _, [], _, hv => by unfold VRs at hv; exact hv.elim
end
theorem VRs.spl {M : Nat → Nat → Value → Prop} {cs vs : List GV} {xs ys : List Value} (off : Nat) (h : VRs M G R d cs xs) (h' : VRs M G R d vs ys) :
    VRs M G R d (spl cs off vs) (xs.take off ++ (ys ++ xs.drop (off + ys.length))) := by
  unfold Eng.spl
  rw [← VRs.length h']
  exact VRs.app (h.take off) (VRs.app h' (h.drop _))
theorem run_storeVar_at {t : TypeId} {n : Nat} (hz : szT P t = some n) {y : Value} {vs : List Value} (hc : y.cells = vs.toArray) (hn : vs.length = n) (h1 : ∀ v ∈ vs, v.oneCell' = true)
    {b o : Nat} {cs : Array Value} {T : TypeId} (hb : w.heap[b]? = some (.cells cs T (0, 0))) (hl : o + vs.length ≤ cs.size) :
    (Instr.storeAt t (.pointer (some ⟨b, o, none⟩)) y).run P w = .ok () (w.setRow b (cs.toList.take o ++ vs ++ cs.toList.drop (o + vs.length)).toArray) := by
  unfold szT at hz
  cases hi : P.info? t with
  | none => rw [hi] at hz; cases hz
  | some i =>
    rw [hi] at hz
    have hsz : i.size = n := by simpa using hz
    have := run_storeCells_at (P := P) b o T vs 0 cs w hb (by simpa using hl) h1
    simp only [Nat.add_zero] at this
    simp [Instr.storeAt, Instr.sureAddr, storeVar, sizeOf, typeInfo, hi, hc, hsz, hn, this]
end
section
variable {X : XS} {P : Program} {G : Heap} {R : RMap} {d : Nat} {w : World}
theorem purs_get {M : Nat → Nat → Value → Prop} : ∀ {gs : List GV} {ps : List PV} {vs : List Value}, purs gs = some ps → VRs M G R d gs vs → ps.length = vs.length ∧ ∀ (i : Nat) (p : PV), ps[i]? = some p → ∃ v, vs[i]? = some v ∧ PR M p v
  | [], ps, vs, hp, hv => by
    simp [purs] at hp
    subst hp
    have := VRs.length hv
    simp at this
    exact ⟨by simpa using this, fun i p h => by simp at h⟩
  | g :: gs, ps, [], _, hv => by unfold VRs at hv; exact hv.elim
  | g :: gs, ps, v :: vs, hp, hv => by
    unfold VRs at hv
    unfold purs at hp
    split at hp
    · rename_i q qs hq hqs
      cases hp
      obtain ⟨h1, h2⟩ := purs_get hqs hv.2
      refine ⟨by simp [h1], fun i p hi => ?_⟩
      cases i with
      | zero => simp at hi; subst hi; exact ⟨v, rfl, VR.pur hv.1 hq⟩
      | succ i => simp at hi; simpa using h2 i p hi
    · cases hp
theorem Sim.arrSet (hs : Sim X d G R w) {κ0 : Key} {es es' : List (List PV)} {w' : World} (hk0 : κ0.1 ≤ d) (h0 : get G κ0 = some (.arr es)) (hlen : es'.length = es.length) (hsz0 : w.heap.size ≤ w'.heap.size)
    (hold : ∀ b, b < w.heap.size → b ≠ (R κ0).b → w'.heap[b]? = w.heap[b]?)
    {cs' : Array Value} {T : TypeId} (hc : w'.heap[(R κ0).b]? = some (.cells cs' T (0, 0))) (hcap : es'.length ≤ (R κ0).cap) (hsz : (R κ0).o + (R κ0).cap * (R κ0).sz ≤ cs'.size)
    (hv : ∀ i e, es'[i]? = some e → e.length = (R κ0).sz ∧ ∀ j c, e[j]? = some c → ∃ v, cs'[(R κ0).o + i * (R κ0).sz + j]? = some v ∧ v.oneCell' = true ∧ PR (Mem X d G R w) c v) :
    Sim X d (setKey G κ0 (.arr es')) R w' ∧ Ext d (Mem X d G R w) G R (Mem X d (setKey G κ0 (.arr es')) R w') (setKey G κ0 (.arr es')) R := by
  have hg : ∀ κ, get (setKey G κ0 (.arr es')) κ = if κ = κ0 then some (.arr es') else get G κ := fun κ => by
    rw [get_setKey, h0]; rfl
  have hx : Ext d (Mem X d G R w) G R (Mem X d (setKey G κ0 (.arr es')) R w') (setKey G κ0 (.arr es')) R := by
    refine ⟨fun b i v hm => ?_, fun κ cs hk hgk => ⟨⟨cs, ?_⟩, rfl⟩, fun κ n _ hk hgk => ⟨n, ?_, Nat.le_refl _, fun _ => rfl⟩, fun κ xs hk hgk => ⟨rfl, ?_⟩⟩
    · have hbne : b ≠ (R κ0).b := fun e => by
        obtain ⟨n, _, hn, _⟩ := hm.2.2.2 κ0 _ hk0 h0 e.symm
        cases hn
      have hlt : b < w.heap.size := block_lt_of_cell hm.1
      refine ⟨by rw [cell_heap w w' _ (hold b hlt hbne)]; exact hm.1, hm.2.1, hm.2.2.1, fun κ o hk hgk hbb => ?_⟩
      rw [hg] at hgk
      by_cases e : κ = κ0
      · rw [e] at hbb; exact absurd hbb.symm hbne
      · rw [if_neg e] at hgk; exact hm.2.2.2 κ o hk hgk hbb
    · rw [hg, if_neg, hgk]; rintro rfl; rw [h0] at hgk; cases hgk
    · rw [hg, if_neg, hgk]; rintro rfl; rw [h0] at hgk; cases hgk
    · rw [hg]; by_cases e : κ = κ0
      · rw [if_pos e]
        rw [e, h0] at hgk
        cases hgk
        exact ⟨_, rfl, Nat.le_of_eq hlen.symm, fun _ => rfl⟩
      · rw [if_neg e]; exact ⟨_, hgk, Nat.le_refl _, fun _ => rfl⟩
  refine ⟨hs.change hk0 h0 hold hg (fun _ _ => rfl) (.inl rfl) hx ⟨cs', T, hc, hcap, hsz, fun i e he => ?_⟩ hsz0, hx⟩
  obtain ⟨h1, h2⟩ := hv i e he
  refine ⟨h1, fun j c hj => ?_⟩
  obtain ⟨v, h3, h4, h5⟩ := h2 j c hj
  exact ⟨v, h3, h4, PR.mono hx.mem _ _ h5⟩
theorem Fr.one {κ0 : Key} {o0 o' : Obj'} {w' : World} (hk0 : κ0.1 ≤ d) (h0 : get G κ0 = some o0) (hsz : w.heap.size ≤ w'.heap.size) (hold : ∀ b, b < w.heap.size → b ≠ (R κ0).b → w'.heap[b]? = w.heap[b]?) (henv : SameEnv w w') :
    Fr d G R w (setKey G κ0 o') R w' := by
  refine ⟨hsz, fun b hb hn => hold b hb (fun e => hn κ0 o0 hk0 h0 e.symm), fun κ o hk hg _ => ?_, henv⟩
  rw [get_setKey, h0] at hg
  by_cases e : κ = κ0
  · rw [e]; exact ⟨κ0, o0, hk0, h0, rfl⟩
  · rw [if_neg e] at hg; exact ⟨κ, o, hk, hg, rfl⟩
theorem store_sound (hs : Sim X d G R w) {t : TypeId} {g v : GV} {x y : Value} {K : Dl → Prop} (hx : VR (Mem X d G R w) G R d g x) (hy : VR (Mem X d G R w) G R d v y) (h : gStore P G t g v K) :
    ∃ κ o w', K (.set κ o) ∧ (Instr.storeAt t x y).run P w = .ok () w' ∧ Step X d G R w (setKey G κ o) R w' := by
  unfold gStore at h
  split at h
  · rename_i vs hvs
    obtain ⟨hz, h⟩ := h
    obtain ⟨ys, hyc, hy1, hyv, _⟩ := hy.cells hvs
    have hlen := VRs.length hyv
    split at h
    · rename_i κ off
      unfold VR at hx
      obtain ⟨hk, _, rfl⟩ := hx
      split at h
      · rename_i cells hg
        obtain ⟨hle, hok, hK⟩ := h
        obtain ⟨cs, T, h1, h2, h3⟩ := hs.obj κ _ hk hg
        have hcl := VRs.length h3
        simp only [Array.length_toList] at hcl
        have hrun := run_storeVar_at (P := P) (w := w) hz hyc hlen.symm hy1 (o := off) h1 (by omega)
        have hv' : VRs (Mem X d G R w) G R κ.1 (spl cells off vs) (cs.toList.take off ++ (ys ++ cs.toList.drop (off + ys.length))) :=
          VRs.spl off h3 (okds_VRs _ _ hok hyv)
        have hold : ∀ b, b < w.heap.size → b ≠ (R κ).b → (w.setRow (R κ).b (cs.toList.take off ++ ys ++ cs.toList.drop (off + ys.length)).toArray).heap[b]? = w.heap[b]? := fun b _ hb => setRow_other w _ _ _ hb
        obtain ⟨hs', hx'⟩ := hs.write hk hg (cells' := spl cells off vs) (w' := w.setRow (R κ).b (cs.toList.take off ++ ys ++ cs.toList.drop (off + ys.length)).toArray) (by simp) hold
          (cs' := (cs.toList.take off ++ ys ++ cs.toList.drop (off + ys.length)).toArray) (setRow_heap w _ _ _ _ _ h1)
          (fun v hv => by
            simp only [List.append_assoc, List.mem_append] at hv
            rcases hv with hv | hv | hv
            · exact h2 v (List.mem_of_mem_take hv)
            · exact hy1 v hv
            · exact h2 v (List.mem_of_mem_drop hv))
          (by simpa [List.append_assoc] using hv')
        exact ⟨κ, _, _, hK, hrun, hs', hx', Fr.one hk hg (by simp) hold ⟨rfl, rfl, rfl⟩⟩
      · exact h.elim
    · rename_i κ n i off
      unfold VR at hx
      obtain ⟨hk, hin, es0, hg0, hle0, b, o, rfl, ha⟩ := hx
      split at h
      · rename_i es ps hg hps
        have e0 : es = es0 := by rw [hg] at hg0; injection hg0 with e; injection e
        subst e0
        obtain ⟨hen, h⟩ := h
        obtain ⟨rfl, rfl⟩ := ha hen
        split at h
        · rename_i e he
          obtain ⟨hle, hK⟩ := h
          obtain ⟨hpl, hpg⟩ := purs_get hps hyv
          obtain ⟨cs, T, h1, hcap, hsize, h4⟩ := hs.obj κ _ hk hg
          have hi : i < es.length := (List.getElem?_eq_some_iff.1 he).1
          have hroom : (R κ).o + i * (R κ).sz + (R κ).sz ≤ cs.size := by
            have : (i + 1) * (R κ).sz ≤ (R κ).cap * (R κ).sz := Nat.mul_le_mul_right _ (by omega)
            rw [Nat.add_mul] at this
            omega
          obtain ⟨hel, heg⟩ := h4 i e he
          have hrun := run_storeVar_at (P := P) (w := w) hz hyc hlen.symm hy1 (o := (R κ).o + i * (R κ).sz + off) h1 (by omega)
          have hold : ∀ b, b < w.heap.size → b ≠ (R κ).b → (w.setRow (R κ).b (cs.toList.take ((R κ).o + i * (R κ).sz + off) ++ ys ++ cs.toList.drop ((R κ).o + i * (R κ).sz + off + ys.length)).toArray).heap[b]? = w.heap[b]? := fun b _ hb => setRow_other w _ _ _ hb
          have hsz' : (cs.toList.take ((R κ).o + i * (R κ).sz + off) ++ ys ++ cs.toList.drop ((R κ).o + i * (R κ).sz + off + ys.length)).toArray.size = cs.size := by
            simp; omega
          have hcell : ∀ k : Nat, (cs.toList.take ((R κ).o + i * (R κ).sz + off) ++ ys ++ cs.toList.drop ((R κ).o + i * (R κ).sz + off + ys.length)).toArray[k]? =
              if (R κ).o + i * (R κ).sz + off ≤ k ∧ k < (R κ).o + i * (R κ).sz + off + ys.length then ys[k - ((R κ).o + i * (R κ).sz + off)]? else cs[k]? := fun k => by
            simp only [List.getElem?_toArray, List.getElem?_append, List.length_append, List.length_take, Array.length_toList, List.getElem?_take, List.getElem?_drop, Array.getElem?_toList]
            have hm : min ((R κ).o + i * (R κ).sz + off) cs.size = (R κ).o + i * (R κ).sz + off := by omega
            rw [hm]
            by_cases c1 : k < (R κ).o + i * (R κ).sz + off
            · rw [if_pos (by omega), if_pos c1, if_pos c1, if_neg (by omega)]
            · by_cases c2 : k < (R κ).o + i * (R κ).sz + off + ys.length
              · rw [if_pos (by omega), if_neg c1, if_pos (by omega)]
              · rw [if_neg (by omega), if_neg (by omega)]
                congr 1; omega
          obtain ⟨hs', hx'⟩ := hs.arrSet hk hg (es' := es.set i (splP e off ps)) (w' := w.setRow (R κ).b (cs.toList.take ((R κ).o + i * (R κ).sz + off) ++ ys ++ cs.toList.drop ((R κ).o + i * (R κ).sz + off + ys.length)).toArray) (by simp) (by simp) hold
            (cs' := (cs.toList.take ((R κ).o + i * (R κ).sz + off) ++ ys ++ cs.toList.drop ((R κ).o + i * (R κ).sz + off + ys.length)).toArray) (setRow_heap w _ _ _ _ _ h1) (by simpa using hcap) (by rw [hsz']; exact hsize)
            (fun i' e' he' => by
              by_cases hii : i' = i
              · subst hii
                rw [List.getElem?_set_self (by omega)] at he'
                cases he'
                refine ⟨by unfold splP; simp; omega, fun j c hj => ?_⟩
                unfold splP at hj
                simp only [List.getElem?_append, List.length_take, List.getElem?_take, List.getElem?_drop] at hj
                have hm : min off e.length = off := by omega
                rw [hm] at hj
                by_cases c1 : j < off
                · rw [if_pos c1, if_pos c1] at hj
                  obtain ⟨v, h5, h6, h7⟩ := heg j c hj
                  exact ⟨v, by rw [hcell, if_neg (by omega)]; exact h5, h6, h7⟩
                · rw [if_neg c1] at hj
                  by_cases c2 : j - off < ps.length
                  · rw [if_pos c2] at hj
                    obtain ⟨v, h5, h6⟩ := hpg _ _ hj
                    refine ⟨v, ?_, hy1 v (List.mem_of_getElem? h5), h6⟩
                    rw [hcell, if_pos (by omega), show (R κ).o + i' * (R κ).sz + j - ((R κ).o + i' * (R κ).sz + off) = j - off by omega]
                    exact h5
                  · rw [if_neg c2] at hj
                    obtain ⟨v, h5, h6, h7⟩ := heg _ c hj
                    refine ⟨v, ?_, h6, h7⟩
                    rw [hcell, if_neg (by omega), ← h5]
                    congr 1; omega
              · rw [List.getElem?_set_ne (Ne.symm hii)] at he'
                obtain ⟨h5, h6⟩ := h4 i' e' he'
                refine ⟨h5, fun j c hj => ?_⟩
                obtain ⟨v, h7, h8, h9⟩ := h6 j c hj
                refine ⟨v, ?_, h8, h9⟩
                have hj' : j < (R κ).sz := by have := (List.getElem?_eq_some_iff.1 hj).1; omega
                rw [hcell, if_neg, h7]
                rintro ⟨a1, a2⟩
                rcases Nat.lt_or_gt_of_ne hii with hlt | hlt
                · have : (i' + 1) * (R κ).sz ≤ i * (R κ).sz := Nat.mul_le_mul_right _ hlt
                  rw [Nat.add_mul] at this
                  omega
                · have : (i + 1) * (R κ).sz ≤ i' * (R κ).sz := Nat.mul_le_mul_right _ hlt
                  rw [Nat.add_mul] at this
                  omega)
          exact ⟨κ, _, _, hK, hrun, hs', hx', Fr.one hk hg (by simp) hold ⟨rfl, rfl, rfl⟩⟩
        · exact h.elim
      · exact h.elim
    · exact h.elim
  · exact h.elim
end
end Go.Eng
end
section
set_option linter.all false
namespace Go.Eng
section
variable {X : XS} {P : Program} {G : Heap} {R : RMap} {d : Nat} {w : World}
theorem Step.fillAt (hs : Sim X d G R w) {w' : World} (h : Grows w w') {d0 t0 : Nat} (hd : d0 ≤ d) (he : G d0 t0 = []) (o : Obj') (r : RObj) (hb : w.heap.size ≤ r.b)
    (hok : ∀ (G' : Heap) (R' : RMap), Ext d (Mem X d G R w) G R (Mem X d G' R' w') G' R' → R' (d0, t0, 0) = r → OK X d G' R' w' (d0, t0, 0) o) :
    Step X d G R w (fillKey G d0 t0 [o]) (setR R (d0, t0, 0) r) w' := by
  obtain ⟨h1, h2⟩ := hs.fill h hd he o r hb (fun M' G' R' hx hM hr => by
    have : M' = Mem X d G' R' w' := by funext b i v; exact propext (hM b i v)
    subst this
    exact hok G' R' hx hr)
  refine ⟨h1, h2, ⟨h.size, fun b hb _ => h.old b hb, fun κ o' hk hg hlt => ?_, h.env⟩⟩
  rw [get_fillKey] at hg
  by_cases e : κ.1 = d0 ∧ κ.2.1 = t0
  · rw [if_pos e] at hg
    have hc : κ.2.2 = 0 := by
      cases hc : κ.2.2 with
      | zero => rfl
      | succ n => rw [hc] at hg; simp at hg
    have : κ = (d0, t0, 0) := by obtain ⟨a, b, c⟩ := κ; simp at e hc; simp [e, hc]
    rw [this] at hlt
    simp only [setR, if_true] at hlt
    omega
  · rw [if_neg e] at hg
    refine ⟨κ, o', hk, hg, ?_⟩
    unfold setR
    rw [if_neg]
    rintro rfl
    exact e ⟨rfl, rfl⟩
theorem Step.fill (hs : Sim X d G R w) {w' : World} (h : Grows w w') {t0 : Nat} (he : G d t0 = []) (o : Obj') (r : RObj) (hb : w.heap.size ≤ r.b)
    (hok : ∀ (G' : Heap) (R' : RMap), Ext d (Mem X d G R w) G R (Mem X d G' R' w') G' R' → R' (d, t0, 0) = r → OK X d G' R' w' (d, t0, 0) o) :
    Step X d G R w (fillKey G d t0 [o]) (setR R (d, t0, 0) r) w' := Step.fillAt hs h (Nat.le_refl d) he o r hb hok
theorem get_fill_new (G : Heap) (d t0 : Nat) (o : Obj') : get (fillKey G d t0 [o]) (d, t0, 0) = some o := by
  rw [get_fillKey]; simp
theorem newBox (hs : Sim X d G R w) {t0 : Nat} (he : G d t0 = []) {gs : List GV} {vs : List Value} (T : TypeId) (hv : VRs (Mem X d G R w) G R d gs vs) (h1 : ∀ v ∈ vs, v.oneCell' = true) :
    ∃ R', Step X d G R w (fillKey G d t0 [.box gs]) R' (w.alloc (.cells vs.toArray T)) ∧
      VR (Mem X d (fillKey G d t0 [.box gs]) R' (w.alloc (.cells vs.toArray T))) (fillKey G d t0 [.box gs]) R' d (.bp (d, t0, 0) 0) (.pointer (some ⟨w.heap.size, 0, none⟩)) := by
  refine ⟨_, Step.fill hs (Grows.alloc w _) he (.box gs) ⟨w.heap.size, 0, 0, 0⟩ (Nat.le_refl _) (fun G' R' hx hr => ⟨vs.toArray, T, by rw [hr]; exact heap_alloc_new w _, by simpa using h1, by simpa using VRs.ext hx _ _ hv⟩), ?_⟩
  unfold VR
  exact ⟨Nat.le_refl _, ⟨gs, get_fill_new G d t0 _⟩, by simp [setR]⟩
theorem newArr (hs : Sim X d G R w) {t0 : Nat} (he : G d t0 = []) {es : List (List PV)} {vs : List Value} {sz n : Nat} (T : TypeId) (hn : es.length = n) (hl : vs.length = n * sz) (h1 : ∀ v ∈ vs, v.oneCell' = true)
    (hv : ∀ i e, es[i]? = some e → e.length = sz ∧ ∀ j c, e[j]? = some c → ∃ v, vs[i * sz + j]? = some v ∧ PR (Mem X d G R w) c v) :
    ∃ R', Step X d G R w (fillKey G d t0 [.arr es]) R' (w.alloc (.cells vs.toArray T)) ∧
      VR (Mem X d (fillKey G d t0 [.arr es]) R' (w.alloc (.cells vs.toArray T))) (fillKey G d t0 [.arr es]) R' d (.arr (d, t0, 0) n sz) (.slice (some ⟨w.heap.size, 0, none⟩) n n) := by
  refine ⟨_, Step.fill hs (Grows.alloc w _) he (.arr es) ⟨w.heap.size, 0, n, sz⟩ (Nat.le_refl _) (fun G' R' hx hr => ⟨vs.toArray, T, by rw [hr]; exact heap_alloc_new w _, by rw [hr]; exact Nat.le_of_eq hn, by rw [hr]; simp [hl], fun i e hi => ?_⟩), ?_⟩
  · rw [hr]
    obtain ⟨h2, h3⟩ := hv i e hi
    refine ⟨h2, fun j c hj => ?_⟩
    obtain ⟨v, h4, h5⟩ := h3 j c hj
    exact ⟨v, by simpa using h4, h1 v (List.mem_of_getElem? h4), PR.mono hx.mem _ _ h5⟩
  · unfold VR
    exact ⟨Nat.le_refl _, by simp [setR], es, get_fill_new G d t0 _, Nat.le_of_eq hn.symm, _, _, _, rfl, Nat.le_refl _, fun _ => by simp [setR]⟩
theorem foldl_set_toList : ∀ (vs : List Value) (k off : Nat) (cs : Array Value), off + k + vs.length ≤ cs.size →
    ((vs.zipIdx k).foldl (fun cs (x : Value × Nat) => cs.setIfInBounds (off + x.2) x.1) cs).toList = cs.toList.take (off + k) ++ (vs ++ cs.toList.drop (off + k + vs.length))
  | [], k, off, cs, _ => by simp
  | v :: vs, k, off, cs, h => by
    simp only [List.zipIdx_cons, List.foldl_cons]
    rw [foldl_set_toList vs (k + 1) off _ (by simp at h ⊢; omega)]
    simp only [Array.toList_setIfInBounds, List.length_cons] at h ⊢
    apply List.ext_getElem?
    intro i
    simp only [List.getElem?_append, List.length_take, List.length_set, Array.length_toList, List.getElem?_take, List.getElem?_set, List.getElem?_drop, List.length_cons]
    have hm1 : min (off + (k + 1)) cs.size = off + k + 1 := by omega
    have hm2 : min (off + k) cs.size = off + k := by omega
    rw [hm1, hm2]
    by_cases c1 : i < off + k
    · rw [if_pos (by omega), if_pos (by omega), if_neg (by omega), if_pos c1, if_pos c1]
    · by_cases c2 : i = off + k
      · subst c2
        rw [if_pos (by omega), if_pos (by omega), if_pos rfl, if_pos (by omega), if_neg (by omega), if_pos (by omega), Nat.sub_self]
        rfl
      · rw [if_neg (show ¬ i < off + k + 1 by omega), if_neg c1]
        by_cases c3 : i - (off + k + 1) < vs.length
        · rw [if_pos c3, if_pos (show i - (off + k) < vs.length + 1 by omega), show i - (off + k) = (i - (off + k + 1)) + 1 by omega, List.getElem?_cons_succ]
        · rw [if_neg c3, if_neg (show ¬ i - (off + k) < vs.length + 1 by omega), if_neg (by omega)]
          congr 1; omega
theorem gfill_sound {M : Nat → Nat → Value → Prop} {pl : Nat → Option (Nat × Nat)} : ∀ (parts : List (Nat × GV)) (vals : List (Nat × Value)) (cells cells' : List GV) (cs : Array Value),
    parts.length = vals.length → (∀ (i : Nat) (p : Nat × GV) (q : Nat × Value), parts[i]? = some p → vals[i]? = some q → p.1 = q.1 ∧ VR M G R d p.2 q.2) → VRs M G R d cells cs.toList → (∀ v ∈ cs.toList, v.oneCell' = true) → gfill pl cells parts = some cells' →
    ∃ cs', Instr.fill pl cs vals = some cs' ∧ VRs M G R d cells' cs'.toList ∧ (∀ v ∈ cs'.toList, v.oneCell' = true)
  | [], [], cells, cells', cs, _, _, hv, h1, h => by
    unfold gfill at h
    cases h
    exact ⟨cs, rfl, hv, h1⟩
  | (i, g) :: parts, (k, x) :: vals, cells, cells', cs, hl, hp, hv, h1, h => by
    obtain ⟨hik, hgx⟩ := hp 0 _ _ rfl rfl
    simp only at hik hgx
    subst hik
    unfold gfill at h
    split at h
    · rename_i off size gs hpl hgs
      split at h
      · rename_i hc
        obtain ⟨hc1, hc2⟩ := hc
        obtain ⟨ys, hyc, hy1, hyv, _⟩ := hgx.cells hgs
        have hlen := VRs.length hyv
        have hcl := VRs.length hv
        simp only [Array.length_toList] at hcl
        have hset := foldl_set_toList ys 0 off cs (by omega)
        simp only [Nat.add_zero] at hset
        have hnew := VRs.spl off hv hyv
        rw [← hset] at hnew
        obtain ⟨cs', h2, h3, h4⟩ := gfill_sound parts vals _ cells' _ (by simpa using hl) (fun j p q hj1 hj2 => hp (j + 1) p q (by simpa using hj1) (by simpa using hj2)) hnew
          (by
            rw [hset]
            intro v hm
            simp only [List.mem_append] at hm
            rcases hm with hm | hm | hm
            · exact h1 v (List.mem_of_mem_take hm)
            · exact hy1 v hm
            · exact h1 v (List.mem_of_mem_drop hm)) h
        refine ⟨cs', ?_, h3, h4⟩
        unfold Instr.fill
        rw [hpl]
        simp only [hyc]
        rw [if_neg (by simp; omega)]
        rw [← h2]
        congr 1
        rw [← Array.foldl_toList]
        congr 1
        simp
      · cases h
    · cases h
  | [], _ :: _, _, _, _, hl, _, _, _, _ => by simp at hl
  | _ :: _, [], _, _, _, hl, _, _, _, _ => by simp at hl
end
end Go.Eng
end
section
set_option linter.all false
namespace Go.Eng
section
variable {X : XS} {P : Program} {G : Heap} {R : RMap} {d : Nat} {w : World}
theorem zc_spec {t : TypeId} {zs : List Value} (h : zc P t = some zs) : ∃ i z, P.info? t = some i ∧ i.zero = some z ∧ z.cells.toList = zs ∧ ∀ v ∈ zs, v.oneCell' = true := by
  unfold zc at h
  cases hi : P.info? t with
  | none => simp [hi] at h
  | some i =>
    cases hz : i.zero with
    | none => simp [hi, hz] at h
    | some z =>
      simp only [hi, hz, Option.bind_some] at h
      split at h
      · rename_i ho
        cases h
        exact ⟨i, z, rfl, hz, rfl, fun v hv => (List.all_eq_true.1 ho) v hv⟩
      · cases h
theorem flds_spec {t : TypeId} {pl : List (Nat × Nat)} (h : flds P t = some pl) : ∃ fs, P.underlying t = some (.struct fs) ∧ fs.toList.mapM (fun f => (P.info? f.type).map fun i => (f.offset, i.size)) = some pl := by
  unfold flds at h
  split at h
  · rename_i fs hu
    exact ⟨fs, hu, h⟩
  · cases h
theorem mapM_get {α β : Type} {f : α → Option β} : ∀ {l : List α} {r : List β} {k : Nat} {y : β}, l.mapM f = some r → r[k]? = some y → ∃ x, l[k]? = some x ∧ f x = some y
  | [], r, k, y, h, hk => by simp at h; subst h; simp at hk
  | x :: l, r, k, y, h, hk => by
    rw [List.mapM_cons] at h
    cases hx : f x with
    | none => simp [hx] at h
    | some z =>
      cases hr : l.mapM f with
      | none => simp [hx, hr] at h
      | some zs =>
        simp [hx, hr] at h
        subst h
        cases k with
        | zero => simp at hk; subst hk; exact ⟨x, rfl, hx⟩
        | succ k => simp at hk; simpa using mapM_get hr hk
theorem aelT_spec {t : TypeId} {m n : Nat} (h : aelT P t = some (m, n)) : ∃ e i, P.underlying t = some (.array m e) ∧ P.info? e = some i ∧ i.size = n := by
  unfold aelT at h
  split at h
  case h_2 => cases h
  rename_i k e ht
  cases hi : P.info? e with
  | none => rw [hi] at h; cases h
  | some i =>
    rw [hi] at h
    simp only [Option.bind_some] at h
    split at h
    · injection h with h
      injection h with h1 h2
      exact ⟨e, i, by rw [ht, h1], hi, h2⟩
    · cases h
theorem build_sound {t : TypeId} {parts : List (Nat × GV)} {vals : Array (Nat × Value)} {K : GV → Prop}
    (hl : parts.length = vals.size) (hp : ∀ (i : Nat) (p : Nat × GV) (q : Nat × Value), parts[i]? = some p → vals[i]? = some q → p.1 = q.1 ∧ VR (Mem X d G R w) G R d p.2 q.2) (h : gBuild P t parts K) :
    ∃ v rv, K v ∧ (Instr.build t vals).run P w = .ok rv w ∧ VR (Mem X d G R w) G R d v rv := by
  unfold gBuild at h
  split at h
  · rename_i zs pl hz hf
    split at h
    · rename_i cells hc
      obtain ⟨i, z, h1, h2, h3, h4⟩ := zc_spec hz
      obtain ⟨fs, h5, h6⟩ := flds_spec hf
      obtain ⟨cs', h7, h8, h9⟩ := gfill_sound (R := R) (G := G) (d := d) (M := Mem X d G R w) parts vals.toList (zs.map cv1) cells z.cells (by simpa using hl) (fun i p q h1 h2 => hp i p q h1 (by simpa using h2))
        (by rw [h3]; simpa using VRs.map (R := R) (G := G) (d := d) (M := Mem X d G R w) cv1 id zs (fun v _ => VR.cv1 v)) (by rw [h3]; exact h4) hc
      refine ⟨_, .agg cs', h, run_build w t vals cs' ?_, ?_⟩
      · unfold Program.built
        simp only [h1, h5, h2, h6]
        simpa using h7
      · unfold VR
        exact ⟨cs'.toList, by simp, h9, h8⟩
    · exact h.elim
  · rename_i zs hz hf
    split at h
    · rename_i m n ha
      split at h
      · rename_i cells hc
        obtain ⟨i, z, h1, h2, h3, h4⟩ := zc_spec hz
        obtain ⟨e, i', h5, h6, rfl⟩ := aelT_spec ha
        obtain ⟨cs', h7, h8, h9⟩ := gfill_sound (R := R) (G := G) (d := d) (M := Mem X d G R w) parts vals.toList (zs.map cv1) cells z.cells (by simpa using hl) (fun i p q h1 h2 => hp i p q h1 (by simpa using h2))
          (by rw [h3]; simpa using VRs.map (R := R) (G := G) (d := d) (M := Mem X d G R w) cv1 id zs (fun v _ => VR.cv1 v)) (by rw [h3]; exact h4) hc
        refine ⟨_, .agg cs', h, run_build w t vals cs' ?_, ?_⟩
        · unfold Program.built
          simp only [h1, h5, h2, h6]
          simpa using h7
        · unfold VR
          exact ⟨cs'.toList, by simp, h9, h8⟩
      · exact h.elim
    · exact h.elim
  · exact h.elim
theorem elT_spec {t e : TypeId} {n bytes : Nat} (h : elT P t = some (e, n, bytes)) :
    ∃ i z, P.underlying t = some (.slice e) ∧ P.info? e = some i ∧ i.zero = some z ∧ z.cells.size = n ∧ i.size = n ∧ i.bytes = bytes ∧ 0 < n ∧ 0 < bytes := by
  unfold elT at h
  split at h
  · rename_i e' hu
    cases hi : P.info? e' with
    | none => simp [hi] at h
    | some i =>
      cases hz : i.zero with
      | none => simp [hi, hz] at h
      | some z =>
        simp only [hi, hz, Option.bind_some] at h
        split at h
        · rename_i hc
          simp only [Option.some.injEq, Prod.mk.injEq] at h
          obtain ⟨rfl, rfl, rfl⟩ := h
          exact ⟨i, z, hu, hi, hz, hc.1, rfl, rfl, hc.2.1, hc.2.2⟩
        · cases h
  · cases h
theorem fill_row {M : Nat → Nat → Value → Prop} {n : Nat} : ∀ (parts : List (Nat × GV)) (vals : List (Nat × Value)) (k : Nat) (cs : Array Value) (es : List (List PV)),
    parts.length = vals.length → (∀ (i : Nat) (p : Nat × GV) (q : Nat × Value), parts[i]? = some p → vals[i]? = some q → p.1 = q.1 ∧ VR M G R d p.2 q.2) → partsOf k n parts = some es → (k + parts.length) * n ≤ cs.size →
    ∃ cs', Instr.fill (fun i => some (i * n, n)) cs vals = some cs' ∧ cs'.size = cs.size ∧ es.length = parts.length ∧ (∀ i, i < k * n → cs'[i]? = cs[i]?) ∧
      ∀ (i : Nat) (e : List PV), es[i]? = some e → e.length = n ∧ ∀ (j : Nat) (c : PV), e[j]? = some c → ∃ v, cs'[(k + i) * n + j]? = some v ∧ v.oneCell' = true ∧ PR M c v
  | [], [], k, cs, es, _, _, h, _ => by
    unfold partsOf at h
    cases h
    exact ⟨cs, rfl, rfl, rfl, fun _ _ => rfl, fun i e hi => by simp at hi⟩
  | (i, g) :: parts, (i', x) :: vals, k, cs, es, hl, hp, h, hsz => by
    obtain ⟨hik, hgx⟩ := hp 0 _ _ rfl rfl
    simp only at hik hgx
    subst hik
    unfold partsOf at h
    split at h
    case isFalse => cases h
    rename_i hk
    subst hk
    split at h
    case h_2 => cases h
    rename_i ps r hps hr
    split at h
    case isFalse => cases h
    rename_i hpl
    cases h
    cases hgc : gcells g with
    | none => rw [hgc] at hps; cases hps
    | some gs =>
      rw [hgc] at hps
      simp only [Option.bind_some] at hps
      obtain ⟨ys, hyc, hy1, hyv, _⟩ := hgx.cells hgc
      obtain ⟨hpl', hpg⟩ := purs_get hps hyv
      have hsz' : i * n + n + parts.length * n ≤ cs.size := by
        have : (i + (parts.length + 1)) * n = i * n + n + parts.length * n := by
          rw [Nat.add_mul, Nat.add_mul]; omega
        simp only [List.length_cons] at hsz
        omega
      have hset := foldl_set_toList ys 0 (i * n) cs (by omega)
      simp only [Nat.add_zero] at hset
      generalize hC : (ys.zipIdx.foldl (fun cs (x : Value × Nat) => cs.setIfInBounds (i * n + x.2) x.1) cs) = C at hset
      have hCsz : C.size = cs.size := by
        rw [← Array.length_toList, hset]; simp; omega
      have hCget : ∀ k : Nat, C[k]? = if i * n ≤ k ∧ k < i * n + n then ys[k - i * n]? else cs[k]? := fun k => by
        rw [← Array.getElem?_toList, hset]
        simp only [List.getElem?_append, List.length_take, Array.length_toList, List.getElem?_take, List.getElem?_drop, Array.getElem?_toList]
        have hm : min (i * n) cs.size = i * n := by omega
        rw [hm]
        by_cases c1 : k < i * n
        · rw [if_pos c1, if_pos c1, if_neg (by omega)]
        · rw [if_neg c1]
          by_cases c2 : k - i * n < ys.length
          · rw [if_pos c2, if_pos (by omega)]
          · rw [if_neg c2, if_neg (by omega)]
            congr 1; omega
      obtain ⟨cs', h2, h3, h4, h5, h6⟩ := fill_row parts vals (i + 1) C r (by simpa using hl) (fun j p q hj1 hj2 => hp (j + 1) p q (by simpa using hj1) (by simpa using hj2)) hr
        (by rw [hCsz, Nat.add_mul, Nat.add_mul]; omega)
      refine ⟨cs', ?_, h3.trans hCsz, by simp [h4], fun j hj => ?_, fun j e hj => ?_⟩
      · unfold Instr.fill
        simp only [hyc]
        rw [if_neg (by simp; omega), ← h2]
        congr 1
        rw [← hC, ← Array.foldl_toList]
        congr 1
        simp
      · rw [h5 j (by rw [Nat.add_mul]; omega), hCget, if_neg (by omega)]
      · cases j with
        | zero =>
          simp only [List.getElem?_cons_zero, Option.some.injEq] at hj
          subst hj
          refine ⟨hpl, fun q c hq => ?_⟩
          obtain ⟨v, h7, h8⟩ := hpg q c hq
          have hqlt : q < ps.length := (List.getElem?_eq_some_iff.1 hq).1
          refine ⟨v, ?_, hy1 v (List.mem_of_getElem? h7), h8⟩
          rw [Nat.add_zero, h5 _ (by rw [Nat.add_mul]; omega), hCget, if_pos (by omega), show i * n + q - i * n = q by omega]
          exact h7
        | succ j =>
          simp only [List.getElem?_cons_succ] at hj
          obtain ⟨h7, h8⟩ := h6 j e hj
          exact ⟨h7, fun q c hq => by
            obtain ⟨v, h9⟩ := h8 q c hq
            exact ⟨v, by rwa [show i + (j + 1) = i + 1 + j by omega]⟩⟩
  | [], _ :: _, _, _, _, hl, _, _, _ => by simp at hl
  | _ :: _, [], _, _, _, hl, _, _, _ => by simp at hl
theorem Mem.new (hs : Sim X d G R w) {cs : Array Value} {T : TypeId} {i : Nat} {v : Value} (hi : cs[i]? = some v) (h1 : v.oneCell' = true) : Mem X d G R (w.alloc (.cells cs T)) w.heap.size i v :=
  ⟨by rw [cell_of_row _ _ i cs T _ (heap_alloc_new w _)]; exact hi, h1, (fun hX => absurd (hs.off _ _ hX) (by omega)), fun κ o hk hg hb => absurd (hs.lt hk hg) (by omega)⟩
theorem run_buildSlice_eng {t e : TypeId} {i : TypeInfo} {z : Value} {len : Nat} {parts : Array (Nat × Value)} {cells : Array Value} (ht : P.underlying t = some (.slice e)) (hi : P.info? e = some i) (hz : i.zero = some z)
    (hle : len * i.size ≤ 16777216)
    (hf : Instr.fill (fun k => some (k * i.size, i.size)) ((Array.range (len * i.size)).map ((if len * i.size = 0 then #[] else z.cells)[· % (if len * i.size = 0 then (#[] : Array Value) else z.cells).size]!)) parts.toList = some cells) :
    (Instr.buildSlice t len parts).run P w = .ok (.slice (some ⟨w.heap.size, 0, none⟩) len len) (w.alloc (.cells cells e)) := by
  have hle' : ¬ (16777216 < len * i.size) := by omega
  by_cases h0 : len * i.size = 0
  · simp only [h0, if_true] at hf
    simp [Instr.buildSlice, run_underlying ht, sizeOf, typeInfo, zeroValue, hi, hz, h0, newRow]
    simp at hf
    rw [hf]
    rfl
  · simp only [h0, if_false] at hf
    simp [Instr.buildSlice, run_underlying ht, sizeOf, typeInfo, zeroValue, hi, hz, hle', h0, newRow, hf]
theorem buildSlice_sound (hs : Sim X d G R w) {A : Ann} {t : TypeId} {len : Nat} {parts : List (Nat × GV)} {vals : Array (Nat × Value)} {K : GV → Dl → Prop} {dst : Option Nat}
    (hl : parts.length = vals.size) (hp : ∀ (i : Nat) (p : Nat × GV) (q : Nat × Value), parts[i]? = some p → vals[i]? = some q → p.1 = q.1 ∧ VR (Mem X d G R w) G R d p.2 q.2) (h : gBuildSlice P A d t len parts K dst G) :
    ∃ v δ rv w' R', K v δ ∧ (Instr.buildSlice t len vals).run P w = .ok rv w' ∧ Step X d G R w (appD G d dst δ) R' w' ∧ VR (Mem X d (appD G d dst δ) R' w') (appD G d dst δ) R' d v rv := by
  unfold gBuildSlice at h
  split at h
  case h_2 => exact h.elim
  rename_i e n bytes he
  split at h
  case h_2 => exact h.elim
  rename_i es hes
  obtain ⟨hlen, hle, h⟩ := h
  obtain ⟨i, z, ht, hi, hz, hzn, hin, _, hn0, _⟩ := elT_spec he
  subst hin
  have hpl : parts.length = len := by
    have : ∀ (ps : List (Nat × GV)) (k : Nat) (r : List (List PV)), partsOf k i.size ps = some r → r.length = ps.length := by
      intro ps
      induction ps with
      | nil => intro k r hr; unfold partsOf at hr; cases hr; rfl
      | cons p ps ih =>
        intro k r hr
        obtain ⟨a, b⟩ := p
        unfold partsOf at hr
        split at hr
        · split at hr
          · split at hr
            · rename_i hq _
              cases hr
              simp [ih _ _ (by assumption)]
            · cases hr
          · cases hr
        · cases hr
    rw [← hlen, this _ _ _ hes]
  obtain ⟨cs', h1, h2, h3, _, h5⟩ := fill_row (R := R) (G := G) (d := d) (M := Mem X d G R w) parts vals.toList 0 ((Array.range (len * i.size)).map ((if len * i.size = 0 then #[] else z.cells)[· % (if len * i.size = 0 then (#[] : Array Value) else z.cells).size]!)) es
    (by simpa using hl) (fun i p q h1 h2 => hp i p q h1 (by simpa using h2)) hes (by simp [hpl])
  have hsz : cs'.size = len * i.size := by rw [h2]; simp
  have hrun := run_buildSlice_eng (P := P) (w := w) ht hi hz hle h1
  have hall : ∀ v ∈ cs'.toList, v.oneCell' = true := fun v hv => by
    obtain ⟨k, hk⟩ := List.getElem?_of_mem hv
    have hk' : k < len * i.size := by have := (List.getElem?_eq_some_iff.1 hk).1; simpa [hsz] using this
    have hq : k / i.size < es.length := by rw [hlen]; exact Nat.div_lt_of_lt_mul (by rw [Nat.mul_comm]; exact hk')
    obtain ⟨h6, h7⟩ := h5 (k / i.size) es[k / i.size] (List.getElem?_eq_getElem hq)
    have hm : k % i.size < i.size := Nat.mod_lt _ hn0
    obtain ⟨v', h8, h9, _⟩ := h7 (k % i.size) _ (List.getElem?_eq_getElem (by rw [h6]; exact hm))
    rw [Nat.zero_add, show k / i.size * i.size + k % i.size = k by rw [Nat.mul_comm]; exact Nat.div_add_mod k i.size] at h8
    have hk2 : cs'[k]? = some v := by simpa using hk
    rw [hk2] at h8
    cases h8
    exact h9
  by_cases ha : dstIn A.arrAt dst = true
  · rw [if_pos ha] at h
    obtain ⟨hf, hK⟩ := h
    cases dst with
    | none => exact hf.elim
    | some t0 =>
      unfold free at hf
      obtain ⟨R', hst, hv⟩ := newArr (es := es) (vs := cs'.toList) (sz := i.size) (n := len) hs hf e hlen (by simpa using hsz) hall (fun k x hk => by
        obtain ⟨h6, h7⟩ := h5 k x hk
        exact ⟨h6, fun j c hj => by obtain ⟨v, h8, _, h10⟩ := h7 j c hj; exact ⟨v, by simpa using h8, h10⟩⟩)
      exact ⟨_, _, _, _, R', hK, hrun, by simpa [appD, fillD] using hst, by simpa [appD, fillD] using hv⟩
  · rw [if_neg ha] at h
    have hst := Step.grow hs (Grows.alloc w (.cells cs' e))
    refine ⟨_, _, _, _, R, h, hrun, hst, ?_⟩
    unfold VR
    refine ⟨?_, ⟨some ⟨w.heap.size, 0, none⟩, by rw [hlen]⟩⟩
    unfold PR
    refine ⟨some ⟨w.heap.size, 0, none⟩, len, by rw [hlen], by rw [hlen]; exact Nat.le_refl _, (fun hh => by cases hh), fun _ => ⟨w.heap.size, 0, i.size, rfl, PRss.of_get fun k x hk => ?_⟩⟩
    obtain ⟨h6, h7⟩ := h5 k x hk
    refine ⟨h6, PRs.of_get fun j c hj => ?_⟩
    obtain ⟨v, h8, h9, h10⟩ := h7 j c hj
    exact ⟨v, Mem.new hs (by simpa using h8) h9, PR.mono hst.ext.mem _ _ h10⟩
theorem flds_get {t : TypeId} {k o n : Nat} (h : (flds P t).bind (·[k]?) = some (o, n)) : ∃ fs f i, P.underlying t = some (.struct fs) ∧ fs[k]? = some f ∧ f.offset = o ∧ P.info? f.type = some i ∧ i.size = n := by
  cases hf : flds P t with
  | none => rw [hf] at h; cases h
  | some pl =>
    rw [hf] at h
    simp only [Option.bind_some] at h
    obtain ⟨fs, hu, hm⟩ := flds_spec hf
    obtain ⟨f, h1, h2⟩ := mapM_get hm h
    cases hi : P.info? f.type with
    | none => rw [hi] at h2; cases h2
    | some i =>
      rw [hi] at h2
      simp only [Option.map_some, Option.some.injEq, Prod.mk.injEq] at h2
      exact ⟨fs, f, i, hu, by simpa using h1, h2.1, hi, h2.2⟩
theorem run_fieldAt {t : TypeId} {k o n : Nat} (h : (flds P t).bind (·[k]?) = some (o, n)) (hn : n ≠ 0) (b off : Nat) :
    (Instr.fieldAt t (.pointer (some ⟨b, off, none⟩)) k).run P w = .ok (.pointer (some ⟨b, off + o, none⟩)) w := by
  obtain ⟨fs, f, i, h1, h2, rfl, h4, rfl⟩ := flds_get h
  simp [Instr.fieldAt, run_underlying h1, h2, Instr.sureAddr, fieldPlace, sizeOf, typeInfo, h4, hn, Addr.add_mid]
theorem fieldAddr_sound {t : TypeId} {g : GV} {x : Value} {k : Nat} {K : GV → Prop} (hx : VR (Mem X d G R w) G R d g x) (h : gFieldAddr P t g k K) :
    ∃ v rv, K v ∧ (Instr.fieldAt t x k).run P w = .ok rv w ∧ VR (Mem X d G R w) G R d v rv := by
  unfold gFieldAddr at h
  split at h
  case h_2 => exact h.elim
  rename_i o n hf
  obtain ⟨hn, h⟩ := h
  split at h
  case h_5 => exact h.elim
  case h_1 =>
    rename_i κ off
    unfold VR at hx
    obtain ⟨h1, h2, rfl⟩ := hx
    exact ⟨_, _, h, run_fieldAt hf hn _ _, by unfold VR; exact ⟨h1, h2, rfl⟩⟩
  case h_2 =>
    rename_i cells off
    unfold VR at hx
    obtain ⟨b, o', rfl, h2⟩ := hx
    exact ⟨_, _, h, run_fieldAt hf hn _ _, by unfold VR; exact ⟨b, o', by rw [Nat.add_assoc], h2⟩⟩
  case h_3 =>
    rename_i cells
    have hx := VR.p_iff.1 hx
    unfold PR at hx
    obtain ⟨b, o', rfl, h2⟩ := hx
    exact ⟨_, _, h, run_fieldAt hf hn _ _, by unfold VR; exact ⟨b, o', rfl, h2⟩⟩
  case h_4 =>
    rename_i κ m i off
    unfold VR at hx
    obtain ⟨h1, h2, es, h3, h4, b, o', rfl, h5⟩ := hx
    exact ⟨_, _, h, run_fieldAt hf hn _ _, by unfold VR; exact ⟨h1, h2, es, h3, h4, b, o', by rw [Nat.add_assoc], h5⟩⟩
theorem run_indexAt {t e : TypeId} {n bytes : Nat} (he : elT P t = some (e, n, bytes)) {kk : IntKind} {j : Int} {b o len cap : Nat} (h0 : 0 ≤ j) (h1 : j < len) :
    (Instr.indexAt t (.slice (some ⟨b, o, none⟩) len cap) (.int kk j)).run P w = .ok (.pointer (some ⟨b, o + j.toNat * n, none⟩)) w := by
  obtain ⟨i, z, ht, hi, hz, hzn, hin, _, hn0, _⟩ := elT_spec he
  subst hin
  simp [Instr.indexAt, asIntOf, run_underlying ht, h0, h1, sizeOf, typeInfo, hi, Addr.add_mid]
theorem run_indexArr {t : TypeId} {m n : Nat} (he : aelT P t = some (m, n)) {kk : IntKind} {j : Int} {b o : Nat} (h0 : 0 ≤ j) (h1 : j < m) :
    (Instr.indexAt t (.pointer (some ⟨b, o, none⟩)) (.int kk j)).run P w = .ok (.pointer (some ⟨b, o + j.toNat * n, none⟩)) w := by
  obtain ⟨e, i, ht, hi, rfl⟩ := aelT_spec he
  simp [Instr.indexAt, asIntOf, run_underlying ht, h0, h1, sizeOf, typeInfo, hi, Addr.add_mid, Instr.sureAddr]
theorem indexAddr_sound {t : TypeId} {g gi : GV} {x y : Value} {K : GV → Prop} (hx : VR (Mem X d G R w) G R d g x) (hy : VR (Mem X d G R w) G R d gi y) (h : gIndexAddr P t g gi K) :
    ∃ v rv, K v ∧ (Instr.indexAt t x y).run P w = .ok rv w ∧ VR (Mem X d G R w) G R d v rv := by
  unfold gIndexAddr at h
  split at h
  case h_3 => exact h.elim
  case h_2 =>
    rename_i kk j he
    have hy' := VR.p_iff.1 hy
    unfold PR at hy'
    subst hy'
    split at h
    case h_2 => exact h.elim
    rename_i m n κ off ha
    obtain ⟨h0, h1, hK⟩ := h
    unfold VR at hx
    obtain ⟨h2, h3, rfl⟩ := hx
    exact ⟨_, _, hK, run_indexArr ha h0 h1, by unfold VR; exact ⟨h2, h3, rfl⟩⟩
  rename_i e n bytes kk j he
  have hy' := VR.p_iff.1 hy
  unfold PR at hy'
  subst hy'
  split at h
  · rename_i es hes
    obtain ⟨h0, h⟩ := h
    split at h
    case h_2 => exact h.elim
    rename_i q hq
    obtain ⟨hql, hK⟩ := h
    have hp := hx.elems hes
    unfold PR at hp
    obtain ⟨a, cap, rfl, hcap, _, hne⟩ := hp
    have hlt := (List.getElem?_eq_some_iff.1 hq).1
    obtain ⟨b, o, sz, rfl, hss⟩ := hne (by rintro rfl; simp at hq)
    obtain ⟨hsz, hps⟩ := PRss.get hss hq
    obtain rfl : sz = n := by omega
    refine ⟨_, _, hK, run_indexAt he h0 (by omega), ?_⟩
    unfold VR
    exact ⟨b, o + j.toNat * sz, rfl, hps⟩
  · split at h
    case h_2 => exact h.elim
    rename_i κ m sz _
    obtain ⟨rfl, h0, h1, hK⟩ := h
    unfold VR at hx
    obtain ⟨h2, h5, es, h3, h4, b, o, c, rfl, _, h6⟩ := hx
    refine ⟨_, _, hK, run_indexAt he h0 h1, ?_⟩
    unfold VR
    exact ⟨h2, by omega, es, h3, h4, b, o, by rw [h5]; rfl, fun e => ⟨(h6 e).1, (h6 e).2.1⟩⟩
theorem index_sound {t : TypeId} {g gi : GV} {x y : Value} {K : GV → Prop} (hx : VR (Mem X d G R w) G R d g x) (hy : VR (Mem X d G R w) G R d gi y) (h : gIndex P t g gi K) :
    ∃ v rv, K v ∧ (Instr.index t x y).run P w = .ok rv w ∧ VR (Mem X d G R w) G R d v rv := by
  unfold gIndex at h
  split at h
  case h_2 => exact h.elim
  rename_i s kk j
  obtain ⟨ht, h0, h⟩ := h
  have hx' := VR.p_iff.1 hx
  have hy' := VR.p_iff.1 hy
  unfold PR at hx' hy'
  subst hx' hy'
  split at h
  case h_2 => exact h.elim
  rename_i b hb
  unfold isStr at ht
  split at ht
  case h_2 => cases ht
  rename_i hu
  refine ⟨_, .int .u8 b.toNat, h, ?_, VR.p_iff.2 (by unfold PR; rfl)⟩
  simp [Instr.index, asIntOf, run_underlying hu, h0, hb]
theorem field_sound {t : TypeId} {g : GV} {x : Value} {k : Nat} {K : GV → Prop} (hx : VR (Mem X d G R w) G R d g x) (h : gField P t g k K) :
    ∃ v rv, K v ∧ (Instr.field t x k).run P w = .ok rv w ∧ VR (Mem X d G R w) G R d v rv := by
  have ftype : ∀ {fs : Array Field} {f : Field} {q : TK}, P.underlying t = some (.struct fs) → fs[k]? = some f → (fldT P t k).map (tk P) = some q → tk P f.type = q := by
    intro fs f q hu hf hq
    unfold fldT at hq
    rw [hu] at hq
    simp only [hf, Option.map_some, Option.some.injEq] at hq
    exact hq
  unfold gField at h
  split at h
  case h_3 => exact h.elim
  case h_1 =>
    rename_i cells o n' n hf ht
    obtain ⟨hle, hK⟩ := h
    obtain ⟨fs, f, i, h1, h2, rfl, h4, rfl⟩ := flds_get hf
    have htk := ftype h1 h2 ht
    obtain ⟨dd, i', h5, h6, h7, h8⟩ := tk_row htk
    rw [h4] at h7
    cases h7
    subst h8
    unfold VR at hx
    obtain ⟨vs, rfl, h9, h10⟩ := hx
    have hlen := VRs.length h10
    refine ⟨_, .agg (vs.toArray.extract f.offset (f.offset + i.size)), hK, ?_, ?_⟩
    · simp [Instr.field, run_underlying h1, h2, part, run_isAgg_row h5 h6 w, asAgg, sizeOf, typeInfo, h4]
    · unfold VR
      refine ⟨(vs.drop f.offset).take i.size, ?_, fun v hv => h9 v (List.mem_of_mem_drop (List.mem_of_mem_take hv)), (h10.drop _).take _⟩
      congr 1
      apply Array.ext'
      simp [List.extract_eq_take_drop]
  case h_2 =>
    rename_i cells o n' hf ht
    obtain ⟨fs, f, i, h1, h2, rfl, h4, rfl⟩ := flds_get hf
    have htk := ftype h1 h2 ht
    obtain ⟨dd, i', h5, h6, h7⟩ := tk_one htk
    split at h
    case h_2 => exact h.elim
    rename_i g' hg'
    unfold VR at hx
    obtain ⟨vs, rfl, h9, h10⟩ := hx
    obtain ⟨v, h11, h12⟩ := VRs.get h10 hg'
    refine ⟨_, v, h, ?_, h12⟩
    have h11' : vs.toArray[f.offset]? = some v := by simpa using h11
    simp [Instr.field, run_underlying h1, h2, part, run_isAgg_one h5 h6 w, asAgg]
    simp at h11'
    simp [h11']
end
end Go.Eng
end
