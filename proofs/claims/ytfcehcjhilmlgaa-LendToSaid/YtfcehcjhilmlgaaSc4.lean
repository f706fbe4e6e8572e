import Derived.Laws.Externs
import GoSem.Extern.MathBitsCarry
import Derived.Test.YtfcehcjhilmlgaaSc3
section
set_option linter.all false
namespace Go.Eng
@[simp] theorem clean_nil {d : Nat} {s : St} : clean d [] s = s := rfl
mutual
theorem wkR_refl : ∀ g : GV, wkR g g
  | .csl _ => by unfold wkR; exact .inl rfl
  | .tsl _ _ => by unfold wkR; exact .inr rfl
  | .agg gs => by unfold wkR; exact ⟨gs, rfl, wkRs_refl gs⟩
  | .undef => by unfold wkR; rfl
  | .p _ => by unfold wkR; rfl
  | .own _ _ => by unfold wkR; rfl
  | .obx _ => by unfold wkR; rfl
  | .bp _ _ => by unfold wkR; rfl
  | .ep _ _ => by unfold wkR; rfl
  | .arr _ _ _ => by unfold wkR; rfl
  | .oar _ _ => by unfold wkR; rfl
  | .ap _ _ _ _ => by unfold wkR; rfl
  | .asl _ _ _ _ _ => by unfold wkR; rfl
  | .fn _ _ => by unfold wkR; rfl
  | .tup _ => by unfold wkR; rfl
theorem wkRs_refl : ∀ gs : List GV, wkRs gs gs
  | [] => by unfold wkRs; rfl
  | g :: gs => by unfold wkRs; exact ⟨g, gs, rfl, wkR_refl g, wkRs_refl gs⟩
end
section
variable {P : Program} {C : CR} {A : Ann} {d : Nat}
theorem callp {K : St → Prop} {F : Nat → GV} {G : Heap} {n : FuncId} {caps args as : List GV} {t : Nat} {r : GV} (hT : C d n as empty r empty) (hK : K ⟨upd F t r, G⟩) (hw : wkRs (args ++ caps) as := by first | exact wkRs_refl _ | simp) (ho : A.openAt t = false := by rfl) (hcl : closeds as := by simp)
    (hf : G d t = [] := by simp) (hr : adopt d t r [] = (r, []) := by simp) (hb : A.borAt t = false := by rfl) (hz : A.frzAt t = false := by rfl) : gCall C A d G (.fn n caps) args (some t) (kont d (some t) K ⟨F, G⟩) := call_pure hT hw ho hcl hf hr hK hb hz
theorem gwp_loopP {c : Code} {Q : GE → St → Prop} {s : St} (I : Nat → St → Prop) (R : GE → St → Prop) {m : Nat} (h0 : I m s)
    (hstep : ∀ k s, I k s → gwp P C A d c (GE.then (fun s' => ∃ k', k' < k ∧ I k' s') R) (clean d (A.clean (firstId c)) s)) (hR : ∀ e s, R e s → Q e s) : gwp P C A d (.loop c) Q s :=
  mono_gwp _ _ _ hR _ (gwp_loop I h0 hstep)
end
theorem VRs_nil_inv {M : Nat → Nat → Value → Prop} {G : Heap} {R : RMap} {d : Nat} {vs : List Value} (h : VRs M G R d [] vs) : vs = [] := by
  cases vs with
  | nil => rfl
  | cons v vs => unfold VRs at h; exact h.elim
theorem VRs_int {M : Nat → Nat → Value → Prop} {G : Heap} {R : RMap} {d : Nat} {k : IntKind} {n : Int} {gs : List GV} {vs : List Value} (h : VRs M G R d (.p (.int k n) :: gs) vs) : ∃ us, vs = .int k n :: us ∧ VRs M G R d gs us := by
  cases vs with
  | nil => unfold VRs at h; exact h.elim
  | cons v vs =>
    unfold VRs at h
    have := VR.p_iff.1 h.1
    unfold PR at this
    exact ⟨vs, by rw [this], h.2⟩
def subEntry : Array Value → Sem Value := fun args => (Extern.MathBitsCarry.three "Sub64" args) >>= fun t => pure (Extern.MathBitsCarry.pair ((t.1 + Extern.MathBitsCarry.m64 - t.2.1 - t.2.2) % Extern.MathBitsCarry.m64) (if t.1 < t.2.1 + t.2.2 then 1 else 0))
def addEntry : Array Value → Sem Value := fun args => (Extern.MathBitsCarry.three "Add64" args) >>= fun t => pure (Extern.MathBitsCarry.pair ((t.1 + t.2.1 + t.2.2) % Extern.MathBitsCarry.m64) ((t.1 + t.2.1 + t.2.2) / Extern.MathBitsCarry.m64))
theorem run_sub {P : Program} (x y b : Nat) (hb : b ≤ 1) (w : World) :
    (subEntry #[.int .u64 x, .int .u64 y, .int .u64 b]).run P w = .ok (.tuple #[.int .u64 (((x + 18446744073709551616 - y - b) % 18446744073709551616 : Nat) : Int), .int .u64 ((if x < y + b then 1 else 0 : Nat) : Int)]) w := by
  have : b = 0 ∨ b = 1 := by omega
  rcases this with rfl | rfl <;> rfl
theorem run_add {P : Program} (x y b : Nat) (hb : b ≤ 1) (w : World) :
    (addEntry #[.int .u64 x, .int .u64 y, .int .u64 b]).run P w = .ok (.tuple #[.int .u64 (((x + y + b) % 18446744073709551616 : Nat) : Int), .int .u64 (((x + y + b) / 18446744073709551616 : Nat) : Int)]) w := by
  have : b = 0 ∨ b = 1 := by omega
  rcases this with rfl | rfl <;> rfl
theorem tel_carry {P : Program} {TB : Nat → Option Obj} {f : FuncId} {fn : Func} {en : Array Value → Sem Value} {x y b u v : Nat} (hf : P.funcs[f]? = some fn) (hname : (fn.name == "runtime.NumGoroutine") = false)
    (hb : fn.body.isNone = true) (hn : Extern.findNext fn = none) (he : Extern.find fn = some en)
    (h : ∀ w, (en #[.int .u64 x, .int .u64 y, .int .u64 b]).run P w = .ok (.tuple #[.int .u64 (u : Int), .int .u64 (v : Int)]) w) (d : Nat) (G : Heap) :
    Tel P TB d f [.p (.int .u64 (x : Int)), .p (.int .u64 (y : Int)), .p (.int .u64 (b : Int))] G (.tup [.p (.int .u64 (u : Int)), .p (.int .u64 (v : Int))]) G := by
  refine tel_extern (fun d t0 => by simp) (fun X d G R w vals hs hv => ?_) d G
  obtain ⟨v1, rfl, hv1⟩ := VRs_int hv
  obtain ⟨v2, rfl, hv2⟩ := VRs_int hv1
  obtain ⟨v3, rfl, hv3⟩ := VRs_int hv2
  cases VRs_nil_inv hv3
  refine ⟨.tuple #[.int .u64 (u : Int), .int .u64 (v : Int)], ?_, ?_⟩
  · rw [run_callFunc_extern hf hname hb hn he]
    rw [h w]
    rfl
  · unfold VR
    refine ⟨[.int .u64 (u : Int), .int .u64 (v : Int)], rfl, VRs.cons (VR.p_iff.2 (by unfold PR; rfl)) (VRs.one (VR.p_iff.2 (by unfold PR; rfl)))⟩
end Go.Eng
end
section
set_option linter.all false
namespace Go.Eng
def Grow (G : Heap) (d t n : Nat) (es : List (List PV)) (g : GV) : Prop := (g = .csl es ∧ G d t = []) ∨ (g = .tsl es (d, t, 0) ∧ get G (d, t, 0) = some (.tok es.length n))
theorem Grow.start {G : Heap} {d t n : Nat} {es : List (List PV)} (h : G d t = []) : Grow G d t n es (.csl es) := .inl ⟨rfl, h⟩
theorem Grow.wk {G : Heap} {d t n : Nat} {es : List (List PV)} {g : GV} (h : Grow G d t n es g) : wkR g (.p (.sl es)) := by
  rcases h with ⟨rfl, _⟩ | ⟨rfl, _⟩ <;> unfold wkR
  · exact .inr rfl
  · exact .inl rfl
theorem Grow.len {G : Heap} {d t n : Nat} {es : List (List PV)} {g : GV} (h : Grow G d t n es g) : lenOf g = some es.length := by
  rcases h with ⟨rfl, _⟩ | ⟨rfl, _⟩ <;> rfl
theorem Grow.elems {G : Heap} {d t n : Nat} {es : List (List PV)} {g : GV} (h : Grow G d t n es g) : Go.Eng.elems g = some es := by
  rcases h with ⟨rfl, _⟩ | ⟨rfl, _⟩ <;> rfl
section
variable {P : Program} {C : CR} {A : Ann} {d : Nat}
theorem append_grow {K : St → Prop} {F : Nat → GV} {G : Heap} {ty tx : TypeId} {es xs : List (List PV)} {g x : GV} {j : Nat} {e n b : Nat} (hg : Grow G d j n es g) (he : elT P ty = some (e, n, b)) (hx : srcOf P G tx n x = some xs) (ha : A.pureAt j = false)
    (h1 : sizes es n) (h2 : sizes xs n) (hb : (es.length + xs.length) * b ≤ 140737488355328) (hne : xs ≠ [])
    (hK : ∀ G', get G' (d, j, 0) = some (.tok (es ++ xs).length n) → (∀ k i, ¬ (k = d ∧ i = j) → G' k i = G k i) → (∀ d' X, d' < d → agree d' G X → agree d' G' X) → K ⟨upd F j (.tsl (es ++ xs) (d, j, 0)), G'⟩) (hra : A.arrAt j = false := by rfl) (hop : A.openAt j = false := by rfl) :
    gAppend P A d G ty tx g x (some j) (kont d (some j) K ⟨F, G⟩) := by
  rcases hg with ⟨rfl, hf⟩ | ⟨rfl, ht⟩
  · refine append_new he hx ha h1 h2 hb hne hf ?_ hra hop
    refine hK (fillKey G d j [.tok (es.length + xs.length) n]) ?_ ?_ ?_
    · simp
    · intro k i hki
      unfold fillKey
      rw [if_neg hki]
    · intro d' X hd h k i hk
      unfold fillKey
      rw [if_neg (by omega)]
      exact h k i hk
  · refine append_tok he hx ha h1 h2 hb ht ?_
    refine hK (setKey G (d, j, 0) (.tok (es.length + xs.length) n)) ?_ ?_ ?_
    · simp [get_set3, ht]
    · intro k i hki
      unfold setKey
      simp [hki]
    · intro d' X hd h k i hk
      unfold setKey
      have : ¬ (k = d) := by omega
      simp only [this, false_and, if_false]
      exact h k i hk
end
end Go.Eng
end
section
set_option linter.all false
namespace Go.Eng
variable {P : Program} {TB : Nat → Option Obj}
theorem Tel.intro_nil (hmix : P.follows .mixedOrders = true) {d : Nat} {f : FuncId} {es : List (List PV)} {G : Heap} {r : GV} {G' : Heap} {fn : Func} {c : Code} (hfn : P.funcs[f]? = some fn) (hc : fn.body = some c) (hlen : 1 ≤ fn.ntmps)
    (A : Ann) (c1 c2 : Code) {x y z : Nat} (hx : x < fn.ntmps) (hy : y < fn.ntmps) (hz : z < fn.ntmps) (hok : codeOK A fn.ntmps c1 = true) (hok2 : codeOK A fn.ntmps c2 = true) (hname : (fn.name == "runtime.NumGoroutine") = false)
    (hcode : ∀ (a : Option Addr) (n m : Nat) (Q : Exit → Act → World → Prop) (w : World) (a0 : Act), a0.tmps.getD 0 undef = .slice a n m → a0.tmps.size = fn.ntmps →
      c1.wp P (Exit.then (c2.wp P Q) Q) (((a0.put (some x) (.slice none 0 0)).put (some y) (.slice a n m)).put (some z) (.bool a.isNone)) w → c.wp P Q a0 w)
    (h : ∀ b, (b = true → es = []) → gwp P (Tel P TB) A (d + 1) c1 (GE.then (gwp P (Tel P TB) A (d + 1) c2 (callPost P fn d r G')) (callPost P fn d r G')) ⟨upd (upd (upd (initF [.p (.sl es)]) x (.csl [])) y (.p (.sl es))) z (.p (.bool b)), cut d G⟩) : Tel P TB d f [.p (.sl es)] G r G' := by
  refine ⟨fun d1 f1 args1 G1 r1 G1' => d1 = d ∧ f1 = f ∧ args1 = [.p (.sl es)] ∧ G1 = G ∧ r1 = r ∧ G1' = G', ?_, rfl, rfl, rfl, rfl, rfl, rfl⟩
  rintro d1 f1 args1 G0 r1 G1' ⟨rfl, rfl, rfl, rfl, rfl, rfl⟩ X R0 w0 vals hX hs0 hvals t0 hf hf'
  refine .inl ⟨⟨fn, hfn, by rw [hc]; rfl, hname⟩, ?_⟩
  have hvl := VRs.length hvals
  have hx' := hx
  clear hx
  obtain ⟨x0, rfl⟩ : ∃ x, vals = [x] := by
    cases vals with
    | nil => simp at hvl
    | cons x l => cases l with
      | nil => exact ⟨x, rfl⟩
      | cons y l => simp at hvl
  have hx : PR (Mem X d1 G0 R0 w0) (.sl es) x0 := by
    have := hvals
    unfold VRs at this
    exact VR.p_iff.1 this.1
  obtain ⟨a, cap, rfl, h1, h2, h3⟩ : ∃ a cap, x0 = .slice a es.length cap ∧ es.length ≤ cap ∧ (a = none → cap = 0) ∧ (es ≠ [] → ∃ b o sz, a = some ⟨b, o, none⟩ ∧ PRss (Mem X d1 G0 R0 w0) es b o sz) := by
    unfold PR at hx; exact hx
  have hb : a.isNone = true → es = [] := fun ha => by
    have : a = none := by simpa using ha
    have := h2 this
    exact List.eq_nil_of_length_eq_zero (by omega)
  refine calls_of_wp hfn hc ?_
  have hin : In X (d1 + 1) fn.ntmps (Base X d1 G0 R0 w0) ⟨initF [.p (.sl es)], cut d1 G0⟩ { tmps := [Value.slice a es.length cap].toArray ++ Array.replicate (fn.ntmps - [Value.slice a es.length cap].toArray.size) undef, defers := [] } w0 R0 := by
    obtain ⟨h1, h2⟩ := hs0.cut
    refine ⟨h1, fun t => initF_VR (n := fn.ntmps - [Value.slice a es.length cap].toArray.size) (VRs.deeper (Nat.le_succ d1) _ _ (VRs.ext h2 _ _ hvals)) t, ?_, rfl, Base.start hs0⟩
    simp; omega
  have hB := fun G R w G' R' w' => @Base.step X d1 G0 R0 w0 G R w G' R' w'
  have e0 : ∀ k, ([Value.slice a es.length cap].toArray ++ Array.replicate k undef).getD 0 undef = .slice a es.length cap := fun k => by
    rw [Array.getD_eq_getD_getElem?, Array.getElem?_append_left (by simp)]; rfl
  have hv0 : VR (Mem X (d1 + 1) (cut d1 G0) R0 w0) (cut d1 G0) R0 (d1 + 1) (.p (.sl es)) (.slice a es.length cap) := by
    have := hin.fr 0
    dsimp only at this
    rw [show initF [GV.p (.sl es)] 0 = .p (.sl es) from rfl, e0] at this
    exact this
  have hin1 := hin.put hB (dst := some x) (fun t ht => by cases ht; exact hx') (v := .csl []) (δ := .nop) (rv := .slice none 0 0) (Step.refl hin.sim) (by unfold VR; exact ⟨by unfold PR; exact ⟨none, 0, rfl, Nat.le_refl _, fun _ => rfl, fun h => absurd rfl h⟩, none, rfl⟩)
  have hin2 := hin1.put hB (dst := some y) (fun t ht => by cases ht; exact hy) (v := .p (.sl es)) (δ := .nop) (rv := .slice a es.length cap) (Step.refl hin1.sim) hv0
  have hin3 := hin2.put hB (dst := some z) (fun t ht => by cases ht; exact hz) (v := .p (.bool a.isNone)) (δ := .nop) (rv := .bool a.isNone) (Step.refl hin2.sim) (VR.p_iff.2 (by unfold PR; rfl))
  refine hcode a es.length cap _ _ _ (e0 _) (by simp; omega) ?_
  refine gwp_sound known_Tel hX hmix Base.step (fun ts G R w hb => hb.clean) c1 hok _ _ (fun e s a w R hq hin' => ?_) _ _ _ _ hin3 (h _ hb)
  cases e with
  | exit id => exact hq.elim
  | normal =>
    refine gwp_sound known_Tel hX hmix Base.step (fun ts G R w hb => hb.clean) c2 hok2 _ _ (fun e s a w R hq hin' => ?_) _ _ _ _ hin' hq
    cases e with
    | exit id => exact hq.elim
    | normal =>
      obtain ⟨v, R2, hr, hst, hv⟩ := finish hs0 hf hin' hf' hq
      exact ⟨hin'.df, v, hr, v, rfl, R2, hst, hv⟩
    | ret =>
      obtain ⟨v, R2, hr, hst, hv⟩ := finish hs0 hf hin' hf' hq
      exact ⟨hin'.df, v, hr, v, rfl, R2, hst, hv⟩
  | ret =>
    obtain ⟨v, R2, hr, hst, hv⟩ := finish hs0 hf hin' hf' hq
    exact ⟨hin'.df, v, hr, v, rfl, R2, hst, hv⟩
end Go.Eng
end
section
set_option linter.all false
namespace Go.Eng
theorem cleanS_F {d t : Nat} {ts : List Nat} {s : St} : (cleanS d ts s).F t = wkA (decide (t + 1000000 ∈ ts)) (poison d ts (s.F t)) := rfl
theorem cleanS_G {d k t : Nat} {ts : List Nat} {s : St} : (cleanS d ts s).G k t = if k = d then (if t ∈ ts then [] else (s.G k t).map (poisonO d ts)) else s.G k t := rfl
theorem get_cleanS {d k t c : Nat} {ts : List Nat} {s : St} : get (cleanS d ts s).G (k, t, c) = if k = d then (if t ∈ ts then none else (get s.G (k, t, c)).map (poisonO d ts)) else get s.G (k, t, c) := by
  unfold get
  dsimp only
  rw [cleanS_G]
  by_cases hk : k = d
  · rw [if_pos hk, if_pos hk]
    by_cases ht : t ∈ ts
    · rw [if_pos ht, if_pos ht]; rfl
    · rw [if_neg ht, if_neg ht]; simp
  · rw [if_neg hk, if_neg hk]
theorem Grow.poison {G : Heap} {d t n : Nat} {es : List (List PV)} {g : GV} {ts : List Nat} (h : Grow G d t n es g) (ht : t ∉ ts) : Go.Eng.poison d ts g = g := by
  rcases h with ⟨rfl, _⟩ | ⟨rfl, _⟩
  · simp [Go.Eng.poison]
  · simp [Go.Eng.poison, ht]
theorem Grow.cleanS {s : St} {d t n : Nat} {es : List (List PV)} {g : GV} {ts : List Nat} (h : Grow s.G d t n es g) (ht : t ∉ ts) : Grow (Go.Eng.cleanS d ts s).G d t n es g := by
  rcases h with ⟨rfl, h⟩ | ⟨rfl, h⟩
  · exact .inl ⟨rfl, by rw [cleanS_G, if_pos rfl, if_neg ht, h]; rfl⟩
  · exact .inr ⟨rfl, by rw [get_cleanS, if_pos rfl, if_neg ht, h]; rfl⟩
end Go.Eng
end
section
set_option linter.all false
namespace Go.Eng
universe u v
section
variable {σ : Type} {χ : Type}
def loopN (b : σ → Option (σ ⊕ χ)) : Nat → σ → Option χ
  | 0, _ => none
  | n + 1, s => (b s).bind fun y => match y with
    | .inl s' => loopN b n s'
    | .inr x => some x
theorem loopN_more {b : σ → Option (σ ⊕ χ)} : ∀ {n m : Nat} {s : σ} {x : χ}, loopN b n s = some x → n ≤ m → loopN b m s = some x
  | 0, _, _, _, h, _ => by cases h
  | n + 1, 0, _, _, _, h => by omega
  | n + 1, m + 1, s, x, h, hm => by
    unfold loopN at h ⊢
    cases hb : b s with
    | none => rw [hb] at h; cases h
    | some y =>
      rw [hb] at h
      cases y with
      | inl s' => exact loopN_more (n := n) h (by omega)
      | inr x' => exact h
open Classical in
noncomputable def loopO (b : σ → Option (σ ⊕ χ)) (s : σ) : Option χ := if h : ∃ x n, loopN b n s = some x then some (Classical.choose h) else none
theorem loopO_some {b : σ → Option (σ ⊕ χ)} {s : σ} {x : χ} (h : loopO b s = some x) : ∃ n, loopN b n s = some x := by
  unfold loopO at h
  split at h
  · rename_i hx
    cases h
    exact Classical.choose_spec hx
  · cases h
theorem loopO_of {b : σ → Option (σ ⊕ χ)} {s : σ} {x : χ} {n : Nat} (h : loopN b n s = some x) : loopO b s = some x := by
  have hx : ∃ x n, loopN b n s = some x := ⟨x, n, h⟩
  cases hO : loopO b s with
  | none => unfold loopO at hO; rw [dif_pos hx] at hO; cases hO
  | some x' =>
    obtain ⟨m, hm⟩ := loopO_some hO
    have h1 := loopN_more h (Nat.le_max_left n m)
    have h2 := loopN_more hm (Nat.le_max_right n m)
    rw [h1] at h2
    exact h2.symm
theorem loopO_inl {b : σ → Option (σ ⊕ χ)} {s s' : σ} (h : b s = some (.inl s')) : loopO b s = loopO b s' := by
  cases hO : loopO b s' with
  | some x =>
    obtain ⟨n, hn⟩ := loopO_some hO
    exact loopO_of (n := n + 1) (by unfold loopN; rw [h]; exact hn)
  | none =>
    cases h1 : loopO b s with
    | none => rfl
    | some x =>
      obtain ⟨n, hn⟩ := loopO_some h1
      cases n with
      | zero => cases hn
      | succ n =>
        unfold loopN at hn
        rw [h] at hn
        rw [loopO_of (n := n) hn] at hO
        cases hO
theorem loopO_ind {b : σ → Option (σ ⊕ χ)} {P : σ → Prop} {Q : χ → Prop} (hl : ∀ a a', b a = some (.inl a') → P a → P a') (hr : ∀ a x, b a = some (.inr x) → P a → Q x) {s : σ} {x : χ} (h : loopO b s = some x) (hs : P s) : Q x := by
  obtain ⟨n, hn⟩ := loopO_some h
  clear h
  induction n generalizing s with
  | zero => cases hn
  | succ n ih =>
    unfold loopN at hn
    cases hb : b s with
    | none => rw [hb] at hn; cases hn
    | some y =>
      rw [hb] at hn
      cases y with
      | inl s' => exact ih (hl _ _ hb hs) hn
      | inr x' => cases hn; exact hr _ _ hb hs
theorem loopO_inr {b : σ → Option (σ ⊕ χ)} {s : σ} {x : χ} (h : b s = some (.inr x)) : loopO b s = some x :=
  loopO_of (n := 1) (by unfold loopN; rw [h]; rfl)
end
def ifB {α : Type} (c : Bool) (x y : Option α) : Option α := match c with
  | true => x
  | false => y
@[simp] theorem ifB_true {α : Type} (x y : Option α) : ifB true x y = x := rfl
@[simp] theorem ifB_false {α : Type} (x y : Option α) : ifB false x y = y := rfl
def gi {α : Type} (l : List α) (i : Int) : Option α := if 0 ≤ i then l[i.toNat]? else none
theorem bs {α β : Type} {x : Option α} {f : α → Option β} {r : β} (h : Option.bind x f = some r) : ∃ a, x = some a ∧ f a = some r := Option.bind_eq_some_iff.1 h
theorem ib {α : Type} {c : Bool} {x y : Option α} {r : α} (h : ifB c x y = some r) : (c = true ∧ x = some r) ∨ (c = false ∧ y = some r) := by
  cases c
  · exact .inr ⟨rfl, h⟩
  · exact .inl ⟨rfl, h⟩
theorem gis {α : Type} {l : List α} {i : Int} {x : α} (h : gi l i = some x) : 0 ≤ i ∧ l[i.toNat]? = some x := by
  unfold gi at h
  split at h
  · exact ⟨by assumption, h⟩
  · cases h
def cutQ (R : St → Prop) (Q : GE → St → Prop) : GE → St → Prop
  | .normal, s => R s
  | .exit i, s => Q (.exit i) s
  | .ret, s => Q .ret s
section
variable {P : Program} {C : CR} {A : Ann} {d : Nat}
theorem lp {σ χ : Type} {c : Code} {Q : GE → St → Prop} {s : St} {ts : List Nat} (hts : A.clean (firstId c) = ts) {b : σ → Option (σ ⊕ χ)} {a0 : σ} {x : χ} (hL : loopO b a0 = some x) (I : σ → St → Prop) (R : χ → GE → St → Prop)
    (h0 : I a0 (clean d ts s)) (hs : ∀ a y s, b a = some y → I a s → gwp P C A d c (GE.then (fun s' => ∃ a', y = .inl a' ∧ I a' (clean d ts s')) (fun e s' => ∃ x', y = .inr x' ∧ R x' e s')) s)
    (hk : ∀ e s', R x e s' → Q e s') : gwp P C A d (.loop c) Q s := by
  obtain ⟨n, hn⟩ := loopO_some hL
  refine gwp_loop (fun k s => ∃ a, loopN b k a = some x ∧ I a (clean d ts s)) (m := n) ⟨a0, hn, h0⟩ ?_
  rintro k s ⟨a, ha, hI⟩
  rw [hts]
  cases k with
  | zero => cases ha
  | succ k =>
    unfold loopN at ha
    obtain ⟨y, hy, ha⟩ := bs ha
    refine mono_gwp _ _ _ (fun e s' he => ?_) _ (hs a y _ hy hI)
    cases e with
    | normal =>
      obtain ⟨a', rfl, hI'⟩ := he
      exact ⟨k, Nat.lt_succ_self k, a', ha, hI'⟩
    | exit i =>
      obtain ⟨x', rfl, hR⟩ := he
      cases ha
      exact hk _ _ hR
    | ret =>
      obtain ⟨x', rfl, hR⟩ := he
      cases ha
      exact hk _ _ hR
theorem cutG {b : Bool} {x y : Code} {Q : GE → St → Prop} {s : St} (R : St → Prop) (h : guardB b true (gwpT P C A d x (cutQ R Q) s) (gwpT P C A d y (cutQ R Q) s)) (hR : ∀ s', R s' → Q .normal s') :
    guardB b true (gwpT P C A d x Q s) (gwpT P C A d y Q s) := by
  have hm : ∀ e s', cutQ R Q e s' → Q e s' := fun e s' h => by
    cases e
    · exact hR _ h
    · exact h
    · exact h
  exact ⟨fun e => mono_gwp _ _ _ hm _ (h.1 e), fun e => mono_gwp _ _ _ hm _ (h.2 e)⟩
theorem cutR {b w : Bool} {all : Array Oper} {o : Oper} {dst : Option Nat} {os : List Oper} {K : St → Prop} {s : St} (R : St → Prop) (h : guardB b w (gopT P C A d o (gops P C A d all os R) s) (skipT dst (gops P C A d all os R) s)) (hR : ∀ s', R s' → K s') :
    guardB b w (gopT P C A d o (gops P C A d all os K) s) (skipT dst (gops P C A d all os K) s) :=
  ⟨fun e => mono_gop (fun v δ hk => mono_gops hR _ _ hk) (h.1 e), fun e => mono_gops hR _ _ (h.2 e)⟩
end
theorem fillKey_same {G : Heap} {d t : Nat} {a b : List Obj'} : fillKey (fillKey G d t a) d t b = fillKey G d t b := by
  funext k i
  unfold fillKey
  split <;> rfl
theorem fillKey_comm {G : Heap} {d t t' : Nat} {a b : List Obj'} (h : t' < t) : fillKey (fillKey G d t a) d t' b = fillKey (fillKey G d t' b) d t a := by
  funext k i
  unfold fillKey
  by_cases h1 : k = d ∧ i = t'
  · rw [if_pos h1, if_neg (by omega), if_pos h1]
  · rw [if_neg h1, if_neg h1]
def keep (G : Heap) : Heap := G
theorem keep_eq {G : Heap} : keep G = G := rfl
theorem fillKey_sort {G : Heap} {d t t' : Nat} {a b : List Obj'} (h : t' < t) : fillKey (fillKey G d t a) d t' b = keep (fillKey (fillKey G d t' b) d t a) := fillKey_comm h
theorem setKey_fill {G : Heap} {d t c : Nat} {a : List Obj'} {o : Obj'} : setKey (fillKey G d t a) (d, t, c) o = fillKey G d t (a.set c o) := by
  funext k i
  unfold setKey fillKey
  dsimp only
  by_cases h1 : k = d ∧ i = t
  · rw [if_pos h1, if_pos h1, if_pos h1]
  · rw [if_neg h1, if_neg h1, if_neg h1]
theorem setKey_fill_ne {G : Heap} {d t t' c : Nat} {a : List Obj'} {o : Obj'} (h : t' ≠ t) : setKey (fillKey G d t a) (d, t', c) o = fillKey (setKey G (d, t', c) o) d t a := by
  funext k i
  unfold setKey fillKey
  dsimp only
  by_cases h1 : k = d ∧ i = t
  · rw [if_pos h1, if_neg (by omega), if_pos h1]
  · rw [if_neg h1, if_neg h1]
theorem cleanS_Gf {d : Nat} {ts : List Nat} {s : St} : (cleanS d ts s).G = cleanG d ts s.G := rfl
theorem cleanG_in {G : Heap} {d t : Nat} {ts : List Nat} {os : List Obj'} (h : t ∈ ts) : cleanG d ts (fillKey G d t os) = cleanG d ts G := by
  funext k i
  unfold cleanG fillKey
  by_cases h1 : k = d
  · rw [if_pos h1, if_pos h1]
    by_cases h2 : i ∈ ts
    · rw [if_pos h2, if_pos h2]
    · rw [if_neg h2, if_neg h2, if_neg]
      rintro ⟨_, rfl⟩
      exact h2 h
  · rw [if_neg h1, if_neg h1, if_neg (by omega)]
theorem cleanG_out {G : Heap} {d t : Nat} {ts : List Nat} {os : List Obj'} (h : t ∉ ts) : cleanG d ts (fillKey G d t os) = fillKey (cleanG d ts G) d t (os.map (poisonO d ts)) := by
  funext k i
  simp only [cleanG, fillKey]
  by_cases h1 : k = d
  · subst h1
    by_cases h2 : i = t
    · subst h2; simp [h]
    · simp [h2]
  · simp [h1]
theorem cleanG_cut {G : Heap} {d : Nat} {ts : List Nat} : cleanG (d + 1) ts (cut d G) = cut d G := by
  funext k i
  simp only [cleanG, cut]
  by_cases h1 : k = d + 1
  · subst h1; simp [show ¬ d + 1 ≤ d by omega]
  · simp [h1]
theorem clean_clean {d t : Nat} {ts : List Nat} {s : St} : clean d (t :: ts) s = cleanS d (t :: ts) s := rfl
end Go.Eng
end
section
set_option linter.all false
namespace Go.Eng
@[go_sem] theorem wkA_csl {es : List (List PV)} : wkA true (.csl es) = .p (.sl es) := rfl
@[go_sem] theorem wkA_tsl {es : List (List PV)} {κ : Key} : wkA true (.tsl es κ) = .p (.sl es) := rfl
@[go_sem] theorem wkA_p {v : PV} : wkA true (.p v) = .p v := rfl
@[go_sem low] theorem gcells_low {g : GV} : gcells g = match g with | .agg cs => some cs | .undef => none | .tup _ => none | .own _ _ => none | .obx _ => none | .oar _ _ => none | .ap _ _ _ _ => none | .asl _ _ _ _ _ => none | x => some [x] := by cases g <;> rfl
@[go_sem low] theorem spl_low {cells vs : List GV} {off : Nat} : spl cells off vs = cells.take off ++ (vs ++ cells.drop (off + vs.length)) := rfl
@[go_sem] theorem boxC_tmp {A : Ann} {d t : Nat} {g : GV} : boxC A d (.tmp t) g = match A.boxAt t with | some k => boxG d k g | none => True := rfl
attribute [go_sem] appC_some wkC_tmp wkG sameAt
@[go_sem] theorem appG_csl {d k : Nat} {es es' : List (List PV)} : appG d k (.csl es) (.csl es') = True := rfl
@[go_sem] theorem appG_tsl {d k : Nat} {κ : Key} {es es' : List (List PV)} : appG d k (.tsl es κ) (.csl es') = (κ.1 = d ∧ κ.2.1 = k) := by simp [appG]
@[go_sem] theorem appG_arr {d k n z : Nat} {κ : Key} {es' : List (List PV)} : appG d k (.arr κ n z) (.csl es') = (κ.1 = d ∧ κ.2.1 = k) := by simp [appG]
@[go_sem] theorem appG_csl_p {d k : Nat} {es : List (List PV)} {v : PV} : appG d k (.csl es) (.p v) = True := rfl
@[go_sem] theorem appG_tsl_p {d k : Nat} {κ : Key} {es : List (List PV)} {v : PV} : appG d k (.tsl es κ) (.p v) = (κ.1 = d ∧ κ.2.1 = k) := by simp [appG]
@[go_sem] theorem appG_arr_p {d k n z : Nat} {κ : Key} {v : PV} : appG d k (.arr κ n z) (.p v) = (κ.1 = d ∧ κ.2.1 = k) := by simp [appG]
@[go_sem] theorem boxG_bp {d k : Nat} {κ : Key} {off : Nat} : boxG d k (.bp κ off) = (κ.1 = d ∧ κ.2.1 = k) := rfl
attribute [go_sem] wkA_false gops_nil gops_cons gop1_none gop1_some guardT_some guardV_bool guardV_und guardB_tt guardB_tf guardB_ft guardB_ff gopT_app skipT_app gwpT_app kont_app nopK_app undK_app pickK_app gop_move gop_assign gop_pick gop_alloc gop_box gop_build gop_buildSlice gop_load gop_store gop_nil gop_bin gop_un gop_conv gop_fn gop_slice gop_fieldAddr gop_field gop_indexAddr gop_index gop_extract gop_call gop_len gop_append gop_copy gop_make gop_min gop_max gwp_skip gwp_region gwp_seq gwp_cond gwp_block gwp_exit gwp_ret then_normal then_exit then_ret block_normal block_ret block_exit condV_bool post_ret post_normal ress_nil ress_tmp ress_cell resK_app consK_app retK_one retK_nil retK_two ge_tmp ge_func ge_int ge_bool ge_str ge_ptr ge_sl ge_nfn upd_app put_some put_none initF_app appD_nop appD_fill appD_set appD_heap free_some fillKey_app setKey_nil cut_top get_fill get_set3 get_cut_top agree_fill agree_set agree_cut agree_refl
attribute [go_sem] gLoad gLoadC gStore gfill gBuild gBuildSlice partsOf gFieldAddr gField gIndex gbound lenOf ibin gUn gConv gMin purs pur okd okds closed closeds elems splP adopt adopts cv1 cv Ret Rets weak weaks poison poisons poisonO isNilOf dstIn frz frzs scal scals
attribute [go_sem] List.map_append List.length_set List.map_set fillKey_same fillKey_sort keep_eq List.size_toArray forall_eq forall_eq_or_imp setKey_fill setKey_fill_ne cleanS_F cleanS_Gf cleanG_in cleanG_out cleanG_cut clean_nil clean_clean cutQ
attribute [go_sem] Option.bind_some Option.bind_none Option.map_some Option.map_none Option.getD_some Option.getD_none Option.isNone_none Option.isNone_some Option.isSome_some Option.isSome_none
attribute [go_sem] List.getElem?_cons_zero List.getElem?_cons_succ List.getElem?_nil List.getD_cons_zero List.getD_cons_succ List.getD_nil List.drop_zero List.drop_succ_cons List.drop_nil List.take_zero List.take_succ_cons List.take_nil List.map_cons List.map_nil List.length_cons List.length_nil List.length_map List.cons_append List.nil_append List.append_nil List.set_cons_zero List.set_cons_succ List.mem_cons List.not_mem_nil List.getElem?_map List.cons.injEq
attribute [go_sem] true_and and_true false_and and_false and_self or_true true_or or_false false_or not_true_eq_false not_false_eq_true true_implies implies_true false_implies forall_const exists_eq_left exists_eq_right exists_eq_left' exists_eq_right' exists_eq exists_eq' exists_and_left exists_and_right exists_false exists_const eq_self ne_eq Bool.not_true Bool.not_false Bool.true_and Bool.false_and Bool.and_true Bool.and_false Bool.true_or Bool.false_or Bool.or_true Bool.or_false decide_true decide_false Bool.false_eq_true Bool.true_eq_false reduceCtorEq
attribute [go_sem] GV.p.injEq GV.csl.injEq GV.tsl.injEq GV.bp.injEq GV.ep.injEq GV.arr.injEq GV.ap.injEq GV.agg.injEq GV.tup.injEq GV.fn.injEq PV.int.injEq PV.bool.injEq PV.str.injEq PV.sl.injEq PV.pt.injEq Obj'.box.injEq Obj'.tok.injEq Obj'.arr.injEq Sum.inl.injEq Sum.inr.injEq Prod.mk.injEq GE.exit.injEq Option.some.injEq
theorem d_le_succ {d : Nat} : (d ≤ d + 1) = True := by simp
theorem le_self {d : Nat} : (d ≤ d) = True := by simp
theorem succ_not_le {d : Nat} : (d + 1 ≤ d) = False := by simp
theorem lt_succ' {d : Nat} : (d < d + 1) = True := by simp
theorem succ_ne' {d : Nat} : (d + 1 = d) = False := by simp
theorem ne_succ' {d : Nat} : (d = d + 1) = False := by simp
theorem not_lt_self {d : Nat} : (d < d) = False := by simp
attribute [go_sem] d_le_succ le_self succ_not_le lt_succ' succ_ne' ne_succ' not_lt_self
@[go_sem] theorem beq_tt {b : Bool} : (b == true) = b := by cases b <;> rfl
@[go_sem] theorem tt_beq {b : Bool} : (true == b) = b := by cases b <;> rfl
@[go_sem] theorem beq_ff {b : Bool} : (b == false) = !b := by cases b <;> rfl
@[go_sem] theorem ff_beq {b : Bool} : (false == b) = !b := by cases b <;> rfl
@[go_sem] theorem not_not_b {b : Bool} : (!(!b)) = b := by cases b <;> rfl
@[go_sem] theorem wkRs_self {gs : List GV} : wkRs gs gs = True := eq_true (wkRs_refl gs)
@[go_sem] theorem wkR_self {g : GV} : wkR g g = True := eq_true (wkR_refl g)
@[go_sem] theorem wkRs_cons {g r : GV} {gs rs : List GV} : wkRs (g :: gs) (r :: rs) = (wkR g r ∧ wkRs gs rs) := by
  apply propext
  rw [show wkRs (g :: gs) (r :: rs) ↔ ∃ r' rs', r :: rs = r' :: rs' ∧ wkR g r' ∧ wkRs gs rs' from by simp only [wkRs]]
  constructor
  · rintro ⟨r', rs', e, h⟩; cases e; exact h
  · intro h; exact ⟨r, rs, rfl, h⟩
@[go_sem] theorem wkR_agg {gs rs : List GV} : wkR (.agg gs) (.agg rs) = wkRs gs rs := by
  apply propext
  rw [show wkR (.agg gs) (.agg rs) ↔ ∃ rs', GV.agg rs = .agg rs' ∧ wkRs gs rs' from by unfold wkR; rfl]
  constructor
  · rintro ⟨rs', e, h⟩; cases e; exact h
  · intro h; exact ⟨rs, rfl, h⟩
@[go_sem] theorem wkR_p {v : PV} {r : GV} : wkR (.p v) r = (r = .p v) := by unfold wkR; rfl
@[go_sem] theorem wkR_csl {es es' : List (List PV)} : wkR (.csl es) (.p (.sl es')) = (es' = es) := by unfold wkR; simp
@[go_sem] theorem wkR_tsl {es es' : List (List PV)} {κ : Key} : wkR (.tsl es κ) (.p (.sl es')) = (es' = es) := by unfold wkR; simp
@[go_sem] theorem wkR_fn {f : FuncId} {gs : List GV} {r : GV} : wkR (.fn f gs) r = (r = .fn f gs) := by unfold wkR; rfl
@[go_sem] theorem wkR_ep {cs : List PV} {o : Nat} {r : GV} : wkR (.ep cs o) r = (r = .ep cs o) := by unfold wkR; rfl
@[go_sem] theorem wkBs_nil {G : Heap} {d : Nat} : wkBs G d [] [] = True := by unfold wkBs; simp
@[go_sem] theorem wkBs_cons {G : Heap} {d : Nat} {g r : GV} {gs rs : List GV} : wkBs G d (g :: gs) (r :: rs) = (wkB G d g r ∧ wkBs G d gs rs) := by
  apply propext
  rw [show wkBs G d (g :: gs) (r :: rs) ↔ ∃ r' rs', r :: rs = r' :: rs' ∧ wkB G d g r' ∧ wkBs G d gs rs' from by simp only [wkBs]]
  constructor
  · rintro ⟨r', rs', e, h⟩; cases e; exact h
  · intro h; exact ⟨r, rs, rfl, h⟩
@[go_sem] theorem wkB_agg {G : Heap} {d : Nat} {gs rs : List GV} : wkB G d (.agg gs) (.agg rs) = wkBs G d gs rs := by
  apply propext
  rw [show wkB G d (.agg gs) (.agg rs) ↔ ∃ rs', GV.agg rs = .agg rs' ∧ wkBs G d gs rs' from by unfold wkB; rfl]
  constructor
  · rintro ⟨rs', e, h⟩; cases e; exact h
  · intro h; exact ⟨rs, rfl, h⟩
@[go_sem] theorem wkB_fn {G : Heap} {d : Nat} {f f' : FuncId} {gs rs : List GV} : wkB G d (.fn f gs) (.fn f' rs) = (f' = f ∧ wkBs G d gs rs) := by
  apply propext
  rw [show wkB G d (.fn f gs) (.fn f' rs) ↔ ∃ rs', GV.fn f' rs = .fn f rs' ∧ wkBs G d gs rs' from by unfold wkB; rfl]
  constructor
  · rintro ⟨rs', e, h⟩; cases e; exact ⟨rfl, h⟩
  · rintro ⟨rfl, h⟩; exact ⟨rs, rfl, h⟩
@[go_sem] theorem wkB_p {G : Heap} {d : Nat} {v : PV} {r : GV} : wkB G d (.p v) r = (r = .p v) := by unfold wkB; rfl
@[go_sem] theorem wkB_csl {G : Heap} {d : Nat} {es es' : List (List PV)} : wkB G d (.csl es) (.p (.sl es')) = (es' = es) := by unfold wkB; simp
@[go_sem] theorem wkB_tsl {G : Heap} {d : Nat} {κ : Key} {es es' : List (List PV)} : wkB G d (.tsl es κ) (.p (.sl es')) = (es' = es) := by unfold wkB; simp
@[go_sem] theorem wkB_ep {G : Heap} {d : Nat} {cs : List PV} {o : Nat} {r : GV} : wkB G d (.ep cs o) r = (r = .ep cs o) := by unfold wkB; rfl
@[go_sem] theorem wkB_bp {G : Heap} {d : Nat} {κ : Key} {off : Nat} {r : GV} : wkB G d (.bp κ off) r = (κ.1 ≤ d ∧ match get G κ with
    | some (.box cs) => match purs cs with
      | some ps => r = .ep ps off ∨ (off = 0 ∧ r = .p (.pt ps))
      | none => False
    | _ => False) := by unfold wkB; rfl
@[go_sem] theorem wkB_arr {G : Heap} {d : Nat} {κ : Key} {n sz : Nat} {r : GV} : wkB G d (.arr κ n sz) r = (κ.1 ≤ d ∧ match get G κ with
    | some (.arr es) => es.length = n ∧ r = .p (.sl es)
    | _ => False) := by unfold wkB; rfl
section
variable {P : Program} {t : TypeId} {K : GV → Prop}
@[go_sem] theorem gLen_str {s : ByteArray} : gLen P t (.p (.str s)) K = (isStr P t = true ∧ K (.p (.int .i64 s.size))) := rfl
@[go_sem] theorem gLen_sl {es : List (List PV)} : gLen P t (.p (.sl es)) K = (isSl P t = true ∧ K (.p (.int .i64 es.length))) := rfl
@[go_sem] theorem gLen_csl {es : List (List PV)} : gLen P t (.csl es) K = (isSl P t = true ∧ K (.p (.int .i64 es.length))) := rfl
@[go_sem] theorem gLen_tsl {es : List (List PV)} {κ : Key} : gLen P t (.tsl es κ) K = (isSl P t = true ∧ K (.p (.int .i64 es.length))) := rfl
@[go_sem] theorem gLen_arr {κ : Key} {n sz : Nat} : gLen P t (.arr κ n sz) K = (isSl P t = true ∧ K (.p (.int .i64 n))) := rfl
@[go_sem] theorem gIndexAddr_sl {es : List (List PV)} {k : IntKind} {j : Int} : gIndexAddr P t (.p (.sl es)) (.p (.int k j)) K = match elT P t with
    | some (_, n, _) => 0 ≤ j ∧ match es[j.toNat]? with
      | some e => e.length = n ∧ K (.ep e 0)
      | none => False
    | none => False := by
  unfold gIndexAddr
  cases elT P t
  · cases aelT P t <;> rfl
  · rfl
@[go_sem] theorem gIndexAddr_csl {es : List (List PV)} {i : GV} : gIndexAddr P t (.csl es) i K = gIndexAddr P t (.p (.sl es)) i K := by
  unfold gIndexAddr <;> cases elT P t <;> cases i <;> try rfl
  all_goals (rename_i v; cases v <;> try rfl)
  all_goals (cases aelT P t <;> rfl)
@[go_sem] theorem gIndexAddr_tsl {es : List (List PV)} {κ : Key} {i : GV} : gIndexAddr P t (.tsl es κ) i K = gIndexAddr P t (.p (.sl es)) i K := by
  unfold gIndexAddr <;> cases elT P t <;> cases i <;> try rfl
  all_goals (rename_i v; cases v <;> try rfl)
  all_goals (cases aelT P t <;> rfl)
@[go_sem] theorem gIndexAddr_arr {κ : Key} {m sz : Nat} {k : IntKind} {j : Int} : gIndexAddr P t (.arr κ m sz) (.p (.int k j)) K = match elT P t with
    | some (_, n, _) => sz = n ∧ 0 ≤ j ∧ j < m ∧ K (.ap κ m j.toNat 0)
    | none => False := by
  unfold gIndexAddr
  cases elT P t
  · cases aelT P t <;> rfl
  · rfl
@[go_sem] theorem gIndexAddr_bp {κ : Key} {off : Nat} {k : IntKind} {j : Int} : gIndexAddr P t (.bp κ off) (.p (.int k j)) K = match elT P t with
    | some _ => False
    | none => match aelT P t with
      | some (m, n) => 0 ≤ j ∧ j < m ∧ K (.bp κ (off + j.toNat * n))
      | none => False := by
  unfold gIndexAddr
  cases elT P t
  · cases aelT P t <;> rfl
  · rfl
@[go_sem] theorem gSlice_str {s : ByteArray} {lo hi mx : Option GV} : gSlice P t (.p (.str s)) lo hi mx K = (isStr P t = true ∧ mx.isNone = true ∧ match gbound lo 0, gbound hi s.size with
    | some l, some h => 0 ≤ l ∧ l ≤ h ∧ h ≤ s.size ∧ K (.p (.str (s.extract l.toNat h.toNat)))
    | _, _ => False) := rfl
@[go_sem] theorem gSlice_sl {es : List (List PV)} {lo hi : Option GV} : gSlice P t (.p (.sl es)) lo hi none K = match elT P t with
    | some (_, n, _) => sizes es n ∧ match gbound lo 0, gbound hi es.length with
      | some l, some h => 0 ≤ l ∧ l ≤ h ∧ h ≤ es.length ∧ K (.p (.sl ((es.take h.toNat).drop l.toNat)))
      | _, _ => False
    | none => False := by
  unfold gSlice
  cases elT P t
  · rfl
  · simp only [elems]
    cases gbound lo 0 <;> cases gbound hi es.length <;> rfl
@[go_sem] theorem gSlice_csl {es : List (List PV)} {lo hi mx : Option GV} : gSlice P t (.csl es) lo hi mx K = gSlice P t (.p (.sl es)) lo hi mx K := rfl
@[go_sem] theorem gSlice_tsl {es : List (List PV)} {κ : Key} {lo hi mx : Option GV} : gSlice P t (.tsl es κ) lo hi mx K = gSlice P t (.p (.sl es)) lo hi mx K := rfl
@[go_sem] theorem gSlice_arr {κ : Key} {m sz : Nat} {lo hi mx : Option GV} : gSlice P t (.arr κ m sz) lo hi mx K = match elT P t, gbound lo 0, gbound hi m with
    | some (_, n, _), some l, some h => sz = n ∧ mx.isNone = true ∧ 0 ≤ l ∧ l ≤ h ∧ h ≤ m ∧ K (.asl κ m l.toNat h.toNat sz)
    | _, _, _ => False := rfl
@[go_sem] theorem gBin_int {op : BinOp} {k k' : IntKind} {a b : Int} : gBin P op t (.p (.int k a)) (.p (.int k' b)) K = match op with
    | .shl => 0 ≤ b ∧ K (.p (.int k (shlI k a b)))
    | .shr => 0 ≤ b ∧ K (.p (.int k (shrI k a b)))
    | .quo => k = k' ∧ b ≠ 0 ∧ K (.p (.int k (k.wrap (a.tdiv b))))
    | .rem => k = k' ∧ b ≠ 0 ∧ K (.p (.int k (a.tmod b)))
    | op => k = k' ∧ match ibin op k a b with
      | some v => K (.p v)
      | none => False := rfl
@[go_sem] theorem gBin_bool {op : BinOp} {a b : Bool} : gBin P op t (.p (.bool a)) (.p (.bool b)) K = (isBool P t = true ∧ match op with
    | .eql => K (.p (.bool (a == b)))
    | .neq => K (.p (.bool (!(a == b))))
    | _ => False) := rfl
@[go_sem] theorem gBin_str {op : BinOp} {a b : ByteArray} : gBin P op t (.p (.str a)) (.p (.str b)) K = match op with
    | .add => a.size + b.size ≤ 9223372036854775807 ∧ K (.p (.str (a ++ b)))
    | .eql => K (.p (.bool (decide (a = b))))
    | .neq => K (.p (.bool (!decide (a = b))))
    | .lss => K (.p (.bool (Op.bytesLess a.toList b.toList)))
    | _ => False := rfl
@[go_sem] theorem gBin_agg {op : BinOp} {xs ys : List GV} : gBin P op t (.agg xs) (.agg ys) K = match op with
    | .eql => gEqS P t xs ys false K
    | .neq => gEqS P t xs ys true K
    | _ => False := rfl
def ptrBin (P : Program) (op : BinOp) (t : TypeId) (a b : Bool) (K : GV → Prop) : Prop := isPtr P t = true ∧ (a || b) = true ∧ match op with
  | .eql => K (.p (.bool (a && b)))
  | .neq => K (.p (.bool (!(a && b))))
  | _ => False
attribute [go_sem] ptrBin
@[go_sem] theorem gBin_null_null {op : BinOp} : gBin P op t (.p .null) (.p .null) K = ptrBin P op t true true K := rfl
@[go_sem] theorem gBin_bp_null {op : BinOp} {κ : Key} {o : Nat} : gBin P op t (.bp κ o) (.p .null) K = ptrBin P op t false true K := rfl
@[go_sem] theorem gBin_null_bp {op : BinOp} {κ : Key} {o : Nat} : gBin P op t (.p .null) (.bp κ o) K = ptrBin P op t true false K := rfl
@[go_sem] theorem gBin_ep_null {op : BinOp} {cs : List PV} {o : Nat} : gBin P op t (.ep cs o) (.p .null) K = ptrBin P op t false true K := rfl
@[go_sem] theorem gBin_pt_null {op : BinOp} {cs : List PV} : gBin P op t (.p (.pt cs)) (.p .null) K = ptrBin P op t false true K := rfl
@[go_sem] theorem gBin_null_pt {op : BinOp} {cs : List PV} : gBin P op t (.p .null) (.p (.pt cs)) K = ptrBin P op t true false K := rfl
end
@[go_sem] theorem array_get {α : Type} {l : List α} {i : Nat} : l.toArray[i]? = l[i]? := by simp
theorem gCall_eta {A : Ann} {C : Nat → FuncId → List GV → Heap → GV → Heap → Prop} {d d' : Nat} {f : GV} {args : List GV} {t t' : Option Nat} {K : St → Prop} {s : St} {X : Heap} (h : s.G = X) (hK : gCall C A d X f args t (kont d' t' K ⟨s.F, X⟩)) : gCall C A d X f args t (kont d' t' K s) := by
  subst h; exact hK
end Go.Eng
end
