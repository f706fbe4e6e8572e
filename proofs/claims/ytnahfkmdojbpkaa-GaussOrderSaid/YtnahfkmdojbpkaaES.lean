import Derived.Test.YtnahfkmdojbpkaaER
/-! The engine, part S: a call of the machine does what its text says of values. -/
set_option linter.all false
namespace Go.Eng
def codeOK (A : Ann) (N : Nat) : Code → Bool
  | .region _ ops draw => (ops.all fun o => match o.dst with | some t => decide (t < N) | none => true) && (!draw || drawOK A ops)
  | .seq a b => codeOK A N a && codeOK A N b
  | .cond _ a b => codeOK A N a && codeOK A N b
  | .block _ c => codeOK A N c
  | .loop c => codeOK A N c
  | _ => true
/-- A call told by the text, so deep. -/
def EvN (P : Program) (Z : CR) : Nat → CR
  | 0, d, f, args, G, r, G' => Z d f args G r G'
  | n + 1, d, f, args, G, r, G' => Z d f args G r G' ∨ ∃ fn c A, P.funcs[f]? = some fn ∧ fn.body = some c ∧ args.length ≤ fn.ntmps ∧ codeOK A fn.ntmps c = true ∧ (fn.name == "runtime.NumGoroutine") = false ∧
      gwp P (EvN P Z n) A (d + 1) c (callPost P fn d r G') ⟨initF args, cut d G⟩
section
variable {X : XS} {P : Program}
/-- What holds of the caller. -/
structure Base (X : XS) (d : Nat) (G0 : Heap) (R0 : RMap) (w0 : World) (G : Heap) (R : RMap) (w : World) : Prop where
  ext : Ext d (Mem X d G0 R0 w0) G0 R0 (Mem X (d + 1) G R w) G R
  fr : Fr (d + 1) (cut d G0) R0 w0 G R w
section
variable {d : Nat} {G0 : Heap} {R0 : RMap} {w0 : World}
theorem Base.step (G : Heap) (R : RMap) (w : World) (G' : Heap) (R' : RMap) (w' : World) (h : Base X d G0 R0 w0 G R w) (hs : Step X (d + 1) G R w G' R' w') : Base X d G0 R0 w0 G' R' w' :=
  ⟨h.ext.trans (hs.ext.le (Nat.le_succ d)), h.fr.trans hs.fr⟩
theorem Base.clean {ts : List Nat} {G : Heap} {R : RMap} {w : World} (h : Base X d G0 R0 w0 G R w) : Base X d G0 R0 w0 (cleanG (d + 1) ts G) R w := by
  refine ⟨h.ext.trans (clean_Ext (Nat.lt_succ_self d)), ⟨h.fr.size, h.fr.keep, fun κ o hk hg hlt => ?_, h.fr.env⟩⟩
  obtain ⟨o0, h1, _⟩ := get_clean_some hg
  exact h.fr.come κ o0 hk h1 hlt
theorem get_cut (κ : Key) : get (cut d G0) κ = if κ.1 ≤ d then get G0 κ else none := by
  unfold get cut
  split
  · rfl
  · rfl
theorem Sim.cut (hs : Sim X d G0 R0 w0) : Sim X (d + 1) (cut d G0) R0 w0 ∧ Ext d (Mem X d G0 R0 w0) G0 R0 (Mem X (d + 1) (Eng.cut d G0) R0 w0) (Eng.cut d G0) R0 := by
  have some_ : ∀ {κ : Key} {o : Obj'}, get (Eng.cut d G0) κ = some o → κ.1 ≤ d ∧ get G0 κ = some o := fun h => by
    rw [get_cut] at h
    split at h
    · exact ⟨by assumption, h⟩
    · cases h
  have hmem : ∀ b i v, Mem X d G0 R0 w0 b i v → Mem X (d + 1) (Eng.cut d G0) R0 w0 b i v := fun b i v hm =>
    ⟨hm.1, hm.2.1, hm.2.2.1, fun κ o _ hg hb => hm.2.2.2 κ o (some_ hg).1 (some_ hg).2 hb⟩
  have hx : Ext d (Mem X d G0 R0 w0) G0 R0 (Mem X (d + 1) (Eng.cut d G0) R0 w0) (Eng.cut d G0) R0 := by
    have same : ∀ κ : Key, κ.1 ≤ d → get (Eng.cut d G0) κ = get G0 κ := fun κ h => by rw [get_cut, if_pos h]
    exact ⟨hmem, fun κ cs h hg => ⟨⟨cs, by rw [same κ h]; exact hg⟩, rfl⟩, fun κ n sz h hg => ⟨n, by rw [same κ h]; exact hg, Nat.le_refl _, fun _ => rfl⟩, fun κ es h hg => ⟨rfl, es, by rw [same κ h]; exact hg, Nat.le_refl _, fun _ => rfl⟩⟩
  refine ⟨⟨fun κ κ' o o' hk hk' hg hg' hb => hs.inj κ κ' o o' (some_ hg).1 (some_ hg').1 (some_ hg).2 (some_ hg').2 hb, fun κ o hk hg => ?_, hs.off, fun κ o hk hg => hs.apart κ o (some_ hg).1 (some_ hg).2, fun b o htb => ⟨(hs.tab b o htb).1, fun κ o' hk hg => (hs.tab b o htb).2 κ o' (some_ hg).1 (some_ hg).2⟩⟩, hx⟩
  exact (hs.obj κ o (some_ hg).1 (some_ hg).2).ext' (hx.le (some_ hg).1) rfl rfl
theorem Base.start (hs : Sim X d G0 R0 w0) : Base X d G0 R0 w0 (Eng.cut d G0) R0 w0 := ⟨hs.cut.2, Fr.refl _ _ _ _⟩
end

/-! ### The text -/
theorem wkA_VR {M : Nat → Nat → Value → Prop} {G : Heap} {R : RMap} {d : Nat} {g : GV} {v : Value} (b : Bool) (h : VR M G R d g v) : VR M G R d (wkA b g) v := by
  cases b with
  | false => exact h
  | true =>
    cases g <;> first | exact h | skip
    · unfold VR at h; exact VR.p_iff.2 h.1
    · unfold VR at h; exact VR.p_iff.2 h.1
theorem clean_In {d N : Nat} {B : Heap → RMap → World → Prop} {s : St} {a : Act} {w : World} {R : RMap} (hBc : ∀ ts G R w, B G R w → B (cleanG d ts G) R w) (h : In X d N B s a w R) (ts : List Nat) : In X d N B (clean d ts s) a w R := by
  have main : In X d N B (cleanS d ts s) a w R := ⟨clean_Sim h.sim, fun t => wkA_VR _ (poison_VR clean_Mem _ _ (h.fr t)), h.sz, h.df, hBc _ _ _ _ h.base⟩
  cases ts with
  | nil => exact h
  | cons t ts => exact main
def GE.conv : GE → Exit
  | .normal => .normal
  | .exit id => .exit id
  | .ret => .ret
theorem gwp_sound {TB : Nat → Option Obj} {C : CR} (hC : Known P TB C) (hX : Tabs TB X) (hmix : P.follows .mixedOrders = true) {A : Ann} {d N : Nat} {B : Heap → RMap → World → Prop} (hB : ∀ G R w G' R' w', B G R w → Step X d G R w G' R' w' → B G' R' w') (hBc : ∀ ts G R w, B G R w → B (cleanG d ts G) R w) :
    ∀ (c : Code), codeOK A N c = true → ∀ (Qg : GE → St → Prop) (Q : Exit → Act → World → Prop), (∀ e s a w R, Qg e s → In X d N B s a w R → Q e.conv a w) →
      ∀ (s : St) (a : Act) (w : World) (R : RMap), In X d N B s a w R → gwp P C A d c Qg s → c.wp P Q a w
  | .skip, _, Qg, Q, hQ, s, a, w, R, hin, h => wp_skip (hQ .normal s a w R h hin)
  | .region id ops draw, hok, Qg, Q, hQ, s, a, w, R, hin, h => by
    unfold codeOK at hok
    simp only [Bool.and_eq_true] at hok
    have hall : ∀ o ∈ ops, ∀ t, o.dst = some t → t < N := fun o ho t ht => by
      have := Array.all_eq_true_iff_forall_mem.1 hok.1 o ho
      rw [ht] at this
      simpa using this
    have hg : gops P C A d ops ops.toList (Qg .normal) s := h
    cases draw with
    | false =>
      refine wp_region ?_
      have := gops_sound hC hX hB hall (Q := Q) (fun s a w R => hQ .normal s a w R) ops.toList 0 rfl s a w R hin hg
      rwa [List.range_eq_range', ← Array.length_toList]
    | true =>
      have hreg : drawOK A ops = true := by simpa using hok.2
      refine wp_region_any hmix ?_
      have hgr : Grows w w.drew := Grows.drew w
      have hin' : In X d N B s a w.drew R := ⟨hin.sim.grow hgr, fun t => VR.ext (Ext.grow hgr) _ _ (hin.fr t), hin.sz, hin.df, hB _ _ _ _ _ _ hin.base (Step.grow hin.sim hgr)⟩
      have hrem : ((List.range ops.size).filter fun i => !(Array.replicate ops.size false).getD i true) = List.range ops.size := by
        rw [List.filter_eq_self]
        intro i hi
        have : i < ops.size := by simpa using hi
        simp [Array.getD_eq_getD_getElem?, this]
      refine drawn_sound hC hX hB hall hreg (Q := Q) (fun s a w R => hQ .normal s a w R) ops.size (Array.replicate ops.size false) s a w.drew R hin' (by simp) (by rw [hrem]; simp) (fun i o _ hl => ?_) ?_
      · exfalso
        have : (Array.replicate ops.size false).getD i false = false := by
          rw [Array.getD_eq_getD_getElem?, Array.getElem?_replicate]
          split <;> rfl
        have hl' : (Array.replicate ops.size false).getD i false = true := hl
        rw [this] at hl'
        cases hl'
      · rw [hrem, List.range_eq_range', ← Array.length_toList]
        exact gops_gopsI ops.toList 0 rfl s hg
  | .seq x y, hok, Qg, Q, hQ, s, a, w, R, hin, h => by
    unfold codeOK at hok
    simp only [Bool.and_eq_true] at hok
    refine wp_seq (gwp_sound hC hX hmix hB hBc x hok.1 _ _ (fun e s' a' w' R' hq hin' => ?_) s a w R hin h)
    cases e with
    | normal => exact gwp_sound hC hX hmix hB hBc y hok.2 Qg Q hQ s' a' w' R' hin' hq
    | exit id => exact hQ (.exit id) s' a' w' R' hq hin'
    | ret => exact hQ .ret s' a' w' R' hq hin'
  | .cond c x y, hok, Qg, Q, hQ, s, a, w, R, hin, h => by
    unfold codeOK at hok
    simp only [Bool.and_eq_true] at hok
    unfold gwp at h
    have hc := ge_sound hin.fr c
    split at h
    case h_2 => exact h.elim
    rename_i t ht
    rw [ht] at hc
    have hc' := VR.p_iff.1 hc
    unfold PR at hc'
    refine wp_cond_split hc' (fun e => ?_) (fun e => ?_)
    · exact gwp_sound hC hX hmix hB hBc x hok.1 Qg Q hQ s a w R hin (h.1 e)
    · exact gwp_sound hC hX hmix hB hBc y hok.2 Qg Q hQ s a w R hin (h.2 e)
  | .block id c, hok, Qg, Q, hQ, s, a, w, R, hin, h => by
    unfold codeOK at hok
    refine wp_block (gwp_sound hC hX hmix hB hBc c hok _ _ (fun e s' a' w' R' hq hin' => ?_) s a w R hin h)
    cases e with
    | normal => exact hQ .normal s' a' w' R' hq hin'
    | exit k =>
      have hq' : if k = id then Qg .normal s' else Qg (.exit k) s' := hq
      show Exit.inBlock id Q (.exit k) a' w'
      unfold Exit.inBlock
      dsimp only
      split at hq'
      · rename_i e; rw [if_pos e]; exact hQ .normal s' a' w' R' hq' hin'
      · rename_i e; rw [if_neg e]; exact hQ (.exit k) s' a' w' R' hq' hin'
    | ret => exact hQ .ret s' a' w' R' hq hin'
  | .loop c, hok, Qg, Q, hQ, s, a, w, R, hin, h => by
    unfold codeOK at hok
    unfold gwp at h
    obtain ⟨n, h⟩ := h
    have key : ∀ n s a w R, In X d N B s a w R → loopW d (gwp P C A d c) (A.clean (firstId c)) Qg n s → LW P c Q a w := by
      intro n
      induction n with
      | zero => intro s a w R _ h; exact h.elim
      | succ n ih =>
        intro s a w R hin h
        refine LW.step (gwp_sound hC hX hmix hB hBc c hok _ _ (fun e s' a' w' R' hq hin' => ?_) _ a w R (clean_In hBc hin (A.clean (firstId c))) h)
        cases e with
        | normal => exact ih s' a' w' R' hin' hq
        | exit id => exact hQ (.exit id) s' a' w' R' hq hin'
        | ret => exact hQ .ret s' a' w' R' hq hin'
    exact (key n s a w R hin h).wp
  | .exit id, _, Qg, Q, hQ, s, a, w, R, hin, h => wp_exit (hQ (.exit id) s a w R h hin)
  | .ret, _, Qg, Q, hQ, s, a, w, R, hin, h => wp_ret (hQ .ret s a w R h hin)
  | .rangeFunc _ _ _ _, _, _, _, _, _, _, _, _, _, h => h.elim
  | .scope _, _, _, _, _, _, _, _, _, _, h => h.elim
  | .label _, _, _, _, _, _, _, _, _, _, h => h.elim
  | .goto _, _, _, _, _, _, _, _, _, _, h => h.elim
  | .refuse _, _, _, _, _, _, _, _, _, _, h => h.elim

/-! ### What comes back -/
theorem gLoad_ptr {M : Nat → Nat → Value → Prop} {G : Heap} {R : RMap} {d : Nat} {t : TypeId} {g : GV} {x : Value} {K : GV → Prop} (h : gLoad P G t g K) (hv : VR M G R d g x) : ∃ ad, x = .pointer (some ad) := by
  unfold gLoad at h
  split at h
  · unfold VR at hv; exact ⟨_, hv.2.2⟩
  · unfold VR at hv; obtain ⟨b, o, e, _⟩ := hv; exact ⟨_, e⟩
  · have hv := VR.p_iff.1 hv; unfold PR at hv; obtain ⟨b, o, e, _⟩ := hv; exact ⟨_, e⟩
  · unfold VR at hv; obtain ⟨_, _, es, _, _, b, o, e, _⟩ := hv; exact ⟨_, e⟩
  · exact h.elim
def resRun (tmps : Array Value) : ResultVar → Sem Value
  | .tmp t => pure (tmps.getD t undef)
  | .cell a t => do loadVar t (← asAddr (tmps.getD a undef))
theorem ress_sound {d N : Nat} {B : Heap → RMap → World → Prop} {s : St} {a : Act} {w : World} {R : RMap} (hin : In X d N B s a w R) : ∀ (l : List ResultVar) (K : List GV → Prop), ress P s l K →
    ∃ gs vs, K gs ∧ gs.length = l.length ∧ VRs (Mem X d s.G R w) s.G R d gs vs ∧ (l.mapM (resRun a.tmps)).run P w = .ok vs w
  | [], K, h => ⟨[], [], h, rfl, VRs.nil, by simp⟩
  | r :: l, K, h => by
    unfold ress at h
    have one : ∃ g v, (ress P s l fun gs => K (g :: gs)) ∧ VR (Mem X d s.G R w) s.G R d g v ∧ (resRun a.tmps r).run P w = .ok v w := by
      cases r with
      | tmp t => exact ⟨_, _, h, hin.fr t, rfl⟩
      | cell ad t =>
        have h' : gLoad P s.G t (s.F ad) fun g => ress P s l fun gs => K (g :: gs) := h
        obtain ⟨p, hp⟩ := gLoad_ptr h' (hin.fr ad)
        obtain ⟨g, v, h1, h2, h3⟩ := load_sound hin.sim (hin.fr ad) h'
        refine ⟨g, v, h1, h3, ?_⟩
        rw [hp] at h2
        unfold resRun
        dsimp only
        rw [hp]
        simpa [asAddr, Instr.loadAt, Instr.sureAddr] using h2
    obtain ⟨g, v, h1, h2, h3⟩ := one
    obtain ⟨gs, vs, h4, h5, h6, h7⟩ := ress_sound hin l _ h1
    refine ⟨g :: gs, v :: vs, h4, by simp [h5], VRs.cons h2 h6, ?_⟩
    rw [List.mapM_cons]
    simp [h3, h7]
theorem finish {d N : Nat} {G0 : Heap} {R0 : RMap} {w0 : World} (hs0 : Sim X d G0 R0 w0) {t0 : Nat} (hf : G0 d t0 = []) {s : St} {a : Act} {w : World} {R : RMap} (hin : In X (d + 1) N (Base X d G0 R0 w0) s a w R) {fn : Func} {r : GV} {G' : Heap} (hf' : G' d t0 = [])
    (hret : (ress P s fn.results.toList fun gs => ∃ ks, Ret s.G d (match gs with | [g] => g | gs => .tup gs) r [] ks) ∧ ∀ k t, k ≤ d → s.G k t = G' k t) :
    ∃ v R2, (results fn a.tmps).run P w = .ok v w ∧ Step X d G0 R0 w0 (fillKey G' d t0 (adopt d t0 r []).2) R2 w ∧
      VR (Mem X d (fillKey G' d t0 (adopt d t0 r []).2) R2 w) (fillKey G' d t0 (adopt d t0 r []).2) R2 d (adopt d t0 r []).1 v := by
  obtain ⟨hres, hag⟩ := hret
  obtain ⟨gs, vs, ⟨ks, hks⟩, hgl, hvs, hrun⟩ := ress_sound hin _ _ hres
  have hvl := VRs.length hvs
  -- the result
  obtain ⟨v, hv, hrv⟩ : ∃ v, VR (Mem X (d + 1) s.G R w) s.G R (d + 1) (match gs with | [g] => g | gs => .tup gs) v ∧ (results fn a.tmps).run P w = .ok v w := by
    have hr : (results fn a.tmps).run P w = .ok (if h : vs.toArray.size = 1 then vs.toArray[0] else .tuple vs.toArray) w := by
      unfold results
      rw [Sem.run_bind, Array.mapM_eq_mapM_toList]
      rw [Sem.run_map]
      have : ∀ f : ResultVar → Sem Value, (∀ q, f q = resRun a.tmps q) → ((fn.results.toList.mapM f).run P w) = .ok vs w := fun f hq => by rw [show f = resRun a.tmps from funext hq, hrun]
      rw [this _ (fun q => by cases q <;> rfl)]
      rfl
    cases gs with
    | nil => cases vs with
      | nil => exact ⟨_, by unfold VR; exact ⟨[], rfl, hvs⟩, hr⟩
      | cons v vs => simp at hvl
    | cons g gs => cases gs with
      | nil => cases vs with
        | nil => simp at hvl
        | cons v vs => cases vs with
          | nil =>
            unfold VRs at hvs
            exact ⟨v, hvs.1, hr⟩
          | cons v' vs => simp at hvl
      | cons g' gs =>
        refine ⟨.tuple vs.toArray, by unfold VR; exact ⟨vs, rfl, hvs⟩, ?_⟩
        rw [hr, dif_neg (by simp at hvl ⊢; omega)]
  obtain ⟨hadds, hfin⟩ := ret_sound hin.sim (t0 := t0) _ r [] ks v [] hks hv rfl
  generalize hO : (adopt d t0 r []).2 = objs at hadds hfin ⊢
  have hlen : objs.length = ks.length := hadds.len
  have hnd : ks.Nodup := hadds.nodup List.nodup_nil
  have hsrc : ∀ (c : Nat) (o : Obj') (κ : Key), objs[c]? = some o → ks[c]? = some κ → SrcOK s.G R d (d + 1) κ o := fun c o κ ho hk => hadds.new c o κ (Nat.zero_le _) ho hk
  let G2 : Heap := fillKey G' d t0 objs
  let R2 : RMap := fun κ => if κ.1 = d ∧ κ.2.1 = t0 then R (ks.getD κ.2.2 (0, 0, 0)) else R κ
  have hR2n : ∀ c κ, ks[c]? = some κ → R2 (d, t0, c) = R κ := fun c κ hk => by
    show (if d = d ∧ t0 = t0 then R (ks.getD c (0, 0, 0)) else R (d, t0, c)) = R κ
    rw [if_pos ⟨rfl, rfl⟩, List.getD, hk]; rfl
  have hR2o : ∀ κ : Key, ¬ (κ.1 = d ∧ κ.2.1 = t0) → R2 κ = R κ := fun κ h => if_neg h
  have hin0 : ∀ κ o, get G0 κ = some o → ¬ (κ.1 = d ∧ κ.2.1 = t0) := fun κ o hk ⟨e1, e2⟩ => by
    unfold get at hk
    rw [e1, e2, hf] at hk
    simp at hk
  have hagk : ∀ κ : Key, κ.1 ≤ d → get G' κ = get s.G κ := fun κ hk => by unfold get; rw [hag _ _ hk]
  -- what is there now
  have hG2 : ∀ κ o, κ.1 ≤ d → get G2 κ = some o → (∃ c κs, κ = (d, t0, c) ∧ objs[c]? = some o ∧ ks[c]? = some κs ∧ R2 κ = R κs ∧ SrcOK s.G R d (d + 1) κs o) ∨ (¬ (κ.1 = d ∧ κ.2.1 = t0) ∧ get s.G κ = some o ∧ R2 κ = R κ) := fun κ o hk hg => by
    have hg' : get (fillKey G' d t0 objs) κ = some o := hg
    rw [get_fillKey] at hg'
    split at hg'
    · rename_i e
      obtain ⟨k1, c1, c2⟩ := κ
      simp only at e hg'
      obtain ⟨rfl, rfl⟩ := e
      have hlt : c2 < ks.length := by have := (List.getElem?_eq_some_iff.1 hg').1; omega
      have hkc := List.getElem?_eq_getElem hlt
      exact .inl ⟨c2, _, rfl, hg', hkc, hR2n c2 _ hkc, hsrc _ _ _ hg' hkc⟩
    · rename_i e
      exact .inr ⟨e, by rw [← hagk κ hk]; exact hg', hR2o κ e⟩
  have hsome : ∀ {κ : Key} {o : Obj'}, SrcOK s.G R d (d + 1) κ o → ∃ o', get s.G κ = some o' ∧ d < κ.1 ∧ κ.1 ≤ d + 1 := fun {κ o} h => by
    cases o with
    | tok n sz =>
      obtain ⟨h1, h2 | ⟨es, h2, _⟩⟩ := h
      · exact ⟨_, h2, h1⟩
      · exact ⟨_, h2, h1⟩
    | box cs => obtain ⟨h1, cs', h2, _⟩ := h; exact ⟨_, h2, h1⟩
    | arr es => exact ⟨_, h.2, h.1⟩
  have hmem : ∀ b i v, Mem X (d + 1) s.G R w b i v → Mem X d G2 R2 w b i v := fun b i v hm => by
    refine ⟨hm.1, hm.2.1, hm.2.2.1, fun κ o hk hg hb => ?_⟩
    rcases hG2 κ o hk hg with ⟨c, κs, rfl, _, _, hR, hso⟩ | ⟨_, h1, hR⟩
    · rw [hR] at hb ⊢
      cases o with
      | tok n sz =>
        obtain ⟨⟨h1, h1'⟩, h2 | ⟨es, h2, _⟩⟩ := hso
        · exact hm.2.2.2 κs _ h1' h2 hb
        · obtain ⟨n', sz', h3, _⟩ := hm.2.2.2 κs _ h1' h2 hb
          cases h3
      | box cs =>
        obtain ⟨⟨_, h1'⟩, cs', h2, _⟩ := hso
        obtain ⟨n', sz', h3, _⟩ := hm.2.2.2 κs _ h1' h2 hb
        cases h3
      | arr es =>
        obtain ⟨n', sz', h3, _⟩ := hm.2.2.2 κs _ hso.1.2 hso.2 hb
        cases h3
    · rw [hR] at hb ⊢
      exact hm.2.2.2 κ o (Nat.le_succ_of_le hk) h1 hb
  have hext : Ext d (Mem X d G0 R0 w0) G0 R0 (Mem X d G2 R2 w) G2 R2 := by
    have key : ∀ κ o, κ.1 ≤ d → get G0 κ = some o → ∀ o', get s.G κ = some o' → get G2 κ = some o' ∧ R2 κ = R κ := fun κ o hk hg o' ho' => by
      have hn := hin0 κ o hg
      refine ⟨?_, hR2o κ hn⟩
      show get (fillKey G' d t0 objs) κ = some o'
      rw [get_fillKey, if_neg hn, hagk κ hk, ho']
    refine ⟨fun b i v hm => hmem b i v (hin.base.ext.mem b i v hm), fun κ cs hk hg => ?_, fun κ n sz hk hg => ?_, fun κ es hk hg => ?_⟩
    · obtain ⟨⟨cs', h1⟩, h2⟩ := hin.base.ext.box κ cs hk hg
      obtain ⟨h3, h4⟩ := key κ _ hk hg _ h1
      exact ⟨⟨cs', h3⟩, h4.trans h2⟩
    · obtain ⟨n', h1, h2, h3⟩ := hin.base.ext.tok κ n sz hk hg
      obtain ⟨h4, h5⟩ := key κ _ hk hg _ h1
      exact ⟨n', h4, h2, fun e => h5.trans (h3 e)⟩
    · obtain ⟨h0, es', h1, h1', h2⟩ := hin.base.ext.arr κ es hk hg
      obtain ⟨h3, h4⟩ := key κ _ hk hg _ h1
      exact ⟨by rw [h4]; exact h0, es', h3, h1', fun e => h4.trans (h2 e)⟩
  -- from the call's own state
  have hst0 : s.G d t0 = [] := by rw [hag d t0 (Nat.le_refl d)]; exact hf'
  have hnot : ∀ κ o, get s.G κ = some o → ¬ (κ.1 = d ∧ κ.2.1 = t0) := fun κ o hk ⟨e1, e2⟩ => by
    unfold get at hk
    rw [e1, e2, hst0] at hk
    simp at hk
  have hext2 : Ext d (Mem X (d + 1) s.G R w) s.G R (Mem X d G2 R2 w) G2 R2 := by
    have key : ∀ κ o, κ.1 ≤ d → get s.G κ = some o → get G2 κ = some o ∧ R2 κ = R κ := fun κ o hk hg => by
      have hn := hnot κ o hg
      refine ⟨?_, hR2o κ hn⟩
      show get (fillKey G' d t0 objs) κ = some o
      rw [get_fillKey, if_neg hn, hagk κ hk, hg]
    exact ⟨hmem, fun κ cs hk hg => ⟨⟨cs, (key κ _ hk hg).1⟩, (key κ _ hk hg).2⟩, fun κ n sz hk hg => ⟨n, (key κ _ hk hg).1, Nat.le_refl _, fun _ => (key κ _ hk hg).2⟩, fun κ es hk hg => ⟨by rw [(key κ _ hk hg).2], es, (key κ _ hk hg).1, Nat.le_refl _, fun _ => (key κ _ hk hg).2⟩⟩
  have hinj2 : ∀ κ κ' o o', κ.1 ≤ d → κ'.1 ≤ d → get G2 κ = some o → get G2 κ' = some o' → (R2 κ).b = (R2 κ').b → κ = κ' := fun κ κ' o o' hk hk' hg hg' hb => by
    rcases hG2 κ o hk hg with ⟨c, κs, rfl, ho, hkc, hR, hso⟩ | ⟨hn, h1, hR⟩ <;> rcases hG2 κ' o' hk' hg' with ⟨c', κs', rfl, ho', hkc', hR', hso'⟩ | ⟨hn', h1', hR'⟩
    · rw [hR, hR'] at hb
      obtain ⟨o1, h1, h2, h3⟩ := hsome hso
      obtain ⟨o2, h4, h5, h6⟩ := hsome hso'
      have := hin.sim.inj κs κs' o1 o2 h3 h6 h1 h4 hb
      subst this
      have hcc : c = c' := by
        exact (List.getElem?_inj (List.getElem?_eq_some_iff.1 hkc).1 hnd).1 (hkc.trans hkc'.symm)
      rw [hcc]
    · rw [hR, hR'] at hb
      obtain ⟨o1, h1, h2, h3⟩ := hsome hso
      have := hin.sim.inj κs κ' o1 o' h3 (Nat.le_succ_of_le hk') h1 h1' hb
      subst this
      omega
    · rw [hR, hR'] at hb
      obtain ⟨o2, h4, h5, h6⟩ := hsome hso'
      have := hin.sim.inj κ κs' o o2 (Nat.le_succ_of_le hk) h6 h1 h4 hb
      subst this
      omega
    · rw [hR, hR'] at hb
      exact hin.sim.inj κ κ' o o' (Nat.le_succ_of_le hk) (Nat.le_succ_of_le hk') h1 h1' hb
  have htakes : Takes X (d + 1) s.G R w d t0 objs ks (Mem X d G2 R2 w) G2 R2 := by
    refine ⟨hext2, fun c => ?_, hR2n, fun c κ es n sz hkc hoc hge hn hsz i v hi hcell hone => ⟨hcell, hone, ?_, fun κ' o' hk' hg' hb' => ?_⟩⟩
    · show get (fillKey G' d t0 objs) (d, t0, c) = objs[c]?
      rw [get_fillKey, if_pos ⟨rfl, rfl⟩]
    · obtain ⟨o1, h1, h2, h3⟩ := hsome (hsrc c _ κ hoc hkc)
      exact hin.sim.apart κ o1 h3 h1 i
    · have hgc : get G2 (d, t0, c) = some (.tok n sz) := by
        show get (fillKey G' d t0 objs) (d, t0, c) = _
        rw [get_fillKey, if_pos ⟨rfl, rfl⟩]; exact hoc
      have := hinj2 κ' (d, t0, c) o' _ hk' (Nat.le_refl d) hg' hgc (by rw [hb', hR2n c κ hkc])
      subst this
      rw [hgc] at hg'
      cases hg'
      rw [hR2n c κ hkc]
      exact ⟨n, sz, rfl, by rw [hsz]; exact hi⟩
  have hsim2 : Sim X d G2 R2 w := by
    refine ⟨hinj2, fun κ o hk hg => ?_, hin.sim.off, fun κ o hk hg i hX => ?_, fun b o htb => ⟨(hin.sim.tab b o htb).1, fun κ o' hk hg hbb => ?_⟩⟩
    · rcases hG2 κ o hk hg with ⟨c, κs, rfl, ho, hkc, hR, hso⟩ | ⟨hn, h1, hR⟩
      · cases o with
        | tok n sz =>
          obtain ⟨⟨h1, h1'⟩, h2 | ⟨es, h2, h3, h4⟩⟩ := hso
          · have := hin.sim.obj κs _ h1' h2
            unfold OK at this ⊢
            rw [hR]; exact this
          · obtain ⟨cs, T, h5, h6, h7, _⟩ := hin.sim.obj κs _ h1' h2
            unfold OK
            rw [hR]
            exact ⟨⟨cs, T, h5, by rw [← h3]; exact h6, h7⟩, h4⟩
        | box cs' =>
          obtain ⟨⟨h1, h1'⟩, cs, h2, h3⟩ := hso
          obtain ⟨vs', T, h5, h6, h7⟩ := hin.sim.obj κs _ h1' h2
          unfold OK
          rw [hR]
          refine ⟨vs', T, h5, h6, ?_⟩
          have weak1 : ∀ (g q : GV) (x : Value), weak d g q → VR (Mem X (d + 1) s.G R w) s.G R κs.1 g x → VR (Mem X d G2 R2 w) G2 R2 d q x := fun g q x hw hv => by
            have hv0 := hv
            cases g <;> unfold weak at hw <;> try exact hw.elim
            case p v => subst hw; unfold VR at hv ⊢; exact PR.mono hmem _ _ hv
            case csl es => rcases hw with rfl | rfl <;> unfold VR at hv ⊢ <;> first | exact ⟨PR.mono hmem _ _ hv.1, hv.2⟩ | exact PR.mono hmem _ _ hv.1
            case tsl es κ => rcases hw with rfl | ⟨rfl, hd⟩
                             · unfold VR at hv ⊢; exact PR.mono hmem _ _ hv.1
                             · exact VR.ext hext2 _ _ (okd_VR _ _ (by unfold okd; exact hd) hv0)
            case bp κ off => obtain ⟨rfl, hd⟩ := hw; exact VR.ext hext2 _ _ (okd_VR _ _ (by unfold okd; exact hd) hv0)
            case ep => subst hw; unfold VR at hv ⊢; obtain ⟨b, o, h1, h2⟩ := hv; exact ⟨b, o, h1, PRs.mono hmem _ _ _ h2⟩
            case fn => obtain ⟨rfl, hd⟩ := hw; exact VR.ext hext2 _ _ (okd_VR _ _ (by unfold okd; exact hd) hv0)
          have weakL : ∀ (gs qs : List GV) (xs : List Value), weaks d gs qs → VRs (Mem X (d + 1) s.G R w) s.G R κs.1 gs xs → VRs (Mem X d G2 R2 w) G2 R2 d qs xs := by
            intro gs
            induction gs with
            | nil => intro qs xs hw hv; unfold weaks at hw; subst hw; have := VRs.length hv; cases xs with
              | nil => exact VRs.nil
              | cons x xs => simp at this
            | cons g gs ih =>
              intro qs xs hw hv
              cases qs with
              | nil => exact hw.elim
              | cons q qs => cases xs with
                | nil => unfold VRs at hv; exact hv.elim
                | cons x xs =>
                  unfold weaks at hw
                  unfold VRs at hv
                  exact VRs.cons (weak1 g q x hw.1 hv.1) (ih qs xs hw.2 hv.2)
          exact weakL cs cs' _ h3 h7
        | arr es =>
          obtain ⟨vs', T, h5, h6, h7, h8⟩ := hin.sim.obj κs _ hso.1.2 hso.2
          unfold OK
          rw [hR]
          refine ⟨vs', T, h5, h6, h7, fun i e hi => ⟨(h8 i e hi).1, fun j c hj => ?_⟩⟩
          obtain ⟨v, h9, h10, h11⟩ := (h8 i e hi).2 j c hj
          exact ⟨v, h9, h10, PR.mono hmem _ _ h11⟩
      · exact (hin.sim.obj κ o (Nat.le_succ_of_le hk) h1).ext' (hext2.le hk) hR rfl
    · rcases hG2 κ o hk hg with ⟨c, κs, rfl, ho, hkc, hR, hso⟩ | ⟨hn, h1, hR⟩
      · obtain ⟨o1, h1, h2, h3⟩ := hsome hso
        rw [hR] at hX
        exact hin.sim.apart κs o1 h3 h1 i hX
      · rw [hR] at hX
        exact hin.sim.apart κ o (Nat.le_succ_of_le hk) h1 i hX
    · rcases hG2 κ o' hk hg with ⟨c, κs, rfl, ho, hkc, hR, hso⟩ | ⟨hn, h1, hR⟩
      · obtain ⟨o1, h1, h2, h3⟩ := hsome hso
        rw [hR] at hbb
        exact (hin.sim.tab b o htb).2 κs o1 h3 h1 hbb
      · rw [hR] at hbb
        exact (hin.sim.tab b o htb).2 κ o' (Nat.le_succ_of_le hk) h1 hbb
  have hcome : ∀ κ o, κ.1 ≤ d + 1 → get s.G κ = some o → (R κ).b < w0.heap.size → ∃ κ' o', κ'.1 ≤ d ∧ get G0 κ' = some o' ∧ (R0 κ').b = (R κ).b := fun κ o hk hg hlt => by
    obtain ⟨κ', o', h1, h2, h3⟩ := hin.base.fr.come κ o hk hg hlt
    rw [get_cut] at h2
    split at h2
    · exact ⟨κ', o', by assumption, h2, h3⟩
    · cases h2
  refine ⟨v, R2, hrv, ⟨hsim2, hext, ⟨hin.base.fr.size, fun b hb hn => hin.base.fr.keep b hb fun κ o hk hg => ?_, fun κ o hk hg hlt => ?_, hin.base.fr.env⟩⟩, hfin objs ks _ G2 R2 (fun _ _ h => h) (fun _ _ h => h) htakes⟩
  · rw [get_cut] at hg
    split at hg
    · exact hn κ o (by assumption) hg
    · cases hg
  · rcases hG2 κ o hk hg with ⟨c, κs, rfl, ho, hkc, hR, hso⟩ | ⟨hn, h1, hR⟩
    · obtain ⟨o1, h1, h2, h3⟩ := hsome hso
      rw [hR] at hlt ⊢
      exact hcome κs o1 h3 h1 hlt
    · rw [hR] at hlt ⊢
      exact hcome κ o (Nat.le_succ_of_le hk) h1 hlt

/-! ### A call -/
theorem initF_VR {M : Nat → Nat → Value → Prop} {G : Heap} {R : RMap} {d n : Nat} : ∀ {args : List GV} {vals : List Value}, VRs M G R d args vals → ∀ t, VR M G R d (initF args t) ((vals.toArray ++ Array.replicate n undef).getD t undef) := fun {args vals} h t => by
  unfold initF
  rw [Array.getD_eq_getD_getElem?, List.getD]
  cases ha : args[t]? with
  | none => rw [Option.getD_none]; unfold VR; trivial
  | some g =>
    obtain ⟨v, hv1, hv2⟩ := VRs.get h ha
    have hlt := (List.getElem?_eq_some_iff.1 hv1).1
    rw [Array.getElem?_append_left (by simpa using hlt)]
    have : vals.toArray[t]? = some v := by simpa using hv1
    rw [this]; exact hv2
theorem known_EvN {TB : Nat → Option Obj} {Z : CR} (hZ : Known P TB Z) (hmix : P.follows .mixedOrders = true) : ∀ n, Known P TB (EvN P Z n)
  | 0 => hZ
  | n + 1 => by
    intro d f args G0 r G' h
    unfold EvN at h
    rcases h with h | ⟨fn, c, A, hfn, hc, hlen, hok, hname, hg⟩
    · exact hZ d f args G0 r G' h
    · intro X R0 w0 vals hX hs0 hvals t0 hf hf'
      refine .inl ⟨⟨fn, hfn, by rw [hc]; rfl, hname⟩, ?_⟩
      have hvl := VRs.length hvals
      refine calls_of_wp hfn hc ?_
      have hin : In X (d + 1) fn.ntmps (Base X d G0 R0 w0) ⟨initF args, cut d G0⟩ { tmps := vals.toArray ++ Array.replicate (fn.ntmps - vals.toArray.size) undef, defers := [] } w0 R0 := by
        obtain ⟨h1, h2⟩ := hs0.cut
        refine ⟨h1, fun t => initF_VR (n := fn.ntmps - vals.toArray.size) (VRs.deeper (Nat.le_succ d) _ _ (VRs.ext h2 _ _ hvals)) t, ?_, rfl, Base.start hs0⟩
        simp; omega
      refine gwp_sound (known_EvN hZ hmix n) hX hmix Base.step (fun ts G R w hb => hb.clean) c hok _ _ (fun e s a w R hq hin' => ?_) _ _ _ _ hin hg
      cases e with
      | exit id => exact hq.elim
      | normal =>
        obtain ⟨v, R2, hr, hst, hv⟩ := finish hs0 hf hin' hf' hq
        exact ⟨hin'.df, v, hr, v, rfl, R2, hst, hv⟩
      | ret =>
        obtain ⟨v, R2, hr, hst, hv⟩ := finish hs0 hf hin' hf' hq
        exact ⟨hin'.df, v, hr, v, rfl, R2, hst, hv⟩
end
end Go.Eng
