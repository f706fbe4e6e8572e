import Derived.WalkKit
import Derived.Test.YtfcehcjhilmlgaaSc2
section
set_option linter.all false
namespace Go.Eng
def Tel (P : Program) (TB : Nat → Option Obj) : CR := fun d f args G r G' => ∃ C, Known P TB C ∧ C d f args G r G'
theorem known_Tel {P : Program} {TB : Nat → Option Obj} : Known P TB (Tel P TB) := fun d f args G r G' ⟨_, hC, h⟩ => hC d f args G r G' h
theorem Tel.intro {P : Program} {TB : Nat → Option Obj} (hmix : P.follows .mixedOrders = true) {d : Nat} {f : FuncId} {args : List GV} {G : Heap} {r : GV} {G' : Heap} {fn : Func} {c : Code} (hfn : P.funcs[f]? = some fn) (hc : fn.body = some c) (hlen : args.length ≤ fn.ntmps)
    (A : Ann) (hok : codeOK A fn.ntmps c = true) (hname : (fn.name == "runtime.NumGoroutine") = false) (h : gwp P (Tel P TB) A (d + 1) c (callPost P fn d r G') ⟨initF args, cut d G⟩) : Tel P TB d f args G r G' :=
  ⟨EvN P (Tel P TB) 1, known_EvN known_Tel hmix 1, .inr ⟨fn, c, A, hfn, hc, hlen, hok, hname, h⟩⟩
def nopK (K : GV → Dl → Prop) (v : GV) : Prop := K v .nop
def undK (K : GV → Dl → Prop) (δ : Dl) : Prop := K .undef δ
def kont (d : Nat) (dst : Option Nat) (K : St → Prop) (s : St) (v : GV) (δ : Dl) : Prop := K ⟨put s.F dst v, appD s.G d dst δ⟩
def guardB (b want : Bool) (Y N : Unit → Prop) : Prop := (b = want → Y ()) ∧ (b = (!want) → N ())
def guardV (g : GV) (want : Bool) (Y N : Unit → Prop) : Prop := match g with
  | .p (.bool b) => guardB b want Y N
  | .tup [] => N ()
  | _ => False
def guardT (F : Nat → GV) (t : Option Nat) (want : Bool) (Y N : Unit → Prop) : Prop := match t with
  | some t => guardV (F t) want Y N
  | none => False
def condV (g : GV) (X Y : Unit → Prop) : Prop := match g with
  | .p (.bool b) => guardB b true X Y
  | _ => False
section
variable (P : Program) (C : CR) (A : Ann) (d : Nat)
def gopT (o : Oper) (K : St → Prop) (s : St) (_ : Unit) : Prop := gop P C A d o s.F s.G (kont d o.dst K s)
def skipT (dst : Option Nat) (K : St → Prop) (s : St) (_ : Unit) : Prop := K ⟨put s.F dst (.tup []), s.G⟩
def gwpT (c : Code) (Q : GE → St → Prop) (s : St) (_ : Unit) : Prop := gwp P C A d c Q s
def pickK (K : GV → Dl → Prop) (v : GV) (_ : Unit) : Prop := K v .nop
def agree (d : Nat) (G G' : Heap) : Prop := ∀ k t, k ≤ d → G k t = G' k t
def retK (d : Nat) (r : GV) (G : Heap) (gs : List GV) : Prop := ∃ ks, Ret G d (match gs with | [g] => g | gs => .tup gs) r [] ks
def resK (s : St) (rs : List ResultVar) (K : List GV → Prop) (g : GV) : Prop := ress P s rs fun gs => K (g :: gs)
def consK (K : List GV → Prop) (g : GV) (gs : List GV) : Prop := K (g :: gs)
variable {P C A d}
theorem gops_nil {all : Array Oper} {K : St → Prop} {s : St} : gops P C A d all [] K s = K s := rfl
theorem gops_cons {all : Array Oper} {o : Oper} {os : List Oper} {K : St → Prop} {s : St} : gops P C A d all (o :: os) K s = gop1 P C A d all o (gops P C A d all os K) s := rfl
theorem gop1_none {all : Array Oper} {dst op ty pos after} {K : St → Prop} {s : St} : gop1 P C A d all ⟨dst, op, ty, pos, after, none⟩ K s = gop P C A d ⟨dst, op, ty, pos, after, none⟩ s.F s.G (kont d dst K s) := rfl
theorem gop1_some {all : Array Oper} {dst op ty pos after j want} {K : St → Prop} {s : St} : gop1 P C A d all ⟨dst, op, ty, pos, after, some (j, want)⟩ K s =
    guardT s.F ((all[j]?).bind (·.dst)) want (gopT P C A d ⟨dst, op, ty, pos, after, some (j, want)⟩ K s) (skipT dst K s) := rfl
theorem guardT_some {F : Nat → GV} {t : Nat} {want : Bool} {Y N : Unit → Prop} : guardT F (some t) want Y N = guardV (F t) want Y N := rfl
theorem guardV_bool {b want : Bool} {Y N : Unit → Prop} : guardV (.p (.bool b)) want Y N = guardB b want Y N := rfl
theorem guardV_und {want : Bool} {Y N : Unit → Prop} : guardV (.tup []) want Y N = N () := rfl
theorem guardB_tt {Y N : Unit → Prop} : guardB true true Y N = Y () := by simp [guardB]
theorem guardB_tf {Y N : Unit → Prop} : guardB true false Y N = N () := by simp [guardB]
theorem guardB_ft {Y N : Unit → Prop} : guardB false true Y N = N () := by simp [guardB]
theorem guardB_ff {Y N : Unit → Prop} : guardB false false Y N = Y () := by simp [guardB]
theorem gopT_app {o : Oper} {K : St → Prop} {s : St} {u : Unit} : gopT P C A d o K s u = gop P C A d o s.F s.G (kont d o.dst K s) := rfl
theorem skipT_app {dst : Option Nat} {K : St → Prop} {s : St} {u : Unit} : skipT dst K s u = K ⟨put s.F dst (.tup []), s.G⟩ := rfl
theorem gwpT_app {c : Code} {Q : GE → St → Prop} {s : St} {u : Unit} : gwpT P C A d c Q s u = gwp P C A d c Q s := rfl
theorem kont_app {dst : Option Nat} {K : St → Prop} {s : St} {v : GV} {δ : Dl} : kont d dst K s v δ = K ⟨put s.F dst v, appD s.G d dst δ⟩ := rfl
theorem nopK_app {K : GV → Dl → Prop} {v : GV} : nopK K v = K v .nop := rfl
theorem undK_app {K : GV → Dl → Prop} {δ : Dl} : undK K δ = K .undef δ := rfl
theorem pickK_app {K : GV → Dl → Prop} {v : GV} {u : Unit} : pickK K v u = K v .nop := rfl
section
variable {dst : Option Nat} {ty : TypeId} {pos : String} {after : Array Edge} {guard : Option (Nat × Bool)} {F : Nat → GV} {G : Heap} {K : GV → Dl → Prop}
theorem gop_move {x} : gop P C A d ⟨dst, .move x, ty, pos, after, guard⟩ F G K = K (ge F x) .nop := rfl
theorem gop_assign {x} : gop P C A d ⟨dst, .assign x, ty, pos, after, guard⟩ F G K = K (wkA (dstIn A.pureAt dst) (ge F x)) .nop := rfl
theorem wkA_false {g : GV} : wkA false g = g := rfl
theorem gop_pick {c a b} : gop P C A d ⟨dst, .pick c a b, ty, pos, after, guard⟩ F G K = condV (ge F c) (pickK K (ge F a)) (pickK K (ge F b)) := by
  rfl
theorem gop_alloc {t zs} (hz : zc P t = some zs) : gop P C A d ⟨dst, .alloc t, ty, pos, after, guard⟩ F G K = (free G d dst ∧ K (.bp (d, dst.getD 0, 0) 0) (.fill [.box (zs.map cv1)])) := by
  unfold gop; dsimp only; rw [hz]
theorem gop_box {t x} : gop P C A d ⟨dst, .box t x, ty, pos, after, guard⟩ F G K = match gcells (ge F x) with
  | some cs => if dstIn A.frzAt dst then (match purs cs with | some ps => K (.ep ps 0) .nop | none => False) else free G d dst ∧ K (.bp (d, dst.getD 0, 0) 0) (.fill [.box cs])
  | none => False := rfl
theorem gop_build {t ps} : gop P C A d ⟨dst, .build t ps, ty, pos, after, guard⟩ F G K = gBuild P t (ps.toList.map fun q => (q.1, ge F q.2)) (nopK K) := rfl
theorem gop_buildSlice {t n ps} : gop P C A d ⟨dst, .buildSlice t n ps, ty, pos, after, guard⟩ F G K = gBuildSlice P A d t n (ps.toList.map fun q => (q.1, ge F q.2)) K dst G := rfl
theorem gop_load {t a} : gop P C A d ⟨dst, .load t a, ty, pos, after, guard⟩ F G K = (boxC A d a (ge F a) ∧ wkC P A t a (ge F a) ∧ gLoad P G t (ge F a) (nopK K)) := rfl
theorem gop_store {t a v} : gop P C A d ⟨dst, .store t a v, ty, pos, after, guard⟩ F G K = (boxC A d a (ge F a) ∧ gStore P G t (ge F a) (ge F v) (undK K)) := rfl
theorem gop_nil {x} : gop P C A d ⟨dst, .nilCheck x, ty, pos, after, guard⟩ F G K = match ge F x with
    | .bp κ off => K (.bp κ off) .nop
    | .ep cs off => K (.ep cs off) .nop
    | .ap κ m i off => K (.ap κ m i off) .nop
    | .p (.pt cs) => K (.p (.pt cs)) .nop
    | .fn f cs => K (.fn f cs) .nop
    | _ => False := rfl
theorem gop_bin {op t x y u} : gop P C A d ⟨dst, .binOp op t x y u, ty, pos, after, guard⟩ F G K = gBin P op t (ge F x) (ge F y) (nopK K) := rfl
theorem gop_un {op t x} : gop P C A d ⟨dst, .unOp op t x, ty, pos, after, guard⟩ F G K = gUn op (ge F x) (nopK K) := rfl
theorem gop_conv {a b x} : gop P C A d ⟨dst, .convert a b x, ty, pos, after, guard⟩ F G K = gConv P a b (ge F x) (nopK K) := rfl
theorem gop_fn {f first caps} : gop P C A d ⟨dst, .makeFunc (.func f) first caps, ty, pos, after, guard⟩ F G K = (first.size = 0 ∧ K (.fn f (caps.toList.map (ge F))) .nop) := rfl
theorem gop_slice {t x lo hi mx} : gop P C A d ⟨dst, .slice t x lo hi mx, ty, pos, after, guard⟩ F G K = gSlice P t (ge F x) (lo.map (ge F)) (hi.map (ge F)) (mx.map (ge F)) (nopK K) := rfl
theorem gop_fieldAddr {t x k} : gop P C A d ⟨dst, .fieldAddr t x k, ty, pos, after, guard⟩ F G K = gFieldAddr P t (ge F x) k (nopK K) := rfl
theorem gop_field {t x k} : gop P C A d ⟨dst, .field t x k, ty, pos, after, guard⟩ F G K = gField P t (ge F x) k (nopK K) := rfl
theorem gop_indexAddr {t x i} : gop P C A d ⟨dst, .indexAddr t x i, ty, pos, after, guard⟩ F G K = gIndexAddr P t (ge F x) (ge F i) (nopK K) := rfl
theorem gop_index {t x i} : gop P C A d ⟨dst, .index t x i, ty, pos, after, guard⟩ F G K = gIndex P t (ge F x) (ge F i) (nopK K) := rfl
theorem gop_extract {x k} : gop P C A d ⟨dst, .extract x k, ty, pos, after, guard⟩ F G K = match ge F x with
    | .tup vs => match vs[k]? with
      | some v => K v .nop
      | none => False
    | _ => False := rfl
theorem gop_call {f args ts} : gop P C A d ⟨dst, .call ⟨.value f, args, ts⟩, ty, pos, after, guard⟩ F G K = gCall C A d G (ge F f) (args.toList.map (ge F)) dst K := rfl
theorem gop_len {x t} : gop P C A d ⟨dst, .call ⟨.builtin .len, #[x], #[t]⟩, ty, pos, after, guard⟩ F G K = gLen P t (ge F x) (nopK K) := rfl
theorem gop_append {x y t u} : gop P C A d ⟨dst, .call ⟨.builtin .append, #[x, y], #[t, u]⟩, ty, pos, after, guard⟩ F G K = (appC A d dst (ge F x) (ge F y) ∧ gAppend P A d G t u (ge F x) (ge F y) dst K) := rfl
theorem gop_copy {x y t u} : gop P C A d ⟨dst, .call ⟨.builtin .copy, #[x, y], #[t, u]⟩, ty, pos, after, guard⟩ F G K = gCopy P G t u (ge F x) (ge F y) K := rfl
theorem gop_make {t l c} : gop P C A d ⟨dst, .makeSlice t l c, ty, pos, after, guard⟩ F G K = gMake P A d t (ge F l) (ge F c) dst G K := rfl
theorem gop_min {args ts} : gop P C A d ⟨dst, .call ⟨.builtin .min, args, ts⟩, ty, pos, after, guard⟩ F G K = match gMin true (args.toList.map (ge F)) with
    | some v => K v .nop
    | none => False := rfl
theorem gop_max {args ts} : gop P C A d ⟨dst, .call ⟨.builtin .max, args, ts⟩, ty, pos, after, guard⟩ F G K = match gMin false (args.toList.map (ge F)) with
    | some v => K v .nop
    | none => False := rfl
end
section
variable {Q : GE → St → Prop} {s : St}
theorem gwp_skip : gwp P C A d .skip Q s = Q .normal s := rfl
theorem gwp_region {id ops draw} : gwp P C A d (.region id ops draw) Q s = gops P C A d ops ops.toList (Q .normal) s := rfl
theorem gwp_seq {x y} : gwp P C A d (.seq x y) Q s = gwp P C A d x (GE.then (gwp P C A d y Q) Q) s := rfl
theorem gwp_cond {c x y} : gwp P C A d (.cond c x y) Q s = condV (ge s.F c) (gwpT P C A d x Q s) (gwpT P C A d y Q s) := by
  rfl
theorem gwp_block {id c} : gwp P C A d (.block id c) Q s = gwp P C A d c (GE.inBlock id Q) s := rfl
theorem gwp_exit {id} : gwp P C A d (.exit id) Q s = Q (.exit id) s := rfl
theorem gwp_ret : gwp P C A d .ret Q s = Q .ret s := rfl
theorem then_normal {next : St → Prop} : GE.then next Q .normal s = next s := rfl
theorem then_exit {next : St → Prop} {id} : GE.then next Q (.exit id) s = Q (.exit id) s := rfl
theorem then_ret {next : St → Prop} : GE.then next Q .ret s = Q .ret s := rfl
theorem block_normal {id} : GE.inBlock id Q .normal s = Q .normal s := rfl
theorem block_ret {id} : GE.inBlock id Q .ret s = Q .ret s := rfl
theorem block_exit {id k} : GE.inBlock id Q (.exit k) s = if k = id then Q .normal s else Q (.exit k) s := rfl
theorem condV_bool {b : Bool} {X Y : Unit → Prop} : condV (.p (.bool b)) X Y = guardB b true X Y := rfl
theorem post_ret {fn : Func} {r : GV} {G' : Heap} : callPost P fn d r G' .ret s = (ress P s fn.results.toList (retK d r s.G) ∧ agree d s.G G') := rfl
theorem post_normal {fn : Func} {r : GV} {G' : Heap} : callPost P fn d r G' .normal s = (ress P s fn.results.toList (retK d r s.G) ∧ agree d s.G G') := rfl
theorem ress_nil {K : List GV → Prop} : ress P s [] K = K [] := rfl
theorem ress_tmp {t rs} {K : List GV → Prop} : ress P s (.tmp t :: rs) K = ress P s rs (consK K (s.F t)) := rfl
theorem ress_cell {a t rs} {K : List GV → Prop} : ress P s (.cell a t :: rs) K = gLoad P s.G t (s.F a) (resK P s rs K) := rfl
theorem resK_app {rs} {K : List GV → Prop} {g : GV} : resK P s rs K g = ress P s rs (consK K g) := rfl
theorem consK_app {K : List GV → Prop} {g : GV} {gs : List GV} : consK K g gs = K (g :: gs) := rfl
theorem retK_one {r : GV} {G : Heap} {g : GV} : retK d r G [g] = ∃ ks, Ret G d g r [] ks := rfl
theorem retK_nil {r : GV} {G : Heap} : retK d r G [] = ∃ ks, Ret G d (.tup []) r [] ks := rfl
theorem retK_two {r : GV} {G : Heap} {g g' : GV} {gs : List GV} : retK d r G (g :: g' :: gs) = ∃ ks, Ret G d (.tup (g :: g' :: gs)) r [] ks := rfl
end
section
variable {F : Nat → GV} {t k : Nat} {v : GV}
theorem ge_tmp : ge F (.tmp t) = F t := rfl
theorem ge_func {f} : ge F (.func f) = .fn f [] := rfl
theorem ge_int {k n} : ge F (.const (.int k n)) = .p (.int k n) := rfl
theorem ge_bool {b} : ge F (.const (.bool b)) = .p (.bool b) := rfl
theorem ge_str {s} : ge F (.const (.string s)) = .p (.str s) := rfl
theorem ge_ptr : ge F (.const (.pointer none)) = .p .null := rfl
theorem ge_sl : ge F (.const (.slice none 0 0)) = .csl [] := rfl
theorem ge_nfn : ge F (.const .nilFunc) = .p .nfn := rfl
theorem upd_app : upd F t v k = if k = t then v else F k := rfl
theorem put_some : put F (some t) v = upd F t v := rfl
theorem put_none : put F none v = F := rfl
theorem initF_app {args : List GV} : initF args t = args.getD t .undef := rfl
end
section
variable {G G' : Heap} {d d' t t' c : Nat} {os : List Obj'} {o : Obj'} {κ : Key}
theorem appD_nop {dst : Option Nat} : appD G d dst .nop = G := rfl
theorem appD_fill : appD G d (some t) (.fill os) = fillKey G d t os := rfl
theorem appD_set {dst : Option Nat} : appD G d dst (.set κ o) = setKey G κ o := rfl
theorem appD_heap : appD G d (some t) (.heap G' os) = fillKey G' d t os := rfl
theorem free_some : free G d (some t) = (G d t = []) := rfl
theorem fillKey_app : fillKey G d t os d' t' = if d' = d ∧ t' = t then os else G d' t' := rfl
theorem setKey_nil : (setKey G κ o d t = []) = (G d t = []) := by
  unfold setKey
  split <;> simp
theorem cut_app : cut d G d' t = if d' ≤ d then G d' t else [] := rfl
theorem get_fill : get (fillKey G d t os) (d', t', c) = if d' = d ∧ t' = t then os[c]? else get G (d', t', c) := get_fillKey G d t os (d', t', c)
theorem get_set3 {d' t' c' : Nat} : get (setKey G (d, t, c) o) (d', t', c') = if d' = d ∧ t' = t ∧ c' = c then (get G (d, t, c)).map (fun _ => o) else get G (d', t', c') := by
  rw [get_setKey]
  by_cases h : d' = d ∧ t' = t ∧ c' = c
  · obtain ⟨rfl, rfl, rfl⟩ := h; simp
  · rw [if_neg h, if_neg]
    intro e
    injection e with e1 e2
    injection e2 with e2 e3
    exact h ⟨e1, e2, e3⟩
theorem agree_fill : agree d (fillKey G (d + 1) t os) G' = agree d G G' := by
  unfold agree
  apply propext
  refine ⟨fun h k t' hk => ?_, fun h k t' hk => ?_⟩
  · have := h k t' hk; unfold fillKey at this; rwa [if_neg (by omega)] at this
  · unfold fillKey; rw [if_neg (by omega)]; exact h k t' hk
theorem agree_set : agree d (setKey G (d + 1, t, c) o) G' = agree d G G' := by
  unfold agree
  apply propext
  refine ⟨fun h k t' hk => ?_, fun h k t' hk => ?_⟩
  · have := h k t' hk; unfold setKey at this; rwa [if_neg (by simp; omega)] at this
  · unfold setKey; rw [if_neg (by simp; omega)]; exact h k t' hk
theorem agree_cut : agree d (cut d G) G = True := by
  unfold agree
  simp only [eq_iff_iff, iff_true]
  intro k t hk
  unfold cut
  rw [if_pos hk]
theorem agree_refl : agree d G G = True := by
  unfold agree
  simp
end
end
end Go.Eng
end
section
set_option linter.all false
namespace Go.Eng
section
variable {P : Program} {C : CR} {A : Ann} {d : Nat}
theorem mono_gops {all : Array Oper} {K K' : St → Prop} (hk : ∀ s, K s → K' s) : ∀ (l : List Oper) (s : St), gops P C A d all l K s → gops P C A d all l K' s
  | [], s, h => hk s h
  | o :: l, s, h => by
    rw [gops_cons, gop1_eq] at h ⊢
    exact mono_gop1v (fun v δ hh => mono_gops hk l _ hh) h
theorem cps_gops {all : Array Oper} {K : St → Prop} : ∀ (l : List Oper) (s : St), gops P C A d all l K s → ∃ s', gops P C A d all l (· = s') s ∧ K s'
  | [], s, h => ⟨s, rfl, h⟩
  | o :: l, s, h => by
    rw [gops_cons, gop1_eq] at h
    obtain ⟨v, δ, h1, h2⟩ := cps_gop1v h
    obtain ⟨s', h3, h4⟩ := cps_gops l _ h2
    refine ⟨s', ?_, h4⟩
    rw [gops_cons, gop1_eq]
    exact mono_gop1v (fun v' δ' e => by obtain ⟨rfl, rfl⟩ := e; exact h3) h1
theorem mono_gwp : ∀ (c : Code) (Q Q' : GE → St → Prop), (∀ e s, Q e s → Q' e s) → ∀ s, gwp P C A d c Q s → gwp P C A d c Q' s
  | .skip, Q, Q', hq, s, h => hq _ _ h
  | .region id ops draw, Q, Q', hq, s, h => mono_gops (hq .normal) _ _ h
  | .seq x y, Q, Q', hq, s, h => mono_gwp x _ _ (fun e s' he => by
      cases e with
      | normal => exact mono_gwp y Q Q' hq s' he
      | exit id => exact hq _ _ he
      | ret => exact hq _ _ he) s h
  | .cond c x y, Q, Q', hq, s, h => by
    unfold gwp at h ⊢
    split at h
    · exact ⟨fun e => mono_gwp x Q Q' hq s (h.1 e), fun e => mono_gwp y Q Q' hq s (h.2 e)⟩
    · exact h.elim
  | .block id c, Q, Q', hq, s, h => mono_gwp c _ _ (fun e s' he => by
      cases e with
      | normal => exact hq _ _ he
      | exit k =>
        unfold GE.inBlock at he ⊢
        dsimp only at he ⊢
        split at he
        · rename_i e; rw [if_pos e]; exact hq _ _ he
        · rename_i e; rw [if_neg e]; exact hq _ _ he
      | ret => exact hq _ _ he) s h
  | .loop c, Q, Q', hq, s, h => by
    unfold gwp at h ⊢
    obtain ⟨n, h⟩ := h
    refine ⟨n, ?_⟩
    induction n generalizing s with
    | zero => exact h.elim
    | succ n ih =>
      exact mono_gwp c _ _ (fun e s' he => by
        cases e with
        | normal => exact ih s' he
        | exit id => exact hq _ _ he
        | ret => exact hq _ _ he) _ h
  | .exit id, Q, Q', hq, s, h => hq _ _ h
  | .ret, Q, Q', hq, s, h => hq _ _ h
  | .rangeFunc _ _ _ _, _, _, _, _, h => h.elim
  | .scope _, _, _, _, _, h => h.elim
  | .label _, _, _, _, _, h => h.elim
  | .goto _, _, _, _, _, h => h.elim
  | .refuse _, _, _, _, _, h => h.elim
theorem cps_gwp : ∀ (c : Code) (Q : GE → St → Prop) (s : St), gwp P C A d c Q s → ∃ e s', gwp P C A d c (fun e' s'' => e' = e ∧ s'' = s') s ∧ Q e s'
  | .skip, Q, s, h => ⟨.normal, s, ⟨rfl, rfl⟩, h⟩
  | .region id ops draw, Q, s, h => by
    obtain ⟨s', h1, h2⟩ := cps_gops ops.toList s h
    exact ⟨.normal, s', mono_gops (K := (· = s')) (fun s'' e => ⟨rfl, e⟩) _ _ h1, h2⟩
  | .seq x y, Q, s, h => by
    obtain ⟨e, s', h1, h2⟩ := cps_gwp x _ s h
    cases e with
    | normal =>
      obtain ⟨e2, s2, h3, h4⟩ := cps_gwp y Q s' h2
      exact ⟨e2, s2, mono_gwp x _ _ (fun e' s'' he => by obtain ⟨rfl, rfl⟩ := he; exact h3) s h1, h4⟩
    | exit id => exact ⟨.exit id, s', mono_gwp x _ _ (fun e' s'' he => by obtain ⟨rfl, rfl⟩ := he; exact ⟨rfl, rfl⟩) s h1, h2⟩
    | ret => exact ⟨.ret, s', mono_gwp x _ _ (fun e' s'' he => by obtain ⟨rfl, rfl⟩ := he; exact ⟨rfl, rfl⟩) s h1, h2⟩
  | .cond c x y, Q, s, h => by
    unfold gwp at h ⊢
    split at h
    case h_2 => exact h.elim
    rename_i t ht
    cases t with
    | true =>
      obtain ⟨e, s', h1, h2⟩ := cps_gwp x Q s (h.1 rfl)
      exact ⟨e, s', ⟨fun _ => h1, fun h => (by cases h)⟩, h2⟩
    | false =>
      obtain ⟨e, s', h1, h2⟩ := cps_gwp y Q s (h.2 rfl)
      exact ⟨e, s', ⟨(fun h => by cases h), fun _ => h1⟩, h2⟩
  | .block id c, Q, s, h => by
    obtain ⟨e, s', h1, h2⟩ := cps_gwp c _ s h
    have main : ∀ e2, (∀ e' s'', e' = e ∧ s'' = s' → GE.inBlock id (fun e' s'' => e' = e2 ∧ s'' = s') e' s'') → gwp P C A d (.block id c) (fun e' s'' => e' = e2 ∧ s'' = s') s := fun e2 hh => mono_gwp c _ _ hh s h1
    cases e with
    | normal => exact ⟨.normal, s', main _ (fun e' s'' he => by obtain ⟨rfl, rfl⟩ := he; exact ⟨rfl, rfl⟩), h2⟩
    | exit k =>
      unfold GE.inBlock at h2
      dsimp only at h2
      split at h2
      · rename_i e; exact ⟨.normal, s', main _ (fun e' s'' he => by obtain ⟨rfl, rfl⟩ := he; rw [block_exit, if_pos e]; exact ⟨rfl, rfl⟩), h2⟩
      · rename_i e; exact ⟨.exit k, s', main _ (fun e' s'' he => by obtain ⟨rfl, rfl⟩ := he; rw [block_exit, if_neg e]; exact ⟨rfl, rfl⟩), h2⟩
    | ret => exact ⟨.ret, s', main _ (fun e' s'' he => by obtain ⟨rfl, rfl⟩ := he; exact ⟨rfl, rfl⟩), h2⟩
  | .loop c, Q, s, h => by
    unfold gwp at h ⊢
    obtain ⟨n, h⟩ := h
    induction n generalizing s with
    | zero => exact h.elim
    | succ n ih =>
      obtain ⟨e, s', h1, h2⟩ := cps_gwp c _ _ h
      cases e with
      | normal =>
        obtain ⟨e2, s2, ⟨m, h3⟩, h4⟩ := ih s' h2
        exact ⟨e2, s2, ⟨m + 1, mono_gwp c _ _ (fun e' s'' he => by obtain ⟨rfl, rfl⟩ := he; exact h3) _ h1⟩, h4⟩
      | exit id => exact ⟨.exit id, s', ⟨1, mono_gwp c _ _ (fun e' s'' he => by obtain ⟨rfl, rfl⟩ := he; exact ⟨rfl, rfl⟩) _ h1⟩, h2⟩
      | ret => exact ⟨.ret, s', ⟨1, mono_gwp c _ _ (fun e' s'' he => by obtain ⟨rfl, rfl⟩ := he; exact ⟨rfl, rfl⟩) _ h1⟩, h2⟩
  | .exit id, Q, s, h => ⟨.exit id, s, ⟨rfl, rfl⟩, h⟩
  | .ret, Q, s, h => ⟨.ret, s, ⟨rfl, rfl⟩, h⟩
  | .rangeFunc _ _ _ _, _, _, h => h.elim
  | .scope _, _, _, h => h.elim
  | .label _, _, _, h => h.elim
  | .goto _, _, _, h => h.elim
  | .refuse _, _, _, h => h.elim
theorem gwp_loop {c : Code} {Q : GE → St → Prop} {s : St} (I : Nat → St → Prop) {m : Nat} (h0 : I m s)
    (hstep : ∀ k s, I k s → gwp P C A d c (GE.then (fun s' => ∃ k', k' < k ∧ I k' s') Q) (clean d (A.clean (firstId c)) s)) : gwp P C A d (.loop c) Q s := by
  unfold gwp
  induction m using Nat.strongRecOn generalizing s with
  | _ m ih =>
    obtain ⟨e, s', h1, h2⟩ := cps_gwp c _ _ (hstep m s h0)
    cases e with
    | normal =>
      obtain ⟨k', hk, hI⟩ := h2
      obtain ⟨n, h3⟩ := ih k' hk hI
      exact ⟨n + 1, mono_gwp c _ _ (fun e' s'' he => by obtain ⟨rfl, rfl⟩ := he; exact h3) _ h1⟩
    | exit id => exact ⟨1, mono_gwp c _ _ (fun e' s'' he => by obtain ⟨rfl, rfl⟩ := he; exact h2) _ h1⟩
    | ret => exact ⟨1, mono_gwp c _ _ (fun e' s'' he => by obtain ⟨rfl, rfl⟩ := he; exact h2) _ h1⟩
theorem fillKey_nil {G : Heap} {t : Nat} (h : G d t = []) : fillKey G d t [] = G := by
  funext k j
  unfold fillKey
  split
  · rename_i e; rw [e.1, e.2, h]
  · rfl
theorem call_own {K : St → Prop} {F : Nat → GV} {G : Heap} {n : FuncId} {caps args as : List GV} {t : Nat} {r r' : GV} {os : List Obj'} (hT : C d n as empty r empty) (hw : wkRs (args ++ caps) as) (ho : A.openAt t = false) (hcl : closeds as) (hf : G d t = [])
    (hr : adopt d t r [] = (r', os)) (hK : K ⟨upd F t r', fillKey G d t os⟩) (hb : A.borAt t = false := by rfl) (hz : A.frzAt t = false := by rfl) : gCall C A d G (.fn n caps) args (some t) (kont d (some t) K ⟨F, G⟩) := by
  unfold gCall
  dsimp only
  rw [if_neg (show ¬ dstIn A.borAt (some t) = true by simp [dstIn, hb])]
  refine ⟨as, hw, ?_⟩
  rw [if_neg (show ¬ dstIn A.openAt (some t) = true by simp [dstIn, ho])]
  simp only [Option.getD_some]
  refine ⟨hcl, r, hT, ?_⟩
  rw [if_neg (show ¬ dstIn A.frzAt (some t) = true by simp [dstIn, hz])]
  refine ⟨hf, ?_⟩
  rw [hr]
  exact hK
theorem call_pure {K : St → Prop} {F : Nat → GV} {G : Heap} {n : FuncId} {caps args as : List GV} {t : Nat} {r r' : GV} (hT : C d n as empty r empty) (hw : wkRs (args ++ caps) as) (ho : A.openAt t = false) (hcl : closeds as) (hf : G d t = [])
    (hr : adopt d t r [] = (r', [])) (hK : K ⟨upd F t r', G⟩) (hb : A.borAt t = false := by rfl) (hz : A.frzAt t = false := by rfl) : gCall C A d G (.fn n caps) args (some t) (kont d (some t) K ⟨F, G⟩) := by
  refine call_own hT hw ho hcl hf hr ?_ hb hz
  rw [fillKey_nil hf]
  exact hK
theorem call_open {K : St → Prop} {F : Nat → GV} {G G' : Heap} {n : FuncId} {caps args as : List GV} {t : Nat} {r r' : GV} {os : List Obj'} (hT : C d n as G r G') (hw : wkRs (args ++ caps) as) (ho : A.openAt t = true) (hf : G d t = []) (hf' : G' d t = [])
    (hr : adopt d t r [] = (r', os)) (hK : K ⟨upd F t r', fillKey G' d t os⟩) (hb : A.borAt t = false := by rfl) (hdr : A.drwAt t = false := by rfl) : gCall C A d G (.fn n caps) args (some t) (kont d (some t) K ⟨F, G⟩) := by
  unfold gCall
  dsimp only
  rw [if_neg (show ¬ dstIn A.borAt (some t) = true by simp [dstIn, hb])]
  refine ⟨as, hw, ?_⟩
  rw [if_pos (show dstIn A.openAt (some t) = true by simp [dstIn, ho])]
  simp only [Option.getD_some]
  refine ⟨r, G', hT, .inl ⟨hdr, hf, hf', ?_⟩⟩
  rw [hr]
  exact hK
theorem call_open0 {K : St → Prop} {F : Nat → GV} {G G' : Heap} {n : FuncId} {caps args as : List GV} {t t0 : Nat} {r : GV} (hT : C d n as G r G') (hw : wkRs (args ++ caps) as) (ho : A.openAt t = true) (hf : G d t0 = []) (hf' : G' d t0 = [])
    (hr : adopt d t0 r [] = (r, [])) (hK : K ⟨upd F t r, G'⟩) (hb : A.borAt t = false := by rfl) (hdr : A.drwAt t = false := by rfl) : gCall C A d G (.fn n caps) args (some t) (kont d (some t) K ⟨F, G⟩) := by
  unfold gCall
  dsimp only
  rw [if_neg (show ¬ dstIn A.borAt (some t) = true by simp [dstIn, hb])]
  refine ⟨as, hw, ?_⟩
  rw [if_pos (show dstIn A.openAt (some t) = true by simp [dstIn, ho])]
  exact ⟨r, G', hT, .inr ⟨t0, hf, hf', hr, (fun h => by simp [dstIn, hdr] at h), hK⟩⟩
theorem call_drw {K : St → Prop} {F : Nat → GV} {G G' : Heap} {n : FuncId} {caps args as : List GV} {t t0 : Nat} {r : GV} (hT : ∀ H : Nat → List Obj', C d n as (addAt G d (A.also t) H) r (addAt G' d (A.also t) H)) (hw : wkRs (args ++ caps) as) (ho : A.openAt t = true) (hf : G d t0 = []) (hf' : G' d t0 = [])
    (hr : adopt d t0 r [] = (r, [])) (hs : ∀ x ∈ A.also t, G' d x = G d x) (hl : ∀ κ, get G κ ≠ none → get G' κ ≠ none) (hk : ∀ x ∈ A.watch t, ∃ κ o, A.wkey x = some (κ, o) ∧ ¬ (κ.1 = d ∧ κ.2.1 ∈ A.also t) ∧ ∃ cs cs', get G κ = some (.box cs) ∧ get G' κ = some (.box cs') ∧ sameAt o cs cs')
    (hn : t0 ∉ A.also t) (hK : K ⟨upd F t r, G'⟩) (hb : A.borAt t = false := by rfl) : gCall C A d G (.fn n caps) args (some t) (kont d (some t) K ⟨F, G⟩) := by
  unfold gCall
  dsimp only
  rw [if_neg (show ¬ dstIn A.borAt (some t) = true by simp [dstIn, hb])]
  refine ⟨as, hw, ?_⟩
  rw [if_pos (show dstIn A.openAt (some t) = true by simp [dstIn, ho])]
  have h0 := hT (fun x => G d x)
  have e1 : addAt G d (A.also t) (fun x => G d x) = G := addAt_self
  have e2 : addAt G' d (A.also t) (fun x => G d x) = G' := by
    funext k x
    unfold addAt
    split
    · rename_i e; show G d x = G' k x; rw [e.1]; exact (hs x e.2).symm
    · rfl
  rw [e1, e2] at h0
  exact ⟨r, G', h0, .inr ⟨t0, hf, hf', hr, fun _ => ⟨hn, hs, hT, hl, hk⟩, hK⟩⟩
theorem call_frz {K : St → Prop} {F : Nat → GV} {G : Heap} {n : FuncId} {caps args as : List GV} {t : Nat} {r r' : GV} (hT : C d n as empty r empty) (hw : wkRs (args ++ caps) as) (ho : A.openAt t = false) (hcl : closeds as)
    (hr : frz r = r') (hK : K ⟨upd F t r', G⟩) (hz : A.frzAt t = true := by rfl) (hb : A.borAt t = false := by rfl) : gCall C A d G (.fn n caps) args (some t) (kont d (some t) K ⟨F, G⟩) := by
  unfold gCall
  dsimp only
  rw [if_neg (show ¬ dstIn A.borAt (some t) = true by simp [dstIn, hb])]
  refine ⟨as, hw, ?_⟩
  rw [if_neg (show ¬ dstIn A.openAt (some t) = true by simp [dstIn, ho])]
  refine ⟨hcl, r, hT, ?_⟩
  rw [if_pos (show dstIn A.frzAt (some t) = true by simp [dstIn, hz]), hr]
  exact hK
theorem call_look {K : St → Prop} {F : Nat → GV} {G : Heap} {n : FuncId} {caps args as : List GV} {t : Nat} {r : GV} (hT : C d n as empty r empty) (hw : wkBs G d (args ++ caps) as) (hcl : closeds as)
    (hr : scal r) (hK : K ⟨upd F t r, G⟩) (hb : A.borAt t = true := by rfl) : gCall C A d G (.fn n caps) args (some t) (kont d (some t) K ⟨F, G⟩) := by
  unfold gCall
  dsimp only
  rw [if_pos (show dstIn A.borAt (some t) = true by simp [dstIn, hb])]
  exact ⟨as, hw, hcl, r, hT, hr, hK⟩
theorem append_pure {K : GV → Dl → Prop} {G : Heap} {t tx : TypeId} {es xs : List (List PV)} {x : GV} {j : Nat} {e n b : Nat} (he : elT P t = some (e, n, b)) (hx : srcOf P G tx n x = some xs) (ha : A.pureAt j = true) (h1 : sizes es n) (h2 : sizes xs n)
    (hb : (es.length + xs.length) * b ≤ 140737488355328) (hK : K (.p (.sl (es ++ xs))) .nop) : gAppend P A d G t tx (.csl es) x (some j) K := by
  unfold gAppend
  rw [he]
  dsimp only
  rw [hx]
  exact ⟨h1, h2, hb, by simp only [dstIn, ha, if_true]; exact hK⟩
theorem append_new {K : GV → Dl → Prop} {G : Heap} {t tx : TypeId} {es xs : List (List PV)} {x : GV} {j : Nat} {e n b : Nat} (he : elT P t = some (e, n, b)) (hx : srcOf P G tx n x = some xs) (ha : A.pureAt j = false) (h1 : sizes es n) (h2 : sizes xs n)
    (hb : (es.length + xs.length) * b ≤ 140737488355328) (hne : xs ≠ []) (hf : G d j = []) (hK : K (.tsl (es ++ xs) (d, j, 0)) (.fill [.tok (es.length + xs.length) n])) (hr : A.arrAt j = false := by rfl) (hop : A.openAt j = false := by rfl) : gAppend P A d G t tx (.csl es) x (some j) K := by
  unfold gAppend
  rw [he]
  dsimp only
  rw [hx]
  exact ⟨h1, h2, hb, by simp only [dstIn, ha, hr, hop, Bool.false_eq_true, if_false, List.isEmpty_iff, hne]; exact ⟨hf, hK⟩⟩
theorem append_arr_new {K : GV → Dl → Prop} {G : Heap} {t tx : TypeId} {es xs : List (List PV)} {x : GV} {j : Nat} {e n b : Nat} (he : elT P t = some (e, n, b)) (hx : srcOf P G tx n x = some xs) (ha : A.pureAt j = false) (h1 : sizes es n) (h2 : sizes xs n)
    (hb : (es.length + xs.length) * b ≤ 140737488355328) (hne : xs ≠ []) (hf : G d j = []) (hK : K (.arr (d, j, 0) (es.length + xs.length) n) (.fill [.arr (es ++ xs)])) (hr : A.arrAt j = true := by rfl) (hop : A.openAt j = false := by rfl) : gAppend P A d G t tx (.csl es) x (some j) K := by
  unfold gAppend
  rw [he]
  dsimp only
  rw [hx]
  exact ⟨h1, h2, hb, by simp only [dstIn, ha, hr, hop, Bool.false_eq_true, if_false, if_true, List.isEmpty_iff, hne]; exact ⟨hf, hK⟩⟩
theorem append_none {K : GV → Dl → Prop} {G : Heap} {t tx : TypeId} {es : List (List PV)} {x : GV} {j : Nat} {e n b : Nat} (he : elT P t = some (e, n, b)) (hx : srcOf P G tx n x = some []) (ha : A.pureAt j = false) (h1 : sizes es n)
    (hb : es.length * b ≤ 140737488355328) (hK : K (.csl es) .nop) : gAppend P A d G t tx (.csl es) x (some j) K := by
  unfold gAppend
  rw [he]
  dsimp only
  rw [hx]
  exact ⟨h1, (by intro e he; cases he), by simpa using hb, by simp only [dstIn, ha, Bool.false_eq_true, if_false, List.isEmpty_nil, if_true]; exact hK⟩
theorem append_arr_more {K : GV → Dl → Prop} {G : Heap} {t tx : TypeId} {es xs : List (List PV)} {x : GV} {κ : Key} {j m : Nat} {e n b : Nat} (he : elT P t = some (e, n, b)) (hx : srcOf P G tx n x = some xs) (ha : A.pureAt j = false) (h2 : sizes xs n)
    (hg : get G κ = some (.arr es)) (hm : es.length = m) (hb : (m + xs.length) * b ≤ 140737488355328) (hK : K (.arr κ (m + xs.length) n) (.set κ (.arr (es ++ xs)))) : gAppend P A d G t tx (.arr κ m n) x (some j) K := by
  unfold gAppend
  rw [he]
  dsimp only
  rw [hx]
  exact ⟨by simp only [dstIn, ha], by rw [hg]; exact ⟨hm, rfl, h2, hb, hK⟩⟩
theorem append_tok {K : GV → Dl → Prop} {G : Heap} {t tx : TypeId} {es xs : List (List PV)} {x : GV} {κ : Key} {j : Nat} {e n b : Nat} (he : elT P t = some (e, n, b)) (hx : srcOf P G tx n x = some xs) (ha : A.pureAt j = false) (h1 : sizes es n) (h2 : sizes xs n)
    (hb : (es.length + xs.length) * b ≤ 140737488355328) (hg : get G κ = some (.tok es.length n)) (hK : K (.tsl (es ++ xs) κ) (.set κ (.tok (es.length + xs.length) n))) : gAppend P A d G t tx (.tsl es κ) x (some j) K := by
  unfold gAppend
  rw [he]
  dsimp only
  rw [hx]
  exact ⟨by simp only [dstIn, ha], h1, h2, hb, hg, hK⟩
theorem sizes_map {α : Type} {f : α → List PV} {n : Nat} (h : ∀ x, (f x).length = n) (l : List α) : sizes (l.map f) n := fun e he => by
  obtain ⟨x, _, rfl⟩ := List.mem_map.1 he
  exact h x
theorem sizes_nil {n : Nat} : sizes [] n := fun e he => by cases he
theorem sizes_cons {e : List PV} {es : List (List PV)} {n : Nat} (h : e.length = n) (h' : sizes es n) : sizes (e :: es) n := fun x hx => by
  rcases List.mem_cons.1 hx with rfl | hx
  · exact h
  · exact h' x hx
end
end Go.Eng
end
section
set_option linter.all false
namespace Go.Eng
theorem cut_top {d t : Nat} {G : Heap} : cut d G (d + 1) t = [] := by unfold cut; rw [if_neg (by omega)]
theorem get_cut_top {d t c : Nat} {G : Heap} : get (cut d G) (d + 1, t, c) = none := by unfold get; dsimp only; rw [cut_top]; rfl
@[simp] theorem boxC_tmp' {A : Ann} {d t : Nat} {g : GV} : boxC A d (.tmp t) g = match A.boxAt t with | some k => boxG d k g | none => True := rfl
@[simp] theorem wkC_tmp {P : Program} {A : Ann} {t : TypeId} {x : Nat} {g : GV} : wkC P A t (.tmp x) g = match A.wkey x with | some (κ, o) => wkG P t κ o g | none => True := rfl
@[simp] theorem appC_some {A : Ann} {d j : Nat} {s x : GV} : appC A d (some j) s x = match A.boxAt (j + 1000000) with | some k => appG d k s x | none => True := rfl
attribute [simp] wkA_false gops_nil gops_cons gop1_none gop1_some guardT_some guardV_bool guardV_und guardB_tt guardB_tf guardB_ft guardB_ff gopT_app skipT_app gwpT_app kont_app nopK_app undK_app pickK_app gop_move gop_assign gop_pick gop_alloc gop_box gop_build gop_buildSlice gop_load gop_store gop_nil gop_bin gop_un gop_conv gop_fn gop_slice gop_fieldAddr gop_field gop_indexAddr gop_index gop_extract gop_call gop_len gop_append gop_copy gop_make gop_min gop_max gwp_skip gwp_region gwp_seq gwp_cond gwp_block gwp_exit gwp_ret then_normal then_exit then_ret block_normal block_ret block_exit condV_bool post_ret post_normal ress_nil ress_tmp ress_cell resK_app consK_app retK_one retK_nil retK_two ge_tmp ge_func ge_int ge_bool ge_str ge_ptr ge_sl ge_nfn upd_app put_some put_none initF_app appD_nop appD_fill appD_set appD_heap free_some fillKey_app setKey_nil cut_top get_fill get_set3 get_cut_top agree_fill agree_set agree_cut agree_refl
attribute [simp] gLoad gLoadC gStore gcells gfill gBuild gBuildSlice partsOf gIndexAddr gFieldAddr gField gIndex gbound gSlice lenOf gLen ibin gBin gUn gConv gMin purs pur okd okds wkR wkRs closed closeds elems spl splP adopt adopts cv1 cv Ret Rets weak weaks poison poisons poisonO isNilOf dstIn
theorem tel_extern {P : Program} {TB : Nat → Option Obj} {f : FuncId} {args : List GV} {r : GV} (hr : ∀ d t0, adopt d t0 r [] = (r, []))
    (h : ∀ (X : XS) (d : Nat) (G : Heap) (R : RMap) (w : World) (vals : List Value), Sim X d G R w → VRs (Mem X d G R w) G R d args vals →
      ∃ v, (callFunc f vals.toArray).run P w = .ok (.value v) w ∧ VR (Mem X d G R w) G R d r v) (d : Nat) (G : Heap) : Tel P TB d f args G r G := by
  refine ⟨fun d' f' args' G1 r' G2 => f' = f ∧ args' = args ∧ r' = r ∧ G1 = G2, ?_, rfl, rfl, rfl, rfl⟩
  rintro d' f' args' G1 r' G2 ⟨rfl, rfl, rfl, rfl⟩ X R w vals hX hs hv t0 ht _
  obtain ⟨v, h1, h2⟩ := h X d' G1 R w vals hs hv
  have e : fillKey G1 d' t0 [] = G1 := fillKey_nil ht
  exact .inr ⟨v, w, h1, R, by rw [hr, e]; exact Step.refl hs, by rw [hr, e]; exact h2⟩
end Go.Eng
end
