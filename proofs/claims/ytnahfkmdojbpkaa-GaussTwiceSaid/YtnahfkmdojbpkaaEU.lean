import Derived.Test.YtnahfkmdojbpkaaES
import Derived.WalkKit
/-! The engine, part U: how a function is told, and the rules by which a text is run. -/
set_option linter.all false
namespace Go.Eng
/-- All that may be told of calls. -/
def Tel (P : Program) (TB : Nat → Option Obj) : CR := fun d f args G r G' => ∃ C, Known P TB C ∧ C d f args G r G'
theorem known_Tel {P : Program} {TB : Nat → Option Obj} : Known P TB (Tel P TB) := fun d f args G r G' ⟨_, hC, h⟩ => hC d f args G r G' h
theorem Tel.intro {P : Program} {TB : Nat → Option Obj} (hmix : P.follows .mixedOrders = true) {d : Nat} {f : FuncId} {args : List GV} {G : Heap} {r : GV} {G' : Heap} {fn : Func} {c : Code} (hfn : P.funcs[f]? = some fn) (hc : fn.body = some c) (hlen : args.length ≤ fn.ntmps)
    (A : Ann) (hok : codeOK A fn.ntmps c = true) (hname : (fn.name == "runtime.NumGoroutine") = false) (h : gwp P (Tel P TB) A (d + 1) c (callPost P fn d r G') ⟨initF args, cut d G⟩) : Tel P TB d f args G r G' :=
  ⟨EvN P (Tel P TB) 1, known_EvN known_Tel hmix 1, .inr ⟨fn, c, A, hfn, hc, hlen, hok, hname, h⟩⟩

/-! ### Rules -/
def nopK (K : GV → Dl → Prop) (v : GV) : Prop := K v .nop
def undK (K : GV → Dl → Prop) (δ : Dl) : Prop := K .undef δ
def kont (d : Nat) (dst : Option Nat) (K : St → Prop) (s : St) (v : GV) (δ : Dl) : Prop := K ⟨put s.F dst v, appD s.G d dst δ⟩
def guardB (b want : Bool) (Y N : Unit → Prop) : Prop := (b = want → Y ()) ∧ (b = (!want) → N ())
def guardV (g : GV) (want : Bool) (Y N : Unit → Prop) : Prop := match g with
  | .p (.bool b) => guardB b want Y N
  | .tup [] => N ()
  | _ => False
def guardT (F : Nat → GV) (t : Option Nat) (want : Bool) (Y N : Unit → Prop) : Prop := match t with
  | some t => guardV (F t) want Y N
  | none => False
def condV (g : GV) (X Y : Unit → Prop) : Prop := match g with
  | .p (.bool b) => guardB b true X Y
  | _ => False
section
variable (P : Program) (C : CR) (A : Ann) (d : Nat)
def gopT (o : Oper) (K : St → Prop) (s : St) (_ : Unit) : Prop := gop P C A d o s.F s.G (kont d o.dst K s)
def skipT (dst : Option Nat) (K : St → Prop) (s : St) (_ : Unit) : Prop := K ⟨put s.F dst (.tup []), s.G⟩
def gwpT (c : Code) (Q : GE → St → Prop) (s : St) (_ : Unit) : Prop := gwp P C A d c Q s
def pickK (K : GV → Dl → Prop) (v : GV) (_ : Unit) : Prop := K v .nop
/-- The objects so deep are the same. -/
def agree (d : Nat) (G G' : Heap) : Prop := ∀ k t, k ≤ d → G k t = G' k t
def retK (d : Nat) (r : GV) (G : Heap) (gs : List GV) : Prop := ∃ ks, Ret G d (match gs with | [g] => g | gs => .tup gs) r [] ks
def resK (s : St) (rs : List ResultVar) (K : List GV → Prop) (g : GV) : Prop := ress P s rs fun gs => K (g :: gs)
def consK (K : List GV → Prop) (g : GV) (gs : List GV) : Prop := K (g :: gs)
variable {P C A d}
theorem gops_nil {all : Array Oper} {K : St → Prop} {s : St} : gops P C A d all [] K s = K s := rfl
theorem gops_cons {all : Array Oper} {o : Oper} {os : List Oper} {K : St → Prop} {s : St} : gops P C A d all (o :: os) K s = gop1 P C A d all o (gops P C A d all os K) s := rfl
theorem gop1_none {all : Array Oper} {dst op ty pos after} {K : St → Prop} {s : St} : gop1 P C A d all ⟨dst, op, ty, pos, after, none⟩ K s = gop P C A d ⟨dst, op, ty, pos, after, none⟩ s.F s.G (kont d dst K s) := rfl
theorem gop1_some {all : Array Oper} {dst op ty pos after j want} {K : St → Prop} {s : St} : gop1 P C A d all ⟨dst, op, ty, pos, after, some (j, want)⟩ K s =
    guardT s.F ((all[j]?).bind (·.dst)) want (gopT P C A d ⟨dst, op, ty, pos, after, some (j, want)⟩ K s) (skipT dst K s) := rfl
theorem guardT_some {F : Nat → GV} {t : Nat} {want : Bool} {Y N : Unit → Prop} : guardT F (some t) want Y N = guardV (F t) want Y N := rfl
theorem guardV_bool {b want : Bool} {Y N : Unit → Prop} : guardV (.p (.bool b)) want Y N = guardB b want Y N := rfl
theorem guardV_und {want : Bool} {Y N : Unit → Prop} : guardV (.tup []) want Y N = N () := rfl
theorem guardB_tt {Y N : Unit → Prop} : guardB true true Y N = Y () := by simp [guardB]
theorem guardB_tf {Y N : Unit → Prop} : guardB true false Y N = N () := by simp [guardB]
theorem guardB_ft {Y N : Unit → Prop} : guardB false true Y N = N () := by simp [guardB]
theorem guardB_ff {Y N : Unit → Prop} : guardB false false Y N = Y () := by simp [guardB]
theorem gopT_app {o : Oper} {K : St → Prop} {s : St} {u : Unit} : gopT P C A d o K s u = gop P C A d o s.F s.G (kont d o.dst K s) := rfl
theorem skipT_app {dst : Option Nat} {K : St → Prop} {s : St} {u : Unit} : skipT dst K s u = K ⟨put s.F dst (.tup []), s.G⟩ := rfl
theorem gwpT_app {c : Code} {Q : GE → St → Prop} {s : St} {u : Unit} : gwpT P C A d c Q s u = gwp P C A d c Q s := rfl
theorem kont_app {dst : Option Nat} {K : St → Prop} {s : St} {v : GV} {δ : Dl} : kont d dst K s v δ = K ⟨put s.F dst v, appD s.G d dst δ⟩ := rfl
theorem nopK_app {K : GV → Dl → Prop} {v : GV} : nopK K v = K v .nop := rfl
theorem undK_app {K : GV → Dl → Prop} {δ : Dl} : undK K δ = K .undef δ := rfl
theorem pickK_app {K : GV → Dl → Prop} {v : GV} {u : Unit} : pickK K v u = K v .nop := rfl
section
variable {dst : Option Nat} {ty : TypeId} {pos : String} {after : Array Edge} {guard : Option (Nat × Bool)} {F : Nat → GV} {G : Heap} {K : GV → Dl → Prop}
theorem gop_move {x} : gop P C A d ⟨dst, .move x, ty, pos, after, guard⟩ F G K = K (ge F x) .nop := rfl
theorem gop_assign {x} : gop P C A d ⟨dst, .assign x, ty, pos, after, guard⟩ F G K = K (wkA (dstIn A.pureAt dst) (ge F x)) .nop := rfl
theorem wkA_false {g : GV} : wkA false g = g := rfl
theorem gop_pick {c a b} : gop P C A d ⟨dst, .pick c a b, ty, pos, after, guard⟩ F G K = condV (ge F c) (pickK K (ge F a)) (pickK K (ge F b)) := by
  rfl
theorem gop_alloc {t zs} (hz : zc P t = some zs) : gop P C A d ⟨dst, .alloc t, ty, pos, after, guard⟩ F G K = (free G d dst ∧ K (.bp (d, dst.getD 0, 0) 0) (.fill [.box (zs.map cv1)])) := by
  unfold gop; dsimp only; rw [hz]
theorem gop_box {t x} : gop P C A d ⟨dst, .box t x, ty, pos, after, guard⟩ F G K = match gcells (ge F x) with
  | some cs => if dstIn A.frzAt dst then (match purs cs with | some ps => K (.ep ps 0) .nop | none => False) else free G d dst ∧ K (.bp (d, dst.getD 0, 0) 0) (.fill [.box cs])
  | none => False := rfl
theorem gop_build {t ps} : gop P C A d ⟨dst, .build t ps, ty, pos, after, guard⟩ F G K = gBuild P t (ps.toList.map fun q => (q.1, ge F q.2)) (nopK K) := rfl
theorem gop_buildSlice {t n ps} : gop P C A d ⟨dst, .buildSlice t n ps, ty, pos, after, guard⟩ F G K = gBuildSlice P A d t n (ps.toList.map fun q => (q.1, ge F q.2)) K dst G := rfl
theorem gop_load {t a} : gop P C A d ⟨dst, .load t a, ty, pos, after, guard⟩ F G K = (boxC A d a (ge F a) ∧ wkC P A t a (ge F a) ∧ gLoad P G t (ge F a) (nopK K)) := rfl
theorem gop_store {t a v} : gop P C A d ⟨dst, .store t a v, ty, pos, after, guard⟩ F G K = (boxC A d a (ge F a) ∧ gStore P G t (ge F a) (ge F v) (undK K)) := rfl
theorem gop_nil {x} : gop P C A d ⟨dst, .nilCheck x, ty, pos, after, guard⟩ F G K = match ge F x with
    | .bp κ off => K (.bp κ off) .nop
    | .ep cs off => K (.ep cs off) .nop
    | .ap κ m i off => K (.ap κ m i off) .nop
    | .p (.pt cs) => K (.p (.pt cs)) .nop
    | .fn f cs => K (.fn f cs) .nop
    | _ => False := rfl
theorem gop_bin {op t x y u} : gop P C A d ⟨dst, .binOp op t x y u, ty, pos, after, guard⟩ F G K = gBin P op t (ge F x) (ge F y) (nopK K) := rfl
theorem gop_un {op t x} : gop P C A d ⟨dst, .unOp op t x, ty, pos, after, guard⟩ F G K = gUn op (ge F x) (nopK K) := rfl
theorem gop_conv {a b x} : gop P C A d ⟨dst, .convert a b x, ty, pos, after, guard⟩ F G K = gConv P a b (ge F x) (nopK K) := rfl
theorem gop_fn {f first caps} : gop P C A d ⟨dst, .makeFunc (.func f) first caps, ty, pos, after, guard⟩ F G K = (first.size = 0 ∧ K (.fn f (caps.toList.map (ge F))) .nop) := rfl
theorem gop_slice {t x lo hi mx} : gop P C A d ⟨dst, .slice t x lo hi mx, ty, pos, after, guard⟩ F G K = gSlice P t (ge F x) (lo.map (ge F)) (hi.map (ge F)) (mx.map (ge F)) (nopK K) := rfl
theorem gop_fieldAddr {t x k} : gop P C A d ⟨dst, .fieldAddr t x k, ty, pos, after, guard⟩ F G K = gFieldAddr P t (ge F x) k (nopK K) := rfl
theorem gop_field {t x k} : gop P C A d ⟨dst, .field t x k, ty, pos, after, guard⟩ F G K = gField P t (ge F x) k (nopK K) := rfl
theorem gop_indexAddr {t x i} : gop P C A d ⟨dst, .indexAddr t x i, ty, pos, after, guard⟩ F G K = gIndexAddr P t (ge F x) (ge F i) (nopK K) := rfl
theorem gop_index {t x i} : gop P C A d ⟨dst, .index t x i, ty, pos, after, guard⟩ F G K = gIndex P t (ge F x) (ge F i) (nopK K) := rfl
theorem gop_extract {x k} : gop P C A d ⟨dst, .extract x k, ty, pos, after, guard⟩ F G K = match ge F x with
    | .tup vs => match vs[k]? with
      | some v => K v .nop
      | none => False
    | _ => False := rfl
theorem gop_call {f args ts} : gop P C A d ⟨dst, .call ⟨.value f, args, ts⟩, ty, pos, after, guard⟩ F G K = gCall C A d G (ge F f) (args.toList.map (ge F)) dst K := rfl
theorem gop_len {x t} : gop P C A d ⟨dst, .call ⟨.builtin .len, #[x], #[t]⟩, ty, pos, after, guard⟩ F G K = gLen P t (ge F x) (nopK K) := rfl
theorem gop_append {x y t u} : gop P C A d ⟨dst, .call ⟨.builtin .append, #[x, y], #[t, u]⟩, ty, pos, after, guard⟩ F G K = (appC A d dst (ge F x) (ge F y) ∧ gAppend P A d G t u (ge F x) (ge F y) dst K) := rfl
theorem gop_min {args ts} : gop P C A d ⟨dst, .call ⟨.builtin .min, args, ts⟩, ty, pos, after, guard⟩ F G K = match gMin true (args.toList.map (ge F)) with
    | some v => K v .nop
    | none => False := rfl
theorem gop_max {args ts} : gop P C A d ⟨dst, .call ⟨.builtin .max, args, ts⟩, ty, pos, after, guard⟩ F G K = match gMin false (args.toList.map (ge F)) with
    | some v => K v .nop
    | none => False := rfl
end
section
variable {Q : GE → St → Prop} {s : St}
theorem gwp_skip : gwp P C A d .skip Q s = Q .normal s := rfl
theorem gwp_region {id ops draw} : gwp P C A d (.region id ops draw) Q s = gops P C A d ops ops.toList (Q .normal) s := rfl
theorem gwp_seq {x y} : gwp P C A d (.seq x y) Q s = gwp P C A d x (GE.then (gwp P C A d y Q) Q) s := rfl
theorem gwp_cond {c x y} : gwp P C A d (.cond c x y) Q s = condV (ge s.F c) (gwpT P C A d x Q s) (gwpT P C A d y Q s) := by
  rfl
theorem gwp_block {id c} : gwp P C A d (.block id c) Q s = gwp P C A d c (GE.inBlock id Q) s := rfl
theorem gwp_exit {id} : gwp P C A d (.exit id) Q s = Q (.exit id) s := rfl
theorem gwp_ret : gwp P C A d .ret Q s = Q .ret s := rfl
theorem then_normal {next : St → Prop} : GE.then next Q .normal s = next s := rfl
theorem then_exit {next : St → Prop} {id} : GE.then next Q (.exit id) s = Q (.exit id) s := rfl
theorem then_ret {next : St → Prop} : GE.then next Q .ret s = Q .ret s := rfl
theorem block_normal {id} : GE.inBlock id Q .normal s = Q .normal s := rfl
theorem block_ret {id} : GE.inBlock id Q .ret s = Q .ret s := rfl
theorem block_exit {id k} : GE.inBlock id Q (.exit k) s = if k = id then Q .normal s else Q (.exit k) s := rfl
theorem condV_bool {b : Bool} {X Y : Unit → Prop} : condV (.p (.bool b)) X Y = guardB b true X Y := rfl
theorem post_ret {fn : Func} {r : GV} {G' : Heap} : callPost P fn d r G' .ret s = (ress P s fn.results.toList (retK d r s.G) ∧ agree d s.G G') := rfl
theorem post_normal {fn : Func} {r : GV} {G' : Heap} : callPost P fn d r G' .normal s = (ress P s fn.results.toList (retK d r s.G) ∧ agree d s.G G') := rfl
theorem ress_nil {K : List GV → Prop} : ress P s [] K = K [] := rfl
theorem ress_tmp {t rs} {K : List GV → Prop} : ress P s (.tmp t :: rs) K = ress P s rs (consK K (s.F t)) := rfl
theorem ress_cell {a t rs} {K : List GV → Prop} : ress P s (.cell a t :: rs) K = gLoad P s.G t (s.F a) (resK P s rs K) := rfl
theorem resK_app {rs} {K : List GV → Prop} {g : GV} : resK P s rs K g = ress P s rs (consK K g) := rfl
theorem consK_app {K : List GV → Prop} {g : GV} {gs : List GV} : consK K g gs = K (g :: gs) := rfl
theorem retK_one {r : GV} {G : Heap} {g : GV} : retK d r G [g] = ∃ ks, Ret G d g r [] ks := rfl
theorem retK_nil {r : GV} {G : Heap} : retK d r G [] = ∃ ks, Ret G d (.tup []) r [] ks := rfl
theorem retK_two {r : GV} {G : Heap} {g g' : GV} {gs : List GV} : retK d r G (g :: g' :: gs) = ∃ ks, Ret G d (.tup (g :: g' :: gs)) r [] ks := rfl
end
section
variable {F : Nat → GV} {t k : Nat} {v : GV}
theorem ge_tmp : ge F (.tmp t) = F t := rfl
theorem ge_func {f} : ge F (.func f) = .fn f [] := rfl
theorem ge_int {k n} : ge F (.const (.int k n)) = .p (.int k n) := rfl
theorem ge_bool {b} : ge F (.const (.bool b)) = .p (.bool b) := rfl
theorem ge_str {s} : ge F (.const (.string s)) = .p (.str s) := rfl
theorem ge_ptr : ge F (.const (.pointer none)) = .p .null := rfl
theorem ge_sl : ge F (.const (.slice none 0 0)) = .csl [] := rfl
theorem ge_nfn : ge F (.const .nilFunc) = .p .nfn := rfl
theorem upd_app : upd F t v k = if k = t then v else F k := rfl
theorem put_some : put F (some t) v = upd F t v := rfl
theorem put_none : put F none v = F := rfl
theorem initF_app {args : List GV} : initF args t = args.getD t .undef := rfl
end
section
variable {G G' : Heap} {d d' t t' c : Nat} {os : List Obj'} {o : Obj'} {κ : Key}
theorem appD_nop {dst : Option Nat} : appD G d dst .nop = G := rfl
theorem appD_fill : appD G d (some t) (.fill os) = fillKey G d t os := rfl
theorem appD_fill0 {dst : Option Nat} : appD G d dst (.fill []) = match dst with | some t => fillKey G d t [] | none => G := by cases dst <;> rfl
theorem appD_set {dst : Option Nat} : appD G d dst (.set κ o) = setKey G κ o := rfl
theorem appD_heap0 {dst : Option Nat} {G' : Heap} : appD G d dst (.heap0 G') = G' := rfl
theorem appD_heap : appD G d (some t) (.heap G' os) = fillKey G' d t os := rfl
theorem free_some : free G d (some t) = (G d t = []) := rfl
theorem fillKey_app : fillKey G d t os d' t' = if d' = d ∧ t' = t then os else G d' t' := rfl
theorem setKey_nil : (setKey G κ o d t = []) = (G d t = []) := by
  unfold setKey
  split <;> simp
theorem cut_app : cut d G d' t = if d' ≤ d then G d' t else [] := rfl
theorem get_fill : get (fillKey G d t os) (d', t', c) = if d' = d ∧ t' = t then os[c]? else get G (d', t', c) := get_fillKey G d t os (d', t', c)
theorem get_set_same {o' : Obj'} (h : get G κ = some o') : get (setKey G κ o) κ = some o := by rw [get_setKey, if_pos rfl, h]; rfl
theorem get_set_ne {κ' : Key} (h : κ' ≠ κ) : get (setKey G κ o) κ' = get G κ' := by rw [get_setKey, if_neg h]
theorem get_set3 {d' t' c' : Nat} : get (setKey G (d, t, c) o) (d', t', c') = if d' = d ∧ t' = t ∧ c' = c then (get G (d, t, c)).map (fun _ => o) else get G (d', t', c') := by
  rw [get_setKey]
  by_cases h : d' = d ∧ t' = t ∧ c' = c
  · obtain ⟨rfl, rfl, rfl⟩ := h; simp
  · rw [if_neg h, if_neg]
    intro e
    injection e with e1 e2
    injection e2 with e2 e3
    exact h ⟨e1, e2, e3⟩
theorem get_cut_app : get (cut d G) (d', t, c) = if d' ≤ d then get G (d', t, c) else none := get_cut (d', t, c)
theorem agree_fill : agree d (fillKey G (d + 1) t os) G' = agree d G G' := by
  unfold agree
  apply propext
  refine ⟨fun h k t' hk => ?_, fun h k t' hk => ?_⟩
  · have := h k t' hk; unfold fillKey at this; rwa [if_neg (by omega)] at this
  · unfold fillKey; rw [if_neg (by omega)]; exact h k t' hk
theorem agree_set : agree d (setKey G (d + 1, t, c) o) G' = agree d G G' := by
  unfold agree
  apply propext
  refine ⟨fun h k t' hk => ?_, fun h k t' hk => ?_⟩
  · have := h k t' hk; unfold setKey at this; rwa [if_neg (by simp; omega)] at this
  · unfold setKey; rw [if_neg (by simp; omega)]; exact h k t' hk
theorem agree_cut : agree d (cut d G) G = True := by
  unfold agree
  simp only [eq_iff_iff, iff_true]
  intro k t hk
  unfold cut
  rw [if_pos hk]
theorem agree_refl : agree d G G = True := by
  unfold agree
  simp
end
end
end Go.Eng
