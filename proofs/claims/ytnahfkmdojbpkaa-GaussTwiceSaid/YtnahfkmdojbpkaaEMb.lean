import Derived.Test.YtnahfkmdojbpkaaEMa
/-! The engine: the rules as one set. -/
set_option linter.all false
namespace Go.Eng
@[go_sem] theorem wkA_csl {es : List (List PV)} : wkA true (.csl es) = .p (.sl es) := rfl
@[go_sem] theorem wkA_tsl {es : List (List PV)} {κ : Key} : wkA true (.tsl es κ) = .p (.sl es) := rfl
@[go_sem] theorem wkA_p {v : PV} : wkA true (.p v) = .p v := rfl
@[go_sem low] theorem gcells_low {g : GV} : gcells g = match g with | .agg cs => some cs | .undef => none | .tup _ => none | .own _ _ => none | .obx _ => none | .oar _ _ => none | .ap _ _ _ _ => none | x => some [x] := by cases g <;> rfl
@[go_sem low] theorem spl_low {cells vs : List GV} {off : Nat} : spl cells off vs = cells.take off ++ (vs ++ cells.drop (off + vs.length)) := rfl
@[go_sem] theorem boxC_tmp {A : Ann} {d t : Nat} {g : GV} : boxC A d (.tmp t) g = match A.boxAt t with | some k => boxG d k g | none => True := rfl
attribute [go_sem] appC_some wkC_tmp wkG
@[go_sem] theorem appG_csl {d k : Nat} {es es' : List (List PV)} : appG d k (.csl es) (.csl es') = True := rfl
@[go_sem] theorem appG_tsl {d k : Nat} {κ : Key} {es es' : List (List PV)} : appG d k (.tsl es κ) (.csl es') = (κ.1 = d ∧ κ.2.1 = k) := by simp [appG]
@[go_sem] theorem appG_arr {d k n z : Nat} {κ : Key} {es' : List (List PV)} : appG d k (.arr κ n z) (.csl es') = (κ.1 = d ∧ κ.2.1 = k) := by simp [appG]
@[go_sem] theorem appG_csl_p {d k : Nat} {es : List (List PV)} {v : PV} : appG d k (.csl es) (.p v) = True := rfl
@[go_sem] theorem appG_tsl_p {d k : Nat} {κ : Key} {es : List (List PV)} {v : PV} : appG d k (.tsl es κ) (.p v) = (κ.1 = d ∧ κ.2.1 = k) := by simp [appG]
@[go_sem] theorem appG_arr_p {d k n z : Nat} {κ : Key} {v : PV} : appG d k (.arr κ n z) (.p v) = (κ.1 = d ∧ κ.2.1 = k) := by simp [appG]
@[go_sem] theorem boxG_bp {d k : Nat} {κ : Key} {off : Nat} : boxG d k (.bp κ off) = (κ.1 = d ∧ κ.2.1 = k) := rfl
attribute [go_sem] wkA_false gops_nil gops_cons gop1_none gop1_some guardT_some guardV_bool guardV_und guardB_tt guardB_tf guardB_ft guardB_ff gopT_app skipT_app gwpT_app kont_app nopK_app undK_app pickK_app gop_move gop_assign gop_pick gop_alloc gop_box gop_build gop_buildSlice gop_load gop_store gop_nil gop_bin gop_un gop_conv gop_fn gop_slice gop_fieldAddr gop_field gop_indexAddr gop_index gop_extract gop_call gop_len gop_append gop_min gop_max gwp_skip gwp_region gwp_seq gwp_cond gwp_block gwp_exit gwp_ret then_normal then_exit then_ret block_normal block_ret block_exit condV_bool post_ret post_normal ress_nil ress_tmp ress_cell resK_app consK_app retK_one retK_nil retK_two ge_tmp ge_func ge_int ge_bool ge_str ge_ptr ge_sl ge_nfn upd_app put_some put_none initF_app appD_nop appD_fill appD_set appD_heap free_some fillKey_app setKey_nil cut_top get_fill get_set3 get_cut_top agree_fill agree_set agree_cut agree_refl
attribute [go_sem] gLoad gLoadC gStore gfill gBuild gBuildSlice partsOf gFieldAddr gField gIndex gbound lenOf ibin gUn gConv gMin purs pur okd okds closed closeds elems splP adopt adopts cv1 cv Ret Rets weak weaks poison poisons poisonO isNilOf dstIn frz frzs scal scals
attribute [go_sem] List.map_append List.length_set List.map_set fillKey_same fillKey_sort keep_eq List.size_toArray forall_eq forall_eq_or_imp setKey_fill setKey_fill_ne cleanS_F cleanS_Gf cleanG_in cleanG_out cleanG_cut clean_nil clean_clean cutQ
attribute [go_sem] Option.bind_some Option.bind_none Option.map_some Option.map_none Option.getD_some Option.getD_none Option.isNone_none Option.isNone_some Option.isSome_some Option.isSome_none
attribute [go_sem] List.getElem?_cons_zero List.getElem?_cons_succ List.getElem?_nil List.getD_cons_zero List.getD_cons_succ List.getD_nil List.drop_zero List.drop_succ_cons List.drop_nil List.take_zero List.take_succ_cons List.take_nil List.map_cons List.map_nil List.length_cons List.length_nil List.length_map List.cons_append List.nil_append List.append_nil List.set_cons_zero List.set_cons_succ List.mem_cons List.not_mem_nil List.getElem?_map List.cons.injEq
attribute [go_sem] true_and and_true false_and and_false and_self or_true true_or or_false false_or not_true_eq_false not_false_eq_true true_implies implies_true false_implies forall_const exists_eq_left exists_eq_right exists_eq_left' exists_eq_right' exists_eq exists_eq' exists_and_left exists_and_right exists_false exists_const eq_self ne_eq Bool.not_true Bool.not_false Bool.true_and Bool.false_and Bool.and_true Bool.and_false Bool.true_or Bool.false_or Bool.or_true Bool.or_false decide_true decide_false Bool.false_eq_true Bool.true_eq_false reduceCtorEq
attribute [go_sem] GV.p.injEq GV.csl.injEq GV.tsl.injEq GV.bp.injEq GV.ep.injEq GV.arr.injEq GV.ap.injEq GV.agg.injEq GV.tup.injEq GV.fn.injEq PV.int.injEq PV.bool.injEq PV.str.injEq PV.sl.injEq PV.pt.injEq Obj'.box.injEq Obj'.tok.injEq Obj'.arr.injEq Sum.inl.injEq Sum.inr.injEq Prod.mk.injEq GE.exit.injEq Option.some.injEq
theorem and_self_iff' {p : Prop} : (p ∧ p) = p := and_self p
theorem d_le_succ {d : Nat} : (d ≤ d + 1) = True := by simp
theorem le_self {d : Nat} : (d ≤ d) = True := by simp
theorem succ_not_le {d : Nat} : (d + 1 ≤ d) = False := by simp
theorem lt_succ' {d : Nat} : (d < d + 1) = True := by simp
theorem succ_ne' {d : Nat} : (d + 1 = d) = False := by simp
theorem ne_succ' {d : Nat} : (d = d + 1) = False := by simp
theorem not_lt_self {d : Nat} : (d < d) = False := by simp
attribute [go_sem] d_le_succ le_self succ_not_le lt_succ' succ_ne' ne_succ' not_lt_self
@[go_sem] theorem beq_tt {b : Bool} : (b == true) = b := by cases b <;> rfl
@[go_sem] theorem tt_beq {b : Bool} : (true == b) = b := by cases b <;> rfl
@[go_sem] theorem beq_ff {b : Bool} : (b == false) = !b := by cases b <;> rfl
@[go_sem] theorem ff_beq {b : Bool} : (false == b) = !b := by cases b <;> rfl
@[go_sem] theorem not_not_b {b : Bool} : (!(!b)) = b := by cases b <;> rfl
@[go_sem] theorem wkRs_self {gs : List GV} : wkRs gs gs = True := eq_true (wkRs_refl gs)
@[go_sem] theorem wkR_self {g : GV} : wkR g g = True := eq_true (wkR_refl g)
@[go_sem] theorem wkRs_cons {g r : GV} {gs rs : List GV} : wkRs (g :: gs) (r :: rs) = (wkR g r ∧ wkRs gs rs) := by
  apply propext
  rw [show wkRs (g :: gs) (r :: rs) ↔ ∃ r' rs', r :: rs = r' :: rs' ∧ wkR g r' ∧ wkRs gs rs' from by simp only [wkRs]]
  constructor
  · rintro ⟨r', rs', e, h⟩; cases e; exact h
  · intro h; exact ⟨r, rs, rfl, h⟩
@[go_sem] theorem wkR_agg {gs rs : List GV} : wkR (.agg gs) (.agg rs) = wkRs gs rs := by
  apply propext
  rw [show wkR (.agg gs) (.agg rs) ↔ ∃ rs', GV.agg rs = .agg rs' ∧ wkRs gs rs' from by unfold wkR; rfl]
  constructor
  · rintro ⟨rs', e, h⟩; cases e; exact h
  · intro h; exact ⟨rs, rfl, h⟩
@[go_sem] theorem wkR_p {v : PV} {r : GV} : wkR (.p v) r = (r = .p v) := by unfold wkR; rfl
@[go_sem] theorem wkR_csl {es es' : List (List PV)} : wkR (.csl es) (.p (.sl es')) = (es' = es) := by unfold wkR; simp
@[go_sem] theorem wkR_tsl {es es' : List (List PV)} {κ : Key} : wkR (.tsl es κ) (.p (.sl es')) = (es' = es) := by unfold wkR; simp
@[go_sem] theorem wkR_fn {f : FuncId} {gs : List GV} {r : GV} : wkR (.fn f gs) r = (r = .fn f gs) := by unfold wkR; rfl
@[go_sem] theorem wkR_ep {cs : List PV} {o : Nat} {r : GV} : wkR (.ep cs o) r = (r = .ep cs o) := by unfold wkR; rfl
@[go_sem] theorem wkBs_nil {G : Heap} {d : Nat} : wkBs G d [] [] = True := by unfold wkBs; simp
@[go_sem] theorem wkBs_cons {G : Heap} {d : Nat} {g r : GV} {gs rs : List GV} : wkBs G d (g :: gs) (r :: rs) = (wkB G d g r ∧ wkBs G d gs rs) := by
  apply propext
  rw [show wkBs G d (g :: gs) (r :: rs) ↔ ∃ r' rs', r :: rs = r' :: rs' ∧ wkB G d g r' ∧ wkBs G d gs rs' from by simp only [wkBs]]
  constructor
  · rintro ⟨r', rs', e, h⟩; cases e; exact h
  · intro h; exact ⟨r, rs, rfl, h⟩
@[go_sem] theorem wkB_agg {G : Heap} {d : Nat} {gs rs : List GV} : wkB G d (.agg gs) (.agg rs) = wkBs G d gs rs := by
  apply propext
  rw [show wkB G d (.agg gs) (.agg rs) ↔ ∃ rs', GV.agg rs = .agg rs' ∧ wkBs G d gs rs' from by unfold wkB; rfl]
  constructor
  · rintro ⟨rs', e, h⟩; cases e; exact h
  · intro h; exact ⟨rs, rfl, h⟩
@[go_sem] theorem wkB_fn {G : Heap} {d : Nat} {f f' : FuncId} {gs rs : List GV} : wkB G d (.fn f gs) (.fn f' rs) = (f' = f ∧ wkBs G d gs rs) := by
  apply propext
  rw [show wkB G d (.fn f gs) (.fn f' rs) ↔ ∃ rs', GV.fn f' rs = .fn f rs' ∧ wkBs G d gs rs' from by unfold wkB; rfl]
  constructor
  · rintro ⟨rs', e, h⟩; cases e; exact ⟨rfl, h⟩
  · rintro ⟨rfl, h⟩; exact ⟨rs, rfl, h⟩
@[go_sem] theorem wkB_p {G : Heap} {d : Nat} {v : PV} {r : GV} : wkB G d (.p v) r = (r = .p v) := by unfold wkB; rfl
@[go_sem] theorem wkB_csl {G : Heap} {d : Nat} {es es' : List (List PV)} : wkB G d (.csl es) (.p (.sl es')) = (es' = es) := by unfold wkB; simp
@[go_sem] theorem wkB_tsl {G : Heap} {d : Nat} {κ : Key} {es es' : List (List PV)} : wkB G d (.tsl es κ) (.p (.sl es')) = (es' = es) := by unfold wkB; simp
@[go_sem] theorem wkB_ep {G : Heap} {d : Nat} {cs : List PV} {o : Nat} {r : GV} : wkB G d (.ep cs o) r = (r = .ep cs o) := by unfold wkB; rfl
@[go_sem] theorem wkB_bp {G : Heap} {d : Nat} {κ : Key} {off : Nat} {r : GV} : wkB G d (.bp κ off) r = (κ.1 ≤ d ∧ match get G κ with
    | some (.box cs) => match purs cs with
      | some ps => r = .ep ps off ∨ (off = 0 ∧ r = .p (.pt ps))
      | none => False
    | _ => False) := by unfold wkB; rfl
@[go_sem] theorem wkB_arr {G : Heap} {d : Nat} {κ : Key} {n sz : Nat} {r : GV} : wkB G d (.arr κ n sz) r = (κ.1 ≤ d ∧ match get G κ with
    | some (.arr es) => es.length = n ∧ r = .p (.sl es)
    | _ => False) := by unfold wkB; rfl
section
variable {P : Program} {t : TypeId} {K : GV → Prop}
@[go_sem] theorem gLen_str {s : ByteArray} : gLen P t (.p (.str s)) K = (isStr P t = true ∧ K (.p (.int .i64 s.size))) := rfl
@[go_sem] theorem gLen_sl {es : List (List PV)} : gLen P t (.p (.sl es)) K = (isSl P t = true ∧ K (.p (.int .i64 es.length))) := rfl
@[go_sem] theorem gLen_csl {es : List (List PV)} : gLen P t (.csl es) K = (isSl P t = true ∧ K (.p (.int .i64 es.length))) := rfl
@[go_sem] theorem gLen_tsl {es : List (List PV)} {κ : Key} : gLen P t (.tsl es κ) K = (isSl P t = true ∧ K (.p (.int .i64 es.length))) := rfl
@[go_sem] theorem gLen_arr {κ : Key} {n sz : Nat} : gLen P t (.arr κ n sz) K = (isSl P t = true ∧ K (.p (.int .i64 n))) := rfl
@[go_sem] theorem gIndexAddr_sl {es : List (List PV)} {k : IntKind} {j : Int} : gIndexAddr P t (.p (.sl es)) (.p (.int k j)) K = match elT P t with
    | some (_, n, _) => 0 ≤ j ∧ match es[j.toNat]? with
      | some e => e.length = n ∧ K (.ep e 0)
      | none => False
    | none => False := by
  unfold gIndexAddr
  cases elT P t
  · cases aelT P t <;> rfl
  · rfl
@[go_sem] theorem gIndexAddr_csl {es : List (List PV)} {i : GV} : gIndexAddr P t (.csl es) i K = gIndexAddr P t (.p (.sl es)) i K := by
  unfold gIndexAddr <;> cases elT P t <;> cases i <;> try rfl
  all_goals (rename_i v; cases v <;> try rfl)
  all_goals (cases aelT P t <;> rfl)
@[go_sem] theorem gIndexAddr_tsl {es : List (List PV)} {κ : Key} {i : GV} : gIndexAddr P t (.tsl es κ) i K = gIndexAddr P t (.p (.sl es)) i K := by
  unfold gIndexAddr <;> cases elT P t <;> cases i <;> try rfl
  all_goals (rename_i v; cases v <;> try rfl)
  all_goals (cases aelT P t <;> rfl)
@[go_sem] theorem gIndexAddr_arr {κ : Key} {m sz : Nat} {k : IntKind} {j : Int} : gIndexAddr P t (.arr κ m sz) (.p (.int k j)) K = match elT P t with
    | some (_, n, _) => sz = n ∧ 0 ≤ j ∧ j < m ∧ K (.ap κ m j.toNat 0)
    | none => False := by
  unfold gIndexAddr
  cases elT P t
  · cases aelT P t <;> rfl
  · rfl
@[go_sem] theorem gIndexAddr_bp {κ : Key} {off : Nat} {k : IntKind} {j : Int} : gIndexAddr P t (.bp κ off) (.p (.int k j)) K = match elT P t with
    | some _ => False
    | none => match aelT P t with
      | some (m, n) => 0 ≤ j ∧ j < m ∧ K (.bp κ (off + j.toNat * n))
      | none => False := by
  unfold gIndexAddr
  cases elT P t
  · cases aelT P t <;> rfl
  · rfl
@[go_sem] theorem gSlice_str {s : ByteArray} {lo hi mx : Option GV} : gSlice P t (.p (.str s)) lo hi mx K = (isStr P t = true ∧ mx.isNone = true ∧ match gbound lo 0, gbound hi s.size with
    | some l, some h => 0 ≤ l ∧ l ≤ h ∧ h ≤ s.size ∧ K (.p (.str (s.extract l.toNat h.toNat)))
    | _, _ => False) := rfl
@[go_sem] theorem gSlice_sl {es : List (List PV)} {lo hi : Option GV} : gSlice P t (.p (.sl es)) lo hi none K = match elT P t with
    | some (_, n, _) => sizes es n ∧ match gbound lo 0, gbound hi es.length with
      | some l, some h => 0 ≤ l ∧ l ≤ h ∧ h ≤ es.length ∧ K (.p (.sl ((es.take h.toNat).drop l.toNat)))
      | _, _ => False
    | none => False := by
  unfold gSlice
  cases elT P t
  · rfl
  · simp only [elems]
    cases gbound lo 0 <;> cases gbound hi es.length <;> rfl
@[go_sem] theorem gSlice_csl {es : List (List PV)} {lo hi mx : Option GV} : gSlice P t (.csl es) lo hi mx K = gSlice P t (.p (.sl es)) lo hi mx K := rfl
@[go_sem] theorem gSlice_tsl {es : List (List PV)} {κ : Key} {lo hi mx : Option GV} : gSlice P t (.tsl es κ) lo hi mx K = gSlice P t (.p (.sl es)) lo hi mx K := rfl
@[go_sem] theorem gBin_int {op : BinOp} {k k' : IntKind} {a b : Int} : gBin P op t (.p (.int k a)) (.p (.int k' b)) K = match op with
    | .shl => 0 ≤ b ∧ K (.p (.int k (shlI k a b)))
    | .shr => 0 ≤ b ∧ K (.p (.int k (shrI k a b)))
    | .quo => k = k' ∧ b ≠ 0 ∧ K (.p (.int k (k.wrap (a.tdiv b))))
    | .rem => k = k' ∧ b ≠ 0 ∧ K (.p (.int k (a.tmod b)))
    | op => k = k' ∧ match ibin op k a b with
      | some v => K (.p v)
      | none => False := rfl
@[go_sem] theorem gBin_bool {op : BinOp} {a b : Bool} : gBin P op t (.p (.bool a)) (.p (.bool b)) K = (isBool P t = true ∧ match op with
    | .eql => K (.p (.bool (a == b)))
    | .neq => K (.p (.bool (!(a == b))))
    | _ => False) := rfl
@[go_sem] theorem gBin_str {op : BinOp} {a b : ByteArray} : gBin P op t (.p (.str a)) (.p (.str b)) K = match op with
    | .add => a.size + b.size ≤ 9223372036854775807 ∧ K (.p (.str (a ++ b)))
    | .eql => K (.p (.bool (decide (a = b))))
    | .neq => K (.p (.bool (!decide (a = b))))
    | .lss => K (.p (.bool (Op.bytesLess a.toList b.toList)))
    | _ => False := rfl
@[go_sem] theorem gBin_agg {op : BinOp} {xs ys : List GV} : gBin P op t (.agg xs) (.agg ys) K = match op with
    | .eql => gEqS P t xs ys false K
    | .neq => gEqS P t xs ys true K
    | _ => False := rfl
def ptrBin (P : Program) (op : BinOp) (t : TypeId) (a b : Bool) (K : GV → Prop) : Prop := isPtr P t = true ∧ (a || b) = true ∧ match op with
  | .eql => K (.p (.bool (a && b)))
  | .neq => K (.p (.bool (!(a && b))))
  | _ => False
attribute [go_sem] ptrBin
@[go_sem] theorem gBin_null_null {op : BinOp} : gBin P op t (.p .null) (.p .null) K = ptrBin P op t true true K := rfl
@[go_sem] theorem gBin_bp_null {op : BinOp} {κ : Key} {o : Nat} : gBin P op t (.bp κ o) (.p .null) K = ptrBin P op t false true K := rfl
@[go_sem] theorem gBin_null_bp {op : BinOp} {κ : Key} {o : Nat} : gBin P op t (.p .null) (.bp κ o) K = ptrBin P op t true false K := rfl
@[go_sem] theorem gBin_ep_null {op : BinOp} {cs : List PV} {o : Nat} : gBin P op t (.ep cs o) (.p .null) K = ptrBin P op t false true K := rfl
@[go_sem] theorem gBin_pt_null {op : BinOp} {cs : List PV} : gBin P op t (.p (.pt cs)) (.p .null) K = ptrBin P op t false true K := rfl
@[go_sem] theorem gBin_null_pt {op : BinOp} {cs : List PV} : gBin P op t (.p .null) (.p (.pt cs)) K = ptrBin P op t true false K := rfl
end
@[go_sem] theorem array_get {α : Type} {l : List α} {i : Nat} : l.toArray[i]? = l[i]? := by simp
theorem gCall_eta {A : Ann} {C : Nat → FuncId → List GV → Heap → GV → Heap → Prop} {d d' : Nat} {f : GV} {args : List GV} {t t' : Option Nat} {K : St → Prop} {s : St} {X : Heap} (h : s.G = X) (hK : gCall C A d X f args t (kont d' t' K ⟨s.F, X⟩)) : gCall C A d X f args t (kont d' t' K s) := by
  subst h; exact hK
end Go.Eng
