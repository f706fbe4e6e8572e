import Derived.Test.YtnahfkmdojbpkaaEV
/-! The engine, part W: the rules as they are used; tables of the library's arithmetic; contracts from elsewhere. -/
set_option linter.all false
namespace Go.Eng
theorem cut_top {d t : Nat} {G : Heap} : cut d G (d + 1) t = [] := by unfold cut; rw [if_neg (by omega)]
theorem get_cut_top {d t c : Nat} {G : Heap} : get (cut d G) (d + 1, t, c) = none := by unfold get; dsimp only; rw [cut_top]; rfl
theorem succ_ne {d : Nat} : (d + 1 = d) = False := by simp
@[simp] theorem boxC_tmp' {A : Ann} {d t : Nat} {g : GV} : boxC A d (.tmp t) g = match A.boxAt t with | some k => boxG d k g | none => True := rfl
@[simp] theorem wkC_tmp {P : Program} {A : Ann} {t : TypeId} {x : Nat} {g : GV} : wkC P A t (.tmp x) g = match A.wkey x with | some (κ, o) => wkG P t κ o g | none => True := rfl
@[simp] theorem appC_some {A : Ann} {d j : Nat} {s x : GV} : appC A d (some j) s x = match A.boxAt (j + 1000000) with | some k => appG d k s x | none => True := rfl
attribute [simp] wkA_false gops_nil gops_cons gop1_none gop1_some guardT_some guardV_bool guardV_und guardB_tt guardB_tf guardB_ft guardB_ff gopT_app skipT_app gwpT_app kont_app nopK_app undK_app pickK_app gop_move gop_assign gop_pick gop_alloc gop_box gop_build gop_buildSlice gop_load gop_store gop_nil gop_bin gop_un gop_conv gop_fn gop_slice gop_fieldAddr gop_field gop_indexAddr gop_index gop_extract gop_call gop_len gop_append gop_min gop_max gwp_skip gwp_region gwp_seq gwp_cond gwp_block gwp_exit gwp_ret then_normal then_exit then_ret block_normal block_ret block_exit condV_bool post_ret post_normal ress_nil ress_tmp ress_cell resK_app consK_app retK_one retK_nil retK_two ge_tmp ge_func ge_int ge_bool ge_str ge_ptr ge_sl ge_nfn upd_app put_some put_none initF_app appD_nop appD_fill appD_set appD_heap free_some fillKey_app setKey_nil cut_top get_fill get_set3 get_cut_top agree_fill agree_set agree_cut agree_refl
attribute [simp] gLoad gLoadC gStore gcells gfill gBuild gBuildSlice partsOf gIndexAddr gFieldAddr gField gIndex gbound gSlice lenOf gLen ibin gBin gUn gConv gMin purs pur okd okds wkR wkRs closed closeds elems spl splP adopt adopts cv1 cv Ret Rets weak weaks poison poisons poisonO isNilOf dstIn

/-! ### A contract from elsewhere: values in, values out, nothing that was there changed -/
theorem tel_calls {P : Program} {TB : Nat → Option Obj} {f : FuncId} (hf : FnOK P f) {args : List GV} {r : GV} (hr : ∀ d t0, adopt d t0 r [] = (r, []))
    (h : ∀ (X : XS) (d : Nat) (G : Heap) (R : RMap) (w : World) (vals : List Value), Tabs TB X → Sim X d G R w → VRs (Mem X d G R w) G R d args vals →
      Calls P f vals.toArray w fun e w' => ∃ v, e = .returned v ∧ Grows w w' ∧ VR (Mem X d G R w') G R d r v) (d : Nat) (G : Heap) : Tel P TB d f args G r G := by
  refine ⟨fun d' f' args' G1 r' G2 => f' = f ∧ args' = args ∧ r' = r ∧ G1 = G2, ?_, rfl, rfl, rfl, rfl⟩
  rintro d' f' args' G1 r' G2 ⟨rfl, rfl, rfl, rfl⟩ X R w vals hX hs hv t0 ht _
  refine .inl ⟨hf, (h X d' G1 R w vals hX hs hv).mono ?_⟩
  rintro e w' ⟨v, he, hg, hvr⟩
  refine ⟨v, he, R, ?_, ?_⟩
  · rw [hr]
    have : fillKey G1 d' t0 [] = G1 := fillKey_nil ht
    rw [this]
    exact Step.grow hs hg
  · rw [hr]
    have : fillKey G1 d' t0 [] = G1 := fillKey_nil ht
    rw [this]
    exact hvr
theorem tel_extern {P : Program} {TB : Nat → Option Obj} {f : FuncId} {args : List GV} {r : GV} (hr : ∀ d t0, adopt d t0 r [] = (r, []))
    (h : ∀ (X : XS) (d : Nat) (G : Heap) (R : RMap) (w : World) (vals : List Value), Sim X d G R w → VRs (Mem X d G R w) G R d args vals →
      ∃ v, (callFunc f vals.toArray).run P w = .ok (.value v) w ∧ VR (Mem X d G R w) G R d r v) (d : Nat) (G : Heap) : Tel P TB d f args G r G := by
  refine ⟨fun d' f' args' G1 r' G2 => f' = f ∧ args' = args ∧ r' = r ∧ G1 = G2, ?_, rfl, rfl, rfl, rfl⟩
  rintro d' f' args' G1 r' G2 ⟨rfl, rfl, rfl, rfl⟩ X R w vals hX hs hv t0 ht _
  obtain ⟨v, h1, h2⟩ := h X d' G1 R w vals hs hv
  have e : fillKey G1 d' t0 [] = G1 := fillKey_nil ht
  exact .inr ⟨v, w, h1, R, by rw [hr, e]; exact Step.refl hs, by rw [hr, e]; exact h2⟩
end Go.Eng
