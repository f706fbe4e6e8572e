import Derived.Test.YtifjmokilbijlaaDoorMLexLexTkT
import Derived.Test.YtifjmokilbijlaaDoorPLexx0
namespace Go.Proofs.YtifjmokilbijlaaDoor.PLex
open Go Go.RowKit Go.Proofs.YtifjmokilbijlaaDoorW.PrintWords Go.Proofs.YtifjmokilbijlaaDoorW.PrintLast Go.Proofs.YtifjmokilbijlaaDoorW.PrintMore BallLex
attribute [local go_sem] max2_int min2_int max_two min_two max_three min_three max_four min_four
set_option linter.unusedVariables false
set_option linter.unusedSimpArgs false
def oreg10.T : Bool × List (List Nat × List Nat) := (true, [([], []), ([], []), ([1], [1]), ([0, 2], [0, 2]), ([], []), ([3, 4, 0, 1, 2, 3, 4], [3])])
def oreg10.B : List Nat := [0, 0, 2, 7, 0, 31]
theorem oreg10.tab : rtab .any (opsOf Tryd.f14 10) = oreg10.T := by kernel_rfl
theorem oreg10.bits : waitsOk oreg10.T.2 oreg10.B = true := by kernel_rfl
/-- A token, as the program's. -/
def s32 (s : ByteArray) (t : Tk) : S32 := ⟨(t.k : Int), s.extract t.a t.b, (t.a : Int)⟩
/-- What is handed back once some tokens are there. -/
def cont (s : ByteArray) (l : List S32) (i : Nat) : List S32 × Int × Int := match toks s i with
  | .inl m => (l ++ m.map (s32 s), 0, 0)
  | .inr e => ([], 10, (e : Int))
/-- What lex.Tokens hands back. -/
def tokR (s : ByteArray) : List S32 × Int × Int := if 6000 < s.size then ([], 13, 0) else cont s [] 0
theorem cont_more {s : ByteArray} {l : List S32} {i k j : Nat} (h : nb s i < s.size) (ht : tokAt s (nb s i) = some (k, j)) : cont s l i = cont s (l ++ [⟨(k : Int), s.extract (nb s i) j, ((nb s i : Nat) : Int)⟩]) j := by
  unfold cont
  rw [toks_more h ht]
  cases toks s j with
  | inl m => simp [s32]
  | inr e => rfl
theorem cont_bad {s : ByteArray} {l : List S32} {i : Nat} (h : nb s i < s.size) (ht : tokAt s (nb s i) = none) : cont s l i = ([], 10, ((nb s i : Nat) : Int)) := by
  unfold cont
  rw [toks_bad h ht]
theorem cont_end {s : ByteArray} {l : List S32} {i : Nat} (h : ¬ nb s i < s.size) : cont s l i = (l ++ [⟨3, ⟨#[]⟩, (s.size : Int)⟩], 0, 0) := by
  unfold cont
  rw [toks_end h]
  simp only [List.map_cons, List.map_nil, s32, ← lit0]
  rfl
def TokO (R : List S32 × Int × Int) (w : World) (e : Ending) (w' : World) : Prop := ∃ v0_ : Value, e = .returned (.tuple #[v0_, .agg #[.int .i64 R.2.1, .int .i64 R.2.2]]) ∧ Kd.R k32 32 w' w.heap.size (fun _ => True) v0_ R.1 ∧ Below w.heap.size w w'
set_option maxHeartbeats 4000000 in
set_option maxRecDepth 100000 in
theorem tokens_big (s : ByteArray) (hs : 6000 < s.size) (w : World) : Calls Tryd.prog 14 #[.string s] w (TokO ([], 13, 0) w) := by
  have d1 : decide (6000 < (s.size : Int)) = true := decide_eq_true (by omega)
  have d2 : decide (6000 < s.size) = true := decide_eq_true hs
  have BK := Aside0.mk (blk_new w (.cells #[.int .i64 0, .int .i64 0] 26 (0, 0)))
  have HB := Aside0.mk (below_alloc (Below.refl w.heap.size w) (.cells #[.int .i64 0, .int .i64 0] 26 (0, 0)))
  clear hs
  go_enter Tryd.func14, Tryd.ntmps14
  go_wp2_with (fail)
  (try simp only [Exit.inBlock, Exit.then])
  have bk := blk_new w (.cells #[.int .i64 13, .int .i64 0] 26 (0, 0))
  refine bodyPost_ret (results_tc rfl _ _ w.heap.size 26 #[.int .i64 13, .int .i64 0] (0, 0) _ rfl bk Tryd.underlying26 rfl (by kernel_rfl)) rfl ?_
  exact ⟨_, rfl, Kd.R_nil _ _ _ _ _, below_alloc (Below.refl w.heap.size w) _⟩
set_option maxHeartbeats 4000000 in
set_option maxRecDepth 100000 in
theorem tokens_c (s : ByteArray) (hs : ¬ 6000 < s.size) (w : World) : Calls Tryd.prog 14 #[.string s] w (TokO (cont s [] 0) w) := by
  have hu26 := Tryd.underlying26
  have hu32 := Tryd.underlying32
  have d1 : decide (6000 < (s.size : Int)) = false := decide_eq_false (by omega)
  have d2 : decide (6000 < s.size) = false := decide_eq_false hs
  have HS := Aside0.mk (two_new w (.cells #[.int .i64 0, .int .i64 0] 26 (0, 0)) (.cells #[.string s, .int .i64 0] 54 (0, 0)))
  have HB := Aside0.mk (below_alloc (below_alloc (Below.refl w.heap.size w) (.cells #[.int .i64 0, .int .i64 0] 26 (0, 0))) (.cells #[.string s, .int .i64 0] 54 (0, 0)))
  have HN := Aside0.mk (show s.size ≤ 6000 ∧ s.size ≤ 1000000 from ⟨by omega, by omega⟩)
  have HG := Aside0.mk (show w.heap.size ≤ w.heap.size ∧ w.heap.size ≤ w.heap.size + 1 ∧ w.heap.size + 1 ≠ w.heap.size from ⟨Nat.le_refl _, Nat.le_succ _, by omega⟩)
  clear hs
  go_enter Tryd.func14, Tryd.ntmps14
  go_wp2_with (fail)
  clear d1 d2
  generalize hW2 : (w.alloc (.cells #[.int .i64 0, .int .i64 0] 26 (0, 0))).alloc (.cells #[.string s, .int .i64 0] 54 (0, 0)) = W2 at HS HB ⊢
  clear hW2
  obtain ⟨gf, hgf⟩ : ∃ gf, gf = w.heap.size := ⟨_, rfl⟩
  obtain ⟨gl, hgl⟩ : ∃ gl, gl = w.heap.size + 1 := ⟨_, rfl⟩
  have HF := Aside0.mk (show W2.heap[gf]? = some (.cells #[.int .i64 0, .int .i64 0] 26 (0, 0)) by rw [hgf]; exact HS.out.1)
  have HL := Aside0.mk (show W2.heap[gl]? = some (.cells #[.string s, .int .i64 0] 54 (0, 0)) by rw [hgl]; exact HS.out.2)
  have GG := Aside0.mk (show w.heap.size ≤ gf ∧ w.heap.size ≤ gl ∧ gf ≠ gl by omega)
  clear HS HG
  rw [← hgl, ← hgf]
  clear hgl hgf
  obtain ⟨kk, hkk⟩ : ∃ k : Nat, k = s.size + 1 := ⟨_, rfl⟩
  go_loopg [5] kk (fun kq v5 W => ∃ (i : Nat) (l : List S32), Aside0 (i ≤ s.size ∧ s.size < i + kq ∧ l.length ≤ i) ∧ Aside0 (kq ≤ kk) ∧ Aside0 (cont s l i = cont s [] 0) ∧ Aside0 (Kd.R k32 32 W w.heap.size (fun _ => True) v5 l) ∧ Aside0 (W.heap[gl]? = some (.cells #[.string s, .int .i64 (i : Int)] 54 (0, 0))) ∧ Aside0 (W.heap[gf]? = some (.cells #[.int .i64 0, .int .i64 0] 26 (0, 0))) ∧ Aside0 (Below w.heap.size w W))
  case atStart => exact ⟨0, [], ⟨by simp; omega⟩, ⟨Nat.le_refl _⟩, ⟨rfl⟩, ⟨Kd.R_nil _ _ _ _ _⟩, HL, HF, HB⟩
  case round =>
    clear HB HL HF
    obtain ⟨i, l, HI, HK, HC, HR, HL, HF, HB⟩ := hrel
    cases gk with
    | zero => exact absurd HI.out (by omega)
    | succ k1 =>
      go_wp2_with (fail)
      refine (blanks_c gl s i HI.out.1 HN.out.2 w _ HB.out GG.out.2.1 HL.out).mono ?_
      rintro e W1 ⟨rfl, hG1, hK1, hB1⟩
      have HR1 := Aside0.mk (Kd.R_mono (Kd.R_keep (Kd.R_types HR.out HL.out (by decide)) hK1 (fun _ h => h.2)) (fun _ _ => trivial))
      have HF1 := Aside0.mk (hK1.blk HF.out GG.out.2.2 (by simp))
      obtain ⟨j, hj⟩ : ∃ j, nb s i = j := ⟨_, rfl⟩
      have hle := nb_ge s i
      have hle2 := nb_le s i HI.out.1
      rw [hj] at hG1 hle hle2
      have HL1 := Aside0.mk hG1
      have HB1 := Aside0.mk hB1
      have HJ := Aside0.mk hj
      have HJ2 := Aside0.mk (show i ≤ j ∧ j ≤ s.size from ⟨hle, hle2⟩)
      clear HR HL HF HB hG1 hK1 hB1 hj hle hle2
      have k1' := (cw2 HL1.out).2
      by_cases hlt : j < s.size
      · have dn : ((j : Int) == (s.size : Int)) = false := by simp; omega
        have HLt := Aside0.mk hlt
        clear hlt
        go_wp2_with (fail)
        refine (token_c gl s j HLt.out HN.out.2 w _ HB1.out GG.out.2.1 HL1.out).mono ?_
        rintro e W2 (⟨k, q, ht, rfl, hG2, hK2, hB2⟩ | ⟨ht, ⟨x, y, rfl⟩, hK2, hB2⟩)
        · have HR2 := Aside0.mk (Kd.R_mono (Kd.R_keep (Kd.R_types HR1.out HL1.out (by decide)) hK2 (fun _ h => h.2)) (fun _ _ => trivial))
          have HF2 := Aside0.mk (hK2.blk HF1.out GG.out.2.2 (by simp))
          have HL2 := Aside0.mk hG2
          have HB2 := Aside0.mk hB2
          have HT := Aside0.mk ht
          clear HR1 HF1 HL1 HB1 hG2 hK2 hB2 ht k1' dn
          simp only [tkv]
          have HE := Aside0.mk (show (W2.alloc (.cells #[.int .i64 (k : Int), .string (s.extract j q), .int .i64 (j : Int)] 32 (0, 0))).heap.size = W2.heap.size + 1 by show (W2.heap.push _).size = _; simp)
          go_wp2_with (first | ((with_reducible refine gate_builtin (b := .append) (xs := #[.tmp 44, .tmp 46]) rfl ?_); at_builtin; refine Kd.R_append k32 (w0 := w) w.heap.size rfl (.tmp 44) (.tmp 46) 23 32 (.agg #[(.int .i64 0), (.string ⟨#[]⟩), (.int .i64 0)]) 32 rfl Tryd.underlying23 info32 rfl (by decide) (by omega) u5 l (⟨(k : Int), s.extract j q, (j : Int)⟩ : S32) [.int .i64 (k : Int), .string (s.extract j q), .int .i64 (j : Int)] (fun _ => True) (fun _ => False) rfl (by rw [HE.out]; rfl) ?aP (fun _ hk => hk.elim) ?aF ?aO ?aB ?aS ?aL ?_; (case aP => exact k32_mkM _ _ _ (⟨(k : Int), s.extract j q, (j : Int)⟩ : S32)); (case aB => exact (below_alloc HB2.out (.cells #[.int .i64 (k : Int), .string (s.extract j q), .int .i64 (j : Int)] 32 (0, 0)))); (case aF => exact (fun _ _ => trivial)); (case aO => exact (Kd.R_alloc HR2.out (.cells #[.int .i64 (k : Int), .string (s.extract j q), .int .i64 (j : Int)] 32 (0, 0)))); (case aS => exact (below_size (below_alloc HB2.out (.cells #[.int .i64 (k : Int), .string (s.extract j q), .int .i64 (j : Int)] 32 (0, 0))))); (case aL => have := HI.out; have := HN.out; omega); intro v1 w1 ho hb hg hat; have HRa := Aside0.mk ho; have HBa := Aside0.mk hb; have HGa := Aside0.mk hg; clear ho hb hg hat))
          have hgt := tokAt_gt HLt.out HT.out
          have hc := cont_more (l := l) (by rw [HJ.out]; exact HLt.out) (by rw [HJ.out]; exact HT.out)
          rw [HJ.out] at hc
          go_roundg k1
          case measure => have := HK.out; omega
          case rel =>
            refine ⟨q, l ++ [⟨(k : Int), s.extract j q, (j : Int)⟩], ⟨by have := HI.out; have := HJ2.out; have := HLt.out; rw [List.length_append]; simp only [List.length_cons, List.length_nil]; omega⟩, ⟨by have := HK.out; omega⟩, ⟨hc.symm.trans HC.out⟩, HRa, ⟨?_⟩, ⟨?_⟩, HBa⟩
            · exact blk_grown (blk_alloc HL2.out (.cells #[.int .i64 (k : Int), .string (s.extract j q), .int .i64 (j : Int)] 32 (0, 0))) HGa.out (Kd.R_ne (Kd.R_alloc HR2.out (.cells #[.int .i64 (k : Int), .string (s.extract j q), .int .i64 (j : Int)] 32 (0, 0))) (blk_alloc HL2.out (.cells #[.int .i64 (k : Int), .string (s.extract j q), .int .i64 (j : Int)] 32 (0, 0))) (by decide))
            · exact blk_grown (blk_alloc HF2.out (.cells #[.int .i64 (k : Int), .string (s.extract j q), .int .i64 (j : Int)] 32 (0, 0))) HGa.out (Kd.R_ne (Kd.R_alloc HR2.out (.cells #[.int .i64 (k : Int), .string (s.extract j q), .int .i64 (j : Int)] 32 (0, 0))) (blk_alloc HF2.out (.cells #[.int .i64 (k : Int), .string (s.extract j q), .int .i64 (j : Int)] 32 (0, 0))) (by decide))
        · have hc := cont_bad (l := l) (by rw [HJ.out]; exact HLt.out) (by rw [HJ.out]; exact ht)
          rw [HJ.out] at hc
          have HC2 := Aside0.mk (HC.out.symm.trans hc)
          have HF2 := Aside0.mk (blk_alloc (hK2.blk HF1.out GG.out.2.2 (by simp)) (.cells #[.int .i64 x, .string y, .int .i64 (j : Int)] 32 (0, 0)))
          have HB2 := Aside0.mk (below_alloc hB2 (.cells #[.int .i64 x, .string y, .int .i64 (j : Int)] 32 (0, 0)))
          have H6 := Aside0.mk (blk_new W2 (.cells #[.int .i64 x, .string y, .int .i64 (j : Int)] 32 (0, 0)))
          clear HR1 HF1 HL1 HB1 hK2 hB2 ht k1' dn hc
          go_wp2_with (fail)
          generalize W2.alloc (.cells #[.int .i64 x, .string y, .int .i64 (j : Int)] 32 (0, 0)) = W3 at HF2 HB2 H6 ⊢
          generalize W2.heap.size = g6 at H6 ⊢
          have k6 := (cw3 H6.out).2.2
          have HF3 := Aside0.mk (blk_drew HF2.out)
          have HB3 := Aside0.mk (below_drew1 HB2.out)
          refine start_ (n := 6) (S := (fun w' => w'.cell? ⟨g6, 2, none⟩ = some (.int .i64 (j : Int)))) (ds := [5]) #[f_, f_, f_, f_, f_, f_] (by kernel_rfl) rfl rfl (k6) (fun hHeld => ?_); refine with_tabW oreg10.tab oreg10.bits (fun HT_ HW_ => ?_)
          clear k6 HF2 HB2 H6
          generalize W3.drew = Wq at HF3 HB3 hHeld ⊢
          refine pure_ (i := 0) (N := some 40) (v := ?_) (a' := ?_) #[t_, f_, f_, f_, f_, f_] rfl rfl (any_of HT_.out (by kernel_rfl)) (fun _ _ _ h => h) (Or.inl ⟨by rfl, ?_⟩) ?_ ?_
          rotate_left
          · intro w'
            go_simp
            with_reducible rfl
          rotate_left
          · simp only [Act.put, List.setIfInBounds_toArray, List.set_cons_zero, List.set_cons_succ, i64_w, i32_w]
            rfl
          refine pure_ (i := 1) (N := some 41) (v := ?_) (a' := ?_) #[t_, t_, f_, f_, f_, f_] rfl rfl (any_of HT_.out (by kernel_rfl)) (fun _ _ _ h => h) (Or.inl ⟨by rfl, ?_⟩) ?_ ?_
          rotate_left
          · intro w'
            go_simp
            with_reducible rfl
          rotate_left
          · simp only [Act.put, List.setIfInBounds_toArray, List.set_cons_zero, List.set_cons_succ, i64_w, i32_w]
            rfl
          refine take_ (i := 2) (N := some 42) (v := ?_) (a' := ?_) #[t_, t_, t_, f_, f_, f_] rfl rfl (take_ofW HT_.out HW_.out (by kernel_rfl)) (fun _ _ _ h => h) (Or.inl ⟨by rfl, ?_⟩) hHeld ?_ ?_
          rotate_left
          · intro w' s0
            go_simp
            with_reducible rfl
          rotate_left
          · simp only [Act.put, List.setIfInBounds_toArray, List.set_cons_zero, List.set_cons_succ, i64_w, i32_w]
            rfl
          refine pure_ (i := 3) (N := some 43) (v := ?_) (a' := ?_) #[t_, t_, t_, t_, f_, f_] rfl rfl (any_of HT_.out (by kernel_rfl)) (fun _ _ _ h => h) (Or.inl ⟨by rfl, ?_⟩) ?_ ?_
          rotate_left
          · intro w'
            go_simp
            with_reducible rfl
          rotate_left
          · simp only [Act.put, List.setIfInBounds_toArray, List.set_cons_zero, List.set_cons_succ, i64_w, i32_w]
            rfl
          refine pure_ (i := 4) (N := some 2) (v := ?_) (a' := ?_) #[t_, t_, t_, t_, t_, f_] rfl rfl (any_of HT_.out (by kernel_rfl)) (fun _ _ _ h => h) (Or.inl ⟨by rfl, ?_⟩) ?_ ?_
          rotate_left
          · intro w'
            go_simp
            with_reducible rfl
          rotate_left
          · simp only [Act.put, List.setIfInBounds_toArray, List.set_cons_zero, List.set_cons_succ, i64_w, i32_w]
            rfl
          refine last_ (i := 5) (N := none) #[t_, t_, t_, t_, t_, t_] rfl rfl (one_of HT_.out (by kernel_rfl)) (by decide) (fun K_ hK => ?_)
          have z := cw2 HF3.out
          have z0 := z.1
          have z1 := z.2
          have f0 := blk_frozen HF3.out 0
          have f1 := blk_frozen HF3.out 1
          clear z
          rw [if_pos (by rfl)]
          unfold Oper.wp
          go_simp
          refine hK.out _ _ ?_
          refine done_ (done_of HT_.out (by kernel_rfl)) ?_
          go_wp2_with (fail)
          (try simp only [Exit.inBlock, Exit.then])
          rw [HC2.out]
          refine bodyPost_ret (results_tc rfl _ _ gf 26 #[.int .i64 10, .int .i64 (j : Int)] (0, 0) _ rfl (blk_put (blk_put HF3.out 0 _ rfl) 1 _ rfl) Tryd.underlying26 rfl (by kernel_rfl)) rfl ?_
          exact ⟨_, rfl, Kd.R_nil _ _ _ _ _, below_set (below_set HB3.out GG.out.1) GG.out.1⟩
      · have ej : j = s.size := by have := HJ2.out; omega
        subst ej
        have hc := cont_end (s := s) (l := l) (i := i) (by rw [HJ.out]; omega)
        have HC2 := Aside0.mk (HC.out.symm.trans hc)
        clear hlt hc
        go_wp2_with (first | ((with_reducible refine gate_builtin (b := .append) (xs := #[.tmp 24, .tmp 30]) rfl ?_); at_builtin; refine Kd.R_append k32 (w0 := w) w.heap.size rfl (.tmp 24) (.tmp 30) 23 32 (.agg #[(.int .i64 0), (.string ⟨#[]⟩), (.int .i64 0)]) 32 rfl Tryd.underlying23 info32 rfl (by decide) (by omega) u5 l (⟨3, (⟨#[]⟩ : ByteArray), (s.size : Int)⟩ : S32) [.int .i64 3, .string (⟨#[]⟩ : ByteArray), .int .i64 (s.size : Int)] (fun _ => True) (fun _ => False) rfl rfl ?aP (fun _ hk => hk.elim) ?aF ?aO ?aB ?aS ?aL ?_; (case aP => exact k32_mkM _ _ _ (⟨3, (⟨#[]⟩ : ByteArray), (s.size : Int)⟩ : S32)); (case aB => exact HB1.out); (case aF => exact (fun _ _ => trivial)); (case aO => exact HR1.out); (case aS => exact (below_size HB1.out)); (case aL => have := HI.out; have := HN.out; omega); intro v1 w1 ho hb hg hat; have HRa := Aside0.mk ho; have HBa := Aside0.mk hb; have HGa := Aside0.mk hg; clear ho hb hg hat; have HFa := Aside0.mk (blk_grown HF1.out HGa.out (Kd.R_ne HR1.out HF1.out (by decide))); have z0 := (cw2 HFa.out).1; have z1 := (cw2 HFa.out).2; have f0 := blk_frozen HFa.out 0; have f1 := blk_frozen HFa.out 1))
        (try simp only [Exit.inBlock, Exit.then])
        rw [HC2.out]
        refine bodyPost_ret (results_tc rfl _ _ gf 26 #[.int .i64 0, .int .i64 0] (0, 0) _ rfl (blk_put (blk_put HFa.out 0 _ rfl) 1 _ rfl) Tryd.underlying26 rfl (by kernel_rfl)) rfl ?_
        exact ⟨_, rfl, Kd.R_mono (Kd.R_far (p := ⟨gf, 1, none⟩) (Kd.R_far (p := ⟨gf, 0, none⟩) (Kd.R_types HRa.out HFa.out (by decide)) (fun _ hk => hk.2) (.int .i64 0)) (fun _ hk => hk.2) (.int .i64 0)) (fun _ hk => trivial), below_set (below_set HBa.out GG.out.1) GG.out.1⟩
end Go.Proofs.YtifjmokilbijlaaDoor.PLex
