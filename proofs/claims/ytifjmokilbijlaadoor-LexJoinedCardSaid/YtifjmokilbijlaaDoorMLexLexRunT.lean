import Derived.Test.YtifjmokilbijlaaDoorProg
import Derived.Test.YtifjmokilbijlaaDoorWMore
import Derived.Test.YtifjmokilbijlaaDoorWTab
import Derived.Test.YtifjmokilbijlaaDoorMLexLexST
namespace Go.Proofs.YtifjmokilbijlaaDoor.PLex
open Go Go.RowKit Go.Proofs.YtifjmokilbijlaaDoorW.PrintWords Go.Proofs.YtifjmokilbijlaaDoorW.PrintLast Go.Proofs.YtifjmokilbijlaaDoorW.PrintMore BallLex
attribute [local go_sem] max2_int min2_int max_two min_two max_three min_three max_four min_four
set_option linter.unusedVariables false
set_option linter.unusedSimpArgs false
abbrev t_ : Bool := true
abbrev f_ : Bool := false
/-- A call of a function value that lies in a variable. -/
theorem goesv_ {P : Program} {ops : Array Oper} {Q : Exit → Act → World → Prop} {oi : Oper} {N : Option Tmp} {a : Act} {w : World} {K : Act → World → Prop} {f : FuncId} {fn : Func} {t : Tmp} {ars : Array Operand} {ts : Array TypeId} (hf : P.funcs[f]? = some fn) (hname : (fn.name == "runtime.NumGoroutine") = false) (hb : fn.body.isSome = true) (args : Array Value)
    (hw : Region.wanted oi (yielded ops a.tmps) = true) (hN : oi.dst = N) (hop : oi.op = .call { callee := .value (.tmp t), args := ars, argTypes := ts }) (hv : a.eval (.tmp t) = .func (.func f) #[] #[]) (hargs : ars.map a.eval = args)
    (h : Calls P f args w fun e w' => ∃ v, e = .returned v ∧ K (a.put N v) w') : if Region.wanted oi (yielded ops a.tmps) = true then Oper.wp P oi a w K Q else K (a.put N undef) w := by
  refine call_ f args hw hN ?_ h
  have he := enters_ hf hname hb args w
  unfold execOp
  simp [hop, resolve, Deferred.ofValue, invoke, hv, hargs, he]
def rreg2.T : Bool × List (List Nat × List Nat) := (true, [([], []), ([0], [0]), ([1], [1]), ([2], [2]), ([], []), ([4], [4]), ([5], [5]), ([6], [6]), ([7], [7]), ([3, 8], [3, 8]), ([9], [9]), ([10], [10]), ([10], [10]), ([12, 10], [10, 12]), ([13, 10], [10, 13]), ([14, 10], [10, 14]), ([10], [10]), ([16, 10], [10, 16]), ([17, 10], [10, 17]), ([18, 10], [10, 18]), ([15, 19, 10], [10, 15, 19]), ([11, 20, 10, 10], [10, 11, 20]), ([10, 21], [10, 21])])
def rreg2.B : List Nat := [0, 1, 3, 7, 0, 16, 48, 112, 240, 511, 1023, 2047, 2047, 6143, 14335, 30719, 2047, 67583, 198655, 460799, 1046527, 2097151, 4194303]
theorem rreg2.tab : rtab .any (opsOf Tryd.f38 2) = rreg2.T := by kernel_rfl
theorem rreg2.bits : waitsOk rreg2.T.2 rreg2.B = true := by kernel_rfl
def rreg4.T : Bool × List (List Nat × List Nat) := (true, [([], []), ([0], [0]), ([1], [1]), ([2], [2]), ([], []), ([], []), ([5], [5]), ([6], [6]), ([7], [7]), ([3, 4, 8], [3, 4, 8]), ([9, 0, 1, 2, 3, 4, 5, 6, 7, 8, 9], [9])])
def rreg4.B : List Nat := [0, 1, 3, 7, 0, 0, 32, 96, 224, 511, 1023]
theorem rreg4.tab : rtab .any (opsOf Tryd.f38 4) = rreg4.T := by kernel_rfl
theorem rreg4.bits : waitsOk rreg4.T.2 rreg4.B = true := by kernel_rfl
theorem cw2 {W : World} {g : Nat} {t : TypeId} {a b : Value} (h : W.heap[g]? = some (.cells #[a, b] t (0, 0))) : W.cell? ⟨g, 0, none⟩ = some a ∧ W.cell? ⟨g, 1, none⟩ = some b := ⟨(blk_cell h 0).trans rfl, (blk_cell h 1).trans rfl⟩
theorem by_at (s : ByteArray) (i : Nat) (h : i < s.size) : by_ s i = (s[i]'h).toNat := by unfold by_; rw [dif_pos h]
/-- A function value tells a predicate of bytes. -/
def Tells (K : FuncId) (p : Nat → Bool) : Prop := ∃ fn, Tryd.prog.funcs[K]? = some fn ∧ (fn.name == "runtime.NumGoroutine") = false ∧ fn.body.isSome = true ∧ ∀ (c : Nat) (W : World), c < 256 → Calls Tryd.prog K #[.int .u8 (c : Int)] W fun e w' => e = .returned (.bool (p c)) ∧ Drawn0 W w'
theorem Drawn0.blk {w w' : World} (h : Drawn0 w w') {g : Nat} {o : Obj} (hg : w.heap[g]? = some o) : w'.heap[g]? = some o := blk_below hg h.below
theorem Drawn0.keep {w w' : World} (h : Drawn0 w w') (g : Nat) : KeepBut w w' g none := KeepBut.of_below h.below g none
set_option maxHeartbeats 4000000 in
set_option maxRecDepth 100000 in
theorem run_c (K : FuncId) (p : Nat → Bool) (hK : Tells K p) (g : Nat) (s : ByteArray) (i : Nat) (hi : i ≤ s.size) (hs : s.size ≤ 1000000) (w0 w : World) (hB : Below w0.heap.size w0 w) (hge : w0.heap.size ≤ g) (hg : w.heap[g]? = some (.cells #[.string s, .int .i64 (i : Int)] 54 (0, 0))) :
    Calls Tryd.prog 38 #[.pointer (some ⟨g, 0, none⟩), .func (.func K) #[] #[]] w fun e w' => e = .returned (.string (s.extract i (rp p s i))) ∧ w'.heap[g]? = some (.cells #[.string s, .int .i64 ((rp p s i : Nat) : Int)] 54 (0, 0)) ∧ KeepBut w w' g none ∧ Below w0.heap.size w0 w' := by
  obtain ⟨fn, hf1, hf2, hf3, hf4⟩ := hK
  have HF := Aside0.mk hf4
  have F1 := Aside0.mk hf1
  have F2 := Aside0.mk hf2
  have F3 := Aside0.mk hf3
  have HG := Aside0.mk hg
  have HB := Aside0.mk hB
  have HI := Aside0.mk (show i ≤ s.size ∧ s.size ≤ 1000000 ∧ w0.heap.size ≤ g from ⟨hi, hs, hge⟩)
  have k0 := (cw2 hg).1
  have k1 := (cw2 hg).2
  clear hf1 hf2 hf3 hf4 hg hB hi hs hge
  go_enter Tryd.func38, Tryd.ntmps38
  go_wp2_with (fail)
  clear k0 k1
  obtain ⟨kk, hkk⟩ : ∃ k : Nat, k = s.size + 1 := ⟨_, rfl⟩
  go_loopg [] kk (fun kq W => ∃ j : Nat, Aside0 (i ≤ j ∧ j ≤ s.size ∧ s.size < j + kq) ∧ Aside0 (kq ≤ kk) ∧ Aside0 (rp p s j = rp p s i) ∧ Aside0 (W.heap[g]? = some (.cells #[.string s, .int .i64 (j : Int)] 54 (0, 0))) ∧ Aside0 (KeepBut w W g none) ∧ Aside0 (Below w0.heap.size w0 W))
  case atStart => exact ⟨i, ⟨by have := HI.out; omega⟩, ⟨Nat.le_refl _⟩, ⟨rfl⟩, HG, ⟨KeepBut.refl w g none⟩, HB⟩
  case round =>
    obtain ⟨j, HN, HK, HR, HG, HKe, HB⟩ := hrel
    cases gk with
    | zero => exact absurd HN.out (by omega)
    | succ k1 =>
      have k0 := (cw2 HG.out).1
      have k1' := (cw2 HG.out).2
      by_cases hj : j < s.size
      · have dn : decide ((j : Int) < (s.size : Int)) = true := decide_eq_true (by omega)
        have dn2 : decide (j < s.size) = true := decide_eq_true (by omega)
        have p0 := eq_true (show 0 ≤ (j : Int) by omega)
        have q0 := eq_true (show (j : Int) < (s.size : Int) by omega)
        have q1 := eq_true (show j < s.size by omega)
        have BY := Aside0.mk (by_at s j hj)
        have HJ := Aside0.mk hj
        go_wp2_with (fail)
        have HGq := Aside0.mk (blk_drew HG.out)
        have HBq := Aside0.mk (below_drew1 HB.out)
        have HKq := Aside0.mk (keep_drew HKe.out)
        refine start_ (n := 23) (S := (fun w' => w'.cell? ⟨g, 0, none⟩ = some (.string s) ∧ w'.cell? ⟨g, 1, none⟩ = some (.int .i64 (j : Int)))) (ds := []) #[f_, f_, f_, f_, f_, f_, f_, f_, f_, f_, f_, f_, f_, f_, f_, f_, f_, f_, f_, f_, f_, f_, f_] (by kernel_rfl) rfl rfl (⟨k0, k1'⟩) (fun hHeld => ?_); refine with_tabW rreg2.tab rreg2.bits (fun HT_ HW_ => ?_)
        clear k0 k1' HG HB HKe
        generalize wr.drew = Wa at HGq HBq HKq hHeld ⊢
        refine pure_ (i := 0) (N := some 10) (v := ?_) (a' := ?_) #[t_, f_, f_, f_, f_, f_, f_, f_, f_, f_, f_, f_, f_, f_, f_, f_, f_, f_, f_, f_, f_, f_, f_] rfl rfl (any_of HT_.out (by kernel_rfl)) (fun _ _ _ h => h) (Or.inl ⟨by rfl, ?_⟩) ?_ ?_
        rotate_left
        · intro w'
          go_simp
          with_reducible rfl
        rotate_left
        · simp only [Act.put, List.setIfInBounds_toArray, List.set_cons_zero, List.set_cons_succ, i64_w, i32_w]
          rfl
        refine pure_ (i := 1) (N := some 11) (v := ?_) (a' := ?_) #[t_, t_, f_, f_, f_, f_, f_, f_, f_, f_, f_, f_, f_, f_, f_, f_, f_, f_, f_, f_, f_, f_, f_] rfl rfl (any_of HT_.out (by kernel_rfl)) (fun _ _ _ h => h) (Or.inl ⟨by rfl, ?_⟩) ?_ ?_
        rotate_left
        · intro w'
          go_simp
          with_reducible rfl
        rotate_left
        · simp only [Act.put, List.setIfInBounds_toArray, List.set_cons_zero, List.set_cons_succ, i64_w, i32_w]
          rfl
        refine pure_ (i := 2) (N := some 12) (v := ?_) (a' := ?_) #[t_, t_, t_, f_, f_, f_, f_, f_, f_, f_, f_, f_, f_, f_, f_, f_, f_, f_, f_, f_, f_, f_, f_] rfl rfl (any_of HT_.out (by kernel_rfl)) (fun _ _ _ h => h) (Or.inl ⟨by rfl, ?_⟩) ?_ ?_
        rotate_left
        · intro w'
          go_simp
          with_reducible rfl
        rotate_left
        · simp only [Act.put, List.setIfInBounds_toArray, List.set_cons_zero, List.set_cons_succ, i64_w, i32_w]
          rfl
        refine pure_ (i := 4) (N := some 14) (v := ?_) (a' := ?_) #[t_, t_, t_, f_, t_, f_, f_, f_, f_, f_, f_, f_, f_, f_, f_, f_, f_, f_, f_, f_, f_, f_, f_] rfl rfl (any_of HT_.out (by kernel_rfl)) (fun _ _ _ h => h) (Or.inl ⟨by rfl, ?_⟩) ?_ ?_
        rotate_left
        · intro w'
          go_simp
          with_reducible rfl
        rotate_left
        · simp only [Act.put, List.setIfInBounds_toArray, List.set_cons_zero, List.set_cons_succ, i64_w, i32_w]
          rfl
        refine pure_ (i := 5) (N := some 15) (v := ?_) (a' := ?_) #[t_, t_, t_, f_, t_, t_, f_, f_, f_, f_, f_, f_, f_, f_, f_, f_, f_, f_, f_, f_, f_, f_, f_] rfl rfl (any_of HT_.out (by kernel_rfl)) (fun _ _ _ h => h) (Or.inl ⟨by rfl, ?_⟩) ?_ ?_
        rotate_left
        · intro w'
          go_simp
          with_reducible rfl
        rotate_left
        · simp only [Act.put, List.setIfInBounds_toArray, List.set_cons_zero, List.set_cons_succ, i64_w, i32_w]
          rfl
        refine pure_ (i := 6) (N := some 16) (v := ?_) (a' := ?_) #[t_, t_, t_, f_, t_, t_, t_, f_, f_, f_, f_, f_, f_, f_, f_, f_, f_, f_, f_, f_, f_, f_, f_] rfl rfl (any_of HT_.out (by kernel_rfl)) (fun _ _ _ h => h) (Or.inl ⟨by rfl, ?_⟩) ?_ ?_
        rotate_left
        · intro w'
          go_simp
          with_reducible rfl
        rotate_left
        · simp only [Act.put, List.setIfInBounds_toArray, List.set_cons_zero, List.set_cons_succ, i64_w, i32_w]
          rfl
        refine take_ (i := 3) (N := some 13) (v := ?_) (a' := ?_) #[t_, t_, t_, t_, t_, t_, t_, f_, f_, f_, f_, f_, f_, f_, f_, f_, f_, f_, f_, f_, f_, f_, f_] rfl rfl (take_ofW HT_.out HW_.out (by kernel_rfl)) (fun _ _ _ h => h) (Or.inl ⟨by rfl, ?_⟩) hHeld ?_ ?_
        rotate_left
        · intro w' s0
          obtain ⟨s1, s2⟩ := s0
          go_simp
          with_reducible rfl
        rotate_left
        · simp only [Act.put, List.setIfInBounds_toArray, List.set_cons_zero, List.set_cons_succ, i64_w, i32_w]
          rfl
        refine take_ (i := 7) (N := some 17) (v := ?_) (a' := ?_) #[t_, t_, t_, t_, t_, t_, t_, t_, f_, f_, f_, f_, f_, f_, f_, f_, f_, f_, f_, f_, f_, f_, f_] rfl rfl (take_ofW HT_.out HW_.out (by kernel_rfl)) (fun _ _ _ h => h) (Or.inl ⟨by rfl, ?_⟩) hHeld ?_ ?_
        rotate_left
        · intro w' s0
          obtain ⟨s1, s2⟩ := s0
          go_simp
          with_reducible rfl
        rotate_left
        · simp only [Act.put, List.setIfInBounds_toArray, List.set_cons_zero, List.set_cons_succ, i64_w, i32_w]
          rfl
        refine pure_ (i := 8) (N := some 18) (v := ?_) (a' := ?_) #[t_, t_, t_, t_, t_, t_, t_, t_, t_, f_, f_, f_, f_, f_, f_, f_, f_, f_, f_, f_, f_, f_, f_] rfl rfl (any_of HT_.out (by kernel_rfl)) (fun _ _ _ h => h) (Or.inl ⟨by rfl, ?_⟩) ?_ ?_
        rotate_left
        · intro w'
          go_simp
          with_reducible rfl
        rotate_left
        · simp only [Act.put, List.setIfInBounds_toArray, List.set_cons_zero, List.set_cons_succ, i64_w, i32_w]
          rfl
        refine pure_ (i := 9) (N := some 19) (v := ?_) (a' := ?_) #[t_, t_, t_, t_, t_, t_, t_, t_, t_, t_, f_, f_, f_, f_, f_, f_, f_, f_, f_, f_, f_, f_, f_] rfl rfl (any_of HT_.out (by kernel_rfl)) (fun _ _ _ h => h) (Or.inl ⟨by rfl, ?_⟩) ?_ ?_
        rotate_left
        · intro w'
          go_simp
          with_reducible rfl
        rotate_left
        · simp only [Act.put, List.setIfInBounds_toArray, List.set_cons_zero, List.set_cons_succ, i64_w, i32_w]
          rfl
        refine pure_ (i := 10) (N := some 20) (v := ?_) (a' := ?_) #[t_, t_, t_, t_, t_, t_, t_, t_, t_, t_, t_, f_, f_, f_, f_, f_, f_, f_, f_, f_, f_, f_, f_] rfl rfl (any_of HT_.out (by kernel_rfl)) (fun _ _ _ h => h) (Or.inl ⟨by rfl, ?_⟩) ?_ ?_
        rotate_left
        · intro w'
          go_simp
          with_reducible rfl
        rotate_left
        · simp only [Act.put, List.setIfInBounds_toArray, List.set_cons_zero, List.set_cons_succ, i64_w, i32_w]
          rfl
        refine pure_ (i := 11) (N := some 21) (v := ?_) (a' := ?_) #[t_, t_, t_, t_, t_, t_, t_, t_, t_, t_, t_, t_, f_, f_, f_, f_, f_, f_, f_, f_, f_, f_, f_] rfl rfl (any_of HT_.out (by kernel_rfl)) (fun _ _ _ h => h) (Or.inl ⟨by rfl, ?_⟩) ?_ ?_
        rotate_left
        · intro w'
          go_simp
          with_reducible rfl
        rotate_left
        · simp only [Act.put, List.setIfInBounds_toArray, List.set_cons_zero, List.set_cons_succ, i64_w, i32_w]
          rfl
        refine pure_ (i := 12) (N := some 22) (v := ?_) (a' := ?_) #[t_, t_, t_, t_, t_, t_, t_, t_, t_, t_, t_, t_, t_, f_, f_, f_, f_, f_, f_, f_, f_, f_, f_] rfl rfl (any_of HT_.out (by kernel_rfl)) (fun _ _ _ h => h) (Or.inl ⟨by rfl, ?_⟩) ?_ ?_
        rotate_left
        · intro w'
          go_simp
          with_reducible rfl
        rotate_left
        · simp only [Act.put, List.setIfInBounds_toArray, List.set_cons_zero, List.set_cons_succ, i64_w, i32_w]
          rfl
        refine pure_ (i := 13) (N := some 23) (v := ?_) (a' := ?_) #[t_, t_, t_, t_, t_, t_, t_, t_, t_, t_, t_, t_, t_, t_, f_, f_, f_, f_, f_, f_, f_, f_, f_] rfl rfl (any_of HT_.out (by kernel_rfl)) (fun _ _ _ h => h) (Or.inl ⟨by rfl, ?_⟩) ?_ ?_
        rotate_left
        · intro w'
          go_simp
          with_reducible rfl
        rotate_left
        · simp only [Act.put, List.setIfInBounds_toArray, List.set_cons_zero, List.set_cons_succ, i64_w, i32_w]
          rfl
        refine pure_ (i := 14) (N := some 24) (v := ?_) (a' := ?_) #[t_, t_, t_, t_, t_, t_, t_, t_, t_, t_, t_, t_, t_, t_, t_, f_, f_, f_, f_, f_, f_, f_, f_] rfl rfl (any_of HT_.out (by kernel_rfl)) (fun _ _ _ h => h) (Or.inl ⟨by rfl, ?_⟩) ?_ ?_
        rotate_left
        · intro w'
          go_simp
          with_reducible rfl
        rotate_left
        · simp only [Act.put, List.setIfInBounds_toArray, List.set_cons_zero, List.set_cons_succ, i64_w, i32_w]
          rfl
        refine pure_ (i := 16) (N := some 26) (v := ?_) (a' := ?_) #[t_, t_, t_, t_, t_, t_, t_, t_, t_, t_, t_, t_, t_, t_, t_, f_, t_, f_, f_, f_, f_, f_, f_] rfl rfl (any_of HT_.out (by kernel_rfl)) (fun _ _ _ h => h) (Or.inl ⟨by rfl, ?_⟩) ?_ ?_
        rotate_left
        · intro w'
          go_simp
          with_reducible rfl
        rotate_left
        · simp only [Act.put, List.setIfInBounds_toArray, List.set_cons_zero, List.set_cons_succ, i64_w, i32_w]
          rfl
        refine pure_ (i := 17) (N := some 27) (v := ?_) (a' := ?_) #[t_, t_, t_, t_, t_, t_, t_, t_, t_, t_, t_, t_, t_, t_, t_, f_, t_, t_, f_, f_, f_, f_, f_] rfl rfl (any_of HT_.out (by kernel_rfl)) (fun _ _ _ h => h) (Or.inl ⟨by rfl, ?_⟩) ?_ ?_
        rotate_left
        · intro w'
          go_simp
          with_reducible rfl
        rotate_left
        · simp only [Act.put, List.setIfInBounds_toArray, List.set_cons_zero, List.set_cons_succ, i64_w, i32_w]
          rfl
        refine pure_ (i := 18) (N := some 28) (v := ?_) (a' := ?_) #[t_, t_, t_, t_, t_, t_, t_, t_, t_, t_, t_, t_, t_, t_, t_, f_, t_, t_, t_, f_, f_, f_, f_] rfl rfl (any_of HT_.out (by kernel_rfl)) (fun _ _ _ h => h) (Or.inl ⟨by rfl, ?_⟩) ?_ ?_
        rotate_left
        · intro w'
          go_simp
          with_reducible rfl
        rotate_left
        · simp only [Act.put, List.setIfInBounds_toArray, List.set_cons_zero, List.set_cons_succ, i64_w, i32_w]
          rfl
        refine take_ (i := 15) (N := some 25) (v := ?_) (a' := ?_) #[t_, t_, t_, t_, t_, t_, t_, t_, t_, t_, t_, t_, t_, t_, t_, t_, t_, t_, t_, f_, f_, f_, f_] rfl rfl (take_ofW HT_.out HW_.out (by kernel_rfl)) (fun _ _ _ h => h) (Or.inl ⟨by rfl, ?_⟩) hHeld ?_ ?_
        rotate_left
        · intro w' s0
          obtain ⟨s1, s2⟩ := s0
          go_simp
          with_reducible rfl
        rotate_left
        · simp only [Act.put, List.setIfInBounds_toArray, List.set_cons_zero, List.set_cons_succ, i64_w, i32_w]
          rfl
        refine take_ (i := 19) (N := some 29) (v := ?_) (a' := ?_) #[t_, t_, t_, t_, t_, t_, t_, t_, t_, t_, t_, t_, t_, t_, t_, t_, t_, t_, t_, t_, f_, f_, f_] rfl rfl (take_ofW HT_.out HW_.out (by kernel_rfl)) (fun _ _ _ h => h) (Or.inl ⟨by rfl, ?_⟩) hHeld ?_ ?_
        rotate_left
        · intro w' s0
          obtain ⟨s1, s2⟩ := s0
          go_simp
          with_reducible rfl
        rotate_left
        · simp only [Act.put, List.setIfInBounds_toArray, List.set_cons_zero, List.set_cons_succ, i64_w, i32_w]
          rfl
        refine pure_ (i := 20) (N := some 30) (v := ?_) (a' := ?_) #[t_, t_, t_, t_, t_, t_, t_, t_, t_, t_, t_, t_, t_, t_, t_, t_, t_, t_, t_, t_, t_, f_, f_] rfl rfl (any_of HT_.out (by kernel_rfl)) (fun _ _ _ h => h) (Or.inl ⟨by rfl, ?_⟩) ?_ ?_
        rotate_left
        · intro w'
          go_simp
          with_reducible rfl
        rotate_left
        · simp only [Act.put, List.setIfInBounds_toArray, List.set_cons_zero, List.set_cons_succ, i64_w, i32_w]
          rfl
        refine one_ (i := 21) (N := some 31) #[t_, t_, t_, t_, t_, t_, t_, t_, t_, t_, t_, t_, t_, t_, t_, t_, t_, t_, t_, t_, t_, t_, f_] rfl rfl (one_of HT_.out (by kernel_rfl)) (by decide) (fun K_ hK => ?_)
        refine goesv_ F1.out F2.out F3.out #[.int .u8 ((s[j]'hj).toNat : Int)] (by rfl) rfl rfl (by rfl) (by (try simp only [List.map_toArray, List.map_cons, List.map_nil]); first | done | rfl) ?_
        refine (HF.out ((s[j]'hj).toNat) _ (UInt8.toNat_lt _)).mono ?_
        rintro e Wb ⟨rfl, hd⟩
        have HGb := Aside0.mk (Drawn0.blk hd HGq.out)
        have HBb := Aside0.mk (below_step HBq.out hd.below)
        have HKb := Aside0.mk (HKq.out.trans (Drawn0.keep hd g) (.inl rfl))
        have HS_ := show _ ∧ _ from cw2 HGb.out
        clear hd HGq HBq HKq
        refine ⟨_, rfl, ?_⟩
        refine hK.out _ _ HS_ (fun hHeld => ?_)
        clear hK K_
        refine norm_ (a' := ?_) ?_ ?_
        rotate_left
        · show Act.put _ (some 31) _ = _
          simp only [Act.put, List.setIfInBounds_toArray, List.set_cons_zero, List.set_cons_succ, i64_w, i32_w]
          rfl
        refine pure_ (i := 22) (N := some 32) (v := ?_) (a' := ?_) #[t_, t_, t_, t_, t_, t_, t_, t_, t_, t_, t_, t_, t_, t_, t_, t_, t_, t_, t_, t_, t_, t_, t_] rfl rfl (any_of HT_.out (by kernel_rfl)) (fun _ _ _ h => h) (Or.inl ⟨by rfl, ?_⟩) ?_ ?_
        rotate_left
        · intro w'
          go_simp
          with_reducible rfl
        rotate_left
        · simp only [Act.put, List.setIfInBounds_toArray, List.set_cons_zero, List.set_cons_succ, i64_w, i32_w]
          rfl
        refine done_ (done_of HT_.out (by kernel_rfl)) ?_
        have hbj := BY.out
        rw [← hbj]
        by_cases hp : p (by_ s j) = true
        · rw [hp]
          have RR := Aside0.mk (show rp p s (j + 1) = rp p s i from (rp_go hj hp).symm.trans HR.out)
          have k0 := (cw2 HGb.out).1
          have k1' := (cw2 HGb.out).2
          have f1 := blk_frozen HGb.out 1
          clear hbj hp p0 q0 q1 dn dn2
          go_wp2_with (fail)
          go_roundg k1
          case measure => have := HK.out; omega
          case rel =>
            have e : wrap64 ((j : Int) + 1) = ((j + 1 : Nat) : Int) := by have := HI.out; have := HJ.out; unfold wrap64; omega
            refine ⟨j + 1, ⟨by have := HN.out; have := HJ.out; omega⟩, ⟨by have := HK.out; omega⟩, RR, ⟨?_⟩, ⟨HKb.out.set_ 1 _⟩, ⟨below_set HBb.out (by have := HI.out; omega)⟩⟩
            exact blk_put HGb.out 1 _ (by rw [← e]; rfl)
        · have hp' : p (by_ s j) = false := by simpa using hp
          rw [hp']
          have ej : rp p s i = j := HR.out.symm.trans (rp_stop (fun h => hp h.2))
          have EJ := Aside0.mk ej
          clear hbj hp hp' ej p0 q0 q1 dn dn2
          have HG := HGb
          have HB := HBb
          have HKe := HKb
          clear HGb HBb HKb
          have k0 := (cw2 HG.out).1
          have k1' := (cw2 HG.out).2
          go_wp2_with (fail)
          have HGq := Aside0.mk (blk_drew HG.out)
          have HBq := Aside0.mk (below_drew1 HB.out)
          have HKq := Aside0.mk (keep_drew HKe.out)
          refine start_ (n := 11) (S := (fun w' => w'.cell? ⟨g, 0, none⟩ = some (.string s) ∧ w'.cell? ⟨g, 1, none⟩ = some (.int .i64 (j : Int)))) (ds := []) #[f_, f_, f_, f_, f_, f_, f_, f_, f_, f_, f_] (by kernel_rfl) rfl rfl (⟨k0, k1'⟩) (fun hHeld => ?_); refine with_tabW rreg4.tab rreg4.bits (fun HT_ HW_ => ?_)
          clear k0 k1' HG HB HKe
          generalize Wb.drew = Wc at HGq HBq HKq hHeld ⊢
          refine pure_ (i := 0) (N := some 40) (v := ?_) (a' := ?_) #[t_, f_, f_, f_, f_, f_, f_, f_, f_, f_, f_] rfl rfl (any_of HT_.out (by kernel_rfl)) (fun _ _ _ h => h) (Or.inl ⟨by rfl, ?_⟩) ?_ ?_
          rotate_left
          · intro w'
            go_simp
            with_reducible rfl
          rotate_left
          · simp only [Act.put, List.setIfInBounds_toArray, List.set_cons_zero, List.set_cons_succ, i64_w, i32_w]
            rfl
          refine pure_ (i := 1) (N := some 41) (v := ?_) (a' := ?_) #[t_, t_, f_, f_, f_, f_, f_, f_, f_, f_, f_] rfl rfl (any_of HT_.out (by kernel_rfl)) (fun _ _ _ h => h) (Or.inl ⟨by rfl, ?_⟩) ?_ ?_
          rotate_left
          · intro w'
            go_simp
            with_reducible rfl
          rotate_left
          · simp only [Act.put, List.setIfInBounds_toArray, List.set_cons_zero, List.set_cons_succ, i64_w, i32_w]
            rfl
          refine pure_ (i := 2) (N := some 42) (v := ?_) (a' := ?_) #[t_, t_, t_, f_, f_, f_, f_, f_, f_, f_, f_] rfl rfl (any_of HT_.out (by kernel_rfl)) (fun _ _ _ h => h) (Or.inl ⟨by rfl, ?_⟩) ?_ ?_
          rotate_left
          · intro w'
            go_simp
            with_reducible rfl
          rotate_left
          · simp only [Act.put, List.setIfInBounds_toArray, List.set_cons_zero, List.set_cons_succ, i64_w, i32_w]
            rfl
          refine pure_ (i := 4) (N := some 44) (v := ?_) (a' := ?_) #[t_, t_, t_, f_, t_, f_, f_, f_, f_, f_, f_] rfl rfl (any_of HT_.out (by kernel_rfl)) (fun _ _ _ h => h) (Or.inl ⟨by rfl, ?_⟩) ?_ ?_
          rotate_left
          · intro w'
            go_simp
            with_reducible rfl
          rotate_left
          · simp only [Act.put, List.setIfInBounds_toArray, List.set_cons_zero, List.set_cons_succ, i64_w, i32_w]
            rfl
          refine pure_ (i := 5) (N := some 45) (v := ?_) (a' := ?_) #[t_, t_, t_, f_, t_, t_, f_, f_, f_, f_, f_] rfl rfl (any_of HT_.out (by kernel_rfl)) (fun _ _ _ h => h) (Or.inl ⟨by rfl, ?_⟩) ?_ ?_
          rotate_left
          · intro w'
            go_simp
            with_reducible rfl
          rotate_left
          · simp only [Act.put, List.setIfInBounds_toArray, List.set_cons_zero, List.set_cons_succ, i64_w, i32_w]
            rfl
          refine pure_ (i := 6) (N := some 46) (v := ?_) (a' := ?_) #[t_, t_, t_, f_, t_, t_, t_, f_, f_, f_, f_] rfl rfl (any_of HT_.out (by kernel_rfl)) (fun _ _ _ h => h) (Or.inl ⟨by rfl, ?_⟩) ?_ ?_
          rotate_left
          · intro w'
            go_simp
            with_reducible rfl
          rotate_left
          · simp only [Act.put, List.setIfInBounds_toArray, List.set_cons_zero, List.set_cons_succ, i64_w, i32_w]
            rfl
          refine pure_ (i := 7) (N := some 47) (v := ?_) (a' := ?_) #[t_, t_, t_, f_, t_, t_, t_, t_, f_, f_, f_] rfl rfl (any_of HT_.out (by kernel_rfl)) (fun _ _ _ h => h) (Or.inl ⟨by rfl, ?_⟩) ?_ ?_
          rotate_left
          · intro w'
            go_simp
            with_reducible rfl
          rotate_left
          · simp only [Act.put, List.setIfInBounds_toArray, List.set_cons_zero, List.set_cons_succ, i64_w, i32_w]
            rfl
          refine take_ (i := 3) (N := some 43) (v := ?_) (a' := ?_) #[t_, t_, t_, t_, t_, t_, t_, t_, f_, f_, f_] rfl rfl (take_ofW HT_.out HW_.out (by kernel_rfl)) (fun _ _ _ h => h) (Or.inl ⟨by rfl, ?_⟩) hHeld ?_ ?_
          rotate_left
          · intro w' s0
            obtain ⟨s1, s2⟩ := s0
            go_simp
            with_reducible rfl
          rotate_left
          · simp only [Act.put, List.setIfInBounds_toArray, List.set_cons_zero, List.set_cons_succ, i64_w, i32_w]
            rfl
          refine take_ (i := 8) (N := some 48) (v := ?_) (a' := ?_) #[t_, t_, t_, t_, t_, t_, t_, t_, t_, f_, f_] rfl rfl (take_ofW HT_.out HW_.out (by kernel_rfl)) (fun _ _ _ h => h) (Or.inl ⟨by rfl, ?_⟩) hHeld ?_ ?_
          rotate_left
          · intro w' s0
            obtain ⟨s1, s2⟩ := s0
            go_simp
            with_reducible rfl
          rotate_left
          · simp only [Act.put, List.setIfInBounds_toArray, List.set_cons_zero, List.set_cons_succ, i64_w, i32_w]
            rfl
          have hN := HN.out
          have hI := HI.out
          have b1 := eq_true (show (i : Int) ≤ (j : Int) by omega)
          have b2 := eq_true (show (j : Int) ≤ (s.size : Int) by omega)
          have b3 := eq_true (show 0 ≤ (i : Int) by omega)
          have b4 := eq_true (show i ≤ j by omega)
          have b5 := eq_true (show j ≤ s.size by omega)
          have b6 := eq_true (show 0 ≤ (j : Int) by omega)
          refine pure_ (i := 9) (N := some 49) (v := ?_) (a' := ?_) #[t_, t_, t_, t_, t_, t_, t_, t_, t_, t_, f_] rfl rfl (any_of HT_.out (by kernel_rfl)) (fun _ _ _ h => h) (Or.inl ⟨by rfl, ?_⟩) ?_ ?_
          rotate_left
          · intro w'
            go_simp
            with_reducible rfl
          rotate_left
          · simp only [Act.put, List.setIfInBounds_toArray, List.set_cons_zero, List.set_cons_succ, i64_w, i32_w]
            rfl
          refine pure_ (i := 10) (N := some 4) (v := ?_) (a' := ?_) #[t_, t_, t_, t_, t_, t_, t_, t_, t_, t_, t_] rfl rfl (any_of HT_.out (by kernel_rfl)) (fun _ _ _ h => h) (Or.inl ⟨by rfl, ?_⟩) ?_ ?_
          rotate_left
          · intro w'
            go_simp
            with_reducible rfl
          rotate_left
          · simp only [Act.put, List.setIfInBounds_toArray, List.set_cons_zero, List.set_cons_succ, i64_w, i32_w]
            rfl
          refine done_ (done_of HT_.out (by kernel_rfl)) ?_
          go_wp2_with (fail)
          go_ret
          rw [EJ.out]
          exact ⟨rfl, HGq.out, HKq.out, HBq.out⟩
      · have dn : decide ((j : Int) < (s.size : Int)) = false := decide_eq_false (by omega)
        have dn2 : decide (j < s.size) = false := decide_eq_false (by omega)
        have EJ := Aside0.mk (show rp p s i = j from HR.out.symm.trans (rp_stop (fun h => hj h.1)))
        go_wp2_with (fail)
        have HGq := Aside0.mk (blk_drew HG.out)
        have HBq := Aside0.mk (below_drew1 HB.out)
        have HKq := Aside0.mk (keep_drew HKe.out)
        refine start_ (n := 23) (S := (fun w' => w'.cell? ⟨g, 0, none⟩ = some (.string s) ∧ w'.cell? ⟨g, 1, none⟩ = some (.int .i64 (j : Int)))) (ds := []) #[f_, f_, f_, f_, f_, f_, f_, f_, f_, f_, f_, f_, f_, f_, f_, f_, f_, f_, f_, f_, f_, f_, f_] (by kernel_rfl) rfl rfl (⟨k0, k1'⟩) (fun hHeld => ?_); refine with_tabW rreg2.tab rreg2.bits (fun HT_ HW_ => ?_)
        clear k0 k1' HG HB HKe
        generalize wr.drew = Wb at HGq HBq HKq hHeld ⊢
        refine pure_ (i := 0) (N := some 10) (v := ?_) (a' := ?_) #[t_, f_, f_, f_, f_, f_, f_, f_, f_, f_, f_, f_, f_, f_, f_, f_, f_, f_, f_, f_, f_, f_, f_] rfl rfl (any_of HT_.out (by kernel_rfl)) (fun _ _ _ h => h) (Or.inl ⟨by rfl, ?_⟩) ?_ ?_
        rotate_left
        · intro w'
          go_simp
          with_reducible rfl
        rotate_left
        · simp only [Act.put, List.setIfInBounds_toArray, List.set_cons_zero, List.set_cons_succ, i64_w, i32_w]
          rfl
        refine pure_ (i := 1) (N := some 11) (v := ?_) (a' := ?_) #[t_, t_, f_, f_, f_, f_, f_, f_, f_, f_, f_, f_, f_, f_, f_, f_, f_, f_, f_, f_, f_, f_, f_] rfl rfl (any_of HT_.out (by kernel_rfl)) (fun _ _ _ h => h) (Or.inl ⟨by rfl, ?_⟩) ?_ ?_
        rotate_left
        · intro w'
          go_simp
          with_reducible rfl
        rotate_left
        · simp only [Act.put, List.setIfInBounds_toArray, List.set_cons_zero, List.set_cons_succ, i64_w, i32_w]
          rfl
        refine pure_ (i := 2) (N := some 12) (v := ?_) (a' := ?_) #[t_, t_, t_, f_, f_, f_, f_, f_, f_, f_, f_, f_, f_, f_, f_, f_, f_, f_, f_, f_, f_, f_, f_] rfl rfl (any_of HT_.out (by kernel_rfl)) (fun _ _ _ h => h) (Or.inl ⟨by rfl, ?_⟩) ?_ ?_
        rotate_left
        · intro w'
          go_simp
          with_reducible rfl
        rotate_left
        · simp only [Act.put, List.setIfInBounds_toArray, List.set_cons_zero, List.set_cons_succ, i64_w, i32_w]
          rfl
        refine pure_ (i := 4) (N := some 14) (v := ?_) (a' := ?_) #[t_, t_, t_, f_, t_, f_, f_, f_, f_, f_, f_, f_, f_, f_, f_, f_, f_, f_, f_, f_, f_, f_, f_] rfl rfl (any_of HT_.out (by kernel_rfl)) (fun _ _ _ h => h) (Or.inl ⟨by rfl, ?_⟩) ?_ ?_
        rotate_left
        · intro w'
          go_simp
          with_reducible rfl
        rotate_left
        · simp only [Act.put, List.setIfInBounds_toArray, List.set_cons_zero, List.set_cons_succ, i64_w, i32_w]
          rfl
        refine pure_ (i := 5) (N := some 15) (v := ?_) (a' := ?_) #[t_, t_, t_, f_, t_, t_, f_, f_, f_, f_, f_, f_, f_, f_, f_, f_, f_, f_, f_, f_, f_, f_, f_] rfl rfl (any_of HT_.out (by kernel_rfl)) (fun _ _ _ h => h) (Or.inl ⟨by rfl, ?_⟩) ?_ ?_
        rotate_left
        · intro w'
          go_simp
          with_reducible rfl
        rotate_left
        · simp only [Act.put, List.setIfInBounds_toArray, List.set_cons_zero, List.set_cons_succ, i64_w, i32_w]
          rfl
        refine pure_ (i := 6) (N := some 16) (v := ?_) (a' := ?_) #[t_, t_, t_, f_, t_, t_, t_, f_, f_, f_, f_, f_, f_, f_, f_, f_, f_, f_, f_, f_, f_, f_, f_] rfl rfl (any_of HT_.out (by kernel_rfl)) (fun _ _ _ h => h) (Or.inl ⟨by rfl, ?_⟩) ?_ ?_
        rotate_left
        · intro w'
          go_simp
          with_reducible rfl
        rotate_left
        · simp only [Act.put, List.setIfInBounds_toArray, List.set_cons_zero, List.set_cons_succ, i64_w, i32_w]
          rfl
        refine take_ (i := 3) (N := some 13) (v := ?_) (a' := ?_) #[t_, t_, t_, t_, t_, t_, t_, f_, f_, f_, f_, f_, f_, f_, f_, f_, f_, f_, f_, f_, f_, f_, f_] rfl rfl (take_ofW HT_.out HW_.out (by kernel_rfl)) (fun _ _ _ h => h) (Or.inl ⟨by rfl, ?_⟩) hHeld ?_ ?_
        rotate_left
        · intro w' s0
          obtain ⟨s1, s2⟩ := s0
          go_simp
          with_reducible rfl
        rotate_left
        · simp only [Act.put, List.setIfInBounds_toArray, List.set_cons_zero, List.set_cons_succ, i64_w, i32_w]
          rfl
        refine take_ (i := 7) (N := some 17) (v := ?_) (a' := ?_) #[t_, t_, t_, t_, t_, t_, t_, t_, f_, f_, f_, f_, f_, f_, f_, f_, f_, f_, f_, f_, f_, f_, f_] rfl rfl (take_ofW HT_.out HW_.out (by kernel_rfl)) (fun _ _ _ h => h) (Or.inl ⟨by rfl, ?_⟩) hHeld ?_ ?_
        rotate_left
        · intro w' s0
          obtain ⟨s1, s2⟩ := s0
          go_simp
          with_reducible rfl
        rotate_left
        · simp only [Act.put, List.setIfInBounds_toArray, List.set_cons_zero, List.set_cons_succ, i64_w, i32_w]
          rfl
        refine pure_ (i := 8) (N := some 18) (v := ?_) (a' := ?_) #[t_, t_, t_, t_, t_, t_, t_, t_, t_, f_, f_, f_, f_, f_, f_, f_, f_, f_, f_, f_, f_, f_, f_] rfl rfl (any_of HT_.out (by kernel_rfl)) (fun _ _ _ h => h) (Or.inl ⟨by rfl, ?_⟩) ?_ ?_
        rotate_left
        · intro w'
          go_simp
          with_reducible rfl
        rotate_left
        · simp only [Act.put, List.setIfInBounds_toArray, List.set_cons_zero, List.set_cons_succ, i64_w, i32_w]
          rfl
        refine pure_ (i := 9) (N := some 19) (v := ?_) (a' := ?_) #[t_, t_, t_, t_, t_, t_, t_, t_, t_, t_, f_, f_, f_, f_, f_, f_, f_, f_, f_, f_, f_, f_, f_] rfl rfl (any_of HT_.out (by kernel_rfl)) (fun _ _ _ h => h) (Or.inl ⟨by rfl, ?_⟩) ?_ ?_
        rotate_left
        · intro w'
          go_simp
          with_reducible rfl
        rotate_left
        · simp only [Act.put, List.setIfInBounds_toArray, List.set_cons_zero, List.set_cons_succ, i64_w, i32_w]
          rfl
        refine pure_ (i := 10) (N := some 20) (v := ?_) (a' := ?_) #[t_, t_, t_, t_, t_, t_, t_, t_, t_, t_, t_, f_, f_, f_, f_, f_, f_, f_, f_, f_, f_, f_, f_] rfl rfl (any_of HT_.out (by kernel_rfl)) (fun _ _ _ h => h) (Or.inl ⟨by rfl, ?_⟩) ?_ ?_
        rotate_left
        · intro w'
          go_simp
          with_reducible rfl
        rotate_left
        · simp only [Act.put, List.setIfInBounds_toArray, List.set_cons_zero, List.set_cons_succ, i64_w, i32_w]
          rfl
        refine pure_ (i := 11) (N := some 21) (v := undef) (a' := ?_) #[t_, t_, t_, t_, t_, t_, t_, t_, t_, t_, t_, t_, f_, f_, f_, f_, f_, f_, f_, f_, f_, f_, f_] rfl rfl (any_of HT_.out (by kernel_rfl)) (fun _ _ _ h => h) (Or.inr ⟨by rfl, rfl⟩) ?_ ?_
        rotate_left
        · simp only [Act.put, List.setIfInBounds_toArray, List.set_cons_zero, List.set_cons_succ, i64_w, i32_w]
          rfl
        refine pure_ (i := 12) (N := some 22) (v := undef) (a' := ?_) #[t_, t_, t_, t_, t_, t_, t_, t_, t_, t_, t_, t_, t_, f_, f_, f_, f_, f_, f_, f_, f_, f_, f_] rfl rfl (any_of HT_.out (by kernel_rfl)) (fun _ _ _ h => h) (Or.inr ⟨by rfl, rfl⟩) ?_ ?_
        rotate_left
        · simp only [Act.put, List.setIfInBounds_toArray, List.set_cons_zero, List.set_cons_succ, i64_w, i32_w]
          rfl
        refine pure_ (i := 13) (N := some 23) (v := undef) (a' := ?_) #[t_, t_, t_, t_, t_, t_, t_, t_, t_, t_, t_, t_, t_, t_, f_, f_, f_, f_, f_, f_, f_, f_, f_] rfl rfl (any_of HT_.out (by kernel_rfl)) (fun _ _ _ h => h) (Or.inr ⟨by rfl, rfl⟩) ?_ ?_
        rotate_left
        · simp only [Act.put, List.setIfInBounds_toArray, List.set_cons_zero, List.set_cons_succ, i64_w, i32_w]
          rfl
        refine pure_ (i := 14) (N := some 24) (v := undef) (a' := ?_) #[t_, t_, t_, t_, t_, t_, t_, t_, t_, t_, t_, t_, t_, t_, t_, f_, f_, f_, f_, f_, f_, f_, f_] rfl rfl (any_of HT_.out (by kernel_rfl)) (fun _ _ _ h => h) (Or.inr ⟨by rfl, rfl⟩) ?_ ?_
        rotate_left
        · simp only [Act.put, List.setIfInBounds_toArray, List.set_cons_zero, List.set_cons_succ, i64_w, i32_w]
          rfl
        refine pure_ (i := 15) (N := some 25) (v := undef) (a' := ?_) #[t_, t_, t_, t_, t_, t_, t_, t_, t_, t_, t_, t_, t_, t_, t_, t_, f_, f_, f_, f_, f_, f_, f_] rfl rfl (any_of HT_.out (by kernel_rfl)) (fun _ _ _ h => h) (Or.inr ⟨by rfl, rfl⟩) ?_ ?_
        rotate_left
        · simp only [Act.put, List.setIfInBounds_toArray, List.set_cons_zero, List.set_cons_succ, i64_w, i32_w]
          rfl
        refine pure_ (i := 16) (N := some 26) (v := undef) (a' := ?_) #[t_, t_, t_, t_, t_, t_, t_, t_, t_, t_, t_, t_, t_, t_, t_, t_, t_, f_, f_, f_, f_, f_, f_] rfl rfl (any_of HT_.out (by kernel_rfl)) (fun _ _ _ h => h) (Or.inr ⟨by rfl, rfl⟩) ?_ ?_
        rotate_left
        · simp only [Act.put, List.setIfInBounds_toArray, List.set_cons_zero, List.set_cons_succ, i64_w, i32_w]
          rfl
        refine pure_ (i := 17) (N := some 27) (v := undef) (a' := ?_) #[t_, t_, t_, t_, t_, t_, t_, t_, t_, t_, t_, t_, t_, t_, t_, t_, t_, t_, f_, f_, f_, f_, f_] rfl rfl (any_of HT_.out (by kernel_rfl)) (fun _ _ _ h => h) (Or.inr ⟨by rfl, rfl⟩) ?_ ?_
        rotate_left
        · simp only [Act.put, List.setIfInBounds_toArray, List.set_cons_zero, List.set_cons_succ, i64_w, i32_w]
          rfl
        refine pure_ (i := 18) (N := some 28) (v := undef) (a' := ?_) #[t_, t_, t_, t_, t_, t_, t_, t_, t_, t_, t_, t_, t_, t_, t_, t_, t_, t_, t_, f_, f_, f_, f_] rfl rfl (any_of HT_.out (by kernel_rfl)) (fun _ _ _ h => h) (Or.inr ⟨by rfl, rfl⟩) ?_ ?_
        rotate_left
        · simp only [Act.put, List.setIfInBounds_toArray, List.set_cons_zero, List.set_cons_succ, i64_w, i32_w]
          rfl
        refine pure_ (i := 19) (N := some 29) (v := undef) (a' := ?_) #[t_, t_, t_, t_, t_, t_, t_, t_, t_, t_, t_, t_, t_, t_, t_, t_, t_, t_, t_, t_, f_, f_, f_] rfl rfl (any_of HT_.out (by kernel_rfl)) (fun _ _ _ h => h) (Or.inr ⟨by rfl, rfl⟩) ?_ ?_
        rotate_left
        · simp only [Act.put, List.setIfInBounds_toArray, List.set_cons_zero, List.set_cons_succ, i64_w, i32_w]
          rfl
        refine pure_ (i := 20) (N := some 30) (v := undef) (a' := ?_) #[t_, t_, t_, t_, t_, t_, t_, t_, t_, t_, t_, t_, t_, t_, t_, t_, t_, t_, t_, t_, t_, f_, f_] rfl rfl (any_of HT_.out (by kernel_rfl)) (fun _ _ _ h => h) (Or.inr ⟨by rfl, rfl⟩) ?_ ?_
        rotate_left
        · simp only [Act.put, List.setIfInBounds_toArray, List.set_cons_zero, List.set_cons_succ, i64_w, i32_w]
          rfl
        refine pure_ (i := 21) (N := some 31) (v := undef) (a' := ?_) #[t_, t_, t_, t_, t_, t_, t_, t_, t_, t_, t_, t_, t_, t_, t_, t_, t_, t_, t_, t_, t_, t_, f_] rfl rfl (any_of HT_.out (by kernel_rfl)) (fun _ _ _ h => h) (Or.inr ⟨by rfl, rfl⟩) ?_ ?_
        rotate_left
        · simp only [Act.put, List.setIfInBounds_toArray, List.set_cons_zero, List.set_cons_succ, i64_w, i32_w]
          rfl
        refine pure_ (i := 22) (N := some 32) (v := ?_) (a' := ?_) #[t_, t_, t_, t_, t_, t_, t_, t_, t_, t_, t_, t_, t_, t_, t_, t_, t_, t_, t_, t_, t_, t_, t_] rfl rfl (any_of HT_.out (by kernel_rfl)) (fun _ _ _ h => h) (Or.inl ⟨by rfl, ?_⟩) ?_ ?_
        rotate_left
        · intro w'
          go_simp
          with_reducible rfl
        rotate_left
        · simp only [Act.put, List.setIfInBounds_toArray, List.set_cons_zero, List.set_cons_succ, i64_w, i32_w]
          rfl
        refine done_ (done_of HT_.out (by kernel_rfl)) ?_
        have HG := HGq
        have HB := HBq
        have HKe := HKq
        clear HGq HBq HKq dn dn2
        have k0 := (cw2 HG.out).1
        have k1' := (cw2 HG.out).2
        go_wp2_with (fail)
        have HGq := Aside0.mk (blk_drew HG.out)
        have HBq := Aside0.mk (below_drew1 HB.out)
        have HKq := Aside0.mk (keep_drew HKe.out)
        refine start_ (n := 11) (S := (fun w' => w'.cell? ⟨g, 0, none⟩ = some (.string s) ∧ w'.cell? ⟨g, 1, none⟩ = some (.int .i64 (j : Int)))) (ds := []) #[f_, f_, f_, f_, f_, f_, f_, f_, f_, f_, f_] (by kernel_rfl) rfl rfl (⟨k0, k1'⟩) (fun hHeld => ?_); refine with_tabW rreg4.tab rreg4.bits (fun HT_ HW_ => ?_)
        clear k0 k1' HG HB HKe
        generalize Wb.drew = Wc at HGq HBq HKq hHeld ⊢
        refine pure_ (i := 0) (N := some 40) (v := ?_) (a' := ?_) #[t_, f_, f_, f_, f_, f_, f_, f_, f_, f_, f_] rfl rfl (any_of HT_.out (by kernel_rfl)) (fun _ _ _ h => h) (Or.inl ⟨by rfl, ?_⟩) ?_ ?_
        rotate_left
        · intro w'
          go_simp
          with_reducible rfl
        rotate_left
        · simp only [Act.put, List.setIfInBounds_toArray, List.set_cons_zero, List.set_cons_succ, i64_w, i32_w]
          rfl
        refine pure_ (i := 1) (N := some 41) (v := ?_) (a' := ?_) #[t_, t_, f_, f_, f_, f_, f_, f_, f_, f_, f_] rfl rfl (any_of HT_.out (by kernel_rfl)) (fun _ _ _ h => h) (Or.inl ⟨by rfl, ?_⟩) ?_ ?_
        rotate_left
        · intro w'
          go_simp
          with_reducible rfl
        rotate_left
        · simp only [Act.put, List.setIfInBounds_toArray, List.set_cons_zero, List.set_cons_succ, i64_w, i32_w]
          rfl
        refine pure_ (i := 2) (N := some 42) (v := ?_) (a' := ?_) #[t_, t_, t_, f_, f_, f_, f_, f_, f_, f_, f_] rfl rfl (any_of HT_.out (by kernel_rfl)) (fun _ _ _ h => h) (Or.inl ⟨by rfl, ?_⟩) ?_ ?_
        rotate_left
        · intro w'
          go_simp
          with_reducible rfl
        rotate_left
        · simp only [Act.put, List.setIfInBounds_toArray, List.set_cons_zero, List.set_cons_succ, i64_w, i32_w]
          rfl
        refine pure_ (i := 4) (N := some 44) (v := ?_) (a' := ?_) #[t_, t_, t_, f_, t_, f_, f_, f_, f_, f_, f_] rfl rfl (any_of HT_.out (by kernel_rfl)) (fun _ _ _ h => h) (Or.inl ⟨by rfl, ?_⟩) ?_ ?_
        rotate_left
        · intro w'
          go_simp
          with_reducible rfl
        rotate_left
        · simp only [Act.put, List.setIfInBounds_toArray, List.set_cons_zero, List.set_cons_succ, i64_w, i32_w]
          rfl
        refine pure_ (i := 5) (N := some 45) (v := ?_) (a' := ?_) #[t_, t_, t_, f_, t_, t_, f_, f_, f_, f_, f_] rfl rfl (any_of HT_.out (by kernel_rfl)) (fun _ _ _ h => h) (Or.inl ⟨by rfl, ?_⟩) ?_ ?_
        rotate_left
        · intro w'
          go_simp
          with_reducible rfl
        rotate_left
        · simp only [Act.put, List.setIfInBounds_toArray, List.set_cons_zero, List.set_cons_succ, i64_w, i32_w]
          rfl
        refine pure_ (i := 6) (N := some 46) (v := ?_) (a' := ?_) #[t_, t_, t_, f_, t_, t_, t_, f_, f_, f_, f_] rfl rfl (any_of HT_.out (by kernel_rfl)) (fun _ _ _ h => h) (Or.inl ⟨by rfl, ?_⟩) ?_ ?_
        rotate_left
        · intro w'
          go_simp
          with_reducible rfl
        rotate_left
        · simp only [Act.put, List.setIfInBounds_toArray, List.set_cons_zero, List.set_cons_succ, i64_w, i32_w]
          rfl
        refine pure_ (i := 7) (N := some 47) (v := ?_) (a' := ?_) #[t_, t_, t_, f_, t_, t_, t_, t_, f_, f_, f_] rfl rfl (any_of HT_.out (by kernel_rfl)) (fun _ _ _ h => h) (Or.inl ⟨by rfl, ?_⟩) ?_ ?_
        rotate_left
        · intro w'
          go_simp
          with_reducible rfl
        rotate_left
        · simp only [Act.put, List.setIfInBounds_toArray, List.set_cons_zero, List.set_cons_succ, i64_w, i32_w]
          rfl
        refine take_ (i := 3) (N := some 43) (v := ?_) (a' := ?_) #[t_, t_, t_, t_, t_, t_, t_, t_, f_, f_, f_] rfl rfl (take_ofW HT_.out HW_.out (by kernel_rfl)) (fun _ _ _ h => h) (Or.inl ⟨by rfl, ?_⟩) hHeld ?_ ?_
        rotate_left
        · intro w' s0
          obtain ⟨s1, s2⟩ := s0
          go_simp
          with_reducible rfl
        rotate_left
        · simp only [Act.put, List.setIfInBounds_toArray, List.set_cons_zero, List.set_cons_succ, i64_w, i32_w]
          rfl
        refine take_ (i := 8) (N := some 48) (v := ?_) (a' := ?_) #[t_, t_, t_, t_, t_, t_, t_, t_, t_, f_, f_] rfl rfl (take_ofW HT_.out HW_.out (by kernel_rfl)) (fun _ _ _ h => h) (Or.inl ⟨by rfl, ?_⟩) hHeld ?_ ?_
        rotate_left
        · intro w' s0
          obtain ⟨s1, s2⟩ := s0
          go_simp
          with_reducible rfl
        rotate_left
        · simp only [Act.put, List.setIfInBounds_toArray, List.set_cons_zero, List.set_cons_succ, i64_w, i32_w]
          rfl
        have hN := HN.out
        have hI := HI.out
        have b1 := eq_true (show (i : Int) ≤ (j : Int) by omega)
        have b2 := eq_true (show (j : Int) ≤ (s.size : Int) by omega)
        have b3 := eq_true (show 0 ≤ (i : Int) by omega)
        have b4 := eq_true (show i ≤ j by omega)
        have b5 := eq_true (show j ≤ s.size by omega)
        have b6 := eq_true (show 0 ≤ (j : Int) by omega)
        refine pure_ (i := 9) (N := some 49) (v := ?_) (a' := ?_) #[t_, t_, t_, t_, t_, t_, t_, t_, t_, t_, f_] rfl rfl (any_of HT_.out (by kernel_rfl)) (fun _ _ _ h => h) (Or.inl ⟨by rfl, ?_⟩) ?_ ?_
        rotate_left
        · intro w'
          go_simp
          with_reducible rfl
        rotate_left
        · simp only [Act.put, List.setIfInBounds_toArray, List.set_cons_zero, List.set_cons_succ, i64_w, i32_w]
          rfl
        refine pure_ (i := 10) (N := some 4) (v := ?_) (a' := ?_) #[t_, t_, t_, t_, t_, t_, t_, t_, t_, t_, t_] rfl rfl (any_of HT_.out (by kernel_rfl)) (fun _ _ _ h => h) (Or.inl ⟨by rfl, ?_⟩) ?_ ?_
        rotate_left
        · intro w'
          go_simp
          with_reducible rfl
        rotate_left
        · simp only [Act.put, List.setIfInBounds_toArray, List.set_cons_zero, List.set_cons_succ, i64_w, i32_w]
          rfl
        refine done_ (done_of HT_.out (by kernel_rfl)) ?_
        go_wp2_with (fail)
        go_ret
        rw [EJ.out]
        exact ⟨rfl, HGq.out, HKq.out, HBq.out⟩
end Go.Proofs.YtifjmokilbijlaaDoor.PLex
