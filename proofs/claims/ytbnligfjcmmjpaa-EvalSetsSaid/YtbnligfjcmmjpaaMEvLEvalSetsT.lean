import Derived.Test.YtbnligfjcmmjpaaPEvLx1
import Derived.Lib.SlicesS
namespace Go.Proofs.Ytbnligfjcmmjpaa.PEvL
open Go Go.RowKit Go.Proofs.YtbnligfjcmmjpaaW.PrintWords Go.Proofs.YtbnligfjcmmjpaaW.PrintLast Go.Proofs.YtbnligfjcmmjpaaW.PrintMore
attribute [local go_sem] max2_int min2_int max_two min_two max_three min_three max_four min_four
set_option linter.unusedVariables false
set_option linter.unusedSimpArgs false
theorem eqIn1 (w : World) (d : Nat) (fn : Fn) (a c : Array Value) : (Op.equalIn (d + 1) 41 (.func fn a c) .nilFunc).run Try.prog w = .ok false w := by
  simp [Op.equalIn, run_underlying Try.underlying41]
theorem eqIn2 (w : World) (d : Nat) : (Op.equalIn (d + 1) 41 .nilFunc .nilFunc).run Try.prog w = .ok true w := by
  simp [Op.equalIn, run_underlying Try.underlying41]
theorem eqf (fn : Fn) (a c : Array Value) (w : World) : Sem.run Try.prog (binOp BinOp.eql 41 (Value.func fn a c) Value.nilFunc) w = .ok (.bool false) w := by
  simp only [binOp]
  simp [Op.equal, Op.maxDepth, eqIn1 w 9999 fn a c]
theorem eqn_ (w : World) : Sem.run Try.prog (binOp BinOp.eql 41 Value.nilFunc Value.nilFunc) w = .ok (.bool true) w := by
  simp only [binOp]
  simp [Op.equal, Op.maxDepth, eqIn2 w 9999]
attribute [local go_sem] eqf eqn_
def Cl (W : World) : Value → List (ByteArray × Int) → Prop
  | v, [] => v = .nilFunc
  | v, (s, b) :: r => ∃ g1 g2 g3 v', v = .func (.func 57) #[] #[.pointer (some ⟨g1, 0, none⟩), .pointer (some ⟨g2, 0, none⟩), .pointer (some ⟨g3, 0, none⟩)] ∧
      W.heap[g1]? = some (.cells #[.string s] 9 (0, 0)) ∧ W.heap[g2]? = some (.cells #[.int .i64 b] 2 (0, 0)) ∧ W.heap[g3]? = some (.cells #[v'] 41 (0, 0)) ∧ Cl W v' r
def look (n : ByteArray) : List (ByteArray × Int) → Int
  | [] => 0
  | (s, b) :: r => if n = s then b else look n r
theorem Cl.below {W W1 : World} (hw : Below W.heap.size W W1) : ∀ (r : List (ByteArray × Int)) (v : Value), Cl W v r → Cl W1 v r := by
  intro r
  induction r with
  | nil => intro v h; exact h
  | cons p r ih =>
    intro v h
    obtain ⟨s, b⟩ := p
    obtain ⟨g1, g2, g3, v', hv, h1, h2, h3, h4⟩ := h
    exact ⟨g1, g2, g3, v', hv, blk_grown h1 (grown_of_below hw none) (by simp), blk_grown h2 (grown_of_below hw none) (by simp), blk_grown h3 (grown_of_below hw none) (by simp), ih v' h4⟩
theorem Cl.form {W : World} {v : Value} {r : List (ByteArray × Int)} (h : Cl W v r) : v = .nilFunc ∨ ∃ c, v = .func (.func 57) #[] c := by
  cases r with
  | nil => exact .inl h
  | cons p r =>
    obtain ⟨s, b⟩ := p
    obtain ⟨g1, g2, g3, v', hv, _⟩ := h
    exact .inr ⟨_, hv⟩
theorem three (w : World) (a b c : Obj) : ((w.alloc a).alloc b).alloc c = ((w.alloc a).alloc b).alloc c ∧ (((w.alloc a).alloc b).alloc c).heap[w.heap.size]? = some a ∧ (((w.alloc a).alloc b).alloc c).heap[w.heap.size + 1]? = some b ∧ (((w.alloc a).alloc b).alloc c).heap[w.heap.size + 1 + 1]? = some c := by
  have e1 : (w.alloc a).heap.size = w.heap.size + 1 := by show (w.heap.push a).size = _; simp
  have e2 : ((w.alloc a).alloc b).heap.size = w.heap.size + 1 + 1 := by show ((w.alloc a).heap.push b).size = _; simp [e1]
  refine ⟨rfl, ?_, ?_, ?_⟩
  · exact blk_alloc (blk_alloc (by simpa using heap_alloc_new w a) b) c
  · rw [← e1]; exact blk_alloc (by simpa using heap_alloc_new (w.alloc a) b) c
  · rw [← e2]; simpa using heap_alloc_new ((w.alloc a).alloc b) c
set_option maxHeartbeats 2000000 in
set_option maxRecDepth 100000 in
theorem set_calls (s : ByteArray) (b : Int) (v : Value) (r : List (ByteArray × Int)) (w : World) (h : Cl w v r) :
    Calls Try.prog 26 #[.string s, .int .i64 b, v] w fun e w' => ∃ v', e = .returned v' ∧ Cl w' v' ((s, b) :: r) ∧ Below w.heap.size w w' := by
  have hA := Aside0.mk h
  have hF := Cl.form h
  clear h
  rcases hF with rfl | ⟨c, rfl⟩
  · go_enter Try.func26, Try.ntmps26
    go_wp2_with (fail)
    go_ret
    obtain ⟨_, t1, t2, t3⟩ := three w (.cells #[.string s] 9) (.cells #[.int .i64 b] 2) (.cells #[.nilFunc] 41)
    have hb := below_alloc (below_alloc (below_alloc (Below.refl w.heap.size w) (.cells #[.string s] 9)) (.cells #[.int .i64 b] 2)) (.cells #[.nilFunc] 41)
    exact ⟨_, rfl, ⟨_, _, _, _, rfl, t1, t2, t3, Cl.below hb r _ hA.out⟩, hb⟩
  · go_enter Try.func26, Try.ntmps26
    go_wp2_with (fail)
    go_ret
    obtain ⟨_, t1, t2, t3⟩ := three w (.cells #[.string s] 9) (.cells #[.int .i64 b] 2) (.cells #[.func (.func 57) #[] c] 41)
    have hb := below_alloc (below_alloc (below_alloc (Below.refl w.heap.size w) (.cells #[.string s] 9)) (.cells #[.int .i64 b] 2)) (.cells #[.func (.func 57) #[] c] 41)
    exact ⟨_, rfl, ⟨_, _, _, _, rfl, t1, t2, t3, Cl.below hb r _ hA.out⟩, hb⟩
set_option maxHeartbeats 2000000 in
set_option maxRecDepth 100000 in
theorem cl_calls (n : ByteArray) : ∀ (r : List (ByteArray × Int)) (s : ByteArray) (b : Int) (g1 g2 g3 : Nat) (v' : Value) (w : World) (h1 : w.heap[g1]? = some (.cells #[.string s] 9 (0, 0))) (h2 : w.heap[g2]? = some (.cells #[.int .i64 b] 2 (0, 0))) (h3 : w.heap[g3]? = some (.cells #[v'] 41 (0, 0))) (h4 : Cl w v' r),
    Calls Try.prog 57 #[.string n, .pointer (some ⟨g1, 0, none⟩), .pointer (some ⟨g2, 0, none⟩), .pointer (some ⟨g3, 0, none⟩)] w fun e w' => e = .returned (.int .i64 (look n ((s, b) :: r))) ∧ Drawn0 w w' := by
  intro r
  induction r with
  | nil =>
    intro s b g1 g2 g3 v' w h1 h2 h3 h4
    have k1 : w.cell? ⟨g1, 0, none⟩ = some (.string s) := (blk_cell h1 0).trans rfl
    have k2 : w.cell? ⟨g2, 0, none⟩ = some (.int .i64 b) := (blk_cell h2 0).trans rfl
    have k3 : w.cell? ⟨g3, 0, none⟩ = some v' := (blk_cell h3 0).trans rfl
    replace h4 : v' = .nilFunc := h4
    subst h4
    clear h1 h2 h3
    by_cases e : n = s
    · subst e
      have el : look n [(n, b)] = b := by simp [look]
      rw [el]
      go_enter Try.func57, Try.ntmps57
      go_wp2
      go_ret
      exact ⟨by first | rfl | (simp; done) | (simp [*]; done), by repeat (first | exact Drawn0.refl _ | apply Drawn0.step)⟩
    · have d : (n.toList == s.toList) = false := (Go.Lib.bytes_beq_false_iff n s).2 e
      have el : look n [(s, b)] = 0 := by simp [look, e]
      rw [el]
      go_enter Try.func57, Try.ntmps57
      go_wp2
      go_ret
      exact ⟨by first | rfl | (simp; done) | (simp [*]; done), by repeat (first | exact Drawn0.refl _ | apply Drawn0.step)⟩
  | cons p r ih =>
    intro s b g1 g2 g3 v' w h1 h2 h3 h4
    obtain ⟨s2, b2⟩ := p
    obtain ⟨i1, i2, i3, v2, rfl, j1, j2, j3, j4⟩ := h4
    have k1 : w.cell? ⟨g1, 0, none⟩ = some (.string s) := (blk_cell h1 0).trans rfl
    have k2 : w.cell? ⟨g2, 0, none⟩ = some (.int .i64 b) := (blk_cell h2 0).trans rfl
    have k3 : w.cell? ⟨g3, 0, none⟩ = some (.func (.func 57) #[] #[.pointer (some ⟨i1, 0, none⟩), .pointer (some ⟨i2, 0, none⟩), .pointer (some ⟨i3, 0, none⟩)]) := (blk_cell h3 0).trans rfl
    have IH := Aside0.mk (ih s2 b2 i1 i2 i3 v2 w j1 j2 j3 j4)
    clear h1 h2 h3 j1 j2 j3 j4 ih
    by_cases e : n = s
    · subst e
      have el : look n ((n, b) :: (s2, b2) :: r) = b := by simp [look]
      rw [el]
      go_enter Try.func57, Try.ntmps57
      go_wp2
      go_ret
      exact ⟨by first | rfl | (simp; done) | (simp [*]; done), by repeat (first | exact Drawn0.refl _ | apply Drawn0.step)⟩
    · have d : (n.toList == s.toList) = false := (Go.Lib.bytes_beq_false_iff n s).2 e
      have el : look n ((s, b) :: (s2, b2) :: r) = look n ((s2, b2) :: r) := by simp [look, e]
      rw [el]
      go_enter Try.func57, Try.ntmps57
      go_wp2_with (fail)
      have S58 : Calls Try.prog 58 #[.func (.func 57) #[] #[.pointer (some ⟨i1, 0, none⟩), .pointer (some ⟨i2, 0, none⟩), .pointer (some ⟨i3, 0, none⟩)]] w fun e w' => e = .returned (.func (.func 57) #[] #[.pointer (some ⟨i1, 0, none⟩), .pointer (some ⟨i2, 0, none⟩), .pointer (some ⟨i3, 0, none⟩)]) ∧ w' = w := by
        clear d e el IH
        go_enter Try.func58, Try.ntmps58
        go_wp2
        go_ret
        exact ⟨rfl, rfl⟩
      refine S58.mono ?_
      rintro e w1 ⟨rfl, rfl⟩
      go_wp2_with (fail)
      refine IH.out.mono ?_
      rintro e w2 ⟨rfl, ⟨nd, rfl⟩⟩
      go_wp2_with (fail)
      go_ret
      exact ⟨by first | rfl | (simp; done) | (simp [*]; done), by repeat (first | exact Drawn0.refl _ | apply Drawn0.step)⟩
/-- What holds may grow on the way. -/
theorem more_ {P : Program} {md : Region.Mode} {ops : Array Oper} {Q : Exit → Act → World → Prop} {S S2 : World → Prop} (h21 : ∀ w, S2 w → S w) : ∀ (fuel : Nat) (l : Array Bool) (a : Act) (w : World), S2 w → wpAnyLast P md ops Q S2 [] fuel l a w → wpAnyLast P md ops Q S [] fuel l a w
  | 0, _, _, _, _, h => h
  | fuel + 1, _, _, _, hs, h => ⟨h.1, fun i hi => wpOp_mono (fun a' w' h' => ⟨fun _ _ => h21 _ (h'.1 (by simp) hs), more_ h21 fuel _ a' w' (h'.1 (by simp) hs) h'.2⟩) (h.2 i hi)⟩
def reg7.T : Bool × List (List Nat × List Nat) := (true, [([], []), ([], []), ([0, 1], [0, 1]), ([2], [2]), ([], []), ([], []), ([4, 5], [4, 5]), ([6], [6]), ([], []), ([3, 7, 8], [3, 7, 8]), ([9, 9, 0, 1, 2, 3, 4, 5, 6, 7, 8, 9], [8, 9])])
def reg7.B : List Nat := [0, 0, 3, 7, 0, 0, 48, 112, 0, 511, 1023]
theorem reg7.tab : rtab .any (opsOf Try.f9 7) = reg7.T := by kernel_rfl
theorem reg7.bits : waitsOk reg7.T.2 reg7.B = true := by kernel_rfl
def reg15.T : Bool × List (List Nat × List Nat) := (true, [([], []), ([], []), ([0, 1], [0, 1]), ([2], [2]), ([], []), ([], []), ([4, 5], [4, 5]), ([6], [6]), ([3, 7], [3, 7])])
def reg15.B : List Nat := [0, 0, 3, 7, 0, 0, 48, 112, 255]
theorem reg15.tab : rtab .any (opsOf Try.f9 15) = reg15.T := by kernel_rfl
theorem reg15.bits : waitsOk reg15.T.2 reg15.B = true := by kernel_rfl
theorem aw : ballcocklaw23_awake.f = some true := by decide +kernel
def ws_ (l : List ByteArray) (i : Nat) : ByteArray := l.getD i ByteArray.empty
def wn_ (l : List Int) (i : Nat) : Int := l.getD i 0
def RS (w : World) (A : Option Addr) (l : List ByteArray) : Prop := ∀ i : Nat, i < l.length → ∃ ad, A = some ad ∧ w.cell? (ad.add i) = some (.string (ws_ l i))
def RI (w : World) (A : Option Addr) (l : List Int) : Prop := ∀ i : Nat, i < l.length → ∃ ad, A = some ad ∧ w.cell? (ad.add i) = some (.int .i64 (wn_ l i))
theorem RS.below {w w' : World} {A : Option Addr} {l : List ByteArray} (h : RS w A l) (hb : Below w.heap.size w w') : RS w' A l := fun i hi => by
  obtain ⟨ad, e, hc⟩ := h i hi
  exact ⟨ad, e, pw_cell_below hb hc⟩
theorem RI.below {w w' : World} {A : Option Addr} {l : List Int} (h : RI w A l) (hb : Below w.heap.size w w') : RI w' A l := fun i hi => by
  obtain ⟨ad, e, hc⟩ := h i hi
  exact ⟨ad, e, pw_cell_below hb hc⟩
def pr (l : List ByteArray) (n : List Int) : Nat → List (ByteArray × Int)
  | 0 => []
  | i + 1 => (ws_ l i, wn_ n i) :: pr l n i
theorem wsuc (u : Nat) (hu : u ≤ 10000) : wrap64 ((u : Int) + 1) = ((u + 1 : Nat) : Int) := by unfold wrap64; omega
theorem Cl.wide {w W W1 : World} {v : Value} {r : List (ByteArray × Int)} (h : Cl W v r) (hb : Below W.heap.size W W1) : Cl W1 v r := Cl.below hb r v h
/-- The want of the inner loop. -/
def Want (l : List ByteArray) (n : List Int) (i k : Nat) (x : Int) : Prop := (k = i ∧ x = wn_ n i) ∨ (i < k ∧ x = look (ws_ l i) (pr l n k))
theorem want_eq {l : List ByteArray} {n : List Int} {i k : Nat} {x : Int} (h : Want l n i k x) (e : ws_ l k = ws_ l i) : Want l n i (k + 1) (wn_ n k) := by
  refine .inr ⟨?_, ?_⟩
  · rcases h with ⟨h, _⟩ | ⟨h, _⟩ <;> omega
  · simp [pr, look, e]
theorem want_ne {l : List ByteArray} {n : List Int} {i k : Nat} {x : Int} (h : Want l n i k x) (e : ws_ l k ≠ ws_ l i) : Want l n i (k + 1) x := by
  rcases h with ⟨rfl, _⟩ | ⟨h, rfl⟩
  · exact absurd rfl e
  · exact .inr ⟨by omega, by simp [pr, look, Ne.symm e]⟩
set_option maxHeartbeats 4000000 in
set_option maxRecDepth 100000 in
theorem sets_main (A0 : Option Addr) (c0 : Nat) (l0 : List ByteArray) (A1 : Option Addr) (c1 : Nat) (l1 : List Int) (w : World) (hr0 : RS w A0 l0) (hr1 : RI w A1 l1) (h0 : l0.length ≤ 20) (h1 : l1.length ≤ 20) :
    Calls Try.prog 9 #[.slice A0 l0.length c0, .slice A1 l1.length c1] w fun e w' => e = .returned (.bool true) ∧ Below w.heap.size w w' := by
  have HR0 := Aside0.mk hr0
  have HR1 := Aside0.mk hr1
  clear hr0 hr1
  have d0 : decide (20 < (l0.length : Int)) = false := decide_eq_false (by omega)
  have d1 : decide (20 < (l1.length : Int)) = false := decide_eq_false (by omega)
  have H0 := Aside0.mk h0
  have H1 := Aside0.mk h1
  clear h0 h1
  go_enter Try.func9, Try.ntmps9
  go_wp2_with (fail)
  refine (ballcocklaw23_awake.calls true _ rfl aw).mono ?_
  rintro e w1 ⟨rfl, hd1⟩
  have HB1 := Aside0.mk (Drawn0.below hd1)
  clear hd1
  go_wp2_with (fail)
  obtain ⟨kk, hkk⟩ : ∃ k : Nat, k = l0.length + 1 := ⟨_, rfl⟩
  go_loopg [5, 6] kk (fun kq v5 v6 w' => ∃ (i : Nat) (vv : Value), v6 = .int .i64 (i : Int) ∧ vv = v5 ∧ Aside0 (i ≤ l0.length ∧ i ≤ l1.length ∧ l0.length < i + kq) ∧ Aside0 (kq ≤ kk) ∧ Aside0 (Below w.heap.size w w') ∧ Aside0 (Cl w' vv (pr l0 l1 i)))
  case atStart => exact ⟨0, _, rfl, rfl, ⟨by omega⟩, ⟨Nat.le_refl _⟩, HB1, ⟨rfl⟩⟩
  case round =>
    obtain ⟨i, vv, rfl, rfl, HN, HK, HB, HC⟩ := hrel
    have hN := HN.out
    have hL0 := H0.out
    have hL1 := H1.out
    cases gk with
    | zero => exact absurd HN.out (by omega)
    | succ k1 =>
      by_cases hi : i < l0.length ∧ i < l1.length
      · have d2 : decide ((i : Int) < (l0.length : Int)) = true := decide_eq_true (by omega); have d2n : decide (i < l0.length) = true := decide_eq_true (by omega)
        have d3 : decide ((i : Int) < (l1.length : Int)) = true := decide_eq_true (by omega); have d3n : decide (i < l1.length) = true := decide_eq_true (by omega)
        obtain ⟨ad0, e0, hx0⟩ := (HR0.out.below HB.out) i hi.1
        obtain ⟨ad1, e1, hx1⟩ := (HR1.out.below HB.out) i hi.2
        cases e0
        cases e1
        have p0 := eq_true (show 0 ≤ (i : Int) by omega)
        have q0 := eq_true (show (i : Int) < (l0.length : Int) by omega)
        have q1 := eq_true (show (i : Int) < (l1.length : Int) by omega)
        go_wp2_with (fail)
        have HBq := Aside0.mk (below_drew1 HB.out)
        have HCq : Aside0 (Cl wr.drew vv (pr l0 l1 i)) := ⟨Cl.below (below_drew1 (Below.refl wr.heap.size wr)) _ _ HC.out⟩
        refine start_ (n := 11) (S := fun w' => w'.cell? (ad0.add i) = some (.string (ws_ l0 i)) ∧ w'.cell? (ad1.add i) = some (.int .i64 (wn_ l1 i))) (ds := []) #[false, false, false, false, false, false, false, false, false, false, false] (by kernel_rfl) rfl rfl (⟨hx0, hx1⟩) (fun hHeld => ?_); refine with_tabW reg7.tab reg7.bits (fun HT_ HW_ => ?_)
        generalize wr.drew = wq at HBq HCq hHeld ⊢
        refine pure_ (i := 0) (N := some 35) (v := ?_) (a' := ?_) #[true, false, false, false, false, false, false, false, false, false, false] rfl rfl (any_of HT_.out (by kernel_rfl)) (fun _ _ _ h => h) (Or.inl ⟨by rfl, ?_⟩) ?_ ?_
        rotate_left
        · intro w'
          go_simp
          with_reducible rfl
        rotate_left
        · simp only [Act.put, List.setIfInBounds_toArray, List.set_cons_zero, List.set_cons_succ, i64_w, i32_w]
          rfl
        refine pure_ (i := 1) (N := some 36) (v := ?_) (a' := ?_) #[true, true, false, false, false, false, false, false, false, false, false] rfl rfl (any_of HT_.out (by kernel_rfl)) (fun _ _ _ h => h) (Or.inl ⟨by rfl, ?_⟩) ?_ ?_
        rotate_left
        · intro w'
          go_simp
          with_reducible rfl
        rotate_left
        · simp only [Act.put, List.setIfInBounds_toArray, List.set_cons_zero, List.set_cons_succ, i64_w, i32_w]
          rfl
        refine pure_ (i := 2) (N := some 37) (v := ?_) (a' := ?_) #[true, true, true, false, false, false, false, false, false, false, false] rfl rfl (any_of HT_.out (by kernel_rfl)) (fun _ _ _ h => h) (Or.inl ⟨by rfl, ?_⟩) ?_ ?_
        rotate_left
        · intro w'
          go_simp
          with_reducible rfl
        rotate_left
        · simp only [Act.put, List.setIfInBounds_toArray, List.set_cons_zero, List.set_cons_succ, i64_w, i32_w]
          rfl
        refine pure_ (i := 4) (N := some 39) (v := ?_) (a' := ?_) #[true, true, true, false, true, false, false, false, false, false, false] rfl rfl (any_of HT_.out (by kernel_rfl)) (fun _ _ _ h => h) (Or.inl ⟨by rfl, ?_⟩) ?_ ?_
        rotate_left
        · intro w'
          go_simp
          with_reducible rfl
        rotate_left
        · simp only [Act.put, List.setIfInBounds_toArray, List.set_cons_zero, List.set_cons_succ, i64_w, i32_w]
          rfl
        refine pure_ (i := 5) (N := some 40) (v := ?_) (a' := ?_) #[true, true, true, false, true, true, false, false, false, false, false] rfl rfl (any_of HT_.out (by kernel_rfl)) (fun _ _ _ h => h) (Or.inl ⟨by rfl, ?_⟩) ?_ ?_
        rotate_left
        · intro w'
          go_simp
          with_reducible rfl
        rotate_left
        · simp only [Act.put, List.setIfInBounds_toArray, List.set_cons_zero, List.set_cons_succ, i64_w, i32_w]
          rfl
        refine pure_ (i := 6) (N := some 41) (v := ?_) (a' := ?_) #[true, true, true, false, true, true, true, false, false, false, false] rfl rfl (any_of HT_.out (by kernel_rfl)) (fun _ _ _ h => h) (Or.inl ⟨by rfl, ?_⟩) ?_ ?_
        rotate_left
        · intro w'
          go_simp
          with_reducible rfl
        rotate_left
        · simp only [Act.put, List.setIfInBounds_toArray, List.set_cons_zero, List.set_cons_succ, i64_w, i32_w]
          rfl
        refine take_ (i := 3) (N := some 38) (v := ?_) (a' := ?_) #[true, true, true, true, true, true, true, false, false, false, false] rfl rfl (take_ofW HT_.out HW_.out (by kernel_rfl)) (fun _ _ _ h => h) (Or.inl ⟨by rfl, ?_⟩) hHeld ?_ ?_
        rotate_left
        · intro w' s0
          obtain ⟨s1, s2⟩ := s0
          go_simp
          with_reducible rfl
        rotate_left
        · simp only [Act.put, List.setIfInBounds_toArray, List.set_cons_zero, List.set_cons_succ, i64_w, i32_w]
          rfl
        refine take_ (i := 7) (N := some 42) (v := ?_) (a' := ?_) #[true, true, true, true, true, true, true, true, false, false, false] rfl rfl (take_ofW HT_.out HW_.out (by kernel_rfl)) (fun _ _ _ h => h) (Or.inl ⟨by rfl, ?_⟩) hHeld ?_ ?_
        rotate_left
        · intro w' s0
          obtain ⟨s1, s2⟩ := s0
          go_simp
          with_reducible rfl
        rotate_left
        · simp only [Act.put, List.setIfInBounds_toArray, List.set_cons_zero, List.set_cons_succ, i64_w, i32_w]
          rfl
        refine pure_ (i := 8) (N := some 43) (v := ?_) (a' := ?_) #[true, true, true, true, true, true, true, true, true, false, false] rfl rfl (any_of HT_.out (by kernel_rfl)) (fun _ _ _ h => h) (Or.inl ⟨by rfl, ?_⟩) ?_ ?_
        rotate_left
        · intro w'
          go_simp
          with_reducible rfl
        rotate_left
        · simp only [Act.put, List.setIfInBounds_toArray, List.set_cons_zero, List.set_cons_succ, i64_w, i32_w]
          rfl
        refine one_ (i := 9) (N := some 44) #[true, true, true, true, true, true, true, true, true, true, false] rfl rfl (one_of HT_.out (by kernel_rfl)) (by decide) (fun K hK => ?_)
        refine goes_ Try.func26 (by kernel_rfl) rfl #[.string (ws_ l0 i), .int .i64 (wn_ l1 i), vv] (by rfl) rfl rfl (by (try simp only [List.map_toArray, List.map_cons, List.map_nil]); first | done | rfl | (simp only [List.length_drop, List.length_take]; rfl)) ?_
        refine (set_calls (ws_ l0 i) (wn_ l1 i) vv (pr l0 l1 i) _ HCq.out).mono ?_
        rintro e wb ⟨vb, rfl, hCb, hBb⟩
        have HBb := Aside0.mk (below_step HBq.out hBb)
        have HCb := Aside0.mk hCb
        have HS_ := show _ ∧ _ from ⟨pw_cell_below hBb hHeld.1, pw_cell_below hBb hHeld.2⟩
        clear hCb hBb
        refine ⟨_, rfl, ?_⟩
        refine hK.out _ _ HS_ (fun hHeld => ?_)
        clear hK K
        refine norm_ (a' := ?_) ?_ ?_
        rotate_left
        · show Act.put _ (some 44) _ = _
          simp only [Act.put, List.setIfInBounds_toArray, List.set_cons_zero, List.set_cons_succ, i64_w, i32_w]
          rfl
        refine pure_ (i := 10) (N := some 5) (v := ?_) (a' := ?_) #[true, true, true, true, true, true, true, true, true, true, true] rfl rfl (any_of HT_.out (by kernel_rfl)) (fun _ _ _ h => h) (Or.inl ⟨by rfl, ?_⟩) ?_ ?_
        rotate_left
        · intro w'
          go_simp
          with_reducible rfl
        rotate_left
        · simp only [Act.put, List.setIfInBounds_toArray, List.set_cons_zero, List.set_cons_succ, i64_w, i32_w]
          rfl
        refine done_ (done_of HT_.out (by kernel_rfl)) ?_
        go_wp2_with (fail)
        go_roundg k1
        case measure => have := HK.out; omega
        case rel => exact ⟨i + 1, _, by first | rfl | (rw [wsuc i (by omega)]), rfl, ⟨by omega⟩, ⟨by have := HK.out; omega⟩, HBb, HCb⟩
      · by_cases hq : i < l0.length
        · have d2 : decide ((i : Int) < (l0.length : Int)) = true := decide_eq_true (by omega); have d2n : decide (i < l0.length) = true := decide_eq_true (by omega)
          have d3 : decide ((i : Int) < (l1.length : Int)) = false := decide_eq_false (by omega); have d3n : decide (i < l1.length) = false := decide_eq_false (by omega)
          go_wp2_with (fail)
          obtain ⟨kl, hkl⟩ : ∃ k : Nat, k = l0.length + 1 := ⟨_, rfl⟩
          obtain ⟨n, hn⟩ : ∃ n : Nat, n = i := ⟨_, rfl⟩
          have HNN := Aside0.mk (show n ≤ l0.length ∧ n ≤ l1.length ∧ (n = l0.length ∨ n = l1.length) by omega)
          rw [← hn] at HC
          clear hN
          go_loopg [7] kl (fun kq v7 w' => ∃ (j : Nat), v7 = .int .i64 (j : Int) ∧ Aside0 (j ≤ n ∧ n < j + kq) ∧ Aside0 (kq ≤ kl) ∧ Aside0 (Below w.heap.size w w') ∧ Aside0 (Cl w' vv (pr l0 l1 n)))
          case atStart => exact ⟨0, rfl, ⟨by have := HNN.out; omega⟩, ⟨Nat.le_refl _⟩, HB, HC⟩
          case round =>
            obtain ⟨j, rfl, HNj, HKj, HBj, HCj⟩ := hrel
            have hNN := HNN.out
            cases gk with
            | zero => exact absurd HNj.out (by omega)
            | succ k2 =>
              have hNj := HNj.out
              by_cases hj : j < n
              · have e2 : decide ((j : Int) < (l0.length : Int)) = true := decide_eq_true (by omega); have e2n : decide (j < l0.length) = true := decide_eq_true (by omega)
                have e3 : decide ((j : Int) < (l1.length : Int)) = true := decide_eq_true (by omega); have e3n : decide (j < l1.length) = true := decide_eq_true (by omega)
                obtain ⟨ad0, f0, hx0⟩ := (HR0.out.below HBj.out) j (by omega)
                obtain ⟨ad1, f1, hx1⟩ := (HR1.out.below HBj.out) j (by omega)
                cases f0
                cases f1
                have p0 := eq_true (show 0 ≤ (j : Int) by omega)
                have q0 := eq_true (show (j : Int) < (l0.length : Int) by omega)
                have q1 := eq_true (show (j : Int) < (l1.length : Int) by omega)
                go_wp2_with (fail)
                clear hx0 hx1
                obtain ⟨km, hkm⟩ : ∃ k : Nat, k = l0.length + 1 := ⟨_, rfl⟩
                go_loopg [8, 9] km (fun kq v8 v9 w' => ∃ (k : Nat) (x : Int), v8 = .int .i64 x ∧ v9 = .int .i64 (k : Int) ∧ Aside0 (j ≤ k ∧ k ≤ n ∧ n < k + kq) ∧ Aside0 (kq ≤ km) ∧ Aside0 (Below w.heap.size w w') ∧ Aside0 (Cl w' vv (pr l0 l1 n)) ∧ Aside0 (Want l0 l1 j k x))
                case atStart => exact ⟨j, _, rfl, rfl, ⟨by omega⟩, ⟨Nat.le_refl _⟩, HBj, HCj, ⟨.inl ⟨rfl, rfl⟩⟩⟩
                case round =>
                  obtain ⟨k, x, rfl, rfl, HNk, HKk, HBk, HCk, HW⟩ := hrel
                  cases gk with
                  | zero => exact absurd HNk.out (by omega)
                  | succ k3 =>
                    have hNk := HNk.out
                    by_cases hk : k < n
                    · have e4 : decide ((k : Int) < (l0.length : Int)) = true := decide_eq_true (by omega); have e4n : decide (k < l0.length) = true := decide_eq_true (by omega)
                      have e5 : decide ((k : Int) < (l1.length : Int)) = true := decide_eq_true (by omega); have e5n : decide (k < l1.length) = true := decide_eq_true (by omega)
                      obtain ⟨ad2, f2, hx2⟩ := (HR0.out.below HBk.out) k (by omega)
                      obtain ⟨ad3, f3, hx3⟩ := (HR0.out.below HBk.out) j (by omega)
                      obtain ⟨ad4, f4, hx4⟩ := (HR1.out.below HBk.out) k (by omega)
                      cases f2
                      cases f3
                      cases f4
                      have p1 := eq_true (show 0 ≤ (k : Int) by omega)
                      have r0 := eq_true (show (k : Int) < (l0.length : Int) by omega)
                      have r1 := eq_true (show (k : Int) < (l1.length : Int) by omega)
                      have HBq := Aside0.mk (below_drew1 HBk.out)
                      by_cases hs : ws_ l0 k = ws_ l0 j
                      · have hb : ((ws_ l0 k).toList == (ws_ l0 j).toList) = true := by rw [hs]; exact beq_self_eq_true _
                        go_wp2_with (fail)
                        refine start_ (n := 9) (S := fun w' => w'.cell? (ad0.add k) = some (.string (ws_ l0 k)) ∧ w'.cell? (ad0.add j) = some (.string (ws_ l0 j))) (ds := []) #[false, false, false, false, false, false, false, false, false] (by kernel_rfl) rfl rfl (⟨hx2, hx3⟩) (fun hHeld => ?_); refine with_tabW reg15.tab reg15.bits (fun HT_ HW_ => ?_)
                        refine pure_ (i := 0) (N := some 74) (v := ?_) (a' := ?_) #[true, false, false, false, false, false, false, false, false] rfl rfl (any_of HT_.out (by kernel_rfl)) (fun _ _ _ h => h) (Or.inl ⟨by rfl, ?_⟩) ?_ ?_
                        rotate_left
                        · intro w'
                          go_simp
                          with_reducible rfl
                        rotate_left
                        · simp only [Act.put, List.setIfInBounds_toArray, List.set_cons_zero, List.set_cons_succ, i64_w, i32_w]
                          rfl
                        refine pure_ (i := 1) (N := some 75) (v := ?_) (a' := ?_) #[true, true, false, false, false, false, false, false, false] rfl rfl (any_of HT_.out (by kernel_rfl)) (fun _ _ _ h => h) (Or.inl ⟨by rfl, ?_⟩) ?_ ?_
                        rotate_left
                        · intro w'
                          go_simp
                          with_reducible rfl
                        rotate_left
                        · simp only [Act.put, List.setIfInBounds_toArray, List.set_cons_zero, List.set_cons_succ, i64_w, i32_w]
                          rfl
                        refine pure_ (i := 2) (N := some 76) (v := ?_) (a' := ?_) #[true, true, true, false, false, false, false, false, false] rfl rfl (any_of HT_.out (by kernel_rfl)) (fun _ _ _ h => h) (Or.inl ⟨by rfl, ?_⟩) ?_ ?_
                        rotate_left
                        · intro w'
                          go_simp
                          with_reducible rfl
                        rotate_left
                        · simp only [Act.put, List.setIfInBounds_toArray, List.set_cons_zero, List.set_cons_succ, i64_w, i32_w]
                          rfl
                        refine pure_ (i := 4) (N := some 78) (v := ?_) (a' := ?_) #[true, true, true, false, true, false, false, false, false] rfl rfl (any_of HT_.out (by kernel_rfl)) (fun _ _ _ h => h) (Or.inl ⟨by rfl, ?_⟩) ?_ ?_
                        rotate_left
                        · intro w'
                          go_simp
                          with_reducible rfl
                        rotate_left
                        · simp only [Act.put, List.setIfInBounds_toArray, List.set_cons_zero, List.set_cons_succ, i64_w, i32_w]
                          rfl
                        refine pure_ (i := 5) (N := some 79) (v := ?_) (a' := ?_) #[true, true, true, false, true, true, false, false, false] rfl rfl (any_of HT_.out (by kernel_rfl)) (fun _ _ _ h => h) (Or.inl ⟨by rfl, ?_⟩) ?_ ?_
                        rotate_left
                        · intro w'
                          go_simp
                          with_reducible rfl
                        rotate_left
                        · simp only [Act.put, List.setIfInBounds_toArray, List.set_cons_zero, List.set_cons_succ, i64_w, i32_w]
                          rfl
                        refine pure_ (i := 6) (N := some 80) (v := ?_) (a' := ?_) #[true, true, true, false, true, true, true, false, false] rfl rfl (any_of HT_.out (by kernel_rfl)) (fun _ _ _ h => h) (Or.inl ⟨by rfl, ?_⟩) ?_ ?_
                        rotate_left
                        · intro w'
                          go_simp
                          with_reducible rfl
                        rotate_left
                        · simp only [Act.put, List.setIfInBounds_toArray, List.set_cons_zero, List.set_cons_succ, i64_w, i32_w]
                          rfl
                        refine take_ (i := 3) (N := some 77) (v := ?_) (a' := ?_) #[true, true, true, true, true, true, true, false, false] rfl rfl (take_ofW HT_.out HW_.out (by kernel_rfl)) (fun _ _ _ h => h) (Or.inl ⟨by rfl, ?_⟩) hHeld ?_ ?_
                        rotate_left
                        · intro w' s0
                          obtain ⟨s1, s2⟩ := s0
                          go_simp
                          with_reducible rfl
                        rotate_left
                        · simp only [Act.put, List.setIfInBounds_toArray, List.set_cons_zero, List.set_cons_succ, i64_w, i32_w]
                          rfl
                        refine take_ (i := 7) (N := some 81) (v := ?_) (a' := ?_) #[true, true, true, true, true, true, true, true, false] rfl rfl (take_ofW HT_.out HW_.out (by kernel_rfl)) (fun _ _ _ h => h) (Or.inl ⟨by rfl, ?_⟩) hHeld ?_ ?_
                        rotate_left
                        · intro w' s0
                          obtain ⟨s1, s2⟩ := s0
                          go_simp
                          with_reducible rfl
                        rotate_left
                        · simp only [Act.put, List.setIfInBounds_toArray, List.set_cons_zero, List.set_cons_succ, i64_w, i32_w]
                          rfl
                        refine pure_ (i := 8) (N := some 82) (v := ?_) (a' := ?_) #[true, true, true, true, true, true, true, true, true] rfl rfl (any_of HT_.out (by kernel_rfl)) (fun _ _ _ h => h) (Or.inl ⟨by rfl, ?_⟩) ?_ ?_
                        rotate_left
                        · intro w'
                          go_simp
                          with_reducible rfl
                        rotate_left
                        · simp only [Act.put, List.setIfInBounds_toArray, List.set_cons_zero, List.set_cons_succ, i64_w, i32_w]
                          rfl
                        refine done_ (done_of HT_.out (by kernel_rfl)) ?_
                        go_wp2_with (fail)
                        go_roundg k3
                        case measure => have := HKk.out; omega
                        case rel => exact ⟨k + 1, _, rfl, by first | rfl | (rw [wsuc k (by omega)]), ⟨by omega⟩, ⟨by have := HKk.out; omega⟩, HBq, ⟨Cl.below (below_drew1 (Below.refl wr.heap.size wr)) _ _ HCk.out⟩, ⟨want_eq HW.out hs⟩⟩
                      · have hb : ((ws_ l0 k).toList == (ws_ l0 j).toList) = false := (Go.Lib.bytes_beq_false_iff _ _).2 hs
                        go_wp2_with (fail)
                        refine start_ (n := 9) (S := fun w' => w'.cell? (ad0.add k) = some (.string (ws_ l0 k)) ∧ w'.cell? (ad0.add j) = some (.string (ws_ l0 j))) (ds := []) #[false, false, false, false, false, false, false, false, false] (by kernel_rfl) rfl rfl (⟨hx2, hx3⟩) (fun hHeld => ?_); refine with_tabW reg15.tab reg15.bits (fun HT_ HW_ => ?_)
                        refine pure_ (i := 0) (N := some 74) (v := ?_) (a' := ?_) #[true, false, false, false, false, false, false, false, false] rfl rfl (any_of HT_.out (by kernel_rfl)) (fun _ _ _ h => h) (Or.inl ⟨by rfl, ?_⟩) ?_ ?_
                        rotate_left
                        · intro w'
                          go_simp
                          with_reducible rfl
                        rotate_left
                        · simp only [Act.put, List.setIfInBounds_toArray, List.set_cons_zero, List.set_cons_succ, i64_w, i32_w]
                          rfl
                        refine pure_ (i := 1) (N := some 75) (v := ?_) (a' := ?_) #[true, true, false, false, false, false, false, false, false] rfl rfl (any_of HT_.out (by kernel_rfl)) (fun _ _ _ h => h) (Or.inl ⟨by rfl, ?_⟩) ?_ ?_
                        rotate_left
                        · intro w'
                          go_simp
                          with_reducible rfl
                        rotate_left
                        · simp only [Act.put, List.setIfInBounds_toArray, List.set_cons_zero, List.set_cons_succ, i64_w, i32_w]
                          rfl
                        refine pure_ (i := 2) (N := some 76) (v := ?_) (a' := ?_) #[true, true, true, false, false, false, false, false, false] rfl rfl (any_of HT_.out (by kernel_rfl)) (fun _ _ _ h => h) (Or.inl ⟨by rfl, ?_⟩) ?_ ?_
                        rotate_left
                        · intro w'
                          go_simp
                          with_reducible rfl
                        rotate_left
                        · simp only [Act.put, List.setIfInBounds_toArray, List.set_cons_zero, List.set_cons_succ, i64_w, i32_w]
                          rfl
                        refine pure_ (i := 4) (N := some 78) (v := ?_) (a' := ?_) #[true, true, true, false, true, false, false, false, false] rfl rfl (any_of HT_.out (by kernel_rfl)) (fun _ _ _ h => h) (Or.inl ⟨by rfl, ?_⟩) ?_ ?_
                        rotate_left
                        · intro w'
                          go_simp
                          with_reducible rfl
                        rotate_left
                        · simp only [Act.put, List.setIfInBounds_toArray, List.set_cons_zero, List.set_cons_succ, i64_w, i32_w]
                          rfl
                        refine pure_ (i := 5) (N := some 79) (v := ?_) (a' := ?_) #[true, true, true, false, true, true, false, false, false] rfl rfl (any_of HT_.out (by kernel_rfl)) (fun _ _ _ h => h) (Or.inl ⟨by rfl, ?_⟩) ?_ ?_
                        rotate_left
                        · intro w'
                          go_simp
                          with_reducible rfl
                        rotate_left
                        · simp only [Act.put, List.setIfInBounds_toArray, List.set_cons_zero, List.set_cons_succ, i64_w, i32_w]
                          rfl
                        refine pure_ (i := 6) (N := some 80) (v := ?_) (a' := ?_) #[true, true, true, false, true, true, true, false, false] rfl rfl (any_of HT_.out (by kernel_rfl)) (fun _ _ _ h => h) (Or.inl ⟨by rfl, ?_⟩) ?_ ?_
                        rotate_left
                        · intro w'
                          go_simp
                          with_reducible rfl
                        rotate_left
                        · simp only [Act.put, List.setIfInBounds_toArray, List.set_cons_zero, List.set_cons_succ, i64_w, i32_w]
                          rfl
                        refine take_ (i := 3) (N := some 77) (v := ?_) (a' := ?_) #[true, true, true, true, true, true, true, false, false] rfl rfl (take_ofW HT_.out HW_.out (by kernel_rfl)) (fun _ _ _ h => h) (Or.inl ⟨by rfl, ?_⟩) hHeld ?_ ?_
                        rotate_left
                        · intro w' s0
                          obtain ⟨s1, s2⟩ := s0
                          go_simp
                          with_reducible rfl
                        rotate_left
                        · simp only [Act.put, List.setIfInBounds_toArray, List.set_cons_zero, List.set_cons_succ, i64_w, i32_w]
                          rfl
                        refine take_ (i := 7) (N := some 81) (v := ?_) (a' := ?_) #[true, true, true, true, true, true, true, true, false] rfl rfl (take_ofW HT_.out HW_.out (by kernel_rfl)) (fun _ _ _ h => h) (Or.inl ⟨by rfl, ?_⟩) hHeld ?_ ?_
                        rotate_left
                        · intro w' s0
                          obtain ⟨s1, s2⟩ := s0
                          go_simp
                          with_reducible rfl
                        rotate_left
                        · simp only [Act.put, List.setIfInBounds_toArray, List.set_cons_zero, List.set_cons_succ, i64_w, i32_w]
                          rfl
                        refine pure_ (i := 8) (N := some 82) (v := ?_) (a' := ?_) #[true, true, true, true, true, true, true, true, true] rfl rfl (any_of HT_.out (by kernel_rfl)) (fun _ _ _ h => h) (Or.inl ⟨by rfl, ?_⟩) ?_ ?_
                        rotate_left
                        · intro w'
                          go_simp
                          with_reducible rfl
                        rotate_left
                        · simp only [Act.put, List.setIfInBounds_toArray, List.set_cons_zero, List.set_cons_succ, i64_w, i32_w]
                          rfl
                        refine done_ (done_of HT_.out (by kernel_rfl)) ?_
                        go_wp2_with (fail)
                        go_roundg k3
                        case measure => have := HKk.out; omega
                        case rel => exact ⟨k + 1, _, rfl, by first | rfl | (rw [wsuc k (by omega)]), ⟨by omega⟩, ⟨by have := HKk.out; omega⟩, HBq, ⟨Cl.below (below_drew1 (Below.refl wr.heap.size wr)) _ _ HCk.out⟩, ⟨want_ne HW.out hs⟩⟩
                    · have hkn : k = n := by omega
                      have hx : x = look (ws_ l0 j) (pr l0 l1 n) := by
                        rcases HW.out with ⟨h, _⟩ | ⟨_, h⟩
                        · omega
                        · rw [h, hkn]
                      obtain ⟨m, hm⟩ : ∃ m, n = m + 1 := ⟨n - 1, by omega⟩
                      obtain ⟨ad2, f2, hx2⟩ := (HR0.out.below HBk.out) j (by omega)
                      cases f2
                      have hC := HCk.out
                      rw [hm] at hC hx
                      obtain ⟨g1, g2, g3, v', hv, k1', k2', k3', k4'⟩ := hC
                      subst hv
                      have CC := Aside0.mk (cl_calls (ws_ l0 j) (pr l0 l1 m) (ws_ l0 m) (wn_ l1 m) g1 g2 g3 v')
                      have KK := Aside0.mk (show wr.heap[g1]? = some (.cells #[.string (ws_ l0 m)] 9 (0, 0)) ∧ wr.heap[g2]? = some (.cells #[.int .i64 (wn_ l1 m)] 2 (0, 0)) ∧ wr.heap[g3]? = some (.cells #[v'] 41 (0, 0)) ∧ Cl wr v' (pr l0 l1 m) from ⟨k1', k2', k3', k4'⟩)
                      have LK := Aside0.mk (show look (ws_ l0 j) ((ws_ l0 m, wn_ l1 m) :: pr l0 l1 m) = x from hx.symm)
                      clear k1' k2' k3' k4' hx
                      have hxx : (x != x) = false := by simp
                      by_cases hq : k < l0.length
                      · have e4 : decide ((k : Int) < (l0.length : Int)) = true := decide_eq_true (by omega); have e4n : decide (k < l0.length) = true := decide_eq_true (by omega)
                        have e5 : decide ((k : Int) < (l1.length : Int)) = false := decide_eq_false (by omega); have e5n : decide (k < l1.length) = false := decide_eq_false (by omega)
                        go_wp2_with (fail)
                        refine (CC.out _ KK.out.1 KK.out.2.1 KK.out.2.2.1 KK.out.2.2.2).mono ?_
                        rw [LK.out]
                        rintro e wz ⟨rfl, hdz⟩
                        have HBz := Aside0.mk (below_step HBk.out (Drawn0.below hdz))
                        have HCz := Aside0.mk (Cl.below (Drawn0.below hdz) _ _ HCk.out)
                        clear hdz
                        go_wp2_with (fail)
                        go_roundg k2
                        case measure => have := HKj.out; omega
                        case rel => exact ⟨j + 1, by first | rfl | (rw [wsuc j (by omega)]), ⟨by omega⟩, ⟨by have := HKj.out; omega⟩, HBz, HCz⟩
                      · have e4 : decide ((k : Int) < (l0.length : Int)) = false := decide_eq_false (by omega); have e4n : decide (k < l0.length) = false := decide_eq_false (by omega)
                        go_wp2_with (fail)
                        refine (CC.out _ KK.out.1 KK.out.2.1 KK.out.2.2.1 KK.out.2.2.2).mono ?_
                        rw [LK.out]
                        rintro e wz ⟨rfl, hdz⟩
                        have HBz := Aside0.mk (below_step HBk.out (Drawn0.below hdz))
                        have HCz := Aside0.mk (Cl.below (Drawn0.below hdz) _ _ HCk.out)
                        clear hdz
                        go_wp2_with (fail)
                        go_roundg k2
                        case measure => have := HKj.out; omega
                        case rel => exact ⟨j + 1, by first | rfl | (rw [wsuc j (by omega)]), ⟨by omega⟩, ⟨by have := HKj.out; omega⟩, HBz, HCz⟩
              · have hjn : j = n := by omega
                by_cases hq : j < l0.length
                · have e4 : decide ((j : Int) < (l0.length : Int)) = true := decide_eq_true (by omega); have e4n : decide (j < l0.length) = true := decide_eq_true (by omega)
                  have e5 : decide ((j : Int) < (l1.length : Int)) = false := decide_eq_false (by omega); have e5n : decide (j < l1.length) = false := decide_eq_false (by omega)
                  go_wp2_with (fail)
                  go_ret
                  exact ⟨rfl, HBj.out⟩
                · have e4 : decide ((j : Int) < (l0.length : Int)) = false := decide_eq_false (by omega); have e4n : decide (j < l0.length) = false := decide_eq_false (by omega)
                  go_wp2_with (fail)
                  go_ret
                  exact ⟨rfl, HBj.out⟩
        · have d2 : decide ((i : Int) < (l0.length : Int)) = false := decide_eq_false (by omega); have d2n : decide (i < l0.length) = false := decide_eq_false (by omega)
          go_wp2_with (fail)
          obtain ⟨kl, hkl⟩ : ∃ k : Nat, k = l0.length + 1 := ⟨_, rfl⟩
          obtain ⟨n, hn⟩ : ∃ n : Nat, n = i := ⟨_, rfl⟩
          have HNN := Aside0.mk (show n ≤ l0.length ∧ n ≤ l1.length ∧ (n = l0.length ∨ n = l1.length) by omega)
          rw [← hn] at HC
          clear hN
          go_loopg [7] kl (fun kq v7 w' => ∃ (j : Nat), v7 = .int .i64 (j : Int) ∧ Aside0 (j ≤ n ∧ n < j + kq) ∧ Aside0 (kq ≤ kl) ∧ Aside0 (Below w.heap.size w w') ∧ Aside0 (Cl w' vv (pr l0 l1 n)))
          case atStart => exact ⟨0, rfl, ⟨by have := HNN.out; omega⟩, ⟨Nat.le_refl _⟩, HB, HC⟩
          case round =>
            obtain ⟨j, rfl, HNj, HKj, HBj, HCj⟩ := hrel
            have hNN := HNN.out
            cases gk with
            | zero => exact absurd HNj.out (by omega)
            | succ k2 =>
              have hNj := HNj.out
              by_cases hj : j < n
              · have e2 : decide ((j : Int) < (l0.length : Int)) = true := decide_eq_true (by omega); have e2n : decide (j < l0.length) = true := decide_eq_true (by omega)
                have e3 : decide ((j : Int) < (l1.length : Int)) = true := decide_eq_true (by omega); have e3n : decide (j < l1.length) = true := decide_eq_true (by omega)
                obtain ⟨ad0, f0, hx0⟩ := (HR0.out.below HBj.out) j (by omega)
                obtain ⟨ad1, f1, hx1⟩ := (HR1.out.below HBj.out) j (by omega)
                cases f0
                cases f1
                have p0 := eq_true (show 0 ≤ (j : Int) by omega)
                have q0 := eq_true (show (j : Int) < (l0.length : Int) by omega)
                have q1 := eq_true (show (j : Int) < (l1.length : Int) by omega)
                go_wp2_with (fail)
                clear hx0 hx1
                obtain ⟨km, hkm⟩ : ∃ k : Nat, k = l0.length + 1 := ⟨_, rfl⟩
                go_loopg [8, 9] km (fun kq v8 v9 w' => ∃ (k : Nat) (x : Int), v8 = .int .i64 x ∧ v9 = .int .i64 (k : Int) ∧ Aside0 (j ≤ k ∧ k ≤ n ∧ n < k + kq) ∧ Aside0 (kq ≤ km) ∧ Aside0 (Below w.heap.size w w') ∧ Aside0 (Cl w' vv (pr l0 l1 n)) ∧ Aside0 (Want l0 l1 j k x))
                case atStart => exact ⟨j, _, rfl, rfl, ⟨by omega⟩, ⟨Nat.le_refl _⟩, HBj, HCj, ⟨.inl ⟨rfl, rfl⟩⟩⟩
                case round =>
                  obtain ⟨k, x, rfl, rfl, HNk, HKk, HBk, HCk, HW⟩ := hrel
                  cases gk with
                  | zero => exact absurd HNk.out (by omega)
                  | succ k3 =>
                    have hNk := HNk.out
                    by_cases hk : k < n
                    · have e4 : decide ((k : Int) < (l0.length : Int)) = true := decide_eq_true (by omega); have e4n : decide (k < l0.length) = true := decide_eq_true (by omega)
                      have e5 : decide ((k : Int) < (l1.length : Int)) = true := decide_eq_true (by omega); have e5n : decide (k < l1.length) = true := decide_eq_true (by omega)
                      obtain ⟨ad2, f2, hx2⟩ := (HR0.out.below HBk.out) k (by omega)
                      obtain ⟨ad3, f3, hx3⟩ := (HR0.out.below HBk.out) j (by omega)
                      obtain ⟨ad4, f4, hx4⟩ := (HR1.out.below HBk.out) k (by omega)
                      cases f2
                      cases f3
                      cases f4
                      have p1 := eq_true (show 0 ≤ (k : Int) by omega)
                      have r0 := eq_true (show (k : Int) < (l0.length : Int) by omega)
                      have r1 := eq_true (show (k : Int) < (l1.length : Int) by omega)
                      have HBq := Aside0.mk (below_drew1 HBk.out)
                      by_cases hs : ws_ l0 k = ws_ l0 j
                      · have hb : ((ws_ l0 k).toList == (ws_ l0 j).toList) = true := by rw [hs]; exact beq_self_eq_true _
                        go_wp2_with (fail)
                        refine start_ (n := 9) (S := fun w' => w'.cell? (ad0.add k) = some (.string (ws_ l0 k)) ∧ w'.cell? (ad0.add j) = some (.string (ws_ l0 j))) (ds := []) #[false, false, false, false, false, false, false, false, false] (by kernel_rfl) rfl rfl (⟨hx2, hx3⟩) (fun hHeld => ?_); refine with_tabW reg15.tab reg15.bits (fun HT_ HW_ => ?_)
                        refine pure_ (i := 0) (N := some 74) (v := ?_) (a' := ?_) #[true, false, false, false, false, false, false, false, false] rfl rfl (any_of HT_.out (by kernel_rfl)) (fun _ _ _ h => h) (Or.inl ⟨by rfl, ?_⟩) ?_ ?_
                        rotate_left
                        · intro w'
                          go_simp
                          with_reducible rfl
                        rotate_left
                        · simp only [Act.put, List.setIfInBounds_toArray, List.set_cons_zero, List.set_cons_succ, i64_w, i32_w]
                          rfl
                        refine pure_ (i := 1) (N := some 75) (v := ?_) (a' := ?_) #[true, true, false, false, false, false, false, false, false] rfl rfl (any_of HT_.out (by kernel_rfl)) (fun _ _ _ h => h) (Or.inl ⟨by rfl, ?_⟩) ?_ ?_
                        rotate_left
                        · intro w'
                          go_simp
                          with_reducible rfl
                        rotate_left
                        · simp only [Act.put, List.setIfInBounds_toArray, List.set_cons_zero, List.set_cons_succ, i64_w, i32_w]
                          rfl
                        refine pure_ (i := 2) (N := some 76) (v := ?_) (a' := ?_) #[true, true, true, false, false, false, false, false, false] rfl rfl (any_of HT_.out (by kernel_rfl)) (fun _ _ _ h => h) (Or.inl ⟨by rfl, ?_⟩) ?_ ?_
                        rotate_left
                        · intro w'
                          go_simp
                          with_reducible rfl
                        rotate_left
                        · simp only [Act.put, List.setIfInBounds_toArray, List.set_cons_zero, List.set_cons_succ, i64_w, i32_w]
                          rfl
                        refine pure_ (i := 4) (N := some 78) (v := ?_) (a' := ?_) #[true, true, true, false, true, false, false, false, false] rfl rfl (any_of HT_.out (by kernel_rfl)) (fun _ _ _ h => h) (Or.inl ⟨by rfl, ?_⟩) ?_ ?_
                        rotate_left
                        · intro w'
                          go_simp
                          with_reducible rfl
                        rotate_left
                        · simp only [Act.put, List.setIfInBounds_toArray, List.set_cons_zero, List.set_cons_succ, i64_w, i32_w]
                          rfl
                        refine pure_ (i := 5) (N := some 79) (v := ?_) (a' := ?_) #[true, true, true, false, true, true, false, false, false] rfl rfl (any_of HT_.out (by kernel_rfl)) (fun _ _ _ h => h) (Or.inl ⟨by rfl, ?_⟩) ?_ ?_
                        rotate_left
                        · intro w'
                          go_simp
                          with_reducible rfl
                        rotate_left
                        · simp only [Act.put, List.setIfInBounds_toArray, List.set_cons_zero, List.set_cons_succ, i64_w, i32_w]
                          rfl
                        refine pure_ (i := 6) (N := some 80) (v := ?_) (a' := ?_) #[true, true, true, false, true, true, true, false, false] rfl rfl (any_of HT_.out (by kernel_rfl)) (fun _ _ _ h => h) (Or.inl ⟨by rfl, ?_⟩) ?_ ?_
                        rotate_left
                        · intro w'
                          go_simp
                          with_reducible rfl
                        rotate_left
                        · simp only [Act.put, List.setIfInBounds_toArray, List.set_cons_zero, List.set_cons_succ, i64_w, i32_w]
                          rfl
                        refine take_ (i := 3) (N := some 77) (v := ?_) (a' := ?_) #[true, true, true, true, true, true, true, false, false] rfl rfl (take_ofW HT_.out HW_.out (by kernel_rfl)) (fun _ _ _ h => h) (Or.inl ⟨by rfl, ?_⟩) hHeld ?_ ?_
                        rotate_left
                        · intro w' s0
                          obtain ⟨s1, s2⟩ := s0
                          go_simp
                          with_reducible rfl
                        rotate_left
                        · simp only [Act.put, List.setIfInBounds_toArray, List.set_cons_zero, List.set_cons_succ, i64_w, i32_w]
                          rfl
                        refine take_ (i := 7) (N := some 81) (v := ?_) (a' := ?_) #[true, true, true, true, true, true, true, true, false] rfl rfl (take_ofW HT_.out HW_.out (by kernel_rfl)) (fun _ _ _ h => h) (Or.inl ⟨by rfl, ?_⟩) hHeld ?_ ?_
                        rotate_left
                        · intro w' s0
                          obtain ⟨s1, s2⟩ := s0
                          go_simp
                          with_reducible rfl
                        rotate_left
                        · simp only [Act.put, List.setIfInBounds_toArray, List.set_cons_zero, List.set_cons_succ, i64_w, i32_w]
                          rfl
                        refine pure_ (i := 8) (N := some 82) (v := ?_) (a' := ?_) #[true, true, true, true, true, true, true, true, true] rfl rfl (any_of HT_.out (by kernel_rfl)) (fun _ _ _ h => h) (Or.inl ⟨by rfl, ?_⟩) ?_ ?_
                        rotate_left
                        · intro w'
                          go_simp
                          with_reducible rfl
                        rotate_left
                        · simp only [Act.put, List.setIfInBounds_toArray, List.set_cons_zero, List.set_cons_succ, i64_w, i32_w]
                          rfl
                        refine done_ (done_of HT_.out (by kernel_rfl)) ?_
                        go_wp2_with (fail)
                        go_roundg k3
                        case measure => have := HKk.out; omega
                        case rel => exact ⟨k + 1, _, rfl, by first | rfl | (rw [wsuc k (by omega)]), ⟨by omega⟩, ⟨by have := HKk.out; omega⟩, HBq, ⟨Cl.below (below_drew1 (Below.refl wr.heap.size wr)) _ _ HCk.out⟩, ⟨want_eq HW.out hs⟩⟩
                      · have hb : ((ws_ l0 k).toList == (ws_ l0 j).toList) = false := (Go.Lib.bytes_beq_false_iff _ _).2 hs
                        go_wp2_with (fail)
                        refine start_ (n := 9) (S := fun w' => w'.cell? (ad0.add k) = some (.string (ws_ l0 k)) ∧ w'.cell? (ad0.add j) = some (.string (ws_ l0 j))) (ds := []) #[false, false, false, false, false, false, false, false, false] (by kernel_rfl) rfl rfl (⟨hx2, hx3⟩) (fun hHeld => ?_); refine with_tabW reg15.tab reg15.bits (fun HT_ HW_ => ?_)
                        refine pure_ (i := 0) (N := some 74) (v := ?_) (a' := ?_) #[true, false, false, false, false, false, false, false, false] rfl rfl (any_of HT_.out (by kernel_rfl)) (fun _ _ _ h => h) (Or.inl ⟨by rfl, ?_⟩) ?_ ?_
                        rotate_left
                        · intro w'
                          go_simp
                          with_reducible rfl
                        rotate_left
                        · simp only [Act.put, List.setIfInBounds_toArray, List.set_cons_zero, List.set_cons_succ, i64_w, i32_w]
                          rfl
                        refine pure_ (i := 1) (N := some 75) (v := ?_) (a' := ?_) #[true, true, false, false, false, false, false, false, false] rfl rfl (any_of HT_.out (by kernel_rfl)) (fun _ _ _ h => h) (Or.inl ⟨by rfl, ?_⟩) ?_ ?_
                        rotate_left
                        · intro w'
                          go_simp
                          with_reducible rfl
                        rotate_left
                        · simp only [Act.put, List.setIfInBounds_toArray, List.set_cons_zero, List.set_cons_succ, i64_w, i32_w]
                          rfl
                        refine pure_ (i := 2) (N := some 76) (v := ?_) (a' := ?_) #[true, true, true, false, false, false, false, false, false] rfl rfl (any_of HT_.out (by kernel_rfl)) (fun _ _ _ h => h) (Or.inl ⟨by rfl, ?_⟩) ?_ ?_
                        rotate_left
                        · intro w'
                          go_simp
                          with_reducible rfl
                        rotate_left
                        · simp only [Act.put, List.setIfInBounds_toArray, List.set_cons_zero, List.set_cons_succ, i64_w, i32_w]
                          rfl
                        refine pure_ (i := 4) (N := some 78) (v := ?_) (a' := ?_) #[true, true, true, false, true, false, false, false, false] rfl rfl (any_of HT_.out (by kernel_rfl)) (fun _ _ _ h => h) (Or.inl ⟨by rfl, ?_⟩) ?_ ?_
                        rotate_left
                        · intro w'
                          go_simp
                          with_reducible rfl
                        rotate_left
                        · simp only [Act.put, List.setIfInBounds_toArray, List.set_cons_zero, List.set_cons_succ, i64_w, i32_w]
                          rfl
                        refine pure_ (i := 5) (N := some 79) (v := ?_) (a' := ?_) #[true, true, true, false, true, true, false, false, false] rfl rfl (any_of HT_.out (by kernel_rfl)) (fun _ _ _ h => h) (Or.inl ⟨by rfl, ?_⟩) ?_ ?_
                        rotate_left
                        · intro w'
                          go_simp
                          with_reducible rfl
                        rotate_left
                        · simp only [Act.put, List.setIfInBounds_toArray, List.set_cons_zero, List.set_cons_succ, i64_w, i32_w]
                          rfl
                        refine pure_ (i := 6) (N := some 80) (v := ?_) (a' := ?_) #[true, true, true, false, true, true, true, false, false] rfl rfl (any_of HT_.out (by kernel_rfl)) (fun _ _ _ h => h) (Or.inl ⟨by rfl, ?_⟩) ?_ ?_
                        rotate_left
                        · intro w'
                          go_simp
                          with_reducible rfl
                        rotate_left
                        · simp only [Act.put, List.setIfInBounds_toArray, List.set_cons_zero, List.set_cons_succ, i64_w, i32_w]
                          rfl
                        refine take_ (i := 3) (N := some 77) (v := ?_) (a' := ?_) #[true, true, true, true, true, true, true, false, false] rfl rfl (take_ofW HT_.out HW_.out (by kernel_rfl)) (fun _ _ _ h => h) (Or.inl ⟨by rfl, ?_⟩) hHeld ?_ ?_
                        rotate_left
                        · intro w' s0
                          obtain ⟨s1, s2⟩ := s0
                          go_simp
                          with_reducible rfl
                        rotate_left
                        · simp only [Act.put, List.setIfInBounds_toArray, List.set_cons_zero, List.set_cons_succ, i64_w, i32_w]
                          rfl
                        refine take_ (i := 7) (N := some 81) (v := ?_) (a' := ?_) #[true, true, true, true, true, true, true, true, false] rfl rfl (take_ofW HT_.out HW_.out (by kernel_rfl)) (fun _ _ _ h => h) (Or.inl ⟨by rfl, ?_⟩) hHeld ?_ ?_
                        rotate_left
                        · intro w' s0
                          obtain ⟨s1, s2⟩ := s0
                          go_simp
                          with_reducible rfl
                        rotate_left
                        · simp only [Act.put, List.setIfInBounds_toArray, List.set_cons_zero, List.set_cons_succ, i64_w, i32_w]
                          rfl
                        refine pure_ (i := 8) (N := some 82) (v := ?_) (a' := ?_) #[true, true, true, true, true, true, true, true, true] rfl rfl (any_of HT_.out (by kernel_rfl)) (fun _ _ _ h => h) (Or.inl ⟨by rfl, ?_⟩) ?_ ?_
                        rotate_left
                        · intro w'
                          go_simp
                          with_reducible rfl
                        rotate_left
                        · simp only [Act.put, List.setIfInBounds_toArray, List.set_cons_zero, List.set_cons_succ, i64_w, i32_w]
                          rfl
                        refine done_ (done_of HT_.out (by kernel_rfl)) ?_
                        go_wp2_with (fail)
                        go_roundg k3
                        case measure => have := HKk.out; omega
                        case rel => exact ⟨k + 1, _, rfl, by first | rfl | (rw [wsuc k (by omega)]), ⟨by omega⟩, ⟨by have := HKk.out; omega⟩, HBq, ⟨Cl.below (below_drew1 (Below.refl wr.heap.size wr)) _ _ HCk.out⟩, ⟨want_ne HW.out hs⟩⟩
                    · have hkn : k = n := by omega
                      have hx : x = look (ws_ l0 j) (pr l0 l1 n) := by
                        rcases HW.out with ⟨h, _⟩ | ⟨_, h⟩
                        · omega
                        · rw [h, hkn]
                      obtain ⟨m, hm⟩ : ∃ m, n = m + 1 := ⟨n - 1, by omega⟩
                      obtain ⟨ad2, f2, hx2⟩ := (HR0.out.below HBk.out) j (by omega)
                      cases f2
                      have hC := HCk.out
                      rw [hm] at hC hx
                      obtain ⟨g1, g2, g3, v', hv, k1', k2', k3', k4'⟩ := hC
                      subst hv
                      have CC := Aside0.mk (cl_calls (ws_ l0 j) (pr l0 l1 m) (ws_ l0 m) (wn_ l1 m) g1 g2 g3 v')
                      have KK := Aside0.mk (show wr.heap[g1]? = some (.cells #[.string (ws_ l0 m)] 9 (0, 0)) ∧ wr.heap[g2]? = some (.cells #[.int .i64 (wn_ l1 m)] 2 (0, 0)) ∧ wr.heap[g3]? = some (.cells #[v'] 41 (0, 0)) ∧ Cl wr v' (pr l0 l1 m) from ⟨k1', k2', k3', k4'⟩)
                      have LK := Aside0.mk (show look (ws_ l0 j) ((ws_ l0 m, wn_ l1 m) :: pr l0 l1 m) = x from hx.symm)
                      clear k1' k2' k3' k4' hx
                      have hxx : (x != x) = false := by simp
                      by_cases hq : k < l0.length
                      · have e4 : decide ((k : Int) < (l0.length : Int)) = true := decide_eq_true (by omega); have e4n : decide (k < l0.length) = true := decide_eq_true (by omega)
                        have e5 : decide ((k : Int) < (l1.length : Int)) = false := decide_eq_false (by omega); have e5n : decide (k < l1.length) = false := decide_eq_false (by omega)
                        go_wp2_with (fail)
                        refine (CC.out _ KK.out.1 KK.out.2.1 KK.out.2.2.1 KK.out.2.2.2).mono ?_
                        rw [LK.out]
                        rintro e wz ⟨rfl, hdz⟩
                        have HBz := Aside0.mk (below_step HBk.out (Drawn0.below hdz))
                        have HCz := Aside0.mk (Cl.below (Drawn0.below hdz) _ _ HCk.out)
                        clear hdz
                        go_wp2_with (fail)
                        go_roundg k2
                        case measure => have := HKj.out; omega
                        case rel => exact ⟨j + 1, by first | rfl | (rw [wsuc j (by omega)]), ⟨by omega⟩, ⟨by have := HKj.out; omega⟩, HBz, HCz⟩
                      · have e4 : decide ((k : Int) < (l0.length : Int)) = false := decide_eq_false (by omega); have e4n : decide (k < l0.length) = false := decide_eq_false (by omega)
                        go_wp2_with (fail)
                        refine (CC.out _ KK.out.1 KK.out.2.1 KK.out.2.2.1 KK.out.2.2.2).mono ?_
                        rw [LK.out]
                        rintro e wz ⟨rfl, hdz⟩
                        have HBz := Aside0.mk (below_step HBk.out (Drawn0.below hdz))
                        have HCz := Aside0.mk (Cl.below (Drawn0.below hdz) _ _ HCk.out)
                        clear hdz
                        go_wp2_with (fail)
                        go_roundg k2
                        case measure => have := HKj.out; omega
                        case rel => exact ⟨j + 1, by first | rfl | (rw [wsuc j (by omega)]), ⟨by omega⟩, ⟨by have := HKj.out; omega⟩, HBz, HCz⟩
              · have hjn : j = n := by omega
                by_cases hq : j < l0.length
                · have e4 : decide ((j : Int) < (l0.length : Int)) = true := decide_eq_true (by omega); have e4n : decide (j < l0.length) = true := decide_eq_true (by omega)
                  have e5 : decide ((j : Int) < (l1.length : Int)) = false := decide_eq_false (by omega); have e5n : decide (j < l1.length) = false := decide_eq_false (by omega)
                  go_wp2_with (fail)
                  go_ret
                  exact ⟨rfl, HBj.out⟩
                · have e4 : decide ((j : Int) < (l0.length : Int)) = false := decide_eq_false (by omega); have e4n : decide (j < l0.length) = false := decide_eq_false (by omega)
                  go_wp2_with (fail)
                  go_ret
                  exact ⟨rfl, HBj.out⟩
set_option maxHeartbeats 2000000 in
set_option maxRecDepth 100000 in
theorem sets_long (A0 : Option Addr) (c0 n0 : Nat) (A1 : Option Addr) (c1 n1 : Nat) (w : World) (h0 : 20 < n0 ∨ 20 < n1) :
    Calls Try.prog 9 #[.slice A0 n0 c0, .slice A1 n1 c1] w fun e w' => e = .returned (.bool true) ∧ Below w.heap.size w w' := by
  by_cases h : 20 < n0
  · have d0 : decide (20 < (n0 : Int)) = true := decide_eq_true (by omega)
    clear h0 h
    go_enter Try.func9, Try.ntmps9
    go_wp2_with (fail)
    refine (ballcocklaw23_awake.calls true _ rfl aw).mono ?_
    rintro e w1 ⟨rfl, hb1⟩
    go_wp2_with (fail)
    refine (ballcocklaw23_awake.calls true _ rfl aw).mono ?_
    rintro e w2 ⟨rfl, hb2⟩
    go_wp2_with (fail)
    go_ret
    exact ⟨rfl, below_step (Drawn0.below hb1) (Drawn0.below hb2)⟩
  · have d0 : decide (20 < (n0 : Int)) = false := decide_eq_false (by omega)
    have d1 : decide (20 < (n1 : Int)) = true := decide_eq_true (by omega)
    clear h0 h
    go_enter Try.func9, Try.ntmps9
    go_wp2_with (fail)
    refine (ballcocklaw23_awake.calls true _ rfl aw).mono ?_
    rintro e w1 ⟨rfl, hb1⟩
    go_wp2_with (fail)
    refine (ballcocklaw23_awake.calls true _ rfl aw).mono ?_
    rintro e w2 ⟨rfl, hb2⟩
    go_wp2_with (fail)
    go_ret
    exact ⟨rfl, below_step (Drawn0.below hb1) (Drawn0.below hb2)⟩
theorem RS.ofRow {w : World} {a : Option Addr} {len cap : Nat} {zs : List ByteArray} (h : (a = none ∧ len = 0 ∧ cap = 0 ∧ zs = []) ∨ ∃ x, a = some x ∧ len ≤ cap ∧ zs.length = cap ∧ ∀ i, i < zs.length → w.cell? (x.add i) = some (.string (zs.getD i ByteArray.empty))) :
    ∃ l : List ByteArray, len = l.length ∧ RS w a l := by
  rcases h with ⟨rfl, rfl, rfl, rfl⟩ | ⟨x, rfl, hl, hz, hc⟩
  · exact ⟨[], rfl, fun i hi => by simp at hi⟩
  · refine ⟨zs.take len, by simp; omega, fun i hi => ⟨x, rfl, ?_⟩⟩
    have hi' : i < len := by simp at hi; omega
    have h1 := hc i (by omega)
    rw [h1]
    unfold ws_
    rw [List.getD_eq_getElem?_getD, List.getD_eq_getElem?_getD, List.getElem?_take_of_lt hi']
theorem RI.ofRow {w : World} {a : Option Addr} {len cap : Nat} {zs : List Int} (h : (a = none ∧ len = 0 ∧ cap = 0 ∧ zs = []) ∨ ∃ x, a = some x ∧ len ≤ cap ∧ zs.length = cap ∧ ∀ i, i < zs.length → w.cell? (x.add i) = some (.int .i64 (zs.getD i 0))) :
    ∃ l : List Int, len = l.length ∧ RI w a l := by
  rcases h with ⟨rfl, rfl, rfl, rfl⟩ | ⟨x, rfl, hl, hz, hc⟩
  · exact ⟨[], rfl, fun i hi => by simp at hi⟩
  · refine ⟨zs.take len, by simp; omega, fun i hi => ⟨x, rfl, ?_⟩⟩
    have hi' : i < len := by simp at hi; omega
    have h1 := hc i (by omega)
    rw [h1]
    unfold wn_
    rw [List.getD_eq_getElem?_getD, List.getD_eq_getElem?_getD, List.getElem?_take_of_lt hi']
theorem sets_walk (a0 : Option Addr) (len0 cap0 : Nat) (z0 : List ByteArray) (a1 : Option Addr) (len1 cap1 : Nat) (z1 : List Int) (w : World) (w0 : (a0 = none ∧ len0 = 0 ∧ cap0 = 0 ∧ z0 = []) ∨ ∃ x, a0 = some x ∧ len0 ≤ cap0 ∧ z0.length = cap0 ∧ ∀ i, i < z0.length → w.cell? (x.add i) = some (.string (z0.getD i ByteArray.empty))) (w1 : (a1 = none ∧ len1 = 0 ∧ cap1 = 0 ∧ z1 = []) ∨ ∃ x, a1 = some x ∧ len1 ≤ cap1 ∧ z1.length = cap1 ∧ ∀ i, i < z1.length → w.cell? (x.add i) = some (.int .i64 (z1.getD i 0))) :
    Calls Try.prog 9 #[.slice a0 len0 cap0, .slice a1 len1 cap1] w fun e w' => e = .returned (.bool true) ∧ Below w.heap.size w w' := by
  obtain ⟨l0, rfl, hr0⟩ := RS.ofRow w0
  obtain ⟨l1, rfl, hr1⟩ := RI.ofRow w1
  by_cases h : 20 < l0.length ∨ 20 < l1.length
  · exact sets_long a0 cap0 _ a1 cap1 _ w h
  · exact sets_main a0 cap0 l0 a1 cap1 l1 w hr0 hr1 (by omega) (by omega)
end Go.Proofs.Ytbnligfjcmmjpaa.PEvL
