import Derived.Test.YtifjmokilbijlaaDoorMLexLexSgT
namespace Go.Proofs.YtifjmokilbijlaaDoor.PLex
open Go Go.RowKit Go.Proofs.YtifjmokilbijlaaDoorW.PrintWords Go.Proofs.YtifjmokilbijlaaDoorW.PrintLast Go.Proofs.YtifjmokilbijlaaDoorW.PrintMore BallLex
attribute [local go_sem] max2_int min2_int max_two min_two max_three min_three max_four min_four
set_option linter.unusedVariables false
set_option linter.unusedSimpArgs false
def treg2.T : Bool × List (List Nat × List Nat) := (true, [([], []), ([0], [0]), ([1], [1]), ([2], [2]), ([], []), ([4], [4]), ([5], [5]), ([6], [6]), ([3, 7], [3, 7]), ([8, 0, 1, 2, 3, 4, 5, 6, 7, 8], [8])])
def treg2.B : List Nat := [0, 1, 3, 7, 0, 16, 48, 112, 255, 511]
theorem treg2.tab : rtab .any (opsOf Tryd.f30 2) = treg2.T := by kernel_rfl
theorem treg2.bits : waitsOk treg2.T.2 treg2.B = true := by kernel_rfl
theorem cw3 {W : World} {g : Nat} {t : TypeId} {a b c : Value} (h : W.heap[g]? = some (.cells #[a, b, c] t (0, 0))) : W.cell? ⟨g, 0, none⟩ = some a ∧ W.cell? ⟨g, 1, none⟩ = some b ∧ W.cell? ⟨g, 2, none⟩ = some c := ⟨(blk_cell h 0).trans rfl, (blk_cell h 1).trans rfl, (blk_cell h 2).trans rfl⟩
theorem two_new (w : World) (o o' : Obj) : ((w.alloc o).alloc o').heap[w.heap.size]? = some o ∧ ((w.alloc o).alloc o').heap[w.heap.size + 1]? = some o' := by
  have e1 : (w.alloc o).heap.size = w.heap.size + 1 := by show (w.heap.push _).size = _; simp
  exact ⟨blk_alloc (blk_new w o) o', by rw [← e1]; exact blk_new (w.alloc o) o'⟩
theorem below_allocB {w0 w : World} (h : Below w0.heap.size w0 w) (o : Obj) : Below w0.heap.size w0 (w.alloc o) := h.alloc h.size o
theorem fin_ {W : World} {gz : Nat} {x y z a b c : Value} (hz : W.heap[gz]? = some (.cells #[x, y, z] 32 (0, 0))) : (((W.setCell ⟨gz, 0, none⟩ a).setCell ⟨gz, 1, none⟩ b).setCell ⟨gz, 2, none⟩ c).heap[gz]? = some (.cells #[a, b, c] 32 (0, 0)) := blk_put (blk_put (blk_put hz 0 a rfl) 1 b rfl) 2 c rfl
/-- What a token is handed back as. -/
def tkv (s : ByteArray) (k a b : Nat) : Value := .agg #[.int .i64 (k : Int), .string (s.extract a b), .int .i64 (a : Int)]
def TokR (s : ByteArray) (i : Nat) (g : Nat) (w0 w : World) (e : Ending) (w' : World) : Prop :=
  (∃ k j, tokAt s i = some (k, j) ∧ e = .returned (.tuple #[tkv s k i j, .int .i64 0]) ∧ w'.heap[g]? = some (.cells #[.string s, .int .i64 (j : Int)] 54 (0, 0)) ∧ KeepBut w w' g none ∧ Below w0.heap.size w0 w') ∨
  (tokAt s i = none ∧ (∃ x y, e = .returned (.tuple #[.agg #[.int .i64 x, .string y, .int .i64 (i : Int)], .int .i64 10])) ∧ KeepBut w w' g none ∧ Below w0.heap.size w0 w')
set_option maxHeartbeats 4000000 in
set_option maxRecDepth 100000 in
theorem token_c (g : Nat) (s : ByteArray) (i : Nat) (hi : i < s.size) (hs : s.size ≤ 1000000) (w0 w : World) (hB : Below w0.heap.size w0 w) (hge : w0.heap.size ≤ g) (hg : w.heap[g]? = some (.cells #[.string s, .int .i64 (i : Int)] 54 (0, 0))) :
    Calls Tryd.prog 30 #[.pointer (some ⟨g, 0, none⟩)] w (TokR s i g w0 w) := by
  have HI := Aside0.mk (show i < s.size ∧ s.size ≤ 1000000 ∧ w0.heap.size ≤ g from ⟨hi, hs, hge⟩)
  have p0 := eq_true (show 0 ≤ (i : Int) by omega)
  have q0 := eq_true (show (i : Int) < (s.size : Int) by omega)
  have q1 := eq_true (show i < s.size by omega)
  have BY := Aside0.mk (by_at s i hi)
  have k1a := (cw2 (blk_alloc hg (.cells #[.int .i64 0, .string ⟨#[]⟩, .int .i64 0] 32 (0, 0)))).2
  have hlt := blk_lt hg
  have HS := Aside0.mk (two_new w (.cells #[.int .i64 0, .string ⟨#[]⟩, .int .i64 0] 32 (0, 0)) (.cells #[.int .i64 0, .string ⟨#[]⟩, .int .i64 (i : Int)] 32 (0, 0)))
  have HG := Aside0.mk (blk_alloc (blk_alloc hg (.cells #[.int .i64 0, .string ⟨#[]⟩, .int .i64 0] 32 (0, 0))) (.cells #[.int .i64 0, .string ⟨#[]⟩, .int .i64 (i : Int)] 32 (0, 0)))
  have HB := Aside0.mk (below_allocB (below_allocB hB (.cells #[.int .i64 0, .string ⟨#[]⟩, .int .i64 0] 32 (0, 0))) (.cells #[.int .i64 0, .string ⟨#[]⟩, .int .i64 (i : Int)] 32 (0, 0)))
  have HKe := Aside0.mk (keep_alloc (keep_alloc (KeepBut.refl w g none) (.cells #[.int .i64 0, .string ⟨#[]⟩, .int .i64 0] 32 (0, 0))) (.cells #[.int .i64 0, .string ⟨#[]⟩, .int .i64 (i : Int)] 32 (0, 0)))
  have HN := Aside0.mk (show w.heap.size ≤ w.heap.size ∧ w.heap.size ≤ w.heap.size + 1 ∧ w.heap.size ≠ g ∧ w.heap.size + 1 ≠ g ∧ w.heap.size + 1 ≠ w.heap.size ∧ w0.heap.size ≤ w.heap.size from ⟨Nat.le_refl _, Nat.le_succ _, by omega, by omega, by omega, hB.size⟩)
  clear hg hB hs hge hlt
  go_enter Tryd.func30, Tryd.ntmps30
  go_wp2_with (fail)
  clear k1a
  generalize hW2 : (w.alloc (.cells #[.int .i64 0, .string ⟨#[]⟩, .int .i64 0] 32 (0, 0))).alloc (.cells #[.int .i64 0, .string ⟨#[]⟩, .int .i64 (i : Int)] 32 (0, 0)) = W2 at HS HG HB HKe ⊢
  clear hW2
  obtain ⟨gz, hgz⟩ : ∃ gz, w.heap.size = gz := ⟨_, rfl⟩
  obtain ⟨gt, hgt⟩ : ∃ gt, w.heap.size + 1 = gt := ⟨_, rfl⟩
  rw [hgt] at HS HN ⊢
  rw [hgz] at HS HN ⊢
  have HGq := Aside0.mk (blk_drew HG.out)
  have HBq := Aside0.mk (below_drew1 HB.out)
  have HKq := Aside0.mk (keep_drew HKe.out)
  have HSq := Aside0.mk (And.intro (blk_drew HS.out.1) (blk_drew HS.out.2))
  have k0 := (cw2 HG.out).1
  have k1' := (cw2 HG.out).2
  refine start_ (n := 10) (S := (fun w' => w'.cell? ⟨g, 0, none⟩ = some (.string s) ∧ w'.cell? ⟨g, 1, none⟩ = some (.int .i64 (i : Int)))) (ds := []) #[f_, f_, f_, f_, f_, f_, f_, f_, f_, f_] (by kernel_rfl) rfl rfl (⟨k0, k1'⟩) (fun hHeld => ?_); refine with_tabW treg2.tab treg2.bits (fun HT_ HW_ => ?_)
  clear k0 k1' HG HB HKe HS
  generalize W2.drew = Wq at HGq HBq HKq HSq hHeld ⊢
  refine pure_ (i := 0) (N := some 13) (v := ?_) (a' := ?_) #[t_, f_, f_, f_, f_, f_, f_, f_, f_, f_] rfl rfl (any_of HT_.out (by kernel_rfl)) (fun _ _ _ h => h) (Or.inl ⟨by rfl, ?_⟩) ?_ ?_
  rotate_left
  · intro w'
    go_simp
    with_reducible rfl
  rotate_left
  · simp only [Act.put, List.setIfInBounds_toArray, List.set_cons_zero, List.set_cons_succ, i64_w, i32_w]
    rfl
  refine pure_ (i := 1) (N := some 14) (v := ?_) (a' := ?_) #[t_, t_, f_, f_, f_, f_, f_, f_, f_, f_] rfl rfl (any_of HT_.out (by kernel_rfl)) (fun _ _ _ h => h) (Or.inl ⟨by rfl, ?_⟩) ?_ ?_
  rotate_left
  · intro w'
    go_simp
    with_reducible rfl
  rotate_left
  · simp only [Act.put, List.setIfInBounds_toArray, List.set_cons_zero, List.set_cons_succ, i64_w, i32_w]
    rfl
  refine pure_ (i := 2) (N := some 15) (v := ?_) (a' := ?_) #[t_, t_, t_, f_, f_, f_, f_, f_, f_, f_] rfl rfl (any_of HT_.out (by kernel_rfl)) (fun _ _ _ h => h) (Or.inl ⟨by rfl, ?_⟩) ?_ ?_
  rotate_left
  · intro w'
    go_simp
    with_reducible rfl
  rotate_left
  · simp only [Act.put, List.setIfInBounds_toArray, List.set_cons_zero, List.set_cons_succ, i64_w, i32_w]
    rfl
  refine pure_ (i := 4) (N := some 17) (v := ?_) (a' := ?_) #[t_, t_, t_, f_, t_, f_, f_, f_, f_, f_] rfl rfl (any_of HT_.out (by kernel_rfl)) (fun _ _ _ h => h) (Or.inl ⟨by rfl, ?_⟩) ?_ ?_
  rotate_left
  · intro w'
    go_simp
    with_reducible rfl
  rotate_left
  · simp only [Act.put, List.setIfInBounds_toArray, List.set_cons_zero, List.set_cons_succ, i64_w, i32_w]
    rfl
  refine pure_ (i := 5) (N := some 18) (v := ?_) (a' := ?_) #[t_, t_, t_, f_, t_, t_, f_, f_, f_, f_] rfl rfl (any_of HT_.out (by kernel_rfl)) (fun _ _ _ h => h) (Or.inl ⟨by rfl, ?_⟩) ?_ ?_
  rotate_left
  · intro w'
    go_simp
    with_reducible rfl
  rotate_left
  · simp only [Act.put, List.setIfInBounds_toArray, List.set_cons_zero, List.set_cons_succ, i64_w, i32_w]
    rfl
  refine pure_ (i := 6) (N := some 19) (v := ?_) (a' := ?_) #[t_, t_, t_, f_, t_, t_, t_, f_, f_, f_] rfl rfl (any_of HT_.out (by kernel_rfl)) (fun _ _ _ h => h) (Or.inl ⟨by rfl, ?_⟩) ?_ ?_
  rotate_left
  · intro w'
    go_simp
    with_reducible rfl
  rotate_left
  · simp only [Act.put, List.setIfInBounds_toArray, List.set_cons_zero, List.set_cons_succ, i64_w, i32_w]
    rfl
  refine take_ (i := 3) (N := some 16) (v := ?_) (a' := ?_) #[t_, t_, t_, t_, t_, t_, t_, f_, f_, f_] rfl rfl (take_ofW HT_.out HW_.out (by kernel_rfl)) (fun _ _ _ h => h) (Or.inl ⟨by rfl, ?_⟩) hHeld ?_ ?_
  rotate_left
  · intro w' s0
    obtain ⟨s1, s2⟩ := s0
    go_simp
    with_reducible rfl
  rotate_left
  · simp only [Act.put, List.setIfInBounds_toArray, List.set_cons_zero, List.set_cons_succ, i64_w, i32_w]
    rfl
  refine take_ (i := 7) (N := some 20) (v := ?_) (a' := ?_) #[t_, t_, t_, t_, t_, t_, t_, t_, f_, f_] rfl rfl (take_ofW HT_.out HW_.out (by kernel_rfl)) (fun _ _ _ h => h) (Or.inl ⟨by rfl, ?_⟩) hHeld ?_ ?_
  rotate_left
  · intro w' s0
    obtain ⟨s1, s2⟩ := s0
    go_simp
    with_reducible rfl
  rotate_left
  · simp only [Act.put, List.setIfInBounds_toArray, List.set_cons_zero, List.set_cons_succ, i64_w, i32_w]
    rfl
  refine pure_ (i := 8) (N := some 21) (v := ?_) (a' := ?_) #[t_, t_, t_, t_, t_, t_, t_, t_, t_, f_] rfl rfl (any_of HT_.out (by kernel_rfl)) (fun _ _ _ h => h) (Or.inl ⟨by rfl, ?_⟩) ?_ ?_
  rotate_left
  · intro w'
    go_simp
    with_reducible rfl
  rotate_left
  · simp only [Act.put, List.setIfInBounds_toArray, List.set_cons_zero, List.set_cons_succ, i64_w, i32_w]
    rfl
  refine pure_ (i := 9) (N := some 5) (v := ?_) (a' := ?_) #[t_, t_, t_, t_, t_, t_, t_, t_, t_, t_] rfl rfl (any_of HT_.out (by kernel_rfl)) (fun _ _ _ h => h) (Or.inl ⟨by rfl, ?_⟩) ?_ ?_
  rotate_left
  · intro w'
    go_simp
    with_reducible rfl
  rotate_left
  · simp only [Act.put, List.setIfInBounds_toArray, List.set_cons_zero, List.set_cons_succ, i64_w, i32_w]
    rfl
  refine done_ (done_of HT_.out (by kernel_rfl)) ?_
  obtain ⟨_, _, _, _, cl⟩ := tells_letter
  obtain ⟨_, _, _, _, cd⟩ := tells_digit
  have CL := Aside0.mk cl
  have CD := Aside0.mk cd
  clear cl cd
  have hby := BY.out
  rw [← hby]
  have HC := Aside0.mk (show by_ s i < 256 by rw [hby]; exact UInt8.toNat_lt _)
  clear hby
  go_wp2_with (fail)
  refine (CL.out (by_ s i) _ HC.out).mono ?_
  rintro e W3 ⟨rfl, hd⟩
  have HG3 := Aside0.mk (Drawn0.blk hd HGq.out)
  have HB3 := Aside0.mk (below_step HBq.out hd.below)
  have HK3 := Aside0.mk (HKq.out.trans (Drawn0.keep hd g) (.inl rfl))
  have HS3 := Aside0.mk (And.intro (Drawn0.blk hd HSq.out.1) (Drawn0.blk hd HSq.out.2))
  clear hd HGq HBq HKq HSq
  by_cases hl : letter (by_ s i) = true
  · have TA := Aside0.mk (show tokAt s i = some (0, rp word s i) by unfold tokAt; rw [if_pos hl]; rfl)
    rw [hl]
    clear hl
    go_wp2_with (fail)
    refine (run_c 57 word tells_word g s i (Nat.le_of_lt HI.out.1) HI.out.2.1 w0 _ HB3.out HI.out.2.2 HG3.out).mono ?_
    rintro e W4 ⟨rfl, hG4, hK4, hB4⟩
    have HG4 := Aside0.mk hG4
    have HB4 := Aside0.mk hB4
    have HK4 := Aside0.mk (HK3.out.trans hK4 (.inl rfl))
    have HS4 := Aside0.mk (And.intro (hK4.blk HS3.out.1 HN.out.2.2.1 (by simp)) (hK4.blk HS3.out.2 HN.out.2.2.2.1 (by simp)))
    clear hG4 hK4 hB4 HG3 HB3 HK3 HS3
    have z := cw3 HS4.out.1
    have z0 := z.1
    have z1 := z.2.1
    have z2 := z.2.2
    have u := cw3 HS4.out.2
    have u0 := u.1
    have u1 := u.2.1
    have u2 := u.2.2
    have fz0 := blk_frozen HS4.out.1 0
    have fz1 := blk_frozen HS4.out.1 1
    have fz2 := blk_frozen HS4.out.1 2
    have fu0 := blk_frozen HS4.out.2 0
    have fu1 := blk_frozen HS4.out.2 1
    have fu2 := blk_frozen HS4.out.2 2
    have hne := HN.out.2.2.2.2.1
    clear z u
    go_wp2_with (fail)
    (try simp only [Exit.inBlock, Exit.then])
    refine bodyPost_ret (results_ct rfl _ _ gz 32 #[.int .i64 0, .string (s.extract i (rp word s i)), .int .i64 (i : Int)] (0, 0) _ rfl (fin_ (by repeat (first | (with_reducible exact HS4.out.1) | refine blk_far ?_ (fun h => by have := HN.out; simp only at h; omega) _))) Tryd.underlying32 rfl (by kernel_rfl)) rfl ?_
    exact .inl ⟨_, _, TA.out, rfl, (by repeat (first | (with_reducible exact HG4.out) | refine blk_far ?_ (fun h => by have := HN.out; simp only at h; omega) _)), (by repeat (first | (with_reducible exact HK4.out) | refine keep_far ?_ (by have := HN.out; simp only; omega) _)), (by repeat (first | (with_reducible exact HB4.out) | refine below_set ?_ (by have := HN.out; omega)))⟩
  · have hl' : letter (by_ s i) = false := by simpa using hl
    have NL := Aside0.mk hl'
    rw [hl']
    clear hl hl'
    go_wp2_with (fail)
    refine (CD.out (by_ s i) _ HC.out).mono ?_
    rintro e W5 ⟨rfl, hd⟩
    have HG5 := Aside0.mk (Drawn0.blk hd HG3.out)
    have HB5 := Aside0.mk (below_step HB3.out hd.below)
    have HK5 := Aside0.mk (HK3.out.trans (Drawn0.keep hd g) (.inl rfl))
    have HS5 := Aside0.mk (And.intro (Drawn0.blk hd HS3.out.1) (Drawn0.blk hd HS3.out.2))
    clear hd HG3 HB3 HK3 HS3
    by_cases hl : digit (by_ s i) = true
    · have DG := Aside0.mk hl
      rw [hl]
      clear hl
      go_wp2_with (fail)
      refine (run_c 40 digit tells_digit g s i (Nat.le_of_lt HI.out.1) HI.out.2.1 w0 _ HB5.out HI.out.2.2 HG5.out).mono ?_
      rintro e W4 ⟨rfl, hG4, hK4, hB4⟩
      have HG4 := Aside0.mk hG4
      have HB4 := Aside0.mk hB4
      have HK4 := Aside0.mk (HK5.out.trans hK4 (.inl rfl))
      have HS4 := Aside0.mk (And.intro (hK4.blk HS5.out.1 HN.out.2.2.1 (by simp)) (hK4.blk HS5.out.2 HN.out.2.2.2.1 (by simp)))
      clear hG4 hK4 hB4 HG5 HB5 HK5 HS5
      have es := cut_size s i (rp digit s i) (rp_ge _ _ _) (rp_le _ _ _ (Nat.le_of_lt HI.out.1))
      have hge := rp_ge digit s i
      have hle := rp_le digit s i (Nat.le_of_lt HI.out.1)
      have hsz := HI.out.2.1
      have z := cw3 HS4.out.1
      have z0 := z.1
      have z1 := z.2.1
      have z2 := z.2.2
      have u := cw3 HS4.out.2
      have u0 := u.1
      have u1 := u.2.1
      have u2 := u.2.2
      have fz0 := blk_frozen HS4.out.1 0
      have fz1 := blk_frozen HS4.out.1 1
      have fz2 := blk_frozen HS4.out.1 2
      have fu0 := blk_frozen HS4.out.2 0
      have fu1 := blk_frozen HS4.out.2 1
      have fu2 := blk_frozen HS4.out.2 2
      have hne := HN.out.2.2.2.2.1
      clear z u
      by_cases h18 : 18 < rp digit s i - i
      · have TA := Aside0.mk (show tokAt s i = none by unfold tokAt; rw [if_neg (by rw [NL.out]; simp), if_pos DG.out, if_pos h18])
        have d1 : decide (18 < ((rp digit s i - i : Nat) : Int)) = true := decide_eq_true (by omega)
        have d2 : decide (18 < rp digit s i - i) = true := decide_eq_true h18
        clear h18 hge hle hsz
        go_wp2_with (fail)
        (try simp only [Exit.inBlock, Exit.then])
        refine bodyPost_ret (results_ct rfl _ _ gz 32 #[.int .i64 1, .string (s.extract i (rp digit s i)), .int .i64 (i : Int)] (0, 0) _ rfl (fin_ (by repeat (first | (with_reducible exact HS4.out.1) | refine blk_far ?_ (fun h => by have := HN.out; simp only at h; omega) _))) Tryd.underlying32 rfl (by kernel_rfl)) rfl ?_
        exact .inr ⟨TA.out, ⟨_, _, rfl⟩, (by repeat (first | (with_reducible exact HK4.out) | refine keep_far ?_ (by have := HN.out; simp only; omega) _)), (by repeat (first | (with_reducible exact HB4.out) | refine below_set ?_ (by have := HN.out; omega)))⟩
      · have TA := Aside0.mk (show tokAt s i = some (1, rp digit s i) by unfold tokAt; rw [if_neg (by rw [NL.out]; simp), if_pos DG.out, if_neg h18])
        have d1 : decide (18 < ((rp digit s i - i : Nat) : Int)) = false := decide_eq_false (by omega)
        have d2 : decide (18 < rp digit s i - i) = false := decide_eq_false h18
        clear h18 hge hle hsz
        go_wp2_with (fail)
        (try simp only [Exit.inBlock, Exit.then])
        refine bodyPost_ret (results_ct rfl _ _ gz 32 #[.int .i64 1, .string (s.extract i (rp digit s i)), .int .i64 (i : Int)] (0, 0) _ rfl (fin_ (by repeat (first | (with_reducible exact HS4.out.1) | refine blk_far ?_ (fun h => by have := HN.out; simp only at h; omega) _))) Tryd.underlying32 rfl (by kernel_rfl)) rfl ?_
        exact .inl ⟨_, _, TA.out, rfl, (by repeat (first | (with_reducible exact HG4.out) | refine blk_far ?_ (fun h => by have := HN.out; simp only at h; omega) _)), (by repeat (first | (with_reducible exact HK4.out) | refine keep_far ?_ (by have := HN.out; simp only; omega) _)), (by repeat (first | (with_reducible exact HB4.out) | refine below_set ?_ (by have := HN.out; omega)))⟩
    · have hl' : digit (by_ s i) = false := by simpa using hl
      have ND := Aside0.mk hl'
      rw [hl']
      clear hl hl'
      go_wp2_with (fail)
      refine (sign_c g s i HI.out.1 HI.out.2.1 w0 _ HB5.out HI.out.2.2 HG5.out).mono ?_
      rintro e W4 ⟨rfl, hG4, hK4, hB4⟩
      have HG4 := Aside0.mk hG4
      have HB4 := Aside0.mk hB4
      have HK4 := Aside0.mk (HK5.out.trans hK4 (.inl rfl))
      have HS4 := Aside0.mk (And.intro (hK4.blk HS5.out.1 HN.out.2.2.1 (by simp)) (hK4.blk HS5.out.2 HN.out.2.2.2.1 (by simp)))
      clear hG4 hK4 hB4 HG5 HB5 HK5 HS5
      have z := cw3 HS4.out.1
      have z0 := z.1
      have z1 := z.2.1
      have z2 := z.2.2
      have u := cw3 HS4.out.2
      have u0 := u.1
      have u1 := u.2.1
      have u2 := u.2.2
      have fz0 := blk_frozen HS4.out.1 0
      have fz1 := blk_frozen HS4.out.1 1
      have fz2 := blk_frozen HS4.out.1 2
      have fu0 := blk_frozen HS4.out.2 0
      have fu1 := blk_frozen HS4.out.2 1
      have fu2 := blk_frozen HS4.out.2 2
      have hne := HN.out.2.2.2.2.1
      clear z u
      by_cases h0 : 0 < sgn s i
      · have TA := Aside0.mk (show tokAt s i = some (2, i + sgn s i) by
          unfold tokAt
          rw [if_neg (by rw [NL.out]; simp), if_neg (by rw [ND.out]; simp)]
          unfold sgn at h0 ⊢
          by_cases hp : pair s i = true
          · rw [if_pos hp, if_pos hp]
          · rw [if_neg hp] at h0 ⊢
            by_cases hs : sign (by_ s i) = true
            · rw [if_neg hp, if_pos hs, if_pos hs]
            · rw [if_neg hs] at h0; omega)
        have d1 : decide (0 < sgn s i) = true := decide_eq_true h0
        clear h0
        rw [d1]
        go_wp2_with (fail)
        (try simp only [Exit.inBlock, Exit.then])
        refine bodyPost_ret (results_ct rfl _ _ gz 32 #[.int .i64 2, .string (s.extract i (i + sgn s i)), .int .i64 (i : Int)] (0, 0) _ rfl (fin_ (by repeat (first | (with_reducible exact HS4.out.1) | refine blk_far ?_ (fun h => by have := HN.out; simp only at h; omega) _))) Tryd.underlying32 rfl (by kernel_rfl)) rfl ?_
        exact .inl ⟨_, _, TA.out, rfl, (by repeat (first | (with_reducible exact HG4.out) | refine blk_far ?_ (fun h => by have := HN.out; simp only at h; omega) _)), (by repeat (first | (with_reducible exact HK4.out) | refine keep_far ?_ (by have := HN.out; simp only; omega) _)), (by repeat (first | (with_reducible exact HB4.out) | refine below_set ?_ (by have := HN.out; omega)))⟩
      · have TA := Aside0.mk (show tokAt s i = none by
          unfold tokAt
          rw [if_neg (by rw [NL.out]; simp), if_neg (by rw [ND.out]; simp)]
          unfold sgn at h0
          by_cases hp : pair s i = true
          · rw [if_pos hp] at h0; omega
          · rw [if_neg hp] at h0 ⊢
            by_cases hs : sign (by_ s i) = true
            · rw [if_pos hs] at h0; omega
            · rw [if_neg hs])
        have d1 : decide (0 < sgn s i) = false := decide_eq_false h0
        clear h0
        rw [d1]
        go_wp2_with (fail)
        (try simp only [Exit.inBlock, Exit.then])
        refine bodyPost_ret (results_ct rfl _ _ gz 32 #[.int .i64 0, .string ⟨#[]⟩, .int .i64 (i : Int)] (0, 0) _ rfl (fin_ (by repeat (first | (with_reducible exact HS4.out.1) | refine blk_far ?_ (fun h => by have := HN.out; simp only at h; omega) _))) Tryd.underlying32 rfl (by kernel_rfl)) rfl ?_
        exact .inr ⟨TA.out, ⟨_, _, rfl⟩, (by repeat (first | (with_reducible exact HK4.out) | refine keep_far ?_ (by have := HN.out; simp only; omega) _)), (by repeat (first | (with_reducible exact HB4.out) | refine below_set ?_ (by have := HN.out; omega)))⟩
end Go.Proofs.YtifjmokilbijlaaDoor.PLex
