-- Words and walks printed by the kit and by programs of this session, and texts by hand, cut to what this law uses (wip/pack.py).
import Derived.Test.YtijhnmbegceonaaDoorTurX13
import Derived.Test.YtijhnmbegceonaaDoorTurX14
namespace Go.Proofs.YtijhnmbegceonaaDoor.PTerm
open Go.RowKit Go.Proofs.YtijhnmbegceonaaDoorW.PrintWords Go.Proofs.YtijhnmbegceonaaDoorW.PrintLast Go.Proofs.YtijhnmbegceonaaDoorW.PrintMore
attribute [local go_sem] max2_int min2_int max_two min_two max_three min_three max_four min_four
set_option linter.unusedVariables false
set_option linter.unusedSimpArgs false
theorem three_new (w : World) (o o' o2 : Obj) : (((w.alloc o).alloc o').alloc o2).heap[w.heap.size]? = some o ∧ (((w.alloc o).alloc o').alloc o2).heap[w.heap.size + 1]? = some o' ∧ (((w.alloc o).alloc o').alloc o2).heap[w.heap.size + 1 + 1]? = some o2 := by
  have e1 : (w.alloc o).heap.size = w.heap.size + 1 := by show (w.heap.push _).size = _; simp
  have e2 : ((w.alloc o).alloc o').heap.size = w.heap.size + 1 + 1 := by show ((w.alloc o).heap.push _).size = _; rw [Array.size_push, e1]
  exact ⟨blk_alloc (blk_alloc (blk_new w o) o') o2, blk_alloc (by rw [← e1]; exact blk_new (w.alloc o) o') o2, by rw [← e2]; exact blk_new ((w.alloc o).alloc o') o2⟩
theorem two_new (w : World) (o o' : Obj) : ((w.alloc o).alloc o').heap[w.heap.size]? = some o ∧ ((w.alloc o).alloc o').heap[w.heap.size + 1]? = some o' := by
  have e1 : (w.alloc o).heap.size = w.heap.size + 1 := by show (w.heap.push _).size = _; simp
  exact ⟨blk_alloc (blk_new w o) o', by rw [← e1]; exact blk_new (w.alloc o) o'⟩
def cutN (l : List (S24)) : Nat → Nat
  | 0 => 0
  | n + 1 => if (l.getD n ⟨0, 0⟩).f0 = 0 then cutN l n else n + 1
def trimT (l : List (S24)) : List (S24) := l.take (cutN l l.length)
theorem cutN_le (l : List (S24)) : ∀ n, cutN l n ≤ n
  | 0 => Nat.le_refl _
  | n + 1 => by unfold cutN; split; exact Nat.le_succ_of_le (cutN_le l n); exact Nat.le_refl _
theorem rd24 (l : List (S24)) (i : Nat) (h : i < l.length) : rd_T24 l (i : Int) = l.getD i ⟨0, 0⟩ := by
  unfold rd_T24; rw [Int.toNat_natCast, List.getD_eq_getElem?_getD, List.getD_eq_getElem?_getD, List.getElem?_eq_getElem h]; rfl
theorem trim_l0 (l : List (S24)) (a b : Int) (hl : l.length < 1000000) : ∀ n, n ≤ l.length → Ev (fun k => term_trim.l0 k (n : Int) l a b) (l.take (cutN l n), a, b) := by
  have stop : ∀ n, n ≤ l.length → Ev (fun k => term_trim.j1 k (n : Int) false l a b) (l.take n, a, b) := by
    intro n hn
    refine Ev.step (fun k => by rw [term_trim.j1]) (PRat.Ev_neg (by decide) (PRat.Ev_pos (by omega) (PRat.Ev_pos (by omega) ?_)))
    rw [Int.toNat_natCast]
    have e : api_Rat_58.f (l.take n) = some (l.take n) := by unfold api_Rat_58.f; rw [if_pos (by rw [List.length_take]; omega)]
    rw [e]
    exact Ev.now _
  intro n
  induction n with
  | zero =>
    intro _
    exact Ev.step (fun k => by rw [term_trim.l0]) (PRat.Ev_neg (by omega) (stop 0 (by omega)))
  | succ n ih =>
    intro hn
    have ew : wrap64 (((n + 1 : Nat) : Int) - 1) = (n : Int) := by unfold wrap64; omega
    refine Ev.step (fun k => by rw [term_trim.l0]) (PRat.Ev_pos (by omega) ?_)
    rw [ew]
    refine PRat.Ev_pos (by omega) (PRat.Ev_pos (by omega) ?_)
    rw [rd24 l n (by omega)]
    by_cases h0 : (l.getD n ⟨0, 0⟩).f0 = 0
    · rw [show ((l.getD n ⟨0, 0⟩).f0 == 0) = true by simp only [h0]; rfl]
      have ec : cutN l (n + 1) = cutN l n := by rw [cutN, if_pos h0]
      rw [ec]
      refine Ev.step (fun k => by rw [term_trim.j1]) (PRat.Ev_pos rfl ?_)
      rw [ew]
      exact ih (by omega)
    · rw [show ((l.getD n ⟨0, 0⟩).f0 == 0) = false by rw [beq_eq_false_iff_ne]; exact h0]
      have ec : cutN l (n + 1) = n + 1 := by rw [cutN, if_neg h0]
      rw [ec]
      exact stop (n + 1) hn
theorem trim_ev (l : List (S24)) (a b : Int) (hl : l.length < 1000000) : Ev (fun k => term_trim.f k l a b) (trimT l, a, b) := by
  unfold term_trim.f trimT
  exact trim_l0 l a b hl l.length (Nat.le_refl _)
def oneT (l : List (S24)) (n d : Int) : Nat → Int × Int
  | 0 => (n, d)
  | i + 1 => ((l.getD i ⟨0, 1⟩).f0, (l.getD i ⟨0, 1⟩).f1)
theorem one_succ (l : List (S24)) (n d : Int) (i : Nat) : oneT l n d (i + 1) = ((l.getD i ⟨0, 1⟩).f0, (l.getD i ⟨0, 1⟩).f1) := rfl
theorem one_ev (l : List (S24)) (n d : Int) (i : Nat) : term_one.f 1 l n d ((i : Int) - 1) = some (oneT l n d i) := by
  unfold term_one.f
  cases i with
  | zero => rw [if_pos (by omega)]; rfl
  | succ i =>
    have e : (((i + 1 : Nat) : Int) - 1) = (i : Int) := by omega
    rw [e, if_neg (by omega)]
    unfold term_At.f
    rw [if_neg (by omega), term_At.j0]
    by_cases h : i < l.length
    · rw [decide_eq_false (by omega), if_neg (by decide), if_pos (by omega), if_pos (by omega)]
      have e2 : rd_T24 l (i : Int) = l.getD i ⟨0, 1⟩ := by
        unfold rd_T24; rw [Int.toNat_natCast, List.getD_eq_getElem?_getD, List.getD_eq_getElem?_getD, List.getElem?_eq_getElem h]; rfl
      rw [e2]; rfl
    · rw [decide_eq_true (by omega), if_pos rfl]
      have e2 : l.getD i (⟨0, 1⟩ : S24) = ⟨0, 1⟩ := by rw [List.getD_eq_getElem?_getD, List.getElem?_eq_none (by omega)]; rfl
      rw [one_succ, e2]; rfl
theorem one_in {l : List (S24)} {n d : Int} (h : inAll l) (hn : BallQ.In64 n) (hd : BallQ.In64 d) (i : Nat) : BallQ.In64 (oneT l n d i).1 ∧ BallQ.In64 (oneT l n d i).2 := by
  cases i with
  | zero => exact ⟨hn, hd⟩
  | succ i =>
    rw [one_succ]
    by_cases hi : i < l.length
    · have e : l.getD i (⟨0, 1⟩ : S24) = l[i] := by rw [List.getD_eq_getElem?_getD, List.getElem?_eq_getElem hi]; rfl
      rw [e]; exact h _ (List.getElem_mem hi)
    · have e2 : l.getD i (⟨0, 1⟩ : S24) = ⟨0, 1⟩ := by rw [List.getD_eq_getElem?_getD, List.getElem?_eq_none (by omega)]; rfl
      rw [e2]; exact ⟨⟨by decide, by decide⟩, ⟨by decide, by decide⟩⟩
def eachT (f : Nat → Int × Int × Int) (n : Nat) : List (S24) × Int × Int × Int :=
  match ((List.range (n + 1)).map f).find? (fun x => decide (x.2.2 ≠ 0)) with
  | some x => ([], 0, 0, x.2.2)
  | none => (trimT ((List.range n).map (fun i => (⟨(f (i + 1)).1, (f (i + 1)).2.1⟩ : S24))), (f 0).1, (f 0).2.1, 0)
theorem each_bad {f : Nat → Int × Int × Int} {n i : Nat} (hi : i ≤ n) (h0 : ∀ j, j < i → (f j).2.2 = 0) (h1 : (f i).2.2 ≠ 0) : eachT f n = ([], 0, 0, (f i).2.2) := by
  unfold eachT
  have e : ((List.range (n + 1)).map f).find? (fun x => decide (x.2.2 ≠ 0)) = some (f i) := by
    rw [List.find?_map]
    have e2 : (List.range (n + 1)).find? ((fun x => decide (x.2.2 ≠ 0)) ∘ f) = some i := by
      rw [List.find?_range_eq_some]
      refine ⟨by simpa using h1, by simpa using (show i < n + 1 by omega), fun j hj => by simpa using h0 j hj⟩
    rw [e2]; rfl
  rw [e]
theorem each_good {f : Nat → Int × Int × Int} {n : Nat} (h0 : ∀ j, j < n + 1 → (f j).2.2 = 0) : eachT f n = (trimT ((List.range n).map (fun i => (⟨(f (i + 1)).1, (f (i + 1)).2.1⟩ : S24))), (f 0).1, (f 0).2.1, 0) := by
  unfold eachT
  have e : ((List.range (n + 1)).map f).find? (fun x => decide (x.2.2 ≠ 0)) = none := by
    rw [List.find?_eq_none]
    intro x hx
    obtain ⟨j, hj, rfl⟩ := List.mem_map.1 hx
    simpa using h0 j (by simpa using hj)
  rw [e]
def areg41.T : Bool × List (List Nat × List Nat) := (true, [([], []), ([], []), ([0, 1], [0, 1]), ([], []), ([], []), ([3, 4, 2], [3, 4]), ([2, 5, 5], [2, 5]), ([6], [6]), ([6], [6]), ([7, 6, 0, 1, 2, 3, 4, 5, 6, 7, 8], [7]), ([8, 9, 0, 1, 2, 3, 4, 5, 6, 7, 8, 9], [8])])
def areg41.B : List Nat := [0, 0, 3, 0, 0, 31, 63, 127, 127, 511, 1023]
theorem areg41.tab : rtab .any (opsOf Tryd.f41 1) = areg41.T := by kernel_rfl
theorem areg41.bits : waitsOk areg41.T.2 areg41.B = true := by kernel_rfl
def addF (l0 : List (S24)) (n0 d0 : Int) (l1 : List (S24)) (n1 d1 : Int) (i : Nat) : Int × Int × Int := PRat.addS (oneT l0 n0 d0 i).1 (oneT l0 n0 d0 i).2 (oneT l1 n1 d1 i).1 (oneT l1 n1 d1 i).2
set_option maxHeartbeats 4000000 in
set_option maxRecDepth 100000 in
theorem term_Add.c41 (A0 : Option Addr) (c0 : Nat) (l0 : List (S24)) (n0 d0 : Int) (A1 : Option Addr) (c1 : Nat) (l1 : List (S24)) (n1 d1 : Int) (ga gb : Nat) (w : World) (ha : w.heap[ga]? = some (.cells #[.slice A0 l0.length c0, .int .i64 n0, .int .i64 d0] 26 (0, 0))) (hb : w.heap[gb]? = some (.cells #[.slice A1 l1.length c1, .int .i64 n1, .int .i64 d1] 26 (0, 0))) (hr0 : Kd.C k24 w A0 l0.length l0) (hc0 : l0.length ≤ c0) (hr1 : Kd.C k24 w A1 l1.length l1) (hc1 : l1.length ≤ c1) (h0 : inAll l0 ∧ BallQ.In64 n0 ∧ BallQ.In64 d0) (h1 : inAll l1 ∧ BallQ.In64 n1 ∧ BallQ.In64 d1) (i : Nat) :
    Calls Tryd.prog 41 #[.int .i64 ((i : Int) - 1), .pointer (some ⟨ga, 0, none⟩), .pointer (some ⟨gb, 0, none⟩)] w fun e w' => e = .returned (.tuple #[.agg #[.int .i64 (addF l0 n0 d0 l1 n1 d1 i).1, .int .i64 (addF l0 n0 d0 l1 n1 d1 i).2.1], .int .i64 (addF l0 n0 d0 l1 n1 d1 i).2.2]) ∧ Below w.heap.size w w' := by
  have C0 := Aside0.mk (fun W (hb : Below w.heap.size w W) => term_one.calls 1 A0 c0 l0 n0 d0 ((i : Int) - 1) (oneT l0 n0 d0 i).1 (oneT l0 n0 d0 i).2 W (Kd.C_below hr0 hb) hc0 (one_ev l0 n0 d0 i))
  have C1 := Aside0.mk (fun W (hb : Below w.heap.size w W) => term_one.calls 1 A1 c1 l1 n1 d1 ((i : Int) - 1) (oneT l1 n1 d1 i).1 (oneT l1 n1 d1 i).2 W (Kd.C_below hr1 hb) hc1 (one_ev l1 n1 d1 i))
  have i0 := one_in h0.1 h0.2.1 h0.2.2 i
  have i1 := one_in h1.1 h1.2.1 h1.2.2 i
  have C2 := Aside0.mk (fun W => rat_Add.calls (oneT l0 n0 d0 i).1 (oneT l0 n0 d0 i).2 (oneT l1 n1 d1 i).1 (oneT l1 n1 d1 i).2 (addF l0 n0 d0 l1 n1 d1 i).1 (addF l0 n0 d0 l1 n1 d1 i).2.1 (addF l0 n0 d0 l1 n1 d1 i).2.2 W (by unfold rat_Add.f; rw [if_pos ⟨i0, i1⟩]; rfl))
  generalize addF l0 n0 d0 l1 n1 d1 i = z at C2 ⊢
  generalize (oneT l0 n0 d0 i).1 = x0 at C0 C2
  generalize (oneT l0 n0 d0 i).2 = x1 at C0 C2
  generalize (oneT l1 n1 d1 i).1 = y0 at C1 C2
  generalize (oneT l1 n1 d1 i).2 = y1 at C1 C2
  clear i0 i1 h0 h1 hr0 hr1 hc0 hc1
  obtain ⟨j, hj⟩ : ∃ j : Int, j = (i : Int) - 1 := ⟨_, rfl⟩
  rw [← hj] at C0 C1 ⊢
  clear hj
  obtain ⟨z0, z1, z2⟩ := z
  simp only at C2 ⊢
  have HZ := Aside0.mk (blk_new w (.cells #[.int .i64 0, .int .i64 0] 24 (0, 0)))
  have HB := Aside0.mk (below_alloc (Below.refl w.heap.size w) (.cells #[.int .i64 0, .int .i64 0] 24 (0, 0)))
  have HA := Aside0.mk (blk_alloc ha (.cells #[.int .i64 0, .int .i64 0] 24 (0, 0)))
  have HD := Aside0.mk (blk_alloc hb (.cells #[.int .i64 0, .int .i64 0] 24 (0, 0)))
  have NE := Aside0.mk (show ga ≠ w.heap.size ∧ gb ≠ w.heap.size ∧ w.heap.size ≤ w.heap.size from ⟨by have := blk_lt ha; omega, by have := blk_lt hb; omega, Nat.le_refl _⟩)
  clear ha hb
  go_enter Tryd.func41, Tryd.ntmps41
  go_wp2_with (fail)
  generalize hW2 : w.alloc (.cells #[.int .i64 0, .int .i64 0] 24 (0, 0)) = W1 at HZ HB HA HD ⊢
  clear hW2
  obtain ⟨gr, hgr⟩ : ∃ gr, gr = w.heap.size := ⟨_, rfl⟩
  have GE := Aside0.mk (show w.heap.size ≤ gr by rw [hgr]; exact Nat.le_refl _)
  rw [← hgr] at HZ NE ⊢
  clear hgr
  have HZ0 := Aside0.mk (blk_drew HZ.out)
  have HB0 := Aside0.mk (below_drew1 HB.out)
  have HA0 := Aside0.mk (blk_drew HA.out)
  have HD0 := Aside0.mk (blk_drew HD.out)
  refine start_ (n := 11) (S := (fun w' => w'.cell? ⟨ga, 0, none⟩ = some (.slice A0 l0.length c0) ∧ w'.cell? ⟨ga, 1, none⟩ = some (.int .i64 n0) ∧ w'.cell? ⟨ga, 2, none⟩ = some (.int .i64 d0) ∧ w'.cell? ⟨gb, 0, none⟩ = some (.slice A1 l1.length c1) ∧ w'.cell? ⟨gb, 1, none⟩ = some (.int .i64 n1) ∧ w'.cell? ⟨gb, 2, none⟩ = some (.int .i64 d1))) (ds := []) #[false, false, false, false, false, false, false, false, false, false, false] (by kernel_rfl) rfl rfl (⟨(blk_cell HA.out 0).trans rfl, (blk_cell HA.out 1).trans rfl, (blk_cell HA.out 2).trans rfl, (blk_cell HD.out 0).trans rfl, (blk_cell HD.out 1).trans rfl, (blk_cell HD.out 2).trans rfl⟩) (fun hHeld => ?_); refine with_tabW areg41.tab areg41.bits (fun HT_ HW_ => ?_)
  clear HZ HB HA HD
  generalize W1.drew = Wq at HZ0 HB0 HA0 HD0 hHeld ⊢
  refine take_ (i := 0) (N := some 6) (v := ?_) (a' := ?_) #[true, false, false, false, false, false, false, false, false, false, false] rfl rfl (take_ofW HT_.out HW_.out (by kernel_rfl)) (fun _ _ _ h => h) (Or.inl ⟨by rfl, ?_⟩) hHeld ?_ ?_
  rotate_left
  · intro w' s0
    obtain ⟨s0, s1, s2, s3, s4, s5⟩ := s0
    go_simp
    with_reducible rfl
  rotate_left
  · simp only [Act.put, List.setIfInBounds_toArray, List.set_cons_zero, List.set_cons_succ, i64_w, i32_w]
    rfl
  refine pure_ (i := 1) (N := some 7) (v := ?_) (a' := ?_) #[true, true, false, false, false, false, false, false, false, false, false] rfl rfl (any_of HT_.out (by kernel_rfl)) (fun _ _ _ h => h) (Or.inl ⟨by rfl, ?_⟩) ?_ ?_
  rotate_left
  · intro w'
    go_simp
    with_reducible rfl
  rotate_left
  · simp only [Act.put, List.setIfInBounds_toArray, List.set_cons_zero, List.set_cons_succ, i64_w, i32_w]
    rfl
  refine take_ (i := 3) (N := some 9) (v := ?_) (a' := ?_) #[true, true, false, true, false, false, false, false, false, false, false] rfl rfl (take_ofW HT_.out HW_.out (by kernel_rfl)) (fun _ _ _ h => h) (Or.inl ⟨by rfl, ?_⟩) hHeld ?_ ?_
  rotate_left
  · intro w' s0
    obtain ⟨s0, s1, s2, s3, s4, s5⟩ := s0
    go_simp
    with_reducible rfl
  rotate_left
  · simp only [Act.put, List.setIfInBounds_toArray, List.set_cons_zero, List.set_cons_succ, i64_w, i32_w]
    rfl
  refine pure_ (i := 4) (N := some 10) (v := ?_) (a' := ?_) #[true, true, false, true, true, false, false, false, false, false, false] rfl rfl (any_of HT_.out (by kernel_rfl)) (fun _ _ _ h => h) (Or.inl ⟨by rfl, ?_⟩) ?_ ?_
  rotate_left
  · intro w'
    go_simp
    with_reducible rfl
  rotate_left
  · simp only [Act.put, List.setIfInBounds_toArray, List.set_cons_zero, List.set_cons_succ, i64_w, i32_w]
    rfl
  refine one_ (i := 2) (N := some 8) #[true, true, true, true, true, false, false, false, false, false, false] rfl rfl (one_of HT_.out (by kernel_rfl)) (by decide) (fun K hK => ?_)
  refine goes_ Tryd.func43 (by kernel_rfl) rfl #[.agg #[.slice A0 l0.length c0, .int .i64 n0, .int .i64 d0], .int .i64 j] (by rfl) rfl rfl (by (try simp only [List.map_toArray, List.map_cons, List.map_nil]); first | done | rfl) ?_
  refine (C0.out _ HB0.out).mono ?_
  rintro e W1 ⟨rfl, hq⟩
  have HZ1 := Aside0.mk (blk_below HZ0.out hq)
  have HA1 := Aside0.mk (blk_below HA0.out hq)
  have HD1 := Aside0.mk (blk_below HD0.out hq)
  have HB1 := Aside0.mk (below_step HB0.out hq)
  clear hq HZ0 HA0 HD0 HB0
  refine ⟨_, rfl, ?_⟩
  refine hK.out _ _ ⟨(blk_cell HA1.out 0).trans rfl, (blk_cell HA1.out 1).trans rfl, (blk_cell HA1.out 2).trans rfl, (blk_cell HD1.out 0).trans rfl, (blk_cell HD1.out 1).trans rfl, (blk_cell HD1.out 2).trans rfl⟩ (fun hHeld => ?_)
  clear hK K
  refine norm_ (a' := ?_) ?_ ?_
  rotate_left
  · show Act.put _ (some 8) _ = _
    simp only [Act.put, List.setIfInBounds_toArray, List.set_cons_zero, List.set_cons_succ, i64_w, i32_w]
    rfl
  refine one_ (i := 5) (N := some 11) #[true, true, true, true, true, true, false, false, false, false, false] rfl rfl (one_of HT_.out (by kernel_rfl)) (by decide) (fun K hK => ?_)
  refine goes_ Tryd.func43 (by kernel_rfl) rfl #[.agg #[.slice A1 l1.length c1, .int .i64 n1, .int .i64 d1], .int .i64 j] (by rfl) rfl rfl (by (try simp only [List.map_toArray, List.map_cons, List.map_nil]); first | done | rfl) ?_
  refine (C1.out _ HB1.out).mono ?_
  rintro e W2 ⟨rfl, hq⟩
  have HZ2 := Aside0.mk (blk_below HZ1.out hq)
  have HA2 := Aside0.mk (blk_below HA1.out hq)
  have HD2 := Aside0.mk (blk_below HD1.out hq)
  have HB2 := Aside0.mk (below_step HB1.out hq)
  clear hq HZ1 HA1 HD1 HB1
  refine ⟨_, rfl, ?_⟩
  refine hK.out _ _ ⟨(blk_cell HA2.out 0).trans rfl, (blk_cell HA2.out 1).trans rfl, (blk_cell HA2.out 2).trans rfl, (blk_cell HD2.out 0).trans rfl, (blk_cell HD2.out 1).trans rfl, (blk_cell HD2.out 2).trans rfl⟩ (fun hHeld => ?_)
  clear hK K
  refine norm_ (a' := ?_) ?_ ?_
  rotate_left
  · show Act.put _ (some 11) _ = _
    simp only [Act.put, List.setIfInBounds_toArray, List.set_cons_zero, List.set_cons_succ, i64_w, i32_w]
    rfl
  refine one_ (i := 6) (N := some 12) #[true, true, true, true, true, true, true, false, false, false, false] rfl rfl (one_of HT_.out (by kernel_rfl)) (by decide) (fun K hK => ?_)
  refine goes_ Tryd.func42 (by kernel_rfl) rfl #[.agg #[.int .i64 x0, .int .i64 x1], .agg #[.int .i64 y0, .int .i64 y1]] (by rfl) rfl rfl (by (try simp only [List.map_toArray, List.map_cons, List.map_nil]); first | done | rfl) ?_
  refine (C2.out _).mono ?_
  rintro e W3 ⟨rfl, hq⟩
  have HZ3 := Aside0.mk (blk_below HZ2.out hq)
  have HA3 := Aside0.mk (blk_below HA2.out hq)
  have HD3 := Aside0.mk (blk_below HD2.out hq)
  have HB3 := Aside0.mk (below_step HB2.out hq)
  clear hq HZ2 HA2 HD2 HB2
  refine ⟨_, rfl, ?_⟩
  refine hK.out _ _ ⟨(blk_cell HA3.out 0).trans rfl, (blk_cell HA3.out 1).trans rfl, (blk_cell HA3.out 2).trans rfl, (blk_cell HD3.out 0).trans rfl, (blk_cell HD3.out 1).trans rfl, (blk_cell HD3.out 2).trans rfl⟩ (fun hHeld => ?_)
  clear hK K
  refine norm_ (a' := ?_) ?_ ?_
  rotate_left
  · show Act.put _ (some 12) _ = _
    simp only [Act.put, List.setIfInBounds_toArray, List.set_cons_zero, List.set_cons_succ, i64_w, i32_w]
    rfl
  refine pure_ (i := 7) (N := some 13) (v := ?_) (a' := ?_) #[true, true, true, true, true, true, true, true, false, false, false] rfl rfl (any_of HT_.out (by kernel_rfl)) (fun _ _ _ h => h) (Or.inl ⟨by rfl, ?_⟩) ?_ ?_
  rotate_left
  · intro w'
    go_simp
    with_reducible rfl
  rotate_left
  · simp only [Act.put, List.setIfInBounds_toArray, List.set_cons_zero, List.set_cons_succ, i64_w, i32_w]
    rfl
  refine pure_ (i := 8) (N := some 14) (v := ?_) (a' := ?_) #[true, true, true, true, true, true, true, true, true, false, false] rfl rfl (any_of HT_.out (by kernel_rfl)) (fun _ _ _ h => h) (Or.inl ⟨by rfl, ?_⟩) ?_ ?_
  rotate_left
  · intro w'
    go_simp
    with_reducible rfl
  rotate_left
  · simp only [Act.put, List.setIfInBounds_toArray, List.set_cons_zero, List.set_cons_succ, i64_w, i32_w]
    rfl
  have k0 := (blk_cell HZ3.out 0).trans rfl
  have k1 := (blk_cell HZ3.out 1).trans rfl
  have f0 := blk_frozen HZ3.out 0
  have f1 := blk_frozen HZ3.out 1
  refine one_ (i := 9) (N := none) #[true, true, true, true, true, true, true, true, true, true, false] rfl rfl (one_of HT_.out (by kernel_rfl)) (by decide) (fun K hK => ?_)
  refine skip_ (w1 := (W3.setCell ⟨gr, 0, none⟩ (.int .i64 z0)).setCell ⟨gr, 1, none⟩ (.int .i64 z1)) (by rfl) rfl (by first | (go_simp; done) | (go_simp; rfl)) ?_
  have HAz := Aside0.mk (blk_far (p := ⟨gr, 1, none⟩) (blk_far (p := ⟨gr, 0, none⟩) HA3.out NE.out.1 (.int .i64 z0)) NE.out.1 (.int .i64 z1))
  have HDz := Aside0.mk (blk_far (p := ⟨gr, 1, none⟩) (blk_far (p := ⟨gr, 0, none⟩) HD3.out NE.out.2.1 (.int .i64 z0)) NE.out.2.1 (.int .i64 z1))
  refine hK.out _ _ ⟨(blk_cell HAz.out 0).trans rfl, (blk_cell HAz.out 1).trans rfl, (blk_cell HAz.out 2).trans rfl, (blk_cell HDz.out 0).trans rfl, (blk_cell HDz.out 1).trans rfl, (blk_cell HDz.out 2).trans rfl⟩ (fun hHeld => ?_)
  clear hK K k0 k1 f0 f1
  refine norm_ (a' := ?_) ?_ ?_
  rotate_left
  · rfl
  refine pure_ (i := 10) (N := some 5) (v := ?_) (a' := ?_) #[true, true, true, true, true, true, true, true, true, true, true] rfl rfl (any_of HT_.out (by kernel_rfl)) (fun _ _ _ h => h) (Or.inl ⟨by rfl, ?_⟩) ?_ ?_
  rotate_left
  · intro w'
    go_simp
    with_reducible rfl
  rotate_left
  · simp only [Act.put, List.setIfInBounds_toArray, List.set_cons_zero, List.set_cons_succ, i64_w, i32_w]
    rfl
  refine done_ (done_of HT_.out (by kernel_rfl)) ?_
  go_wp2_with (fail)
  refine bodyPost_ret (results_ct rfl _ _ gr 24 #[.int .i64 z0, .int .i64 z1] (0, 0) _ rfl (blk_put (cs := #[.int .i64 z0, .int .i64 0]) (blk_put (cs := #[.int .i64 0, .int .i64 0]) HZ3.out 0 _ rfl) 1 _ rfl) Tryd.underlying24 rfl (by kernel_rfl)) rfl ?_
  exact ⟨rfl, below_set (below_set HB3.out GE.out) GE.out⟩
def EachO (R : List (S24) × Int × Int × Int) (w : World) (e : Ending) (w' : World) : Prop := ∃ v0_ : Value, e = .returned (.tuple #[.agg #[v0_, .int .i64 R.2.1, .int .i64 R.2.2.1], .int .i64 R.2.2.2]) ∧ Kd.R k24 24 w' w.heap.size (fun _ => True) v0_ R.1 ∧ Below w.heap.size w w'
set_option maxHeartbeats 4000000 in
set_option maxRecDepth 100000 in
theorem term_Add.each41 (f : Nat → Int × Int × Int) (n : Nat) (hn : n < 900000) (ga gb : Nat) (w : World) (HF : ∀ (i : Nat) (W : World), Below w.heap.size w W → Calls Tryd.prog 41 #[.int .i64 ((i : Int) - 1), .pointer (some ⟨ga, 0, none⟩), .pointer (some ⟨gb, 0, none⟩)] W fun e w' => e = .returned (.tuple #[.agg #[.int .i64 (f i).1, .int .i64 (f i).2.1], .int .i64 (f i).2.2]) ∧ Below W.heap.size W w') :
    Calls Tryd.prog 40 #[.int .i64 (n : Int), .func (.func 41) #[] #[.pointer (some ⟨ga, 0, none⟩), .pointer (some ⟨gb, 0, none⟩)]] w (EachO (eachT f n) w) := by
  have hu24 := Tryd.underlying24
  have hu26 := Tryd.underlying26
  have HFA := Aside0.mk HF
  have hw : wrap64 ((n : Int) + 1) = ((n + 1 : Nat) : Int) := by unfold wrap64; omega
  have HN := Aside0.mk hn
  have HS := Aside0.mk (two_new w (.cells #[.slice none 0 0, .int .i64 0, .int .i64 0] 26 (0, 0)) (.cells #[.slice none 0 0, .int .i64 0, .int .i64 0] 26 (0, 0)))
  have HB := Aside0.mk (below_alloc (below_alloc (Below.refl w.heap.size w) (.cells #[.slice none 0 0, .int .i64 0, .int .i64 0] 26 (0, 0))) (.cells #[.slice none 0 0, .int .i64 0, .int .i64 0] 26 (0, 0)))
  have HG := Aside0.mk (show w.heap.size ≤ w.heap.size ∧ w.heap.size ≤ w.heap.size + 1 ∧ w.heap.size + 1 ≠ w.heap.size from ⟨Nat.le_refl _, Nat.le_succ _, by omega⟩)
  have HW := Aside0.mk hw
  clear hn HF hw
  go_enter Tryd.func40, Tryd.ntmps40
  go_wp2_with (fail)
  rw [HW.out]
  obtain ⟨N, hN⟩ : ∃ N : Nat, N = n + 1 := ⟨_, rfl⟩
  rw [← hN]
  have HNn := Aside0.mk hN
  clear hN HW
  generalize hW2 : (w.alloc (.cells #[.slice none 0 0, .int .i64 0, .int .i64 0] 26 (0, 0))).alloc (.cells #[.slice none 0 0, .int .i64 0, .int .i64 0] 26 (0, 0)) = W2 at HS HB ⊢
  clear hW2
  obtain ⟨gr, hgr⟩ : ∃ gr, gr = w.heap.size := ⟨_, rfl⟩
  obtain ⟨gt, hgt⟩ : ∃ gt, gt = w.heap.size + 1 := ⟨_, rfl⟩
  have HR := Aside0.mk (show W2.heap[gr]? = some (.cells #[.slice none 0 0, .int .i64 0, .int .i64 0] 26 (0, 0)) by rw [hgr]; exact HS.out.1)
  have HT := Aside0.mk (show W2.heap[gt]? = some (.cells #[.slice none 0 0, .int .i64 0, .int .i64 0] 26 (0, 0)) by rw [hgt]; exact HS.out.2)
  have GG := Aside0.mk (show w.heap.size ≤ gr ∧ w.heap.size ≤ gt ∧ gr ≠ gt by omega)
  clear HS HG
  rw [← hgt, ← hgr]
  clear hgt hgr
  obtain ⟨kk, hkk⟩ : ∃ k : Nat, k = N + 1 := ⟨_, rfl⟩
  go_loopg [12] kk (fun kq v12 W => ∃ (i : Nat) (v : Value) (a b : Int) (C : List (S24)), v12 = .int .i64 (i : Int) ∧ Aside0 (i ≤ N ∧ N < i + kq) ∧ Aside0 (kq ≤ kk) ∧ Aside0 (∀ j, j < i → (f j).2.2 = 0) ∧ Aside0 (W.heap[gt]? = some (.cells #[v, .int .i64 a, .int .i64 b] 26 (0, 0))) ∧ Aside0 (W.heap[gr]? = some (.cells #[.slice none 0 0, .int .i64 0, .int .i64 0] 26 (0, 0))) ∧ Aside0 (Kd.R k24 24 W w.heap.size (fun _ => True) v C) ∧ Aside0 (C = (List.range (i - 1)).map (fun q => (⟨(f (q + 1)).1, (f (q + 1)).2.1⟩ : S24)) ∧ (0 < i → a = (f 0).1 ∧ b = (f 0).2.1)) ∧ Aside0 (Below w.heap.size w W))
  case atStart => exact ⟨0, .slice none 0 0, 0, 0, [], rfl, ⟨by omega⟩, ⟨Nat.le_refl _⟩, ⟨fun j hj => absurd hj (by omega)⟩, HT, HR, ⟨Kd.R_nil _ _ _ _ _⟩, ⟨rfl, fun h => absurd h (by omega)⟩, HB⟩
  case round =>
    clear HB HT HR
    obtain ⟨i, v, a, b, C, rfl, HJ, HK, H0, HT, HR, HO, HC, HB⟩ := hrel
    cases gk with
    | zero => exact absurd HJ.out (by omega)
    | succ k1 =>
      by_cases hlt : i < N
      · have d1 : decide ((i : Int) < (N : Int)) = true := decide_eq_true (by omega)
        have d2 : decide (i < N) = true := decide_eq_true hlt
        have hwi : wrap64 ((i : Int) - 1) = (i : Int) - 1 := by have := HN.out; have := HNn.out; unfold wrap64; omega
        have hf := HFA.out i
        rw [← hwi] at hf
        have HFI := Aside0.mk hf
        have HLt := Aside0.mk hlt
        have HWi := Aside0.mk hwi
        clear hf hwi hlt
        obtain ⟨z, hz⟩ : ∃ z, z = f i := ⟨_, rfl⟩
        rw [← hz] at HFI
        have HZ := Aside0.mk hz
        clear hz
        obtain ⟨z0, z1, z2⟩ := z
        simp only at HFI
        go_wp2_with (fail)
        refine (HFI.out _ HB.out).mono ?_
        rintro e W1 ⟨rfl, hb⟩
        have HB1 := Aside0.mk (below_alloc (below_step HB.out hb) (.cells #[.int .i64 z0, .int .i64 z1] 24 (0, 0)))
        have HT1 := Aside0.mk (blk_alloc (blk_below HT.out hb) (.cells #[.int .i64 z0, .int .i64 z1] 24 (0, 0)))
        have HR1 := Aside0.mk (blk_alloc (blk_below HR.out hb) (.cells #[.int .i64 z0, .int .i64 z1] 24 (0, 0)))
        have HO1 := Aside0.mk (Kd.R_alloc (Kd.R_below HO.out hb) (.cells #[.int .i64 z0, .int .i64 z1] 24 (0, 0)))
        have HX1 := Aside0.mk (blk_new W1 (.cells #[.int .i64 z0, .int .i64 z1] 24 (0, 0)))
        have HE := Aside0.mk (show (W1.alloc (.cells #[.int .i64 z0, .int .i64 z1] 24 (0, 0))).heap.size = W1.heap.size + 1 by show (W1.heap.push _).size = _; simp)
        clear hb HB HT HR HO d1 d2
        by_cases hz2 : z2 = 0
        rotate_left
        · have e1 : (z2 == 0) = false := by simp [hz2]
          have e2 : (z2 != 0) = true := by simp [hz2]
          have HZ2 := Aside0.mk hz2
          clear hz2
          have k0 := (blk_cell HR1.out 0).trans rfl
          have k1c := (blk_cell HR1.out 1).trans rfl
          have k2c := (blk_cell HR1.out 2).trans rfl
          have f0 := blk_frozen HR1.out 0
          have f1 := blk_frozen HR1.out 1
          have f2 := blk_frozen HR1.out 2
          go_wp2_with (fail)
          (try simp only [Exit.inBlock, Exit.then])
          refine bodyPost_ret (results_ct rfl _ _ gr 26 #[.slice none 0 0, .int .i64 0, .int .i64 0] (0, 0) _ rfl (blk_put (blk_put (blk_put HR1.out 0 (.slice none 0 0) rfl) 1 (.int .i64 0) rfl) 2 (.int .i64 0) rfl) Tryd.underlying26 rfl (by kernel_rfl)) rfl ?_
          have hbad := each_bad (f := f) (n := n) (i := i) (by have := HLt.out; have := HNn.out; omega) H0.out (by rw [← HZ.out]; exact HZ2.out)
          rw [hbad]
          exact ⟨_, by rw [← HZ.out]; rfl, Kd.R_nil _ _ _ _ _, below_set (below_set (below_set HB1.out GG.out.1) GG.out.1) GG.out.1⟩
        · subst hz2
          have g0 := (blk_cell HT1.out 0).trans rfl
          have g1 := (blk_cell HT1.out 1).trans rfl
          have g2 := (blk_cell HT1.out 2).trans rfl
          have f0 := blk_frozen HT1.out 0
          have f1 := blk_frozen HT1.out 1
          have f2 := blk_frozen HT1.out 2
          have x0 := (blk_cell HX1.out 0).trans rfl
          have x1 := (blk_cell HX1.out 1).trans rfl
          have hall : ∀ j, j < i + 1 → (f j).2.2 = 0 := by
            intro j hj
            by_cases hji : j = i
            · subst hji; rw [← HZ.out]
            · exact H0.out j (by omega)
          have HA := Aside0.mk hall
          clear hall
          have HI2 := Aside0.mk (show i + 1 ≤ N ∧ N < (i + 1) + k1 from ⟨by have := HLt.out; omega, by have := HJ.out; omega⟩)
          have HWs := Aside0.mk (show wrap64 ((i : Int) + 1) = ((i + 1 : Nat) : Int) by have := HLt.out; have := HN.out; have := HNn.out; unfold wrap64; omega)
          by_cases hi0 : i = 0
          · have e3 : ((i : Int) == 0) = true := by simp [hi0]
            have e4 : ((i : Int) != 0) = false := by simp [hi0]
            have e5 : (i == 0) = true := by simp [hi0]
            have HI0 := Aside0.mk hi0
            clear hi0
            go_wp2_with (fail)
            go_roundg k1
            case measure => have := HK.out; omega
            case rel =>
              refine ⟨i + 1, v, z0, z1, C, by rw [HWs.out], ⟨HI2.out⟩, ⟨by have := HK.out; omega⟩, HA, ⟨?_⟩, ⟨?_⟩, ⟨?_⟩, ⟨?_, fun _ => ?_⟩, ⟨?_⟩⟩
              · exact blk_put (blk_put HT1.out 1 (.int .i64 z0) rfl) 2 (.int .i64 z1) rfl
              · exact blk_far (p := ⟨gt, 2, none⟩) (blk_far (p := ⟨gt, 1, none⟩) HR1.out GG.out.2.2 (.int .i64 z0)) GG.out.2.2 (.int .i64 z1)
              · exact Kd.R_set (Kd.R_set HO1.out HT1.out (by decide) 1 (.int .i64 z0)) (blk_set HT1.out 1 (.int .i64 z0)) (by decide) 2 (.int .i64 z1)
              · have := HC.out.1; rw [this, HI0.out]
              · have := HZ.out; rw [HI0.out] at this; rw [← this]; exact ⟨rfl, rfl⟩
              · exact below_set (below_set HB1.out GG.out.2.1) GG.out.2.1
          · have e3 : ((i : Int) == 0) = false := by simp [hi0]
            have e4 : ((i : Int) != 0) = true := by simp [hi0]
            have e5 : (i == 0) = false := by simp [hi0]
            have HI0 := Aside0.mk hi0
            have HCl := Aside0.mk (show C.length < 1000000 by have h9 := HC.out.1; have := HLt.out; have := HN.out; have := HNn.out; rw [h9]; simp; omega)
            clear hi0
            go_wp2_with (first | ((with_reducible refine gate_builtin (b := .append) (xs := #[.tmp 31, .tmp 33]) rfl ?_); at_builtin; refine Kd.R_append k24 (w0 := w) w.heap.size rfl (.tmp 31) (.tmp 33) 22 24 (.agg #[(.int .i64 0), (.int .i64 0)]) 16 rfl Tryd.underlying22 info24 rfl (by decide) (by omega) v C (⟨z0, z1⟩ : S24) [.int .i64 z0, .int .i64 z1] (fun _ => True) (fun _ => False) rfl (by first | rfl | (rw [HE.out]; rfl)) ?aP (fun _ hk => hk.elim) ?aF ?aO ?aB ?aS ?aL ?_; (case aP => exact k24_mkM _ _ _ (⟨z0, z1⟩ : S24)); (case aB => exact HB1.out); (case aF => exact (fun _ _ => trivial)); (case aO => exact HO1.out); (case aS => exact (below_size HB1.out)); (case aL => have := HCl.out; omega); intro v1 w1 ho hb hg hat; obtain ⟨Av, cv, hv1⟩ := Kd.R_slice ho; subst hv1; have HOa := Aside0.mk (show Kd.R k24 24 w1 w.heap.size (fun _ => True) (.slice Av (C.length + 1) cv) (C ++ [(⟨z0, z1⟩ : S24)]) by rw [List.length_append] at ho; exact ho); have HBa := Aside0.mk hb; have HTa := Aside0.mk (blk_grown HT1.out hg (Kd.R_ne HO1.out HT1.out (by decide))); have HRa := Aside0.mk (blk_grown HR1.out hg (Kd.R_ne HO1.out HR1.out (by decide))); clear ho hb hg hat g0 g1 g2 f0 f1 f2 x0 x1; have g0 := (blk_cell HTa.out 0).trans rfl; have f0 := blk_frozen HTa.out 0))
            go_roundg k1
            case measure => have := HK.out; omega
            case rel =>
              refine ⟨i + 1, .slice Av (C.length + 1) cv, a, b, C ++ [⟨z0, z1⟩], by rw [HWs.out], ⟨HI2.out⟩, ⟨by have := HK.out; omega⟩, HA, ⟨?_⟩, ⟨?_⟩, ⟨?_⟩, ⟨?_, fun _ => HC.out.2 (by have := HI0.out; omega)⟩, ⟨?_⟩⟩
              · exact blk_put HTa.out 0 _ rfl
              · exact blk_far (p := ⟨gt, 0, none⟩) HRa.out GG.out.2.2 _
              · exact Kd.R_set HOa.out HTa.out (by decide) 0 _
              · obtain ⟨q, hq⟩ : ∃ q, i = q + 1 := ⟨i - 1, by have := HI0.out; omega⟩
                have h9 := HC.out.1
                have hz := HZ.out
                rw [h9, hq, Nat.add_sub_cancel, Nat.add_sub_cancel, List.range_succ, List.map_append, List.map_cons, List.map_nil]
                rw [hq] at hz
                rw [← hz]
              · exact below_set HBa.out GG.out.2.1
      · have hi : i = N := by have := HJ.out; omega
        obtain ⟨A, c, hv⟩ := Kd.R_slice HO.out
        have hC := HC.out.1
        have hCl : C.length = n := by have := HNn.out; rw [hC, List.length_map, List.length_range]; omega
        obtain ⟨kt, hkt⟩ := Ev.rounds (trim_ev C a b (by have := HN.out; omega))
        have d1 : decide ((i : Int) < (N : Int)) = false := decide_eq_false (by omega)
        have d2 : decide (i < N) = false := decide_eq_false (by omega)
        have ho := HO.out
        rw [hv] at ho
        obtain ⟨_, hcc, hCC⟩ := Kd.R_reads' ho
        have hn1 : n + 1 = N := HNn.out.symm
        have hgood := each_good (f := f) (n := n) (fun j hj => H0.out j (by omega))
        have hab := HC.out.2 (by omega)
        have eL : (List.range (i - 1)).map (fun q => (⟨(f (q + 1)).1, (f (q + 1)).2.1⟩ : S24)) = (List.range n).map (fun q => (⟨(f (q + 1)).1, (f (q + 1)).2.1⟩ : S24)) := by rw [show i - 1 = n by omega]
        rw [← eL, ← hC, ← hab.1, ← hab.2] at hgood
        have HGo := Aside0.mk hgood
        subst hv
        have HT9 := Aside0.mk (fun W (hb : Below wr.heap.size wr W) => term_trim.calls kt A c C a b (trimT C) a b W (Kd.C_below hCC hb) hcc hkt)
        have g0 := (blk_cell HT.out 0).trans rfl
        have g1 := (blk_cell HT.out 1).trans rfl
        have g2 := (blk_cell HT.out 2).trans rfl
        clear hi hC hCl hkt hcc hCC hn1 hgood hab eL ho hlt
        go_wp2_with (fail)
        refine (HT9.out _ (Below.refl _ _)).mono ?_
        rintro e W4 ⟨vr, rfl, ho4, hb4⟩
        obtain ⟨Av, cv, hvr⟩ := Kd.R_slice ho4
        subst hvr
        have HR4 := Aside0.mk (blk_below HR.out hb4)
        have HO4 := Aside0.mk (Kd.R_lower ho4 (below_size HB.out))
        have HB4 := Aside0.mk (below_step HB.out hb4)
        clear ho4 hb4 g0 g1 g2
        have k0 := (blk_cell HR4.out 0).trans rfl
        have k1c := (blk_cell HR4.out 1).trans rfl
        have k2c := (blk_cell HR4.out 2).trans rfl
        have f0 := blk_frozen HR4.out 0
        have f1 := blk_frozen HR4.out 1
        have f2 := blk_frozen HR4.out 2
        go_wp2_with (fail)
        (try simp only [Exit.inBlock, Exit.then])
        refine bodyPost_ret (results_ct rfl _ _ gr 26 #[(.slice Av (trimT C).length cv), .int .i64 a, .int .i64 b] (0, 0) _ rfl (blk_put (blk_put (blk_put HR4.out 0 (.slice Av (trimT C).length cv) rfl) 1 (.int .i64 a) rfl) 2 (.int .i64 b) rfl) Tryd.underlying26 rfl (by kernel_rfl)) rfl ?_
        rw [HGo.out]
        exact ⟨_, rfl, Kd.R_set (Kd.R_set (Kd.R_set HO4.out HR4.out (by decide) 0 (.slice Av (trimT C).length cv)) (blk_set HR4.out 0 (.slice Av (trimT C).length cv)) (by decide) 1 (.int .i64 a)) (blk_set (blk_set HR4.out 0 (.slice Av (trimT C).length cv)) 1 (.int .i64 a)) (by decide) 2 (.int .i64 b), below_set (below_set (below_set HB4.out GG.out.1) GG.out.1) GG.out.1⟩
def addT (l0 : List (S24)) (n0 d0 : Int) (l1 : List (S24)) (n1 d1 : Int) : List (S24) × Int × Int × Int :=
  if (rightT l0 n0 d0 && rightT l1 n1 d1) = true then eachT (addF l0 n0 d0 l1 n1 d1) (max l0.length l1.length) else ([], 0, 0, 2)
def term_Add.f (l0_0 : List (S24)) (a0_1 : Int) (a0_2 : Int) (l1_0 : List (S24)) (a1_1 : Int) (a1_2 : Int) : Option (List (S24) × Int × Int × Int) := if (inAll l0_0 ∧ l0_0.length < 800000 ∧ BallQ.In64 a0_1 ∧ BallQ.In64 a0_2) ∧ inAll l1_0 ∧ l1_0.length < 800000 ∧ BallQ.In64 a1_1 ∧ BallQ.In64 a1_2 then some (addT l0_0 a0_1 a0_2 l1_0 a1_1 a1_2) else none
set_option maxHeartbeats 4000000 in
set_option maxRecDepth 100000 in
theorem term_Add.calls (A0_0 : Option Addr) (c0_0 : Nat) (l0_0 : List (S24)) (a0_1 : Int) (a0_2 : Int) (A1_0 : Option Addr) (c1_0 : Nat) (l1_0 : List (S24)) (a1_1 : Int) (a1_2 : Int) (r1 : List (S24)) (r2 : Int) (r3 : Int) (r4 : Int) (w : World) (hr0_0 : Kd.C k24 w A0_0 l0_0.length l0_0) (hc0_0 : l0_0.length ≤ c0_0) (hr1_0 : Kd.C k24 w A1_0 l1_0.length l1_0) (hc1_0 : l1_0.length ≤ c1_0) (h : term_Add.f l0_0 a0_1 a0_2 l1_0 a1_1 a1_2 = some (r1, r2, r3, r4)) :
    Calls Tryd.prog 19 #[.agg #[.slice A0_0 l0_0.length c0_0, .int .i64 a0_1, .int .i64 a0_2], .agg #[.slice A1_0 l1_0.length c1_0, .int .i64 a1_1, .int .i64 a1_2]] w fun e w' => ∃ v0_ : Value, e = .returned (.tuple #[.agg #[v0_, .int .i64 r2, .int .i64 r3], .int .i64 r4]) ∧ Kd.R k24 24 w' w.heap.size (fun _ => True) v0_ r1 ∧ Below w.heap.size w w' := by
  unfold term_Add.f at h
  split at h
  rotate_left
  · cases h
  rename_i hh
  obtain ⟨⟨hin0, hl0, hn0, hd0⟩, hin1, hl1, hn1, hd1⟩ := hh
  have e := Option.some.inj h
  have e1 : r1 = (addT l0_0 a0_1 a0_2 l1_0 a1_1 a1_2).1 := by rw [e]
  have e2 : r2 = (addT l0_0 a0_1 a0_2 l1_0 a1_1 a1_2).2.1 := by rw [e]
  have e3 : r3 = (addT l0_0 a0_1 a0_2 l1_0 a1_1 a1_2).2.2.1 := by rw [e]
  have e4 : r4 = (addT l0_0 a0_1 a0_2 l1_0 a1_1 a1_2).2.2.2 := by rw [e]
  subst e1 e2 e3 e4
  clear h e
  show Calls Tryd.prog 19 _ w (EachO (addT l0_0 a0_1 a0_2 l1_0 a1_1 a1_2) w)
  have hu26 := Tryd.underlying26
  have W0 : World := w
  have RT0 := Aside0.mk (fun W (hb : Below w.heap.size w W) => term_Right.calls A0_0 c0_0 l0_0 a0_1 a0_2 (rightT l0_0 a0_1 a0_2) W (Kd.C_below hr0_0 hb) hc0_0 (by unfold term_Right.f; rw [if_pos ⟨hin0, by omega, hn0, hd0⟩]))
  have RT1 := Aside0.mk (fun W (hb : Below w.heap.size w W) => term_Right.calls A1_0 c1_0 l1_0 a1_1 a1_2 (rightT l1_0 a1_1 a1_2) W (Kd.C_below hr1_0 hb) hc1_0 (by unfold term_Right.f; rw [if_pos ⟨hin1, by omega, hn1, hd1⟩]))
  have EA := Aside0.mk (show ∀ (m : Nat), m = max l0_0.length l1_0.length → ∀ (ga gb : Nat) (W : World) (hb : Below w.heap.size w W) (ha : W.heap[ga]? = some (.cells #[.slice A0_0 l0_0.length c0_0, .int .i64 a0_1, .int .i64 a0_2] 26 (0, 0))) (hbb : W.heap[gb]? = some (.cells #[.slice A1_0 l1_0.length c1_0, .int .i64 a1_1, .int .i64 a1_2] 26 (0, 0))), Calls Tryd.prog 40 #[.int .i64 (m : Int), .func (.func 41) #[] #[.pointer (some ⟨ga, 0, none⟩), .pointer (some ⟨gb, 0, none⟩)]] W (EachO (eachT (addF l0_0 a0_1 a0_2 l1_0 a1_1 a1_2) (max l0_0.length l1_0.length)) W) from by
    rintro m rfl ga gb W hb ha hbb
    exact term_Add.each41 (addF l0_0 a0_1 a0_2 l1_0 a1_1 a1_2) _ (by omega) ga gb W (fun i W2 hb2 => term_Add.c41 A0_0 c0_0 l0_0 a0_1 a0_2 A1_0 c1_0 l1_0 a1_1 a1_2 ga gb W2 (blk_below ha hb2) (blk_below hbb hb2) (Kd.C_below (Kd.C_below hr0_0 hb) hb2) hc0_0 (Kd.C_below (Kd.C_below hr1_0 hb) hb2) hc1_0 ⟨hin0, hn0, hd0⟩ ⟨hin1, hn1, hd1⟩ i))
  unfold addT
  have HLn := Aside0.mk (And.intro hl0 hl1)
  have S3 := Aside0.mk (three_new w (.cells #[.slice A0_0 l0_0.length c0_0, .int .i64 a0_1, .int .i64 a0_2] 26 (0, 0)) (.cells #[.slice A1_0 l1_0.length c1_0, .int .i64 a1_1, .int .i64 a1_2] 26 (0, 0)) (.cells #[.slice none 0 0, .int .i64 0, .int .i64 0] 26 (0, 0)))
  have HB := Aside0.mk (below_alloc (below_alloc (below_alloc (Below.refl w.heap.size w) (.cells #[.slice A0_0 l0_0.length c0_0, .int .i64 a0_1, .int .i64 a0_2] 26 (0, 0))) (.cells #[.slice A1_0 l1_0.length c1_0, .int .i64 a1_1, .int .i64 a1_2] 26 (0, 0))) (.cells #[.slice none 0 0, .int .i64 0, .int .i64 0] 26 (0, 0)))
  have GE := Aside0.mk (show w.heap.size ≤ w.heap.size + 1 + 1 ∧ w.heap.size + 1 + 1 ≠ w.heap.size ∧ w.heap.size + 1 + 1 ≠ w.heap.size + 1 by omega)
  clear hin0 hl0 hn0 hd0 hin1 hl1 hn1 hd1 hr0_0 hc0_0 hr1_0 hc1_0 W0
  generalize rightT l0_0 a0_1 a0_2 = b0 at RT0 ⊢
  generalize rightT l1_0 a1_1 a1_2 = b1 at RT1 ⊢
  generalize eachT (addF l0_0 a0_1 a0_2 l1_0 a1_1 a1_2) (max l0_0.length l1_0.length) = RR at EA ⊢
  cases b0 with
  | false =>
    show Calls Tryd.prog 19 _ w (EachO ([], 0, 0, 2) w)
    go_enter Tryd.func19, Tryd.ntmps19
    go_wp2_with (fail)
    refine (RT0.out _ HB.out).mono ?_
    rintro e W1 ⟨rfl, hb⟩
    have HB1 := Aside0.mk (below_step HB.out hb)
    have HR1 := Aside0.mk (blk_below S3.out.2.2 hb)
    clear hb HB S3
    have k0 := (blk_cell HR1.out 0).trans rfl
    have k1c := (blk_cell HR1.out 1).trans rfl
    have k2c := (blk_cell HR1.out 2).trans rfl
    have f0 := blk_frozen HR1.out 0
    have f1 := blk_frozen HR1.out 1
    have f2 := blk_frozen HR1.out 2
    go_wp2_with (fail)
    (try simp only [Exit.inBlock, Exit.then])
    refine bodyPost_ret (results_ct rfl _ _ (w.heap.size + 1 + 1) 26 #[.slice none 0 0, .int .i64 0, .int .i64 0] (0, 0) _ rfl (blk_put (blk_put (blk_put HR1.out 0 (.slice none 0 0) rfl) 1 (.int .i64 0) rfl) 2 (.int .i64 0) rfl) Tryd.underlying26 rfl (by kernel_rfl)) rfl ?_
    exact ⟨_, rfl, Kd.R_nil _ _ _ _ _, below_set (below_set (below_set HB1.out GE.out.1) GE.out.1) GE.out.1⟩
  | true =>
   cases b1 with
   | false =>
    show Calls Tryd.prog 19 _ w (EachO ([], 0, 0, 2) w)
    go_enter Tryd.func19, Tryd.ntmps19
    go_wp2_with (fail)
    refine (RT0.out _ HB.out).mono ?_
    rintro e W1 ⟨rfl, hb⟩
    have HB1 := Aside0.mk (below_step HB.out hb)
    have HA1 := Aside0.mk (blk_below S3.out.1 hb)
    have HD1 := Aside0.mk (blk_below S3.out.2.1 hb)
    have HR1 := Aside0.mk (blk_below S3.out.2.2 hb)
    clear hb HB S3
    have p0 := (blk_cell HD1.out 0).trans rfl
    have p1 := (blk_cell HD1.out 1).trans rfl
    have p2 := (blk_cell HD1.out 2).trans rfl
    go_wp2_with (fail)
    refine (RT1.out _ HB1.out).mono ?_
    rintro e W2 ⟨rfl, hb⟩
    have HB2 := Aside0.mk (below_step HB1.out hb)
    have HA2 := Aside0.mk (blk_below HA1.out hb)
    have HD2 := Aside0.mk (blk_below HD1.out hb)
    have HR2 := Aside0.mk (blk_below HR1.out hb)
    clear hb HB1 HA1 HD1 HR1 p0 p1 p2
    have k0 := (blk_cell HR2.out 0).trans rfl
    have k1c := (blk_cell HR2.out 1).trans rfl
    have k2c := (blk_cell HR2.out 2).trans rfl
    have f0 := blk_frozen HR2.out 0
    have f1 := blk_frozen HR2.out 1
    have f2 := blk_frozen HR2.out 2
    go_wp2_with (fail)
    (try simp only [Exit.inBlock, Exit.then])
    refine bodyPost_ret (results_ct rfl _ _ (w.heap.size + 1 + 1) 26 #[.slice none 0 0, .int .i64 0, .int .i64 0] (0, 0) _ rfl (blk_put (blk_put (blk_put HR2.out 0 (.slice none 0 0) rfl) 1 (.int .i64 0) rfl) 2 (.int .i64 0) rfl) Tryd.underlying26 rfl (by kernel_rfl)) rfl ?_
    exact ⟨_, rfl, Kd.R_nil _ _ _ _ _, below_set (below_set (below_set HB2.out GE.out.1) GE.out.1) GE.out.1⟩
   | true =>
    show Calls Tryd.prog 19 _ w (EachO RR w)
    go_enter Tryd.func19, Tryd.ntmps19
    go_wp2_with (fail)
    refine (RT0.out _ HB.out).mono ?_
    rintro e W1 ⟨rfl, hb⟩
    have HB1 := Aside0.mk (below_step HB.out hb)
    have HA1 := Aside0.mk (blk_below S3.out.1 hb)
    have HD1 := Aside0.mk (blk_below S3.out.2.1 hb)
    have HR1 := Aside0.mk (blk_below S3.out.2.2 hb)
    clear hb HB S3
    have p0 := (blk_cell HD1.out 0).trans rfl
    have p1 := (blk_cell HD1.out 1).trans rfl
    have p2 := (blk_cell HD1.out 2).trans rfl
    go_wp2_with (fail)
    refine (RT1.out _ HB1.out).mono ?_
    rintro e W2 ⟨rfl, hb⟩
    have HB2 := Aside0.mk (below_step HB1.out hb)
    have HA2 := Aside0.mk (blk_below HA1.out hb)
    have HD2 := Aside0.mk (blk_below HD1.out hb)
    have HR2 := Aside0.mk (blk_below HR1.out hb)
    clear hb HB1 HA1 HD1 HR1 p0 p1 p2
    have q0 := (blk_cell HA2.out 0).trans rfl
    have p0 := (blk_cell HD2.out 0).trans rfl
    go_wp2_with (fail)
    · refine (EA.out l1_0.length (by omega) _ _ _ HB2.out HA2.out HD2.out).mono ?_
      rintro e W3 ⟨vr, rfl, ho, hb⟩
      obtain ⟨Av, cv, hvr⟩ := Kd.R_slice ho
      subst hvr
      have HO3 := Aside0.mk (Kd.R_lower ho (below_size HB2.out))
      have HB3 := Aside0.mk (below_step HB2.out hb)
      have HR3 := Aside0.mk (blk_below HR2.out hb)
      clear hb ho p0 q0 HB2 HA2 HD2 HR2
      have k0 := (blk_cell HR3.out 0).trans rfl
      have k1c := (blk_cell HR3.out 1).trans rfl
      have k2c := (blk_cell HR3.out 2).trans rfl
      have f0 := blk_frozen HR3.out 0
      have f1 := blk_frozen HR3.out 1
      have f2 := blk_frozen HR3.out 2
      go_wp2_with (fail)
      (try simp only [Exit.inBlock, Exit.then])
      refine bodyPost_ret (results_ct rfl _ _ (w.heap.size + 1 + 1) 26 #[.slice Av RR.1.length cv, .int .i64 RR.2.1, .int .i64 RR.2.2.1] (0, 0) _ rfl (blk_put (blk_put (blk_put HR3.out 0 (.slice Av RR.1.length cv) rfl) 1 (.int .i64 RR.2.1) rfl) 2 (.int .i64 RR.2.2.1) rfl) Tryd.underlying26 rfl (by kernel_rfl)) rfl ?_
      exact ⟨_, rfl, Kd.R_set (Kd.R_set (Kd.R_set HO3.out HR3.out (by decide) 0 _) (blk_set HR3.out 0 _) (by decide) 1 (.int .i64 RR.2.1)) (blk_set (blk_set HR3.out 0 _) 1 (.int .i64 RR.2.1)) (by decide) 2 (.int .i64 RR.2.2.1), below_set (below_set (below_set HB3.out GE.out.1) GE.out.1) GE.out.1⟩
    · refine (EA.out l0_0.length (by omega) _ _ _ HB2.out HA2.out HD2.out).mono ?_
      rintro e W3 ⟨vr, rfl, ho, hb⟩
      obtain ⟨Av, cv, hvr⟩ := Kd.R_slice ho
      subst hvr
      have HO3 := Aside0.mk (Kd.R_lower ho (below_size HB2.out))
      have HB3 := Aside0.mk (below_step HB2.out hb)
      have HR3 := Aside0.mk (blk_below HR2.out hb)
      clear hb ho p0 q0 HB2 HA2 HD2 HR2
      have k0 := (blk_cell HR3.out 0).trans rfl
      have k1c := (blk_cell HR3.out 1).trans rfl
      have k2c := (blk_cell HR3.out 2).trans rfl
      have f0 := blk_frozen HR3.out 0
      have f1 := blk_frozen HR3.out 1
      have f2 := blk_frozen HR3.out 2
      go_wp2_with (fail)
      (try simp only [Exit.inBlock, Exit.then])
      refine bodyPost_ret (results_ct rfl _ _ (w.heap.size + 1 + 1) 26 #[.slice Av RR.1.length cv, .int .i64 RR.2.1, .int .i64 RR.2.2.1] (0, 0) _ rfl (blk_put (blk_put (blk_put HR3.out 0 (.slice Av RR.1.length cv) rfl) 1 (.int .i64 RR.2.1) rfl) 2 (.int .i64 RR.2.2.1) rfl) Tryd.underlying26 rfl (by kernel_rfl)) rfl ?_
      exact ⟨_, rfl, Kd.R_set (Kd.R_set (Kd.R_set HO3.out HR3.out (by decide) 0 _) (blk_set HR3.out 0 _) (by decide) 1 (.int .i64 RR.2.1)) (blk_set (blk_set HR3.out 0 _) 1 (.int .i64 RR.2.1)) (by decide) 2 (.int .i64 RR.2.2.1), below_set (below_set (below_set HB3.out GE.out.1) GE.out.1) GE.out.1⟩
end Go.Proofs.YtijhnmbegceonaaDoor.PTerm
namespace Go.Proofs.YtijhnmbegceonaaDoor.PTerm
open Go.RowKit Go.Proofs.YtijhnmbegceonaaDoorW.PrintWords Go.Proofs.YtijhnmbegceonaaDoorW.PrintLast Go.Proofs.YtijhnmbegceonaaDoorW.PrintMore
attribute [local go_sem] max2_int min2_int max_two min_two max_three min_three max_four min_four
set_option linter.unusedVariables false
set_option linter.unusedSimpArgs false
def areg44.T : Bool × List (List Nat × List Nat) := (true, [([], []), ([], []), ([0, 1], [0, 1]), ([], []), ([2, 3, 2], [2, 3]), ([4], [4]), ([4], [4]), ([5, 4, 0, 1, 2, 3, 4, 5, 6], [5]), ([6, 7, 0, 1, 2, 3, 4, 5, 6, 7], [6])])
def areg44.B : List Nat := [0, 0, 3, 0, 15, 31, 31, 127, 255]
theorem areg44.tab : rtab .any (opsOf Tryd.f44 1) = areg44.T := by kernel_rfl
theorem areg44.bits : waitsOk areg44.T.2 areg44.B = true := by kernel_rfl
def scaleF (l0 : List (S24)) (n0 d0 : Int) (n1 d1 : Int) (i : Nat) : Int × Int × Int := PRat.mulS (oneT l0 n0 d0 i).1 (oneT l0 n0 d0 i).2 n1 d1
set_option maxHeartbeats 4000000 in
set_option maxRecDepth 100000 in
theorem term_Scale.c44 (A0 : Option Addr) (c0 : Nat) (l0 : List (S24)) (n0 d0 : Int) (n1 d1 : Int) (ga gb : Nat) (w : World) (ha : w.heap[ga]? = some (.cells #[.slice A0 l0.length c0, .int .i64 n0, .int .i64 d0] 26 (0, 0))) (hb : w.heap[gb]? = some (.cells #[.int .i64 n1, .int .i64 d1] 24 (0, 0))) (hr0 : Kd.C k24 w A0 l0.length l0) (hc0 : l0.length ≤ c0)  (h0 : inAll l0 ∧ BallQ.In64 n0 ∧ BallQ.In64 d0) (h1 : BallQ.In64 n1 ∧ BallQ.In64 d1) (i : Nat) :
    Calls Tryd.prog 44 #[.int .i64 ((i : Int) - 1), .pointer (some ⟨ga, 0, none⟩), .pointer (some ⟨gb, 0, none⟩)] w fun e w' => e = .returned (.tuple #[.agg #[.int .i64 (scaleF l0 n0 d0 n1 d1 i).1, .int .i64 (scaleF l0 n0 d0 n1 d1 i).2.1], .int .i64 (scaleF l0 n0 d0 n1 d1 i).2.2]) ∧ Below w.heap.size w w' := by
  have C0 := Aside0.mk (fun W (hb : Below w.heap.size w W) => term_one.calls 1 A0 c0 l0 n0 d0 ((i : Int) - 1) (oneT l0 n0 d0 i).1 (oneT l0 n0 d0 i).2 W (Kd.C_below hr0 hb) hc0 (one_ev l0 n0 d0 i))
  have i0 := one_in h0.1 h0.2.1 h0.2.2 i
  have C2 := Aside0.mk (fun W => rat_Mul.calls (oneT l0 n0 d0 i).1 (oneT l0 n0 d0 i).2 n1 d1 (scaleF l0 n0 d0 n1 d1 i).1 (scaleF l0 n0 d0 n1 d1 i).2.1 (scaleF l0 n0 d0 n1 d1 i).2.2 W (by unfold rat_Mul.f; rw [if_pos ⟨i0, h1⟩]; rfl))
  generalize scaleF l0 n0 d0 n1 d1 i = z at C2 ⊢
  generalize (oneT l0 n0 d0 i).1 = x0 at C0 C2
  generalize (oneT l0 n0 d0 i).2 = x1 at C0 C2
  clear i0 h0 h1 hr0 hc0
  obtain ⟨j, hj⟩ : ∃ j : Int, j = (i : Int) - 1 := ⟨_, rfl⟩
  rw [← hj] at C0 ⊢
  clear hj
  obtain ⟨z0, z1, z2⟩ := z
  simp only at C2 ⊢
  have HZ := Aside0.mk (blk_new w (.cells #[.int .i64 0, .int .i64 0] 24 (0, 0)))
  have HB := Aside0.mk (below_alloc (Below.refl w.heap.size w) (.cells #[.int .i64 0, .int .i64 0] 24 (0, 0)))
  have HA := Aside0.mk (blk_alloc ha (.cells #[.int .i64 0, .int .i64 0] 24 (0, 0)))
  have HD := Aside0.mk (blk_alloc hb (.cells #[.int .i64 0, .int .i64 0] 24 (0, 0)))
  have NE := Aside0.mk (show ga ≠ w.heap.size ∧ gb ≠ w.heap.size ∧ w.heap.size ≤ w.heap.size from ⟨by have := blk_lt ha; omega, by have := blk_lt hb; omega, Nat.le_refl _⟩)
  clear ha hb
  go_enter Tryd.func44, Tryd.ntmps44
  go_wp2_with (fail)
  generalize hW2 : w.alloc (.cells #[.int .i64 0, .int .i64 0] 24 (0, 0)) = W1 at HZ HB HA HD ⊢
  clear hW2
  obtain ⟨gr, hgr⟩ : ∃ gr, gr = w.heap.size := ⟨_, rfl⟩
  have GE := Aside0.mk (show w.heap.size ≤ gr by rw [hgr]; exact Nat.le_refl _)
  rw [← hgr] at HZ NE ⊢
  clear hgr
  have HZ0 := Aside0.mk (blk_drew HZ.out)
  have HB0 := Aside0.mk (below_drew1 HB.out)
  have HA0 := Aside0.mk (blk_drew HA.out)
  have HD0 := Aside0.mk (blk_drew HD.out)
  refine start_ (n := 9) (S := (fun w' => w'.cell? ⟨ga, 0, none⟩ = some (.slice A0 l0.length c0) ∧ w'.cell? ⟨ga, 1, none⟩ = some (.int .i64 n0) ∧ w'.cell? ⟨ga, 2, none⟩ = some (.int .i64 d0) ∧ w'.cell? ⟨gb, 0, none⟩ = some (.int .i64 n1) ∧ w'.cell? ⟨gb, 1, none⟩ = some (.int .i64 d1))) (ds := []) #[false, false, false, false, false, false, false, false, false] (by kernel_rfl) rfl rfl (⟨(blk_cell HA.out 0).trans rfl, (blk_cell HA.out 1).trans rfl, (blk_cell HA.out 2).trans rfl, (blk_cell HD.out 0).trans rfl, (blk_cell HD.out 1).trans rfl⟩) (fun hHeld => ?_); refine with_tabW areg44.tab areg44.bits (fun HT_ HW_ => ?_)
  clear HZ HB HA HD
  generalize W1.drew = Wq at HZ0 HB0 HA0 HD0 hHeld ⊢
  refine take_ (i := 0) (N := some 6) (v := ?_) (a' := ?_) #[true, false, false, false, false, false, false, false, false] rfl rfl (take_ofW HT_.out HW_.out (by kernel_rfl)) (fun _ _ _ h => h) (Or.inl ⟨by rfl, ?_⟩) hHeld ?_ ?_
  rotate_left
  · intro w' s0
    obtain ⟨s0, s1, s2, s3, s4⟩ := s0
    go_simp
    with_reducible rfl
  rotate_left
  · simp only [Act.put, List.setIfInBounds_toArray, List.set_cons_zero, List.set_cons_succ, i64_w, i32_w]
    rfl
  refine pure_ (i := 1) (N := some 7) (v := ?_) (a' := ?_) #[true, true, false, false, false, false, false, false, false] rfl rfl (any_of HT_.out (by kernel_rfl)) (fun _ _ _ h => h) (Or.inl ⟨by rfl, ?_⟩) ?_ ?_
  rotate_left
  · intro w'
    go_simp
    with_reducible rfl
  rotate_left
  · simp only [Act.put, List.setIfInBounds_toArray, List.set_cons_zero, List.set_cons_succ, i64_w, i32_w]
    rfl
  refine take_ (i := 3) (N := some 9) (v := ?_) (a' := ?_) #[true, true, false, true, false, false, false, false, false] rfl rfl (take_ofW HT_.out HW_.out (by kernel_rfl)) (fun _ _ _ h => h) (Or.inl ⟨by rfl, ?_⟩) hHeld ?_ ?_
  rotate_left
  · intro w' s0
    obtain ⟨s0, s1, s2, s3, s4⟩ := s0
    go_simp
    with_reducible rfl
  rotate_left
  · simp only [Act.put, List.setIfInBounds_toArray, List.set_cons_zero, List.set_cons_succ, i64_w, i32_w]
    rfl
  refine one_ (i := 2) (N := some 8) #[true, true, true, true, false, false, false, false, false] rfl rfl (one_of HT_.out (by kernel_rfl)) (by decide) (fun K hK => ?_)
  refine goes_ Tryd.func43 (by kernel_rfl) rfl #[.agg #[.slice A0 l0.length c0, .int .i64 n0, .int .i64 d0], .int .i64 j] (by rfl) rfl rfl (by (try simp only [List.map_toArray, List.map_cons, List.map_nil]); first | done | rfl) ?_
  refine (C0.out _ HB0.out).mono ?_
  rintro e W1 ⟨rfl, hq⟩
  have HZ1 := Aside0.mk (blk_below HZ0.out hq)
  have HA1 := Aside0.mk (blk_below HA0.out hq)
  have HD1 := Aside0.mk (blk_below HD0.out hq)
  have HB1 := Aside0.mk (below_step HB0.out hq)
  clear hq HZ0 HA0 HD0 HB0
  refine ⟨_, rfl, ?_⟩
  refine hK.out _ _ ⟨(blk_cell HA1.out 0).trans rfl, (blk_cell HA1.out 1).trans rfl, (blk_cell HA1.out 2).trans rfl, (blk_cell HD1.out 0).trans rfl, (blk_cell HD1.out 1).trans rfl⟩ (fun hHeld => ?_)
  clear hK K
  refine norm_ (a' := ?_) ?_ ?_
  rotate_left
  · show Act.put _ (some 8) _ = _
    simp only [Act.put, List.setIfInBounds_toArray, List.set_cons_zero, List.set_cons_succ, i64_w, i32_w]
    rfl
  refine one_ (i := 4) (N := some 10) #[true, true, true, true, true, false, false, false, false] rfl rfl (one_of HT_.out (by kernel_rfl)) (by decide) (fun K hK => ?_)
  refine goes_ Tryd.func45 (by kernel_rfl) rfl #[.agg #[.int .i64 x0, .int .i64 x1], .agg #[.int .i64 n1, .int .i64 d1]] (by rfl) rfl rfl (by (try simp only [List.map_toArray, List.map_cons, List.map_nil]); first | done | rfl) ?_
  refine (C2.out _).mono ?_
  rintro e W2 ⟨rfl, hq⟩
  have HZ2 := Aside0.mk (blk_below HZ1.out hq)
  have HA2 := Aside0.mk (blk_below HA1.out hq)
  have HD2 := Aside0.mk (blk_below HD1.out hq)
  have HB2 := Aside0.mk (below_step HB1.out hq)
  clear hq HZ1 HA1 HD1 HB1
  refine ⟨_, rfl, ?_⟩
  refine hK.out _ _ ⟨(blk_cell HA2.out 0).trans rfl, (blk_cell HA2.out 1).trans rfl, (blk_cell HA2.out 2).trans rfl, (blk_cell HD2.out 0).trans rfl, (blk_cell HD2.out 1).trans rfl⟩ (fun hHeld => ?_)
  clear hK K
  refine norm_ (a' := ?_) ?_ ?_
  rotate_left
  · show Act.put _ (some 10) _ = _
    simp only [Act.put, List.setIfInBounds_toArray, List.set_cons_zero, List.set_cons_succ, i64_w, i32_w]
    rfl
  refine pure_ (i := 5) (N := some 11) (v := ?_) (a' := ?_) #[true, true, true, true, true, true, false, false, false] rfl rfl (any_of HT_.out (by kernel_rfl)) (fun _ _ _ h => h) (Or.inl ⟨by rfl, ?_⟩) ?_ ?_
  rotate_left
  · intro w'
    go_simp
    with_reducible rfl
  rotate_left
  · simp only [Act.put, List.setIfInBounds_toArray, List.set_cons_zero, List.set_cons_succ, i64_w, i32_w]
    rfl
  refine pure_ (i := 6) (N := some 12) (v := ?_) (a' := ?_) #[true, true, true, true, true, true, true, false, false] rfl rfl (any_of HT_.out (by kernel_rfl)) (fun _ _ _ h => h) (Or.inl ⟨by rfl, ?_⟩) ?_ ?_
  rotate_left
  · intro w'
    go_simp
    with_reducible rfl
  rotate_left
  · simp only [Act.put, List.setIfInBounds_toArray, List.set_cons_zero, List.set_cons_succ, i64_w, i32_w]
    rfl
  have k0 := (blk_cell HZ2.out 0).trans rfl
  have k1 := (blk_cell HZ2.out 1).trans rfl
  have f0 := blk_frozen HZ2.out 0
  have f1 := blk_frozen HZ2.out 1
  refine one_ (i := 7) (N := none) #[true, true, true, true, true, true, true, true, false] rfl rfl (one_of HT_.out (by kernel_rfl)) (by decide) (fun K hK => ?_)
  refine skip_ (w1 := (W2.setCell ⟨gr, 0, none⟩ (.int .i64 z0)).setCell ⟨gr, 1, none⟩ (.int .i64 z1)) (by rfl) rfl (by first | (go_simp; done) | (go_simp; rfl)) ?_
  have HAz := Aside0.mk (blk_far (p := ⟨gr, 1, none⟩) (blk_far (p := ⟨gr, 0, none⟩) HA2.out NE.out.1 (.int .i64 z0)) NE.out.1 (.int .i64 z1))
  have HDz := Aside0.mk (blk_far (p := ⟨gr, 1, none⟩) (blk_far (p := ⟨gr, 0, none⟩) HD2.out NE.out.2.1 (.int .i64 z0)) NE.out.2.1 (.int .i64 z1))
  refine hK.out _ _ ⟨(blk_cell HAz.out 0).trans rfl, (blk_cell HAz.out 1).trans rfl, (blk_cell HAz.out 2).trans rfl, (blk_cell HDz.out 0).trans rfl, (blk_cell HDz.out 1).trans rfl⟩ (fun hHeld => ?_)
  clear hK K k0 k1 f0 f1
  refine norm_ (a' := ?_) ?_ ?_
  rotate_left
  · rfl
  refine pure_ (i := 8) (N := some 5) (v := ?_) (a' := ?_) #[true, true, true, true, true, true, true, true, true] rfl rfl (any_of HT_.out (by kernel_rfl)) (fun _ _ _ h => h) (Or.inl ⟨by rfl, ?_⟩) ?_ ?_
  rotate_left
  · intro w'
    go_simp
    with_reducible rfl
  rotate_left
  · simp only [Act.put, List.setIfInBounds_toArray, List.set_cons_zero, List.set_cons_succ, i64_w, i32_w]
    rfl
  refine done_ (done_of HT_.out (by kernel_rfl)) ?_
  go_wp2_with (fail)
  refine bodyPost_ret (results_ct rfl _ _ gr 24 #[.int .i64 z0, .int .i64 z1] (0, 0) _ rfl (blk_put (cs := #[.int .i64 z0, .int .i64 0]) (blk_put (cs := #[.int .i64 0, .int .i64 0]) HZ2.out 0 _ rfl) 1 _ rfl) Tryd.underlying24 rfl (by kernel_rfl)) rfl ?_
  exact ⟨rfl, below_set (below_set HB2.out GE.out) GE.out⟩
set_option maxHeartbeats 4000000 in
set_option maxRecDepth 100000 in
theorem term_Scale.each44 (f : Nat → Int × Int × Int) (n : Nat) (hn : n < 900000) (ga gb : Nat) (w : World) (HF : ∀ (i : Nat) (W : World), Below w.heap.size w W → Calls Tryd.prog 44 #[.int .i64 ((i : Int) - 1), .pointer (some ⟨ga, 0, none⟩), .pointer (some ⟨gb, 0, none⟩)] W fun e w' => e = .returned (.tuple #[.agg #[.int .i64 (f i).1, .int .i64 (f i).2.1], .int .i64 (f i).2.2]) ∧ Below W.heap.size W w') :
    Calls Tryd.prog 40 #[.int .i64 (n : Int), .func (.func 44) #[] #[.pointer (some ⟨ga, 0, none⟩), .pointer (some ⟨gb, 0, none⟩)]] w (EachO (eachT f n) w) := by
  have hu24 := Tryd.underlying24
  have hu26 := Tryd.underlying26
  have HFA := Aside0.mk HF
  have hw : wrap64 ((n : Int) + 1) = ((n + 1 : Nat) : Int) := by unfold wrap64; omega
  have HN := Aside0.mk hn
  have HS := Aside0.mk (two_new w (.cells #[.slice none 0 0, .int .i64 0, .int .i64 0] 26 (0, 0)) (.cells #[.slice none 0 0, .int .i64 0, .int .i64 0] 26 (0, 0)))
  have HB := Aside0.mk (below_alloc (below_alloc (Below.refl w.heap.size w) (.cells #[.slice none 0 0, .int .i64 0, .int .i64 0] 26 (0, 0))) (.cells #[.slice none 0 0, .int .i64 0, .int .i64 0] 26 (0, 0)))
  have HG := Aside0.mk (show w.heap.size ≤ w.heap.size ∧ w.heap.size ≤ w.heap.size + 1 ∧ w.heap.size + 1 ≠ w.heap.size from ⟨Nat.le_refl _, Nat.le_succ _, by omega⟩)
  have HW := Aside0.mk hw
  clear hn HF hw
  go_enter Tryd.func40, Tryd.ntmps40
  go_wp2_with (fail)
  rw [HW.out]
  obtain ⟨N, hN⟩ : ∃ N : Nat, N = n + 1 := ⟨_, rfl⟩
  rw [← hN]
  have HNn := Aside0.mk hN
  clear hN HW
  generalize hW2 : (w.alloc (.cells #[.slice none 0 0, .int .i64 0, .int .i64 0] 26 (0, 0))).alloc (.cells #[.slice none 0 0, .int .i64 0, .int .i64 0] 26 (0, 0)) = W2 at HS HB ⊢
  clear hW2
  obtain ⟨gr, hgr⟩ : ∃ gr, gr = w.heap.size := ⟨_, rfl⟩
  obtain ⟨gt, hgt⟩ : ∃ gt, gt = w.heap.size + 1 := ⟨_, rfl⟩
  have HR := Aside0.mk (show W2.heap[gr]? = some (.cells #[.slice none 0 0, .int .i64 0, .int .i64 0] 26 (0, 0)) by rw [hgr]; exact HS.out.1)
  have HT := Aside0.mk (show W2.heap[gt]? = some (.cells #[.slice none 0 0, .int .i64 0, .int .i64 0] 26 (0, 0)) by rw [hgt]; exact HS.out.2)
  have GG := Aside0.mk (show w.heap.size ≤ gr ∧ w.heap.size ≤ gt ∧ gr ≠ gt by omega)
  clear HS HG
  rw [← hgt, ← hgr]
  clear hgt hgr
  obtain ⟨kk, hkk⟩ : ∃ k : Nat, k = N + 1 := ⟨_, rfl⟩
  go_loopg [12] kk (fun kq v12 W => ∃ (i : Nat) (v : Value) (a b : Int) (C : List (S24)), v12 = .int .i64 (i : Int) ∧ Aside0 (i ≤ N ∧ N < i + kq) ∧ Aside0 (kq ≤ kk) ∧ Aside0 (∀ j, j < i → (f j).2.2 = 0) ∧ Aside0 (W.heap[gt]? = some (.cells #[v, .int .i64 a, .int .i64 b] 26 (0, 0))) ∧ Aside0 (W.heap[gr]? = some (.cells #[.slice none 0 0, .int .i64 0, .int .i64 0] 26 (0, 0))) ∧ Aside0 (Kd.R k24 24 W w.heap.size (fun _ => True) v C) ∧ Aside0 (C = (List.range (i - 1)).map (fun q => (⟨(f (q + 1)).1, (f (q + 1)).2.1⟩ : S24)) ∧ (0 < i → a = (f 0).1 ∧ b = (f 0).2.1)) ∧ Aside0 (Below w.heap.size w W))
  case atStart => exact ⟨0, .slice none 0 0, 0, 0, [], rfl, ⟨by omega⟩, ⟨Nat.le_refl _⟩, ⟨fun j hj => absurd hj (by omega)⟩, HT, HR, ⟨Kd.R_nil _ _ _ _ _⟩, ⟨rfl, fun h => absurd h (by omega)⟩, HB⟩
  case round =>
    clear HB HT HR
    obtain ⟨i, v, a, b, C, rfl, HJ, HK, H0, HT, HR, HO, HC, HB⟩ := hrel
    cases gk with
    | zero => exact absurd HJ.out (by omega)
    | succ k1 =>
      by_cases hlt : i < N
      · have d1 : decide ((i : Int) < (N : Int)) = true := decide_eq_true (by omega)
        have d2 : decide (i < N) = true := decide_eq_true hlt
        have hwi : wrap64 ((i : Int) - 1) = (i : Int) - 1 := by have := HN.out; have := HNn.out; unfold wrap64; omega
        have hf := HFA.out i
        rw [← hwi] at hf
        have HFI := Aside0.mk hf
        have HLt := Aside0.mk hlt
        have HWi := Aside0.mk hwi
        clear hf hwi hlt
        obtain ⟨z, hz⟩ : ∃ z, z = f i := ⟨_, rfl⟩
        rw [← hz] at HFI
        have HZ := Aside0.mk hz
        clear hz
        obtain ⟨z0, z1, z2⟩ := z
        simp only at HFI
        go_wp2_with (fail)
        refine (HFI.out _ HB.out).mono ?_
        rintro e W1 ⟨rfl, hb⟩
        have HB1 := Aside0.mk (below_alloc (below_step HB.out hb) (.cells #[.int .i64 z0, .int .i64 z1] 24 (0, 0)))
        have HT1 := Aside0.mk (blk_alloc (blk_below HT.out hb) (.cells #[.int .i64 z0, .int .i64 z1] 24 (0, 0)))
        have HR1 := Aside0.mk (blk_alloc (blk_below HR.out hb) (.cells #[.int .i64 z0, .int .i64 z1] 24 (0, 0)))
        have HO1 := Aside0.mk (Kd.R_alloc (Kd.R_below HO.out hb) (.cells #[.int .i64 z0, .int .i64 z1] 24 (0, 0)))
        have HX1 := Aside0.mk (blk_new W1 (.cells #[.int .i64 z0, .int .i64 z1] 24 (0, 0)))
        have HE := Aside0.mk (show (W1.alloc (.cells #[.int .i64 z0, .int .i64 z1] 24 (0, 0))).heap.size = W1.heap.size + 1 by show (W1.heap.push _).size = _; simp)
        clear hb HB HT HR HO d1 d2
        by_cases hz2 : z2 = 0
        rotate_left
        · have e1 : (z2 == 0) = false := by simp [hz2]
          have e2 : (z2 != 0) = true := by simp [hz2]
          have HZ2 := Aside0.mk hz2
          clear hz2
          have k0 := (blk_cell HR1.out 0).trans rfl
          have k1c := (blk_cell HR1.out 1).trans rfl
          have k2c := (blk_cell HR1.out 2).trans rfl
          have f0 := blk_frozen HR1.out 0
          have f1 := blk_frozen HR1.out 1
          have f2 := blk_frozen HR1.out 2
          go_wp2_with (fail)
          (try simp only [Exit.inBlock, Exit.then])
          refine bodyPost_ret (results_ct rfl _ _ gr 26 #[.slice none 0 0, .int .i64 0, .int .i64 0] (0, 0) _ rfl (blk_put (blk_put (blk_put HR1.out 0 (.slice none 0 0) rfl) 1 (.int .i64 0) rfl) 2 (.int .i64 0) rfl) Tryd.underlying26 rfl (by kernel_rfl)) rfl ?_
          have hbad := each_bad (f := f) (n := n) (i := i) (by have := HLt.out; have := HNn.out; omega) H0.out (by rw [← HZ.out]; exact HZ2.out)
          rw [hbad]
          exact ⟨_, by rw [← HZ.out]; rfl, Kd.R_nil _ _ _ _ _, below_set (below_set (below_set HB1.out GG.out.1) GG.out.1) GG.out.1⟩
        · subst hz2
          have g0 := (blk_cell HT1.out 0).trans rfl
          have g1 := (blk_cell HT1.out 1).trans rfl
          have g2 := (blk_cell HT1.out 2).trans rfl
          have f0 := blk_frozen HT1.out 0
          have f1 := blk_frozen HT1.out 1
          have f2 := blk_frozen HT1.out 2
          have x0 := (blk_cell HX1.out 0).trans rfl
          have x1 := (blk_cell HX1.out 1).trans rfl
          have hall : ∀ j, j < i + 1 → (f j).2.2 = 0 := by
            intro j hj
            by_cases hji : j = i
            · subst hji; rw [← HZ.out]
            · exact H0.out j (by omega)
          have HA := Aside0.mk hall
          clear hall
          have HI2 := Aside0.mk (show i + 1 ≤ N ∧ N < (i + 1) + k1 from ⟨by have := HLt.out; omega, by have := HJ.out; omega⟩)
          have HWs := Aside0.mk (show wrap64 ((i : Int) + 1) = ((i + 1 : Nat) : Int) by have := HLt.out; have := HN.out; have := HNn.out; unfold wrap64; omega)
          by_cases hi0 : i = 0
          · have e3 : ((i : Int) == 0) = true := by simp [hi0]
            have e4 : ((i : Int) != 0) = false := by simp [hi0]
            have e5 : (i == 0) = true := by simp [hi0]
            have HI0 := Aside0.mk hi0
            clear hi0
            go_wp2_with (fail)
            go_roundg k1
            case measure => have := HK.out; omega
            case rel =>
              refine ⟨i + 1, v, z0, z1, C, by rw [HWs.out], ⟨HI2.out⟩, ⟨by have := HK.out; omega⟩, HA, ⟨?_⟩, ⟨?_⟩, ⟨?_⟩, ⟨?_, fun _ => ?_⟩, ⟨?_⟩⟩
              · exact blk_put (blk_put HT1.out 1 (.int .i64 z0) rfl) 2 (.int .i64 z1) rfl
              · exact blk_far (p := ⟨gt, 2, none⟩) (blk_far (p := ⟨gt, 1, none⟩) HR1.out GG.out.2.2 (.int .i64 z0)) GG.out.2.2 (.int .i64 z1)
              · exact Kd.R_set (Kd.R_set HO1.out HT1.out (by decide) 1 (.int .i64 z0)) (blk_set HT1.out 1 (.int .i64 z0)) (by decide) 2 (.int .i64 z1)
              · have := HC.out.1; rw [this, HI0.out]
              · have := HZ.out; rw [HI0.out] at this; rw [← this]; exact ⟨rfl, rfl⟩
              · exact below_set (below_set HB1.out GG.out.2.1) GG.out.2.1
          · have e3 : ((i : Int) == 0) = false := by simp [hi0]
            have e4 : ((i : Int) != 0) = true := by simp [hi0]
            have e5 : (i == 0) = false := by simp [hi0]
            have HI0 := Aside0.mk hi0
            have HCl := Aside0.mk (show C.length < 1000000 by have h9 := HC.out.1; have := HLt.out; have := HN.out; have := HNn.out; rw [h9]; simp; omega)
            clear hi0
            go_wp2_with (first | ((with_reducible refine gate_builtin (b := .append) (xs := #[.tmp 31, .tmp 33]) rfl ?_); at_builtin; refine Kd.R_append k24 (w0 := w) w.heap.size rfl (.tmp 31) (.tmp 33) 22 24 (.agg #[(.int .i64 0), (.int .i64 0)]) 16 rfl Tryd.underlying22 info24 rfl (by decide) (by omega) v C (⟨z0, z1⟩ : S24) [.int .i64 z0, .int .i64 z1] (fun _ => True) (fun _ => False) rfl (by first | rfl | (rw [HE.out]; rfl)) ?aP (fun _ hk => hk.elim) ?aF ?aO ?aB ?aS ?aL ?_; (case aP => exact k24_mkM _ _ _ (⟨z0, z1⟩ : S24)); (case aB => exact HB1.out); (case aF => exact (fun _ _ => trivial)); (case aO => exact HO1.out); (case aS => exact (below_size HB1.out)); (case aL => have := HCl.out; omega); intro v1 w1 ho hb hg hat; obtain ⟨Av, cv, hv1⟩ := Kd.R_slice ho; subst hv1; have HOa := Aside0.mk (show Kd.R k24 24 w1 w.heap.size (fun _ => True) (.slice Av (C.length + 1) cv) (C ++ [(⟨z0, z1⟩ : S24)]) by rw [List.length_append] at ho; exact ho); have HBa := Aside0.mk hb; have HTa := Aside0.mk (blk_grown HT1.out hg (Kd.R_ne HO1.out HT1.out (by decide))); have HRa := Aside0.mk (blk_grown HR1.out hg (Kd.R_ne HO1.out HR1.out (by decide))); clear ho hb hg hat g0 g1 g2 f0 f1 f2 x0 x1; have g0 := (blk_cell HTa.out 0).trans rfl; have f0 := blk_frozen HTa.out 0))
            go_roundg k1
            case measure => have := HK.out; omega
            case rel =>
              refine ⟨i + 1, .slice Av (C.length + 1) cv, a, b, C ++ [⟨z0, z1⟩], by rw [HWs.out], ⟨HI2.out⟩, ⟨by have := HK.out; omega⟩, HA, ⟨?_⟩, ⟨?_⟩, ⟨?_⟩, ⟨?_, fun _ => HC.out.2 (by have := HI0.out; omega)⟩, ⟨?_⟩⟩
              · exact blk_put HTa.out 0 _ rfl
              · exact blk_far (p := ⟨gt, 0, none⟩) HRa.out GG.out.2.2 _
              · exact Kd.R_set HOa.out HTa.out (by decide) 0 _
              · obtain ⟨q, hq⟩ : ∃ q, i = q + 1 := ⟨i - 1, by have := HI0.out; omega⟩
                have h9 := HC.out.1
                have hz := HZ.out
                rw [h9, hq, Nat.add_sub_cancel, Nat.add_sub_cancel, List.range_succ, List.map_append, List.map_cons, List.map_nil]
                rw [hq] at hz
                rw [← hz]
              · exact below_set HBa.out GG.out.2.1
      · have hi : i = N := by have := HJ.out; omega
        obtain ⟨A, c, hv⟩ := Kd.R_slice HO.out
        have hC := HC.out.1
        have hCl : C.length = n := by have := HNn.out; rw [hC, List.length_map, List.length_range]; omega
        obtain ⟨kt, hkt⟩ := Ev.rounds (trim_ev C a b (by have := HN.out; omega))
        have d1 : decide ((i : Int) < (N : Int)) = false := decide_eq_false (by omega)
        have d2 : decide (i < N) = false := decide_eq_false (by omega)
        have ho := HO.out
        rw [hv] at ho
        obtain ⟨_, hcc, hCC⟩ := Kd.R_reads' ho
        have hn1 : n + 1 = N := HNn.out.symm
        have hgood := each_good (f := f) (n := n) (fun j hj => H0.out j (by omega))
        have hab := HC.out.2 (by omega)
        have eL : (List.range (i - 1)).map (fun q => (⟨(f (q + 1)).1, (f (q + 1)).2.1⟩ : S24)) = (List.range n).map (fun q => (⟨(f (q + 1)).1, (f (q + 1)).2.1⟩ : S24)) := by rw [show i - 1 = n by omega]
        rw [← eL, ← hC, ← hab.1, ← hab.2] at hgood
        have HGo := Aside0.mk hgood
        subst hv
        have HT9 := Aside0.mk (fun W (hb : Below wr.heap.size wr W) => term_trim.calls kt A c C a b (trimT C) a b W (Kd.C_below hCC hb) hcc hkt)
        have g0 := (blk_cell HT.out 0).trans rfl
        have g1 := (blk_cell HT.out 1).trans rfl
        have g2 := (blk_cell HT.out 2).trans rfl
        clear hi hC hCl hkt hcc hCC hn1 hgood hab eL ho hlt
        go_wp2_with (fail)
        refine (HT9.out _ (Below.refl _ _)).mono ?_
        rintro e W4 ⟨vr, rfl, ho4, hb4⟩
        obtain ⟨Av, cv, hvr⟩ := Kd.R_slice ho4
        subst hvr
        have HR4 := Aside0.mk (blk_below HR.out hb4)
        have HO4 := Aside0.mk (Kd.R_lower ho4 (below_size HB.out))
        have HB4 := Aside0.mk (below_step HB.out hb4)
        clear ho4 hb4 g0 g1 g2
        have k0 := (blk_cell HR4.out 0).trans rfl
        have k1c := (blk_cell HR4.out 1).trans rfl
        have k2c := (blk_cell HR4.out 2).trans rfl
        have f0 := blk_frozen HR4.out 0
        have f1 := blk_frozen HR4.out 1
        have f2 := blk_frozen HR4.out 2
        go_wp2_with (fail)
        (try simp only [Exit.inBlock, Exit.then])
        refine bodyPost_ret (results_ct rfl _ _ gr 26 #[(.slice Av (trimT C).length cv), .int .i64 a, .int .i64 b] (0, 0) _ rfl (blk_put (blk_put (blk_put HR4.out 0 (.slice Av (trimT C).length cv) rfl) 1 (.int .i64 a) rfl) 2 (.int .i64 b) rfl) Tryd.underlying26 rfl (by kernel_rfl)) rfl ?_
        rw [HGo.out]
        exact ⟨_, rfl, Kd.R_set (Kd.R_set (Kd.R_set HO4.out HR4.out (by decide) 0 (.slice Av (trimT C).length cv)) (blk_set HR4.out 0 (.slice Av (trimT C).length cv)) (by decide) 1 (.int .i64 a)) (blk_set (blk_set HR4.out 0 (.slice Av (trimT C).length cv)) 1 (.int .i64 a)) (by decide) 2 (.int .i64 b), below_set (below_set (below_set HB4.out GG.out.1) GG.out.1) GG.out.1⟩
def scaleT (l0 : List (S24)) (n0 d0 : Int) (n1 d1 : Int) : List (S24) × Int × Int × Int :=
  if (rightT l0 n0 d0 && decide (BallQ.Right n1 d1)) = true then eachT (scaleF l0 n0 d0 n1 d1) l0.length else ([], 0, 0, 2)
def term_Scale.f (l0_0 : List (S24)) (a0_1 : Int) (a0_2 : Int) (a1_0 : Int) (a1_1 : Int) : Option (List (S24) × Int × Int × Int) := if (inAll l0_0 ∧ l0_0.length < 800000 ∧ BallQ.In64 a0_1 ∧ BallQ.In64 a0_2) ∧ BallQ.In64 a1_0 ∧ BallQ.In64 a1_1 then some (scaleT l0_0 a0_1 a0_2 a1_0 a1_1) else none
set_option maxHeartbeats 4000000 in
set_option maxRecDepth 100000 in
theorem term_Scale.calls (A0_0 : Option Addr) (c0_0 : Nat) (l0_0 : List (S24)) (a0_1 : Int) (a0_2 : Int) (a1_0 : Int) (a1_1 : Int) (r1 : List (S24)) (r2 : Int) (r3 : Int) (r4 : Int) (w : World) (hr0_0 : Kd.C k24 w A0_0 l0_0.length l0_0) (hc0_0 : l0_0.length ≤ c0_0) (h : term_Scale.f l0_0 a0_1 a0_2 a1_0 a1_1 = some (r1, r2, r3, r4)) :
    Calls Tryd.prog 21 #[.agg #[.slice A0_0 l0_0.length c0_0, .int .i64 a0_1, .int .i64 a0_2], .agg #[.int .i64 a1_0, .int .i64 a1_1]] w fun e w' => ∃ v0_ : Value, e = .returned (.tuple #[.agg #[v0_, .int .i64 r2, .int .i64 r3], .int .i64 r4]) ∧ Kd.R k24 24 w' w.heap.size (fun _ => True) v0_ r1 ∧ Below w.heap.size w w' := by
  unfold term_Scale.f at h
  split at h
  rotate_left
  · cases h
  rename_i hh
  obtain ⟨⟨hin0, hl0, hn0, hd0⟩, hn1, hd1⟩ := hh
  have e := Option.some.inj h
  have e1 : r1 = (scaleT l0_0 a0_1 a0_2 a1_0 a1_1).1 := by rw [e]
  have e2 : r2 = (scaleT l0_0 a0_1 a0_2 a1_0 a1_1).2.1 := by rw [e]
  have e3 : r3 = (scaleT l0_0 a0_1 a0_2 a1_0 a1_1).2.2.1 := by rw [e]
  have e4 : r4 = (scaleT l0_0 a0_1 a0_2 a1_0 a1_1).2.2.2 := by rw [e]
  subst e1 e2 e3 e4
  clear h e
  show Calls Tryd.prog 21 _ w (EachO (scaleT l0_0 a0_1 a0_2 a1_0 a1_1) w)
  have hu26 := Tryd.underlying26
  have W0 : World := w
  have RT0 := Aside0.mk (fun W (hb : Below w.heap.size w W) => term_Right.calls A0_0 c0_0 l0_0 a0_1 a0_2 (rightT l0_0 a0_1 a0_2) W (Kd.C_below hr0_0 hb) hc0_0 (by unfold term_Right.f; rw [if_pos ⟨hin0, by omega, hn0, hd0⟩]))
  have RT1 := Aside0.mk (fun W => rat_Right.calls a1_0 a1_1 (decide (BallQ.Right a1_0 a1_1)) W (by unfold rat_Right.f; rw [if_pos ⟨hn1, hd1⟩]))
  have EA := Aside0.mk (show ∀ (ga gb : Nat) (W : World) (hb : Below w.heap.size w W) (ha : W.heap[ga]? = some (.cells #[.slice A0_0 l0_0.length c0_0, .int .i64 a0_1, .int .i64 a0_2] 26 (0, 0))) (hbb : W.heap[gb]? = some (.cells #[.int .i64 a1_0, .int .i64 a1_1] 24 (0, 0))), Calls Tryd.prog 40 #[.int .i64 (l0_0.length : Int), .func (.func 44) #[] #[.pointer (some ⟨ga, 0, none⟩), .pointer (some ⟨gb, 0, none⟩)]] W (EachO (eachT (scaleF l0_0 a0_1 a0_2 a1_0 a1_1) l0_0.length) W) from by
    rintro ga gb W hb ha hbb
    exact term_Scale.each44 (scaleF l0_0 a0_1 a0_2 a1_0 a1_1) _ (by omega) ga gb W (fun i W2 hb2 => term_Scale.c44 A0_0 c0_0 l0_0 a0_1 a0_2 a1_0 a1_1 ga gb W2 (blk_below ha hb2) (blk_below hbb hb2) (Kd.C_below (Kd.C_below hr0_0 hb) hb2) hc0_0 ⟨hin0, hn0, hd0⟩ ⟨hn1, hd1⟩ i))
  unfold scaleT
  have HLn := Aside0.mk hl0
  have S3 := Aside0.mk (three_new w (.cells #[.slice A0_0 l0_0.length c0_0, .int .i64 a0_1, .int .i64 a0_2] 26 (0, 0)) (.cells #[.int .i64 a1_0, .int .i64 a1_1] 24 (0, 0)) (.cells #[.slice none 0 0, .int .i64 0, .int .i64 0] 26 (0, 0)))
  have HB := Aside0.mk (below_alloc (below_alloc (below_alloc (Below.refl w.heap.size w) (.cells #[.slice A0_0 l0_0.length c0_0, .int .i64 a0_1, .int .i64 a0_2] 26 (0, 0))) (.cells #[.int .i64 a1_0, .int .i64 a1_1] 24 (0, 0))) (.cells #[.slice none 0 0, .int .i64 0, .int .i64 0] 26 (0, 0)))
  have GE := Aside0.mk (show w.heap.size ≤ w.heap.size + 1 + 1 ∧ w.heap.size + 1 + 1 ≠ w.heap.size ∧ w.heap.size + 1 + 1 ≠ w.heap.size + 1 by omega)
  clear hin0 hl0 hn0 hd0 hn1 hd1 hr0_0 hc0_0 W0
  generalize rightT l0_0 a0_1 a0_2 = b0 at RT0 ⊢
  generalize decide (BallQ.Right a1_0 a1_1) = b1 at RT1 ⊢
  generalize eachT (scaleF l0_0 a0_1 a0_2 a1_0 a1_1) l0_0.length = RR at EA ⊢
  cases b0 with
  | false =>
    show Calls Tryd.prog 21 _ w (EachO ([], 0, 0, 2) w)
    go_enter Tryd.func21, Tryd.ntmps21
    go_wp2_with (fail)
    refine (RT0.out _ HB.out).mono ?_
    rintro e W1 ⟨rfl, hb⟩
    have HB1 := Aside0.mk (below_step HB.out hb)
    have HR1 := Aside0.mk (blk_below S3.out.2.2 hb)
    clear hb HB S3
    have k0 := (blk_cell HR1.out 0).trans rfl
    have k1c := (blk_cell HR1.out 1).trans rfl
    have k2c := (blk_cell HR1.out 2).trans rfl
    have f0 := blk_frozen HR1.out 0
    have f1 := blk_frozen HR1.out 1
    have f2 := blk_frozen HR1.out 2
    go_wp2_with (fail)
    (try simp only [Exit.inBlock, Exit.then])
    refine bodyPost_ret (results_ct rfl _ _ (w.heap.size + 1 + 1) 26 #[.slice none 0 0, .int .i64 0, .int .i64 0] (0, 0) _ rfl (blk_put (blk_put (blk_put HR1.out 0 (.slice none 0 0) rfl) 1 (.int .i64 0) rfl) 2 (.int .i64 0) rfl) Tryd.underlying26 rfl (by kernel_rfl)) rfl ?_
    exact ⟨_, rfl, Kd.R_nil _ _ _ _ _, below_set (below_set (below_set HB1.out GE.out.1) GE.out.1) GE.out.1⟩
  | true =>
   cases b1 with
   | false =>
    show Calls Tryd.prog 21 _ w (EachO ([], 0, 0, 2) w)
    go_enter Tryd.func21, Tryd.ntmps21
    go_wp2_with (fail)
    refine (RT0.out _ HB.out).mono ?_
    rintro e W1 ⟨rfl, hb⟩
    have HB1 := Aside0.mk (below_step HB.out hb)
    have HA1 := Aside0.mk (blk_below S3.out.1 hb)
    have HD1 := Aside0.mk (blk_below S3.out.2.1 hb)
    have HR1 := Aside0.mk (blk_below S3.out.2.2 hb)
    clear hb HB S3
    have p0 := (blk_cell HD1.out 0).trans rfl
    have p1 := (blk_cell HD1.out 1).trans rfl
    go_wp2_with (fail)
    refine (RT1.out _).mono ?_
    rintro e W2 ⟨rfl, hb⟩
    have HB2 := Aside0.mk (below_step HB1.out hb)
    have HA2 := Aside0.mk (blk_below HA1.out hb)
    have HD2 := Aside0.mk (blk_below HD1.out hb)
    have HR2 := Aside0.mk (blk_below HR1.out hb)
    clear hb HB1 HA1 HD1 HR1 p0 p1
    have k0 := (blk_cell HR2.out 0).trans rfl
    have k1c := (blk_cell HR2.out 1).trans rfl
    have k2c := (blk_cell HR2.out 2).trans rfl
    have f0 := blk_frozen HR2.out 0
    have f1 := blk_frozen HR2.out 1
    have f2 := blk_frozen HR2.out 2
    go_wp2_with (fail)
    (try simp only [Exit.inBlock, Exit.then])
    refine bodyPost_ret (results_ct rfl _ _ (w.heap.size + 1 + 1) 26 #[.slice none 0 0, .int .i64 0, .int .i64 0] (0, 0) _ rfl (blk_put (blk_put (blk_put HR2.out 0 (.slice none 0 0) rfl) 1 (.int .i64 0) rfl) 2 (.int .i64 0) rfl) Tryd.underlying26 rfl (by kernel_rfl)) rfl ?_
    exact ⟨_, rfl, Kd.R_nil _ _ _ _ _, below_set (below_set (below_set HB2.out GE.out.1) GE.out.1) GE.out.1⟩
   | true =>
    show Calls Tryd.prog 21 _ w (EachO RR w)
    go_enter Tryd.func21, Tryd.ntmps21
    go_wp2_with (fail)
    refine (RT0.out _ HB.out).mono ?_
    rintro e W1 ⟨rfl, hb⟩
    have HB1 := Aside0.mk (below_step HB.out hb)
    have HA1 := Aside0.mk (blk_below S3.out.1 hb)
    have HD1 := Aside0.mk (blk_below S3.out.2.1 hb)
    have HR1 := Aside0.mk (blk_below S3.out.2.2 hb)
    clear hb HB S3
    have p0 := (blk_cell HD1.out 0).trans rfl
    have p1 := (blk_cell HD1.out 1).trans rfl
    go_wp2_with (fail)
    refine (RT1.out _).mono ?_
    rintro e W2 ⟨rfl, hb⟩
    have HB2 := Aside0.mk (below_step HB1.out hb)
    have HA2 := Aside0.mk (blk_below HA1.out hb)
    have HD2 := Aside0.mk (blk_below HD1.out hb)
    have HR2 := Aside0.mk (blk_below HR1.out hb)
    clear hb HB1 HA1 HD1 HR1 p0 p1
    have q0 := (blk_cell HA2.out 0).trans rfl
    go_wp2_with (fail)
    · refine (EA.out _ _ _ HB2.out HA2.out HD2.out).mono ?_
      rintro e W3 ⟨vr, rfl, ho, hb⟩
      obtain ⟨Av, cv, hvr⟩ := Kd.R_slice ho
      subst hvr
      have HO3 := Aside0.mk (Kd.R_lower ho (below_size HB2.out))
      have HB3 := Aside0.mk (below_step HB2.out hb)
      have HR3 := Aside0.mk (blk_below HR2.out hb)
      clear hb ho q0 HB2 HA2 HD2 HR2
      have k0 := (blk_cell HR3.out 0).trans rfl
      have k1c := (blk_cell HR3.out 1).trans rfl
      have k2c := (blk_cell HR3.out 2).trans rfl
      have f0 := blk_frozen HR3.out 0
      have f1 := blk_frozen HR3.out 1
      have f2 := blk_frozen HR3.out 2
      go_wp2_with (fail)
      (try simp only [Exit.inBlock, Exit.then])
      refine bodyPost_ret (results_ct rfl _ _ (w.heap.size + 1 + 1) 26 #[.slice Av RR.1.length cv, .int .i64 RR.2.1, .int .i64 RR.2.2.1] (0, 0) _ rfl (blk_put (blk_put (blk_put HR3.out 0 (.slice Av RR.1.length cv) rfl) 1 (.int .i64 RR.2.1) rfl) 2 (.int .i64 RR.2.2.1) rfl) Tryd.underlying26 rfl (by kernel_rfl)) rfl ?_
      exact ⟨_, rfl, Kd.R_set (Kd.R_set (Kd.R_set HO3.out HR3.out (by decide) 0 _) (blk_set HR3.out 0 _) (by decide) 1 (.int .i64 RR.2.1)) (blk_set (blk_set HR3.out 0 _) 1 (.int .i64 RR.2.1)) (by decide) 2 (.int .i64 RR.2.2.1), below_set (below_set (below_set HB3.out GE.out.1) GE.out.1) GE.out.1⟩
end Go.Proofs.YtijhnmbegceonaaDoor.PTerm
