-- Words and walks, cut to what this law uses (wip/pack.py).
import Derived.Test.YtijhnmbegceonaaDoorValX14
import Derived.Test.YtijhnmbegceonaaDoorValX12
namespace Go.Proofs.YtijhnmbegceonaaDoor.PTerm
open Go.RowKit Go.Proofs.YtijhnmbegceonaaDoorW.PrintWords Go.Proofs.YtijhnmbegceonaaDoorW.PrintLast Go.Proofs.YtijhnmbegceonaaDoorW.PrintMore
attribute [local go_sem] zbr zbp zbz zby zbh zbg zbq zbo
set_option linter.unusedVariables false
set_option linter.unusedSimpArgs false
theorem zfD (w : World) (o o' o2 : Obj) : (((w.alloc o).alloc o').alloc o2).heap[w.heap.size]? = some o ∧ (((w.alloc o).alloc o').alloc o2).heap[w.heap.size + 1]? = some o' ∧ (((w.alloc o).alloc o').alloc o2).heap[w.heap.size + 1 + 1]? = some o2 := by
  have e1 : (w.alloc o).heap.size = w.heap.size + 1 := by show (w.heap.push _).size = _; simp
  have e2 : ((w.alloc o).alloc o').heap.size = w.heap.size + 1 + 1 := by show ((w.alloc o).heap.push _).size = _; rw [Array.size_push, e1]
  exact ⟨zad (zad (zbO w o) o') o2, zad (by rw [← e1]; exact zbO (w.alloc o) o') o2, by rw [← e2]; exact zbO ((w.alloc o).alloc o') o2⟩
theorem zg7 (w : World) (o o' : Obj) : ((w.alloc o).alloc o').heap[w.heap.size]? = some o ∧ ((w.alloc o).alloc o').heap[w.heap.size + 1]? = some o' := by
  have e1 : (w.alloc o).heap.size = w.heap.size + 1 := by show (w.heap.push _).size = _; simp
  exact ⟨zad (zbO w o) o', by rw [← e1]; exact zbO (w.alloc o) o'⟩
def cutN (l : List (S24)) : Nat → Nat
  | 0 => 0
  | n + 1 => if (l.getD n ⟨0, 0⟩).f0 = 0 then cutN l n else n + 1
def zcn (l : List (S24)) : List (S24) := l.take (cutN l l.length)
theorem zdA (l : List (S24)) : ∀ n, cutN l n ≤ n
  | 0 => Nat.le_refl _
  | n + 1 => by unfold cutN; split; exact Nat.le_succ_of_le (zdA l n); exact Nat.le_refl _
theorem rd24 (l : List (S24)) (i : Nat) (h : i < l.length) : zaC l (i : Int) = l.getD i ⟨0, 0⟩ := by
  unfold zaC; rw [Int.toNat_natCast, List.getD_eq_getElem?_getD, List.getD_eq_getElem?_getD, List.getElem?_eq_getElem h]; rfl
theorem zg9 (l : List (S24)) (a b : Int) (hl : l.length < 1000000) : ∀ n, n ≤ l.length → Ev (fun k => zbl.l0 k (n : Int) l a b) (l.take (cutN l n), a, b) := by
  have stop : ∀ n, n ≤ l.length → Ev (fun k => zbl.j1 k (n : Int) false l a b) (l.take n, a, b) := by
    intro n hn
    refine Ev.step (fun k => by rw [zbl.j1]) (PRat.zaV (by decide) (PRat.zaJ (by omega) (PRat.zaJ (by omega) ?_)))
    rw [Int.toNat_natCast]
    have e : zbH.f (l.take n) = some (l.take n) := by unfold zbH.f; rw [if_pos (by rw [List.length_take]; omega)]
    rw [e]
    exact Ev.now _
  intro n
  induction n with
  | zero =>
    intro _
    exact Ev.step (fun k => by rw [zbl.l0]) (PRat.zaV (by omega) (stop 0 (by omega)))
  | succ n ih =>
    intro hn
    have ew : wrap64 (((n + 1 : Nat) : Int) - 1) = (n : Int) := by unfold wrap64; omega
    refine Ev.step (fun k => by rw [zbl.l0]) (PRat.zaJ (by omega) ?_)
    rw [ew]
    refine PRat.zaJ (by omega) (PRat.zaJ (by omega) ?_)
    rw [rd24 l n (by omega)]
    by_cases h0 : (l.getD n ⟨0, 0⟩).f0 = 0
    · rw [show ((l.getD n ⟨0, 0⟩).f0 == 0) = true by simp only [h0]; rfl]
      have ec : cutN l (n + 1) = cutN l n := by rw [cutN, if_pos h0]
      rw [ec]
      refine Ev.step (fun k => by rw [zbl.j1]) (PRat.zaJ rfl ?_)
      rw [ew]
      exact ih (by omega)
    · rw [show ((l.getD n ⟨0, 0⟩).f0 == 0) = false by rw [beq_eq_false_iff_ne]; exact h0]
      have ec : cutN l (n + 1) = n + 1 := by rw [cutN, if_neg h0]
      rw [ec]
      exact stop (n + 1) hn
theorem zcF (l : List (S24)) (a b : Int) (hl : l.length < 1000000) : Ev (fun k => zbl.f k l a b) (zcn l, a, b) := by
  unfold zbl.f zcn
  exact zg9 l a b hl l.length (Nat.le_refl _)
def oneT (l : List (S24)) (n d : Int) : Nat → Int × Int
  | 0 => (n, d)
  | i + 1 => ((l.getD i ⟨0, 1⟩).f0, (l.getD i ⟨0, 1⟩).f1)
theorem ze9 (l : List (S24)) (n d : Int) (i : Nat) : oneT l n d (i + 1) = ((l.getD i ⟨0, 1⟩).f0, (l.getD i ⟨0, 1⟩).f1) := rfl
theorem zgW (l : List (S24)) (n d : Int) (i : Nat) : zcN.f 1 l n d ((i : Int) - 1) = some (oneT l n d i) := by
  unfold zcN.f
  cases i with
  | zero => rw [if_pos (by omega)]; rfl
  | succ i =>
    have e : (((i + 1 : Nat) : Int) - 1) = (i : Int) := by omega
    rw [e, if_neg (by omega)]
    unfold zcc.f
    rw [if_neg (by omega), zcc.j0]
    by_cases h : i < l.length
    · rw [decide_eq_false (by omega), if_neg (by decide), if_pos (by omega), if_pos (by omega)]
      have e2 : zaC l (i : Int) = l.getD i ⟨0, 1⟩ := by
        unfold zaC; rw [Int.toNat_natCast, List.getD_eq_getElem?_getD, List.getD_eq_getElem?_getD, List.getElem?_eq_getElem h]; rfl
      rw [e2]; rfl
    · rw [decide_eq_true (by omega), if_pos rfl]
      have e2 : l.getD i (⟨0, 1⟩ : S24) = ⟨0, 1⟩ := by rw [List.getD_eq_getElem?_getD, List.getElem?_eq_none (by omega)]; rfl
      rw [ze9, e2]; rfl
theorem zgV {l : List (S24)} {n d : Int} (h : zb9 l) (hn : BallQ.In64 n) (hd : BallQ.In64 d) (i : Nat) : BallQ.In64 (oneT l n d i).1 ∧ BallQ.In64 (oneT l n d i).2 := by
  cases i with
  | zero => exact ⟨hn, hd⟩
  | succ i =>
    rw [ze9]
    by_cases hi : i < l.length
    · have e : l.getD i (⟨0, 1⟩ : S24) = l[i] := by rw [List.getD_eq_getElem?_getD, List.getElem?_eq_getElem hi]; rfl
      rw [e]; exact h _ (List.getElem_mem hi)
    · have e2 : l.getD i (⟨0, 1⟩ : S24) = ⟨0, 1⟩ := by rw [List.getD_eq_getElem?_getD, List.getElem?_eq_none (by omega)]; rfl
      rw [e2]; exact ⟨⟨by decide, by decide⟩, ⟨by decide, by decide⟩⟩
def zcW (f : Nat → Int × Int × Int) (n : Nat) : List (S24) × Int × Int × Int :=
  match ((List.range (n + 1)).map f).find? (fun x => decide (x.2.2 ≠ 0)) with
  | some x => ([], 0, 0, x.2.2)
  | none => (zcn ((List.range n).map (fun i => (⟨(f (i + 1)).1, (f (i + 1)).2.1⟩ : S24))), (f 0).1, (f 0).2.1, 0)
theorem zd9 {f : Nat → Int × Int × Int} {n i : Nat} (hi : i ≤ n) (h0 : ∀ j, j < i → (f j).2.2 = 0) (h1 : (f i).2.2 ≠ 0) : zcW f n = ([], 0, 0, (f i).2.2) := by
  unfold zcW
  have e : ((List.range (n + 1)).map f).find? (fun x => decide (x.2.2 ≠ 0)) = some (f i) := by
    rw [List.find?_map]
    have e2 : (List.range (n + 1)).find? ((fun x => decide (x.2.2 ≠ 0)) ∘ f) = some i := by
      rw [List.find?_range_eq_some]
      refine ⟨by simpa using h1, by simpa using (show i < n + 1 by omega), fun j hj => by simpa using h0 j hj⟩
    rw [e2]; rfl
  rw [e]
theorem zdv {f : Nat → Int × Int × Int} {n : Nat} (h0 : ∀ j, j < n + 1 → (f j).2.2 = 0) : zcW f n = (zcn ((List.range n).map (fun i => (⟨(f (i + 1)).1, (f (i + 1)).2.1⟩ : S24))), (f 0).1, (f 0).2.1, 0) := by
  unfold zcW
  have e : ((List.range (n + 1)).map f).find? (fun x => decide (x.2.2 ≠ 0)) = none := by
    rw [List.find?_eq_none]
    intro x hx
    obtain ⟨j, hj, rfl⟩ := List.mem_map.1 hx
    simpa using h0 j (by simpa using hj)
  rw [e]
def zda.T : Bool × List (List Nat × List Nat) := (true, [([], []), ([], []), ([0, 1], [0, 1]), ([], []), ([], []), ([3, 4, 2], [3, 4]), ([2, 5, 5], [2, 5]), ([6], [6]), ([6], [6]), ([7, 6, 0, 1, 2, 3, 4, 5, 6, 7, 8], [7]), ([8, 9, 0, 1, 2, 3, 4, 5, 6, 7, 8, 9], [8])])
def zda.B : List Nat := [0, 0, 3, 0, 0, 31, 63, 127, 127, 511, 1023]
theorem zda.tab : rtab .any (opsOf Tryd.f41 1) = zda.T := by kernel_rfl
theorem zda.bits : zcb zda.T.2 zda.B = true := by kernel_rfl
def addF (l0 : List (S24)) (n0 d0 : Int) (l1 : List (S24)) (n1 d1 : Int) (i : Nat) : Int × Int × Int := PRat.addS (oneT l0 n0 d0 i).1 (oneT l0 n0 d0 i).2 (oneT l1 n1 d1 i).1 (oneT l1 n1 d1 i).2
set_option maxHeartbeats 4000000 in
set_option maxRecDepth 100000 in
theorem zb3.c41 (A0 : Option Addr) (c0 : Nat) (l0 : List (S24)) (n0 d0 : Int) (A1 : Option Addr) (c1 : Nat) (l1 : List (S24)) (n1 d1 : Int) (ga gb : Nat) (w : World) (ha : w.heap[ga]? = some (.cells #[.slice A0 l0.length c0, .int .i64 n0, .int .i64 d0] 26 (0, 0))) (hb : w.heap[gb]? = some (.cells #[.slice A1 l1.length c1, .int .i64 n1, .int .i64 d1] 26 (0, 0))) (hr0 : Kd.C k24 w A0 l0.length l0) (hc0 : l0.length ≤ c0) (hr1 : Kd.C k24 w A1 l1.length l1) (hc1 : l1.length ≤ c1) (h0 : zb9 l0 ∧ BallQ.In64 n0 ∧ BallQ.In64 d0) (h1 : zb9 l1 ∧ BallQ.In64 n1 ∧ BallQ.In64 d1) (i : Nat) :
    Calls Tryd.prog 41 #[.int .i64 ((i : Int) - 1), .pointer (some ⟨ga, 0, none⟩), .pointer (some ⟨gb, 0, none⟩)] w fun e w' => e = .returned (.tuple #[.agg #[.int .i64 (addF l0 n0 d0 l1 n1 d1 i).1, .int .i64 (addF l0 n0 d0 l1 n1 d1 i).2.1], .int .i64 (addF l0 n0 d0 l1 n1 d1 i).2.2]) ∧ Below w.heap.size w w' := by
  have C0 := Aside0.mk (fun W (hb : Below w.heap.size w W) => zcN.calls 1 A0 c0 l0 n0 d0 ((i : Int) - 1) (oneT l0 n0 d0 i).1 (oneT l0 n0 d0 i).2 W (Kd.zbd hr0 hb) hc0 (zgW l0 n0 d0 i))
  have C1 := Aside0.mk (fun W (hb : Below w.heap.size w W) => zcN.calls 1 A1 c1 l1 n1 d1 ((i : Int) - 1) (oneT l1 n1 d1 i).1 (oneT l1 n1 d1 i).2 W (Kd.zbd hr1 hb) hc1 (zgW l1 n1 d1 i))
  have i0 := zgV h0.1 h0.2.1 h0.2.2 i
  have i1 := zgV h1.1 h1.2.1 h1.2.2 i
  have C2 := Aside0.mk (fun W => zbD.calls (oneT l0 n0 d0 i).1 (oneT l0 n0 d0 i).2 (oneT l1 n1 d1 i).1 (oneT l1 n1 d1 i).2 (addF l0 n0 d0 l1 n1 d1 i).1 (addF l0 n0 d0 l1 n1 d1 i).2.1 (addF l0 n0 d0 l1 n1 d1 i).2.2 W (by unfold zbD.f; rw [if_pos ⟨i0, i1⟩]; rfl))
  generalize addF l0 n0 d0 l1 n1 d1 i = z at C2 ⊢
  generalize (oneT l0 n0 d0 i).1 = x0 at C0 C2
  generalize (oneT l0 n0 d0 i).2 = x1 at C0 C2
  generalize (oneT l1 n1 d1 i).1 = y0 at C1 C2
  generalize (oneT l1 n1 d1 i).2 = y1 at C1 C2
  clear i0 i1 h0 h1 hr0 hr1 hc0 hc1
  obtain ⟨j, hj⟩ : ∃ j : Int, j = (i : Int) - 1 := ⟨_, rfl⟩
  rw [← hj] at C0 C1 ⊢
  clear hj
  obtain ⟨z0, z1, z2⟩ := z
  simp only at C2 ⊢
  have HZ := Aside0.mk (zbO w (.cells #[.int .i64 0, .int .i64 0] 24 (0, 0)))
  have HB := Aside0.mk (zac (Below.refl w.heap.size w) (.cells #[.int .i64 0, .int .i64 0] 24 (0, 0)))
  have HA := Aside0.mk (zad ha (.cells #[.int .i64 0, .int .i64 0] 24 (0, 0)))
  have HD := Aside0.mk (zad hb (.cells #[.int .i64 0, .int .i64 0] 24 (0, 0)))
  have NE := Aside0.mk (show ga ≠ w.heap.size ∧ gb ≠ w.heap.size ∧ w.heap.size ≤ w.heap.size from ⟨by have := za3 ha; omega, by have := za3 hb; omega, Nat.le_refl _⟩)
  clear ha hb
  go_enter Tryd.func41, Tryd.ntmps41
  go_wp2_with (fail)
  generalize hW2 : w.alloc (.cells #[.int .i64 0, .int .i64 0] 24 (0, 0)) = W1 at HZ HB HA HD ⊢
  clear hW2
  obtain ⟨gr, hgr⟩ : ∃ gr, gr = w.heap.size := ⟨_, rfl⟩
  have GE := Aside0.mk (show w.heap.size ≤ gr by rw [hgr]; exact Nat.le_refl _)
  rw [← hgr] at HZ NE ⊢
  clear hgr
  have HZ0 := Aside0.mk (zai HZ.out)
  have HB0 := Aside0.mk (zaf HB.out)
  have HA0 := Aside0.mk (zai HA.out)
  have HD0 := Aside0.mk (zai HD.out)
  refine zcP (n := 11) (S := (fun w' => w'.cell? ⟨ga, 0, none⟩ = some (.slice A0 l0.length c0) ∧ w'.cell? ⟨ga, 1, none⟩ = some (.int .i64 n0) ∧ w'.cell? ⟨ga, 2, none⟩ = some (.int .i64 d0) ∧ w'.cell? ⟨gb, 0, none⟩ = some (.slice A1 l1.length c1) ∧ w'.cell? ⟨gb, 1, none⟩ = some (.int .i64 n1) ∧ w'.cell? ⟨gb, 2, none⟩ = some (.int .i64 d1))) (ds := []) #[false, false, false, false, false, false, false, false, false, false, false] (by kernel_rfl) rfl rfl (⟨(zak HA.out 0).trans rfl, (zak HA.out 1).trans rfl, (zak HA.out 2).trans rfl, (zak HD.out 0).trans rfl, (zak HD.out 1).trans rfl, (zak HD.out 2).trans rfl⟩) (fun hHeld => ?_); refine zb8 zda.tab zda.bits (fun HT_ HW_ => ?_)
  clear HZ HB HA HD
  generalize W1.drew = Wq at HZ0 HB0 HA0 HD0 hHeld ⊢
  refine zb4 (i := 0) (N := some 6) (v := ?_) (a' := ?_) #[true, false, false, false, false, false, false, false, false, false, false] rfl rfl (zbv HT_.out HW_.out (by kernel_rfl)) (fun _ _ _ h => h) (Or.inl ⟨by rfl, ?_⟩) hHeld ?_ ?_
  rotate_left
  · intro w' s0
    obtain ⟨s0, s1, s2, s3, s4, s5⟩ := s0
    go_simp
    with_reducible rfl
  rotate_left
  · simp only [Act.put, List.setIfInBounds_toArray, List.set_cons_zero, List.set_cons_succ, zaL, zaN]
    rfl
  refine zbB (i := 1) (N := some 7) (v := ?_) (a' := ?_) #[true, true, false, false, false, false, false, false, false, false, false] rfl rfl (zbm HT_.out (by kernel_rfl)) (fun _ _ _ h => h) (Or.inl ⟨by rfl, ?_⟩) ?_ ?_
  rotate_left
  · intro w'
    go_simp
    with_reducible rfl
  rotate_left
  · simp only [Act.put, List.setIfInBounds_toArray, List.set_cons_zero, List.set_cons_succ, zaL, zaN]
    rfl
  refine zb4 (i := 3) (N := some 9) (v := ?_) (a' := ?_) #[true, true, false, true, false, false, false, false, false, false, false] rfl rfl (zbv HT_.out HW_.out (by kernel_rfl)) (fun _ _ _ h => h) (Or.inl ⟨by rfl, ?_⟩) hHeld ?_ ?_
  rotate_left
  · intro w' s0
    obtain ⟨s0, s1, s2, s3, s4, s5⟩ := s0
    go_simp
    with_reducible rfl
  rotate_left
  · simp only [Act.put, List.setIfInBounds_toArray, List.set_cons_zero, List.set_cons_succ, zaL, zaN]
    rfl
  refine zbB (i := 4) (N := some 10) (v := ?_) (a' := ?_) #[true, true, false, true, true, false, false, false, false, false, false] rfl rfl (zbm HT_.out (by kernel_rfl)) (fun _ _ _ h => h) (Or.inl ⟨by rfl, ?_⟩) ?_ ?_
  rotate_left
  · intro w'
    go_simp
    with_reducible rfl
  rotate_left
  · simp only [Act.put, List.setIfInBounds_toArray, List.set_cons_zero, List.set_cons_succ, zaL, zaN]
    rfl
  refine one_ (i := 2) (N := some 8) #[true, true, true, true, true, false, false, false, false, false, false] rfl rfl (zbK HT_.out (by kernel_rfl)) (by decide) (fun K hK => ?_)
  refine zce Tryd.func43 (by kernel_rfl) rfl #[.agg #[.slice A0 l0.length c0, .int .i64 n0, .int .i64 d0], .int .i64 j] (by rfl) rfl rfl (by (try simp only [List.map_toArray, List.map_cons, List.map_nil]); first | done | rfl) ?_
  refine (C0.out _ HB0.out).mono ?_
  rintro e W1 ⟨rfl, hq⟩
  have HZ1 := Aside0.mk (zaj HZ0.out hq)
  have HA1 := Aside0.mk (zaj HA0.out hq)
  have HD1 := Aside0.mk (zaj HD0.out hq)
  have HB1 := Aside0.mk (zam HB0.out hq)
  clear hq HZ0 HA0 HD0 HB0
  refine ⟨_, rfl, ?_⟩
  refine hK.out _ _ ⟨(zak HA1.out 0).trans rfl, (zak HA1.out 1).trans rfl, (zak HA1.out 2).trans rfl, (zak HD1.out 0).trans rfl, (zak HD1.out 1).trans rfl, (zak HD1.out 2).trans rfl⟩ (fun hHeld => ?_)
  clear hK K
  refine zbE (a' := ?_) ?_ ?_
  rotate_left
  · show Act.put _ (some 8) _ = _
    simp only [Act.put, List.setIfInBounds_toArray, List.set_cons_zero, List.set_cons_succ, zaL, zaN]
    rfl
  refine one_ (i := 5) (N := some 11) #[true, true, true, true, true, true, false, false, false, false, false] rfl rfl (zbK HT_.out (by kernel_rfl)) (by decide) (fun K hK => ?_)
  refine zce Tryd.func43 (by kernel_rfl) rfl #[.agg #[.slice A1 l1.length c1, .int .i64 n1, .int .i64 d1], .int .i64 j] (by rfl) rfl rfl (by (try simp only [List.map_toArray, List.map_cons, List.map_nil]); first | done | rfl) ?_
  refine (C1.out _ HB1.out).mono ?_
  rintro e W2 ⟨rfl, hq⟩
  have HZ2 := Aside0.mk (zaj HZ1.out hq)
  have HA2 := Aside0.mk (zaj HA1.out hq)
  have HD2 := Aside0.mk (zaj HD1.out hq)
  have HB2 := Aside0.mk (zam HB1.out hq)
  clear hq HZ1 HA1 HD1 HB1
  refine ⟨_, rfl, ?_⟩
  refine hK.out _ _ ⟨(zak HA2.out 0).trans rfl, (zak HA2.out 1).trans rfl, (zak HA2.out 2).trans rfl, (zak HD2.out 0).trans rfl, (zak HD2.out 1).trans rfl, (zak HD2.out 2).trans rfl⟩ (fun hHeld => ?_)
  clear hK K
  refine zbE (a' := ?_) ?_ ?_
  rotate_left
  · show Act.put _ (some 11) _ = _
    simp only [Act.put, List.setIfInBounds_toArray, List.set_cons_zero, List.set_cons_succ, zaL, zaN]
    rfl
  refine one_ (i := 6) (N := some 12) #[true, true, true, true, true, true, true, false, false, false, false] rfl rfl (zbK HT_.out (by kernel_rfl)) (by decide) (fun K hK => ?_)
  refine zce Tryd.func42 (by kernel_rfl) rfl #[.agg #[.int .i64 x0, .int .i64 x1], .agg #[.int .i64 y0, .int .i64 y1]] (by rfl) rfl rfl (by (try simp only [List.map_toArray, List.map_cons, List.map_nil]); first | done | rfl) ?_
  refine (C2.out _).mono ?_
  rintro e W3 ⟨rfl, hq⟩
  have HZ3 := Aside0.mk (zaj HZ2.out hq)
  have HA3 := Aside0.mk (zaj HA2.out hq)
  have HD3 := Aside0.mk (zaj HD2.out hq)
  have HB3 := Aside0.mk (zam HB2.out hq)
  clear hq HZ2 HA2 HD2 HB2
  refine ⟨_, rfl, ?_⟩
  refine hK.out _ _ ⟨(zak HA3.out 0).trans rfl, (zak HA3.out 1).trans rfl, (zak HA3.out 2).trans rfl, (zak HD3.out 0).trans rfl, (zak HD3.out 1).trans rfl, (zak HD3.out 2).trans rfl⟩ (fun hHeld => ?_)
  clear hK K
  refine zbE (a' := ?_) ?_ ?_
  rotate_left
  · show Act.put _ (some 12) _ = _
    simp only [Act.put, List.setIfInBounds_toArray, List.set_cons_zero, List.set_cons_succ, zaL, zaN]
    rfl
  refine zbB (i := 7) (N := some 13) (v := ?_) (a' := ?_) #[true, true, true, true, true, true, true, true, false, false, false] rfl rfl (zbm HT_.out (by kernel_rfl)) (fun _ _ _ h => h) (Or.inl ⟨by rfl, ?_⟩) ?_ ?_
  rotate_left
  · intro w'
    go_simp
    with_reducible rfl
  rotate_left
  · simp only [Act.put, List.setIfInBounds_toArray, List.set_cons_zero, List.set_cons_succ, zaL, zaN]
    rfl
  refine zbB (i := 8) (N := some 14) (v := ?_) (a' := ?_) #[true, true, true, true, true, true, true, true, true, false, false] rfl rfl (zbm HT_.out (by kernel_rfl)) (fun _ _ _ h => h) (Or.inl ⟨by rfl, ?_⟩) ?_ ?_
  rotate_left
  · intro w'
    go_simp
    with_reducible rfl
  rotate_left
  · simp only [Act.put, List.setIfInBounds_toArray, List.set_cons_zero, List.set_cons_succ, zaL, zaN]
    rfl
  have k0 := (zak HZ3.out 0).trans rfl
  have k1 := (zak HZ3.out 1).trans rfl
  have f0 := zah HZ3.out 0
  have f1 := zah HZ3.out 1
  refine one_ (i := 9) (N := none) #[true, true, true, true, true, true, true, true, true, true, false] rfl rfl (zbK HT_.out (by kernel_rfl)) (by decide) (fun K hK => ?_)
  refine zd1 (w1 := (W3.setCell ⟨gr, 0, none⟩ (.int .i64 z0)).setCell ⟨gr, 1, none⟩ (.int .i64 z1)) (by rfl) rfl (by first | (go_simp; done) | (go_simp; rfl)) ?_
  have HAz := Aside0.mk (zaA (p := ⟨gr, 1, none⟩) (zaA (p := ⟨gr, 0, none⟩) HA3.out NE.out.1 (.int .i64 z0)) NE.out.1 (.int .i64 z1))
  have HDz := Aside0.mk (zaA (p := ⟨gr, 1, none⟩) (zaA (p := ⟨gr, 0, none⟩) HD3.out NE.out.2.1 (.int .i64 z0)) NE.out.2.1 (.int .i64 z1))
  refine hK.out _ _ ⟨(zak HAz.out 0).trans rfl, (zak HAz.out 1).trans rfl, (zak HAz.out 2).trans rfl, (zak HDz.out 0).trans rfl, (zak HDz.out 1).trans rfl, (zak HDz.out 2).trans rfl⟩ (fun hHeld => ?_)
  clear hK K k0 k1 f0 f1
  refine zbE (a' := ?_) ?_ ?_
  rotate_left
  · rfl
  refine zbB (i := 10) (N := some 5) (v := ?_) (a' := ?_) #[true, true, true, true, true, true, true, true, true, true, true] rfl rfl (zbm HT_.out (by kernel_rfl)) (fun _ _ _ h => h) (Or.inl ⟨by rfl, ?_⟩) ?_ ?_
  rotate_left
  · intro w'
    go_simp
    with_reducible rfl
  rotate_left
  · simp only [Act.put, List.setIfInBounds_toArray, List.set_cons_zero, List.set_cons_succ, zaL, zaN]
    rfl
  refine zdK (zcu HT_.out (by kernel_rfl)) ?_
  go_wp2_with (fail)
  refine bodyPost_ret (za7 rfl _ _ gr 24 #[.int .i64 z0, .int .i64 z1] (0, 0) _ rfl (zay (cs := #[.int .i64 z0, .int .i64 0]) (zay (cs := #[.int .i64 0, .int .i64 0]) HZ3.out 0 _ rfl) 1 _ rfl) Tryd.underlying24 rfl (by kernel_rfl)) rfl ?_
  exact ⟨rfl, zab (zab HB3.out GE.out) GE.out⟩
def zfy (R : List (S24) × Int × Int × Int) (w : World) (e : Ending) (w' : World) : Prop := ∃ v0_ : Value, e = .returned (.tuple #[.agg #[v0_, .int .i64 R.2.1, .int .i64 R.2.2.1], .int .i64 R.2.2.2]) ∧ Kd.R k24 24 w' w.heap.size (fun _ => True) v0_ R.1 ∧ Below w.heap.size w w'
set_option maxHeartbeats 4000000 in
set_option maxRecDepth 100000 in
theorem zb3.each41 (f : Nat → Int × Int × Int) (n : Nat) (hn : n < 900000) (ga gb : Nat) (w : World) (HF : ∀ (i : Nat) (W : World), Below w.heap.size w W → Calls Tryd.prog 41 #[.int .i64 ((i : Int) - 1), .pointer (some ⟨ga, 0, none⟩), .pointer (some ⟨gb, 0, none⟩)] W fun e w' => e = .returned (.tuple #[.agg #[.int .i64 (f i).1, .int .i64 (f i).2.1], .int .i64 (f i).2.2]) ∧ Below W.heap.size W w') :
    Calls Tryd.prog 40 #[.int .i64 (n : Int), .func (.func 41) #[] #[.pointer (some ⟨ga, 0, none⟩), .pointer (some ⟨gb, 0, none⟩)]] w (zfy (zcW f n) w) := by
  have hu24 := Tryd.underlying24
  have hu26 := Tryd.underlying26
  have HFA := Aside0.mk HF
  have hw : wrap64 ((n : Int) + 1) = ((n + 1 : Nat) : Int) := by unfold wrap64; omega
  have HN := Aside0.mk hn
  have HS := Aside0.mk (zg7 w (.cells #[.slice none 0 0, .int .i64 0, .int .i64 0] 26 (0, 0)) (.cells #[.slice none 0 0, .int .i64 0, .int .i64 0] 26 (0, 0)))
  have HB := Aside0.mk (zac (zac (Below.refl w.heap.size w) (.cells #[.slice none 0 0, .int .i64 0, .int .i64 0] 26 (0, 0))) (.cells #[.slice none 0 0, .int .i64 0, .int .i64 0] 26 (0, 0)))
  have HG := Aside0.mk (show w.heap.size ≤ w.heap.size ∧ w.heap.size ≤ w.heap.size + 1 ∧ w.heap.size + 1 ≠ w.heap.size from ⟨Nat.le_refl _, Nat.le_succ _, by omega⟩)
  have HW := Aside0.mk hw
  clear hn HF hw
  go_enter Tryd.func40, Tryd.ntmps40
  go_wp2_with (fail)
  rw [HW.out]
  obtain ⟨N, hN⟩ : ∃ N : Nat, N = n + 1 := ⟨_, rfl⟩
  rw [← hN]
  have HNn := Aside0.mk hN
  clear hN HW
  generalize hW2 : (w.alloc (.cells #[.slice none 0 0, .int .i64 0, .int .i64 0] 26 (0, 0))).alloc (.cells #[.slice none 0 0, .int .i64 0, .int .i64 0] 26 (0, 0)) = W2 at HS HB ⊢
  clear hW2
  obtain ⟨gr, hgr⟩ : ∃ gr, gr = w.heap.size := ⟨_, rfl⟩
  obtain ⟨gt, hgt⟩ : ∃ gt, gt = w.heap.size + 1 := ⟨_, rfl⟩
  have HR := Aside0.mk (show W2.heap[gr]? = some (.cells #[.slice none 0 0, .int .i64 0, .int .i64 0] 26 (0, 0)) by rw [hgr]; exact HS.out.1)
  have HT := Aside0.mk (show W2.heap[gt]? = some (.cells #[.slice none 0 0, .int .i64 0, .int .i64 0] 26 (0, 0)) by rw [hgt]; exact HS.out.2)
  have GG := Aside0.mk (show w.heap.size ≤ gr ∧ w.heap.size ≤ gt ∧ gr ≠ gt by omega)
  clear HS HG
  rw [← hgt, ← hgr]
  clear hgt hgr
  obtain ⟨kk, hkk⟩ : ∃ k : Nat, k = N + 1 := ⟨_, rfl⟩
  go_loopg [12] kk (fun kq v12 W => ∃ (i : Nat) (v : Value) (a b : Int) (C : List (S24)), v12 = .int .i64 (i : Int) ∧ Aside0 (i ≤ N ∧ N < i + kq) ∧ Aside0 (kq ≤ kk) ∧ Aside0 (∀ j, j < i → (f j).2.2 = 0) ∧ Aside0 (W.heap[gt]? = some (.cells #[v, .int .i64 a, .int .i64 b] 26 (0, 0))) ∧ Aside0 (W.heap[gr]? = some (.cells #[.slice none 0 0, .int .i64 0, .int .i64 0] 26 (0, 0))) ∧ Aside0 (Kd.R k24 24 W w.heap.size (fun _ => True) v C) ∧ Aside0 (C = (List.range (i - 1)).map (fun q => (⟨(f (q + 1)).1, (f (q + 1)).2.1⟩ : S24)) ∧ (0 < i → a = (f 0).1 ∧ b = (f 0).2.1)) ∧ Aside0 (Below w.heap.size w W))
  case atStart => exact ⟨0, .slice none 0 0, 0, 0, [], rfl, ⟨by omega⟩, ⟨Nat.le_refl _⟩, ⟨fun j hj => absurd hj (by omega)⟩, HT, HR, ⟨Kd.zcL _ _ _ _ _⟩, ⟨rfl, fun h => absurd h (by omega)⟩, HB⟩
  case round =>
    clear HB HT HR
    obtain ⟨i, v, a, b, C, rfl, HJ, HK, H0, HT, HR, HO, HC, HB⟩ := hrel
    cases gk with
    | zero => exact absurd HJ.out (by omega)
    | succ k1 =>
      by_cases hlt : i < N
      · have d1 : decide ((i : Int) < (N : Int)) = true := decide_eq_true (by omega)
        have d2 : decide (i < N) = true := decide_eq_true hlt
        have hwi : wrap64 ((i : Int) - 1) = (i : Int) - 1 := by have := HN.out; have := HNn.out; unfold wrap64; omega
        have hf := HFA.out i
        rw [← hwi] at hf
        have HFI := Aside0.mk hf
        have HLt := Aside0.mk hlt
        have HWi := Aside0.mk hwi
        clear hf hwi hlt
        obtain ⟨z, hz⟩ : ∃ z, z = f i := ⟨_, rfl⟩
        rw [← hz] at HFI
        have HZ := Aside0.mk hz
        clear hz
        obtain ⟨z0, z1, z2⟩ := z
        simp only at HFI
        go_wp2_with (fail)
        refine (HFI.out _ HB.out).mono ?_
        rintro e W1 ⟨rfl, hb⟩
        have HB1 := Aside0.mk (zac (zam HB.out hb) (.cells #[.int .i64 z0, .int .i64 z1] 24 (0, 0)))
        have HT1 := Aside0.mk (zad (zaj HT.out hb) (.cells #[.int .i64 z0, .int .i64 z1] 24 (0, 0)))
        have HR1 := Aside0.mk (zad (zaj HR.out hb) (.cells #[.int .i64 z0, .int .i64 z1] 24 (0, 0)))
        have HO1 := Aside0.mk (Kd.zaw (Kd.zbM HO.out hb) (.cells #[.int .i64 z0, .int .i64 z1] 24 (0, 0)))
        have HX1 := Aside0.mk (zbO W1 (.cells #[.int .i64 z0, .int .i64 z1] 24 (0, 0)))
        have HE := Aside0.mk (show (W1.alloc (.cells #[.int .i64 z0, .int .i64 z1] 24 (0, 0))).heap.size = W1.heap.size + 1 by show (W1.heap.push _).size = _; simp)
        clear hb HB HT HR HO d1 d2
        by_cases hz2 : z2 = 0
        rotate_left
        · have e1 : (z2 == 0) = false := by simp [hz2]
          have e2 : (z2 != 0) = true := by simp [hz2]
          have HZ2 := Aside0.mk hz2
          clear hz2
          have k0 := (zak HR1.out 0).trans rfl
          have k1c := (zak HR1.out 1).trans rfl
          have k2c := (zak HR1.out 2).trans rfl
          have f0 := zah HR1.out 0
          have f1 := zah HR1.out 1
          have f2 := zah HR1.out 2
          go_wp2_with (fail)
          (try simp only [Exit.inBlock, Exit.then])
          refine bodyPost_ret (za7 rfl _ _ gr 26 #[.slice none 0 0, .int .i64 0, .int .i64 0] (0, 0) _ rfl (zay (zay (zay HR1.out 0 (.slice none 0 0) rfl) 1 (.int .i64 0) rfl) 2 (.int .i64 0) rfl) Tryd.underlying26 rfl (by kernel_rfl)) rfl ?_
          have hbad := zd9 (f := f) (n := n) (i := i) (by have := HLt.out; have := HNn.out; omega) H0.out (by rw [← HZ.out]; exact HZ2.out)
          rw [hbad]
          exact ⟨_, by rw [← HZ.out]; rfl, Kd.zcL _ _ _ _ _, zab (zab (zab HB1.out GG.out.1) GG.out.1) GG.out.1⟩
        · subst hz2
          have g0 := (zak HT1.out 0).trans rfl
          have g1 := (zak HT1.out 1).trans rfl
          have g2 := (zak HT1.out 2).trans rfl
          have f0 := zah HT1.out 0
          have f1 := zah HT1.out 1
          have f2 := zah HT1.out 2
          have x0 := (zak HX1.out 0).trans rfl
          have x1 := (zak HX1.out 1).trans rfl
          have hall : ∀ j, j < i + 1 → (f j).2.2 = 0 := by
            intro j hj
            by_cases hji : j = i
            · subst hji; rw [← HZ.out]
            · exact H0.out j (by omega)
          have HA := Aside0.mk hall
          clear hall
          have HI2 := Aside0.mk (show i + 1 ≤ N ∧ N < (i + 1) + k1 from ⟨by have := HLt.out; omega, by have := HJ.out; omega⟩)
          have HWs := Aside0.mk (show wrap64 ((i : Int) + 1) = ((i + 1 : Nat) : Int) by have := HLt.out; have := HN.out; have := HNn.out; unfold wrap64; omega)
          by_cases hi0 : i = 0
          · have e3 : ((i : Int) == 0) = true := by simp [hi0]
            have e4 : ((i : Int) != 0) = false := by simp [hi0]
            have e5 : (i == 0) = true := by simp [hi0]
            have HI0 := Aside0.mk hi0
            clear hi0
            go_wp2_with (fail)
            go_roundg k1
            case measure => have := HK.out; omega
            case rel =>
              refine ⟨i + 1, v, z0, z1, C, by rw [HWs.out], ⟨HI2.out⟩, ⟨by have := HK.out; omega⟩, HA, ⟨?_⟩, ⟨?_⟩, ⟨?_⟩, ⟨?_, fun _ => ?_⟩, ⟨?_⟩⟩
              · exact zay (zay HT1.out 1 (.int .i64 z0) rfl) 2 (.int .i64 z1) rfl
              · exact zaA (p := ⟨gt, 2, none⟩) (zaA (p := ⟨gt, 1, none⟩) HR1.out GG.out.2.2 (.int .i64 z0)) GG.out.2.2 (.int .i64 z1)
              · exact Kd.zde (Kd.zde HO1.out HT1.out (by decide) 1 (.int .i64 z0)) (zcq HT1.out 1 (.int .i64 z0)) (by decide) 2 (.int .i64 z1)
              · have := HC.out.1; rw [this, HI0.out]
              · have := HZ.out; rw [HI0.out] at this; rw [← this]; exact ⟨rfl, rfl⟩
              · exact zab (zab HB1.out GG.out.2.1) GG.out.2.1
          · have e3 : ((i : Int) == 0) = false := by simp [hi0]
            have e4 : ((i : Int) != 0) = true := by simp [hi0]
            have e5 : (i == 0) = false := by simp [hi0]
            have HI0 := Aside0.mk hi0
            have HCl := Aside0.mk (show C.length < 1000000 by have h9 := HC.out.1; have := HLt.out; have := HN.out; have := HNn.out; rw [h9]; simp; omega)
            clear hi0
            go_wp2_with (first | ((with_reducible refine zbs (b := .append) (xs := #[.tmp 31, .tmp 33]) rfl ?_); at_builtin; refine Kd.zb7 k24 (w0 := w) w.heap.size rfl (.tmp 31) (.tmp 33) 22 24 (.agg #[(.int .i64 0), (.int .i64 0)]) 16 rfl Tryd.underlying22 zeu rfl (by decide) (by omega) v C (⟨z0, z1⟩ : S24) [.int .i64 z0, .int .i64 z1] (fun _ => True) (fun _ => False) rfl (by first | rfl | (rw [HE.out]; rfl)) ?aP (fun _ hk => hk.elim) ?aF ?aO ?aB ?aS ?aL ?_; (case aP => exact zeP _ _ _ (⟨z0, z1⟩ : S24)); (case aB => exact HB1.out); (case aF => exact (fun _ _ => trivial)); (case aO => exact HO1.out); (case aS => exact (zao HB1.out)); (case aL => have := HCl.out; omega); intro v1 w1 ho hb hg hat; obtain ⟨Av, cv, hv1⟩ := Kd.zbx ho; subst hv1; have HOa := Aside0.mk (show Kd.R k24 24 w1 w.heap.size (fun _ => True) (.slice Av (C.length + 1) cv) (C ++ [(⟨z0, z1⟩ : S24)]) by rw [List.length_append] at ho; exact ho); have HBa := Aside0.mk hb; have HTa := Aside0.mk (zcr HT1.out hg (Kd.R_ne HO1.out HT1.out (by decide))); have HRa := Aside0.mk (zcr HR1.out hg (Kd.R_ne HO1.out HR1.out (by decide))); clear ho hb hg hat g0 g1 g2 f0 f1 f2 x0 x1; have g0 := (zak HTa.out 0).trans rfl; have f0 := zah HTa.out 0))
            go_roundg k1
            case measure => have := HK.out; omega
            case rel =>
              refine ⟨i + 1, .slice Av (C.length + 1) cv, a, b, C ++ [⟨z0, z1⟩], by rw [HWs.out], ⟨HI2.out⟩, ⟨by have := HK.out; omega⟩, HA, ⟨?_⟩, ⟨?_⟩, ⟨?_⟩, ⟨?_, fun _ => HC.out.2 (by have := HI0.out; omega)⟩, ⟨?_⟩⟩
              · exact zay HTa.out 0 _ rfl
              · exact zaA (p := ⟨gt, 0, none⟩) HRa.out GG.out.2.2 _
              · exact Kd.zde HOa.out HTa.out (by decide) 0 _
              · obtain ⟨q, hq⟩ : ∃ q, i = q + 1 := ⟨i - 1, by have := HI0.out; omega⟩
                have h9 := HC.out.1
                have hz := HZ.out
                rw [h9, hq, Nat.add_sub_cancel, Nat.add_sub_cancel, List.range_succ, List.map_append, List.map_cons, List.map_nil]
                rw [hq] at hz
                rw [← hz]
              · exact zab HBa.out GG.out.2.1
      · have hi : i = N := by have := HJ.out; omega
        obtain ⟨A, c, hv⟩ := Kd.zbx HO.out
        have hC := HC.out.1
        have hCl : C.length = n := by have := HNn.out; rw [hC, List.length_map, List.length_range]; omega
        obtain ⟨kt, hkt⟩ := Ev.rounds (zcF C a b (by have := HN.out; omega))
        have d1 : decide ((i : Int) < (N : Int)) = false := decide_eq_false (by omega)
        have d2 : decide (i < N) = false := decide_eq_false (by omega)
        have ho := HO.out
        rw [hv] at ho
        obtain ⟨_, hcc, hCC⟩ := Kd.zbk ho
        have hn1 : n + 1 = N := HNn.out.symm
        have hgood := zdv (f := f) (n := n) (fun j hj => H0.out j (by omega))
        have hab := HC.out.2 (by omega)
        have eL : (List.range (i - 1)).map (fun q => (⟨(f (q + 1)).1, (f (q + 1)).2.1⟩ : S24)) = (List.range n).map (fun q => (⟨(f (q + 1)).1, (f (q + 1)).2.1⟩ : S24)) := by rw [show i - 1 = n by omega]
        rw [← eL, ← hC, ← hab.1, ← hab.2] at hgood
        have HGo := Aside0.mk hgood
        subst hv
        have HT9 := Aside0.mk (fun W (hb : Below wr.heap.size wr W) => zbl.calls kt A c C a b (zcn C) a b W (Kd.zbd hCC hb) hcc hkt)
        have g0 := (zak HT.out 0).trans rfl
        have g1 := (zak HT.out 1).trans rfl
        have g2 := (zak HT.out 2).trans rfl
        clear hi hC hCl hkt hcc hCC hn1 hgood hab eL ho hlt
        go_wp2_with (fail)
        refine (HT9.out _ (Below.refl _ _)).mono ?_
        rintro e W4 ⟨vr, rfl, ho4, hb4⟩
        obtain ⟨Av, cv, hvr⟩ := Kd.zbx ho4
        subst hvr
        have HR4 := Aside0.mk (zaj HR.out hb4)
        have HO4 := Aside0.mk (Kd.zbF ho4 (zao HB.out))
        have HB4 := Aside0.mk (zam HB.out hb4)
        clear ho4 hb4 g0 g1 g2
        have k0 := (zak HR4.out 0).trans rfl
        have k1c := (zak HR4.out 1).trans rfl
        have k2c := (zak HR4.out 2).trans rfl
        have f0 := zah HR4.out 0
        have f1 := zah HR4.out 1
        have f2 := zah HR4.out 2
        go_wp2_with (fail)
        (try simp only [Exit.inBlock, Exit.then])
        refine bodyPost_ret (za7 rfl _ _ gr 26 #[(.slice Av (zcn C).length cv), .int .i64 a, .int .i64 b] (0, 0) _ rfl (zay (zay (zay HR4.out 0 (.slice Av (zcn C).length cv) rfl) 1 (.int .i64 a) rfl) 2 (.int .i64 b) rfl) Tryd.underlying26 rfl (by kernel_rfl)) rfl ?_
        rw [HGo.out]
        exact ⟨_, rfl, Kd.zde (Kd.zde (Kd.zde HO4.out HR4.out (by decide) 0 (.slice Av (zcn C).length cv)) (zcq HR4.out 0 (.slice Av (zcn C).length cv)) (by decide) 1 (.int .i64 a)) (zcq (zcq HR4.out 0 (.slice Av (zcn C).length cv)) 1 (.int .i64 a)) (by decide) 2 (.int .i64 b), zab (zab (zab HB4.out GG.out.1) GG.out.1) GG.out.1⟩
def addT (l0 : List (S24)) (n0 d0 : Int) (l1 : List (S24)) (n1 d1 : Int) : List (S24) × Int × Int × Int :=
  if (zbT l0 n0 d0 && zbT l1 n1 d1) = true then zcW (addF l0 n0 d0 l1 n1 d1) (max l0.length l1.length) else ([], 0, 0, 2)
def zb3.f (l0_0 : List (S24)) (a0_1 : Int) (a0_2 : Int) (l1_0 : List (S24)) (a1_1 : Int) (a1_2 : Int) : Option (List (S24) × Int × Int × Int) := if (zb9 l0_0 ∧ l0_0.length < 800000 ∧ BallQ.In64 a0_1 ∧ BallQ.In64 a0_2) ∧ zb9 l1_0 ∧ l1_0.length < 800000 ∧ BallQ.In64 a1_1 ∧ BallQ.In64 a1_2 then some (addT l0_0 a0_1 a0_2 l1_0 a1_1 a1_2) else none
set_option maxHeartbeats 4000000 in
set_option maxRecDepth 100000 in
theorem zb3.calls (A0_0 : Option Addr) (c0_0 : Nat) (l0_0 : List (S24)) (a0_1 : Int) (a0_2 : Int) (A1_0 : Option Addr) (c1_0 : Nat) (l1_0 : List (S24)) (a1_1 : Int) (a1_2 : Int) (r1 : List (S24)) (r2 : Int) (r3 : Int) (r4 : Int) (w : World) (hr0_0 : Kd.C k24 w A0_0 l0_0.length l0_0) (hc0_0 : l0_0.length ≤ c0_0) (hr1_0 : Kd.C k24 w A1_0 l1_0.length l1_0) (hc1_0 : l1_0.length ≤ c1_0) (h : zb3.f l0_0 a0_1 a0_2 l1_0 a1_1 a1_2 = some (r1, r2, r3, r4)) :
    Calls Tryd.prog 19 #[.agg #[.slice A0_0 l0_0.length c0_0, .int .i64 a0_1, .int .i64 a0_2], .agg #[.slice A1_0 l1_0.length c1_0, .int .i64 a1_1, .int .i64 a1_2]] w fun e w' => ∃ v0_ : Value, e = .returned (.tuple #[.agg #[v0_, .int .i64 r2, .int .i64 r3], .int .i64 r4]) ∧ Kd.R k24 24 w' w.heap.size (fun _ => True) v0_ r1 ∧ Below w.heap.size w w' := by
  unfold zb3.f at h
  split at h
  rotate_left
  · cases h
  rename_i hh
  obtain ⟨⟨hin0, hl0, hn0, hd0⟩, hin1, hl1, hn1, hd1⟩ := hh
  have e := Option.some.inj h
  have e1 : r1 = (addT l0_0 a0_1 a0_2 l1_0 a1_1 a1_2).1 := by rw [e]
  have e2 : r2 = (addT l0_0 a0_1 a0_2 l1_0 a1_1 a1_2).2.1 := by rw [e]
  have e3 : r3 = (addT l0_0 a0_1 a0_2 l1_0 a1_1 a1_2).2.2.1 := by rw [e]
  have e4 : r4 = (addT l0_0 a0_1 a0_2 l1_0 a1_1 a1_2).2.2.2 := by rw [e]
  subst e1 e2 e3 e4
  clear h e
  show Calls Tryd.prog 19 _ w (zfy (addT l0_0 a0_1 a0_2 l1_0 a1_1 a1_2) w)
  have hu26 := Tryd.underlying26
  have W0 : World := w
  have RT0 := Aside0.mk (fun W (hb : Below w.heap.size w W) => za4.calls A0_0 c0_0 l0_0 a0_1 a0_2 (zbT l0_0 a0_1 a0_2) W (Kd.zbd hr0_0 hb) hc0_0 (by unfold za4.f; rw [if_pos ⟨hin0, by omega, hn0, hd0⟩]))
  have RT1 := Aside0.mk (fun W (hb : Below w.heap.size w W) => za4.calls A1_0 c1_0 l1_0 a1_1 a1_2 (zbT l1_0 a1_1 a1_2) W (Kd.zbd hr1_0 hb) hc1_0 (by unfold za4.f; rw [if_pos ⟨hin1, by omega, hn1, hd1⟩]))
  have EA := Aside0.mk (show ∀ (m : Nat), m = max l0_0.length l1_0.length → ∀ (ga gb : Nat) (W : World) (hb : Below w.heap.size w W) (ha : W.heap[ga]? = some (.cells #[.slice A0_0 l0_0.length c0_0, .int .i64 a0_1, .int .i64 a0_2] 26 (0, 0))) (hbb : W.heap[gb]? = some (.cells #[.slice A1_0 l1_0.length c1_0, .int .i64 a1_1, .int .i64 a1_2] 26 (0, 0))), Calls Tryd.prog 40 #[.int .i64 (m : Int), .func (.func 41) #[] #[.pointer (some ⟨ga, 0, none⟩), .pointer (some ⟨gb, 0, none⟩)]] W (zfy (zcW (addF l0_0 a0_1 a0_2 l1_0 a1_1 a1_2) (max l0_0.length l1_0.length)) W) from by
    rintro m rfl ga gb W hb ha hbb
    exact zb3.each41 (addF l0_0 a0_1 a0_2 l1_0 a1_1 a1_2) _ (by omega) ga gb W (fun i W2 hb2 => zb3.c41 A0_0 c0_0 l0_0 a0_1 a0_2 A1_0 c1_0 l1_0 a1_1 a1_2 ga gb W2 (zaj ha hb2) (zaj hbb hb2) (Kd.zbd (Kd.zbd hr0_0 hb) hb2) hc0_0 (Kd.zbd (Kd.zbd hr1_0 hb) hb2) hc1_0 ⟨hin0, hn0, hd0⟩ ⟨hin1, hn1, hd1⟩ i))
  unfold addT
  have HLn := Aside0.mk (And.intro hl0 hl1)
  have S3 := Aside0.mk (zfD w (.cells #[.slice A0_0 l0_0.length c0_0, .int .i64 a0_1, .int .i64 a0_2] 26 (0, 0)) (.cells #[.slice A1_0 l1_0.length c1_0, .int .i64 a1_1, .int .i64 a1_2] 26 (0, 0)) (.cells #[.slice none 0 0, .int .i64 0, .int .i64 0] 26 (0, 0)))
  have HB := Aside0.mk (zac (zac (zac (Below.refl w.heap.size w) (.cells #[.slice A0_0 l0_0.length c0_0, .int .i64 a0_1, .int .i64 a0_2] 26 (0, 0))) (.cells #[.slice A1_0 l1_0.length c1_0, .int .i64 a1_1, .int .i64 a1_2] 26 (0, 0))) (.cells #[.slice none 0 0, .int .i64 0, .int .i64 0] 26 (0, 0)))
  have GE := Aside0.mk (show w.heap.size ≤ w.heap.size + 1 + 1 ∧ w.heap.size + 1 + 1 ≠ w.heap.size ∧ w.heap.size + 1 + 1 ≠ w.heap.size + 1 by omega)
  clear hin0 hl0 hn0 hd0 hin1 hl1 hn1 hd1 hr0_0 hc0_0 hr1_0 hc1_0 W0
  generalize zbT l0_0 a0_1 a0_2 = b0 at RT0 ⊢
  generalize zbT l1_0 a1_1 a1_2 = b1 at RT1 ⊢
  generalize zcW (addF l0_0 a0_1 a0_2 l1_0 a1_1 a1_2) (max l0_0.length l1_0.length) = RR at EA ⊢
  cases b0 with
  | false =>
    show Calls Tryd.prog 19 _ w (zfy ([], 0, 0, 2) w)
    go_enter Tryd.func19, Tryd.ntmps19
    go_wp2_with (fail)
    refine (RT0.out _ HB.out).mono ?_
    rintro e W1 ⟨rfl, hb⟩
    have HB1 := Aside0.mk (zam HB.out hb)
    have HR1 := Aside0.mk (zaj S3.out.2.2 hb)
    clear hb HB S3
    have k0 := (zak HR1.out 0).trans rfl
    have k1c := (zak HR1.out 1).trans rfl
    have k2c := (zak HR1.out 2).trans rfl
    have f0 := zah HR1.out 0
    have f1 := zah HR1.out 1
    have f2 := zah HR1.out 2
    go_wp2_with (fail)
    (try simp only [Exit.inBlock, Exit.then])
    refine bodyPost_ret (za7 rfl _ _ (w.heap.size + 1 + 1) 26 #[.slice none 0 0, .int .i64 0, .int .i64 0] (0, 0) _ rfl (zay (zay (zay HR1.out 0 (.slice none 0 0) rfl) 1 (.int .i64 0) rfl) 2 (.int .i64 0) rfl) Tryd.underlying26 rfl (by kernel_rfl)) rfl ?_
    exact ⟨_, rfl, Kd.zcL _ _ _ _ _, zab (zab (zab HB1.out GE.out.1) GE.out.1) GE.out.1⟩
  | true =>
   cases b1 with
   | false =>
    show Calls Tryd.prog 19 _ w (zfy ([], 0, 0, 2) w)
    go_enter Tryd.func19, Tryd.ntmps19
    go_wp2_with (fail)
    refine (RT0.out _ HB.out).mono ?_
    rintro e W1 ⟨rfl, hb⟩
    have HB1 := Aside0.mk (zam HB.out hb)
    have HA1 := Aside0.mk (zaj S3.out.1 hb)
    have HD1 := Aside0.mk (zaj S3.out.2.1 hb)
    have HR1 := Aside0.mk (zaj S3.out.2.2 hb)
    clear hb HB S3
    have p0 := (zak HD1.out 0).trans rfl
    have p1 := (zak HD1.out 1).trans rfl
    have p2 := (zak HD1.out 2).trans rfl
    go_wp2_with (fail)
    refine (RT1.out _ HB1.out).mono ?_
    rintro e W2 ⟨rfl, hb⟩
    have HB2 := Aside0.mk (zam HB1.out hb)
    have HA2 := Aside0.mk (zaj HA1.out hb)
    have HD2 := Aside0.mk (zaj HD1.out hb)
    have HR2 := Aside0.mk (zaj HR1.out hb)
    clear hb HB1 HA1 HD1 HR1 p0 p1 p2
    have k0 := (zak HR2.out 0).trans rfl
    have k1c := (zak HR2.out 1).trans rfl
    have k2c := (zak HR2.out 2).trans rfl
    have f0 := zah HR2.out 0
    have f1 := zah HR2.out 1
    have f2 := zah HR2.out 2
    go_wp2_with (fail)
    (try simp only [Exit.inBlock, Exit.then])
    refine bodyPost_ret (za7 rfl _ _ (w.heap.size + 1 + 1) 26 #[.slice none 0 0, .int .i64 0, .int .i64 0] (0, 0) _ rfl (zay (zay (zay HR2.out 0 (.slice none 0 0) rfl) 1 (.int .i64 0) rfl) 2 (.int .i64 0) rfl) Tryd.underlying26 rfl (by kernel_rfl)) rfl ?_
    exact ⟨_, rfl, Kd.zcL _ _ _ _ _, zab (zab (zab HB2.out GE.out.1) GE.out.1) GE.out.1⟩
   | true =>
    show Calls Tryd.prog 19 _ w (zfy RR w)
    go_enter Tryd.func19, Tryd.ntmps19
    go_wp2_with (fail)
    refine (RT0.out _ HB.out).mono ?_
    rintro e W1 ⟨rfl, hb⟩
    have HB1 := Aside0.mk (zam HB.out hb)
    have HA1 := Aside0.mk (zaj S3.out.1 hb)
    have HD1 := Aside0.mk (zaj S3.out.2.1 hb)
    have HR1 := Aside0.mk (zaj S3.out.2.2 hb)
    clear hb HB S3
    have p0 := (zak HD1.out 0).trans rfl
    have p1 := (zak HD1.out 1).trans rfl
    have p2 := (zak HD1.out 2).trans rfl
    go_wp2_with (fail)
    refine (RT1.out _ HB1.out).mono ?_
    rintro e W2 ⟨rfl, hb⟩
    have HB2 := Aside0.mk (zam HB1.out hb)
    have HA2 := Aside0.mk (zaj HA1.out hb)
    have HD2 := Aside0.mk (zaj HD1.out hb)
    have HR2 := Aside0.mk (zaj HR1.out hb)
    clear hb HB1 HA1 HD1 HR1 p0 p1 p2
    have q0 := (zak HA2.out 0).trans rfl
    have p0 := (zak HD2.out 0).trans rfl
    go_wp2_with (fail)
    · refine (EA.out l1_0.length (by omega) _ _ _ HB2.out HA2.out HD2.out).mono ?_
      rintro e W3 ⟨vr, rfl, ho, hb⟩
      obtain ⟨Av, cv, hvr⟩ := Kd.zbx ho
      subst hvr
      have HO3 := Aside0.mk (Kd.zbF ho (zao HB2.out))
      have HB3 := Aside0.mk (zam HB2.out hb)
      have HR3 := Aside0.mk (zaj HR2.out hb)
      clear hb ho p0 q0 HB2 HA2 HD2 HR2
      have k0 := (zak HR3.out 0).trans rfl
      have k1c := (zak HR3.out 1).trans rfl
      have k2c := (zak HR3.out 2).trans rfl
      have f0 := zah HR3.out 0
      have f1 := zah HR3.out 1
      have f2 := zah HR3.out 2
      go_wp2_with (fail)
      (try simp only [Exit.inBlock, Exit.then])
      refine bodyPost_ret (za7 rfl _ _ (w.heap.size + 1 + 1) 26 #[.slice Av RR.1.length cv, .int .i64 RR.2.1, .int .i64 RR.2.2.1] (0, 0) _ rfl (zay (zay (zay HR3.out 0 (.slice Av RR.1.length cv) rfl) 1 (.int .i64 RR.2.1) rfl) 2 (.int .i64 RR.2.2.1) rfl) Tryd.underlying26 rfl (by kernel_rfl)) rfl ?_
      exact ⟨_, rfl, Kd.zde (Kd.zde (Kd.zde HO3.out HR3.out (by decide) 0 _) (zcq HR3.out 0 _) (by decide) 1 (.int .i64 RR.2.1)) (zcq (zcq HR3.out 0 _) 1 (.int .i64 RR.2.1)) (by decide) 2 (.int .i64 RR.2.2.1), zab (zab (zab HB3.out GE.out.1) GE.out.1) GE.out.1⟩
    · refine (EA.out l0_0.length (by omega) _ _ _ HB2.out HA2.out HD2.out).mono ?_
      rintro e W3 ⟨vr, rfl, ho, hb⟩
      obtain ⟨Av, cv, hvr⟩ := Kd.zbx ho
      subst hvr
      have HO3 := Aside0.mk (Kd.zbF ho (zao HB2.out))
      have HB3 := Aside0.mk (zam HB2.out hb)
      have HR3 := Aside0.mk (zaj HR2.out hb)
      clear hb ho p0 q0 HB2 HA2 HD2 HR2
      have k0 := (zak HR3.out 0).trans rfl
      have k1c := (zak HR3.out 1).trans rfl
      have k2c := (zak HR3.out 2).trans rfl
      have f0 := zah HR3.out 0
      have f1 := zah HR3.out 1
      have f2 := zah HR3.out 2
      go_wp2_with (fail)
      (try simp only [Exit.inBlock, Exit.then])
      refine bodyPost_ret (za7 rfl _ _ (w.heap.size + 1 + 1) 26 #[.slice Av RR.1.length cv, .int .i64 RR.2.1, .int .i64 RR.2.2.1] (0, 0) _ rfl (zay (zay (zay HR3.out 0 (.slice Av RR.1.length cv) rfl) 1 (.int .i64 RR.2.1) rfl) 2 (.int .i64 RR.2.2.1) rfl) Tryd.underlying26 rfl (by kernel_rfl)) rfl ?_
      exact ⟨_, rfl, Kd.zde (Kd.zde (Kd.zde HO3.out HR3.out (by decide) 0 _) (zcq HR3.out 0 _) (by decide) 1 (.int .i64 RR.2.1)) (zcq (zcq HR3.out 0 _) 1 (.int .i64 RR.2.1)) (by decide) 2 (.int .i64 RR.2.2.1), zab (zab (zab HB3.out GE.out.1) GE.out.1) GE.out.1⟩
end Go.Proofs.YtijhnmbegceonaaDoor.PTerm
namespace Go.Proofs.YtijhnmbegceonaaDoor.PTerm
open Go.RowKit Go.Proofs.YtijhnmbegceonaaDoorW.PrintWords Go.Proofs.YtijhnmbegceonaaDoorW.PrintLast Go.Proofs.YtijhnmbegceonaaDoorW.PrintMore
attribute [local go_sem] zbr zbp zbz zby zbh zbg zbq zbo
set_option linter.unusedVariables false
set_option linter.unusedSimpArgs false
def za2.f (a0 : Int) (a1_0 : Int) (a1_1 : Int) (a2_0 : Int) (a2_1 : Int) : Option (Int × Int × Int) := if (BallQ.In64 a1_0 ∧ BallQ.In64 a1_1) ∧ BallQ.In64 a2_0 ∧ BallQ.In64 a2_1 then (if a0 = 0 then some (PRat.addS a1_0 a1_1 a2_0 a2_1) else if a0 = 2 then some (PRat.mulS a1_0 a1_1 a2_0 a2_1) else none) else none
theorem za2.calls (a0 : Int) (a1_0 : Int) (a1_1 : Int) (a2_0 : Int) (a2_1 : Int) (r1 : Int) (r2 : Int) (r3 : Int) (w : World) (h : za2.f a0 a1_0 a1_1 a2_0 a2_1 = some (r1, r2, r3)) :
  Calls Tryd.prog 26 #[.int .i64 a0, .agg #[.int .i64 a1_0, .int .i64 a1_1], .agg #[.int .i64 a2_0, .int .i64 a2_1]] w fun e w' => e = .returned (.tuple #[.agg #[.int .i64 r1, .int .i64 r2], .int .i64 r3]) ∧ Below w.heap.size w w' := by
 unfold za2.f at h
 split at h
 ·rename_i hc
  split at h
  ·rename_i h0
   have e := Option.some.inj h
   subst h0
   have k := PRef.zhl a1_0 a1_1 a2_0 a2_1 w ⟨hc.1.1, hc.1.2, hc.2.1, hc.2.2⟩
   rw [e] at k
   exact k
  ·split at h
   ·rename_i h0
    have e := Option.some.inj h
    subst h0
    have k := PRef.zhk a1_0 a1_1 a2_0 a2_1 w ⟨hc.1.1, hc.1.2, hc.2.1, hc.2.2⟩
    rw [e] at k
    exact k
   ·cases h
 ·cases h
end Go.Proofs.YtijhnmbegceonaaDoor.PTerm
namespace Go.Proofs.YtijhnmbegceonaaDoor.PTerm
open Go.RowKit Go.Proofs.YtijhnmbegceonaaDoorW.PrintWords Go.Proofs.YtijhnmbegceonaaDoorW.PrintLast Go.Proofs.YtijhnmbegceonaaDoorW.PrintMore
attribute [local go_sem] zbr zbp zbz zby zbh zbg zbq zbo
set_option linter.unusedVariables false
set_option linter.unusedSimpArgs false
mutual
def zaM.j0 : Nat → List (S24) → Bool → List (S24) → Int → Int → Option (Int × Int × Int)
 | 0, _, _, _, _, _ => none
 | k + 1, x6, x26, x270000, x270001, x270002 => if x26 = true then (some (0, 0, 2)) else (if 0 ≤ (mn (x270000.length : Int) (x6.length : Int)) then (if (mn (x270000.length : Int) (x6.length : Int)) ≤ (x270000.length : Int) then ((some (x270000.take ((mn (x270000.length : Int) (x6.length : Int)) : Int).toNat : List (S24))).bind fun y280 => (zaM.l0 k x6 y280 (y280.length : Int) 0 x270001 x270002)) else (none)) else (none))
def zaM.l0 : Nat → List (S24) → List (S24) → Int → Int → Int → Int → Option (Int × Int × Int)
 | 0, _, _, _, _, _, _ => none
 | k + 1, x6, x38, x39, x40, x280000, x280001 => if x40 < x39 then (if 0 ≤ x40 then (if x40 < (x38.length : Int) then (if x40 < (x6.length : Int) then ((zba.f ((zaC x38 x40).f0) ((zaC x38 x40).f1) ((zaC x6 x40).f0) ((zaC x6 x40).f1)).bind fun bt287 => (if bt287.2.2 = 0 then ((zbD.f x280000 x280001 bt287.1 bt287.2.1).bind fun bt291 => (if bt291.2.2 = 0 then (zaM.l0 k x6 x38 x39 (wrap64 (x40 + 1)) bt291.1 bt291.2.1) else (some (0, 0, bt291.2.2)))) else (some (0, 0, bt287.2.2)))) else (none)) else (none)) else (none)) else (some (x280000, x280001, 0))
end
def zaM.f (k : Nat) (l0_0 : List (S24)) (a0_1 : Int) (a0_2 : Int) (l1 : List (S24)) : Option (Int × Int × Int) := if 0 ≤ (mn (l1.length : Int) 8) then (if (mn (l1.length : Int) 8) ≤ (l1.length : Int) then ((some (l1.take ((mn (l1.length : Int) 8) : Int).toNat : List (S24))).bind fun y271 => ((za4.f l0_0 a0_1 a0_2).bind fun t275 => (if t275 = true then ((zbL.f).bind fun bt276 => ((za4.f y271 bt276.1 bt276.2).bind fun t278 => (zaM.j0 k y271 (!t278) l0_0 a0_1 a0_2))) else (zaM.j0 k y271 true l0_0 a0_1 a0_2)))) else (none)) else (none)
def zaM.T8 : Bool × List (List Nat × List Nat) := (true, [([], []), ([], []), ([], []), ([1, 2], [1, 2]), ([3], [3]), ([0, 4], [0, 4]), ([5], [5]), ([6], [6]), ([6], [6]), ([], []), ([9, 7, 5, 0, 1, 2, 3, 4, 5, 6, 7, 9], [7, 9]), ([8, 10, 0, 1, 2, 3, 4, 5, 6, 7, 8, 9, 10], [8])])
def zaM.B8 : List Nat := [0, 0, 0, 6, 14, 31, 63, 127, 127, 0, 767, 2047]
theorem zaM.tab8 : rtab .any (opsOf Tryd.f24 8) = zaM.T8 := by kernel_rfl
theorem zaM.bits8 : zcb zaM.T8.2 zaM.B8 = true := by kernel_rfl
set_option maxHeartbeats 8000000 in
set_option maxRecDepth 100000 in
theorem zaM.calls (k : Nat) (A0_0 : Option Addr) (c0_0 : Nat) (l0_0 : List (S24)) (a0_1 : Int) (a0_2 : Int) (A1 : Option Addr) (c1 : Nat) (l1 : List (S24)) (r1 : Int) (r2 : Int) (r3 : Int) (w : World) (hr0_0 : Kd.C k24 w A0_0 l0_0.length l0_0) (hc0_0 : l0_0.length ≤ c0_0) (hr1 : Kd.C k24 w A1 l1.length l1) (hc1 : l1.length ≤ c1) (h : zaM.f k l0_0 a0_1 a0_2 l1 = some (r1, r2, r3)) :
  Calls Tryd.prog 24 #[.agg #[.slice A0_0 l0_0.length c0_0, .int .i64 a0_1, .int .i64 a0_2], .slice A1 l1.length c1] w fun e w' => e = .returned (.tuple #[.agg #[.int .i64 r1, .int .i64 r2], .int .i64 r3]) ∧ Below w.heap.size w w' := by
 have hu26 := Tryd.underlying26
 have hu24 := Tryd.underlying24
 have HR0_0 := Aside0.mk hr0_0
 have HC0_0 := Aside0.mk hc0_0
 clear hr0_0 hc0_0
 have HR1 := Aside0.mk hr1
 have HC1 := Aside0.mk hc1
 clear hr1 hc1
 have HB := Aside0.mk (Below.refl w.heap.size w)
 have H : (if 0 ≤ (mn (l1.length : Int) 8) then (if (mn (l1.length : Int) 8) ≤ (l1.length : Int) then ((some (l1.take ((mn (l1.length : Int) 8) : Int).toNat : List (S24))).bind fun y271 => ((za4.f l0_0 a0_1 a0_2).bind fun t275 => (if t275 = true then ((zbL.f).bind fun bt276 => ((za4.f y271 bt276.1 bt276.2).bind fun t278 => (zaM.j0 k y271 (!t278) l0_0 a0_1 a0_2))) else (zaM.j0 k y271 true l0_0 a0_1 a0_2)))) else (none)) else (none)) = some (r1, r2, r3) := h
 clear h
 obtain ⟨ji3, hji3⟩ : ∃ j_ : Int, (mn (l1.length : Int) 8) = j_ := ⟨_, rfl⟩
 replace H : (if 0 ≤ (ji3) then (if (ji3) ≤ (l1.length : Int) then ((some (l1.take ((ji3) : Int).toNat : List (S24))).bind fun y271 => ((za4.f l0_0 a0_1 a0_2).bind fun t275 => (if t275 = true then ((zbL.f).bind fun bt276 => ((za4.f y271 bt276.1 bt276.2).bind fun t278 => (zaM.j0 k y271 (!t278) l0_0 a0_1 a0_2))) else (zaM.j0 k y271 true l0_0 a0_1 a0_2)))) else (none)) else (none)) = some (r1, r2, r3) := by first | (rw [hji3] at H; exact H) | (simp only [hji3] at H ⊢; exact H)
 (try (have hji3h : ji3 ≤ 8 := by (rw [← hji3]; unfold mn; (repeat' split) <;> omega)))
 (try (have hji3g : ji3 ≤ 64 := by omega))
 (try (have hji3l : 0 ≤ ji3 := by (rw [← hji3]; unfold mn; (repeat' split) <;> omega)))
 (try (have hji3m : 0 ≤ ji3 := by omega))
 have hji3_ : (if 8 < (l1.length : Int) then 8 else (l1.length : Int)) = ji3 := hji3
 by_cases c4 : 0 ≤ (ji3)
 ·rw [if_pos c4] at H
  have c4b0 := eq_true c4
  have c4b1 : decide (0 ≤ (ji3)) = true := decide_eq_true c4
  clear c4
  by_cases c5 : (ji3) ≤ (l1.length : Int)
  ·rw [if_pos c5] at H
   have c5b0 := eq_true c5
   have c5b1 : decide ((ji3) ≤ (l1.length : Int)) = true := decide_eq_true c5
   clear c5
   obtain ⟨y271, hy271⟩ : ∃ y_ : List (S24), y_ = (l1.take ((ji3) : Int).toNat) := ⟨_, rfl⟩
   replace H : ((za4.f l0_0 a0_1 a0_2).bind fun t275 => (if t275 = true then ((zbL.f).bind fun bt276 => ((za4.f y271 bt276.1 bt276.2).bind fun t278 => (zaM.j0 k y271 (!t278) l0_0 a0_1 a0_2))) else (zaM.j0 k y271 true l0_0 a0_1 a0_2))) = some (r1, r2, r3) := by first | (rw [hy271]; with_reducible exact H) | (have H2_ := (Option.bind_some _ _).symm.trans H; rw [hy271]; with_reducible exact H2_) | (have H2_ := (Option.bind_some _ _).symm.trans H; with_reducible exact H2_) | with_reducible exact H | (rw [hy271]; exact H) | exact H
   have Ny271 := Aside0.mk hy271
   clear hy271
   have HC6 := Aside0.mk H
   clear H
   go_enter Tryd.func24, Tryd.ntmps24
   go_upto_region 2 with (first | ((with_reducible refine zaK (N := 2) rfl ?_); refine zaI ?hg (N := 2) ?hd (cs := #[.slice A0_0 l0_0.length c0_0, .int .i64 a0_1, .int .i64 a0_2]) (t := 26) ?hr ?_; (case hd => rfl); (case hg => rfl); (case hr => first | (go_simp; done) | (go_simp; rfl)); intro gb269 hg w7 hbox hb; have n0_ := Aside0.mk (zam (by repeat (first | (with_reducible first | exact HB.out | apply zac | apply zaa | apply zaf) | exact HB.out)) hb); have n1_ := Aside0.mk (hbox); have n2_ := Aside0.mk ((by rw [hg]; exact (zao (by repeat (first | (with_reducible first | exact HB.out | apply zac | apply zaa | apply zaf) | exact HB.out))) : w.heap.size ≤ gb269)); have n3_ := n2_; clear HB; have HB := n0_; have BK269 := n1_; have GW269 := n2_; have GE269 := n3_; clear n0_ n1_ n2_ n3_; clear hb hbox hg) | ((with_reducible refine zaK (N := 4) rfl ?_); refine zaI ?hg (N := 4) ?hd (cs := #[.int .i64 0, .int .i64 0]) (t := 24) ?hr ?_; (case hd => rfl); (case hg => rfl); (case hr => first | (go_simp; done) | (go_simp; rfl)); intro gb270 hg w8 hbox hb; have n0_ := Aside0.mk (zaj (g := gb269) (o := .cells #[.slice A0_0 l0_0.length c0_0, .int .i64 a0_1, .int .i64 a0_2] 26 (0, 0)) (by (with_reducible repeat (first | apply zae | apply zai | apply zad)); exact BK269.out) hb); have n1_ := Aside0.mk (zam (by repeat (first | (with_reducible first | exact HB.out | apply zac | apply zaa | apply zaf | refine zab ?_ GE269.out) | exact HB.out)) hb); have n2_ := Aside0.mk (hbox); have n3_ := Aside0.mk ((by rw [hg]; exact (zao (by repeat (first | (with_reducible first | exact HB.out | apply zac | apply zaa | apply zaf | refine zab ?_ GE269.out) | exact HB.out))) : w.heap.size ≤ gb270)); have n4_ := n3_; have n5_ := Aside0.mk ((by rw [hg]; exact Nat.ne_of_lt (za3 (g := gb269) (o := .cells #[.slice A0_0 l0_0.length c0_0, .int .i64 a0_1, .int .i64 a0_2] 26 (0, 0)) (by (with_reducible repeat (first | apply zae | apply zai | apply zad)); exact BK269.out)) : gb269 ≠ gb270)); have n6_ := Aside0.mk n5_.out.symm; clear BK269; clear HB; have BK269 := n0_; have HB := n1_; have BK270 := n2_; have GW270 := n3_; have GE270 := n4_; have NB269_270 := n5_; have NB270_269 := n6_; clear n0_ n1_ n2_ n3_ n4_ n5_ n6_; clear hb hbox hg; have q9 : ((ji3) : Int) ≤ ((l1.length : Int) : Int) := of_decide_eq_true (by first | (with_reducible assumption) | assumption); obtain ⟨i09, hi09, _, hsz9, _⟩ := info_parts zeu; have hroom9 : l1.length ≤ c1 := HC1.out; have hC9 : Kd.C k24 _ A1 l1.length l1 := HR1.out; have hcut9 := zeB (P := Tryd.prog) 22 24 .i64 Tryd.underlying22 hi09 A1 l1.length c1 (ji3) (of_decide_eq_true (by first | (with_reducible assumption) | assumption)) q9 hroom9; have hr9 := Kd.zgr (m := ((ji3) : Int).toNat) hC9 (by omega); have hy9 : y271.length = ((ji3) : Int).toNat := (by rw [Ny271.out, List.length_take]; omega); rw [← Ny271.out] at hr9; rw [← hy9] at hcut9; have HR274 := Aside0.mk hr9; have HC274 := Aside0.mk (show y271.length ≤ c1 from by omega); clear hr9 hC9 hroom9 hi09 hsz9; have KY9 := Aside0.mk hy9; clear hy9; replace q9 := eq_true q9))
   (try simp only [Act.put, List.setIfInBounds_toArray, List.set_cons_zero, List.set_cons_succ])
   go_cut [26] (fun v26 wc => ∃ (kq : Nat) (x26_5 : Bool), v26 = .bool x26_5 ∧ Aside0 (zaM.j0 kq y271 x26_5 l0_0 a0_1 a0_2 = some (r1, r2, r3)) ∧ Aside0 (kq ≤ k) ∧ Aside0 (wc.heap[gb269]? = some (.cells #[(.slice A0_0 l0_0.length c0_0), .int .i64 a0_1, .int .i64 a0_2] 26 (0, 0))) ∧ Aside0 (wc.heap[gb270]? = some (.cells #[.int .i64 0, .int .i64 0] 24 (0, 0))) ∧ Aside0 (Below w.heap.size w wc))
   case first =>
    have H := HC6.out
    clear HC6
    replace H := Option.bind_eq_some_iff.mp H
    obtain ⟨t275, A100, H⟩ := H
    replace H : (if t275 = true then ((zbL.f).bind fun bt276 => ((za4.f y271 bt276.1 bt276.2).bind fun t278 => (zaM.j0 k y271 (!t278) l0_0 a0_1 a0_2))) else (zaM.j0 k y271 true l0_0 a0_1 a0_2)) = some (r1, r2, r3) := H
    have A10 := Aside0.mk A100
    clear A100
    have HX := Aside0.mk H
    clear H
    have hnb14 := NB269_270.out
    have hnc14 := NB270_269.out
    have hcz15_0 : w8.cell? ⟨gb269, 0, none⟩ = some (.slice A0_0 l0_0.length c0_0) := (zak BK269.out 0).trans rfl
    have hcz15_1 : w8.cell? ⟨gb269, 1, none⟩ = some (.int .i64 a0_1) := (zak BK269.out 1).trans rfl
    have hcz15_2 : w8.cell? ⟨gb269, 2, none⟩ = some (.int .i64 a0_2) := (zak BK269.out 2).trans rfl
    have hfz15_0 := zah BK269.out 0
    have hfz15_1 := zah BK269.out 1
    have hfz15_2 := zah BK269.out 2
    have H := HX.out
    clear HX
    by_cases c11 : t275 = true
    ·subst c11
     have H1 : ((zbL.f).bind fun bt276 => ((za4.f y271 bt276.1 bt276.2).bind fun t278 => (zaM.j0 k y271 (!t278) l0_0 a0_1 a0_2))) = some (r1, r2, r3) := by rw [if_pos rfl] at H; exact H
     clear H
     have H := H1
     clear H1
     replace H := Option.bind_eq_some_iff.mp H
     obtain ⟨⟨t276, t277⟩, A120, H⟩ := H
     replace H : ((za4.f y271 t276 t277).bind fun t278 => (zaM.j0 k y271 (!t278) l0_0 a0_1 a0_2)) = some (r1, r2, r3) := H
     have A12 := Aside0.mk A120
     clear A120
     replace H := Option.bind_eq_some_iff.mp H
     obtain ⟨t278, A130, H⟩ := H
     replace H : (zaM.j0 k y271 (!t278) l0_0 a0_1 a0_2) = some (r1, r2, r3) := H
     have A13 := Aside0.mk A130
     clear A130
     have H' := Aside0.mk H
     clear H
     go_wp2_with (first | ((with_reducible refine zat (f := 18) rfl ?_); refine za9 (some 18) rfl rfl Tryd.func18 (by kernel_rfl) rfl #[.agg #[.slice A0_0 l0_0.length c0_0, .int .i64 a0_1, .int .i64 a0_2]] rfl (by (try simp only [List.map_toArray, List.map_cons, List.map_nil]); first | done | rfl | (simp only [List.length_drop, List.length_take]; rfl)) ?_; (with_reducible refine (za4.calls _ _ l0_0 a0_1 a0_2 true _ ?side1 ?side2 A10.out).mono ?_); (case side1 => repeat (first | exact (Kd.zbd HR0_0.out HB.out) | (with_reducible refine Kd.zbe ?_ _) | (with_reducible refine Kd.zbc ?_ _) | (with_reducible refine Kd.zbt ?_))); (case side2 => exact HC0_0.out); rintro e w16 ⟨rfl, hb⟩; refine ⟨_, rfl, ?_⟩; have n0_ := Aside0.mk (zaj (g := gb269) (o := .cells #[.slice A0_0 l0_0.length c0_0, .int .i64 a0_1, .int .i64 a0_2] 26 (0, 0)) (by (with_reducible repeat (first | apply zae | apply zai | apply zad)); exact BK269.out) hb); have n1_ := Aside0.mk (zaj (g := gb270) (o := .cells #[.int .i64 0, .int .i64 0] 24 (0, 0)) (by (with_reducible repeat (first | apply zae | apply zai | apply zad)); exact BK270.out) hb); have n2_ := Aside0.mk (zam (by repeat (first | (with_reducible first | exact HB.out | apply zac | apply zaa | apply zaf | refine zab ?_ GE269.out | refine zab ?_ GE270.out) | exact HB.out)) hb); clear BK269; clear BK270; clear HB; have BK269 := n0_; have BK270 := n1_; have HB := n2_; clear n0_ n1_ n2_; (try clear hb); (try clear hb2); (try clear hk); (try clear hi)) | (go_at_call 36; (with_reducible refine (zbL.calls  t276 t277 _ A12.out).mono ?_); rintro e w17 ⟨rfl, hb⟩; have n0_ := Aside0.mk (zaj (g := gb269) (o := .cells #[.slice A0_0 l0_0.length c0_0, .int .i64 a0_1, .int .i64 a0_2] 26 (0, 0)) (by (with_reducible repeat (first | apply zae | apply zai | apply zad)); exact BK269.out) hb); have n1_ := Aside0.mk (zaj (g := gb270) (o := .cells #[.int .i64 0, .int .i64 0] 24 (0, 0)) (by (with_reducible repeat (first | apply zae | apply zai | apply zad)); exact BK270.out) hb); have n2_ := Aside0.mk (zam (by repeat (first | (with_reducible first | exact HB.out | apply zac | apply zaa | apply zaf | refine zab ?_ GE269.out | refine zab ?_ GE270.out) | exact HB.out)) hb); clear BK269; clear BK270; clear HB; have BK269 := n0_; have BK270 := n1_; have HB := n2_; clear n0_ n1_ n2_; (try clear hb); (try clear hb2); (try clear hk); (try clear hi)) | (go_at_call 18; (with_reducible refine (za4.calls _ _ y271 t276 t277 t278 _ ?side1 ?side2 A13.out).mono ?_); (case side1 => repeat (first | exact (Kd.zbd HR274.out HB.out) | (with_reducible refine Kd.zbe ?_ _) | (with_reducible refine Kd.zbc ?_ _) | (with_reducible refine Kd.zbt ?_))); (case side2 => exact HC274.out); rintro e w18 ⟨rfl, hb⟩; have n0_ := Aside0.mk (zaj (g := gb269) (o := .cells #[.slice A0_0 l0_0.length c0_0, .int .i64 a0_1, .int .i64 a0_2] 26 (0, 0)) (by (with_reducible repeat (first | apply zae | apply zai | apply zad)); exact BK269.out) hb); have n1_ := Aside0.mk (zaj (g := gb270) (o := .cells #[.int .i64 0, .int .i64 0] 24 (0, 0)) (by (with_reducible repeat (first | apply zae | apply zai | apply zad)); exact BK270.out) hb); have n2_ := Aside0.mk (zam (by repeat (first | (with_reducible first | exact HB.out | apply zac | apply zaa | apply zaf | refine zab ?_ GE269.out | refine zab ?_ GE270.out) | exact HB.out)) hb); clear BK269; clear BK270; clear HB; have BK269 := n0_; have BK270 := n1_; have HB := n2_; clear n0_ n1_ n2_; (try clear hb); (try clear hb2); (try clear hk); (try clear hi)))
     go_meet
     case rel => exact ⟨_, (!t278), (by first | rfl | (simp; done) | (simp [*]; done)), H', ⟨by first | omega | exact Nat.le_refl _⟩, ⟨by (with_reducible repeat (first | apply zae | apply zai | apply zad)); exact BK269.out⟩, ⟨by (with_reducible repeat (first | apply zae | apply zai | apply zad)); exact BK270.out⟩, ⟨by repeat (first | (with_reducible first | exact HB.out | apply zac | apply zaa | apply zaf | refine zab ?_ GE269.out | refine zab ?_ GE270.out) | exact HB.out)⟩⟩
    ·replace c11 := Bool.eq_false_iff.mpr c11
     subst c11
     have H1 : (zaM.j0 k y271 true l0_0 a0_1 a0_2) = some (r1, r2, r3) := by rw [if_neg (show ¬ (false = true) by decide)] at H; exact H
     clear H
     have H := H1
     clear H1
     have H' := Aside0.mk H
     clear H
     go_wp2_with (first | ((with_reducible refine zat (f := 18) rfl ?_); refine za9 (some 18) rfl rfl Tryd.func18 (by kernel_rfl) rfl #[.agg #[.slice A0_0 l0_0.length c0_0, .int .i64 a0_1, .int .i64 a0_2]] rfl (by (try simp only [List.map_toArray, List.map_cons, List.map_nil]); first | done | rfl | (simp only [List.length_drop, List.length_take]; rfl)) ?_; (with_reducible refine (za4.calls _ _ l0_0 a0_1 a0_2 false _ ?side1 ?side2 A10.out).mono ?_); (case side1 => repeat (first | exact (Kd.zbd HR0_0.out HB.out) | (with_reducible refine Kd.zbe ?_ _) | (with_reducible refine Kd.zbc ?_ _) | (with_reducible refine Kd.zbt ?_))); (case side2 => exact HC0_0.out); rintro e w21 ⟨rfl, hb⟩; refine ⟨_, rfl, ?_⟩; have n0_ := Aside0.mk (zaj (g := gb269) (o := .cells #[.slice A0_0 l0_0.length c0_0, .int .i64 a0_1, .int .i64 a0_2] 26 (0, 0)) (by (with_reducible repeat (first | apply zae | apply zai | apply zad)); exact BK269.out) hb); have n1_ := Aside0.mk (zaj (g := gb270) (o := .cells #[.int .i64 0, .int .i64 0] 24 (0, 0)) (by (with_reducible repeat (first | apply zae | apply zai | apply zad)); exact BK270.out) hb); have n2_ := Aside0.mk (zam (by repeat (first | (with_reducible first | exact HB.out | apply zac | apply zaa | apply zaf | refine zab ?_ GE269.out | refine zab ?_ GE270.out) | exact HB.out)) hb); clear BK269; clear BK270; clear HB; have BK269 := n0_; have BK270 := n1_; have HB := n2_; clear n0_ n1_ n2_; (try clear hb); (try clear hb2); (try clear hk); (try clear hi)))
     go_meet
     case rel => exact ⟨_, (true), (by first | rfl | (simp; done) | (simp [*]; done)), H', ⟨by first | omega | exact Nat.le_refl _⟩, ⟨by (with_reducible repeat (first | apply zae | apply zai | apply zad)); exact BK269.out⟩, ⟨by (with_reducible repeat (first | apply zae | apply zai | apply zad)); exact BK270.out⟩, ⟨by repeat (first | (with_reducible first | exact HB.out | apply zac | apply zaa | apply zaf | refine zab ?_ GE269.out | refine zab ?_ GE270.out) | exact HB.out)⟩⟩
   case rest =>
    clear HC6
    (try clear c1); (try clear c2); (try clear p2); (try clear c4); (try clear c4b0); (try clear c4b1); (try clear c5); (try clear c5b0); (try clear c5b1); (try clear q9); (try clear c11); (try clear c14); (try clear c18); (try clear c19); (try clear hcz15_0); (try clear hcz15_1); (try clear hcz15_2); (try clear hcz20_0); (try clear hcz20_1); (try clear hcz20_2); (try clear hfz15_0); (try clear hfz15_1); (try clear hfz15_2); (try clear hfz20_0); (try clear hfz20_1); (try clear hfz20_2); (try clear q9)
    obtain ⟨kq, x26_5, rfl, HA, HJ5, BK269, BK270, HB⟩ := hcut
    cases kq with
    | zero => exact absurd HA.out (by simp [zaM.j0])
    | succ kj5 =>
     have H := HA.out
     clear HA
     simp only [zaM.j0] at H
     by_cases c22 : x26_5 = true
     ·subst c22
      have H1 : (some (0, 0, 2)) = some (r1, r2, r3) := by rw [if_pos rfl] at H; exact H
      clear H
      have H := H1
      clear H1
      simp only [Option.some.injEq, Prod.mk.injEq] at H
      obtain ⟨rfl, rfl, rfl⟩ := H
      have hnb23 := NB270_269.out
      have hnc23 := NB269_270.out
      have hcz24_0 : wc.cell? ⟨gb270, 0, none⟩ = some (.int .i64 0) := (zak BK270.out 0).trans rfl
      have hcz24_1 : wc.cell? ⟨gb270, 1, none⟩ = some (.int .i64 0) := (zak BK270.out 1).trans rfl
      have hfz24_0 := zah BK270.out 0
      have hfz24_1 := zah BK270.out 1
      go_wp2
      refine bodyPost_ret (za7 rfl _ _ gb270 24 #[.int .i64 0, .int .i64 0] (0, 0) _ rfl (by (with_reducible repeat (first | apply zae | apply zai | apply zad)); refine zay (cs := #[.int .i64 0, .int .i64 0]) ?_ 1 _ rfl; (with_reducible repeat (first | apply zae | apply zai | apply zad)); refine zay (cs := #[.int .i64 0, .int .i64 0]) ?_ 0 _ rfl; (with_reducible repeat (first | apply zae | apply zai | apply zad)); exact BK270.out) Tryd.underlying24 rfl (by kernel_rfl)) rfl ?_
      exact ⟨by first | rfl | (simp [zas, zar] <;> rfl) | (simp only [← hji3]; first | rfl | (simp [zas, zar] <;> rfl)) | (simp [*, zas, zar] <;> rfl), by repeat (first | (with_reducible first | exact HB.out | apply zac | apply zaa | apply zaf | refine zab ?_ GE269.out | refine zab ?_ GE270.out) | exact HB.out)⟩
     ·replace c22 := Bool.eq_false_iff.mpr c22
      subst c22
      have H1 : (if 0 ≤ (mn (l0_0.length : Int) (y271.length : Int)) then (if (mn (l0_0.length : Int) (y271.length : Int)) ≤ (l0_0.length : Int) then ((some (l0_0.take ((mn (l0_0.length : Int) (y271.length : Int)) : Int).toNat : List (S24))).bind fun y280 => (zaM.l0 kj5 y271 y280 (y280.length : Int) 0 a0_1 a0_2)) else (none)) else (none)) = some (r1, r2, r3) := by rw [if_neg (show ¬ (false = true) by decide)] at H; exact H
      clear H
      have H := H1
      clear H1
      obtain ⟨ji25, hji25⟩ : ∃ j_ : Int, (mn (l0_0.length : Int) (y271.length : Int)) = j_ := ⟨_, rfl⟩
      replace H : (if 0 ≤ (ji25) then (if (ji25) ≤ (l0_0.length : Int) then ((some (l0_0.take ((ji25) : Int).toNat : List (S24))).bind fun y280 => (zaM.l0 kj5 y271 y280 (y280.length : Int) 0 a0_1 a0_2)) else (none)) else (none)) = some (r1, r2, r3) := by first | (rw [hji25] at H; exact H) | (simp only [hji25] at H ⊢; exact H)
      have hji25_ : (if (y271.length : Int) < (l0_0.length : Int) then (y271.length : Int) else (l0_0.length : Int)) = ji25 := hji25
      have hji25_n : (if y271.length < l0_0.length then (y271.length : Int) else (l0_0.length : Int)) = ji25 := by rw [← hji25_]; split <;> split <;> omega
      by_cases c26 : 0 ≤ (ji25)
      ·rw [if_pos c26] at H
       have c26b0 := eq_true c26
       have c26b1 : decide (0 ≤ (ji25)) = true := decide_eq_true c26
       clear c26
       by_cases c27 : (ji25) ≤ (l0_0.length : Int)
       ·rw [if_pos c27] at H
        have c27b0 := eq_true c27
        have c27b1 : decide ((ji25) ≤ (l0_0.length : Int)) = true := decide_eq_true c27
        clear c27
        obtain ⟨y280, hy280⟩ : ∃ y_ : List (S24), y_ = (l0_0.take ((ji25) : Int).toNat) := ⟨_, rfl⟩
        replace H : (zaM.l0 kj5 y271 y280 (y280.length : Int) 0 a0_1 a0_2) = some (r1, r2, r3) := by first | (rw [hy280]; with_reducible exact H) | (have H2_ := (Option.bind_some _ _).symm.trans H; rw [hy280]; with_reducible exact H2_) | (have H2_ := (Option.bind_some _ _).symm.trans H; with_reducible exact H2_) | with_reducible exact H | (rw [hy280]; exact H) | exact H
        have Ny280 := Aside0.mk hy280
        clear hy280
        have H' := Aside0.mk H
        clear H
        have hnb28 := NB269_270.out
        have hnc28 := NB270_269.out
        have hcz29_0 : wc.cell? ⟨gb269, 0, none⟩ = some (.slice A0_0 l0_0.length c0_0) := (zak BK269.out 0).trans rfl
        have hcz29_1 : wc.cell? ⟨gb269, 1, none⟩ = some (.int .i64 a0_1) := (zak BK269.out 1).trans rfl
        have hcz29_2 : wc.cell? ⟨gb269, 2, none⟩ = some (.int .i64 a0_2) := (zak BK269.out 2).trans rfl
        have hfz29_0 := zah BK269.out 0
        have hfz29_1 := zah BK269.out 1
        have hfz29_2 := zah BK269.out 2
        go_wp2_with (first | ((with_reducible refine zaK (N := 7) rfl ?_); refine zaI ?hg (N := 7) ?hd (cs := #[.int .i64 0, .int .i64 0]) (t := 24) ?hr ?_; (case hd => rfl); (case hg => rfl); (case hr => first | (go_simp; done) | (go_simp; rfl)); intro gb279 hg w30 hbox hb; have n0_ := Aside0.mk (zaj (g := gb269) (o := .cells #[.slice A0_0 l0_0.length c0_0, .int .i64 a0_1, .int .i64 a0_2] 26 (0, 0)) (by (with_reducible repeat (first | apply zae | apply zai | apply zad)); exact BK269.out) hb); have n1_ := Aside0.mk (zaj (g := gb270) (o := .cells #[.int .i64 0, .int .i64 0] 24 (0, 0)) (by (with_reducible repeat (first | apply zae | apply zai | apply zad)); exact BK270.out) hb); have n2_ := Aside0.mk (zam (by repeat (first | (with_reducible first | exact HB.out | apply zac | apply zaa | apply zaf | refine zab ?_ GE269.out | refine zab ?_ GE270.out) | exact HB.out)) hb); have n3_ := Aside0.mk (hbox); have n4_ := Aside0.mk ((by rw [hg]; exact (zao (by repeat (first | (with_reducible first | exact HB.out | apply zac | apply zaa | apply zaf | refine zab ?_ GE269.out | refine zab ?_ GE270.out) | exact HB.out))) : w.heap.size ≤ gb279)); have n5_ := n4_; have n6_ := Aside0.mk ((by rw [hg]; exact Nat.ne_of_lt (za3 (g := gb269) (o := .cells #[.slice A0_0 l0_0.length c0_0, .int .i64 a0_1, .int .i64 a0_2] 26 (0, 0)) (by (with_reducible repeat (first | apply zae | apply zai | apply zad)); exact BK269.out)) : gb269 ≠ gb279)); have n7_ := Aside0.mk n6_.out.symm; have n8_ := Aside0.mk ((by rw [hg]; exact Nat.ne_of_lt (za3 (g := gb270) (o := .cells #[.int .i64 0, .int .i64 0] 24 (0, 0)) (by (with_reducible repeat (first | apply zae | apply zai | apply zad)); exact BK270.out)) : gb270 ≠ gb279)); have n9_ := Aside0.mk n8_.out.symm; clear BK269; clear BK270; clear HB; have BK269 := n0_; have BK270 := n1_; have HB := n2_; have BK279 := n3_; have GW279 := n4_; have GE279 := n5_; have NB269_279 := n6_; have NB279_269 := n7_; have NB270_279 := n8_; have NB279_270 := n9_; clear n0_ n1_ n2_ n3_ n4_ n5_ n6_ n7_ n8_ n9_; clear hb hbox hg; have hnb31 := NB279_269.out; have hnc31 := NB269_279.out; have hnb32 := NB279_270.out; have hnc32 := NB270_279.out; have hcz33_0 : w30.cell? ⟨gb279, 0, none⟩ = some (.int .i64 0) := (zak BK279.out 0).trans rfl; have hcz33_1 : w30.cell? ⟨gb279, 1, none⟩ = some (.int .i64 0) := (zak BK279.out 1).trans rfl; have hfz33_0 := zah BK279.out 0; have hfz33_1 := zah BK279.out 1) | ((with_reducible refine zft (t := 24) (p := 7) rfl ?_); refine zeG (t := 24) (p := 7) (v := ?vo_w34) (w1 := ((w30.setCell ⟨gb279, 0, none⟩ (.int .i64 a0_1)).setCell ⟨gb279, 1, none⟩ (.int .i64 a0_2))) ?hg ?ho ?hn ?hr ?_; (case ho => rfl); (case hg => rfl); (case hn => rfl); (case hr => first | (go_simp; done) | (go_simp; rfl)); intro w34 hw; have n0_ : Aside0 (w34.heap[gb269]? = some (.cells #[.slice A0_0 l0_0.length c0_0, .int .i64 a0_1, .int .i64 a0_2] 26 (0, 0))) := ⟨(by rw [hw]; exact (by (repeat (first | (with_reducible first | apply zae | apply zai | apply zad) | refine zaA ?_ NB269_279.out _)); exact BK269.out))⟩; have n1_ : Aside0 (w34.heap[gb270]? = some (.cells #[.int .i64 0, .int .i64 0] 24 (0, 0))) := ⟨(by rw [hw]; exact (by (repeat (first | (with_reducible first | apply zae | apply zai | apply zad) | refine zaA ?_ NB270_279.out _)); exact BK270.out))⟩; have n2_ : Aside0 (w34.heap[gb279]? = some (.cells #[.int .i64 a0_1, .int .i64 a0_2] 24 (0, 0))) := ⟨(by rw [hw]; exact (by (with_reducible repeat (first | apply zae | apply zai | apply zad)); refine zay (cs := #[.int .i64 a0_1, .int .i64 0]) ?_ 1 _ rfl; (with_reducible repeat (first | apply zae | apply zai | apply zad)); refine zay (cs := #[.int .i64 0, .int .i64 0]) ?_ 0 _ rfl; (with_reducible repeat (first | apply zae | apply zai | apply zad)); exact BK279.out))⟩; have n3_ : Aside0 (Below w.heap.size w w34) := ⟨(by rw [hw]; exact (by repeat (first | (with_reducible first | exact HB.out | apply zac | apply zaa | apply zaf | refine zab ?_ GE269.out | refine zab ?_ GE270.out | refine zab ?_ GE279.out) | exact HB.out)))⟩; clear hw; clear BK269; clear BK270; clear BK279; clear HB; have BK269 := n0_; have BK270 := n1_; have BK279 := n2_; have HB := n3_; clear n0_ n1_ n2_ n3_; have hcz35_0 : w34.cell? ⟨gb269, 0, none⟩ = some (.slice A0_0 l0_0.length c0_0) := (zak BK269.out 0).trans rfl; have hcz35_1 : w34.cell? ⟨gb269, 1, none⟩ = some (.int .i64 a0_1) := (zak BK269.out 1).trans rfl; have hcz35_2 : w34.cell? ⟨gb269, 2, none⟩ = some (.int .i64 a0_2) := (zak BK269.out 2).trans rfl; have hfz35_0 := zah BK269.out 0; have hfz35_1 := zah BK269.out 1; have hfz35_2 := zah BK269.out 2; have q36 : ((ji25) : Int) ≤ ((l0_0.length : Int) : Int) := of_decide_eq_true (by first | (with_reducible assumption) | assumption); obtain ⟨i036, hi036, _, hsz36, _⟩ := info_parts zeu; have hroom36 : l0_0.length ≤ c0_0 := HC0_0.out; have hC36 : Kd.C k24 _ A0_0 l0_0.length l0_0 := HR0_0.out; have hcut36 := zeB (P := Tryd.prog) 22 24 .i64 Tryd.underlying22 hi036 A0_0 l0_0.length c0_0 (ji25) (of_decide_eq_true (by first | (with_reducible assumption) | assumption)) q36 hroom36; have hr36 := Kd.zgr (m := ((ji25) : Int).toNat) hC36 (by omega); have hy36 : y280.length = ((ji25) : Int).toNat := (by rw [Ny280.out, List.length_take]; omega); rw [← Ny280.out] at hr36; rw [← hy36] at hcut36; have HR283 := Aside0.mk hr36; have HC283 := Aside0.mk (show y280.length ≤ c0_0 from by omega); clear hr36 hC36 hroom36 hi036 hsz36; have KY36 := Aside0.mk hy36; clear hy36; replace q36 := eq_true q36))
        go_loopg [40] kj5 (fun kq v40 w' => ∃ (x40_2 : Int) (x271000_2 : Int) (x271001_2 : Int) (x280000_2 : Int) (x280001_2 : Int), v40 = .int .i64 x40_2 ∧ Aside0 (zaM.l0 kq y271 y280 (y280.length : Int) x40_2 x280000_2 x280001_2 = some (r1, r2, r3)) ∧ Aside0 (kq ≤ kj5) ∧ Aside0 (w'.heap[gb269]? = some (.cells #[(.slice A0_0 l0_0.length c0_0), .int .i64 a0_1, .int .i64 a0_2] 26 (0, 0))) ∧ Aside0 (w'.heap[gb270]? = some (.cells #[.int .i64 x271000_2, .int .i64 x271001_2] 24 (0, 0))) ∧ Aside0 (w'.heap[gb279]? = some (.cells #[.int .i64 x280000_2, .int .i64 x280001_2] 24 (0, 0))) ∧ Aside0 (Below w.heap.size w w'))
        case atStart => exact ⟨(0), (0), (0), (a0_1), (a0_2), (by first | rfl | (simp; done) | (simp [*]; done)), H', ⟨Nat.le_refl _⟩, ⟨by (with_reducible repeat (first | apply zae | apply zai | apply zad)); exact BK269.out⟩, ⟨by (with_reducible repeat (first | apply zae | apply zai | apply zad)); exact BK270.out⟩, ⟨by (with_reducible repeat (first | apply zae | apply zai | apply zad)); exact BK279.out⟩, ⟨by repeat (first | (with_reducible first | exact HB.out | apply zac | apply zaa | apply zaf | refine zab ?_ GE269.out | refine zab ?_ GE270.out | refine zab ?_ GE279.out) | exact HB.out)⟩⟩
        case round =>
         clear H'
         (try clear c1); (try clear c2); (try clear p2); (try clear c3); (try clear q3); (try clear c4); (try clear c4b0); (try clear c4b1); (try clear c5); (try clear c5b0); (try clear c5b1); (try clear q9); (try clear c11); (try clear c14); (try clear c18); (try clear c19); (try clear c22); (try clear c23); (try clear c24); (try clear c26); (try clear c26b0); (try clear c26b1); (try clear c27); (try clear c27b0); (try clear c27b1); (try clear c28); (try clear c31); (try clear c32); (try clear q36); (try clear hcz15_0); (try clear hcz15_1); (try clear hcz15_2); (try clear hcz20_0); (try clear hcz20_1); (try clear hcz20_2); (try clear hcz24_0); (try clear hcz24_1); (try clear hcz29_0); (try clear hcz29_1); (try clear hcz29_2); (try clear hcz33_0); (try clear hcz33_1); (try clear hcz35_0); (try clear hcz35_1); (try clear hcz35_2); (try clear hfz15_0); (try clear hfz15_1); (try clear hfz15_2); (try clear hfz20_0); (try clear hfz20_1); (try clear hfz20_2); (try clear hfz24_0); (try clear hfz24_1); (try clear hfz29_0); (try clear hfz29_1); (try clear hfz29_2); (try clear hfz33_0); (try clear hfz33_1); (try clear hfz35_0); (try clear hfz35_1); (try clear hfz35_2); (try clear p2); (try clear q36); (try clear q9)
         obtain ⟨x40_2, x271000_2, x271001_2, x280000_2, x280001_2, rfl, HA, HK2, BK269, BK270, BK279, HB⟩ := hrel
         cases gk with
         | zero => exact absurd HA.out (by simp [zaM.l0])
         | succ k2 =>
          have H := HA.out
          clear HA
          simp only [zaM.l0] at H
          by_cases c37 : x40_2 < (y280.length : Int)
          ·rw [if_pos c37] at H
           have c37b0 : decide (x40_2 < (y280.length : Int)) = true := decide_eq_true c37
           clear c37
           by_cases c38 : 0 ≤ x40_2
           ·rw [if_pos c38] at H
            have c38b0 : decide (0 ≤ x40_2) = true := decide_eq_true c38
            clear c38
            by_cases c39 : x40_2 < (y280.length : Int)
            ·rw [if_pos c39] at H
             have c39b0 : decide (x40_2 < (y280.length : Int)) = true := decide_eq_true c39
             clear c39
             by_cases c40 : x40_2 < (y271.length : Int)
             ·rw [if_pos c40] at H
              have c40b0 : decide (x40_2 < (y271.length : Int)) = true := decide_eq_true c40
              clear c40
              replace H := Option.bind_eq_some_iff.mp H
              obtain ⟨⟨t287, t288, t289⟩, A410, H⟩ := H
              replace H : (if t289 = 0 then ((zbD.f x280000_2 x280001_2 t287 t288).bind fun bt291 => (if bt291.2.2 = 0 then (zaM.l0 k2 y271 y280 (y280.length : Int) (wrap64 (x40_2 + 1)) bt291.1 bt291.2.1) else (some (0, 0, bt291.2.2)))) else (some (0, 0, t289))) = some (r1, r2, r3) := H
              have A41 := Aside0.mk A410
              clear A410
              have HX := Aside0.mk H
              clear H
              have p284 : 0 ≤ (x40_2 : Int) := of_decide_eq_true (by first | (with_reducible assumption) | assumption)
              have q284 : x40_2 < (y280.length : Int) := of_decide_eq_true (by first | (with_reducible assumption) | assumption)
              obtain ⟨ad284, e284, hx284_0, hx284_1⟩ := zcw HR283.out x40_2 p284 q284
              cases e284
              replace hx284_0 := (HB.out.cell (World.block_lt_of_cell? w _ hx284_0)).trans hx284_0
              replace hx284_1 := (HB.out.cell (World.block_lt_of_cell? w _ hx284_1)).trans hx284_1
              replace p284 := eq_true p284
              replace q284 := eq_true q284
              try go_wp2_with (first | ((with_reducible refine zaK (N := 9) rfl ?_); refine zaI ?hg (N := 9) ?hd (cs := #[.int .i64 0, .int .i64 0]) (t := 24) ?hr ?_; (case hd => rfl); (case hg => rfl); (case hr => first | (go_simp; done) | (go_simp; rfl)); intro gb285 hg w45 hbox hb; have n0_ := Aside0.mk (zaj (g := gb269) (o := .cells #[.slice (some ad284) l0_0.length c0_0, .int .i64 a0_1, .int .i64 a0_2] 26 (0, 0)) (by (with_reducible repeat (first | apply zae | apply zai | apply zad)); exact BK269.out) hb); have n1_ := Aside0.mk (zaj (g := gb270) (o := .cells #[.int .i64 x271000_2, .int .i64 x271001_2] 24 (0, 0)) (by (with_reducible repeat (first | apply zae | apply zai | apply zad)); exact BK270.out) hb); have n2_ := Aside0.mk (zaj (g := gb279) (o := .cells #[.int .i64 x280000_2, .int .i64 x280001_2] 24 (0, 0)) (by (with_reducible repeat (first | apply zae | apply zai | apply zad)); exact BK279.out) hb); have n3_ := Aside0.mk (zam (by repeat (first | (with_reducible first | exact HB.out | apply zac | apply zaa | apply zaf | refine zab ?_ GE269.out | refine zab ?_ GE270.out | refine zab ?_ GE279.out) | exact HB.out)) hb); have n4_ := Aside0.mk (hbox); have n5_ := Aside0.mk ((by rw [hg]; exact (zao (by repeat (first | (with_reducible first | exact HB.out | apply zac | apply zaa | apply zaf | refine zab ?_ GE269.out | refine zab ?_ GE270.out | refine zab ?_ GE279.out) | exact HB.out))) : w.heap.size ≤ gb285)); have n6_ := n5_; have n7_ := Aside0.mk ((by rw [hg]; exact Nat.ne_of_lt (za3 (g := gb269) (o := .cells #[.slice (some ad284) l0_0.length c0_0, .int .i64 a0_1, .int .i64 a0_2] 26 (0, 0)) (by (with_reducible repeat (first | apply zae | apply zai | apply zad)); exact BK269.out)) : gb269 ≠ gb285)); have n8_ := Aside0.mk n7_.out.symm; have n9_ := Aside0.mk ((by rw [hg]; exact Nat.ne_of_lt (za3 (g := gb270) (o := .cells #[.int .i64 x271000_2, .int .i64 x271001_2] 24 (0, 0)) (by (with_reducible repeat (first | apply zae | apply zai | apply zad)); exact BK270.out)) : gb270 ≠ gb285)); have n10_ := Aside0.mk n9_.out.symm; have n11_ := Aside0.mk ((by rw [hg]; exact Nat.ne_of_lt (za3 (g := gb279) (o := .cells #[.int .i64 x280000_2, .int .i64 x280001_2] 24 (0, 0)) (by (with_reducible repeat (first | apply zae | apply zai | apply zad)); exact BK279.out)) : gb279 ≠ gb285)); have n12_ := Aside0.mk n11_.out.symm; clear BK269; clear BK270; clear BK279; clear HB; have BK269 := n0_; have BK270 := n1_; have BK279 := n2_; have HB := n3_; have BK285 := n4_; have GW285 := n5_; have GE285 := n6_; have NB269_285 := n7_; have NB285_269 := n8_; have NB270_285 := n9_; have NB285_270 := n10_; have NB279_285 := n11_; have NB285_279 := n12_; clear n0_ n1_ n2_ n3_ n4_ n5_ n6_ n7_ n8_ n9_ n10_ n11_ n12_; clear hb hbox hg; have hnb46 := NB285_269.out; have hnc46 := NB269_285.out; have hnb47 := NB285_270.out; have hnc47 := NB270_285.out; have hnb48 := NB285_279.out; have hnc48 := NB279_285.out; have hcz49_0 : w45.cell? ⟨gb285, 0, none⟩ = some (.int .i64 0) := (zak BK285.out 0).trans rfl; have hcz49_1 : w45.cell? ⟨gb285, 1, none⟩ = some (.int .i64 0) := (zak BK285.out 1).trans rfl; have hfz49_0 := zah BK285.out 0; have hfz49_1 := zah BK285.out 1))
              have n0_ : Aside0 (((w45.setCell ⟨gb285, 0, none⟩ (.int .i64 ((zaC y280 x40_2).f0))).setCell ⟨gb285, 1, none⟩ (.int .i64 ((zaC y280 x40_2).f1))).heap[gb269]? = some (.cells #[.slice (some ad284) l0_0.length c0_0, .int .i64 a0_1, .int .i64 a0_2] 26 (0, 0))) := ⟨by (repeat (first | (with_reducible first | apply zae | apply zai | apply zad) | refine zaA ?_ NB269_285.out _)); exact BK269.out⟩
              have n1_ : Aside0 (((w45.setCell ⟨gb285, 0, none⟩ (.int .i64 ((zaC y280 x40_2).f0))).setCell ⟨gb285, 1, none⟩ (.int .i64 ((zaC y280 x40_2).f1))).heap[gb270]? = some (.cells #[.int .i64 x271000_2, .int .i64 x271001_2] 24 (0, 0))) := ⟨by (repeat (first | (with_reducible first | apply zae | apply zai | apply zad) | refine zaA ?_ NB270_285.out _)); exact BK270.out⟩
              have n2_ : Aside0 (((w45.setCell ⟨gb285, 0, none⟩ (.int .i64 ((zaC y280 x40_2).f0))).setCell ⟨gb285, 1, none⟩ (.int .i64 ((zaC y280 x40_2).f1))).heap[gb279]? = some (.cells #[.int .i64 x280000_2, .int .i64 x280001_2] 24 (0, 0))) := ⟨by (repeat (first | (with_reducible first | apply zae | apply zai | apply zad) | refine zaA ?_ NB279_285.out _)); exact BK279.out⟩
              have n3_ : Aside0 (((w45.setCell ⟨gb285, 0, none⟩ (.int .i64 ((zaC y280 x40_2).f0))).setCell ⟨gb285, 1, none⟩ (.int .i64 ((zaC y280 x40_2).f1))).heap[gb285]? = some (.cells #[.int .i64 ((zaC y280 x40_2).f0), .int .i64 ((zaC y280 x40_2).f1)] 24 (0, 0))) := ⟨by (with_reducible repeat (first | apply zae | apply zai | apply zad)); refine zay (cs := #[.int .i64 ((zaC y280 x40_2).f0), .int .i64 0]) ?_ 1 _ rfl; (with_reducible repeat (first | apply zae | apply zai | apply zad)); refine zay (cs := #[.int .i64 0, .int .i64 0]) ?_ 0 _ rfl; (with_reducible repeat (first | apply zae | apply zai | apply zad)); exact BK285.out⟩
              have n4_ : Aside0 (Below w.heap.size w ((w45.setCell ⟨gb285, 0, none⟩ (.int .i64 ((zaC y280 x40_2).f0))).setCell ⟨gb285, 1, none⟩ (.int .i64 ((zaC y280 x40_2).f1)))) := ⟨by repeat (first | (with_reducible first | exact HB.out | apply zac | apply zaa | apply zaf | refine zab ?_ GE269.out | refine zab ?_ GE270.out | refine zab ?_ GE279.out | refine zab ?_ GE285.out) | exact HB.out)⟩
              (try clear BK269)
              (try clear BK270)
              (try clear BK279)
              (try clear BK285)
              (try clear HB)
              generalize ((w45.setCell ⟨gb285, 0, none⟩ (.int .i64 ((zaC y280 x40_2).f0))).setCell ⟨gb285, 1, none⟩ (.int .i64 ((zaC y280 x40_2).f1))) = w50 at n0_ n1_ n2_ n3_ n4_ ⊢
              have BK269 := n0_
              have BK270 := n1_
              have BK279 := n2_
              have BK285 := n3_
              have HB := n4_
              clear n0_ n1_ n2_ n3_ n4_
              have n0_ := Aside0.mk (zai BK269.out)
              have n1_ := Aside0.mk (zai BK270.out)
              have n2_ := Aside0.mk (zai BK279.out)
              have n3_ := Aside0.mk (zai BK285.out)
              have n4_ := Aside0.mk (zaf HB.out)
              clear BK269 BK270 BK279 BK285 HB
              have BK269 := n0_
              have BK270 := n1_
              have BK279 := n2_
              have BK285 := n3_
              have HB := n4_
              clear n0_ n1_ n2_ n3_ n4_
              have p286 : 0 ≤ (x40_2 : Int) := of_decide_eq_true (by first | (with_reducible assumption) | assumption)
              have q286 : x40_2 < (y271.length : Int) := of_decide_eq_true (by first | (with_reducible assumption) | assumption)
              obtain ⟨ad286, e286, hx286_0, hx286_1⟩ := zcw HR274.out x40_2 p286 q286
              have hw286_1 := hx286_1
              have hw286_0 := hx286_0
              cases e286
              replace hx286_0 := (HB.out.cell (World.block_lt_of_cell? w _ hx286_0)).trans hx286_0
              replace hx286_1 := (HB.out.cell (World.block_lt_of_cell? w _ hx286_1)).trans hx286_1
              replace p286 := eq_true p286
              replace q286 := eq_true q286
              refine zcP (n := 12) (S := fun w' => w'.cell? ⟨gb285, 0, none⟩ = some (.int .i64 ((zaC y280 x40_2).f0)) ∧ w'.cell? ⟨gb285, 1, none⟩ = some (.int .i64 ((zaC y280 x40_2).f1)) ∧ w'.cell? (ad286.add ((x40_2).toNat * 2)) = some (.int .i64 ((zaC y271 x40_2).f0)) ∧ w'.cell? ⟨(ad286.add ((x40_2).toNat * 2)).block, (ad286.add ((x40_2).toNat * 2)).off + 1, none⟩ = some (.int .i64 ((zaC y271 x40_2).f1))) (ds := []) #[false, false, false, false, false, false, false, false, false, false, false, false] (by kernel_rfl) rfl rfl ⟨(zak BK285.out 0).trans rfl, (zak BK285.out 1).trans rfl, ((HB.out.cell (World.block_lt_of_cell? w _ hw286_0)).trans hw286_0), ((HB.out.cell (World.block_lt_of_cell? w _ hw286_1)).trans hw286_1)⟩ (fun hHeld => ?_); refine zb8 zaM.tab8 zaM.bits8 (fun HT_ HW_ => ?_)
              generalize w50.drew = w51 at BK269 BK270 BK279 BK285 HB hx286_0 hx286_1 hHeld ⊢
              refine zbB (i := 1) (N := some 47) (v := ?_) (a' := ?_) #[false, true, false, false, false, false, false, false, false, false, false, false] rfl rfl (zbm HT_.out (by kernel_rfl)) (fun _ _ _ h => h) (Or.inl ⟨by rfl, ?_⟩) ?_ ?_
              rotate_left
              ·intro w'
               go_simp
               with_reducible rfl
              rotate_left
              ·simp only [Act.put, List.setIfInBounds_toArray, List.set_cons_zero, List.set_cons_succ, zaL, zaN]
               rfl
              refine zbB (i := 2) (N := some 48) (v := ?_) (a' := ?_) #[false, true, true, false, false, false, false, false, false, false, false, false] rfl rfl (zbm HT_.out (by kernel_rfl)) (fun _ _ _ h => h) (Or.inl ⟨by rfl, ?_⟩) ?_ ?_
              rotate_left
              ·intro w'
               go_simp
               with_reducible rfl
              rotate_left
              ·simp only [Act.put, List.setIfInBounds_toArray, List.set_cons_zero, List.set_cons_succ, zaL, zaN]
               rfl
              refine zbB (i := 3) (N := some 49) (v := ?_) (a' := ?_) #[false, true, true, true, false, false, false, false, false, false, false, false] rfl rfl (zbm HT_.out (by kernel_rfl)) (fun _ _ _ h => h) (Or.inl ⟨by rfl, ?_⟩) ?_ ?_
              rotate_left
              ·intro w'
               go_simp
               with_reducible rfl
              rotate_left
              ·simp only [Act.put, List.setIfInBounds_toArray, List.set_cons_zero, List.set_cons_succ, zaL, zaN]
               rfl
              refine zb4 (i := 0) (N := some 46) (v := ?_) (a' := ?_) #[true, true, true, true, false, false, false, false, false, false, false, false] rfl rfl (zbv HT_.out HW_.out (by kernel_rfl)) (fun _ _ _ h => h) (Or.inl ⟨by rfl, ?_⟩) hHeld ?_ ?_
              rotate_left
              ·rintro w' ⟨s0, s1, s2, s3⟩
               go_simp
               with_reducible rfl
              rotate_left
              ·simp only [Act.put, List.setIfInBounds_toArray, List.set_cons_zero, List.set_cons_succ, zaL, zaN]
               rfl
              refine zb4 (i := 4) (N := some 50) (v := ?_) (a' := ?_) #[true, true, true, true, true, false, false, false, false, false, false, false] rfl rfl (zbv HT_.out HW_.out (by kernel_rfl)) (fun _ _ _ h => h) (Or.inl ⟨by rfl, ?_⟩) hHeld ?_ ?_
              rotate_left
              ·rintro w' ⟨s0, s1, s2, s3⟩
               go_simp
               with_reducible rfl
              rotate_left
              ·simp only [Act.put, List.setIfInBounds_toArray, List.set_cons_zero, List.set_cons_succ, zaL, zaN]
               rfl
              refine zc0 (σ := Nat) 2 #[true, true, true, true, true, true, true, true, true, true, false, false] (fun s_ => [(51, .tuple #[.agg #[.int .i64 t287, .int .i64 t288], .int .i64 t289]), (10, .pointer (some ⟨s_, 0, none⟩)), (45, .tuple #[.agg #[.int .i64 t287, .int .i64 t288], .int .i64 t289]), (52, .agg #[.int .i64 t287, .int .i64 t288]), (53, .int .i64 t289)]) (fun s_ w' => (w'.cell? ⟨gb285, 0, none⟩ = some (.int .i64 ((zaC y280 x40_2).f0)) ∧ w'.cell? ⟨gb285, 1, none⟩ = some (.int .i64 ((zaC y280 x40_2).f1)) ∧ w'.cell? (ad286.add ((x40_2).toNat * 2)) = some (.int .i64 ((zaC y271 x40_2).f0)) ∧ w'.cell? ⟨(ad286.add ((x40_2).toNat * 2)).block, (ad286.add ((x40_2).toNat * 2)).off + 1, none⟩ = some (.int .i64 ((zaC y271 x40_2).f1))) ∧ (w'.heap[gb269]? = some (.cells #[.slice (some ad284) l0_0.length c0_0, .int .i64 a0_1, .int .i64 a0_2] 26 (0, 0))) ∧ (w'.heap[gb270]? = some (.cells #[.int .i64 x271000_2, .int .i64 x271001_2] 24 (0, 0))) ∧ (w'.heap[gb279]? = some (.cells #[.int .i64 x280000_2, .int .i64 x280001_2] 24 (0, 0))) ∧ (w'.heap[gb285]? = some (.cells #[.int .i64 ((zaC y280 x40_2).f0), .int .i64 ((zaC y280 x40_2).f1)] 24 (0, 0))) ∧ (w'.heap[s_]? = some (.cells #[.int .i64 0, .int .i64 0] 24 (0, 0))) ∧ (w.heap.size ≤ s_) ∧ (w.heap.size ≤ s_) ∧ (gb269 ≠ s_) ∧ (s_ ≠ gb269) ∧ (gb270 ≠ s_) ∧ (s_ ≠ gb270) ∧ (gb279 ≠ s_) ∧ (s_ ≠ gb279) ∧ (gb285 ≠ s_) ∧ (s_ ≠ gb285) ∧ (Below w.heap.size w w')) ?_ ?_
              rotate_left
              ·intro hCont
               refine two_ (i := 5) (j := 9) (Ni := some 51) (Nj := some 10) #[true, true, true, true, true, true, false, false, false, false, false, false] #[true, true, true, true, true, false, false, false, false, true, false, false] rfl rfl rfl rfl (zdj HT_.out (by kernel_rfl)) (by decide) (by decide) (fun K hK => ?_) (fun K hK => ?_)
               ·skip
                refine zce Tryd.func45 (by kernel_rfl) rfl #[.agg #[.int .i64 ((zaC y280 x40_2).f0), .int .i64 ((zaC y280 x40_2).f1)], .agg #[.int .i64 ((zaC y271 x40_2).f0), .int .i64 ((zaC y271 x40_2).f1)]] (by rfl) rfl rfl (by (try simp only [List.map_toArray, List.map_cons, List.map_nil]); first | done | rfl | (simp only [List.length_drop, List.length_take]; rfl)) ?_
                with_reducible refine (zba.calls ((zaC y280 x40_2).f0) ((zaC y280 x40_2).f1) ((zaC y271 x40_2).f0) ((zaC y271 x40_2).f1) t287 t288 t289 _ A41.out).mono ?_
                rintro e w52 ⟨rfl, hb⟩
                refine ⟨_, rfl, ?_⟩
                have n0_ := Aside0.mk (zaj (g := gb269) (o := .cells #[.slice (some ad284) l0_0.length c0_0, .int .i64 a0_1, .int .i64 a0_2] 26 (0, 0)) (by (with_reducible repeat (first | apply zae | apply zai | apply zad)); exact BK269.out) hb)
                have n1_ := Aside0.mk (zaj (g := gb270) (o := .cells #[.int .i64 x271000_2, .int .i64 x271001_2] 24 (0, 0)) (by (with_reducible repeat (first | apply zae | apply zai | apply zad)); exact BK270.out) hb)
                have n2_ := Aside0.mk (zaj (g := gb279) (o := .cells #[.int .i64 x280000_2, .int .i64 x280001_2] 24 (0, 0)) (by (with_reducible repeat (first | apply zae | apply zai | apply zad)); exact BK279.out) hb)
                have n3_ := Aside0.mk (zaj (g := gb285) (o := .cells #[.int .i64 ((zaC y280 x40_2).f0), .int .i64 ((zaC y280 x40_2).f1)] 24 (0, 0)) (by (with_reducible repeat (first | apply zae | apply zai | apply zad)); exact BK285.out) hb)
                have n4_ := Aside0.mk (zam (by repeat (first | (with_reducible first | exact HB.out | apply zac | apply zaa | apply zaf | refine zab ?_ GE269.out | refine zab ?_ GE270.out | refine zab ?_ GE279.out | refine zab ?_ GE285.out) | exact HB.out)) hb)
                clear BK269 BK270 BK279 BK285 HB
                have BK269 := n0_
                have BK270 := n1_
                have BK279 := n2_
                have BK285 := n3_
                have HB := n4_
                clear n0_ n1_ n2_ n3_ n4_
                (try clear hb)
                (try clear hb2)
                (try clear hk)
                (try clear hi)
                refine hK.out _ _ ⟨(zak BK285.out 0).trans rfl, (zak BK285.out 1).trans rfl, ((HB.out.cell (World.block_lt_of_cell? w _ hw286_0)).trans hw286_0), ((HB.out.cell (World.block_lt_of_cell? w _ hw286_1)).trans hw286_1)⟩ (fun hHeld => ?_)
                clear hK K
                refine zbE (a' := ?_) ?_ ?_
                rotate_left
                ·show Act.put _ (some 51) _ = _
                 simp only [Act.put, List.setIfInBounds_toArray, List.set_cons_zero, List.set_cons_succ, zaL, zaN]
                 rfl
                refine zbB (i := 6) (N := some 45) (v := ?_) (a' := ?_) #[true, true, true, true, true, true, true, false, false, false, false, false] rfl rfl (zbm HT_.out (by kernel_rfl)) (fun _ _ _ h => h) (Or.inl ⟨by rfl, ?_⟩) ?_ ?_
                rotate_left
                ·intro w'
                 go_simp
                 with_reducible rfl
                rotate_left
                ·simp only [Act.put, List.setIfInBounds_toArray, List.set_cons_zero, List.set_cons_succ, zaL, zaN]
                 rfl
                refine zbB (i := 7) (N := some 52) (v := ?_) (a' := ?_) #[true, true, true, true, true, true, true, true, false, false, false, false] rfl rfl (zbm HT_.out (by kernel_rfl)) (fun _ _ _ h => h) (Or.inl ⟨by rfl, ?_⟩) ?_ ?_
                rotate_left
                ·intro w'
                 go_simp
                 with_reducible rfl
                rotate_left
                ·simp only [Act.put, List.setIfInBounds_toArray, List.set_cons_zero, List.set_cons_succ, zaL, zaN]
                 rfl
                refine zbB (i := 8) (N := some 53) (v := ?_) (a' := ?_) #[true, true, true, true, true, true, true, true, true, false, false, false] rfl rfl (zbm HT_.out (by kernel_rfl)) (fun _ _ _ h => h) (Or.inl ⟨by rfl, ?_⟩) ?_ ?_
                rotate_left
                ·intro w'
                 go_simp
                 with_reducible rfl
                rotate_left
                ·simp only [Act.put, List.setIfInBounds_toArray, List.set_cons_zero, List.set_cons_succ, zaL, zaN]
                 rfl
                refine one_ (i := 9) (N := some 10) #[true, true, true, true, true, true, true, true, true, true, false, false] rfl rfl (zbK HT_.out (by kernel_rfl)) (by decide) (fun K hK => ?_)
                refine zdh ?hg (N := 10) ?hd (cs := #[.int .i64 0, .int .i64 0]) (t := 24) ?hr ?_; (case hd => rfl); (case hg => rfl); (case hr => first | (go_simp; done) | (go_simp; rfl))
                intro gb290 hg w53 hbox hb
                have n0_ := Aside0.mk (zaj (g := gb269) (o := .cells #[.slice (some ad284) l0_0.length c0_0, .int .i64 a0_1, .int .i64 a0_2] 26 (0, 0)) (by (with_reducible repeat (first | apply zae | apply zai | apply zad)); exact BK269.out) hb)
                have n1_ := Aside0.mk (zaj (g := gb270) (o := .cells #[.int .i64 x271000_2, .int .i64 x271001_2] 24 (0, 0)) (by (with_reducible repeat (first | apply zae | apply zai | apply zad)); exact BK270.out) hb)
                have n2_ := Aside0.mk (zaj (g := gb279) (o := .cells #[.int .i64 x280000_2, .int .i64 x280001_2] 24 (0, 0)) (by (with_reducible repeat (first | apply zae | apply zai | apply zad)); exact BK279.out) hb)
                have n3_ := Aside0.mk (zaj (g := gb285) (o := .cells #[.int .i64 ((zaC y280 x40_2).f0), .int .i64 ((zaC y280 x40_2).f1)] 24 (0, 0)) (by (with_reducible repeat (first | apply zae | apply zai | apply zad)); exact BK285.out) hb)
                have n4_ := Aside0.mk (zam (by repeat (first | (with_reducible first | exact HB.out | apply zac | apply zaa | apply zaf | refine zab ?_ GE269.out | refine zab ?_ GE270.out | refine zab ?_ GE279.out | refine zab ?_ GE285.out) | exact HB.out)) hb)
                have n5_ := Aside0.mk (hbox)
                have n6_ := Aside0.mk ((by rw [hg]; exact (zao (by repeat (first | (with_reducible first | exact HB.out | apply zac | apply zaa | apply zaf | refine zab ?_ GE269.out | refine zab ?_ GE270.out | refine zab ?_ GE279.out | refine zab ?_ GE285.out) | exact HB.out))) : w.heap.size ≤ gb290))
                have n7_ := n6_
                have n8_ := Aside0.mk ((by rw [hg]; exact Nat.ne_of_lt (za3 (g := gb269) (o := .cells #[.slice (some ad284) l0_0.length c0_0, .int .i64 a0_1, .int .i64 a0_2] 26 (0, 0)) (by (with_reducible repeat (first | apply zae | apply zai | apply zad)); exact BK269.out)) : gb269 ≠ gb290))
                have n9_ := Aside0.mk n8_.out.symm
                have n10_ := Aside0.mk ((by rw [hg]; exact Nat.ne_of_lt (za3 (g := gb270) (o := .cells #[.int .i64 x271000_2, .int .i64 x271001_2] 24 (0, 0)) (by (with_reducible repeat (first | apply zae | apply zai | apply zad)); exact BK270.out)) : gb270 ≠ gb290))
                have n11_ := Aside0.mk n10_.out.symm
                have n12_ := Aside0.mk ((by rw [hg]; exact Nat.ne_of_lt (za3 (g := gb279) (o := .cells #[.int .i64 x280000_2, .int .i64 x280001_2] 24 (0, 0)) (by (with_reducible repeat (first | apply zae | apply zai | apply zad)); exact BK279.out)) : gb279 ≠ gb290))
                have n13_ := Aside0.mk n12_.out.symm
                have n14_ := Aside0.mk ((by rw [hg]; exact Nat.ne_of_lt (za3 (g := gb285) (o := .cells #[.int .i64 ((zaC y280 x40_2).f0), .int .i64 ((zaC y280 x40_2).f1)] 24 (0, 0)) (by (with_reducible repeat (first | apply zae | apply zai | apply zad)); exact BK285.out)) : gb285 ≠ gb290))
                have n15_ := Aside0.mk n14_.out.symm
                clear BK269 BK270 BK279 BK285 HB
                have BK269 := n0_
                have BK270 := n1_
                have BK279 := n2_
                have BK285 := n3_
                have HB := n4_
                have BK290 := n5_
                have GW290 := n6_
                have GE290 := n7_
                have NB269_290 := n8_
                have NB290_269 := n9_
                have NB270_290 := n10_
                have NB290_270 := n11_
                have NB279_290 := n12_
                have NB290_279 := n13_
                have NB285_290 := n14_
                have NB290_285 := n15_
                clear n0_ n1_ n2_ n3_ n4_ n5_ n6_ n7_ n8_ n9_ n10_ n11_ n12_ n13_ n14_ n15_ hb hbox hg
                refine hK.out _ _ ⟨(zak BK285.out 0).trans rfl, (zak BK285.out 1).trans rfl, ((HB.out.cell (World.block_lt_of_cell? w _ hw286_0)).trans hw286_0), ((HB.out.cell (World.block_lt_of_cell? w _ hw286_1)).trans hw286_1)⟩ (fun hHeld => ?_)
                clear hK K
                refine zbE (a' := ?_) ?_ ?_
                rotate_left
                ·show Act.put _ (some 10) _ = _
                 simp only [Act.put, List.setIfInBounds_toArray, List.set_cons_zero, List.set_cons_succ, zaL, zaN]
                 rfl
                exact zbE (by simp only [zbb, Act.put, List.setIfInBounds_toArray, List.set_cons_zero, List.set_cons_succ]) (hCont (gb290) _ ⟨hHeld, (by (with_reducible repeat (first | apply zae | apply zai | apply zad)); exact BK269.out), (by (with_reducible repeat (first | apply zae | apply zai | apply zad)); exact BK270.out), (by (with_reducible repeat (first | apply zae | apply zai | apply zad)); exact BK279.out), (by (with_reducible repeat (first | apply zae | apply zai | apply zad)); exact BK285.out), (by (with_reducible repeat (first | apply zae | apply zai | apply zad)); exact BK290.out), GW290.out, GE290.out, NB269_290.out, NB290_269.out, NB270_290.out, NB290_270.out, NB279_290.out, NB290_279.out, NB285_290.out, NB290_285.out, (by repeat (first | (with_reducible first | exact HB.out | apply zac | apply zaa | apply zaf | refine zab ?_ GE269.out | refine zab ?_ GE270.out | refine zab ?_ GE279.out | refine zab ?_ GE285.out | refine zab ?_ GE290.out) | exact HB.out))⟩)
               ·skip
                refine zdh ?hg (N := 10) ?hd (cs := #[.int .i64 0, .int .i64 0]) (t := 24) ?hr ?_; (case hd => rfl); (case hg => rfl); (case hr => first | (go_simp; done) | (go_simp; rfl))
                intro gb290 hg w52 hbox hb
                have n0_ := Aside0.mk (zaj (g := gb269) (o := .cells #[.slice (some ad284) l0_0.length c0_0, .int .i64 a0_1, .int .i64 a0_2] 26 (0, 0)) (by (with_reducible repeat (first | apply zae | apply zai | apply zad)); exact BK269.out) hb)
                have n1_ := Aside0.mk (zaj (g := gb270) (o := .cells #[.int .i64 x271000_2, .int .i64 x271001_2] 24 (0, 0)) (by (with_reducible repeat (first | apply zae | apply zai | apply zad)); exact BK270.out) hb)
                have n2_ := Aside0.mk (zaj (g := gb279) (o := .cells #[.int .i64 x280000_2, .int .i64 x280001_2] 24 (0, 0)) (by (with_reducible repeat (first | apply zae | apply zai | apply zad)); exact BK279.out) hb)
                have n3_ := Aside0.mk (zaj (g := gb285) (o := .cells #[.int .i64 ((zaC y280 x40_2).f0), .int .i64 ((zaC y280 x40_2).f1)] 24 (0, 0)) (by (with_reducible repeat (first | apply zae | apply zai | apply zad)); exact BK285.out) hb)
                have n4_ := Aside0.mk (zam (by repeat (first | (with_reducible first | exact HB.out | apply zac | apply zaa | apply zaf | refine zab ?_ GE269.out | refine zab ?_ GE270.out | refine zab ?_ GE279.out | refine zab ?_ GE285.out) | exact HB.out)) hb)
                have n5_ := Aside0.mk (hbox)
                have n6_ := Aside0.mk ((by rw [hg]; exact (zao (by repeat (first | (with_reducible first | exact HB.out | apply zac | apply zaa | apply zaf | refine zab ?_ GE269.out | refine zab ?_ GE270.out | refine zab ?_ GE279.out | refine zab ?_ GE285.out) | exact HB.out))) : w.heap.size ≤ gb290))
                have n7_ := n6_
                have n8_ := Aside0.mk ((by rw [hg]; exact Nat.ne_of_lt (za3 (g := gb269) (o := .cells #[.slice (some ad284) l0_0.length c0_0, .int .i64 a0_1, .int .i64 a0_2] 26 (0, 0)) (by (with_reducible repeat (first | apply zae | apply zai | apply zad)); exact BK269.out)) : gb269 ≠ gb290))
                have n9_ := Aside0.mk n8_.out.symm
                have n10_ := Aside0.mk ((by rw [hg]; exact Nat.ne_of_lt (za3 (g := gb270) (o := .cells #[.int .i64 x271000_2, .int .i64 x271001_2] 24 (0, 0)) (by (with_reducible repeat (first | apply zae | apply zai | apply zad)); exact BK270.out)) : gb270 ≠ gb290))
                have n11_ := Aside0.mk n10_.out.symm
                have n12_ := Aside0.mk ((by rw [hg]; exact Nat.ne_of_lt (za3 (g := gb279) (o := .cells #[.int .i64 x280000_2, .int .i64 x280001_2] 24 (0, 0)) (by (with_reducible repeat (first | apply zae | apply zai | apply zad)); exact BK279.out)) : gb279 ≠ gb290))
                have n13_ := Aside0.mk n12_.out.symm
                have n14_ := Aside0.mk ((by rw [hg]; exact Nat.ne_of_lt (za3 (g := gb285) (o := .cells #[.int .i64 ((zaC y280 x40_2).f0), .int .i64 ((zaC y280 x40_2).f1)] 24 (0, 0)) (by (with_reducible repeat (first | apply zae | apply zai | apply zad)); exact BK285.out)) : gb285 ≠ gb290))
                have n15_ := Aside0.mk n14_.out.symm
                clear BK269 BK270 BK279 BK285 HB
                have BK269 := n0_
                have BK270 := n1_
                have BK279 := n2_
                have BK285 := n3_
                have HB := n4_
                have BK290 := n5_
                have GW290 := n6_
                have GE290 := n7_
                have NB269_290 := n8_
                have NB290_269 := n9_
                have NB270_290 := n10_
                have NB290_270 := n11_
                have NB279_290 := n12_
                have NB290_279 := n13_
                have NB285_290 := n14_
                have NB290_285 := n15_
                clear n0_ n1_ n2_ n3_ n4_ n5_ n6_ n7_ n8_ n9_ n10_ n11_ n12_ n13_ n14_ n15_ hb hbox hg
                refine hK.out _ _ ⟨(zak BK285.out 0).trans rfl, (zak BK285.out 1).trans rfl, ((HB.out.cell (World.block_lt_of_cell? w _ hw286_0)).trans hw286_0), ((HB.out.cell (World.block_lt_of_cell? w _ hw286_1)).trans hw286_1)⟩ (fun hHeld => ?_)
                clear hK K
                refine zbE (a' := ?_) ?_ ?_
                rotate_left
                ·show Act.put _ (some 10) _ = _
                 simp only [Act.put, List.setIfInBounds_toArray, List.set_cons_zero, List.set_cons_succ, zaL, zaN]
                 rfl
                refine one_ (i := 5) (N := some 51) #[true, true, true, true, true, true, false, false, false, true, false, false] rfl rfl (zbK HT_.out (by kernel_rfl)) (by decide) (fun K hK => ?_)
                refine zce Tryd.func45 (by kernel_rfl) rfl #[.agg #[.int .i64 ((zaC y280 x40_2).f0), .int .i64 ((zaC y280 x40_2).f1)], .agg #[.int .i64 ((zaC y271 x40_2).f0), .int .i64 ((zaC y271 x40_2).f1)]] (by rfl) rfl rfl (by (try simp only [List.map_toArray, List.map_cons, List.map_nil]); first | done | rfl | (simp only [List.length_drop, List.length_take]; rfl)) ?_
                with_reducible refine (zba.calls ((zaC y280 x40_2).f0) ((zaC y280 x40_2).f1) ((zaC y271 x40_2).f0) ((zaC y271 x40_2).f1) t287 t288 t289 _ A41.out).mono ?_
                rintro e w53 ⟨rfl, hb⟩
                refine ⟨_, rfl, ?_⟩
                have n0_ := Aside0.mk (zaj (g := gb269) (o := .cells #[.slice (some ad284) l0_0.length c0_0, .int .i64 a0_1, .int .i64 a0_2] 26 (0, 0)) (by (with_reducible repeat (first | apply zae | apply zai | apply zad)); exact BK269.out) hb)
                have n1_ := Aside0.mk (zaj (g := gb270) (o := .cells #[.int .i64 x271000_2, .int .i64 x271001_2] 24 (0, 0)) (by (with_reducible repeat (first | apply zae | apply zai | apply zad)); exact BK270.out) hb)
                have n2_ := Aside0.mk (zaj (g := gb279) (o := .cells #[.int .i64 x280000_2, .int .i64 x280001_2] 24 (0, 0)) (by (with_reducible repeat (first | apply zae | apply zai | apply zad)); exact BK279.out) hb)
                have n3_ := Aside0.mk (zaj (g := gb285) (o := .cells #[.int .i64 ((zaC y280 x40_2).f0), .int .i64 ((zaC y280 x40_2).f1)] 24 (0, 0)) (by (with_reducible repeat (first | apply zae | apply zai | apply zad)); exact BK285.out) hb)
                have n4_ := Aside0.mk (zaj (g := gb290) (o := .cells #[.int .i64 0, .int .i64 0] 24 (0, 0)) (by (with_reducible repeat (first | apply zae | apply zai | apply zad)); exact BK290.out) hb)
                have n5_ := Aside0.mk (zam (by repeat (first | (with_reducible first | exact HB.out | apply zac | apply zaa | apply zaf | refine zab ?_ GE269.out | refine zab ?_ GE270.out | refine zab ?_ GE279.out | refine zab ?_ GE285.out | refine zab ?_ GE290.out) | exact HB.out)) hb)
                clear BK269 BK270 BK279 BK285 BK290 HB
                have BK269 := n0_
                have BK270 := n1_
                have BK279 := n2_
                have BK285 := n3_
                have BK290 := n4_
                have HB := n5_
                clear n0_ n1_ n2_ n3_ n4_ n5_
                (try clear hb)
                (try clear hb2)
                (try clear hk)
                (try clear hi)
                refine hK.out _ _ ⟨(zak BK285.out 0).trans rfl, (zak BK285.out 1).trans rfl, ((HB.out.cell (World.block_lt_of_cell? w _ hw286_0)).trans hw286_0), ((HB.out.cell (World.block_lt_of_cell? w _ hw286_1)).trans hw286_1)⟩ (fun hHeld => ?_)
                clear hK K
                refine zbE (a' := ?_) ?_ ?_
                rotate_left
                ·show Act.put _ (some 51) _ = _
                 simp only [Act.put, List.setIfInBounds_toArray, List.set_cons_zero, List.set_cons_succ, zaL, zaN]
                 rfl
                refine zbB (i := 6) (N := some 45) (v := ?_) (a' := ?_) #[true, true, true, true, true, true, true, false, false, true, false, false] rfl rfl (zbm HT_.out (by kernel_rfl)) (fun _ _ _ h => h) (Or.inl ⟨by rfl, ?_⟩) ?_ ?_
                rotate_left
                ·intro w'
                 go_simp
                 with_reducible rfl
                rotate_left
                ·simp only [Act.put, List.setIfInBounds_toArray, List.set_cons_zero, List.set_cons_succ, zaL, zaN]
                 rfl
                refine zbB (i := 7) (N := some 52) (v := ?_) (a' := ?_) #[true, true, true, true, true, true, true, true, false, true, false, false] rfl rfl (zbm HT_.out (by kernel_rfl)) (fun _ _ _ h => h) (Or.inl ⟨by rfl, ?_⟩) ?_ ?_
                rotate_left
                ·intro w'
                 go_simp
                 with_reducible rfl
                rotate_left
                ·simp only [Act.put, List.setIfInBounds_toArray, List.set_cons_zero, List.set_cons_succ, zaL, zaN]
                 rfl
                refine zbB (i := 8) (N := some 53) (v := ?_) (a' := ?_) #[true, true, true, true, true, true, true, true, true, true, false, false] rfl rfl (zbm HT_.out (by kernel_rfl)) (fun _ _ _ h => h) (Or.inl ⟨by rfl, ?_⟩) ?_ ?_
                rotate_left
                ·intro w'
                 go_simp
                 with_reducible rfl
                rotate_left
                ·simp only [Act.put, List.setIfInBounds_toArray, List.set_cons_zero, List.set_cons_succ, zaL, zaN]
                 rfl
                exact zbE (by simp only [zbb, Act.put, List.setIfInBounds_toArray, List.set_cons_zero, List.set_cons_succ]) (hCont (gb290) _ ⟨hHeld, (by (with_reducible repeat (first | apply zae | apply zai | apply zad)); exact BK269.out), (by (with_reducible repeat (first | apply zae | apply zai | apply zad)); exact BK270.out), (by (with_reducible repeat (first | apply zae | apply zai | apply zad)); exact BK279.out), (by (with_reducible repeat (first | apply zae | apply zai | apply zad)); exact BK285.out), (by (with_reducible repeat (first | apply zae | apply zai | apply zad)); exact BK290.out), GW290.out, GE290.out, NB269_290.out, NB290_269.out, NB270_290.out, NB290_270.out, NB279_290.out, NB290_279.out, NB285_290.out, NB290_285.out, (by repeat (first | (with_reducible first | exact HB.out | apply zac | apply zaa | apply zaf | refine zab ?_ GE269.out | refine zab ?_ GE270.out | refine zab ?_ GE279.out | refine zab ?_ GE285.out | refine zab ?_ GE290.out) | exact HB.out))⟩)
              rintro gb290 w54 ⟨hS_, h0_, h1_, h2_, h3_, h4_, h5_, h6_, h7_, h8_, h9_, h10_, h11_, h12_, h13_, h14_, h15_⟩
              have n0_ : Aside0 (w54.heap[gb269]? = some (.cells #[.slice (some ad284) l0_0.length c0_0, .int .i64 a0_1, .int .i64 a0_2] 26 (0, 0))) := ⟨h0_⟩
              have n1_ : Aside0 (w54.heap[gb270]? = some (.cells #[.int .i64 x271000_2, .int .i64 x271001_2] 24 (0, 0))) := ⟨h1_⟩
              have n2_ : Aside0 (w54.heap[gb279]? = some (.cells #[.int .i64 x280000_2, .int .i64 x280001_2] 24 (0, 0))) := ⟨h2_⟩
              have n3_ : Aside0 (w54.heap[gb285]? = some (.cells #[.int .i64 ((zaC y280 x40_2).f0), .int .i64 ((zaC y280 x40_2).f1)] 24 (0, 0))) := ⟨h3_⟩
              have n4_ : Aside0 (w54.heap[gb290]? = some (.cells #[.int .i64 0, .int .i64 0] 24 (0, 0))) := ⟨h4_⟩
              have n5_ : Aside0 (w.heap.size ≤ gb290) := ⟨h5_⟩
              have n6_ : Aside0 (w.heap.size ≤ gb290) := ⟨h6_⟩
              have n7_ : Aside0 (gb269 ≠ gb290) := ⟨h7_⟩
              have n8_ : Aside0 (gb290 ≠ gb269) := ⟨h8_⟩
              have n9_ : Aside0 (gb270 ≠ gb290) := ⟨h9_⟩
              have n10_ : Aside0 (gb290 ≠ gb270) := ⟨h10_⟩
              have n11_ : Aside0 (gb279 ≠ gb290) := ⟨h11_⟩
              have n12_ : Aside0 (gb290 ≠ gb279) := ⟨h12_⟩
              have n13_ : Aside0 (gb285 ≠ gb290) := ⟨h13_⟩
              have n14_ : Aside0 (gb290 ≠ gb285) := ⟨h14_⟩
              have n15_ : Aside0 (Below w.heap.size w w54) := ⟨h15_⟩
              clear BK269 BK270 BK279 BK285 HB h0_ h1_ h2_ h3_ h4_ h5_ h6_ h7_ h8_ h9_ h10_ h11_ h12_ h13_ h14_ h15_
              have BK269 := n0_
              have BK270 := n1_
              have BK279 := n2_
              have BK285 := n3_
              have BK290 := n4_
              have GW290 := n5_
              have GE290 := n6_
              have NB269_290 := n7_
              have NB290_269 := n8_
              have NB270_290 := n9_
              have NB290_270 := n10_
              have NB279_290 := n11_
              have NB290_279 := n12_
              have NB285_290 := n13_
              have NB290_285 := n14_
              have HB := n15_
              clear n0_ n1_ n2_ n3_ n4_ n5_ n6_ n7_ n8_ n9_ n10_ n11_ n12_ n13_ n14_ n15_
              have hHeld : w54.cell? ⟨gb285, 0, none⟩ = some (.int .i64 ((zaC y280 x40_2).f0)) ∧ w54.cell? ⟨gb285, 1, none⟩ = some (.int .i64 ((zaC y280 x40_2).f1)) ∧ w54.cell? (ad286.add ((x40_2).toNat * 2)) = some (.int .i64 ((zaC y271 x40_2).f0)) ∧ w54.cell? ⟨(ad286.add ((x40_2).toNat * 2)).block, (ad286.add ((x40_2).toNat * 2)).off + 1, none⟩ = some (.int .i64 ((zaC y271 x40_2).f1)) := hS_
              refine zbE (a' := ?_) ?_ ?_
              rotate_left
              ·simp only [zbb, Act.put, List.setIfInBounds_toArray, List.set_cons_zero, List.set_cons_succ]
               rfl
              refine one_ (i := 10) (N := none) #[true, true, true, true, true, true, true, true, true, true, true, false] rfl rfl (zbK HT_.out (by kernel_rfl)) (by decide) (fun K hK => ?_)
              have hs55 : w54.cell? ⟨gb290, 0, none⟩ = some (.int .i64 0) := (zak BK290.out 0).trans rfl
              have hfs55 := zah BK290.out 0
              have hns55_0 := NB269_290.out
              have hns55_1 := NB270_290.out
              have hns55_2 := NB279_290.out
              have hns55_3 := NB285_290.out
              have hms55_0 := NB290_269.out
              have hms55_1 := NB290_270.out
              have hms55_2 := NB290_279.out
              have hms55_3 := NB290_285.out
              have hs56 : w54.cell? ⟨gb290, 1, none⟩ = some (.int .i64 0) := (zak BK290.out 1).trans rfl
              have hfs56 := zah BK290.out 1
              have hns56_0 := NB269_290.out
              have hns56_1 := NB270_290.out
              have hns56_2 := NB279_290.out
              have hns56_3 := NB285_290.out
              have hms56_0 := NB290_269.out
              have hms56_1 := NB290_270.out
              have hms56_2 := NB290_279.out
              have hms56_3 := NB290_285.out
              refine zd1 (w1 := ?_) (by rfl) rfl ?_ ?_
              rotate_left
              ·go_simp
               rfl
              refine hK.out _ _ ⟨((cell_far (p := ⟨gb290, _, none⟩) NB285_290.out _).trans (((cell_far (p := ⟨gb290, _, none⟩) NB285_290.out _).trans (hHeld.1)))), ((cell_far (p := ⟨gb290, _, none⟩) NB285_290.out _).trans (((cell_far (p := ⟨gb290, _, none⟩) NB285_290.out _).trans (hHeld.2.1)))), ((cell_far (p := ⟨gb290, _, none⟩) (by first | exact Nat.ne_of_lt (Nat.lt_of_lt_of_le (by have := World.block_lt_of_cell? _ _ hw286_0; first | rwa [add_block] at this | exact this) GW290.out) | (rw [add_block]; exact Nat.ne_of_lt (Nat.lt_of_lt_of_le (by have := World.block_lt_of_cell? _ _ hw286_0; first | rwa [add_block] at this | exact this) GW290.out)) | (show (Addr.add _ _).block ≠ _; rw [add_block]; exact Nat.ne_of_lt (Nat.lt_of_lt_of_le (by have := World.block_lt_of_cell? _ _ hw286_0; first | rwa [add_block] at this | exact this) GW290.out)) | (dsimp only; exact Nat.ne_of_lt (Nat.lt_of_lt_of_le (by have := World.block_lt_of_cell? _ _ hw286_0; first | rwa [add_block] at this | exact this) GW290.out))) _).trans (((cell_far (p := ⟨gb290, _, none⟩) (by first | exact Nat.ne_of_lt (Nat.lt_of_lt_of_le (by have := World.block_lt_of_cell? _ _ hw286_0; first | rwa [add_block] at this | exact this) GW290.out) | (rw [add_block]; exact Nat.ne_of_lt (Nat.lt_of_lt_of_le (by have := World.block_lt_of_cell? _ _ hw286_0; first | rwa [add_block] at this | exact this) GW290.out)) | (show (Addr.add _ _).block ≠ _; rw [add_block]; exact Nat.ne_of_lt (Nat.lt_of_lt_of_le (by have := World.block_lt_of_cell? _ _ hw286_0; first | rwa [add_block] at this | exact this) GW290.out)) | (dsimp only; exact Nat.ne_of_lt (Nat.lt_of_lt_of_le (by have := World.block_lt_of_cell? _ _ hw286_0; first | rwa [add_block] at this | exact this) GW290.out))) _).trans (hHeld.2.2.1)))), ((cell_far (p := ⟨gb290, _, none⟩) (by first | exact Nat.ne_of_lt (Nat.lt_of_lt_of_le (by have := World.block_lt_of_cell? _ _ hw286_1; first | rwa [add_block] at this | exact this) GW290.out) | (rw [add_block]; exact Nat.ne_of_lt (Nat.lt_of_lt_of_le (by have := World.block_lt_of_cell? _ _ hw286_1; first | rwa [add_block] at this | exact this) GW290.out)) | (show (Addr.add _ _).block ≠ _; rw [add_block]; exact Nat.ne_of_lt (Nat.lt_of_lt_of_le (by have := World.block_lt_of_cell? _ _ hw286_1; first | rwa [add_block] at this | exact this) GW290.out)) | (dsimp only; exact Nat.ne_of_lt (Nat.lt_of_lt_of_le (by have := World.block_lt_of_cell? _ _ hw286_1; first | rwa [add_block] at this | exact this) GW290.out))) _).trans (((cell_far (p := ⟨gb290, _, none⟩) (by first | exact Nat.ne_of_lt (Nat.lt_of_lt_of_le (by have := World.block_lt_of_cell? _ _ hw286_1; first | rwa [add_block] at this | exact this) GW290.out) | (rw [add_block]; exact Nat.ne_of_lt (Nat.lt_of_lt_of_le (by have := World.block_lt_of_cell? _ _ hw286_1; first | rwa [add_block] at this | exact this) GW290.out)) | (show (Addr.add _ _).block ≠ _; rw [add_block]; exact Nat.ne_of_lt (Nat.lt_of_lt_of_le (by have := World.block_lt_of_cell? _ _ hw286_1; first | rwa [add_block] at this | exact this) GW290.out)) | (dsimp only; exact Nat.ne_of_lt (Nat.lt_of_lt_of_le (by have := World.block_lt_of_cell? _ _ hw286_1; first | rwa [add_block] at this | exact this) GW290.out))) _).trans (hHeld.2.2.2))))⟩ (fun hHeld => ?_)
              clear hK K
              refine zbB (i := 11) (N := some 11) (v := ?_) (a' := ?_) #[true, true, true, true, true, true, true, true, true, true, true, true] rfl rfl (zbm HT_.out (by kernel_rfl)) (fun _ _ _ h => h) (Or.inl ⟨by rfl, ?_⟩) ?_ ?_
              rotate_left
              ·intro w'
               go_simp
               with_reducible rfl
              rotate_left
              ·simp only [Act.put, List.setIfInBounds_toArray, List.set_cons_zero, List.set_cons_succ, zaL, zaN]
               rfl
              refine zdK (zcu HT_.out (by kernel_rfl)) ?_
              have H := HX.out
              clear HX
              by_cases c42 : t289 = 0
              ·rw [if_pos c42] at H
               have c42b0 : (t289 == 0) = true := beq_iff_eq.mpr c42
               have c42b1 : (t289 != 0) = false := bne_eq_false_iff_eq.mpr c42
               clear c42
               replace H := Option.bind_eq_some_iff.mp H
               obtain ⟨⟨t291, t292, t293⟩, A430, H⟩ := H
               replace H : (if t293 = 0 then (zaM.l0 k2 y271 y280 (y280.length : Int) (wrap64 (x40_2 + 1)) t291 t292) else (some (0, 0, t293))) = some (r1, r2, r3) := H
               have A43 := Aside0.mk A430
               clear A430
               have hnb57 := NB279_269.out
               have hnc57 := NB269_279.out
               have hnb58 := NB279_270.out
               have hnc58 := NB270_279.out
               have hnb59 := NB279_290.out
               have hnc59 := NB290_279.out
               have hcz60_0 : w54.cell? ⟨gb279, 0, none⟩ = some (.int .i64 x280000_2) := (zak BK279.out 0).trans rfl
               have hcz60_1 : w54.cell? ⟨gb279, 1, none⟩ = some (.int .i64 x280001_2) := (zak BK279.out 1).trans rfl
               have hfz60_0 := zah BK279.out 0
               have hfz60_1 := zah BK279.out 1
               have hnb61 := NB290_269.out
               have hnc61 := NB269_290.out
               have hnb62 := NB290_270.out
               have hnc62 := NB270_290.out
               have hnb63 := NB290_285.out
               have hnc63 := NB285_290.out
               have hcz64_0 : w54.cell? ⟨gb290, 0, none⟩ = some (.int .i64 0) := (zak BK290.out 0).trans rfl
               have hcz64_1 : w54.cell? ⟨gb290, 1, none⟩ = some (.int .i64 0) := (zak BK290.out 1).trans rfl
               have hfz64_0 := zah BK290.out 0
               have hfz64_1 := zah BK290.out 1
               by_cases c44 : t293 = 0
               ·rw [if_pos c44] at H
                have c44b0 : (t293 == 0) = true := beq_iff_eq.mpr c44
                have c44b1 : (t293 != 0) = false := bne_eq_false_iff_eq.mpr c44
                clear c44
                have H' := Aside0.mk H
                clear H
                try go_wp2_with (first | ((with_reducible refine zat (f := 42) rfl ?_); refine za9 (some 61) rfl rfl Tryd.func42 (by kernel_rfl) rfl #[.agg #[.int .i64 x280000_2, .int .i64 x280001_2], .agg #[.int .i64 t287, .int .i64 t288]] rfl (by (try simp only [List.map_toArray, List.map_cons, List.map_nil]); first | done | rfl | (simp only [List.length_drop, List.length_take]; rfl)) ?_; (with_reducible refine (zbD.calls x280000_2 x280001_2 t287 t288 t291 t292 t293 _ A43.out).mono ?_); rintro e w65 ⟨rfl, hb⟩; refine ⟨_, rfl, ?_⟩; have n0_ := Aside0.mk (zaj (g := gb269) (o := .cells #[.slice (some ad284) l0_0.length c0_0, .int .i64 a0_1, .int .i64 a0_2] 26 (0, 0)) (by (repeat (first | (with_reducible first | apply zae | apply zai | apply zad) | refine zaA ?_ NB269_290.out _)); exact BK269.out) hb); have n1_ := Aside0.mk (zaj (g := gb270) (o := .cells #[.int .i64 x271000_2, .int .i64 x271001_2] 24 (0, 0)) (by (repeat (first | (with_reducible first | apply zae | apply zai | apply zad) | refine zaA ?_ NB270_290.out _)); exact BK270.out) hb); have n2_ := Aside0.mk (zaj (g := gb279) (o := .cells #[.int .i64 x280000_2, .int .i64 x280001_2] 24 (0, 0)) (by (repeat (first | (with_reducible first | apply zae | apply zai | apply zad) | refine zaA ?_ NB279_290.out _)); exact BK279.out) hb); have n3_ := Aside0.mk (zaj (g := gb285) (o := .cells #[.int .i64 ((zaC y280 x40_2).f0), .int .i64 ((zaC y280 x40_2).f1)] 24 (0, 0)) (by (repeat (first | (with_reducible first | apply zae | apply zai | apply zad) | refine zaA ?_ NB285_290.out _)); exact BK285.out) hb); have n4_ := Aside0.mk (zaj (g := gb290) (o := .cells #[.int .i64 t287, .int .i64 t288] 24 (0, 0)) (by (with_reducible repeat (first | apply zae | apply zai | apply zad)); refine zay (cs := #[.int .i64 t287, .int .i64 0]) ?_ 1 _ rfl; (with_reducible repeat (first | apply zae | apply zai | apply zad)); refine zay (cs := #[.int .i64 0, .int .i64 0]) ?_ 0 _ rfl; (with_reducible repeat (first | apply zae | apply zai | apply zad)); exact BK290.out) hb); have n5_ := Aside0.mk (zam (by repeat (first | (with_reducible first | exact HB.out | apply zac | apply zaa | apply zaf | refine zab ?_ GE269.out | refine zab ?_ GE270.out | refine zab ?_ GE279.out | refine zab ?_ GE285.out | refine zab ?_ GE290.out) | exact HB.out)) hb); clear BK269; clear BK270; clear BK279; clear BK285; clear BK290; clear HB; have BK269 := n0_; have BK270 := n1_; have BK279 := n2_; have BK285 := n3_; have BK290 := n4_; have HB := n5_; clear n0_ n1_ n2_ n3_ n4_ n5_; (try clear hb); (try clear hb2); (try clear hk); (try clear hi); have hcz66_0 : w65.cell? ⟨gb279, 0, none⟩ = some (.int .i64 x280000_2) := (zak BK279.out 0).trans rfl; have hcz66_1 : w65.cell? ⟨gb279, 1, none⟩ = some (.int .i64 x280001_2) := (zak BK279.out 1).trans rfl; have hfz66_0 := zah BK279.out 0; have hfz66_1 := zah BK279.out 1))
                go_roundg k2
                case measure => have := HJ5.out; have := HK2.out; omega
                case rel => exact ⟨(wrap64 (x40_2 + 1)), (x271000_2), (x271001_2), (t291), (t292), (by first | rfl | (simp; done) | (simp [*]; done)), H', ⟨by have := HJ5.out; have := HK2.out; omega⟩, ⟨by (repeat (first | (with_reducible first | apply zae | apply zai | apply zad) | refine zaA ?_ NB269_279.out _)); exact BK269.out⟩, ⟨by (repeat (first | (with_reducible first | apply zae | apply zai | apply zad) | refine zaA ?_ NB270_279.out _)); exact BK270.out⟩, ⟨by (with_reducible repeat (first | apply zae | apply zai | apply zad)); refine zay (cs := #[.int .i64 t291, .int .i64 x280001_2]) ?_ 1 _ rfl; (with_reducible repeat (first | apply zae | apply zai | apply zad)); refine zay (cs := #[.int .i64 x280000_2, .int .i64 x280001_2]) ?_ 0 _ rfl; (with_reducible repeat (first | apply zae | apply zai | apply zad)); exact BK279.out⟩, ⟨by repeat (first | (with_reducible first | exact HB.out | apply zac | apply zaa | apply zaf | refine zab ?_ GE269.out | refine zab ?_ GE270.out | refine zab ?_ GE279.out | refine zab ?_ GE285.out | refine zab ?_ GE290.out) | exact HB.out)⟩⟩
               ·rw [if_neg c44] at H
                have c44b0 : (t293 == 0) = false := beq_eq_false_iff_ne.mpr c44
                have c44b1 : (t293 != 0) = true := bne_iff_ne.mpr c44
                simp only [Option.some.injEq, Prod.mk.injEq] at H
                obtain ⟨rfl, rfl, rfl⟩ := H
                try go_wp2_with (first | ((with_reducible refine zat (f := 42) rfl ?_); refine za9 (some 61) rfl rfl Tryd.func42 (by kernel_rfl) rfl #[.agg #[.int .i64 x280000_2, .int .i64 x280001_2], .agg #[.int .i64 t287, .int .i64 t288]] rfl (by (try simp only [List.map_toArray, List.map_cons, List.map_nil]); first | done | rfl | (simp only [List.length_drop, List.length_take]; rfl)) ?_; (with_reducible refine (zbD.calls x280000_2 x280001_2 t287 t288 t291 t292 t293 _ A43.out).mono ?_); rintro e w87 ⟨rfl, hb⟩; refine ⟨_, rfl, ?_⟩; have n0_ := Aside0.mk (zaj (g := gb269) (o := .cells #[.slice (some ad284) l0_0.length c0_0, .int .i64 a0_1, .int .i64 a0_2] 26 (0, 0)) (by (repeat (first | (with_reducible first | apply zae | apply zai | apply zad) | refine zaA ?_ NB269_290.out _)); exact BK269.out) hb); have n1_ := Aside0.mk (zaj (g := gb270) (o := .cells #[.int .i64 x271000_2, .int .i64 x271001_2] 24 (0, 0)) (by (repeat (first | (with_reducible first | apply zae | apply zai | apply zad) | refine zaA ?_ NB270_290.out _)); exact BK270.out) hb); have n2_ := Aside0.mk (zaj (g := gb279) (o := .cells #[.int .i64 x280000_2, .int .i64 x280001_2] 24 (0, 0)) (by (repeat (first | (with_reducible first | apply zae | apply zai | apply zad) | refine zaA ?_ NB279_290.out _)); exact BK279.out) hb); have n3_ := Aside0.mk (zaj (g := gb285) (o := .cells #[.int .i64 ((zaC y280 x40_2).f0), .int .i64 ((zaC y280 x40_2).f1)] 24 (0, 0)) (by (repeat (first | (with_reducible first | apply zae | apply zai | apply zad) | refine zaA ?_ NB285_290.out _)); exact BK285.out) hb); have n4_ := Aside0.mk (zaj (g := gb290) (o := .cells #[.int .i64 t287, .int .i64 t288] 24 (0, 0)) (by (with_reducible repeat (first | apply zae | apply zai | apply zad)); refine zay (cs := #[.int .i64 t287, .int .i64 0]) ?_ 1 _ rfl; (with_reducible repeat (first | apply zae | apply zai | apply zad)); refine zay (cs := #[.int .i64 0, .int .i64 0]) ?_ 0 _ rfl; (with_reducible repeat (first | apply zae | apply zai | apply zad)); exact BK290.out) hb); have n5_ := Aside0.mk (zam (by repeat (first | (with_reducible first | exact HB.out | apply zac | apply zaa | apply zaf | refine zab ?_ GE269.out | refine zab ?_ GE270.out | refine zab ?_ GE279.out | refine zab ?_ GE285.out | refine zab ?_ GE290.out) | exact HB.out)) hb); clear BK269; clear BK270; clear BK279; clear BK285; clear BK290; clear HB; have BK269 := n0_; have BK270 := n1_; have BK279 := n2_; have BK285 := n3_; have BK290 := n4_; have HB := n5_; clear n0_ n1_ n2_ n3_ n4_ n5_; (try clear hb); (try clear hb2); (try clear hk); (try clear hi); have hcz88_0 : w87.cell? ⟨gb279, 0, none⟩ = some (.int .i64 x280000_2) := (zak BK279.out 0).trans rfl; have hcz88_1 : w87.cell? ⟨gb279, 1, none⟩ = some (.int .i64 x280001_2) := (zak BK279.out 1).trans rfl; have hfz88_0 := zah BK279.out 0; have hfz88_1 := zah BK279.out 1; have hnb89 := NB270_269.out; have hnc89 := NB269_270.out; have hcz90_0 : w87.cell? ⟨gb270, 0, none⟩ = some (.int .i64 x271000_2) := (zak BK270.out 0).trans rfl; have hcz90_1 : w87.cell? ⟨gb270, 1, none⟩ = some (.int .i64 x271001_2) := (zak BK270.out 1).trans rfl; have hfz90_0 := zah BK270.out 0; have hfz90_1 := zah BK270.out 1))
                refine bodyPost_ret (za7 rfl _ _ gb270 24 #[.int .i64 0, .int .i64 0] (0, 0) _ rfl (by (with_reducible repeat (first | apply zae | apply zai | apply zad)); refine zay (cs := #[.int .i64 0, .int .i64 x271001_2]) ?_ 1 _ rfl; (with_reducible repeat (first | apply zae | apply zai | apply zad)); refine zay (cs := #[.int .i64 x271000_2, .int .i64 x271001_2]) ?_ 0 _ rfl; (repeat (first | (with_reducible first | apply zae | apply zai | apply zad) | refine zaA ?_ NB270_279.out _)); exact BK270.out) Tryd.underlying24 rfl (by kernel_rfl)) rfl ?_
                exact ⟨by first | rfl | (simp [zas, zar] <;> rfl) | (simp only [← hji3, ← hji25]; first | rfl | (simp [zas, zar] <;> rfl)) | (simp [*, zas, zar] <;> rfl), by repeat (first | (with_reducible first | exact HB.out | apply zac | apply zaa | apply zaf | refine zab ?_ GE269.out | refine zab ?_ GE270.out | refine zab ?_ GE279.out | refine zab ?_ GE285.out | refine zab ?_ GE290.out) | exact HB.out)⟩
              ·rw [if_neg c42] at H
               have c42b0 : (t289 == 0) = false := beq_eq_false_iff_ne.mpr c42
               have c42b1 : (t289 != 0) = true := bne_iff_ne.mpr c42
               simp only [Option.some.injEq, Prod.mk.injEq] at H
               obtain ⟨rfl, rfl, rfl⟩ := H
               have hnb103 := NB270_269.out
               have hnc103 := NB269_270.out
               have hnb104 := NB270_279.out
               have hnc104 := NB279_270.out
               have hnb105 := NB270_290.out
               have hnc105 := NB290_270.out
               have hcz106_0 : w54.cell? ⟨gb270, 0, none⟩ = some (.int .i64 x271000_2) := (zak BK270.out 0).trans rfl
               have hcz106_1 : w54.cell? ⟨gb270, 1, none⟩ = some (.int .i64 x271001_2) := (zak BK270.out 1).trans rfl
               have hfz106_0 := zah BK270.out 0
               have hfz106_1 := zah BK270.out 1
               try go_wp2
               refine bodyPost_ret (za7 rfl _ _ gb270 24 #[.int .i64 0, .int .i64 0] (0, 0) _ rfl (by (with_reducible repeat (first | apply zae | apply zai | apply zad)); refine zay (cs := #[.int .i64 0, .int .i64 x271001_2]) ?_ 1 _ rfl; (with_reducible repeat (first | apply zae | apply zai | apply zad)); refine zay (cs := #[.int .i64 x271000_2, .int .i64 x271001_2]) ?_ 0 _ rfl; (repeat (first | (with_reducible first | apply zae | apply zai | apply zad) | refine zaA ?_ NB270_290.out _)); exact BK270.out) Tryd.underlying24 rfl (by kernel_rfl)) rfl ?_
               exact ⟨by first | rfl | (simp [zas, zar] <;> rfl) | (simp only [← hji3, ← hji25]; first | rfl | (simp [zas, zar] <;> rfl)) | (simp [*, zas, zar] <;> rfl), by repeat (first | (with_reducible first | exact HB.out | apply zac | apply zaa | apply zaf | refine zab ?_ GE269.out | refine zab ?_ GE270.out | refine zab ?_ GE279.out | refine zab ?_ GE285.out | refine zab ?_ GE290.out) | exact HB.out)⟩
             ·rw [if_neg c40] at H
              exact absurd H (by simp)
            ·rw [if_neg c39] at H
             exact absurd H (by simp)
           ·rw [if_neg c38] at H
            exact absurd H (by simp)
          ·rw [if_neg c37] at H
           have c37b0 : decide (x40_2 < (y280.length : Int)) = false := decide_eq_false c37
           clear c37
           simp only [Option.some.injEq, Prod.mk.injEq] at H
           obtain ⟨rfl, rfl, rfl⟩ := H
           have hnb107 := NB279_269.out
           have hnc107 := NB269_279.out
           have hnb108 := NB279_270.out
           have hnc108 := NB270_279.out
           have hcz109_0 : wr.cell? ⟨gb279, 0, none⟩ = some (.int .i64 x280000_2) := (zak BK279.out 0).trans rfl
           have hcz109_1 : wr.cell? ⟨gb279, 1, none⟩ = some (.int .i64 x280001_2) := (zak BK279.out 1).trans rfl
           have hfz109_0 := zah BK279.out 0
           have hfz109_1 := zah BK279.out 1
           have hnb110 := NB270_269.out
           have hnc110 := NB269_270.out
           have hcz111_0 : wr.cell? ⟨gb270, 0, none⟩ = some (.int .i64 x271000_2) := (zak BK270.out 0).trans rfl
           have hcz111_1 : wr.cell? ⟨gb270, 1, none⟩ = some (.int .i64 x271001_2) := (zak BK270.out 1).trans rfl
           have hfz111_0 := zah BK270.out 0
           have hfz111_1 := zah BK270.out 1
           go_wp2
           refine bodyPost_ret (za7 rfl _ _ gb270 24 #[.int .i64 x280000_2, .int .i64 x280001_2] (0, 0) _ rfl (by (with_reducible repeat (first | apply zae | apply zai | apply zad)); refine zay (cs := #[.int .i64 x280000_2, .int .i64 x271001_2]) ?_ 1 _ rfl; (with_reducible repeat (first | apply zae | apply zai | apply zad)); refine zay (cs := #[.int .i64 x271000_2, .int .i64 x271001_2]) ?_ 0 _ rfl; (with_reducible repeat (first | apply zae | apply zai | apply zad)); exact BK270.out) Tryd.underlying24 rfl (by kernel_rfl)) rfl ?_
           exact ⟨by first | rfl | (simp [zas, zar] <;> rfl) | (simp only [← hji3, ← hji25]; first | rfl | (simp [zas, zar] <;> rfl)) | (simp [*, zas, zar] <;> rfl), by repeat (first | (with_reducible first | exact HB.out | apply zac | apply zaa | apply zaf | refine zab ?_ GE269.out | refine zab ?_ GE270.out | refine zab ?_ GE279.out) | exact HB.out)⟩
       ·rw [if_neg c27] at H
        exact absurd H (by simp)
      ·rw [if_neg c26] at H
       exact absurd H (by simp)
  ·rw [if_neg c5] at H
   exact absurd H (by simp)
 ·rw [if_neg c4] at H
  exact absurd H (by simp)
end Go.Proofs.YtijhnmbegceonaaDoor.PTerm
