import Derived.Test.YtpcdcanmbokpfaaMRefRefST
namespace Go.Proofs.Ytpcdcanmbokpfaa.PRef
open Go Go.RowKit Go.Proofs.YtpcdcanmbokpfaaW.PrintWords Go.Proofs.YtpcdcanmbokpfaaW.PrintLast Go.Proofs.YtpcdcanmbokpfaaW.PrintMore BallBits
attribute [local go_sem] max2_int min2_int max_two min_two max_three min_three max_four min_four
set_option linter.unusedVariables false
set_option linter.unusedSimpArgs false
def dreg3.T : Bool × List (List Nat × List Nat) := (true, [([], []), ([0], [0]), ([], []), ([2, 1], [2]), ([], []), ([], []), ([4, 1, 3, 0, 1, 4, 5], [1, 4]), ([5, 3, 6, 0, 1, 2, 3, 4, 5, 6], [3, 5])])
def dreg3.B : List Nat := [0, 1, 0, 7, 0, 0, 63, 127]
theorem dreg3.tab : rtab .any (opsOf Try.f17 3) = dreg3.T := by kernel_rfl
theorem dreg3.bits : waitsOk dreg3.T.2 dreg3.B = true := by kernel_rfl
def dreg11.T : Bool × List (List Nat × List Nat) := (true, [([], []), ([0], [0]), ([], []), ([2], [2]), ([1, 3], [1, 3]), ([], []), ([5], [5]), ([], []), ([7], [7]), ([6, 8, 4], [6, 8]), ([], []), ([10], [10]), ([], []), ([12], [12]), ([11, 13], [11, 13]), ([4, 9, 14], [4, 9, 14]), ([15, 9], [15]), ([16], [16]), ([16], [16]), ([17, 16, 0, 1, 2, 3, 4, 5, 6, 7, 8, 9, 10, 11, 12, 13, 14, 15, 16, 17, 18], [17]), ([18, 19, 0, 1, 2, 3, 4, 5, 6, 7, 8, 9, 10, 11, 12, 13, 14, 15, 16, 17, 18, 19], [18])])
def dreg11.B : List Nat := [0, 1, 0, 4, 15, 0, 32, 0, 128, 511, 0, 1024, 0, 4096, 15360, 32767, 65535, 131071, 131071, 524287, 1048575]
theorem dreg11.tab : rtab .any (opsOf Try.f17 11) = dreg11.T := by kernel_rfl
theorem dreg11.bits : waitsOk dreg11.T.2 dreg11.B = true := by kernel_rfl
def dreg12.T : Bool × List (List Nat × List Nat) := (true, [([], []), ([0], [0]), ([], []), ([2], [2]), ([1, 3], [1, 3]), ([], []), ([5], [5]), ([], []), ([7], [7]), ([6, 8, 4], [6, 8]), ([], []), ([10], [10]), ([], []), ([12], [12]), ([11, 13], [11, 13]), ([4, 9, 14], [4, 9, 14]), ([15, 9], [15]), ([16], [16]), ([16], [16]), ([17, 16, 0, 1, 2, 3, 4, 5, 6, 7, 8, 9, 10, 11, 12, 13, 14, 15, 16, 17, 18], [17]), ([18, 19, 0, 1, 2, 3, 4, 5, 6, 7, 8, 9, 10, 11, 12, 13, 14, 15, 16, 17, 18, 19], [18])])
def dreg12.B : List Nat := [0, 1, 0, 4, 15, 0, 32, 0, 128, 511, 0, 1024, 0, 4096, 15360, 32767, 65535, 131071, 131071, 524287, 1048575]
theorem dreg12.tab : rtab .any (opsOf Try.f17 12) = dreg12.T := by kernel_rfl
theorem dreg12.bits : waitsOk dreg12.T.2 dreg12.B = true := by kernel_rfl
theorem putnone (a : Act) : a.put none undef = a := rfl
def Frq (n d : Int) : Prop := BallQ.In64 n ∧ BallQ.In64 d
/-- What is handed back: of op 0, 1 and 2, 3. -/
def good (op : Nat) (n1 d1 n2 d2 : Int) : Int × Int × Int :=
  let a := n1.natAbs; let b := d1.natAbs; let c := n2.natAbs; let d := d2.natAbs
  let f := fun (n m : Nat) (s : Bool) => BallQ.put (n / Nat.gcd n m) (m / Nat.gcd n m) s
  match op with
  | 0 => f (sumN a b c d (decide (n1 < 0)) (decide (n2 < 0))) (b * d) (sumM a b c d (decide (n1 < 0)) (decide (n2 < 0)))
  | 1 => f (sumN a b c d (decide (n1 < 0)) (!decide (n2 < 0))) (b * d) (sumM a b c d (decide (n1 < 0)) (!decide (n2 < 0)))
  | 2 => f (a * c) (b * d) (decide (n1 < 0) != decide (n2 < 0))
  | _ => f (a * d) (b * c) (decide (n1 < 0) != decide (n2 < 0))
theorem sz65 {n : Nat} (h : n ≤ 9223372036854775808) : Sz n := sz64 (by omega)
theorem szm {a b : Nat} (ha : a ≤ 9223372036854775808) (hb : b ≤ 9223372036854775808) : a * b ≤ 85070591730234615865843651857942052864 := Nat.le_trans (Nat.mul_le_mul ha hb) (by decide)
theorem sz129 {n : Nat} (h : n < 680564733841876926926749214863536422912) : Sz n := Nat.le_trans (length_bof_le (m := 129) h) (by omega)
theorem sumN_le (a b c d : Nat) (m1 m2 : Bool) : sumN a b c d m1 m2 ≤ a * d + c * b := by
  unfold sumN
  split
  · exact Nat.le_refl _
  · split
    · exact Nat.le_trans (Nat.sub_le _ _) (Nat.le_add_left _ _)
    · exact Nat.le_trans (Nat.sub_le _ _) (Nat.le_add_right _ _)
def Sizes (a b c d : Nat) (n2 : Int) : Prop := Sz a ∧ Sz b ∧ Sz c ∧ Sz d ∧ Sz (a * d) ∧ Sz (c * b) ∧ Sz (b * d) ∧ 0 < b * d ∧ Sz (a * c) ∧ (n2 ≠ 0 → 0 < b * c)
theorem sizes {n1 d1 n2 d2 : Int} (hi : BallQ.In64 n1 ∧ BallQ.In64 d1 ∧ BallQ.In64 n2 ∧ BallQ.In64 d2) (hr : BallQ.Right n1 d1 ∧ BallQ.Right n2 d2) : Sizes n1.natAbs d1.natAbs n2.natAbs d2.natAbs n2 := by
  obtain ⟨⟨a0, a1⟩, ⟨b0, b1⟩, ⟨c0, c1⟩, ⟨e0, e1⟩⟩ := hi
  have ha : n1.natAbs ≤ 9223372036854775808 := by omega
  have hb : d1.natAbs ≤ 9223372036854775808 := by omega
  have hc : n2.natAbs ≤ 9223372036854775808 := by omega
  have hd : d2.natAbs ≤ 9223372036854775808 := by omega
  have pb : 0 < d1.natAbs := by have := hr.1.1; omega
  have pd : 0 < d2.natAbs := by have := hr.2.1; omega
  have lt : ∀ {x : Nat}, x ≤ 85070591730234615865843651857942052864 → Sz x := fun h => sz129 (Nat.lt_of_le_of_lt h (by decide))
  exact ⟨sz65 ha, sz65 hb, sz65 hc, sz65 hd, lt (szm ha hd), lt (szm hc hb), lt (szm hb hd), Nat.mul_pos pb pd, lt (szm ha hc), fun h => Nat.mul_pos pb (by omega)⟩
theorem sumN_sz {n1 d1 n2 d2 : Int} (hi : BallQ.In64 n1 ∧ BallQ.In64 d1 ∧ BallQ.In64 n2 ∧ BallQ.In64 d2) (m1 m2 : Bool) : Sz (sumN n1.natAbs d1.natAbs n2.natAbs d2.natAbs m1 m2) := by
  obtain ⟨⟨a0, a1⟩, ⟨b0, b1⟩, ⟨c0, c1⟩, ⟨e0, e1⟩⟩ := hi
  have h1 := szm (a := n1.natAbs) (b := d2.natAbs) (by omega) (by omega)
  have h2 := szm (a := n2.natAbs) (b := d1.natAbs) (by omega) (by omega)
  have h3 := sumN_le n1.natAbs d1.natAbs n2.natAbs d2.natAbs m1 m2
  exact sz129 (Nat.lt_of_le_of_lt (Nat.le_trans h3 (Nat.add_le_add h1 h2)) (by decide))
set_option maxHeartbeats 4000000 in
set_option maxRecDepth 100000 in
theorem do_bad (op : Int) (n1 d1 n2 d2 : Int) (w : World) (hi : BallQ.In64 n1 ∧ BallQ.In64 d1 ∧ BallQ.In64 n2 ∧ BallQ.In64 d2) (hbad : ¬ BallQ.Right n1 d1 ∨ ¬ BallQ.Right n2 d2 ∨ (op = 3 ∧ n2 = 0)) :
    Calls Try.prog 17 #[.int .i64 op, .agg #[.int .i64 n1, .int .i64 d1], .agg #[.int .i64 n2, .int .i64 d2]] w fun e w' => e = .returned (.tuple #[.agg #[.int .i64 0, .int .i64 0], .int .i64 2]) ∧ Below w.heap.size w w' := by
  have HI := Aside0.mk hi
  clear hi
  go_enter Try.func17, Try.ntmps17
  go_wp2_with (fail)
  have T3 := three w (.cells #[.int .i64 n1, .int .i64 d1] 23 (0, 0)) (.cells #[.int .i64 n2, .int .i64 d2] 23 (0, 0)) (.cells #[.int .i64 0, .int .i64 0] 23 (0, 0))
  have B3 := below_alloc (below_alloc (below_alloc (Below.refl w.heap.size w) (.cells #[.int .i64 n1, .int .i64 d1] 23 (0, 0))) (.cells #[.int .i64 n2, .int .i64 d2] 23 (0, 0))) (.cells #[.int .i64 0, .int .i64 0] 23 (0, 0))
  refine (right_c n1 d1 HI.out.1 HI.out.2.1 _).mono ?_
  rintro e W1 ⟨rfl, hb⟩
  have HX := Aside0.mk (blk_below T3.1 hb)
  have HY := Aside0.mk (blk_below T3.2.1 hb)
  have HZ := Aside0.mk (blk_below T3.2.2 hb)
  have HB := Aside0.mk (below_step B3 hb)
  clear T3 B3 hb
  obtain ⟨g1, hg1⟩ : ∃ g1 : Nat, w.heap.size = g1 := ⟨_, rfl⟩
  obtain ⟨g2, hg2⟩ : ∃ g2 : Nat, w.heap.size + 1 = g2 := ⟨_, rfl⟩
  obtain ⟨g3, hg3⟩ : ∃ g3 : Nat, w.heap.size + 1 + 1 = g3 := ⟨_, rfl⟩
  have GE := Aside0.mk (show w.heap.size ≤ g3 by omega)
  have NE := Aside0.mk (show g1 ≠ g2 ∧ g1 ≠ g3 ∧ g2 ≠ g3 by omega)
  have E := Aside0.mk hg1
  rw [hg3] at HZ
  rw [hg2] at HY
  rw [hg1] at HX
  rw [hg3, hg2, hg1]
  clear hg1 hg2 hg3
  have kX0 := (cl2 HX.out).1
  have fX0 := blk_frozen HX.out 0
  have kX1 := (cl2 HX.out).2
  have fX1 := blk_frozen HX.out 1
  have kY0 := (cl2 HY.out).1
  have fY0 := blk_frozen HY.out 0
  have kY1 := (cl2 HY.out).2
  have fY1 := blk_frozen HY.out 1
  have kZ0 := (cl2 HZ.out).1
  have fZ0 := blk_frozen HZ.out 0
  have kZ1 := (cl2 HZ.out).2
  have fZ1 := blk_frozen HZ.out 1
  obtain ⟨n12, n13, n23⟩ := NE.out
  have n21 := Ne.symm n12
  have n31 := Ne.symm n13
  have n32 := Ne.symm n23
  by_cases h1 : BallQ.Right n1 d1
  · have d1' : decide (BallQ.Right n1 d1) = true := decide_eq_true h1
    rw [d1']
    go_wp2_with (fail)
    refine (right_c n2 d2 HI.out.2.2.1 HI.out.2.2.2 _).mono ?_
    rintro e W2 ⟨rfl, hb⟩
    have HX2 := Aside0.mk (blk_below HX.out hb)
    have HY2 := Aside0.mk (blk_below HY.out hb)
    have HZ2 := Aside0.mk (blk_below HZ.out hb)
    have HB2 := Aside0.mk (below_step HB.out hb)
    clear hb kX0 fX0 kX1 fX1 kY0 fY0 kY1 fY1 kZ0 fZ0 kZ1 fZ1 HX HY HZ HB
    have kX0 := (cl2 HX2.out).1
    have fX0 := blk_frozen HX2.out 0
    have kX1 := (cl2 HX2.out).2
    have fX1 := blk_frozen HX2.out 1
    have kY0 := (cl2 HY2.out).1
    have fY0 := blk_frozen HY2.out 0
    have kY1 := (cl2 HY2.out).2
    have fY1 := blk_frozen HY2.out 1
    have kZ0 := (cl2 HZ2.out).1
    have fZ0 := blk_frozen HZ2.out 0
    have kZ1 := (cl2 HZ2.out).2
    have fZ1 := blk_frozen HZ2.out 1
    by_cases h2 : BallQ.Right n2 d2
    · have d2' : decide (BallQ.Right n2 d2) = true := decide_eq_true h2
      rw [d2']
      have h3 : op = 3 ∧ n2 = 0 := by
        rcases hbad with h | h | h
        · exact absurd h1 h
        · exact absurd h2 h
        · exact h
      obtain ⟨rfl, rfl⟩ := h3
      skip
      go_wp2_with (fail)
      refine bodyPost_ret (results_ct rfl _ _ g3 23 #[.int .i64 0, .int .i64 0] (0, 0) _ rfl (blk_put (cs := #[.int .i64 0, .int .i64 0]) (blk_put (cs := #[.int .i64 0, .int .i64 0]) HZ2.out 0 _ rfl) 1 _ rfl) Try.underlying23 rfl (by kernel_rfl)) rfl ?_
      exact ⟨rfl, below_set (below_set HB2.out GE.out) GE.out⟩
    · have d2' : decide (BallQ.Right n2 d2) = false := decide_eq_false h2
      rw [d2']
      skip
      go_wp2_with (fail)
      refine bodyPost_ret (results_ct rfl _ _ g3 23 #[.int .i64 0, .int .i64 0] (0, 0) _ rfl (blk_put (cs := #[.int .i64 0, .int .i64 0]) (blk_put (cs := #[.int .i64 0, .int .i64 0]) HZ2.out 0 _ rfl) 1 _ rfl) Try.underlying23 rfl (by kernel_rfl)) rfl ?_
      exact ⟨rfl, below_set (below_set HB2.out GE.out) GE.out⟩
  · have d1' : decide (BallQ.Right n1 d1) = false := decide_eq_false h1
    rw [d1']
    skip
    go_wp2_with (fail)
    refine bodyPost_ret (results_ct rfl _ _ g3 23 #[.int .i64 0, .int .i64 0] (0, 0) _ rfl (blk_put (cs := #[.int .i64 0, .int .i64 0]) (blk_put (cs := #[.int .i64 0, .int .i64 0]) HZ.out 0 _ rfl) 1 _ rfl) Try.underlying23 rfl (by kernel_rfl)) rfl ?_
    exact ⟨rfl, below_set (below_set HB.out GE.out) GE.out⟩
set_option maxHeartbeats 8000000 in
set_option maxRecDepth 100000 in
theorem do_good (op : Nat) (n1 d1 n2 d2 : Int) (w : World) (hi : BallQ.In64 n1 ∧ BallQ.In64 d1 ∧ BallQ.In64 n2 ∧ BallQ.In64 d2) (h1 : BallQ.Right n1 d1) (h2 : BallQ.Right n2 d2) (h3 : op = 3 → n2 ≠ 0) (ho : op = 0 ∨ op = 1 ∨ op = 2 ∨ op = 3) :
    Calls Try.prog 17 #[.int .i64 (op : Int), .agg #[.int .i64 n1, .int .i64 d1], .agg #[.int .i64 n2, .int .i64 d2]] w fun e w' => e = .returned (.tuple #[.agg #[.int .i64 (good op n1 d1 n2 d2).1, .int .i64 (good op n1 d1 n2 d2).2.1], .int .i64 (good op n1 d1 n2 d2).2.2]) ∧ Below w.heap.size w w' := by
  have HI := Aside0.mk hi
  have HR := Aside0.mk (show BallQ.Right n1 d1 ∧ BallQ.Right n2 d2 from ⟨h1, h2⟩)
  have HO := Aside0.mk (show (op = 3 → n2 ≠ 0) ∧ (op = 0 ∨ op = 1 ∨ op = 2 ∨ op = 3) from ⟨h3, ho⟩)
  clear hi h1 h2 h3 ho
  go_enter Try.func17, Try.ntmps17
  go_upto_region 1 with (fail)
  have T3 := three w (.cells #[.int .i64 n1, .int .i64 d1] 23 (0, 0)) (.cells #[.int .i64 n2, .int .i64 d2] 23 (0, 0)) (.cells #[.int .i64 0, .int .i64 0] 23 (0, 0))
  have B3 := below_alloc (below_alloc (below_alloc (Below.refl w.heap.size w) (.cells #[.int .i64 n1, .int .i64 d1] 23 (0, 0))) (.cells #[.int .i64 n2, .int .i64 d2] 23 (0, 0))) (.cells #[.int .i64 0, .int .i64 0] 23 (0, 0))
  refine cutw (F := fun W => (W.heap[w.heap.size]? = some (.cells #[.int .i64 n1, .int .i64 d1] 23 (0, 0))) ∧ (W.heap[w.heap.size + 1]? = some (.cells #[.int .i64 n2, .int .i64 d2] 23 (0, 0))) ∧ (W.heap[w.heap.size + 1 + 1]? = some (.cells #[.int .i64 0, .int .i64 0] 23 (0, 0))) ∧ Below w.heap.size w W) ⟨T3.1, T3.2.1, T3.2.2, B3⟩ ?_
  clear T3 B3
  rintro W0 ⟨hX, hY, hZ, hB⟩
  obtain ⟨g1, hg1⟩ : ∃ g1 : Nat, w.heap.size = g1 := ⟨_, rfl⟩
  obtain ⟨g2, hg2⟩ : ∃ g2 : Nat, w.heap.size + 1 = g2 := ⟨_, rfl⟩
  obtain ⟨g3, hg3⟩ : ∃ g3 : Nat, w.heap.size + 1 + 1 = g3 := ⟨_, rfl⟩
  have GE := Aside0.mk (show w.heap.size ≤ g3 by omega)
  have NE := Aside0.mk (show g1 ≠ g2 ∧ g1 ≠ g3 ∧ g2 ≠ g3 by omega)
  rw [hg3] at hZ
  rw [hg2] at hY
  rw [hg1] at hX
  rw [hg3, hg2, hg1]
  have HX := Aside0.mk hX
  have HY := Aside0.mk hY
  have HZ := Aside0.mk hZ
  have HB := Aside0.mk hB
  clear hg1 hg2 hg3 hX hY hZ hB
  go_cut [26] (fun v26 W => v26 = .bool false ∧ Aside0 (W.heap[g1]? = some (.cells #[.int .i64 n1, .int .i64 d1] 23 (0, 0))) ∧ Aside0 (W.heap[g2]? = some (.cells #[.int .i64 n2, .int .i64 d2] 23 (0, 0))) ∧ Aside0 (W.heap[g3]? = some (.cells #[.int .i64 0, .int .i64 0] 23 (0, 0))) ∧ Aside0 (Below w.heap.size w W))
  case first =>
    have kX0 := (cl2 HX.out).1
    have fX0 := blk_frozen HX.out 0
    have kX1 := (cl2 HX.out).2
    have fX1 := blk_frozen HX.out 1
    have kY0 := (cl2 HY.out).1
    have fY0 := blk_frozen HY.out 0
    have kY1 := (cl2 HY.out).2
    have fY1 := blk_frozen HY.out 1
    have kZ0 := (cl2 HZ.out).1
    have fZ0 := blk_frozen HZ.out 0
    have kZ1 := (cl2 HZ.out).2
    have fZ1 := blk_frozen HZ.out 1
    obtain ⟨n12, n13, n23⟩ := NE.out
    have n21 := Ne.symm n12
    have n31 := Ne.symm n13
    have n32 := Ne.symm n23
    go_wp2_with (fail)
    refine (right_c n1 d1 HI.out.1 HI.out.2.1 _).mono ?_
    rintro e W1 ⟨rfl, hb⟩
    rw [decide_eq_true HR.out.1]
    clear kX0 fX0 kX1 fX1 kY0 fY0 kY1 fY1 kZ0 fZ0 kZ1 fZ1
    replace HX := Aside0.mk (blk_below HX.out hb)
    replace HY := Aside0.mk (blk_below HY.out hb)
    replace HZ := Aside0.mk (blk_below HZ.out hb)
    replace HB := Aside0.mk (below_step HB.out hb)
    clear hb
    have kX0 := (cl2 HX.out).1
    have fX0 := blk_frozen HX.out 0
    have kX1 := (cl2 HX.out).2
    have fX1 := blk_frozen HX.out 1
    have kY0 := (cl2 HY.out).1
    have fY0 := blk_frozen HY.out 0
    have kY1 := (cl2 HY.out).2
    have fY1 := blk_frozen HY.out 1
    have kZ0 := (cl2 HZ.out).1
    have fZ0 := blk_frozen HZ.out 0
    have kZ1 := (cl2 HZ.out).2
    have fZ1 := blk_frozen HZ.out 1
    go_wp2_with (fail)
    refine (right_c n2 d2 HI.out.2.2.1 HI.out.2.2.2 _).mono ?_
    rintro e W2 ⟨rfl, hb⟩
    rw [decide_eq_true HR.out.2]
    clear kX0 fX0 kX1 fX1 kY0 fY0 kY1 fY1 kZ0 fZ0 kZ1 fZ1
    replace HX := Aside0.mk (blk_below HX.out hb)
    replace HY := Aside0.mk (blk_below HY.out hb)
    replace HZ := Aside0.mk (blk_below HZ.out hb)
    replace HB := Aside0.mk (below_step HB.out hb)
    clear hb
    have kX0 := (cl2 HX.out).1
    have fX0 := blk_frozen HX.out 0
    have kX1 := (cl2 HX.out).2
    have fX1 := blk_frozen HX.out 1
    have kY0 := (cl2 HY.out).1
    have fY0 := blk_frozen HY.out 0
    have kY1 := (cl2 HY.out).2
    have fY1 := blk_frozen HY.out 1
    have kZ0 := (cl2 HZ.out).1
    have fZ0 := blk_frozen HZ.out 0
    have kZ1 := (cl2 HZ.out).2
    have fZ1 := blk_frozen HZ.out 1
    by_cases ho3 : op = 3
    · have hn2 : (n2 == 0) = false := by simpa using HO.out.1 ho3
      subst ho3
      go_wp2_with (fail)
      go_meet
      case rel => exact ⟨rfl, HX, HY, HZ, HB⟩
    · have q4 : ((op : Int) == 3) = false := by simp; omega
      go_wp2_with (fail)
      go_meet
      case rel => exact ⟨rfl, HX, HY, HZ, HB⟩
  case rest =>
    obtain ⟨rfl, HX, HY, HZ, HB⟩ := hcut
    go_wp2_with (fail)
    have HBq := Aside0.mk (below_drew1 HB.out)
    have HXq := Aside0.mk (blk_drew HX.out)
    have HYq := Aside0.mk (blk_drew HY.out)
    have HZq := Aside0.mk (blk_drew HZ.out)
    have sX := cl2 HX.out
    have sY := cl2 HY.out
    clear HX HY HZ HB
    refine start_ (n := 8) (S := fun w' => (w'.cell? ⟨g1, 0, none⟩ = some (.int .i64 n1) ∧ w'.cell? ⟨g1, 1, none⟩ = some (.int .i64 d1)) ∧ (w'.cell? ⟨g2, 0, none⟩ = some (.int .i64 n2) ∧ w'.cell? ⟨g2, 1, none⟩ = some (.int .i64 d2))) (ds := []) #[false, false, false, false, false, false, false, false] (by kernel_rfl) rfl rfl (⟨sX, sY⟩) (fun hHeld => ?_); refine with_tabW dreg3.tab dreg3.bits (fun HT_ HW_ => ?_)
    clear sX sY
    generalize wc.drew = W at HBq HXq HYq HZq hHeld ⊢
    have hX := HXq.out
    have hY := HYq.out
    have hZ := HZq.out
    have hB := HBq.out
    refine take_ (i := 0) (N := some 28) (v := ?_) (a' := ?_) #[true, false, false, false, false, false, false, false] rfl rfl (take_ofW HT_.out HW_.out (by kernel_rfl)) (fun _ _ _ h => h) (Or.inl ⟨by rfl, ?_⟩) hHeld ?_ ?_
    rotate_left
    · intro w' s0
      obtain ⟨⟨s1, s2⟩, s3, s4⟩ := s0
      go_simp
      with_reducible rfl
    rotate_left
    · simp only [Act.put, List.setIfInBounds_toArray, List.set_cons_zero, List.set_cons_succ, i64_w, i32_w]
      rfl
    refine take_ (i := 2) (N := some 30) (v := ?_) (a' := ?_) #[true, false, true, false, false, false, false, false] rfl rfl (take_ofW HT_.out HW_.out (by kernel_rfl)) (fun _ _ _ h => h) (Or.inl ⟨by rfl, ?_⟩) hHeld ?_ ?_
    rotate_left
    · intro w' s0
      obtain ⟨⟨s1, s2⟩, s3, s4⟩ := s0
      go_simp
      with_reducible rfl
    rotate_left
    · simp only [Act.put, List.setIfInBounds_toArray, List.set_cons_zero, List.set_cons_succ, i64_w, i32_w]
      rfl
    refine join_ (σ := Value × Value × Value × Value × Nat × Nat) 2 #[true, true, true, true, true, true, false, false] (fun s => [(29, .agg #[s.1, s.2.1, .bool (decide (n1 < 0))]), (31, .agg #[s.2.2.1, s.2.2.2.1, .bool (decide (n2 < 0))]), (8, .pointer (some ⟨s.2.2.2.2.1, 0, none⟩)), (9, .pointer (some ⟨s.2.2.2.2.2, 0, none⟩))]) (fun s W' => (((W'.heap[g1]? = some (.cells #[.int .i64 n1, .int .i64 d1] 23 (0, 0)))) ∧ ((W'.heap[g2]? = some (.cells #[.int .i64 n2, .int .i64 d2] 23 (0, 0)))) ∧ ((W'.heap[g3]? = some (.cells #[.int .i64 0, .int .i64 0] 23 (0, 0)))) ∧ Below w.heap.size w W') ∧ (NB W' s.1 n1.natAbs ∧ NB W' s.2.1 d1.natAbs) ∧ (NB W' s.2.2.1 n2.natAbs ∧ NB W' s.2.2.2.1 d2.natAbs) ∧ (W'.heap[s.2.2.2.2.1]? = some (.cells #[.slice none 0 0, .slice none 0 0, .bool false] 62 (0, 0)) ∧ w.heap.size ≤ s.2.2.2.2.1) ∧ (W'.heap[s.2.2.2.2.2]? = some (.cells #[.slice none 0 0, .slice none 0 0, .bool false] 62 (0, 0)) ∧ w.heap.size ≤ s.2.2.2.2.2) ∧ s.2.2.2.2.1 ≠ s.2.2.2.2.2) ?_ ?_
    rotate_left
    · intro hN1345
      refine join_ (σ := Value × Value × Nat × Nat) 3 #[true, true, true, false, true, true, false, false] (fun s => [(29, .agg #[s.1, s.2.1, .bool (decide (n1 < 0))]), (8, .pointer (some ⟨s.2.2.1, 0, none⟩)), (9, .pointer (some ⟨s.2.2.2, 0, none⟩))]) (fun s W' => (((W'.heap[g1]? = some (.cells #[.int .i64 n1, .int .i64 d1] 23 (0, 0)))) ∧ ((W'.heap[g2]? = some (.cells #[.int .i64 n2, .int .i64 d2] 23 (0, 0)))) ∧ ((W'.heap[g3]? = some (.cells #[.int .i64 0, .int .i64 0] 23 (0, 0)))) ∧ Below w.heap.size w W') ∧ (NB W' s.1 n1.natAbs ∧ NB W' s.2.1 d1.natAbs) ∧ (W'.heap[s.2.2.1]? = some (.cells #[.slice none 0 0, .slice none 0 0, .bool false] 62 (0, 0)) ∧ w.heap.size ≤ s.2.2.1) ∧ (W'.heap[s.2.2.2]? = some (.cells #[.slice none 0 0, .slice none 0 0, .bool false] 62 (0, 0)) ∧ w.heap.size ≤ s.2.2.2) ∧ s.2.2.1 ≠ s.2.2.2) ?_ ?_
      rotate_left
      · intro hN145
        refine join_ (σ := Value × Value × Value × Value × Nat) 3 #[true, true, true, true, true, false, false, false] (fun s => [(29, .agg #[s.1, s.2.1, .bool (decide (n1 < 0))]), (31, .agg #[s.2.2.1, s.2.2.2.1, .bool (decide (n2 < 0))]), (8, .pointer (some ⟨s.2.2.2.2, 0, none⟩))]) (fun s W' => (((W'.heap[g1]? = some (.cells #[.int .i64 n1, .int .i64 d1] 23 (0, 0)))) ∧ ((W'.heap[g2]? = some (.cells #[.int .i64 n2, .int .i64 d2] 23 (0, 0)))) ∧ ((W'.heap[g3]? = some (.cells #[.int .i64 0, .int .i64 0] 23 (0, 0)))) ∧ Below w.heap.size w W') ∧ (NB W' s.1 n1.natAbs ∧ NB W' s.2.1 d1.natAbs) ∧ (NB W' s.2.2.1 n2.natAbs ∧ NB W' s.2.2.2.1 d2.natAbs) ∧ (W'.heap[s.2.2.2.2]? = some (.cells #[.slice none 0 0, .slice none 0 0, .bool false] 62 (0, 0)) ∧ w.heap.size ≤ s.2.2.2.2) ∧ True) ?_ ?_
        rotate_left
        · intro hN134
          refine join_ (σ := Value × Value × Value × Value × Nat) 3 #[true, true, true, true, false, true, false, false] (fun s => [(29, .agg #[s.1, s.2.1, .bool (decide (n1 < 0))]), (31, .agg #[s.2.2.1, s.2.2.2.1, .bool (decide (n2 < 0))]), (9, .pointer (some ⟨s.2.2.2.2, 0, none⟩))]) (fun s W' => (((W'.heap[g1]? = some (.cells #[.int .i64 n1, .int .i64 d1] 23 (0, 0)))) ∧ ((W'.heap[g2]? = some (.cells #[.int .i64 n2, .int .i64 d2] 23 (0, 0)))) ∧ ((W'.heap[g3]? = some (.cells #[.int .i64 0, .int .i64 0] 23 (0, 0)))) ∧ Below w.heap.size w W') ∧ (NB W' s.1 n1.natAbs ∧ NB W' s.2.1 d1.natAbs) ∧ (NB W' s.2.2.1 n2.natAbs ∧ NB W' s.2.2.2.1 d2.natAbs) ∧ (W'.heap[s.2.2.2.2]? = some (.cells #[.slice none 0 0, .slice none 0 0, .bool false] 62 (0, 0)) ∧ w.heap.size ≤ s.2.2.2.2) ∧ True) ?_ ?_
          rotate_left
          · intro hN135
            refine join_ (σ := Nat × Nat) 4 #[true, false, true, false, true, true, false, false] (fun s => [(8, .pointer (some ⟨s.1, 0, none⟩)), (9, .pointer (some ⟨s.2, 0, none⟩))]) (fun s W' => (((W'.heap[g1]? = some (.cells #[.int .i64 n1, .int .i64 d1] 23 (0, 0)))) ∧ ((W'.heap[g2]? = some (.cells #[.int .i64 n2, .int .i64 d2] 23 (0, 0)))) ∧ ((W'.heap[g3]? = some (.cells #[.int .i64 0, .int .i64 0] 23 (0, 0)))) ∧ Below w.heap.size w W') ∧ (W'.heap[s.1]? = some (.cells #[.slice none 0 0, .slice none 0 0, .bool false] 62 (0, 0)) ∧ w.heap.size ≤ s.1) ∧ (W'.heap[s.2]? = some (.cells #[.slice none 0 0, .slice none 0 0, .bool false] 62 (0, 0)) ∧ w.heap.size ≤ s.2) ∧ s.1 ≠ s.2) ?_ ?_
            rotate_left
            · intro hN45
              refine join_ (σ := Value × Value × Nat) 4 #[true, true, true, false, true, false, false, false] (fun s => [(29, .agg #[s.1, s.2.1, .bool (decide (n1 < 0))]), (8, .pointer (some ⟨s.2.2, 0, none⟩))]) (fun s W' => (((W'.heap[g1]? = some (.cells #[.int .i64 n1, .int .i64 d1] 23 (0, 0)))) ∧ ((W'.heap[g2]? = some (.cells #[.int .i64 n2, .int .i64 d2] 23 (0, 0)))) ∧ ((W'.heap[g3]? = some (.cells #[.int .i64 0, .int .i64 0] 23 (0, 0)))) ∧ Below w.heap.size w W') ∧ (NB W' s.1 n1.natAbs ∧ NB W' s.2.1 d1.natAbs) ∧ (W'.heap[s.2.2]? = some (.cells #[.slice none 0 0, .slice none 0 0, .bool false] 62 (0, 0)) ∧ w.heap.size ≤ s.2.2) ∧ True) ?_ ?_
              rotate_left
              · intro hN14
                refine join_ (σ := Value × Value × Nat) 4 #[true, true, true, false, false, true, false, false] (fun s => [(29, .agg #[s.1, s.2.1, .bool (decide (n1 < 0))]), (9, .pointer (some ⟨s.2.2, 0, none⟩))]) (fun s W' => (((W'.heap[g1]? = some (.cells #[.int .i64 n1, .int .i64 d1] 23 (0, 0)))) ∧ ((W'.heap[g2]? = some (.cells #[.int .i64 n2, .int .i64 d2] 23 (0, 0)))) ∧ ((W'.heap[g3]? = some (.cells #[.int .i64 0, .int .i64 0] 23 (0, 0)))) ∧ Below w.heap.size w W') ∧ (NB W' s.1 n1.natAbs ∧ NB W' s.2.1 d1.natAbs) ∧ (W'.heap[s.2.2]? = some (.cells #[.slice none 0 0, .slice none 0 0, .bool false] 62 (0, 0)) ∧ w.heap.size ≤ s.2.2) ∧ True) ?_ ?_
                rotate_left
                · intro hN15
                  refine join_ (σ := Value × Value × Value × Value) 4 #[true, true, true, true, false, false, false, false] (fun s => [(29, .agg #[s.1, s.2.1, .bool (decide (n1 < 0))]), (31, .agg #[s.2.2.1, s.2.2.2, .bool (decide (n2 < 0))])]) (fun s W' => (((W'.heap[g1]? = some (.cells #[.int .i64 n1, .int .i64 d1] 23 (0, 0)))) ∧ ((W'.heap[g2]? = some (.cells #[.int .i64 n2, .int .i64 d2] 23 (0, 0)))) ∧ ((W'.heap[g3]? = some (.cells #[.int .i64 0, .int .i64 0] 23 (0, 0)))) ∧ Below w.heap.size w W') ∧ (NB W' s.1 n1.natAbs ∧ NB W' s.2.1 d1.natAbs) ∧ (NB W' s.2.2.1 n2.natAbs ∧ NB W' s.2.2.2 d2.natAbs) ∧ True) ?_ ?_
                  rotate_left
                  · intro hN13
                    refine join_ (σ := Nat) 5 #[true, false, true, false, true, false, false, false] (fun s => [(8, .pointer (some ⟨s, 0, none⟩))]) (fun s W' => (((W'.heap[g1]? = some (.cells #[.int .i64 n1, .int .i64 d1] 23 (0, 0)))) ∧ ((W'.heap[g2]? = some (.cells #[.int .i64 n2, .int .i64 d2] 23 (0, 0)))) ∧ ((W'.heap[g3]? = some (.cells #[.int .i64 0, .int .i64 0] 23 (0, 0)))) ∧ Below w.heap.size w W') ∧ (W'.heap[s]? = some (.cells #[.slice none 0 0, .slice none 0 0, .bool false] 62 (0, 0)) ∧ w.heap.size ≤ s) ∧ True) ?_ ?_
                    rotate_left
                    · intro hN4
                      refine join_ (σ := Nat) 5 #[true, false, true, false, false, true, false, false] (fun s => [(9, .pointer (some ⟨s, 0, none⟩))]) (fun s W' => (((W'.heap[g1]? = some (.cells #[.int .i64 n1, .int .i64 d1] 23 (0, 0)))) ∧ ((W'.heap[g2]? = some (.cells #[.int .i64 n2, .int .i64 d2] 23 (0, 0)))) ∧ ((W'.heap[g3]? = some (.cells #[.int .i64 0, .int .i64 0] 23 (0, 0)))) ∧ Below w.heap.size w W') ∧ (W'.heap[s]? = some (.cells #[.slice none 0 0, .slice none 0 0, .bool false] 62 (0, 0)) ∧ w.heap.size ≤ s) ∧ True) ?_ ?_
                      rotate_left
                      · intro hN5
                        refine join_ (σ := Value × Value) 5 #[true, true, true, false, false, false, false, false] (fun s => [(29, .agg #[s.1, s.2, .bool (decide (n1 < 0))])]) (fun s W' => (((W'.heap[g1]? = some (.cells #[.int .i64 n1, .int .i64 d1] 23 (0, 0)))) ∧ ((W'.heap[g2]? = some (.cells #[.int .i64 n2, .int .i64 d2] 23 (0, 0)))) ∧ ((W'.heap[g3]? = some (.cells #[.int .i64 0, .int .i64 0] 23 (0, 0)))) ∧ Below w.heap.size w W') ∧ (NB W' s.1 n1.natAbs ∧ NB W' s.2 d1.natAbs) ∧ True) ?_ ?_
                        rotate_left
                        · intro hN1
                          refine three_ (i := 1) (j := 4) (k := 5) (Ni := some 29) (Nj := some 8) (Nk := some 9) #[true, true, true, false, false, false, false, false] #[true, false, true, false, true, false, false, false] #[true, false, true, false, false, true, false, false] rfl rfl rfl rfl rfl rfl (three_of HT_.out (by kernel_rfl)) (by decide) (by decide) (by decide) (fun K hK => ?_) (fun K hK => ?_) (fun K hK => ?_)
                          · skip
                            refine goes_ Try.func32 (by kernel_rfl) rfl #[.agg #[.int .i64 n1, .int .i64 d1]] (by rfl) rfl rfl (by (try simp only [List.map_toArray, List.map_cons, List.map_nil]); first | done | rfl) ?_
                            refine (from_c n1 d1 HI.out.1 HI.out.2.1 _).mono ?_
                            rintro e W' ⟨x1, y1, rfl, hx1, hy1, hb⟩
                            refine ⟨_, rfl, ?_⟩
                            have kX := blk_below hX hb
                            have kY := blk_below hY hb
                            refine hK.out _ _ ⟨cl2 kX, cl2 kY⟩ (fun hHeld => ?_)
                            clear hK K
                            refine norm_ (a' := putAll _ _) ?_ (hN1 ⟨x1, y1⟩ _ ⟨⟨kX, kY, blk_below hZ hb, below_step hB hb⟩, ⟨hx1, hy1⟩, trivial⟩)
                            first | (simp only [putAll, Act.put, List.setIfInBounds_toArray, List.set_cons_zero, List.set_cons_succ, i64_w, i32_w]; done) | (simp only [putAll, Act.put, List.setIfInBounds_toArray, List.set_cons_zero, List.set_cons_succ, i64_w, i32_w]; rfl)
                          · skip
                            have hb := below_alloc (Below.refl W.heap.size W) (.cells #[.slice none 0 0, .slice none 0 0, .bool false] 62 (0, 0))
                            have h8 := blk_new W (.cells #[.slice none 0 0, .slice none 0 0, .bool false] 62 (0, 0))
                            have l8 : w.heap.size ≤ W.heap.size := hB.size
                            refine value_ (v := .pointer (some ⟨W.heap.size, 0, none⟩)) (w1 := W.alloc (.cells #[.slice none 0 0, .slice none 0 0, .bool false] 62 (0, 0))) (by rfl) rfl (by first | (go_simp; done) | (go_simp; rfl)) ?_
                            have kX := blk_below hX hb
                            have kY := blk_below hY hb
                            refine hK.out _ _ ⟨cl2 kX, cl2 kY⟩ (fun hHeld => ?_)
                            clear hK K
                            refine norm_ (a' := putAll _ _) ?_ (hN4 W.heap.size _ ⟨⟨kX, kY, blk_below hZ hb, below_step hB hb⟩, ⟨h8, l8⟩, trivial⟩)
                            first | (simp only [putAll, Act.put, List.setIfInBounds_toArray, List.set_cons_zero, List.set_cons_succ, i64_w, i32_w]; done) | (simp only [putAll, Act.put, List.setIfInBounds_toArray, List.set_cons_zero, List.set_cons_succ, i64_w, i32_w]; rfl)
                          · skip
                            have hb := below_alloc (Below.refl W.heap.size W) (.cells #[.slice none 0 0, .slice none 0 0, .bool false] 62 (0, 0))
                            have h9 := blk_new W (.cells #[.slice none 0 0, .slice none 0 0, .bool false] 62 (0, 0))
                            have l9 : w.heap.size ≤ W.heap.size := hB.size
                            refine value_ (v := .pointer (some ⟨W.heap.size, 0, none⟩)) (w1 := W.alloc (.cells #[.slice none 0 0, .slice none 0 0, .bool false] 62 (0, 0))) (by rfl) rfl (by first | (go_simp; done) | (go_simp; rfl)) ?_
                            have kX := blk_below hX hb
                            have kY := blk_below hY hb
                            refine hK.out _ _ ⟨cl2 kX, cl2 kY⟩ (fun hHeld => ?_)
                            clear hK K
                            refine norm_ (a' := putAll _ _) ?_ (hN5 W.heap.size _ ⟨⟨kX, kY, blk_below hZ hb, below_step hB hb⟩, ⟨h9, l9⟩, trivial⟩)
                            first | (simp only [putAll, Act.put, List.setIfInBounds_toArray, List.set_cons_zero, List.set_cons_succ, i64_w, i32_w]; done) | (simp only [putAll, Act.put, List.setIfInBounds_toArray, List.set_cons_zero, List.set_cons_succ, i64_w, i32_w]; rfl)
                        · clear hX hY hZ hB hHeld
                          clear HXq HYq HZq HBq W
                          rintro ⟨x1, y1⟩ W ⟨⟨hX, hY, hZ, hB⟩, ⟨hx1, hy1⟩, _⟩
                          refine norm_ (a' := ?_) ?_ ?_
                          rotate_left
                          · simp only [putAll, Act.put, List.setIfInBounds_toArray, List.set_cons_zero, List.set_cons_succ, i64_w, i32_w]
                            rfl
                          refine three_ (i := 3) (j := 4) (k := 5) (Ni := some 31) (Nj := some 8) (Nk := some 9) #[true, true, true, true, false, false, false, false] #[true, true, true, false, true, false, false, false] #[true, true, true, false, false, true, false, false] rfl rfl rfl rfl rfl rfl (three_of HT_.out (by kernel_rfl)) (by decide) (by decide) (by decide) (fun K hK => ?_) (fun K hK => ?_) (fun K hK => ?_)
                          · skip
                            refine goes_ Try.func32 (by kernel_rfl) rfl #[.agg #[.int .i64 n2, .int .i64 d2]] (by rfl) rfl rfl (by (try simp only [List.map_toArray, List.map_cons, List.map_nil]); first | done | rfl) ?_
                            refine (from_c n2 d2 HI.out.2.2.1 HI.out.2.2.2 _).mono ?_
                            rintro e W' ⟨x2, y2, rfl, hx2, hy2, hb⟩
                            refine ⟨_, rfl, ?_⟩
                            have kX := blk_below hX hb
                            have kY := blk_below hY hb
                            refine hK.out _ _ ⟨cl2 kX, cl2 kY⟩ (fun hHeld => ?_)
                            clear hK K
                            refine norm_ (a' := putAll _ _) ?_ (hN13 ⟨x1, y1, x2, y2⟩ _ ⟨⟨kX, kY, blk_below hZ hb, below_step hB hb⟩, ⟨hx1.below hb, hy1.below hb⟩, ⟨hx2, hy2⟩, trivial⟩)
                            first | (simp only [putAll, Act.put, List.setIfInBounds_toArray, List.set_cons_zero, List.set_cons_succ, i64_w, i32_w]; done) | (simp only [putAll, Act.put, List.setIfInBounds_toArray, List.set_cons_zero, List.set_cons_succ, i64_w, i32_w]; rfl)
                          · skip
                            have hb := below_alloc (Below.refl W.heap.size W) (.cells #[.slice none 0 0, .slice none 0 0, .bool false] 62 (0, 0))
                            have h8 := blk_new W (.cells #[.slice none 0 0, .slice none 0 0, .bool false] 62 (0, 0))
                            have l8 : w.heap.size ≤ W.heap.size := hB.size
                            refine value_ (v := .pointer (some ⟨W.heap.size, 0, none⟩)) (w1 := W.alloc (.cells #[.slice none 0 0, .slice none 0 0, .bool false] 62 (0, 0))) (by rfl) rfl (by first | (go_simp; done) | (go_simp; rfl)) ?_
                            have kX := blk_below hX hb
                            have kY := blk_below hY hb
                            refine hK.out _ _ ⟨cl2 kX, cl2 kY⟩ (fun hHeld => ?_)
                            clear hK K
                            refine norm_ (a' := putAll _ _) ?_ (hN14 ⟨x1, y1, W.heap.size⟩ _ ⟨⟨kX, kY, blk_below hZ hb, below_step hB hb⟩, ⟨hx1.below hb, hy1.below hb⟩, ⟨h8, l8⟩, trivial⟩)
                            first | (simp only [putAll, Act.put, List.setIfInBounds_toArray, List.set_cons_zero, List.set_cons_succ, i64_w, i32_w]; done) | (simp only [putAll, Act.put, List.setIfInBounds_toArray, List.set_cons_zero, List.set_cons_succ, i64_w, i32_w]; rfl)
                          · skip
                            have hb := below_alloc (Below.refl W.heap.size W) (.cells #[.slice none 0 0, .slice none 0 0, .bool false] 62 (0, 0))
                            have h9 := blk_new W (.cells #[.slice none 0 0, .slice none 0 0, .bool false] 62 (0, 0))
                            have l9 : w.heap.size ≤ W.heap.size := hB.size
                            refine value_ (v := .pointer (some ⟨W.heap.size, 0, none⟩)) (w1 := W.alloc (.cells #[.slice none 0 0, .slice none 0 0, .bool false] 62 (0, 0))) (by rfl) rfl (by first | (go_simp; done) | (go_simp; rfl)) ?_
                            have kX := blk_below hX hb
                            have kY := blk_below hY hb
                            refine hK.out _ _ ⟨cl2 kX, cl2 kY⟩ (fun hHeld => ?_)
                            clear hK K
                            refine norm_ (a' := putAll _ _) ?_ (hN15 ⟨x1, y1, W.heap.size⟩ _ ⟨⟨kX, kY, blk_below hZ hb, below_step hB hb⟩, ⟨hx1.below hb, hy1.below hb⟩, ⟨h9, l9⟩, trivial⟩)
                            first | (simp only [putAll, Act.put, List.setIfInBounds_toArray, List.set_cons_zero, List.set_cons_succ, i64_w, i32_w]; done) | (simp only [putAll, Act.put, List.setIfInBounds_toArray, List.set_cons_zero, List.set_cons_succ, i64_w, i32_w]; rfl)
                      · clear hX hY hZ hB hHeld
                        clear HXq HYq HZq HBq W
                        rintro p9 W ⟨⟨hX, hY, hZ, hB⟩, ⟨h9, l9⟩, _⟩
                        refine norm_ (a' := ?_) ?_ ?_
                        rotate_left
                        · simp only [putAll, Act.put, List.setIfInBounds_toArray, List.set_cons_zero, List.set_cons_succ, i64_w, i32_w]
                          rfl
                        refine two_ (i := 1) (j := 4) (Ni := some 29) (Nj := some 8) #[true, true, true, false, false, true, false, false] #[true, false, true, false, true, true, false, false] rfl rfl rfl rfl (two_of HT_.out (by kernel_rfl)) (by decide) (by decide) (fun K hK => ?_) (fun K hK => ?_)
                        · skip
                          refine goes_ Try.func32 (by kernel_rfl) rfl #[.agg #[.int .i64 n1, .int .i64 d1]] (by rfl) rfl rfl (by (try simp only [List.map_toArray, List.map_cons, List.map_nil]); first | done | rfl) ?_
                          refine (from_c n1 d1 HI.out.1 HI.out.2.1 _).mono ?_
                          rintro e W' ⟨x1, y1, rfl, hx1, hy1, hb⟩
                          refine ⟨_, rfl, ?_⟩
                          have kX := blk_below hX hb
                          have kY := blk_below hY hb
                          refine hK.out _ _ ⟨cl2 kX, cl2 kY⟩ (fun hHeld => ?_)
                          clear hK K
                          refine norm_ (a' := putAll _ _) ?_ (hN15 ⟨x1, y1, p9⟩ _ ⟨⟨kX, kY, blk_below hZ hb, below_step hB hb⟩, ⟨hx1, hy1⟩, ⟨blk_below h9 hb, l9⟩, trivial⟩)
                          first | (simp only [putAll, Act.put, List.setIfInBounds_toArray, List.set_cons_zero, List.set_cons_succ, i64_w, i32_w]; done) | (simp only [putAll, Act.put, List.setIfInBounds_toArray, List.set_cons_zero, List.set_cons_succ, i64_w, i32_w]; rfl)
                        · skip
                          have hb := below_alloc (Below.refl W.heap.size W) (.cells #[.slice none 0 0, .slice none 0 0, .bool false] 62 (0, 0))
                          have h8 := blk_new W (.cells #[.slice none 0 0, .slice none 0 0, .bool false] 62 (0, 0))
                          have l8 : w.heap.size ≤ W.heap.size := hB.size
                          refine value_ (v := .pointer (some ⟨W.heap.size, 0, none⟩)) (w1 := W.alloc (.cells #[.slice none 0 0, .slice none 0 0, .bool false] 62 (0, 0))) (by rfl) rfl (by first | (go_simp; done) | (go_simp; rfl)) ?_
                          have hl : p9 < W.heap.size := blk_lt h9
                          have kX := blk_below hX hb
                          have kY := blk_below hY hb
                          refine hK.out _ _ ⟨cl2 kX, cl2 kY⟩ (fun hHeld => ?_)
                          clear hK K
                          refine norm_ (a' := putAll _ _) ?_ (hN45 ⟨W.heap.size, p9⟩ _ ⟨⟨kX, kY, blk_below hZ hb, below_step hB hb⟩, ⟨h8, l8⟩, ⟨blk_below h9 hb, l9⟩, Nat.ne_of_gt hl⟩)
                          first | (simp only [putAll, Act.put, List.setIfInBounds_toArray, List.set_cons_zero, List.set_cons_succ, i64_w, i32_w]; done) | (simp only [putAll, Act.put, List.setIfInBounds_toArray, List.set_cons_zero, List.set_cons_succ, i64_w, i32_w]; rfl)
                    · clear hX hY hZ hB hHeld
                      clear HXq HYq HZq HBq W
                      rintro p8 W ⟨⟨hX, hY, hZ, hB⟩, ⟨h8, l8⟩, _⟩
                      refine norm_ (a' := ?_) ?_ ?_
                      rotate_left
                      · simp only [putAll, Act.put, List.setIfInBounds_toArray, List.set_cons_zero, List.set_cons_succ, i64_w, i32_w]
                        rfl
                      refine two_ (i := 1) (j := 5) (Ni := some 29) (Nj := some 9) #[true, true, true, false, true, false, false, false] #[true, false, true, false, true, true, false, false] rfl rfl rfl rfl (two_of HT_.out (by kernel_rfl)) (by decide) (by decide) (fun K hK => ?_) (fun K hK => ?_)
                      · skip
                        refine goes_ Try.func32 (by kernel_rfl) rfl #[.agg #[.int .i64 n1, .int .i64 d1]] (by rfl) rfl rfl (by (try simp only [List.map_toArray, List.map_cons, List.map_nil]); first | done | rfl) ?_
                        refine (from_c n1 d1 HI.out.1 HI.out.2.1 _).mono ?_
                        rintro e W' ⟨x1, y1, rfl, hx1, hy1, hb⟩
                        refine ⟨_, rfl, ?_⟩
                        have kX := blk_below hX hb
                        have kY := blk_below hY hb
                        refine hK.out _ _ ⟨cl2 kX, cl2 kY⟩ (fun hHeld => ?_)
                        clear hK K
                        refine norm_ (a' := putAll _ _) ?_ (hN14 ⟨x1, y1, p8⟩ _ ⟨⟨kX, kY, blk_below hZ hb, below_step hB hb⟩, ⟨hx1, hy1⟩, ⟨blk_below h8 hb, l8⟩, trivial⟩)
                        first | (simp only [putAll, Act.put, List.setIfInBounds_toArray, List.set_cons_zero, List.set_cons_succ, i64_w, i32_w]; done) | (simp only [putAll, Act.put, List.setIfInBounds_toArray, List.set_cons_zero, List.set_cons_succ, i64_w, i32_w]; rfl)
                      · skip
                        have hb := below_alloc (Below.refl W.heap.size W) (.cells #[.slice none 0 0, .slice none 0 0, .bool false] 62 (0, 0))
                        have h9 := blk_new W (.cells #[.slice none 0 0, .slice none 0 0, .bool false] 62 (0, 0))
                        have l9 : w.heap.size ≤ W.heap.size := hB.size
                        refine value_ (v := .pointer (some ⟨W.heap.size, 0, none⟩)) (w1 := W.alloc (.cells #[.slice none 0 0, .slice none 0 0, .bool false] 62 (0, 0))) (by rfl) rfl (by first | (go_simp; done) | (go_simp; rfl)) ?_
                        have hl : p8 < W.heap.size := blk_lt h8
                        have kX := blk_below hX hb
                        have kY := blk_below hY hb
                        refine hK.out _ _ ⟨cl2 kX, cl2 kY⟩ (fun hHeld => ?_)
                        clear hK K
                        refine norm_ (a' := putAll _ _) ?_ (hN45 ⟨p8, W.heap.size⟩ _ ⟨⟨kX, kY, blk_below hZ hb, below_step hB hb⟩, ⟨blk_below h8 hb, l8⟩, ⟨h9, l9⟩, Nat.ne_of_lt hl⟩)
                        first | (simp only [putAll, Act.put, List.setIfInBounds_toArray, List.set_cons_zero, List.set_cons_succ, i64_w, i32_w]; done) | (simp only [putAll, Act.put, List.setIfInBounds_toArray, List.set_cons_zero, List.set_cons_succ, i64_w, i32_w]; rfl)
                  · clear hX hY hZ hB hHeld
                    clear HXq HYq HZq HBq W
                    rintro ⟨x1, y1, x2, y2⟩ W ⟨⟨hX, hY, hZ, hB⟩, ⟨hx1, hy1⟩, ⟨hx2, hy2⟩, _⟩
                    refine norm_ (a' := ?_) ?_ ?_
                    rotate_left
                    · simp only [putAll, Act.put, List.setIfInBounds_toArray, List.set_cons_zero, List.set_cons_succ, i64_w, i32_w]
                      rfl
                    refine two_ (i := 4) (j := 5) (Ni := some 8) (Nj := some 9) #[true, true, true, true, true, false, false, false] #[true, true, true, true, false, true, false, false] rfl rfl rfl rfl (two_of HT_.out (by kernel_rfl)) (by decide) (by decide) (fun K hK => ?_) (fun K hK => ?_)
                    · skip
                      have hb := below_alloc (Below.refl W.heap.size W) (.cells #[.slice none 0 0, .slice none 0 0, .bool false] 62 (0, 0))
                      have h8 := blk_new W (.cells #[.slice none 0 0, .slice none 0 0, .bool false] 62 (0, 0))
                      have l8 : w.heap.size ≤ W.heap.size := hB.size
                      refine value_ (v := .pointer (some ⟨W.heap.size, 0, none⟩)) (w1 := W.alloc (.cells #[.slice none 0 0, .slice none 0 0, .bool false] 62 (0, 0))) (by rfl) rfl (by first | (go_simp; done) | (go_simp; rfl)) ?_
                      have kX := blk_below hX hb
                      have kY := blk_below hY hb
                      refine hK.out _ _ ⟨cl2 kX, cl2 kY⟩ (fun hHeld => ?_)
                      clear hK K
                      refine norm_ (a' := putAll _ _) ?_ (hN134 ⟨x1, y1, x2, y2, W.heap.size⟩ _ ⟨⟨kX, kY, blk_below hZ hb, below_step hB hb⟩, ⟨hx1.below hb, hy1.below hb⟩, ⟨hx2.below hb, hy2.below hb⟩, ⟨h8, l8⟩, trivial⟩)
                      first | (simp only [putAll, Act.put, List.setIfInBounds_toArray, List.set_cons_zero, List.set_cons_succ, i64_w, i32_w]; done) | (simp only [putAll, Act.put, List.setIfInBounds_toArray, List.set_cons_zero, List.set_cons_succ, i64_w, i32_w]; rfl)
                    · skip
                      have hb := below_alloc (Below.refl W.heap.size W) (.cells #[.slice none 0 0, .slice none 0 0, .bool false] 62 (0, 0))
                      have h9 := blk_new W (.cells #[.slice none 0 0, .slice none 0 0, .bool false] 62 (0, 0))
                      have l9 : w.heap.size ≤ W.heap.size := hB.size
                      refine value_ (v := .pointer (some ⟨W.heap.size, 0, none⟩)) (w1 := W.alloc (.cells #[.slice none 0 0, .slice none 0 0, .bool false] 62 (0, 0))) (by rfl) rfl (by first | (go_simp; done) | (go_simp; rfl)) ?_
                      have kX := blk_below hX hb
                      have kY := blk_below hY hb
                      refine hK.out _ _ ⟨cl2 kX, cl2 kY⟩ (fun hHeld => ?_)
                      clear hK K
                      refine norm_ (a' := putAll _ _) ?_ (hN135 ⟨x1, y1, x2, y2, W.heap.size⟩ _ ⟨⟨kX, kY, blk_below hZ hb, below_step hB hb⟩, ⟨hx1.below hb, hy1.below hb⟩, ⟨hx2.below hb, hy2.below hb⟩, ⟨h9, l9⟩, trivial⟩)
                      first | (simp only [putAll, Act.put, List.setIfInBounds_toArray, List.set_cons_zero, List.set_cons_succ, i64_w, i32_w]; done) | (simp only [putAll, Act.put, List.setIfInBounds_toArray, List.set_cons_zero, List.set_cons_succ, i64_w, i32_w]; rfl)
                · clear hX hY hZ hB hHeld
                  clear HXq HYq HZq HBq W
                  rintro ⟨x1, y1, p9⟩ W ⟨⟨hX, hY, hZ, hB⟩, ⟨hx1, hy1⟩, ⟨h9, l9⟩, _⟩
                  refine norm_ (a' := ?_) ?_ ?_
                  rotate_left
                  · simp only [putAll, Act.put, List.setIfInBounds_toArray, List.set_cons_zero, List.set_cons_succ, i64_w, i32_w]
                    rfl
                  refine two_ (i := 3) (j := 4) (Ni := some 31) (Nj := some 8) #[true, true, true, true, false, true, false, false] #[true, true, true, false, true, true, false, false] rfl rfl rfl rfl (two_of HT_.out (by kernel_rfl)) (by decide) (by decide) (fun K hK => ?_) (fun K hK => ?_)
                  · skip
                    refine goes_ Try.func32 (by kernel_rfl) rfl #[.agg #[.int .i64 n2, .int .i64 d2]] (by rfl) rfl rfl (by (try simp only [List.map_toArray, List.map_cons, List.map_nil]); first | done | rfl) ?_
                    refine (from_c n2 d2 HI.out.2.2.1 HI.out.2.2.2 _).mono ?_
                    rintro e W' ⟨x2, y2, rfl, hx2, hy2, hb⟩
                    refine ⟨_, rfl, ?_⟩
                    have kX := blk_below hX hb
                    have kY := blk_below hY hb
                    refine hK.out _ _ ⟨cl2 kX, cl2 kY⟩ (fun hHeld => ?_)
                    clear hK K
                    refine norm_ (a' := putAll _ _) ?_ (hN135 ⟨x1, y1, x2, y2, p9⟩ _ ⟨⟨kX, kY, blk_below hZ hb, below_step hB hb⟩, ⟨hx1.below hb, hy1.below hb⟩, ⟨hx2, hy2⟩, ⟨blk_below h9 hb, l9⟩, trivial⟩)
                    first | (simp only [putAll, Act.put, List.setIfInBounds_toArray, List.set_cons_zero, List.set_cons_succ, i64_w, i32_w]; done) | (simp only [putAll, Act.put, List.setIfInBounds_toArray, List.set_cons_zero, List.set_cons_succ, i64_w, i32_w]; rfl)
                  · skip
                    have hb := below_alloc (Below.refl W.heap.size W) (.cells #[.slice none 0 0, .slice none 0 0, .bool false] 62 (0, 0))
                    have h8 := blk_new W (.cells #[.slice none 0 0, .slice none 0 0, .bool false] 62 (0, 0))
                    have l8 : w.heap.size ≤ W.heap.size := hB.size
                    refine value_ (v := .pointer (some ⟨W.heap.size, 0, none⟩)) (w1 := W.alloc (.cells #[.slice none 0 0, .slice none 0 0, .bool false] 62 (0, 0))) (by rfl) rfl (by first | (go_simp; done) | (go_simp; rfl)) ?_
                    have hl : p9 < W.heap.size := blk_lt h9
                    have kX := blk_below hX hb
                    have kY := blk_below hY hb
                    refine hK.out _ _ ⟨cl2 kX, cl2 kY⟩ (fun hHeld => ?_)
                    clear hK K
                    refine norm_ (a' := putAll _ _) ?_ (hN145 ⟨x1, y1, W.heap.size, p9⟩ _ ⟨⟨kX, kY, blk_below hZ hb, below_step hB hb⟩, ⟨hx1.below hb, hy1.below hb⟩, ⟨h8, l8⟩, ⟨blk_below h9 hb, l9⟩, Nat.ne_of_gt hl⟩)
                    first | (simp only [putAll, Act.put, List.setIfInBounds_toArray, List.set_cons_zero, List.set_cons_succ, i64_w, i32_w]; done) | (simp only [putAll, Act.put, List.setIfInBounds_toArray, List.set_cons_zero, List.set_cons_succ, i64_w, i32_w]; rfl)
              · clear hX hY hZ hB hHeld
                clear HXq HYq HZq HBq W
                rintro ⟨x1, y1, p8⟩ W ⟨⟨hX, hY, hZ, hB⟩, ⟨hx1, hy1⟩, ⟨h8, l8⟩, _⟩
                refine norm_ (a' := ?_) ?_ ?_
                rotate_left
                · simp only [putAll, Act.put, List.setIfInBounds_toArray, List.set_cons_zero, List.set_cons_succ, i64_w, i32_w]
                  rfl
                refine two_ (i := 3) (j := 5) (Ni := some 31) (Nj := some 9) #[true, true, true, true, true, false, false, false] #[true, true, true, false, true, true, false, false] rfl rfl rfl rfl (two_of HT_.out (by kernel_rfl)) (by decide) (by decide) (fun K hK => ?_) (fun K hK => ?_)
                · skip
                  refine goes_ Try.func32 (by kernel_rfl) rfl #[.agg #[.int .i64 n2, .int .i64 d2]] (by rfl) rfl rfl (by (try simp only [List.map_toArray, List.map_cons, List.map_nil]); first | done | rfl) ?_
                  refine (from_c n2 d2 HI.out.2.2.1 HI.out.2.2.2 _).mono ?_
                  rintro e W' ⟨x2, y2, rfl, hx2, hy2, hb⟩
                  refine ⟨_, rfl, ?_⟩
                  have kX := blk_below hX hb
                  have kY := blk_below hY hb
                  refine hK.out _ _ ⟨cl2 kX, cl2 kY⟩ (fun hHeld => ?_)
                  clear hK K
                  refine norm_ (a' := putAll _ _) ?_ (hN134 ⟨x1, y1, x2, y2, p8⟩ _ ⟨⟨kX, kY, blk_below hZ hb, below_step hB hb⟩, ⟨hx1.below hb, hy1.below hb⟩, ⟨hx2, hy2⟩, ⟨blk_below h8 hb, l8⟩, trivial⟩)
                  first | (simp only [putAll, Act.put, List.setIfInBounds_toArray, List.set_cons_zero, List.set_cons_succ, i64_w, i32_w]; done) | (simp only [putAll, Act.put, List.setIfInBounds_toArray, List.set_cons_zero, List.set_cons_succ, i64_w, i32_w]; rfl)
                · skip
                  have hb := below_alloc (Below.refl W.heap.size W) (.cells #[.slice none 0 0, .slice none 0 0, .bool false] 62 (0, 0))
                  have h9 := blk_new W (.cells #[.slice none 0 0, .slice none 0 0, .bool false] 62 (0, 0))
                  have l9 : w.heap.size ≤ W.heap.size := hB.size
                  refine value_ (v := .pointer (some ⟨W.heap.size, 0, none⟩)) (w1 := W.alloc (.cells #[.slice none 0 0, .slice none 0 0, .bool false] 62 (0, 0))) (by rfl) rfl (by first | (go_simp; done) | (go_simp; rfl)) ?_
                  have hl : p8 < W.heap.size := blk_lt h8
                  have kX := blk_below hX hb
                  have kY := blk_below hY hb
                  refine hK.out _ _ ⟨cl2 kX, cl2 kY⟩ (fun hHeld => ?_)
                  clear hK K
                  refine norm_ (a' := putAll _ _) ?_ (hN145 ⟨x1, y1, p8, W.heap.size⟩ _ ⟨⟨kX, kY, blk_below hZ hb, below_step hB hb⟩, ⟨hx1.below hb, hy1.below hb⟩, ⟨blk_below h8 hb, l8⟩, ⟨h9, l9⟩, Nat.ne_of_lt hl⟩)
                  first | (simp only [putAll, Act.put, List.setIfInBounds_toArray, List.set_cons_zero, List.set_cons_succ, i64_w, i32_w]; done) | (simp only [putAll, Act.put, List.setIfInBounds_toArray, List.set_cons_zero, List.set_cons_succ, i64_w, i32_w]; rfl)
            · clear hX hY hZ hB hHeld
              clear HXq HYq HZq HBq W
              rintro ⟨p8, p9⟩ W ⟨⟨hX, hY, hZ, hB⟩, ⟨h8, l8⟩, ⟨h9, l9⟩, h89⟩
              refine norm_ (a' := ?_) ?_ ?_
              rotate_left
              · simp only [putAll, Act.put, List.setIfInBounds_toArray, List.set_cons_zero, List.set_cons_succ, i64_w, i32_w]
                rfl
              refine one_ (i := 1) (N := some 29) #[true, true, true, false, true, true, false, false] rfl rfl (one_of HT_.out (by kernel_rfl)) (by decide) (fun K hK => ?_)
              refine goes_ Try.func32 (by kernel_rfl) rfl #[.agg #[.int .i64 n1, .int .i64 d1]] (by rfl) rfl rfl (by (try simp only [List.map_toArray, List.map_cons, List.map_nil]); first | done | rfl) ?_
              refine (from_c n1 d1 HI.out.1 HI.out.2.1 _).mono ?_
              rintro e W' ⟨x1, y1, rfl, hx1, hy1, hb⟩
              refine ⟨_, rfl, ?_⟩
              have kX := blk_below hX hb
              have kY := blk_below hY hb
              refine hK.out _ _ ⟨cl2 kX, cl2 kY⟩ (fun hHeld => ?_)
              clear hK K
              refine norm_ (a' := putAll _ _) ?_ (hN145 ⟨x1, y1, p8, p9⟩ _ ⟨⟨kX, kY, blk_below hZ hb, below_step hB hb⟩, ⟨hx1, hy1⟩, ⟨blk_below h8 hb, l8⟩, ⟨blk_below h9 hb, l9⟩, h89⟩)
              first | (simp only [putAll, Act.put, List.setIfInBounds_toArray, List.set_cons_zero, List.set_cons_succ, i64_w, i32_w]; done) | (simp only [putAll, Act.put, List.setIfInBounds_toArray, List.set_cons_zero, List.set_cons_succ, i64_w, i32_w]; rfl)
          · clear hX hY hZ hB hHeld
            clear HXq HYq HZq HBq W
            rintro ⟨x1, y1, x2, y2, p9⟩ W ⟨⟨hX, hY, hZ, hB⟩, ⟨hx1, hy1⟩, ⟨hx2, hy2⟩, ⟨h9, l9⟩, _⟩
            refine norm_ (a' := ?_) ?_ ?_
            rotate_left
            · simp only [putAll, Act.put, List.setIfInBounds_toArray, List.set_cons_zero, List.set_cons_succ, i64_w, i32_w]
              rfl
            refine one_ (i := 4) (N := some 8) #[true, true, true, true, true, true, false, false] rfl rfl (one_of HT_.out (by kernel_rfl)) (by decide) (fun K hK => ?_)
            have hb := below_alloc (Below.refl W.heap.size W) (.cells #[.slice none 0 0, .slice none 0 0, .bool false] 62 (0, 0))
            have h8 := blk_new W (.cells #[.slice none 0 0, .slice none 0 0, .bool false] 62 (0, 0))
            have l8 : w.heap.size ≤ W.heap.size := hB.size
            refine value_ (v := .pointer (some ⟨W.heap.size, 0, none⟩)) (w1 := W.alloc (.cells #[.slice none 0 0, .slice none 0 0, .bool false] 62 (0, 0))) (by rfl) rfl (by first | (go_simp; done) | (go_simp; rfl)) ?_
            have hl : p9 < W.heap.size := blk_lt h9
            have kX := blk_below hX hb
            have kY := blk_below hY hb
            refine hK.out _ _ ⟨cl2 kX, cl2 kY⟩ (fun hHeld => ?_)
            clear hK K
            refine norm_ (a' := putAll _ _) ?_ (hN1345 ⟨x1, y1, x2, y2, W.heap.size, p9⟩ _ ⟨⟨kX, kY, blk_below hZ hb, below_step hB hb⟩, ⟨hx1.below hb, hy1.below hb⟩, ⟨hx2.below hb, hy2.below hb⟩, ⟨h8, l8⟩, ⟨blk_below h9 hb, l9⟩, Nat.ne_of_gt hl⟩)
            first | (simp only [putAll, Act.put, List.setIfInBounds_toArray, List.set_cons_zero, List.set_cons_succ, i64_w, i32_w]; done) | (simp only [putAll, Act.put, List.setIfInBounds_toArray, List.set_cons_zero, List.set_cons_succ, i64_w, i32_w]; rfl)
        · clear hX hY hZ hB hHeld
          clear HXq HYq HZq HBq W
          rintro ⟨x1, y1, x2, y2, p8⟩ W ⟨⟨hX, hY, hZ, hB⟩, ⟨hx1, hy1⟩, ⟨hx2, hy2⟩, ⟨h8, l8⟩, _⟩
          refine norm_ (a' := ?_) ?_ ?_
          rotate_left
          · simp only [putAll, Act.put, List.setIfInBounds_toArray, List.set_cons_zero, List.set_cons_succ, i64_w, i32_w]
            rfl
          refine one_ (i := 5) (N := some 9) #[true, true, true, true, true, true, false, false] rfl rfl (one_of HT_.out (by kernel_rfl)) (by decide) (fun K hK => ?_)
          have hb := below_alloc (Below.refl W.heap.size W) (.cells #[.slice none 0 0, .slice none 0 0, .bool false] 62 (0, 0))
          have h9 := blk_new W (.cells #[.slice none 0 0, .slice none 0 0, .bool false] 62 (0, 0))
          have l9 : w.heap.size ≤ W.heap.size := hB.size
          refine value_ (v := .pointer (some ⟨W.heap.size, 0, none⟩)) (w1 := W.alloc (.cells #[.slice none 0 0, .slice none 0 0, .bool false] 62 (0, 0))) (by rfl) rfl (by first | (go_simp; done) | (go_simp; rfl)) ?_
          have hl : p8 < W.heap.size := blk_lt h8
          have kX := blk_below hX hb
          have kY := blk_below hY hb
          refine hK.out _ _ ⟨cl2 kX, cl2 kY⟩ (fun hHeld => ?_)
          clear hK K
          refine norm_ (a' := putAll _ _) ?_ (hN1345 ⟨x1, y1, x2, y2, p8, W.heap.size⟩ _ ⟨⟨kX, kY, blk_below hZ hb, below_step hB hb⟩, ⟨hx1.below hb, hy1.below hb⟩, ⟨hx2.below hb, hy2.below hb⟩, ⟨blk_below h8 hb, l8⟩, ⟨h9, l9⟩, Nat.ne_of_lt hl⟩)
          first | (simp only [putAll, Act.put, List.setIfInBounds_toArray, List.set_cons_zero, List.set_cons_succ, i64_w, i32_w]; done) | (simp only [putAll, Act.put, List.setIfInBounds_toArray, List.set_cons_zero, List.set_cons_succ, i64_w, i32_w]; rfl)
      · clear hX hY hZ hB hHeld
        clear HXq HYq HZq HBq W
        rintro ⟨x1, y1, p8, p9⟩ W ⟨⟨hX, hY, hZ, hB⟩, ⟨hx1, hy1⟩, ⟨h8, l8⟩, ⟨h9, l9⟩, h89⟩
        refine norm_ (a' := ?_) ?_ ?_
        rotate_left
        · simp only [putAll, Act.put, List.setIfInBounds_toArray, List.set_cons_zero, List.set_cons_succ, i64_w, i32_w]
          rfl
        refine one_ (i := 3) (N := some 31) #[true, true, true, true, true, true, false, false] rfl rfl (one_of HT_.out (by kernel_rfl)) (by decide) (fun K hK => ?_)
        refine goes_ Try.func32 (by kernel_rfl) rfl #[.agg #[.int .i64 n2, .int .i64 d2]] (by rfl) rfl rfl (by (try simp only [List.map_toArray, List.map_cons, List.map_nil]); first | done | rfl) ?_
        refine (from_c n2 d2 HI.out.2.2.1 HI.out.2.2.2 _).mono ?_
        rintro e W' ⟨x2, y2, rfl, hx2, hy2, hb⟩
        refine ⟨_, rfl, ?_⟩
        have kX := blk_below hX hb
        have kY := blk_below hY hb
        refine hK.out _ _ ⟨cl2 kX, cl2 kY⟩ (fun hHeld => ?_)
        clear hK K
        refine norm_ (a' := putAll _ _) ?_ (hN1345 ⟨x1, y1, x2, y2, p8, p9⟩ _ ⟨⟨kX, kY, blk_below hZ hb, below_step hB hb⟩, ⟨hx1.below hb, hy1.below hb⟩, ⟨hx2, hy2⟩, ⟨blk_below h8 hb, l8⟩, ⟨blk_below h9 hb, l9⟩, h89⟩)
        first | (simp only [putAll, Act.put, List.setIfInBounds_toArray, List.set_cons_zero, List.set_cons_succ, i64_w, i32_w]; done) | (simp only [putAll, Act.put, List.setIfInBounds_toArray, List.set_cons_zero, List.set_cons_succ, i64_w, i32_w]; rfl)
    clear hX hY hZ hB hHeld
    clear HXq HYq HZq HBq W
    rintro ⟨x1, y1, x2, y2, p8, p9⟩ W ⟨⟨hX, hY, hZ, hB⟩, ⟨hx1, hy1⟩, ⟨hx2, hy2⟩, ⟨h8, l8⟩, ⟨h9, l9⟩, h89⟩
    refine norm_ (a' := ?_) ?_ ?_
    rotate_left
    · simp only [putAll, Act.put, List.setIfInBounds_toArray, List.set_cons_zero, List.set_cons_succ, i64_w, i32_w]
      rfl
    obtain ⟨Ax1, Lx1, cx1, rfl⟩ := NB.form hx1
    obtain ⟨Ay1, Ly1, cy1, rfl⟩ := NB.form hy1
    obtain ⟨Ax2, Lx2, cx2, rfl⟩ := NB.form hx2
    obtain ⟨Ay2, Ly2, cy2, rfl⟩ := NB.form hy2
    replace h8 := show W.heap[p8]? = some (.cells #[.slice none 0 0, .slice none 0 0, .bool false] 62 (0, 0)) from h8
    replace h9 := show W.heap[p9]? = some (.cells #[.slice none 0 0, .slice none 0 0, .bool false] 62 (0, 0)) from h9
    replace h89 : p8 ≠ p9 := h89
    replace l8 : w.heap.size ≤ p8 := l8
    replace l9 : w.heap.size ≤ p9 := l9
    have e18 := blk_ne hX h8 (by decide)
    have e28 := blk_ne hY h8 (by decide)
    have e38 := blk_ne hZ h8 (by decide)
    have e19 := blk_ne hX h9 (by decide)
    have e29 := blk_ne hY h9 (by decide)
    have e39 := blk_ne hZ h9 (by decide)
    have k0 := (cl0 h8).1
    have k1 := (cl0 h8).2.1
    have k2 := (cl0 h8).2.2
    have f0 := blk_frozen h8 0
    have f1 := blk_frozen h8 1
    have f2 := blk_frozen h8 2
    refine one_ (i := 6) (N := none) #[true, true, true, true, true, true, true, false] rfl rfl (one_of HT_.out (by kernel_rfl)) (by decide) (fun K hK => ?_)
    refine skip_ (w1 := ((W.setCell ⟨p8, 0, none⟩ (.slice Ax1 Lx1 cx1)).setCell ⟨p8, 1, none⟩ (.slice Ay1 Ly1 cy1)).setCell ⟨p8, 2, none⟩ (.bool (decide (n1 < 0)))) (by rfl) rfl (by first | (go_simp; done) | (go_simp; rfl)) ?_
    clear k0 k1 k2 f0 f1 f2
    have o1 := hx1.ne h8 (by decide)
    have o2 := hy1.ne h8 (by decide)
    have o3 := hx2.ne h8 (by decide)
    have o4 := hy2.ne h8 (by decide)
    have u1 := hx1.ne h9 (by decide)
    have u2 := hy1.ne h9 (by decide)
    have u3 := hx2.ne h9 (by decide)
    have u4 := hy2.ne h9 (by decide)
    replace hx1 := ((hx1.set o1 0 (.slice Ax1 Lx1 cx1)).set o1 1 (.slice Ay1 Ly1 cy1)).set o1 2 (.bool (decide (n1 < 0)))
    replace hy1 := ((hy1.set o2 0 (.slice Ax1 Lx1 cx1)).set o2 1 (.slice Ay1 Ly1 cy1)).set o2 2 (.bool (decide (n1 < 0)))
    replace hx2 := ((hx2.set o3 0 (.slice Ax1 Lx1 cx1)).set o3 1 (.slice Ay1 Ly1 cy1)).set o3 2 (.bool (decide (n1 < 0)))
    replace hy2 := ((hy2.set o4 0 (.slice Ax1 Lx1 cx1)).set o4 1 (.slice Ay1 Ly1 cy1)).set o4 2 (.bool (decide (n1 < 0)))
    replace hX := blk_far (p := ⟨p8, 2, none⟩) (blk_far (p := ⟨p8, 1, none⟩) (blk_far (p := ⟨p8, 0, none⟩) hX e18 (.slice Ax1 Lx1 cx1)) e18 (.slice Ay1 Ly1 cy1)) e18 (.bool (decide (n1 < 0)))
    replace hY := blk_far (p := ⟨p8, 2, none⟩) (blk_far (p := ⟨p8, 1, none⟩) (blk_far (p := ⟨p8, 0, none⟩) hY e28 (.slice Ax1 Lx1 cx1)) e28 (.slice Ay1 Ly1 cy1)) e28 (.bool (decide (n1 < 0)))
    replace hZ := blk_far (p := ⟨p8, 2, none⟩) (blk_far (p := ⟨p8, 1, none⟩) (blk_far (p := ⟨p8, 0, none⟩) hZ e38 (.slice Ax1 Lx1 cx1)) e38 (.slice Ay1 Ly1 cy1)) e38 (.bool (decide (n1 < 0)))
    replace h9 := blk_far (p := ⟨p8, 2, none⟩) (blk_far (p := ⟨p8, 1, none⟩) (blk_far (p := ⟨p8, 0, none⟩) h9 (Ne.symm h89) (.slice Ax1 Lx1 cx1)) (Ne.symm h89) (.slice Ay1 Ly1 cy1)) (Ne.symm h89) (.bool (decide (n1 < 0)))
    replace h8 := blk_put (cs' := #[(.slice Ax1 Lx1 cx1), (.slice Ay1 Ly1 cy1), (.bool (decide (n1 < 0)))]) (blk_put (cs' := #[(.slice Ax1 Lx1 cx1), (.slice Ay1 Ly1 cy1), .bool false]) (blk_put (cs' := #[(.slice Ax1 Lx1 cx1), .slice none 0 0, .bool false]) h8 0 (.slice Ax1 Lx1 cx1) rfl) 1 (.slice Ay1 Ly1 cy1) rfl) 2 (.bool (decide (n1 < 0))) rfl
    replace hB := below_set (j := 2) (v := (.bool (decide (n1 < 0)))) (below_set (j := 1) (v := (.slice Ay1 Ly1 cy1)) (below_set (j := 0) (v := (.slice Ax1 Lx1 cx1)) hB l8) l8) l8
    refine hK.out _ _ ⟨cl2 hX, cl2 hY⟩ (fun hHeld => ?_)
    clear hK K o1 o2 o3 o4
    refine norm_ (a' := ?_) ?_ ?_
    rotate_left
    · rfl
    generalize ((W.setCell ⟨p8, 0, none⟩ (.slice Ax1 Lx1 cx1)).setCell ⟨p8, 1, none⟩ (.slice Ay1 Ly1 cy1)).setCell ⟨p8, 2, none⟩ (.bool (decide (n1 < 0))) = W at hx1 hy1 hx2 hy2 hX hY hZ h9 h8 hB hHeld ⊢
    have k0 := (cl0 h9).1
    have k1 := (cl0 h9).2.1
    have k2 := (cl0 h9).2.2
    have f0 := blk_frozen h9 0
    have f1 := blk_frozen h9 1
    have f2 := blk_frozen h9 2
    refine one_ (i := 7) (N := none) #[true, true, true, true, true, true, true, true] rfl rfl (one_of HT_.out (by kernel_rfl)) (by decide) (fun K hK => ?_)
    refine skip_ (w1 := ((W.setCell ⟨p9, 0, none⟩ (.slice Ax2 Lx2 cx2)).setCell ⟨p9, 1, none⟩ (.slice Ay2 Ly2 cy2)).setCell ⟨p9, 2, none⟩ (.bool (decide (n2 < 0)))) (by rfl) rfl (by first | (go_simp; done) | (go_simp; rfl)) ?_
    clear k0 k1 k2 f0 f1 f2
    replace hx1 := ((hx1.set u1 0 (.slice Ax2 Lx2 cx2)).set u1 1 (.slice Ay2 Ly2 cy2)).set u1 2 (.bool (decide (n2 < 0)))
    replace hy1 := ((hy1.set u2 0 (.slice Ax2 Lx2 cx2)).set u2 1 (.slice Ay2 Ly2 cy2)).set u2 2 (.bool (decide (n2 < 0)))
    replace hx2 := ((hx2.set u3 0 (.slice Ax2 Lx2 cx2)).set u3 1 (.slice Ay2 Ly2 cy2)).set u3 2 (.bool (decide (n2 < 0)))
    replace hy2 := ((hy2.set u4 0 (.slice Ax2 Lx2 cx2)).set u4 1 (.slice Ay2 Ly2 cy2)).set u4 2 (.bool (decide (n2 < 0)))
    replace hX := blk_far (p := ⟨p9, 2, none⟩) (blk_far (p := ⟨p9, 1, none⟩) (blk_far (p := ⟨p9, 0, none⟩) hX e19 (.slice Ax2 Lx2 cx2)) e19 (.slice Ay2 Ly2 cy2)) e19 (.bool (decide (n2 < 0)))
    replace hY := blk_far (p := ⟨p9, 2, none⟩) (blk_far (p := ⟨p9, 1, none⟩) (blk_far (p := ⟨p9, 0, none⟩) hY e29 (.slice Ax2 Lx2 cx2)) e29 (.slice Ay2 Ly2 cy2)) e29 (.bool (decide (n2 < 0)))
    replace hZ := blk_far (p := ⟨p9, 2, none⟩) (blk_far (p := ⟨p9, 1, none⟩) (blk_far (p := ⟨p9, 0, none⟩) hZ e39 (.slice Ax2 Lx2 cx2)) e39 (.slice Ay2 Ly2 cy2)) e39 (.bool (decide (n2 < 0)))
    replace h8 := blk_far (p := ⟨p9, 2, none⟩) (blk_far (p := ⟨p9, 1, none⟩) (blk_far (p := ⟨p9, 0, none⟩) h8 h89 (.slice Ax2 Lx2 cx2)) h89 (.slice Ay2 Ly2 cy2)) h89 (.bool (decide (n2 < 0)))
    replace h9 := blk_put (cs' := #[(.slice Ax2 Lx2 cx2), (.slice Ay2 Ly2 cy2), (.bool (decide (n2 < 0)))]) (blk_put (cs' := #[(.slice Ax2 Lx2 cx2), (.slice Ay2 Ly2 cy2), .bool false]) (blk_put (cs' := #[(.slice Ax2 Lx2 cx2), .slice none 0 0, .bool false]) h9 0 (.slice Ax2 Lx2 cx2) rfl) 1 (.slice Ay2 Ly2 cy2) rfl) 2 (.bool (decide (n2 < 0))) rfl
    replace hB := below_set (j := 2) (v := (.bool (decide (n2 < 0)))) (below_set (j := 1) (v := (.slice Ay2 Ly2 cy2)) (below_set (j := 0) (v := (.slice Ax2 Lx2 cx2)) hB l9) l9) l9
    refine hK.out _ _ ⟨cl2 hX, cl2 hY⟩ (fun hHeld => ?_)
    clear hK K u1 u2 u3 u4
    refine norm_ (a' := ?_) ?_ ?_
    rotate_left
    · rfl
    obtain ⟨s1, hs1⟩ : ∃ s, decide (n1 < 0) = s := ⟨_, rfl⟩
    obtain ⟨s2, hs2⟩ : ∃ s, decide (n2 < 0) = s := ⟨_, rfl⟩
    generalize ((W.setCell ⟨p9, 0, none⟩ (.slice Ax2 Lx2 cx2)).setCell ⟨p9, 1, none⟩ (.slice Ay2 Ly2 cy2)).setCell ⟨p9, 2, none⟩ (.bool (decide (n2 < 0))) = W at hx1 hy1 hx2 hy2 hX hY hZ h9 h8 hB hHeld ⊢
    rw [hs1] at h8
    rw [hs2] at h9
    refine done_ (done_of HT_.out (by kernel_rfl)) ?_
    clear HT_ HW_ hHeld hX hY e18 e28 e19 e29
    have GD : good op n1 d1 n2 d2 = good op n1 d1 n2 d2 := rfl
    have HZ := Aside0.mk hZ
    have HB := Aside0.mk hB
    have H8 := Aside0.mk h8
    have H9 := Aside0.mk h9
    have HN := Aside0.mk (show NB W (.slice Ax1 Lx1 cx1) n1.natAbs ∧ NB W (.slice Ay1 Ly1 cy1) d1.natAbs ∧ NB W (.slice Ax2 Lx2 cx2) n2.natAbs ∧ NB W (.slice Ay2 Ly2 cy2) d2.natAbs from ⟨hx1, hy1, hx2, hy2⟩)
    have ND := Aside0.mk (show g3 ≠ p8 ∧ g3 ≠ p9 ∧ p8 ≠ p9 from ⟨e38, e39, h89⟩)
    have LE := Aside0.mk (show w.heap.size ≤ p8 ∧ w.heap.size ≤ p9 from ⟨l8, l9⟩)
    have HS := Aside0.mk (show decide (n1 < 0) = s1 ∧ decide (n2 < 0) = s2 from ⟨hs1, hs2⟩)
    clear GD hZ hB h8 h9 hx1 hy1 hx2 hy2 e38 e39 h89 l8 l9 hs1 hs2
    have SZ := sizes HI.out HR.out
    rcases HO.out.2 with h | h | h | h
    · subst h
      have HG : good 0 n1 d1 n2 d2 = BallQ.put (sumN n1.natAbs d1.natAbs n2.natAbs d2.natAbs s1 s2 / Nat.gcd (sumN n1.natAbs d1.natAbs n2.natAbs d2.natAbs s1 s2) (d1.natAbs * d2.natAbs)) (d1.natAbs * d2.natAbs / Nat.gcd (sumN n1.natAbs d1.natAbs n2.natAbs d2.natAbs s1 s2) (d1.natAbs * d2.natAbs)) (sumM n1.natAbs d1.natAbs n2.natAbs d2.natAbs s1 s2) := by rw [← HS.out.1, ← HS.out.2]; rfl
      have k80 := (cl0 H8.out).1
      have f80 := blk_frozen H8.out 0
      have k81 := (cl0 H8.out).2.1
      have f81 := blk_frozen H8.out 1
      have k82 := (cl0 H8.out).2.2
      have f82 := blk_frozen H8.out 2
      have k90 := (cl0 H9.out).1
      have f90 := blk_frozen H9.out 0
      have k91 := (cl0 H9.out).2.1
      have f91 := blk_frozen H9.out 1
      have k92 := (cl0 H9.out).2.2
      have f92 := blk_frozen H9.out 2
      have kZ0 := (cl2 HZ.out).1
      have fZ0 := blk_frozen HZ.out 0
      have kZ1 := (cl2 HZ.out).2
      have fZ1 := blk_frozen HZ.out 1
      obtain ⟨n38, n39, n89⟩ := ND.out
      have n83 := Ne.symm n38
      have n93 := Ne.symm n39
      have n98 := Ne.symm n89
      go_wp2_with (fail)
      refine (sum_c n1.natAbs d1.natAbs n2.natAbs d2.natAbs s1 s2 _ _ _ _ _ HN.out.1 HN.out.2.1 HN.out.2.2.1 HN.out.2.2.2 SZ.1 SZ.2.1 SZ.2.2.1 SZ.2.2.2.1 SZ.2.2.2.2.1 SZ.2.2.2.2.2.1).mono ?_
      rintro e W2 ⟨xs, ys, rfl, hxs, hys, hb⟩
      clear k80 f80 k90 f90 k81 f81 k91 f91 k82 f82 k92 f92 kZ0 fZ0 kZ1 fZ1
      replace HZ := Aside0.mk (blk_below HZ.out hb)
      replace HB := Aside0.mk (below_step HB.out hb)
      clear hb HN H8 H9
      go_wp2_with (fail)
      refine (to_c (sumN_sz HI.out _ _) SZ.2.2.2.2.2.2.1 SZ.2.2.2.2.2.2.2.1 _ hxs hys).mono ?_
      rw [← HG]
      rintro e W3 ⟨rfl, hb⟩
      clear hxs hys HG
      replace HZ := Aside0.mk (blk_below HZ.out hb)
      replace HB := Aside0.mk (below_step HB.out hb)
      clear hb
      have kZ0 := (cl2 HZ.out).1
      have kZ1 := (cl2 HZ.out).2
      have fZ0 := blk_frozen HZ.out 0
      have fZ1 := blk_frozen HZ.out 1
      go_wp2_with (fail)
      refine bodyPost_ret (results_ct rfl _ _ g3 23 #[.int .i64 (good 0 n1 d1 n2 d2).1, .int .i64 (good 0 n1 d1 n2 d2).2.1] (0, 0) _ rfl (blk_put (cs := #[.int .i64 (good 0 n1 d1 n2 d2).1, .int .i64 0]) (blk_put (cs := #[.int .i64 0, .int .i64 0]) HZ.out 0 _ rfl) 1 _ rfl) Try.underlying23 rfl (by kernel_rfl)) rfl ?_
      exact ⟨rfl, below_set (below_set HB.out GE.out) GE.out⟩
    · subst h
      have HG : good 1 n1 d1 n2 d2 = BallQ.put (sumN n1.natAbs d1.natAbs n2.natAbs d2.natAbs s1 (!s2) / Nat.gcd (sumN n1.natAbs d1.natAbs n2.natAbs d2.natAbs s1 (!s2)) (d1.natAbs * d2.natAbs)) (d1.natAbs * d2.natAbs / Nat.gcd (sumN n1.natAbs d1.natAbs n2.natAbs d2.natAbs s1 (!s2)) (d1.natAbs * d2.natAbs)) (sumM n1.natAbs d1.natAbs n2.natAbs d2.natAbs s1 (!s2)) := by rw [← HS.out.1, ← HS.out.2]; rfl
      have k80 := (cl0 H8.out).1
      have f80 := blk_frozen H8.out 0
      have k81 := (cl0 H8.out).2.1
      have f81 := blk_frozen H8.out 1
      have k82 := (cl0 H8.out).2.2
      have f82 := blk_frozen H8.out 2
      have k90 := (cl0 H9.out).1
      have f90 := blk_frozen H9.out 0
      have k91 := (cl0 H9.out).2.1
      have f91 := blk_frozen H9.out 1
      have k92 := (cl0 H9.out).2.2
      have f92 := blk_frozen H9.out 2
      have kZ0 := (cl2 HZ.out).1
      have fZ0 := blk_frozen HZ.out 0
      have kZ1 := (cl2 HZ.out).2
      have fZ1 := blk_frozen HZ.out 1
      obtain ⟨n38, n39, n89⟩ := ND.out
      have n83 := Ne.symm n38
      have n93 := Ne.symm n39
      have n98 := Ne.symm n89
      go_wp2_with (fail)
      have o1 := HN.out.1.ne H9.out (by decide)
      have o2 := HN.out.2.1.ne H9.out (by decide)
      have o3 := HN.out.2.2.1.ne H9.out (by decide)
      have o4 := HN.out.2.2.2.ne H9.out (by decide)
      refine (sum_c n1.natAbs d1.natAbs n2.natAbs d2.natAbs s1 (!s2) _ _ _ _ _ (HN.out.1.set o1 _ _) (HN.out.2.1.set o2 _ _) (HN.out.2.2.1.set o3 _ _) (HN.out.2.2.2.set o4 _ _) SZ.1 SZ.2.1 SZ.2.2.1 SZ.2.2.2.1 SZ.2.2.2.2.1 SZ.2.2.2.2.2.1).mono ?_
      rintro e W2 ⟨xs, ys, rfl, hxs, hys, hb⟩
      replace HZ := Aside0.mk (blk_far (p := ⟨p9, 2, none⟩) HZ.out n39 (.bool (!s2)))
      replace HB := Aside0.mk (below_set (j := 2) (v := .bool (!s2)) HB.out LE.out.2)
      clear k80 f80 k90 f90 k81 f81 k91 f91 k82 f82 k92 f92 kZ0 fZ0 kZ1 fZ1
      replace HZ := Aside0.mk (blk_below HZ.out hb)
      replace HB := Aside0.mk (below_step HB.out hb)
      clear hb HN H8 H9
      go_wp2_with (fail)
      refine (to_c (sumN_sz HI.out _ _) SZ.2.2.2.2.2.2.1 SZ.2.2.2.2.2.2.2.1 _ hxs hys).mono ?_
      rw [← HG]
      rintro e W3 ⟨rfl, hb⟩
      clear hxs hys HG
      replace HZ := Aside0.mk (blk_below HZ.out hb)
      replace HB := Aside0.mk (below_step HB.out hb)
      clear hb
      have kZ0 := (cl2 HZ.out).1
      have kZ1 := (cl2 HZ.out).2
      have fZ0 := blk_frozen HZ.out 0
      have fZ1 := blk_frozen HZ.out 1
      go_wp2_with (fail)
      refine bodyPost_ret (results_ct rfl _ _ g3 23 #[.int .i64 (good 1 n1 d1 n2 d2).1, .int .i64 (good 1 n1 d1 n2 d2).2.1] (0, 0) _ rfl (blk_put (cs := #[.int .i64 (good 1 n1 d1 n2 d2).1, .int .i64 0]) (blk_put (cs := #[.int .i64 0, .int .i64 0]) HZ.out 0 _ rfl) 1 _ rfl) Try.underlying23 rfl (by kernel_rfl)) rfl ?_
      exact ⟨rfl, below_set (below_set HB.out GE.out) GE.out⟩
    · subst h
      have HG : good 2 n1 d1 n2 d2 = BallQ.put (n1.natAbs * n2.natAbs / Nat.gcd (n1.natAbs * n2.natAbs) (d1.natAbs * d2.natAbs)) (d1.natAbs * d2.natAbs / Nat.gcd (n1.natAbs * n2.natAbs) (d1.natAbs * d2.natAbs)) (s1 != s2) := by rw [← HS.out.1, ← HS.out.2]; rfl
      go_wp2_with (fail)
      have H8q := Aside0.mk (blk_drew H8.out)
      have H9q := Aside0.mk (blk_drew H9.out)
      have HZq := Aside0.mk (blk_drew HZ.out)
      have HBq := Aside0.mk (below_drew1 HB.out)
      have dq := below_drew1 (Below.refl W.heap.size W)
      have HNq := Aside0.mk (show NB W.drew (.slice Ax1 Lx1 cx1) n1.natAbs ∧ NB W.drew (.slice Ay1 Ly1 cy1) d1.natAbs ∧ NB W.drew (.slice Ax2 Lx2 cx2) n2.natAbs ∧ NB W.drew (.slice Ay2 Ly2 cy2) d2.natAbs from ⟨HN.out.1.below dq, HN.out.2.1.below dq, HN.out.2.2.1.below dq, HN.out.2.2.2.below dq⟩)
      clear dq HN
      refine start_ (n := 21) (S := fun w' => (w'.cell? ⟨p8, 0, none⟩ = some (.slice Ax1 Lx1 cx1) ∧ w'.cell? ⟨p8, 1, none⟩ = some (.slice Ay1 Ly1 cy1) ∧ w'.cell? ⟨p8, 2, none⟩ = some (.bool s1)) ∧ (w'.cell? ⟨p9, 0, none⟩ = some (.slice Ax2 Lx2 cx2) ∧ w'.cell? ⟨p9, 1, none⟩ = some (.slice Ay2 Ly2 cy2) ∧ w'.cell? ⟨p9, 2, none⟩ = some (.bool s2))) (ds := []) #[false, false, false, false, false, false, false, false, false, false, false, false, false, false, false, false, false, false, false, false, false] (by kernel_rfl) rfl rfl (⟨cl0 H8q.out, cl0 H9q.out⟩) (fun hHeld => ?_); refine with_tabW dreg11.tab dreg11.bits (fun HT_ HW_ => ?_)
      clear H8 H9 HZ HB
      generalize W.drew = W1 at H8q H9q HZq HBq HNq hHeld ⊢
      refine pure_ (i := 0) (N := some 55) (v := ?_) (a' := ?_) #[true, false, false, false, false, false, false, false, false, false, false, false, false, false, false, false, false, false, false, false, false] rfl rfl (any_of HT_.out (by kernel_rfl)) (fun _ _ _ h => h) (Or.inl ⟨by rfl, ?_⟩) ?_ ?_
      rotate_left
      · intro w'
        go_simp
        with_reducible rfl
      rotate_left
      · simp only [Act.put, List.setIfInBounds_toArray, List.set_cons_zero, List.set_cons_succ, i64_w, i32_w]
        rfl
      refine pure_ (i := 2) (N := some 57) (v := ?_) (a' := ?_) #[true, false, true, false, false, false, false, false, false, false, false, false, false, false, false, false, false, false, false, false, false] rfl rfl (any_of HT_.out (by kernel_rfl)) (fun _ _ _ h => h) (Or.inl ⟨by rfl, ?_⟩) ?_ ?_
      rotate_left
      · intro w'
        go_simp
        with_reducible rfl
      rotate_left
      · simp only [Act.put, List.setIfInBounds_toArray, List.set_cons_zero, List.set_cons_succ, i64_w, i32_w]
        rfl
      refine pure_ (i := 5) (N := some 60) (v := ?_) (a' := ?_) #[true, false, true, false, false, true, false, false, false, false, false, false, false, false, false, false, false, false, false, false, false] rfl rfl (any_of HT_.out (by kernel_rfl)) (fun _ _ _ h => h) (Or.inl ⟨by rfl, ?_⟩) ?_ ?_
      rotate_left
      · intro w'
        go_simp
        with_reducible rfl
      rotate_left
      · simp only [Act.put, List.setIfInBounds_toArray, List.set_cons_zero, List.set_cons_succ, i64_w, i32_w]
        rfl
      refine pure_ (i := 7) (N := some 62) (v := ?_) (a' := ?_) #[true, false, true, false, false, true, false, true, false, false, false, false, false, false, false, false, false, false, false, false, false] rfl rfl (any_of HT_.out (by kernel_rfl)) (fun _ _ _ h => h) (Or.inl ⟨by rfl, ?_⟩) ?_ ?_
      rotate_left
      · intro w'
        go_simp
        with_reducible rfl
      rotate_left
      · simp only [Act.put, List.setIfInBounds_toArray, List.set_cons_zero, List.set_cons_succ, i64_w, i32_w]
        rfl
      refine pure_ (i := 10) (N := some 65) (v := ?_) (a' := ?_) #[true, false, true, false, false, true, false, true, false, false, true, false, false, false, false, false, false, false, false, false, false] rfl rfl (any_of HT_.out (by kernel_rfl)) (fun _ _ _ h => h) (Or.inl ⟨by rfl, ?_⟩) ?_ ?_
      rotate_left
      · intro w'
        go_simp
        with_reducible rfl
      rotate_left
      · simp only [Act.put, List.setIfInBounds_toArray, List.set_cons_zero, List.set_cons_succ, i64_w, i32_w]
        rfl
      refine pure_ (i := 12) (N := some 67) (v := ?_) (a' := ?_) #[true, false, true, false, false, true, false, true, false, false, true, false, true, false, false, false, false, false, false, false, false] rfl rfl (any_of HT_.out (by kernel_rfl)) (fun _ _ _ h => h) (Or.inl ⟨by rfl, ?_⟩) ?_ ?_
      rotate_left
      · intro w'
        go_simp
        with_reducible rfl
      rotate_left
      · simp only [Act.put, List.setIfInBounds_toArray, List.set_cons_zero, List.set_cons_succ, i64_w, i32_w]
        rfl
      refine take_ (i := 1) (N := some 56) (v := ?_) (a' := ?_) #[true, true, true, false, false, true, false, true, false, false, true, false, true, false, false, false, false, false, false, false, false] rfl rfl (take_ofW HT_.out HW_.out (by kernel_rfl)) (fun _ _ _ h => h) (Or.inl ⟨by rfl, ?_⟩) hHeld ?_ ?_
      rotate_left
      · intro w' s0
        obtain ⟨⟨s11, s12, s13⟩, s14, s15, s16⟩ := s0
        go_simp
        with_reducible rfl
      rotate_left
      · simp only [Act.put, List.setIfInBounds_toArray, List.set_cons_zero, List.set_cons_succ, i64_w, i32_w]
        rfl
      refine take_ (i := 3) (N := some 58) (v := ?_) (a' := ?_) #[true, true, true, true, false, true, false, true, false, false, true, false, true, false, false, false, false, false, false, false, false] rfl rfl (take_ofW HT_.out HW_.out (by kernel_rfl)) (fun _ _ _ h => h) (Or.inl ⟨by rfl, ?_⟩) hHeld ?_ ?_
      rotate_left
      · intro w' s0
        obtain ⟨⟨s11, s12, s13⟩, s14, s15, s16⟩ := s0
        go_simp
        with_reducible rfl
      rotate_left
      · simp only [Act.put, List.setIfInBounds_toArray, List.set_cons_zero, List.set_cons_succ, i64_w, i32_w]
        rfl
      refine take_ (i := 6) (N := some 61) (v := ?_) (a' := ?_) #[true, true, true, true, false, true, true, true, false, false, true, false, true, false, false, false, false, false, false, false, false] rfl rfl (take_ofW HT_.out HW_.out (by kernel_rfl)) (fun _ _ _ h => h) (Or.inl ⟨by rfl, ?_⟩) hHeld ?_ ?_
      rotate_left
      · intro w' s0
        obtain ⟨⟨s11, s12, s13⟩, s14, s15, s16⟩ := s0
        go_simp
        with_reducible rfl
      rotate_left
      · simp only [Act.put, List.setIfInBounds_toArray, List.set_cons_zero, List.set_cons_succ, i64_w, i32_w]
        rfl
      refine take_ (i := 8) (N := some 63) (v := ?_) (a' := ?_) #[true, true, true, true, false, true, true, true, true, false, true, false, true, false, false, false, false, false, false, false, false] rfl rfl (take_ofW HT_.out HW_.out (by kernel_rfl)) (fun _ _ _ h => h) (Or.inl ⟨by rfl, ?_⟩) hHeld ?_ ?_
      rotate_left
      · intro w' s0
        obtain ⟨⟨s11, s12, s13⟩, s14, s15, s16⟩ := s0
        go_simp
        with_reducible rfl
      rotate_left
      · simp only [Act.put, List.setIfInBounds_toArray, List.set_cons_zero, List.set_cons_succ, i64_w, i32_w]
        rfl
      refine take_ (i := 11) (N := some 66) (v := ?_) (a' := ?_) #[true, true, true, true, false, true, true, true, true, false, true, true, true, false, false, false, false, false, false, false, false] rfl rfl (take_ofW HT_.out HW_.out (by kernel_rfl)) (fun _ _ _ h => h) (Or.inl ⟨by rfl, ?_⟩) hHeld ?_ ?_
      rotate_left
      · intro w' s0
        obtain ⟨⟨s11, s12, s13⟩, s14, s15, s16⟩ := s0
        go_simp
        with_reducible rfl
      rotate_left
      · simp only [Act.put, List.setIfInBounds_toArray, List.set_cons_zero, List.set_cons_succ, i64_w, i32_w]
        rfl
      refine take_ (i := 13) (N := some 68) (v := ?_) (a' := ?_) #[true, true, true, true, false, true, true, true, true, false, true, true, true, true, false, false, false, false, false, false, false] rfl rfl (take_ofW HT_.out HW_.out (by kernel_rfl)) (fun _ _ _ h => h) (Or.inl ⟨by rfl, ?_⟩) hHeld ?_ ?_
      rotate_left
      · intro w' s0
        obtain ⟨⟨s11, s12, s13⟩, s14, s15, s16⟩ := s0
        go_simp
        with_reducible rfl
      rotate_left
      · simp only [Act.put, List.setIfInBounds_toArray, List.set_cons_zero, List.set_cons_succ, i64_w, i32_w]
        rfl
      refine pure_ (i := 14) (N := some 69) (v := ?_) (a' := ?_) #[true, true, true, true, false, true, true, true, true, false, true, true, true, true, true, false, false, false, false, false, false] rfl rfl (any_of HT_.out (by kernel_rfl)) (fun _ _ _ h => h) (Or.inl ⟨by rfl, ?_⟩) ?_ ?_
      rotate_left
      · intro w'
        go_simp
        with_reducible rfl
      rotate_left
      · simp only [Act.put, List.setIfInBounds_toArray, List.set_cons_zero, List.set_cons_succ, i64_w, i32_w]
        rfl
      refine one_ (i := 4) (N := some 59) #[true, true, true, true, true, true, true, true, true, false, true, true, true, true, true, false, false, false, false, false, false] rfl rfl (one_of HT_.out (by kernel_rfl)) (by decide) (fun K hK => ?_)
      refine goes_ Try.func35 (by kernel_rfl) rfl #[(.slice Ax1 Lx1 cx1), (.slice Ax2 Lx2 cx2)] (by rfl) rfl rfl (by (try simp only [List.map_toArray, List.map_cons, List.map_nil]); first | done | rfl | (simp only [List.length_drop, List.length_take]; rfl)) ?_
      refine (mul_c SZ.1 SZ.2.2.1 HNq.out.1 HNq.out.2.2.1).mono ?_
      rintro e W2 ⟨x, rfl, hx, hb⟩
      have H8r := Aside0.mk (blk_below H8q.out hb)
      have H9r := Aside0.mk (blk_below H9q.out hb)
      have HZr := Aside0.mk (blk_below HZq.out hb)
      have HBr := Aside0.mk (below_step HBq.out hb)
      have HS_ := show _ ∧ _ from ⟨cl0 H8r.out, cl0 H9r.out⟩
      have hN2 := hx
      refine ⟨_, rfl, ?_⟩
      refine hK.out _ _ HS_ (fun hHeld => ?_)
      clear hK K
      refine norm_ (a' := ?_) ?_ ?_
      rotate_left
      · show Act.put _ (some 59) _ = _
        simp only [Act.put, List.setIfInBounds_toArray, List.set_cons_zero, List.set_cons_succ, i64_w, i32_w]
        rfl
      have HM := Aside0.mk hN2
      have H2 := Aside0.mk hb
      skip
      refine one_ (i := 9) (N := some 64) #[true, true, true, true, true, true, true, true, true, true, true, true, true, true, true, false, false, false, false, false, false] rfl rfl (one_of HT_.out (by kernel_rfl)) (by decide) (fun K hK => ?_)
      refine goes_ Try.func35 (by kernel_rfl) rfl #[(.slice Ay1 Ly1 cy1), (.slice Ay2 Ly2 cy2)] (by rfl) rfl rfl (by (try simp only [List.map_toArray, List.map_cons, List.map_nil]); first | done | rfl | (simp only [List.length_drop, List.length_take]; rfl)) ?_
      refine (mul_c SZ.2.1 SZ.2.2.2.1 (HNq.out.2.1.below hb) (HNq.out.2.2.2.below hb)).mono ?_
      rintro e W3 ⟨y, rfl, hy, hb3⟩
      have hxy := hx.below hb3
      have H8s := Aside0.mk (blk_below H8r.out hb3)
      have H9s := Aside0.mk (blk_below H9r.out hb3)
      have HZs := Aside0.mk (blk_below HZr.out hb3)
      have HBs := Aside0.mk (below_step HBr.out hb3)
      have HS_ := show _ ∧ _ from ⟨cl0 H8s.out, cl0 H9s.out⟩
      refine ⟨_, rfl, ?_⟩
      refine hK.out _ _ HS_ (fun hHeld => ?_)
      clear hK K
      refine norm_ (a' := ?_) ?_ ?_
      rotate_left
      · show Act.put _ (some 64) _ = _
        simp only [Act.put, List.setIfInBounds_toArray, List.set_cons_zero, List.set_cons_succ, i64_w, i32_w]
        rfl
      obtain ⟨Ax, Lx, cx, rfl⟩ := NB.form hxy
      obtain ⟨Ay, Ly, cy, rfl⟩ := NB.form hy
      refine pure_ (i := 15) (N := some 70) (v := ?_) (a' := ?_) #[true, true, true, true, true, true, true, true, true, true, true, true, true, true, true, true, false, false, false, false, false] rfl rfl (any_of HT_.out (by kernel_rfl)) (fun _ _ _ h => h) (Or.inl ⟨by rfl, ?_⟩) ?_ ?_
      rotate_left
      · intro w'
        go_simp
        with_reducible rfl
      rotate_left
      · simp only [Act.put, List.setIfInBounds_toArray, List.set_cons_zero, List.set_cons_succ, i64_w, i32_w]
        rfl
      refine one_ (i := 16) (N := some 71) #[true, true, true, true, true, true, true, true, true, true, true, true, true, true, true, true, true, false, false, false, false] rfl rfl (one_of HT_.out (by kernel_rfl)) (by decide) (fun K hK => ?_)
      refine goes_ Try.func33 (by kernel_rfl) rfl #[.agg #[.slice Ax Lx cx, .slice Ay Ly cy, .bool (s1 != s2)]] (by rfl) rfl rfl (by (try simp only [List.map_toArray, List.map_cons, List.map_nil]); first | done | rfl | (simp only [List.length_drop, List.length_take]; rfl)) ?_
      refine (to_c SZ.2.2.2.2.2.2.2.2.1 SZ.2.2.2.2.2.2.1 SZ.2.2.2.2.2.2.2.1 _ hxy hy).mono ?_
      rw [← HG]
      rintro e W4 ⟨rfl, hb4⟩
      clear HG
      have H8t := Aside0.mk (blk_below H8s.out hb4)
      have H9t := Aside0.mk (blk_below H9s.out hb4)
      have HZt := Aside0.mk (blk_below HZs.out hb4)
      have HBt := Aside0.mk (below_step HBs.out hb4)
      have HS_ := show _ ∧ _ from ⟨cl0 H8t.out, cl0 H9t.out⟩
      refine ⟨_, rfl, ?_⟩
      refine hK.out _ _ HS_ (fun hHeld => ?_)
      clear hK K
      refine norm_ (a' := ?_) ?_ ?_
      rotate_left
      · show Act.put _ (some 71) _ = _
        simp only [Act.put, List.setIfInBounds_toArray, List.set_cons_zero, List.set_cons_succ, i64_w, i32_w]
        rfl
      refine pure_ (i := 17) (N := some 72) (v := ?_) (a' := ?_) #[true, true, true, true, true, true, true, true, true, true, true, true, true, true, true, true, true, true, false, false, false] rfl rfl (any_of HT_.out (by kernel_rfl)) (fun _ _ _ h => h) (Or.inl ⟨by rfl, ?_⟩) ?_ ?_
      rotate_left
      · intro w'
        go_simp
        with_reducible rfl
      rotate_left
      · simp only [Act.put, List.setIfInBounds_toArray, List.set_cons_zero, List.set_cons_succ, i64_w, i32_w]
        rfl
      refine pure_ (i := 18) (N := some 73) (v := ?_) (a' := ?_) #[true, true, true, true, true, true, true, true, true, true, true, true, true, true, true, true, true, true, true, false, false] rfl rfl (any_of HT_.out (by kernel_rfl)) (fun _ _ _ h => h) (Or.inl ⟨by rfl, ?_⟩) ?_ ?_
      rotate_left
      · intro w'
        go_simp
        with_reducible rfl
      rotate_left
      · simp only [Act.put, List.setIfInBounds_toArray, List.set_cons_zero, List.set_cons_succ, i64_w, i32_w]
        rfl
      have kZ0 := (cl2 HZt.out).1
      have kZ1 := (cl2 HZt.out).2
      have fZ0 := blk_frozen HZt.out 0
      have fZ1 := blk_frozen HZt.out 1
      refine one_ (i := 19) (N := none) #[true, true, true, true, true, true, true, true, true, true, true, true, true, true, true, true, true, true, true, true, false] rfl rfl (one_of HT_.out (by kernel_rfl)) (by decide) (fun K hK => ?_)
      refine skip_ (w1 := (W4.setCell ⟨g3, 0, none⟩ (.int .i64 (good 2 n1 d1 n2 d2).1)).setCell ⟨g3, 1, none⟩ (.int .i64 (good 2 n1 d1 n2 d2).2.1)) (by rfl) rfl (by first | (go_simp; done) | (go_simp; rfl)) ?_
      refine hK.out _ _ ⟨cl0 (blk_far (p := ⟨g3, 1, none⟩) (blk_far (p := ⟨g3, 0, none⟩) H8t.out (Ne.symm ND.out.1) _) (Ne.symm ND.out.1) _), cl0 (blk_far (p := ⟨g3, 1, none⟩) (blk_far (p := ⟨g3, 0, none⟩) H9t.out (Ne.symm ND.out.2.1) _) (Ne.symm ND.out.2.1) _)⟩ (fun hHeld => ?_)
      clear hK K kZ0 kZ1 fZ0 fZ1
      refine norm_ (a' := ?_) ?_ ?_
      rotate_left
      · rfl
      refine pure_ (i := 20) (N := some 7) (v := ?_) (a' := ?_) #[true, true, true, true, true, true, true, true, true, true, true, true, true, true, true, true, true, true, true, true, true] rfl rfl (any_of HT_.out (by kernel_rfl)) (fun _ _ _ h => h) (Or.inl ⟨by rfl, ?_⟩) ?_ ?_
      rotate_left
      · intro w'
        go_simp
        with_reducible rfl
      rotate_left
      · simp only [Act.put, List.setIfInBounds_toArray, List.set_cons_zero, List.set_cons_succ, i64_w, i32_w]
        rfl
      refine done_ (done_of HT_.out (by kernel_rfl)) ?_
      go_wp2_with (fail)
      refine bodyPost_ret (results_ct rfl _ _ g3 23 #[.int .i64 (good 2 n1 d1 n2 d2).1, .int .i64 (good 2 n1 d1 n2 d2).2.1] (0, 0) _ rfl (blk_put (cs := #[.int .i64 (good 2 n1 d1 n2 d2).1, .int .i64 0]) (blk_put (cs := #[.int .i64 0, .int .i64 0]) HZt.out 0 _ rfl) 1 _ rfl) Try.underlying23 rfl (by kernel_rfl)) rfl ?_
      exact ⟨rfl, below_set (below_set HBt.out GE.out) GE.out⟩
    · subst h
      have HG : good 3 n1 d1 n2 d2 = BallQ.put (n1.natAbs * d2.natAbs / Nat.gcd (n1.natAbs * d2.natAbs) (d1.natAbs * n2.natAbs)) (d1.natAbs * n2.natAbs / Nat.gcd (n1.natAbs * d2.natAbs) (d1.natAbs * n2.natAbs)) (s1 != s2) := by rw [← HS.out.1, ← HS.out.2]; rfl
      have hn3 := HO.out.1 rfl
      go_wp2_with (fail)
      have H8q := Aside0.mk (blk_drew H8.out)
      have H9q := Aside0.mk (blk_drew H9.out)
      have HZq := Aside0.mk (blk_drew HZ.out)
      have HBq := Aside0.mk (below_drew1 HB.out)
      have dq := below_drew1 (Below.refl W.heap.size W)
      have HNq := Aside0.mk (show NB W.drew (.slice Ax1 Lx1 cx1) n1.natAbs ∧ NB W.drew (.slice Ay1 Ly1 cy1) d1.natAbs ∧ NB W.drew (.slice Ax2 Lx2 cx2) n2.natAbs ∧ NB W.drew (.slice Ay2 Ly2 cy2) d2.natAbs from ⟨HN.out.1.below dq, HN.out.2.1.below dq, HN.out.2.2.1.below dq, HN.out.2.2.2.below dq⟩)
      clear dq HN
      refine start_ (n := 21) (S := fun w' => (w'.cell? ⟨p8, 0, none⟩ = some (.slice Ax1 Lx1 cx1) ∧ w'.cell? ⟨p8, 1, none⟩ = some (.slice Ay1 Ly1 cy1) ∧ w'.cell? ⟨p8, 2, none⟩ = some (.bool s1)) ∧ (w'.cell? ⟨p9, 0, none⟩ = some (.slice Ax2 Lx2 cx2) ∧ w'.cell? ⟨p9, 1, none⟩ = some (.slice Ay2 Ly2 cy2) ∧ w'.cell? ⟨p9, 2, none⟩ = some (.bool s2))) (ds := []) #[false, false, false, false, false, false, false, false, false, false, false, false, false, false, false, false, false, false, false, false, false] (by kernel_rfl) rfl rfl (⟨cl0 H8q.out, cl0 H9q.out⟩) (fun hHeld => ?_); refine with_tabW dreg12.tab dreg12.bits (fun HT_ HW_ => ?_)
      clear H8 H9 HZ HB
      generalize W.drew = W1 at H8q H9q HZq HBq HNq hHeld ⊢
      refine pure_ (i := 0) (N := some 74) (v := ?_) (a' := ?_) #[true, false, false, false, false, false, false, false, false, false, false, false, false, false, false, false, false, false, false, false, false] rfl rfl (any_of HT_.out (by kernel_rfl)) (fun _ _ _ h => h) (Or.inl ⟨by rfl, ?_⟩) ?_ ?_
      rotate_left
      · intro w'
        go_simp
        with_reducible rfl
      rotate_left
      · simp only [Act.put, List.setIfInBounds_toArray, List.set_cons_zero, List.set_cons_succ, i64_w, i32_w]
        rfl
      refine pure_ (i := 2) (N := some 76) (v := ?_) (a' := ?_) #[true, false, true, false, false, false, false, false, false, false, false, false, false, false, false, false, false, false, false, false, false] rfl rfl (any_of HT_.out (by kernel_rfl)) (fun _ _ _ h => h) (Or.inl ⟨by rfl, ?_⟩) ?_ ?_
      rotate_left
      · intro w'
        go_simp
        with_reducible rfl
      rotate_left
      · simp only [Act.put, List.setIfInBounds_toArray, List.set_cons_zero, List.set_cons_succ, i64_w, i32_w]
        rfl
      refine pure_ (i := 5) (N := some 79) (v := ?_) (a' := ?_) #[true, false, true, false, false, true, false, false, false, false, false, false, false, false, false, false, false, false, false, false, false] rfl rfl (any_of HT_.out (by kernel_rfl)) (fun _ _ _ h => h) (Or.inl ⟨by rfl, ?_⟩) ?_ ?_
      rotate_left
      · intro w'
        go_simp
        with_reducible rfl
      rotate_left
      · simp only [Act.put, List.setIfInBounds_toArray, List.set_cons_zero, List.set_cons_succ, i64_w, i32_w]
        rfl
      refine pure_ (i := 7) (N := some 81) (v := ?_) (a' := ?_) #[true, false, true, false, false, true, false, true, false, false, false, false, false, false, false, false, false, false, false, false, false] rfl rfl (any_of HT_.out (by kernel_rfl)) (fun _ _ _ h => h) (Or.inl ⟨by rfl, ?_⟩) ?_ ?_
      rotate_left
      · intro w'
        go_simp
        with_reducible rfl
      rotate_left
      · simp only [Act.put, List.setIfInBounds_toArray, List.set_cons_zero, List.set_cons_succ, i64_w, i32_w]
        rfl
      refine pure_ (i := 10) (N := some 84) (v := ?_) (a' := ?_) #[true, false, true, false, false, true, false, true, false, false, true, false, false, false, false, false, false, false, false, false, false] rfl rfl (any_of HT_.out (by kernel_rfl)) (fun _ _ _ h => h) (Or.inl ⟨by rfl, ?_⟩) ?_ ?_
      rotate_left
      · intro w'
        go_simp
        with_reducible rfl
      rotate_left
      · simp only [Act.put, List.setIfInBounds_toArray, List.set_cons_zero, List.set_cons_succ, i64_w, i32_w]
        rfl
      refine pure_ (i := 12) (N := some 86) (v := ?_) (a' := ?_) #[true, false, true, false, false, true, false, true, false, false, true, false, true, false, false, false, false, false, false, false, false] rfl rfl (any_of HT_.out (by kernel_rfl)) (fun _ _ _ h => h) (Or.inl ⟨by rfl, ?_⟩) ?_ ?_
      rotate_left
      · intro w'
        go_simp
        with_reducible rfl
      rotate_left
      · simp only [Act.put, List.setIfInBounds_toArray, List.set_cons_zero, List.set_cons_succ, i64_w, i32_w]
        rfl
      refine take_ (i := 1) (N := some 75) (v := ?_) (a' := ?_) #[true, true, true, false, false, true, false, true, false, false, true, false, true, false, false, false, false, false, false, false, false] rfl rfl (take_ofW HT_.out HW_.out (by kernel_rfl)) (fun _ _ _ h => h) (Or.inl ⟨by rfl, ?_⟩) hHeld ?_ ?_
      rotate_left
      · intro w' s0
        obtain ⟨⟨s11, s12, s13⟩, s14, s15, s16⟩ := s0
        go_simp
        with_reducible rfl
      rotate_left
      · simp only [Act.put, List.setIfInBounds_toArray, List.set_cons_zero, List.set_cons_succ, i64_w, i32_w]
        rfl
      refine take_ (i := 3) (N := some 77) (v := ?_) (a' := ?_) #[true, true, true, true, false, true, false, true, false, false, true, false, true, false, false, false, false, false, false, false, false] rfl rfl (take_ofW HT_.out HW_.out (by kernel_rfl)) (fun _ _ _ h => h) (Or.inl ⟨by rfl, ?_⟩) hHeld ?_ ?_
      rotate_left
      · intro w' s0
        obtain ⟨⟨s11, s12, s13⟩, s14, s15, s16⟩ := s0
        go_simp
        with_reducible rfl
      rotate_left
      · simp only [Act.put, List.setIfInBounds_toArray, List.set_cons_zero, List.set_cons_succ, i64_w, i32_w]
        rfl
      refine take_ (i := 6) (N := some 80) (v := ?_) (a' := ?_) #[true, true, true, true, false, true, true, true, false, false, true, false, true, false, false, false, false, false, false, false, false] rfl rfl (take_ofW HT_.out HW_.out (by kernel_rfl)) (fun _ _ _ h => h) (Or.inl ⟨by rfl, ?_⟩) hHeld ?_ ?_
      rotate_left
      · intro w' s0
        obtain ⟨⟨s11, s12, s13⟩, s14, s15, s16⟩ := s0
        go_simp
        with_reducible rfl
      rotate_left
      · simp only [Act.put, List.setIfInBounds_toArray, List.set_cons_zero, List.set_cons_succ, i64_w, i32_w]
        rfl
      refine take_ (i := 8) (N := some 82) (v := ?_) (a' := ?_) #[true, true, true, true, false, true, true, true, true, false, true, false, true, false, false, false, false, false, false, false, false] rfl rfl (take_ofW HT_.out HW_.out (by kernel_rfl)) (fun _ _ _ h => h) (Or.inl ⟨by rfl, ?_⟩) hHeld ?_ ?_
      rotate_left
      · intro w' s0
        obtain ⟨⟨s11, s12, s13⟩, s14, s15, s16⟩ := s0
        go_simp
        with_reducible rfl
      rotate_left
      · simp only [Act.put, List.setIfInBounds_toArray, List.set_cons_zero, List.set_cons_succ, i64_w, i32_w]
        rfl
      refine take_ (i := 11) (N := some 85) (v := ?_) (a' := ?_) #[true, true, true, true, false, true, true, true, true, false, true, true, true, false, false, false, false, false, false, false, false] rfl rfl (take_ofW HT_.out HW_.out (by kernel_rfl)) (fun _ _ _ h => h) (Or.inl ⟨by rfl, ?_⟩) hHeld ?_ ?_
      rotate_left
      · intro w' s0
        obtain ⟨⟨s11, s12, s13⟩, s14, s15, s16⟩ := s0
        go_simp
        with_reducible rfl
      rotate_left
      · simp only [Act.put, List.setIfInBounds_toArray, List.set_cons_zero, List.set_cons_succ, i64_w, i32_w]
        rfl
      refine take_ (i := 13) (N := some 87) (v := ?_) (a' := ?_) #[true, true, true, true, false, true, true, true, true, false, true, true, true, true, false, false, false, false, false, false, false] rfl rfl (take_ofW HT_.out HW_.out (by kernel_rfl)) (fun _ _ _ h => h) (Or.inl ⟨by rfl, ?_⟩) hHeld ?_ ?_
      rotate_left
      · intro w' s0
        obtain ⟨⟨s11, s12, s13⟩, s14, s15, s16⟩ := s0
        go_simp
        with_reducible rfl
      rotate_left
      · simp only [Act.put, List.setIfInBounds_toArray, List.set_cons_zero, List.set_cons_succ, i64_w, i32_w]
        rfl
      refine pure_ (i := 14) (N := some 88) (v := ?_) (a' := ?_) #[true, true, true, true, false, true, true, true, true, false, true, true, true, true, true, false, false, false, false, false, false] rfl rfl (any_of HT_.out (by kernel_rfl)) (fun _ _ _ h => h) (Or.inl ⟨by rfl, ?_⟩) ?_ ?_
      rotate_left
      · intro w'
        go_simp
        with_reducible rfl
      rotate_left
      · simp only [Act.put, List.setIfInBounds_toArray, List.set_cons_zero, List.set_cons_succ, i64_w, i32_w]
        rfl
      refine one_ (i := 4) (N := some 78) #[true, true, true, true, true, true, true, true, true, false, true, true, true, true, true, false, false, false, false, false, false] rfl rfl (one_of HT_.out (by kernel_rfl)) (by decide) (fun K hK => ?_)
      refine goes_ Try.func35 (by kernel_rfl) rfl #[(.slice Ax1 Lx1 cx1), (.slice Ay2 Ly2 cy2)] (by rfl) rfl rfl (by (try simp only [List.map_toArray, List.map_cons, List.map_nil]); first | done | rfl | (simp only [List.length_drop, List.length_take]; rfl)) ?_
      refine (mul_c SZ.1 SZ.2.2.2.1 HNq.out.1 HNq.out.2.2.2).mono ?_
      rintro e W2 ⟨x, rfl, hx, hb⟩
      have H8r := Aside0.mk (blk_below H8q.out hb)
      have H9r := Aside0.mk (blk_below H9q.out hb)
      have HZr := Aside0.mk (blk_below HZq.out hb)
      have HBr := Aside0.mk (below_step HBq.out hb)
      have HS_ := show _ ∧ _ from ⟨cl0 H8r.out, cl0 H9r.out⟩
      have hN2 := hx
      refine ⟨_, rfl, ?_⟩
      refine hK.out _ _ HS_ (fun hHeld => ?_)
      clear hK K
      refine norm_ (a' := ?_) ?_ ?_
      rotate_left
      · show Act.put _ (some 78) _ = _
        simp only [Act.put, List.setIfInBounds_toArray, List.set_cons_zero, List.set_cons_succ, i64_w, i32_w]
        rfl
      have HM := Aside0.mk hN2
      have H2 := Aside0.mk hb
      skip
      refine one_ (i := 9) (N := some 83) #[true, true, true, true, true, true, true, true, true, true, true, true, true, true, true, false, false, false, false, false, false] rfl rfl (one_of HT_.out (by kernel_rfl)) (by decide) (fun K hK => ?_)
      refine goes_ Try.func35 (by kernel_rfl) rfl #[(.slice Ay1 Ly1 cy1), (.slice Ax2 Lx2 cx2)] (by rfl) rfl rfl (by (try simp only [List.map_toArray, List.map_cons, List.map_nil]); first | done | rfl | (simp only [List.length_drop, List.length_take]; rfl)) ?_
      refine (mul_c SZ.2.1 SZ.2.2.1 (HNq.out.2.1.below hb) (HNq.out.2.2.1.below hb)).mono ?_
      rintro e W3 ⟨y, rfl, hy, hb3⟩
      have hxy := hx.below hb3
      have H8s := Aside0.mk (blk_below H8r.out hb3)
      have H9s := Aside0.mk (blk_below H9r.out hb3)
      have HZs := Aside0.mk (blk_below HZr.out hb3)
      have HBs := Aside0.mk (below_step HBr.out hb3)
      have HS_ := show _ ∧ _ from ⟨cl0 H8s.out, cl0 H9s.out⟩
      refine ⟨_, rfl, ?_⟩
      refine hK.out _ _ HS_ (fun hHeld => ?_)
      clear hK K
      refine norm_ (a' := ?_) ?_ ?_
      rotate_left
      · show Act.put _ (some 83) _ = _
        simp only [Act.put, List.setIfInBounds_toArray, List.set_cons_zero, List.set_cons_succ, i64_w, i32_w]
        rfl
      obtain ⟨Ax, Lx, cx, rfl⟩ := NB.form hxy
      obtain ⟨Ay, Ly, cy, rfl⟩ := NB.form hy
      refine pure_ (i := 15) (N := some 89) (v := ?_) (a' := ?_) #[true, true, true, true, true, true, true, true, true, true, true, true, true, true, true, true, false, false, false, false, false] rfl rfl (any_of HT_.out (by kernel_rfl)) (fun _ _ _ h => h) (Or.inl ⟨by rfl, ?_⟩) ?_ ?_
      rotate_left
      · intro w'
        go_simp
        with_reducible rfl
      rotate_left
      · simp only [Act.put, List.setIfInBounds_toArray, List.set_cons_zero, List.set_cons_succ, i64_w, i32_w]
        rfl
      refine one_ (i := 16) (N := some 90) #[true, true, true, true, true, true, true, true, true, true, true, true, true, true, true, true, true, false, false, false, false] rfl rfl (one_of HT_.out (by kernel_rfl)) (by decide) (fun K hK => ?_)
      refine goes_ Try.func33 (by kernel_rfl) rfl #[.agg #[.slice Ax Lx cx, .slice Ay Ly cy, .bool (s1 != s2)]] (by rfl) rfl rfl (by (try simp only [List.map_toArray, List.map_cons, List.map_nil]); first | done | rfl | (simp only [List.length_drop, List.length_take]; rfl)) ?_
      refine (to_c SZ.2.2.2.2.1 (by rw [Nat.mul_comm]; exact SZ.2.2.2.2.2.1) (SZ.2.2.2.2.2.2.2.2.2 hn3) _ hxy hy).mono ?_
      rw [← HG]
      rintro e W4 ⟨rfl, hb4⟩
      clear HG
      have H8t := Aside0.mk (blk_below H8s.out hb4)
      have H9t := Aside0.mk (blk_below H9s.out hb4)
      have HZt := Aside0.mk (blk_below HZs.out hb4)
      have HBt := Aside0.mk (below_step HBs.out hb4)
      have HS_ := show _ ∧ _ from ⟨cl0 H8t.out, cl0 H9t.out⟩
      refine ⟨_, rfl, ?_⟩
      refine hK.out _ _ HS_ (fun hHeld => ?_)
      clear hK K
      refine norm_ (a' := ?_) ?_ ?_
      rotate_left
      · show Act.put _ (some 90) _ = _
        simp only [Act.put, List.setIfInBounds_toArray, List.set_cons_zero, List.set_cons_succ, i64_w, i32_w]
        rfl
      refine pure_ (i := 17) (N := some 91) (v := ?_) (a' := ?_) #[true, true, true, true, true, true, true, true, true, true, true, true, true, true, true, true, true, true, false, false, false] rfl rfl (any_of HT_.out (by kernel_rfl)) (fun _ _ _ h => h) (Or.inl ⟨by rfl, ?_⟩) ?_ ?_
      rotate_left
      · intro w'
        go_simp
        with_reducible rfl
      rotate_left
      · simp only [Act.put, List.setIfInBounds_toArray, List.set_cons_zero, List.set_cons_succ, i64_w, i32_w]
        rfl
      refine pure_ (i := 18) (N := some 92) (v := ?_) (a' := ?_) #[true, true, true, true, true, true, true, true, true, true, true, true, true, true, true, true, true, true, true, false, false] rfl rfl (any_of HT_.out (by kernel_rfl)) (fun _ _ _ h => h) (Or.inl ⟨by rfl, ?_⟩) ?_ ?_
      rotate_left
      · intro w'
        go_simp
        with_reducible rfl
      rotate_left
      · simp only [Act.put, List.setIfInBounds_toArray, List.set_cons_zero, List.set_cons_succ, i64_w, i32_w]
        rfl
      have kZ0 := (cl2 HZt.out).1
      have kZ1 := (cl2 HZt.out).2
      have fZ0 := blk_frozen HZt.out 0
      have fZ1 := blk_frozen HZt.out 1
      refine one_ (i := 19) (N := none) #[true, true, true, true, true, true, true, true, true, true, true, true, true, true, true, true, true, true, true, true, false] rfl rfl (one_of HT_.out (by kernel_rfl)) (by decide) (fun K hK => ?_)
      refine skip_ (w1 := (W4.setCell ⟨g3, 0, none⟩ (.int .i64 (good 3 n1 d1 n2 d2).1)).setCell ⟨g3, 1, none⟩ (.int .i64 (good 3 n1 d1 n2 d2).2.1)) (by rfl) rfl (by first | (go_simp; done) | (go_simp; rfl)) ?_
      refine hK.out _ _ ⟨cl0 (blk_far (p := ⟨g3, 1, none⟩) (blk_far (p := ⟨g3, 0, none⟩) H8t.out (Ne.symm ND.out.1) _) (Ne.symm ND.out.1) _), cl0 (blk_far (p := ⟨g3, 1, none⟩) (blk_far (p := ⟨g3, 0, none⟩) H9t.out (Ne.symm ND.out.2.1) _) (Ne.symm ND.out.2.1) _)⟩ (fun hHeld => ?_)
      clear hK K kZ0 kZ1 fZ0 fZ1
      refine norm_ (a' := ?_) ?_ ?_
      rotate_left
      · rfl
      refine pure_ (i := 20) (N := some 7) (v := ?_) (a' := ?_) #[true, true, true, true, true, true, true, true, true, true, true, true, true, true, true, true, true, true, true, true, true] rfl rfl (any_of HT_.out (by kernel_rfl)) (fun _ _ _ h => h) (Or.inl ⟨by rfl, ?_⟩) ?_ ?_
      rotate_left
      · intro w'
        go_simp
        with_reducible rfl
      rotate_left
      · simp only [Act.put, List.setIfInBounds_toArray, List.set_cons_zero, List.set_cons_succ, i64_w, i32_w]
        rfl
      refine done_ (done_of HT_.out (by kernel_rfl)) ?_
      go_wp2_with (fail)
      refine bodyPost_ret (results_ct rfl _ _ g3 23 #[.int .i64 (good 3 n1 d1 n2 d2).1, .int .i64 (good 3 n1 d1 n2 d2).2.1] (0, 0) _ rfl (blk_put (cs := #[.int .i64 (good 3 n1 d1 n2 d2).1, .int .i64 0]) (blk_put (cs := #[.int .i64 0, .int .i64 0]) HZt.out 0 _ rfl) 1 _ rfl) Try.underlying23 rfl (by kernel_rfl)) rfl ?_
      exact ⟨rfl, below_set (below_set HBt.out GE.out) GE.out⟩
end Go.Proofs.Ytpcdcanmbokpfaa.PRef
