import Derived.Test.YtpcdcanmbokpfaaDoorMRefRefSTd
namespace Go.Proofs.YtpcdcanmbokpfaaDoor.PRef
open Go Go.RowKit Go.Proofs.YtpcdcanmbokpfaaDoorW.PrintWords Go.Proofs.YtpcdcanmbokpfaaDoorW.PrintLast Go.Proofs.YtpcdcanmbokpfaaDoorW.PrintMore BallBits
attribute [local go_sem] max2_int min2_int max_two min_two max_three min_three max_four min_four
set_option linter.unusedVariables false
set_option linter.unusedSimpArgs false
def kreg.T : Bool × List (List Nat × List Nat) := (true, [([], []), ([0], [0]), ([], []), ([2, 1], [2]), ([], []), ([], []), ([4, 1, 3, 0, 1, 4, 5], [1, 4]), ([5, 3, 6, 0, 1, 2, 3, 4, 5, 6], [3, 5])])
def kreg.B : List Nat := [0, 1, 0, 7, 0, 0, 63, 127]
theorem kreg.tab : rtab .any (opsOf Tryd.f12 3) = kreg.T := by kernel_rfl
theorem kreg.bits : waitsOk kreg.T.2 kreg.B = true := by kernel_rfl
abbrev t_ : Bool := true
abbrev f_ : Bool := false
theorem twoA (w : World) (a b : Obj) : ((w.alloc a).alloc b).heap[w.heap.size]? = some a ∧ ((w.alloc a).alloc b).heap[w.heap.size + 1]? = some b := by
  have e1 : (w.alloc a).heap.size = w.heap.size + 1 := by show (w.heap.push a).size = _; simp
  refine ⟨blk_alloc (by simpa using heap_alloc_new w a) b, ?_⟩
  rw [← e1]; simpa using heap_alloc_new (w.alloc a) b
theorem sz65 {n : Nat} (h : n ≤ 9223372036854775808) : Sz n := sz64 (by omega)
theorem szm {a b : Nat} (ha : a ≤ 9223372036854775808) (hb : b ≤ 9223372036854775808) : a * b ≤ 85070591730234615865843651857942052864 := Nat.le_trans (Nat.mul_le_mul ha hb) (by decide)
theorem sz129 {n : Nat} (h : n < 680564733841876926926749214863536422912) : Sz n := Nat.le_trans (length_bof_le (m := 129) h) (by omega)
def Sizes (a b c d : Nat) : Prop := Sz a ∧ Sz b ∧ Sz c ∧ Sz d ∧ Sz (a * d) ∧ Sz (c * b)
theorem sizes {n1 d1 n2 d2 : Int} (hi : BallQ.In64 n1 ∧ BallQ.In64 d1 ∧ BallQ.In64 n2 ∧ BallQ.In64 d2) : Sizes n1.natAbs d1.natAbs n2.natAbs d2.natAbs := by
  obtain ⟨⟨a0, a1⟩, ⟨b0, b1⟩, ⟨c0, c1⟩, ⟨e0, e1⟩⟩ := hi
  have ha : n1.natAbs ≤ 9223372036854775808 := by omega
  have hb : d1.natAbs ≤ 9223372036854775808 := by omega
  have hc : n2.natAbs ≤ 9223372036854775808 := by omega
  have hd : d2.natAbs ≤ 9223372036854775808 := by omega
  have lt : ∀ {x : Nat}, x ≤ 85070591730234615865843651857942052864 → Sz x := fun h => sz129 (Nat.lt_of_le_of_lt h (by decide))
  exact ⟨sz65 ha, sz65 hb, sz65 hc, sz65 hd, lt (szm ha hd), lt (szm hc hb)⟩
abbrev FB (w W : World) (g1 g2 : Nat) (n1 d1 n2 d2 : Int) : Prop := W.heap[g1]? = some (.cells #[.int .i64 n1, .int .i64 d1] 23 (0, 0)) ∧ W.heap[g2]? = some (.cells #[.int .i64 n2, .int .i64 d2] 23 (0, 0)) ∧ Below w.heap.size w W
abbrev FN (W : World) (x y : Value) (n d : Int) : Prop := NB W x n.natAbs ∧ NB W y d.natAbs
abbrev FC (w W : World) (p : Nat) : Prop := W.heap[p]? = some (.cells #[.slice none 0 0, .slice none 0 0, .bool false] 45 (0, 0)) ∧ w.heap.size ≤ p
def cmpN (n1 d1 n2 d2 : Int) : Int := if sumN n1.natAbs d1.natAbs n2.natAbs d2.natAbs (decide (n1 < 0)) (!decide (n2 < 0)) = 0 then 0 else if sumM n1.natAbs d1.natAbs n2.natAbs d2.natAbs (decide (n1 < 0)) (!decide (n2 < 0)) = true then -1 else 1
set_option maxHeartbeats 4000000 in
set_option maxRecDepth 100000 in
theorem cmp_bad (n1 d1 n2 d2 : Int) (w : World) (hi : BallQ.In64 n1 ∧ BallQ.In64 d1 ∧ BallQ.In64 n2 ∧ BallQ.In64 d2) (hbad : ¬ (BallQ.Right n1 d1 ∧ BallQ.Right n2 d2)) :
    Calls Tryd.prog 12 #[.agg #[.int .i64 n1, .int .i64 d1], .agg #[.int .i64 n2, .int .i64 d2]] w fun e w' => e = .returned (.int .i64 0) ∧ Below w.heap.size w w' := by
  have HI := Aside0.mk hi
  clear hi
  go_enter Tryd.func12, Tryd.ntmps12
  go_wp2_with (fail)
  have T2 := twoA w (.cells #[.int .i64 n1, .int .i64 d1] 23 (0, 0)) (.cells #[.int .i64 n2, .int .i64 d2] 23 (0, 0))
  have B2 := below_alloc (below_alloc (Below.refl w.heap.size w) (.cells #[.int .i64 n1, .int .i64 d1] 23 (0, 0))) (.cells #[.int .i64 n2, .int .i64 d2] 23 (0, 0))
  refine (right_c n1 d1 HI.out.1 HI.out.2.1 _).mono ?_
  rintro e W1 ⟨rfl, hb⟩
  have HX := Aside0.mk (blk_below T2.1 hb)
  have HY := Aside0.mk (blk_below T2.2 hb)
  have HB := Aside0.mk (below_step B2 hb)
  clear T2 B2 hb
  obtain ⟨g1, hg1⟩ : ∃ g1 : Nat, w.heap.size = g1 := ⟨_, rfl⟩
  obtain ⟨g2, hg2⟩ : ∃ g2 : Nat, w.heap.size + 1 = g2 := ⟨_, rfl⟩
  rw [hg2] at HY
  rw [hg1] at HX
  rw [hg2, hg1]
  clear hg1 hg2
  have k0 := (cl2 HX.out).1
  have k1 := (cl2 HX.out).2
  have k2 := (cl2 HY.out).1
  have k3 := (cl2 HY.out).2
  by_cases h1 : BallQ.Right n1 d1
  · rw [decide_eq_true h1]
    go_wp2_with (fail)
    refine (right_c n2 d2 HI.out.2.2.1 HI.out.2.2.2 _).mono ?_
    rintro e W2 ⟨rfl, hb⟩
    replace HX := Aside0.mk (blk_below HX.out hb)
    replace HY := Aside0.mk (blk_below HY.out hb)
    replace HB := Aside0.mk (below_step HB.out hb)
    clear hb k0 k1 k2 k3
    rw [decide_eq_false (fun h2 => hbad ⟨h1, h2⟩)]
    go_wp2_with (fail)
    go_ret
    exact ⟨rfl, HB.out⟩
  · rw [decide_eq_false h1]
    go_wp2_with (fail)
    go_ret
    exact ⟨rfl, HB.out⟩
set_option maxHeartbeats 8000000 in
set_option maxRecDepth 100000 in
theorem cmp_good (n1 d1 n2 d2 : Int) (w : World) (hi : BallQ.In64 n1 ∧ BallQ.In64 d1 ∧ BallQ.In64 n2 ∧ BallQ.In64 d2) (h1 : BallQ.Right n1 d1) (h2 : BallQ.Right n2 d2) :
    Calls Tryd.prog 12 #[.agg #[.int .i64 n1, .int .i64 d1], .agg #[.int .i64 n2, .int .i64 d2]] w fun e w' => e = .returned (.int .i64 (cmpN n1 d1 n2 d2)) ∧ Below w.heap.size w w' := by
  have HI := Aside0.mk hi
  clear hi
  go_enter Tryd.func12, Tryd.ntmps12
  go_wp2_with (fail)
  have T2 := twoA w (.cells #[.int .i64 n1, .int .i64 d1] 23 (0, 0)) (.cells #[.int .i64 n2, .int .i64 d2] 23 (0, 0))
  have B2 := below_alloc (below_alloc (Below.refl w.heap.size w) (.cells #[.int .i64 n1, .int .i64 d1] 23 (0, 0))) (.cells #[.int .i64 n2, .int .i64 d2] 23 (0, 0))
  refine (right_c n1 d1 HI.out.1 HI.out.2.1 _).mono ?_
  rintro e W1 ⟨rfl, hb⟩
  have HX := Aside0.mk (blk_below T2.1 hb)
  have HY := Aside0.mk (blk_below T2.2 hb)
  have HB := Aside0.mk (below_step B2 hb)
  clear T2 B2 hb
  obtain ⟨g1, hg1⟩ : ∃ g1 : Nat, w.heap.size = g1 := ⟨_, rfl⟩
  obtain ⟨g2, hg2⟩ : ∃ g2 : Nat, w.heap.size + 1 = g2 := ⟨_, rfl⟩
  rw [hg2] at HY
  rw [hg1] at HX
  rw [hg2, hg1]
  clear hg1 hg2
  have k0 := (cl2 HX.out).1
  have k1 := (cl2 HX.out).2
  have k2 := (cl2 HY.out).1
  have k3 := (cl2 HY.out).2
  rw [decide_eq_true h1]
  go_wp2_with (fail)
  refine (right_c n2 d2 HI.out.2.2.1 HI.out.2.2.2 _).mono ?_
  rintro e W2 ⟨rfl, hb⟩
  replace HX := Aside0.mk (blk_below HX.out hb)
  replace HY := Aside0.mk (blk_below HY.out hb)
  replace HB := Aside0.mk (below_step HB.out hb)
  clear hb k0 k1 k2 k3
  rw [decide_eq_true h2]
  clear h1 h2
  go_wp2_with (fail)
  have HBq := Aside0.mk (below_drew1 HB.out)
  have HXq := Aside0.mk (blk_drew HX.out)
  have HYq := Aside0.mk (blk_drew HY.out)
  have sX := cl2 HX.out
  have sY := cl2 HY.out
  clear HX HY HB
  refine start_ (n := 8) (S := fun w' => (w'.cell? ⟨g1, 0, none⟩ = some (.int .i64 n1) ∧ w'.cell? ⟨g1, 1, none⟩ = some (.int .i64 d1)) ∧ (w'.cell? ⟨g2, 0, none⟩ = some (.int .i64 n2) ∧ w'.cell? ⟨g2, 1, none⟩ = some (.int .i64 d2))) (ds := []) #[f_, f_, f_, f_, f_, f_, f_, f_] (by kernel_rfl) rfl rfl (⟨sX, sY⟩) (fun hHeld => ?_); refine with_tabW kreg.tab kreg.bits (fun HT_ HW_ => ?_)
  clear sX sY
  generalize W2.drew = W at HBq HXq HYq hHeld ⊢
  have hX := HXq.out
  have hY := HYq.out
  have hB := HBq.out
  clear HXq HYq HBq
  refine take_ (i := 0) (N := some 16) (v := ?_) (a' := ?_) #[t_, f_, f_, f_, f_, f_, f_, f_] rfl rfl (take_ofW HT_.out HW_.out (by kernel_rfl)) (fun _ _ _ h => h) (Or.inl ⟨by rfl, ?_⟩) hHeld ?_ ?_
  rotate_left
  · intro w' s0
    obtain ⟨⟨s1, s2⟩, s3, s4⟩ := s0
    go_simp
    with_reducible rfl
  rotate_left
  · simp only [Act.put, List.setIfInBounds_toArray, List.set_cons_zero, List.set_cons_succ, i64_w, i32_w]
    rfl
  refine take_ (i := 2) (N := some 18) (v := ?_) (a' := ?_) #[t_, f_, t_, f_, f_, f_, f_, f_] rfl rfl (take_ofW HT_.out HW_.out (by kernel_rfl)) (fun _ _ _ h => h) (Or.inl ⟨by rfl, ?_⟩) hHeld ?_ ?_
  rotate_left
  · intro w' s0
    obtain ⟨⟨s1, s2⟩, s3, s4⟩ := s0
    go_simp
    with_reducible rfl
  rotate_left
  · simp only [Act.put, List.setIfInBounds_toArray, List.set_cons_zero, List.set_cons_succ, i64_w, i32_w]
    rfl
  refine join_ (σ := Value × Value × Value × Value × Nat × Nat) 2 #[t_, t_, t_, t_, t_, t_, f_, f_] (fun s => [(17, .agg #[s.1, s.2.1, .bool (decide (n1 < 0))]), (19, .agg #[s.2.2.1, s.2.2.2.1, .bool (decide (n2 < 0))]), (5, .pointer (some ⟨s.2.2.2.2.1, 0, none⟩)), (6, .pointer (some ⟨s.2.2.2.2.2, 0, none⟩))]) (fun s W' => FB w W' g1 g2 n1 d1 n2 d2 ∧ FN W' s.1 s.2.1 n1 d1 ∧ FN W' s.2.2.1 s.2.2.2.1 n2 d2 ∧ FC w W' s.2.2.2.2.1 ∧ FC w W' s.2.2.2.2.2 ∧ s.2.2.2.2.1 ≠ s.2.2.2.2.2) ?_ (fun hN1345 => ?_)
  rotate_left
  refine join_ (σ := Value × Value × Nat × Nat) 3 #[t_, t_, t_, f_, t_, t_, f_, f_] (fun s => [(17, .agg #[s.1, s.2.1, .bool (decide (n1 < 0))]), (5, .pointer (some ⟨s.2.2.1, 0, none⟩)), (6, .pointer (some ⟨s.2.2.2, 0, none⟩))]) (fun s W' => FB w W' g1 g2 n1 d1 n2 d2 ∧ FN W' s.1 s.2.1 n1 d1 ∧ FC w W' s.2.2.1 ∧ FC w W' s.2.2.2 ∧ s.2.2.1 ≠ s.2.2.2) ?_ (fun hN145 => ?_)
  rotate_left
  refine join_ (σ := Value × Value × Value × Value × Nat) 3 #[t_, t_, t_, t_, t_, f_, f_, f_] (fun s => [(17, .agg #[s.1, s.2.1, .bool (decide (n1 < 0))]), (19, .agg #[s.2.2.1, s.2.2.2.1, .bool (decide (n2 < 0))]), (5, .pointer (some ⟨s.2.2.2.2, 0, none⟩))]) (fun s W' => FB w W' g1 g2 n1 d1 n2 d2 ∧ FN W' s.1 s.2.1 n1 d1 ∧ FN W' s.2.2.1 s.2.2.2.1 n2 d2 ∧ FC w W' s.2.2.2.2 ∧ True) ?_ (fun hN134 => ?_)
  rotate_left
  refine join_ (σ := Value × Value × Value × Value × Nat) 3 #[t_, t_, t_, t_, f_, t_, f_, f_] (fun s => [(17, .agg #[s.1, s.2.1, .bool (decide (n1 < 0))]), (19, .agg #[s.2.2.1, s.2.2.2.1, .bool (decide (n2 < 0))]), (6, .pointer (some ⟨s.2.2.2.2, 0, none⟩))]) (fun s W' => FB w W' g1 g2 n1 d1 n2 d2 ∧ FN W' s.1 s.2.1 n1 d1 ∧ FN W' s.2.2.1 s.2.2.2.1 n2 d2 ∧ FC w W' s.2.2.2.2 ∧ True) ?_ (fun hN135 => ?_)
  rotate_left
  refine join_ (σ := Nat × Nat) 4 #[t_, f_, t_, f_, t_, t_, f_, f_] (fun s => [(5, .pointer (some ⟨s.1, 0, none⟩)), (6, .pointer (some ⟨s.2, 0, none⟩))]) (fun s W' => FB w W' g1 g2 n1 d1 n2 d2 ∧ FC w W' s.1 ∧ FC w W' s.2 ∧ s.1 ≠ s.2) ?_ (fun hN45 => ?_)
  rotate_left
  refine join_ (σ := Value × Value × Nat) 4 #[t_, t_, t_, f_, t_, f_, f_, f_] (fun s => [(17, .agg #[s.1, s.2.1, .bool (decide (n1 < 0))]), (5, .pointer (some ⟨s.2.2, 0, none⟩))]) (fun s W' => FB w W' g1 g2 n1 d1 n2 d2 ∧ FN W' s.1 s.2.1 n1 d1 ∧ FC w W' s.2.2 ∧ True) ?_ (fun hN14 => ?_)
  rotate_left
  refine join_ (σ := Value × Value × Nat) 4 #[t_, t_, t_, f_, f_, t_, f_, f_] (fun s => [(17, .agg #[s.1, s.2.1, .bool (decide (n1 < 0))]), (6, .pointer (some ⟨s.2.2, 0, none⟩))]) (fun s W' => FB w W' g1 g2 n1 d1 n2 d2 ∧ FN W' s.1 s.2.1 n1 d1 ∧ FC w W' s.2.2 ∧ True) ?_ (fun hN15 => ?_)
  rotate_left
  refine join_ (σ := Value × Value × Value × Value) 4 #[t_, t_, t_, t_, f_, f_, f_, f_] (fun s => [(17, .agg #[s.1, s.2.1, .bool (decide (n1 < 0))]), (19, .agg #[s.2.2.1, s.2.2.2, .bool (decide (n2 < 0))])]) (fun s W' => FB w W' g1 g2 n1 d1 n2 d2 ∧ FN W' s.1 s.2.1 n1 d1 ∧ FN W' s.2.2.1 s.2.2.2 n2 d2 ∧ True) ?_ (fun hN13 => ?_)
  rotate_left
  refine join_ (σ := Nat) 5 #[t_, f_, t_, f_, t_, f_, f_, f_] (fun s => [(5, .pointer (some ⟨s, 0, none⟩))]) (fun s W' => FB w W' g1 g2 n1 d1 n2 d2 ∧ FC w W' s ∧ True) ?_ (fun hN4 => ?_)
  rotate_left
  refine join_ (σ := Nat) 5 #[t_, f_, t_, f_, f_, t_, f_, f_] (fun s => [(6, .pointer (some ⟨s, 0, none⟩))]) (fun s W' => FB w W' g1 g2 n1 d1 n2 d2 ∧ FC w W' s ∧ True) ?_ (fun hN5 => ?_)
  rotate_left
  refine join_ (σ := Value × Value) 5 #[t_, t_, t_, f_, f_, f_, f_, f_] (fun s => [(17, .agg #[s.1, s.2, .bool (decide (n1 < 0))])]) (fun s W' => FB w W' g1 g2 n1 d1 n2 d2 ∧ FN W' s.1 s.2 n1 d1 ∧ True) ?_ (fun hN1 => ?_)
  rotate_left
  refine three_ (i := 1) (j := 4) (k := 5) (Ni := some 17) (Nj := some 5) (Nk := some 6) #[t_, t_, t_, f_, f_, f_, f_, f_] #[t_, f_, t_, f_, t_, f_, f_, f_] #[t_, f_, t_, f_, f_, t_, f_, f_] rfl rfl rfl rfl rfl rfl (three_of HT_.out (by kernel_rfl)) (by decide) (by decide) (by decide) (fun K hK => ?_) (fun K hK => ?_) (fun K hK => ?_)
  · skip
    refine goes_ Tryd.func24 (by kernel_rfl) rfl #[.agg #[.int .i64 n1, .int .i64 d1]] (by rfl) rfl rfl (by (try simp only [List.map_toArray, List.map_cons, List.map_nil]); first | done | rfl) ?_
    refine (from_c n1 d1 HI.out.1 HI.out.2.1 _).mono ?_
    rintro e W' ⟨x1, y1, rfl, hx1, hy1, hb⟩
    refine ⟨_, rfl, ?_⟩
    have kX := blk_below hX hb
    have kY := blk_below hY hb
    refine hK.out _ _ ⟨cl2 kX, cl2 kY⟩ (fun hHeld => ?_)
    clear hK K
    refine norm_ (a' := putAll _ _) ?_ (hN1 ⟨x1, y1⟩ _ ⟨⟨kX, kY, below_step hB hb⟩, ⟨hx1, hy1⟩, trivial⟩)
    first | (simp only [putAll, Act.put, List.setIfInBounds_toArray, List.set_cons_zero, List.set_cons_succ, i64_w, i32_w]; done) | (simp only [putAll, Act.put, List.setIfInBounds_toArray, List.set_cons_zero, List.set_cons_succ, i64_w, i32_w]; rfl)
  · skip
    have hb := below_alloc (Below.refl W.heap.size W) (.cells #[.slice none 0 0, .slice none 0 0, .bool false] 45 (0, 0))
    have h8 := blk_new W (.cells #[.slice none 0 0, .slice none 0 0, .bool false] 45 (0, 0))
    have l8 : w.heap.size ≤ W.heap.size := hB.size
    refine value_ (v := .pointer (some ⟨W.heap.size, 0, none⟩)) (w1 := W.alloc (.cells #[.slice none 0 0, .slice none 0 0, .bool false] 45 (0, 0))) (by rfl) rfl (by first | (go_simp; done) | (go_simp; rfl)) ?_
    have kX := blk_below hX hb
    have kY := blk_below hY hb
    refine hK.out _ _ ⟨cl2 kX, cl2 kY⟩ (fun hHeld => ?_)
    clear hK K
    refine norm_ (a' := putAll _ _) ?_ (hN4 W.heap.size _ ⟨⟨kX, kY, below_step hB hb⟩, ⟨h8, l8⟩, trivial⟩)
    first | (simp only [putAll, Act.put, List.setIfInBounds_toArray, List.set_cons_zero, List.set_cons_succ, i64_w, i32_w]; done) | (simp only [putAll, Act.put, List.setIfInBounds_toArray, List.set_cons_zero, List.set_cons_succ, i64_w, i32_w]; rfl)
  · skip
    have hb := below_alloc (Below.refl W.heap.size W) (.cells #[.slice none 0 0, .slice none 0 0, .bool false] 45 (0, 0))
    have h9 := blk_new W (.cells #[.slice none 0 0, .slice none 0 0, .bool false] 45 (0, 0))
    have l9 : w.heap.size ≤ W.heap.size := hB.size
    refine value_ (v := .pointer (some ⟨W.heap.size, 0, none⟩)) (w1 := W.alloc (.cells #[.slice none 0 0, .slice none 0 0, .bool false] 45 (0, 0))) (by rfl) rfl (by first | (go_simp; done) | (go_simp; rfl)) ?_
    have kX := blk_below hX hb
    have kY := blk_below hY hb
    refine hK.out _ _ ⟨cl2 kX, cl2 kY⟩ (fun hHeld => ?_)
    clear hK K
    refine norm_ (a' := putAll _ _) ?_ (hN5 W.heap.size _ ⟨⟨kX, kY, below_step hB hb⟩, ⟨h9, l9⟩, trivial⟩)
    first | (simp only [putAll, Act.put, List.setIfInBounds_toArray, List.set_cons_zero, List.set_cons_succ, i64_w, i32_w]; done) | (simp only [putAll, Act.put, List.setIfInBounds_toArray, List.set_cons_zero, List.set_cons_succ, i64_w, i32_w]; rfl)
  rotate_left
  · clear hX hY hB hHeld W
    rintro ⟨x1, y1, p8, p9⟩ W ⟨⟨hX, hY, hB⟩, ⟨hx1, hy1⟩, ⟨h8, l8⟩, ⟨h9, l9⟩, h89⟩
    refine norm_ (a' := ?_) ?_ ?_
    rotate_left
    · simp only [putAll, Act.put, List.setIfInBounds_toArray, List.set_cons_zero, List.set_cons_succ, i64_w, i32_w]
      rfl
    refine one_ (i := 3) (N := some 19) #[t_, t_, t_, t_, t_, t_, f_, f_] rfl rfl (one_of HT_.out (by kernel_rfl)) (by decide) (fun K hK => ?_)
    refine goes_ Tryd.func24 (by kernel_rfl) rfl #[.agg #[.int .i64 n2, .int .i64 d2]] (by rfl) rfl rfl (by (try simp only [List.map_toArray, List.map_cons, List.map_nil]); first | done | rfl) ?_
    refine (from_c n2 d2 HI.out.2.2.1 HI.out.2.2.2 _).mono ?_
    rintro e W' ⟨x2, y2, rfl, hx2, hy2, hb⟩
    refine ⟨_, rfl, ?_⟩
    have kX := blk_below hX hb
    have kY := blk_below hY hb
    refine hK.out _ _ ⟨cl2 kX, cl2 kY⟩ (fun hHeld => ?_)
    clear hK K
    refine norm_ (a' := putAll _ _) ?_ (hN1345 ⟨x1, y1, x2, y2, p8, p9⟩ _ ⟨⟨kX, kY, below_step hB hb⟩, ⟨hx1.below hb, hy1.below hb⟩, ⟨hx2, hy2⟩, ⟨blk_below h8 hb, l8⟩, ⟨blk_below h9 hb, l9⟩, h89⟩)
    first | (simp only [putAll, Act.put, List.setIfInBounds_toArray, List.set_cons_zero, List.set_cons_succ, i64_w, i32_w]; done) | (simp only [putAll, Act.put, List.setIfInBounds_toArray, List.set_cons_zero, List.set_cons_succ, i64_w, i32_w]; rfl)
  · clear hX hY hB hHeld W
    rintro ⟨x1, y1, x2, y2, p8⟩ W ⟨⟨hX, hY, hB⟩, ⟨hx1, hy1⟩, ⟨hx2, hy2⟩, ⟨h8, l8⟩, _⟩
    refine norm_ (a' := ?_) ?_ ?_
    rotate_left
    · simp only [putAll, Act.put, List.setIfInBounds_toArray, List.set_cons_zero, List.set_cons_succ, i64_w, i32_w]
      rfl
    refine one_ (i := 5) (N := some 6) #[t_, t_, t_, t_, t_, t_, f_, f_] rfl rfl (one_of HT_.out (by kernel_rfl)) (by decide) (fun K hK => ?_)
    have hb := below_alloc (Below.refl W.heap.size W) (.cells #[.slice none 0 0, .slice none 0 0, .bool false] 45 (0, 0))
    have h9 := blk_new W (.cells #[.slice none 0 0, .slice none 0 0, .bool false] 45 (0, 0))
    have l9 : w.heap.size ≤ W.heap.size := hB.size
    refine value_ (v := .pointer (some ⟨W.heap.size, 0, none⟩)) (w1 := W.alloc (.cells #[.slice none 0 0, .slice none 0 0, .bool false] 45 (0, 0))) (by rfl) rfl (by first | (go_simp; done) | (go_simp; rfl)) ?_
    have hl : p8 < W.heap.size := blk_lt h8
    have kX := blk_below hX hb
    have kY := blk_below hY hb
    refine hK.out _ _ ⟨cl2 kX, cl2 kY⟩ (fun hHeld => ?_)
    clear hK K
    refine norm_ (a' := putAll _ _) ?_ (hN1345 ⟨x1, y1, x2, y2, p8, W.heap.size⟩ _ ⟨⟨kX, kY, below_step hB hb⟩, ⟨hx1.below hb, hy1.below hb⟩, ⟨hx2.below hb, hy2.below hb⟩, ⟨blk_below h8 hb, l8⟩, ⟨h9, l9⟩, Nat.ne_of_lt hl⟩)
    first | (simp only [putAll, Act.put, List.setIfInBounds_toArray, List.set_cons_zero, List.set_cons_succ, i64_w, i32_w]; done) | (simp only [putAll, Act.put, List.setIfInBounds_toArray, List.set_cons_zero, List.set_cons_succ, i64_w, i32_w]; rfl)
  · clear hX hY hB hHeld W
    rintro ⟨x1, y1, x2, y2, p9⟩ W ⟨⟨hX, hY, hB⟩, ⟨hx1, hy1⟩, ⟨hx2, hy2⟩, ⟨h9, l9⟩, _⟩
    refine norm_ (a' := ?_) ?_ ?_
    rotate_left
    · simp only [putAll, Act.put, List.setIfInBounds_toArray, List.set_cons_zero, List.set_cons_succ, i64_w, i32_w]
      rfl
    refine one_ (i := 4) (N := some 5) #[t_, t_, t_, t_, t_, t_, f_, f_] rfl rfl (one_of HT_.out (by kernel_rfl)) (by decide) (fun K hK => ?_)
    have hb := below_alloc (Below.refl W.heap.size W) (.cells #[.slice none 0 0, .slice none 0 0, .bool false] 45 (0, 0))
    have h8 := blk_new W (.cells #[.slice none 0 0, .slice none 0 0, .bool false] 45 (0, 0))
    have l8 : w.heap.size ≤ W.heap.size := hB.size
    refine value_ (v := .pointer (some ⟨W.heap.size, 0, none⟩)) (w1 := W.alloc (.cells #[.slice none 0 0, .slice none 0 0, .bool false] 45 (0, 0))) (by rfl) rfl (by first | (go_simp; done) | (go_simp; rfl)) ?_
    have hl : p9 < W.heap.size := blk_lt h9
    have kX := blk_below hX hb
    have kY := blk_below hY hb
    refine hK.out _ _ ⟨cl2 kX, cl2 kY⟩ (fun hHeld => ?_)
    clear hK K
    refine norm_ (a' := putAll _ _) ?_ (hN1345 ⟨x1, y1, x2, y2, W.heap.size, p9⟩ _ ⟨⟨kX, kY, below_step hB hb⟩, ⟨hx1.below hb, hy1.below hb⟩, ⟨hx2.below hb, hy2.below hb⟩, ⟨h8, l8⟩, ⟨blk_below h9 hb, l9⟩, Nat.ne_of_gt hl⟩)
    first | (simp only [putAll, Act.put, List.setIfInBounds_toArray, List.set_cons_zero, List.set_cons_succ, i64_w, i32_w]; done) | (simp only [putAll, Act.put, List.setIfInBounds_toArray, List.set_cons_zero, List.set_cons_succ, i64_w, i32_w]; rfl)
  · clear hX hY hB hHeld W
    rintro ⟨p8, p9⟩ W ⟨⟨hX, hY, hB⟩, ⟨h8, l8⟩, ⟨h9, l9⟩, h89⟩
    refine norm_ (a' := ?_) ?_ ?_
    rotate_left
    · simp only [putAll, Act.put, List.setIfInBounds_toArray, List.set_cons_zero, List.set_cons_succ, i64_w, i32_w]
      rfl
    refine one_ (i := 1) (N := some 17) #[t_, t_, t_, f_, t_, t_, f_, f_] rfl rfl (one_of HT_.out (by kernel_rfl)) (by decide) (fun K hK => ?_)
    refine goes_ Tryd.func24 (by kernel_rfl) rfl #[.agg #[.int .i64 n1, .int .i64 d1]] (by rfl) rfl rfl (by (try simp only [List.map_toArray, List.map_cons, List.map_nil]); first | done | rfl) ?_
    refine (from_c n1 d1 HI.out.1 HI.out.2.1 _).mono ?_
    rintro e W' ⟨x1, y1, rfl, hx1, hy1, hb⟩
    refine ⟨_, rfl, ?_⟩
    have kX := blk_below hX hb
    have kY := blk_below hY hb
    refine hK.out _ _ ⟨cl2 kX, cl2 kY⟩ (fun hHeld => ?_)
    clear hK K
    refine norm_ (a' := putAll _ _) ?_ (hN145 ⟨x1, y1, p8, p9⟩ _ ⟨⟨kX, kY, below_step hB hb⟩, ⟨hx1, hy1⟩, ⟨blk_below h8 hb, l8⟩, ⟨blk_below h9 hb, l9⟩, h89⟩)
    first | (simp only [putAll, Act.put, List.setIfInBounds_toArray, List.set_cons_zero, List.set_cons_succ, i64_w, i32_w]; done) | (simp only [putAll, Act.put, List.setIfInBounds_toArray, List.set_cons_zero, List.set_cons_succ, i64_w, i32_w]; rfl)
  · clear hX hY hB hHeld W
    rintro ⟨x1, y1, p8⟩ W ⟨⟨hX, hY, hB⟩, ⟨hx1, hy1⟩, ⟨h8, l8⟩, _⟩
    refine norm_ (a' := ?_) ?_ ?_
    rotate_left
    · simp only [putAll, Act.put, List.setIfInBounds_toArray, List.set_cons_zero, List.set_cons_succ, i64_w, i32_w]
      rfl
    refine two_ (i := 3) (j := 5) (Ni := some 19) (Nj := some 6) #[t_, t_, t_, t_, t_, f_, f_, f_] #[t_, t_, t_, f_, t_, t_, f_, f_] rfl rfl rfl rfl (two_of HT_.out (by kernel_rfl)) (by decide) (by decide) (fun K hK => ?_) (fun K hK => ?_)
    · skip
      refine goes_ Tryd.func24 (by kernel_rfl) rfl #[.agg #[.int .i64 n2, .int .i64 d2]] (by rfl) rfl rfl (by (try simp only [List.map_toArray, List.map_cons, List.map_nil]); first | done | rfl) ?_
      refine (from_c n2 d2 HI.out.2.2.1 HI.out.2.2.2 _).mono ?_
      rintro e W' ⟨x2, y2, rfl, hx2, hy2, hb⟩
      refine ⟨_, rfl, ?_⟩
      have kX := blk_below hX hb
      have kY := blk_below hY hb
      refine hK.out _ _ ⟨cl2 kX, cl2 kY⟩ (fun hHeld => ?_)
      clear hK K
      refine norm_ (a' := putAll _ _) ?_ (hN134 ⟨x1, y1, x2, y2, p8⟩ _ ⟨⟨kX, kY, below_step hB hb⟩, ⟨hx1.below hb, hy1.below hb⟩, ⟨hx2, hy2⟩, ⟨blk_below h8 hb, l8⟩, trivial⟩)
      first | (simp only [putAll, Act.put, List.setIfInBounds_toArray, List.set_cons_zero, List.set_cons_succ, i64_w, i32_w]; done) | (simp only [putAll, Act.put, List.setIfInBounds_toArray, List.set_cons_zero, List.set_cons_succ, i64_w, i32_w]; rfl)
    · skip
      have hb := below_alloc (Below.refl W.heap.size W) (.cells #[.slice none 0 0, .slice none 0 0, .bool false] 45 (0, 0))
      have h9 := blk_new W (.cells #[.slice none 0 0, .slice none 0 0, .bool false] 45 (0, 0))
      have l9 : w.heap.size ≤ W.heap.size := hB.size
      refine value_ (v := .pointer (some ⟨W.heap.size, 0, none⟩)) (w1 := W.alloc (.cells #[.slice none 0 0, .slice none 0 0, .bool false] 45 (0, 0))) (by rfl) rfl (by first | (go_simp; done) | (go_simp; rfl)) ?_
      have hl : p8 < W.heap.size := blk_lt h8
      have kX := blk_below hX hb
      have kY := blk_below hY hb
      refine hK.out _ _ ⟨cl2 kX, cl2 kY⟩ (fun hHeld => ?_)
      clear hK K
      refine norm_ (a' := putAll _ _) ?_ (hN145 ⟨x1, y1, p8, W.heap.size⟩ _ ⟨⟨kX, kY, below_step hB hb⟩, ⟨hx1.below hb, hy1.below hb⟩, ⟨blk_below h8 hb, l8⟩, ⟨h9, l9⟩, Nat.ne_of_lt hl⟩)
      first | (simp only [putAll, Act.put, List.setIfInBounds_toArray, List.set_cons_zero, List.set_cons_succ, i64_w, i32_w]; done) | (simp only [putAll, Act.put, List.setIfInBounds_toArray, List.set_cons_zero, List.set_cons_succ, i64_w, i32_w]; rfl)
  · clear hX hY hB hHeld W
    rintro ⟨x1, y1, p9⟩ W ⟨⟨hX, hY, hB⟩, ⟨hx1, hy1⟩, ⟨h9, l9⟩, _⟩
    refine norm_ (a' := ?_) ?_ ?_
    rotate_left
    · simp only [putAll, Act.put, List.setIfInBounds_toArray, List.set_cons_zero, List.set_cons_succ, i64_w, i32_w]
      rfl
    refine two_ (i := 3) (j := 4) (Ni := some 19) (Nj := some 5) #[t_, t_, t_, t_, f_, t_, f_, f_] #[t_, t_, t_, f_, t_, t_, f_, f_] rfl rfl rfl rfl (two_of HT_.out (by kernel_rfl)) (by decide) (by decide) (fun K hK => ?_) (fun K hK => ?_)
    · skip
      refine goes_ Tryd.func24 (by kernel_rfl) rfl #[.agg #[.int .i64 n2, .int .i64 d2]] (by rfl) rfl rfl (by (try simp only [List.map_toArray, List.map_cons, List.map_nil]); first | done | rfl) ?_
      refine (from_c n2 d2 HI.out.2.2.1 HI.out.2.2.2 _).mono ?_
      rintro e W' ⟨x2, y2, rfl, hx2, hy2, hb⟩
      refine ⟨_, rfl, ?_⟩
      have kX := blk_below hX hb
      have kY := blk_below hY hb
      refine hK.out _ _ ⟨cl2 kX, cl2 kY⟩ (fun hHeld => ?_)
      clear hK K
      refine norm_ (a' := putAll _ _) ?_ (hN135 ⟨x1, y1, x2, y2, p9⟩ _ ⟨⟨kX, kY, below_step hB hb⟩, ⟨hx1.below hb, hy1.below hb⟩, ⟨hx2, hy2⟩, ⟨blk_below h9 hb, l9⟩, trivial⟩)
      first | (simp only [putAll, Act.put, List.setIfInBounds_toArray, List.set_cons_zero, List.set_cons_succ, i64_w, i32_w]; done) | (simp only [putAll, Act.put, List.setIfInBounds_toArray, List.set_cons_zero, List.set_cons_succ, i64_w, i32_w]; rfl)
    · skip
      have hb := below_alloc (Below.refl W.heap.size W) (.cells #[.slice none 0 0, .slice none 0 0, .bool false] 45 (0, 0))
      have h8 := blk_new W (.cells #[.slice none 0 0, .slice none 0 0, .bool false] 45 (0, 0))
      have l8 : w.heap.size ≤ W.heap.size := hB.size
      refine value_ (v := .pointer (some ⟨W.heap.size, 0, none⟩)) (w1 := W.alloc (.cells #[.slice none 0 0, .slice none 0 0, .bool false] 45 (0, 0))) (by rfl) rfl (by first | (go_simp; done) | (go_simp; rfl)) ?_
      have hl : p9 < W.heap.size := blk_lt h9
      have kX := blk_below hX hb
      have kY := blk_below hY hb
      refine hK.out _ _ ⟨cl2 kX, cl2 kY⟩ (fun hHeld => ?_)
      clear hK K
      refine norm_ (a' := putAll _ _) ?_ (hN145 ⟨x1, y1, W.heap.size, p9⟩ _ ⟨⟨kX, kY, below_step hB hb⟩, ⟨hx1.below hb, hy1.below hb⟩, ⟨h8, l8⟩, ⟨blk_below h9 hb, l9⟩, Nat.ne_of_gt hl⟩)
      first | (simp only [putAll, Act.put, List.setIfInBounds_toArray, List.set_cons_zero, List.set_cons_succ, i64_w, i32_w]; done) | (simp only [putAll, Act.put, List.setIfInBounds_toArray, List.set_cons_zero, List.set_cons_succ, i64_w, i32_w]; rfl)
  · clear hX hY hB hHeld W
    rintro ⟨x1, y1, x2, y2⟩ W ⟨⟨hX, hY, hB⟩, ⟨hx1, hy1⟩, ⟨hx2, hy2⟩, _⟩
    refine norm_ (a' := ?_) ?_ ?_
    rotate_left
    · simp only [putAll, Act.put, List.setIfInBounds_toArray, List.set_cons_zero, List.set_cons_succ, i64_w, i32_w]
      rfl
    refine two_ (i := 4) (j := 5) (Ni := some 5) (Nj := some 6) #[t_, t_, t_, t_, t_, f_, f_, f_] #[t_, t_, t_, t_, f_, t_, f_, f_] rfl rfl rfl rfl (two_of HT_.out (by kernel_rfl)) (by decide) (by decide) (fun K hK => ?_) (fun K hK => ?_)
    · skip
      have hb := below_alloc (Below.refl W.heap.size W) (.cells #[.slice none 0 0, .slice none 0 0, .bool false] 45 (0, 0))
      have h8 := blk_new W (.cells #[.slice none 0 0, .slice none 0 0, .bool false] 45 (0, 0))
      have l8 : w.heap.size ≤ W.heap.size := hB.size
      refine value_ (v := .pointer (some ⟨W.heap.size, 0, none⟩)) (w1 := W.alloc (.cells #[.slice none 0 0, .slice none 0 0, .bool false] 45 (0, 0))) (by rfl) rfl (by first | (go_simp; done) | (go_simp; rfl)) ?_
      have kX := blk_below hX hb
      have kY := blk_below hY hb
      refine hK.out _ _ ⟨cl2 kX, cl2 kY⟩ (fun hHeld => ?_)
      clear hK K
      refine norm_ (a' := putAll _ _) ?_ (hN134 ⟨x1, y1, x2, y2, W.heap.size⟩ _ ⟨⟨kX, kY, below_step hB hb⟩, ⟨hx1.below hb, hy1.below hb⟩, ⟨hx2.below hb, hy2.below hb⟩, ⟨h8, l8⟩, trivial⟩)
      first | (simp only [putAll, Act.put, List.setIfInBounds_toArray, List.set_cons_zero, List.set_cons_succ, i64_w, i32_w]; done) | (simp only [putAll, Act.put, List.setIfInBounds_toArray, List.set_cons_zero, List.set_cons_succ, i64_w, i32_w]; rfl)
    · skip
      have hb := below_alloc (Below.refl W.heap.size W) (.cells #[.slice none 0 0, .slice none 0 0, .bool false] 45 (0, 0))
      have h9 := blk_new W (.cells #[.slice none 0 0, .slice none 0 0, .bool false] 45 (0, 0))
      have l9 : w.heap.size ≤ W.heap.size := hB.size
      refine value_ (v := .pointer (some ⟨W.heap.size, 0, none⟩)) (w1 := W.alloc (.cells #[.slice none 0 0, .slice none 0 0, .bool false] 45 (0, 0))) (by rfl) rfl (by first | (go_simp; done) | (go_simp; rfl)) ?_
      have kX := blk_below hX hb
      have kY := blk_below hY hb
      refine hK.out _ _ ⟨cl2 kX, cl2 kY⟩ (fun hHeld => ?_)
      clear hK K
      refine norm_ (a' := putAll _ _) ?_ (hN135 ⟨x1, y1, x2, y2, W.heap.size⟩ _ ⟨⟨kX, kY, below_step hB hb⟩, ⟨hx1.below hb, hy1.below hb⟩, ⟨hx2.below hb, hy2.below hb⟩, ⟨h9, l9⟩, trivial⟩)
      first | (simp only [putAll, Act.put, List.setIfInBounds_toArray, List.set_cons_zero, List.set_cons_succ, i64_w, i32_w]; done) | (simp only [putAll, Act.put, List.setIfInBounds_toArray, List.set_cons_zero, List.set_cons_succ, i64_w, i32_w]; rfl)
  · clear hX hY hB hHeld W
    rintro p8 W ⟨⟨hX, hY, hB⟩, ⟨h8, l8⟩, _⟩
    refine norm_ (a' := ?_) ?_ ?_
    rotate_left
    · simp only [putAll, Act.put, List.setIfInBounds_toArray, List.set_cons_zero, List.set_cons_succ, i64_w, i32_w]
      rfl
    refine two_ (i := 1) (j := 5) (Ni := some 17) (Nj := some 6) #[t_, t_, t_, f_, t_, f_, f_, f_] #[t_, f_, t_, f_, t_, t_, f_, f_] rfl rfl rfl rfl (two_of HT_.out (by kernel_rfl)) (by decide) (by decide) (fun K hK => ?_) (fun K hK => ?_)
    · skip
      refine goes_ Tryd.func24 (by kernel_rfl) rfl #[.agg #[.int .i64 n1, .int .i64 d1]] (by rfl) rfl rfl (by (try simp only [List.map_toArray, List.map_cons, List.map_nil]); first | done | rfl) ?_
      refine (from_c n1 d1 HI.out.1 HI.out.2.1 _).mono ?_
      rintro e W' ⟨x1, y1, rfl, hx1, hy1, hb⟩
      refine ⟨_, rfl, ?_⟩
      have kX := blk_below hX hb
      have kY := blk_below hY hb
      refine hK.out _ _ ⟨cl2 kX, cl2 kY⟩ (fun hHeld => ?_)
      clear hK K
      refine norm_ (a' := putAll _ _) ?_ (hN14 ⟨x1, y1, p8⟩ _ ⟨⟨kX, kY, below_step hB hb⟩, ⟨hx1, hy1⟩, ⟨blk_below h8 hb, l8⟩, trivial⟩)
      first | (simp only [putAll, Act.put, List.setIfInBounds_toArray, List.set_cons_zero, List.set_cons_succ, i64_w, i32_w]; done) | (simp only [putAll, Act.put, List.setIfInBounds_toArray, List.set_cons_zero, List.set_cons_succ, i64_w, i32_w]; rfl)
    · skip
      have hb := below_alloc (Below.refl W.heap.size W) (.cells #[.slice none 0 0, .slice none 0 0, .bool false] 45 (0, 0))
      have h9 := blk_new W (.cells #[.slice none 0 0, .slice none 0 0, .bool false] 45 (0, 0))
      have l9 : w.heap.size ≤ W.heap.size := hB.size
      refine value_ (v := .pointer (some ⟨W.heap.size, 0, none⟩)) (w1 := W.alloc (.cells #[.slice none 0 0, .slice none 0 0, .bool false] 45 (0, 0))) (by rfl) rfl (by first | (go_simp; done) | (go_simp; rfl)) ?_
      have hl : p8 < W.heap.size := blk_lt h8
      have kX := blk_below hX hb
      have kY := blk_below hY hb
      refine hK.out _ _ ⟨cl2 kX, cl2 kY⟩ (fun hHeld => ?_)
      clear hK K
      refine norm_ (a' := putAll _ _) ?_ (hN45 ⟨p8, W.heap.size⟩ _ ⟨⟨kX, kY, below_step hB hb⟩, ⟨blk_below h8 hb, l8⟩, ⟨h9, l9⟩, Nat.ne_of_lt hl⟩)
      first | (simp only [putAll, Act.put, List.setIfInBounds_toArray, List.set_cons_zero, List.set_cons_succ, i64_w, i32_w]; done) | (simp only [putAll, Act.put, List.setIfInBounds_toArray, List.set_cons_zero, List.set_cons_succ, i64_w, i32_w]; rfl)
  · clear hX hY hB hHeld W
    rintro p9 W ⟨⟨hX, hY, hB⟩, ⟨h9, l9⟩, _⟩
    refine norm_ (a' := ?_) ?_ ?_
    rotate_left
    · simp only [putAll, Act.put, List.setIfInBounds_toArray, List.set_cons_zero, List.set_cons_succ, i64_w, i32_w]
      rfl
    refine two_ (i := 1) (j := 4) (Ni := some 17) (Nj := some 5) #[t_, t_, t_, f_, f_, t_, f_, f_] #[t_, f_, t_, f_, t_, t_, f_, f_] rfl rfl rfl rfl (two_of HT_.out (by kernel_rfl)) (by decide) (by decide) (fun K hK => ?_) (fun K hK => ?_)
    · skip
      refine goes_ Tryd.func24 (by kernel_rfl) rfl #[.agg #[.int .i64 n1, .int .i64 d1]] (by rfl) rfl rfl (by (try simp only [List.map_toArray, List.map_cons, List.map_nil]); first | done | rfl) ?_
      refine (from_c n1 d1 HI.out.1 HI.out.2.1 _).mono ?_
      rintro e W' ⟨x1, y1, rfl, hx1, hy1, hb⟩
      refine ⟨_, rfl, ?_⟩
      have kX := blk_below hX hb
      have kY := blk_below hY hb
      refine hK.out _ _ ⟨cl2 kX, cl2 kY⟩ (fun hHeld => ?_)
      clear hK K
      refine norm_ (a' := putAll _ _) ?_ (hN15 ⟨x1, y1, p9⟩ _ ⟨⟨kX, kY, below_step hB hb⟩, ⟨hx1, hy1⟩, ⟨blk_below h9 hb, l9⟩, trivial⟩)
      first | (simp only [putAll, Act.put, List.setIfInBounds_toArray, List.set_cons_zero, List.set_cons_succ, i64_w, i32_w]; done) | (simp only [putAll, Act.put, List.setIfInBounds_toArray, List.set_cons_zero, List.set_cons_succ, i64_w, i32_w]; rfl)
    · skip
      have hb := below_alloc (Below.refl W.heap.size W) (.cells #[.slice none 0 0, .slice none 0 0, .bool false] 45 (0, 0))
      have h8 := blk_new W (.cells #[.slice none 0 0, .slice none 0 0, .bool false] 45 (0, 0))
      have l8 : w.heap.size ≤ W.heap.size := hB.size
      refine value_ (v := .pointer (some ⟨W.heap.size, 0, none⟩)) (w1 := W.alloc (.cells #[.slice none 0 0, .slice none 0 0, .bool false] 45 (0, 0))) (by rfl) rfl (by first | (go_simp; done) | (go_simp; rfl)) ?_
      have hl : p9 < W.heap.size := blk_lt h9
      have kX := blk_below hX hb
      have kY := blk_below hY hb
      refine hK.out _ _ ⟨cl2 kX, cl2 kY⟩ (fun hHeld => ?_)
      clear hK K
      refine norm_ (a' := putAll _ _) ?_ (hN45 ⟨W.heap.size, p9⟩ _ ⟨⟨kX, kY, below_step hB hb⟩, ⟨h8, l8⟩, ⟨blk_below h9 hb, l9⟩, Nat.ne_of_gt hl⟩)
      first | (simp only [putAll, Act.put, List.setIfInBounds_toArray, List.set_cons_zero, List.set_cons_succ, i64_w, i32_w]; done) | (simp only [putAll, Act.put, List.setIfInBounds_toArray, List.set_cons_zero, List.set_cons_succ, i64_w, i32_w]; rfl)
  · clear hX hY hB hHeld W
    rintro ⟨x1, y1⟩ W ⟨⟨hX, hY, hB⟩, ⟨hx1, hy1⟩, _⟩
    refine norm_ (a' := ?_) ?_ ?_
    rotate_left
    · simp only [putAll, Act.put, List.setIfInBounds_toArray, List.set_cons_zero, List.set_cons_succ, i64_w, i32_w]
      rfl
    refine three_ (i := 3) (j := 4) (k := 5) (Ni := some 19) (Nj := some 5) (Nk := some 6) #[t_, t_, t_, t_, f_, f_, f_, f_] #[t_, t_, t_, f_, t_, f_, f_, f_] #[t_, t_, t_, f_, f_, t_, f_, f_] rfl rfl rfl rfl rfl rfl (three_of HT_.out (by kernel_rfl)) (by decide) (by decide) (by decide) (fun K hK => ?_) (fun K hK => ?_) (fun K hK => ?_)
    · skip
      refine goes_ Tryd.func24 (by kernel_rfl) rfl #[.agg #[.int .i64 n2, .int .i64 d2]] (by rfl) rfl rfl (by (try simp only [List.map_toArray, List.map_cons, List.map_nil]); first | done | rfl) ?_
      refine (from_c n2 d2 HI.out.2.2.1 HI.out.2.2.2 _).mono ?_
      rintro e W' ⟨x2, y2, rfl, hx2, hy2, hb⟩
      refine ⟨_, rfl, ?_⟩
      have kX := blk_below hX hb
      have kY := blk_below hY hb
      refine hK.out _ _ ⟨cl2 kX, cl2 kY⟩ (fun hHeld => ?_)
      clear hK K
      refine norm_ (a' := putAll _ _) ?_ (hN13 ⟨x1, y1, x2, y2⟩ _ ⟨⟨kX, kY, below_step hB hb⟩, ⟨hx1.below hb, hy1.below hb⟩, ⟨hx2, hy2⟩, trivial⟩)
      first | (simp only [putAll, Act.put, List.setIfInBounds_toArray, List.set_cons_zero, List.set_cons_succ, i64_w, i32_w]; done) | (simp only [putAll, Act.put, List.setIfInBounds_toArray, List.set_cons_zero, List.set_cons_succ, i64_w, i32_w]; rfl)
    · skip
      have hb := below_alloc (Below.refl W.heap.size W) (.cells #[.slice none 0 0, .slice none 0 0, .bool false] 45 (0, 0))
      have h8 := blk_new W (.cells #[.slice none 0 0, .slice none 0 0, .bool false] 45 (0, 0))
      have l8 : w.heap.size ≤ W.heap.size := hB.size
      refine value_ (v := .pointer (some ⟨W.heap.size, 0, none⟩)) (w1 := W.alloc (.cells #[.slice none 0 0, .slice none 0 0, .bool false] 45 (0, 0))) (by rfl) rfl (by first | (go_simp; done) | (go_simp; rfl)) ?_
      have kX := blk_below hX hb
      have kY := blk_below hY hb
      refine hK.out _ _ ⟨cl2 kX, cl2 kY⟩ (fun hHeld => ?_)
      clear hK K
      refine norm_ (a' := putAll _ _) ?_ (hN14 ⟨x1, y1, W.heap.size⟩ _ ⟨⟨kX, kY, below_step hB hb⟩, ⟨hx1.below hb, hy1.below hb⟩, ⟨h8, l8⟩, trivial⟩)
      first | (simp only [putAll, Act.put, List.setIfInBounds_toArray, List.set_cons_zero, List.set_cons_succ, i64_w, i32_w]; done) | (simp only [putAll, Act.put, List.setIfInBounds_toArray, List.set_cons_zero, List.set_cons_succ, i64_w, i32_w]; rfl)
    · skip
      have hb := below_alloc (Below.refl W.heap.size W) (.cells #[.slice none 0 0, .slice none 0 0, .bool false] 45 (0, 0))
      have h9 := blk_new W (.cells #[.slice none 0 0, .slice none 0 0, .bool false] 45 (0, 0))
      have l9 : w.heap.size ≤ W.heap.size := hB.size
      refine value_ (v := .pointer (some ⟨W.heap.size, 0, none⟩)) (w1 := W.alloc (.cells #[.slice none 0 0, .slice none 0 0, .bool false] 45 (0, 0))) (by rfl) rfl (by first | (go_simp; done) | (go_simp; rfl)) ?_
      have kX := blk_below hX hb
      have kY := blk_below hY hb
      refine hK.out _ _ ⟨cl2 kX, cl2 kY⟩ (fun hHeld => ?_)
      clear hK K
      refine norm_ (a' := putAll _ _) ?_ (hN15 ⟨x1, y1, W.heap.size⟩ _ ⟨⟨kX, kY, below_step hB hb⟩, ⟨hx1.below hb, hy1.below hb⟩, ⟨h9, l9⟩, trivial⟩)
      first | (simp only [putAll, Act.put, List.setIfInBounds_toArray, List.set_cons_zero, List.set_cons_succ, i64_w, i32_w]; done) | (simp only [putAll, Act.put, List.setIfInBounds_toArray, List.set_cons_zero, List.set_cons_succ, i64_w, i32_w]; rfl)
  clear hX hY hB hHeld W
  rintro ⟨x1, y1, x2, y2, p8, p9⟩ W ⟨⟨hX, hY, hB⟩, ⟨hx1, hy1⟩, ⟨hx2, hy2⟩, ⟨h8, l8⟩, ⟨h9, l9⟩, h89⟩
  refine norm_ (a' := ?_) ?_ ?_
  rotate_left
  · simp only [putAll, Act.put, List.setIfInBounds_toArray, List.set_cons_zero, List.set_cons_succ, i64_w, i32_w]
    rfl
  obtain ⟨Ax1, Lx1, cx1, rfl⟩ := NB.form hx1
  obtain ⟨Ay1, Ly1, cy1, rfl⟩ := NB.form hy1
  obtain ⟨Ax2, Lx2, cx2, rfl⟩ := NB.form hx2
  obtain ⟨Ay2, Ly2, cy2, rfl⟩ := NB.form hy2
  replace h8 := show W.heap[p8]? = some (.cells #[.slice none 0 0, .slice none 0 0, .bool false] 45 (0, 0)) from h8
  replace h9 := show W.heap[p9]? = some (.cells #[.slice none 0 0, .slice none 0 0, .bool false] 45 (0, 0)) from h9
  replace h89 : p8 ≠ p9 := h89
  replace l8 : w.heap.size ≤ p8 := l8
  replace l9 : w.heap.size ≤ p9 := l9
  have e18 := blk_ne hX h8 (by decide)
  have e28 := blk_ne hY h8 (by decide)
  have e19 := blk_ne hX h9 (by decide)
  have e29 := blk_ne hY h9 (by decide)
  have k0 := (cl0 h8).1
  have k1 := (cl0 h8).2.1
  have k2 := (cl0 h8).2.2
  have f0 := blk_frozen h8 0
  have f1 := blk_frozen h8 1
  have f2 := blk_frozen h8 2
  refine one_ (i := 6) (N := none) #[t_, t_, t_, t_, t_, t_, t_, f_] rfl rfl (one_of HT_.out (by kernel_rfl)) (by decide) (fun K hK => ?_)
  refine skip_ (w1 := ((W.setCell ⟨p8, 0, none⟩ (.slice Ax1 Lx1 cx1)).setCell ⟨p8, 1, none⟩ (.slice Ay1 Ly1 cy1)).setCell ⟨p8, 2, none⟩ (.bool (decide (n1 < 0)))) (by rfl) rfl (by first | (go_simp; done) | (go_simp; rfl)) ?_
  clear k0 k1 k2 f0 f1 f2
  have o1 := hx1.ne h8 (by decide)
  have o2 := hy1.ne h8 (by decide)
  have o3 := hx2.ne h8 (by decide)
  have o4 := hy2.ne h8 (by decide)
  have u1 := hx1.ne h9 (by decide)
  have u2 := hy1.ne h9 (by decide)
  have u3 := hx2.ne h9 (by decide)
  have u4 := hy2.ne h9 (by decide)
  replace hx1 := ((hx1.set o1 0 (.slice Ax1 Lx1 cx1)).set o1 1 (.slice Ay1 Ly1 cy1)).set o1 2 (.bool (decide (n1 < 0)))
  replace hy1 := ((hy1.set o2 0 (.slice Ax1 Lx1 cx1)).set o2 1 (.slice Ay1 Ly1 cy1)).set o2 2 (.bool (decide (n1 < 0)))
  replace hx2 := ((hx2.set o3 0 (.slice Ax1 Lx1 cx1)).set o3 1 (.slice Ay1 Ly1 cy1)).set o3 2 (.bool (decide (n1 < 0)))
  replace hy2 := ((hy2.set o4 0 (.slice Ax1 Lx1 cx1)).set o4 1 (.slice Ay1 Ly1 cy1)).set o4 2 (.bool (decide (n1 < 0)))
  replace hX := blk_far (p := ⟨p8, 2, none⟩) (blk_far (p := ⟨p8, 1, none⟩) (blk_far (p := ⟨p8, 0, none⟩) hX e18 (.slice Ax1 Lx1 cx1)) e18 (.slice Ay1 Ly1 cy1)) e18 (.bool (decide (n1 < 0)))
  replace hY := blk_far (p := ⟨p8, 2, none⟩) (blk_far (p := ⟨p8, 1, none⟩) (blk_far (p := ⟨p8, 0, none⟩) hY e28 (.slice Ax1 Lx1 cx1)) e28 (.slice Ay1 Ly1 cy1)) e28 (.bool (decide (n1 < 0)))
  replace h9 := blk_far (p := ⟨p8, 2, none⟩) (blk_far (p := ⟨p8, 1, none⟩) (blk_far (p := ⟨p8, 0, none⟩) h9 (Ne.symm h89) (.slice Ax1 Lx1 cx1)) (Ne.symm h89) (.slice Ay1 Ly1 cy1)) (Ne.symm h89) (.bool (decide (n1 < 0)))
  replace h8 := blk_put (cs' := #[(.slice Ax1 Lx1 cx1), (.slice Ay1 Ly1 cy1), (.bool (decide (n1 < 0)))]) (blk_put (cs' := #[(.slice Ax1 Lx1 cx1), (.slice Ay1 Ly1 cy1), .bool false]) (blk_put (cs' := #[(.slice Ax1 Lx1 cx1), .slice none 0 0, .bool false]) h8 0 (.slice Ax1 Lx1 cx1) rfl) 1 (.slice Ay1 Ly1 cy1) rfl) 2 (.bool (decide (n1 < 0))) rfl
  replace hB := below_set (j := 2) (v := (.bool (decide (n1 < 0)))) (below_set (j := 1) (v := (.slice Ay1 Ly1 cy1)) (below_set (j := 0) (v := (.slice Ax1 Lx1 cx1)) hB l8) l8) l8
  refine hK.out _ _ ⟨cl2 hX, cl2 hY⟩ (fun hHeld => ?_)
  clear hK K o1 o2 o3 o4
  refine norm_ (a' := ?_) ?_ ?_
  rotate_left
  · rfl
  generalize ((W.setCell ⟨p8, 0, none⟩ (.slice Ax1 Lx1 cx1)).setCell ⟨p8, 1, none⟩ (.slice Ay1 Ly1 cy1)).setCell ⟨p8, 2, none⟩ (.bool (decide (n1 < 0))) = W at hx1 hy1 hx2 hy2 hX hY h9 h8 hB hHeld ⊢
  have k0 := (cl0 h9).1
  have k1 := (cl0 h9).2.1
  have k2 := (cl0 h9).2.2
  have f0 := blk_frozen h9 0
  have f1 := blk_frozen h9 1
  have f2 := blk_frozen h9 2
  refine one_ (i := 7) (N := none) #[t_, t_, t_, t_, t_, t_, t_, t_] rfl rfl (one_of HT_.out (by kernel_rfl)) (by decide) (fun K hK => ?_)
  refine skip_ (w1 := ((W.setCell ⟨p9, 0, none⟩ (.slice Ax2 Lx2 cx2)).setCell ⟨p9, 1, none⟩ (.slice Ay2 Ly2 cy2)).setCell ⟨p9, 2, none⟩ (.bool (decide (n2 < 0)))) (by rfl) rfl (by first | (go_simp; done) | (go_simp; rfl)) ?_
  clear k0 k1 k2 f0 f1 f2
  replace hx1 := ((hx1.set u1 0 (.slice Ax2 Lx2 cx2)).set u1 1 (.slice Ay2 Ly2 cy2)).set u1 2 (.bool (decide (n2 < 0)))
  replace hy1 := ((hy1.set u2 0 (.slice Ax2 Lx2 cx2)).set u2 1 (.slice Ay2 Ly2 cy2)).set u2 2 (.bool (decide (n2 < 0)))
  replace hx2 := ((hx2.set u3 0 (.slice Ax2 Lx2 cx2)).set u3 1 (.slice Ay2 Ly2 cy2)).set u3 2 (.bool (decide (n2 < 0)))
  replace hy2 := ((hy2.set u4 0 (.slice Ax2 Lx2 cx2)).set u4 1 (.slice Ay2 Ly2 cy2)).set u4 2 (.bool (decide (n2 < 0)))
  replace hX := blk_far (p := ⟨p9, 2, none⟩) (blk_far (p := ⟨p9, 1, none⟩) (blk_far (p := ⟨p9, 0, none⟩) hX e19 (.slice Ax2 Lx2 cx2)) e19 (.slice Ay2 Ly2 cy2)) e19 (.bool (decide (n2 < 0)))
  replace hY := blk_far (p := ⟨p9, 2, none⟩) (blk_far (p := ⟨p9, 1, none⟩) (blk_far (p := ⟨p9, 0, none⟩) hY e29 (.slice Ax2 Lx2 cx2)) e29 (.slice Ay2 Ly2 cy2)) e29 (.bool (decide (n2 < 0)))
  replace h8 := blk_far (p := ⟨p9, 2, none⟩) (blk_far (p := ⟨p9, 1, none⟩) (blk_far (p := ⟨p9, 0, none⟩) h8 h89 (.slice Ax2 Lx2 cx2)) h89 (.slice Ay2 Ly2 cy2)) h89 (.bool (decide (n2 < 0)))
  replace h9 := blk_put (cs' := #[(.slice Ax2 Lx2 cx2), (.slice Ay2 Ly2 cy2), (.bool (decide (n2 < 0)))]) (blk_put (cs' := #[(.slice Ax2 Lx2 cx2), (.slice Ay2 Ly2 cy2), .bool false]) (blk_put (cs' := #[(.slice Ax2 Lx2 cx2), .slice none 0 0, .bool false]) h9 0 (.slice Ax2 Lx2 cx2) rfl) 1 (.slice Ay2 Ly2 cy2) rfl) 2 (.bool (decide (n2 < 0))) rfl
  replace hB := below_set (j := 2) (v := (.bool (decide (n2 < 0)))) (below_set (j := 1) (v := (.slice Ay2 Ly2 cy2)) (below_set (j := 0) (v := (.slice Ax2 Lx2 cx2)) hB l9) l9) l9
  refine hK.out _ _ ⟨cl2 hX, cl2 hY⟩ (fun hHeld => ?_)
  clear hK K u1 u2 u3 u4
  refine norm_ (a' := ?_) ?_ ?_
  rotate_left
  · rfl
  obtain ⟨s1, hs1⟩ : ∃ s, decide (n1 < 0) = s := ⟨_, rfl⟩
  obtain ⟨s2, hs2⟩ : ∃ s, decide (n2 < 0) = s := ⟨_, rfl⟩
  generalize ((W.setCell ⟨p9, 0, none⟩ (.slice Ax2 Lx2 cx2)).setCell ⟨p9, 1, none⟩ (.slice Ay2 Ly2 cy2)).setCell ⟨p9, 2, none⟩ (.bool (decide (n2 < 0))) = W at hx1 hy1 hx2 hy2 hX hY h9 h8 hB hHeld ⊢
  rw [hs1] at h8
  rw [hs2] at h9
  refine done_ (done_of HT_.out (by kernel_rfl)) ?_
  clear HT_ HW_ hHeld hX hY e18 e28 e19 e29
  have HB := Aside0.mk hB
  have SZ := sizes HI.out
  have o1 := hx1.ne h9 (by decide)
  have o2 := hy1.ne h9 (by decide)
  have o3 := hx2.ne h9 (by decide)
  have o4 := hy2.ne h9 (by decide)
  have HC := Aside0.mk (fun w => sum_c n1.natAbs d1.natAbs n2.natAbs d2.natAbs s1 (!s2) w (.slice Ax1 Lx1 cx1) (.slice Ay1 Ly1 cy1) (.slice Ax2 Lx2 cx2) (.slice Ay2 Ly2 cy2))
  have HN := Aside0.mk (show NB (W.setCell ⟨p9, 2, none⟩ (.bool (!s2))) (.slice Ax1 Lx1 cx1) n1.natAbs ∧ NB (W.setCell ⟨p9, 2, none⟩ (.bool (!s2))) (.slice Ay1 Ly1 cy1) d1.natAbs ∧ NB (W.setCell ⟨p9, 2, none⟩ (.bool (!s2))) (.slice Ax2 Lx2 cx2) n2.natAbs ∧ NB (W.setCell ⟨p9, 2, none⟩ (.bool (!s2))) (.slice Ay2 Ly2 cy2) d2.natAbs from ⟨hx1.set o1 _ _, hy1.set o2 _ _, hx2.set o3 _ _, hy2.set o4 _ _⟩)
  have HS := Aside0.mk (show cmpN n1 d1 n2 d2 = if sumN n1.natAbs d1.natAbs n2.natAbs d2.natAbs s1 (!s2) = 0 then 0 else if sumM n1.natAbs d1.natAbs n2.natAbs d2.natAbs s1 (!s2) = true then -1 else 1 by rw [← hs1, ← hs2]; rfl)
  have k0 := (cl0 h8).1
  have k1 := (cl0 h8).2.1
  have k2 := (cl0 h8).2.2
  have k3 := (cl0 h9).1
  have k4 := (cl0 h9).2.1
  have k5 := (cl0 h9).2.2
  have f5 := blk_frozen h9 2
  have n89 := h89
  have n98 := Ne.symm h89
  clear hs1 hs2 hx1 hy1 hx2 hy2 o1 o2 o3 o4 h8 h9
  go_wp2_with (fail)
  refine (HC.out _ HN.out.1 HN.out.2.1 HN.out.2.2.1 HN.out.2.2.2 SZ.1 SZ.2.1 SZ.2.2.1 SZ.2.2.2.1 SZ.2.2.2.2.1 SZ.2.2.2.2.2).mono ?_
  rintro e W3 ⟨xs, ys, rfl, hxs, hys, hb⟩
  have HB3 := Aside0.mk (below_step (below_set (j := 2) (v := .bool (!s2)) HB.out l9) hb)
  clear hb HC HN k0 k1 k2 k3 k4 k5 f5 n89 n98
  obtain ⟨Av, cv, rfl, lv, rv, _⟩ := hxs
  obtain ⟨Ay, Ly, cy, rfl⟩ := NB.form hys
  have hz : (bof (sumN n1.natAbs d1.natAbs n2.natAbs d2.natAbs s1 (!s2))).length = 0 ↔ sumN n1.natAbs d1.natAbs n2.natAbs d2.natAbs s1 (!s2) = 0 := by
    rw [List.length_eq_zero_iff]; exact bof_eq_nil
  clear lv rv hys
  generalize (bof (sumN n1.natAbs d1.natAbs n2.natAbs d2.natAbs s1 (!s2))).length = L at *
  generalize sumN n1.natAbs d1.natAbs n2.natAbs d2.natAbs s1 (!s2) = SN at *
  generalize sumM n1.natAbs d1.natAbs n2.natAbs d2.natAbs s1 (!s2) = SM at *
  have HZ := Aside0.mk hz
  clear hz
  by_cases hL : L = 0
  · have eL : ((L : Int) == 0) = true := by simp [hL]
    have eV := HS.out
    rw [if_pos (HZ.out.1 hL)] at eV
    have HV := Aside0.mk eV
    clear eV hL
    go_wp2_with (fail)
    go_ret
    exact ⟨by rw [HV.out]; rfl, below_alloc HB3.out _⟩
  · have eL : ((L : Int) == 0) = false := by simp; omega
    have eV := HS.out
    rw [if_neg (fun h => hL (HZ.out.2 h))] at eV
    have HV := Aside0.mk eV
    clear eV hL
    cases SM
    · go_wp2_with (fail)
      go_ret
      exact ⟨by rw [HV.out]; rfl, below_alloc HB3.out _⟩
    · go_wp2_with (fail)
      go_ret
      exact ⟨by rw [HV.out]; rfl, below_alloc HB3.out _⟩
end Go.Proofs.YtpcdcanmbokpfaaDoor.PRef
