import Derived.Test.YtpcdcanmbokpfaaMRefRefQT
namespace Go.Proofs.Ytpcdcanmbokpfaa.PRef
open Go Go.RowKit Go.Proofs.YtpcdcanmbokpfaaW.PrintWords Go.Proofs.YtpcdcanmbokpfaaW.PrintLast Go.Proofs.YtpcdcanmbokpfaaW.PrintMore BallBits BallQ
attribute [local go_sem] max2_int min2_int max_two min_two max_three min_three max_four min_four
set_option linter.unusedVariables false
set_option linter.unusedSimpArgs false
/-- What the four tell. -/
def dS (op : Nat) (n1 d1 n2 d2 : Int) : Int × Int × Int := match op with
  | 0 => PRat.addS n1 d1 n2 d2
  | 1 => PRat.subS n1 d1 n2 d2
  | 2 => PRat.mulS n1 d1 n2 d2
  | _ => PRat.divS n1 d1 n2 d2
theorem neqR (a b : Int) (w : World) : Sem.run Try.prog (binOp BinOp.neq 23 (.agg #[.int .i64 a, .int .i64 b]) (.agg #[.int .i64 a, .int .i64 b])) w = .ok (.bool false) w := by
  simp only [binOp]
  simp [Op.equal, Op.maxDepth, PRat.eqA23 9998 w a a b b]
attribute [local go_sem] neqR
theorem ref_do (op : Nat) (n1 d1 n2 d2 : Int) (w : World) (hi : In64 n1 ∧ In64 d1 ∧ In64 n2 ∧ In64 d2) (ho : op = 0 ∨ op = 1 ∨ op = 2 ∨ op = 3) :
    Calls Try.prog 17 #[.int .i64 (op : Int), .agg #[.int .i64 n1, .int .i64 d1], .agg #[.int .i64 n2, .int .i64 d2]] w fun e w' => e = .returned (.tuple #[.agg #[.int .i64 (dS op n1 d1 n2 d2).1, .int .i64 (dS op n1 d1 n2 d2).2.1], .int .i64 (dS op n1 d1 n2 d2).2.2]) ∧ Below w.heap.size w w' := by
  have bad : ¬ Right n1 d1 ∨ ¬ Right n2 d2 ∨ ((op : Int) = 3 ∧ n2 = 0) → dS op n1 d1 n2 d2 = (0, 0, 2) → Calls Try.prog 17 #[.int .i64 (op : Int), .agg #[.int .i64 n1, .int .i64 d1], .agg #[.int .i64 n2, .int .i64 d2]] w fun e w' => e = .returned (.tuple #[.agg #[.int .i64 (dS op n1 d1 n2 d2).1, .int .i64 (dS op n1 d1 n2 d2).2.1], .int .i64 (dS op n1 d1 n2 d2).2.2]) ∧ Below w.heap.size w w' := by
    intro hb e
    rw [e]
    exact do_bad (op : Int) n1 d1 n2 d2 w hi hb
  have ok : (Right n1 d1 ∧ Right n2 d2) → (op = 3 → n2 ≠ 0) → dS op n1 d1 n2 d2 = good op n1 d1 n2 d2 → Calls Try.prog 17 #[.int .i64 (op : Int), .agg #[.int .i64 n1, .int .i64 d1], .agg #[.int .i64 n2, .int .i64 d2]] w fun e w' => e = .returned (.tuple #[.agg #[.int .i64 (dS op n1 d1 n2 d2).1, .int .i64 (dS op n1 d1 n2 d2).2.1], .int .i64 (dS op n1 d1 n2 d2).2.2]) ∧ Below w.heap.size w w' := by
    intro hr h3 e
    rw [e]
    exact do_good op n1 d1 n2 d2 w hi hr.1 hr.2 h3 ho
  by_cases h : Right n1 d1 ∧ Right n2 d2
  · rcases ho with rfl | rfl | rfl | rfl
    · exact ok h (by omega) (by rw [good0 h.1 h.2]; show PRat.addS n1 d1 n2 d2 = _; unfold PRat.addS; rw [if_pos h])
    · exact ok h (by omega) (by rw [good1 h.1 h.2]; show PRat.subS n1 d1 n2 d2 = _; unfold PRat.subS; rw [if_pos h])
    · exact ok h (by omega) (by rw [good2 h.1 h.2]; show PRat.mulS n1 d1 n2 d2 = _; unfold PRat.mulS; rw [if_pos h])
    · by_cases h0 : n2 = 0
      · exact bad (.inr (.inr ⟨rfl, h0⟩)) (by show PRat.divS n1 d1 n2 d2 = _; unfold PRat.divS; rw [if_neg (fun hh => hh.2 h0)])
      · exact ok h (fun _ => h0) (by rw [good3 h.1 h.2 hi.2.2.1 hi.2.2.2 h0]; show PRat.divS n1 d1 n2 d2 = _; unfold PRat.divS; rw [if_pos ⟨h, h0⟩])
  · have hb : ¬ Right n1 d1 ∨ ¬ Right n2 d2 ∨ ((op : Int) = 3 ∧ n2 = 0) := by
      by_cases h1 : Right n1 d1
      · exact .inr (.inl (fun h2 => h ⟨h1, h2⟩))
      · exact .inl h1
    rcases ho with rfl | rfl | rfl | rfl
    · exact bad hb (by show PRat.addS n1 d1 n2 d2 = _; unfold PRat.addS; rw [if_neg h])
    · exact bad hb (by show PRat.subS n1 d1 n2 d2 = _; unfold PRat.subS; rw [if_neg h])
    · exact bad hb (by show PRat.mulS n1 d1 n2 d2 = _; unfold PRat.mulS; rw [if_neg h])
    · exact bad hb (by show PRat.divS n1 d1 n2 d2 = _; unfold PRat.divS; rw [if_neg (fun hh => h hh.1)])
set_option maxHeartbeats 4000000 in
set_option maxRecDepth 100000 in
theorem law_do (op : Nat) (n1 d1 n2 d2 : Int) (w : World) (hi : In64 n1 ∧ In64 d1 ∧ In64 n2 ∧ In64 d2) (ho : op = 0 ∨ op = 1 ∨ op = 2 ∨ op = 3) :
    Calls Try.prog 16 #[.int .i64 (op : Int), .agg #[.int .i64 n1, .int .i64 d1], .agg #[.int .i64 n2, .int .i64 d2]] w fun e w' => e = .returned (.tuple #[.agg #[.int .i64 (dS op n1 d1 n2 d2).1, .int .i64 (dS op n1 d1 n2 d2).2.1], .int .i64 (dS op n1 d1 n2 d2).2.2]) ∧ Below w.heap.size w w' := by
  obtain ⟨i1, i2, i3, i4⟩ := hi
  have T3 := three w (.cells #[.int .i64 n1, .int .i64 d1] 23 (0, 0)) (.cells #[.int .i64 n2, .int .i64 d2] 23 (0, 0)) (.cells #[.int .i64 0, .int .i64 0] 23 (0, 0))
  have B3 := below_alloc (below_alloc (below_alloc (Below.refl w.heap.size w) (.cells #[.int .i64 n1, .int .i64 d1] 23 (0, 0))) (.cells #[.int .i64 n2, .int .i64 d2] 23 (0, 0))) (.cells #[.int .i64 0, .int .i64 0] 23 (0, 0))
  have GE := Aside0.mk (show w.heap.size ≤ w.heap.size + 1 + 1 by omega)
  have HT := Aside0.mk T3
  have HB := Aside0.mk B3
  clear T3 B3
  rcases ho with rfl | rfl | rfl | rfl
  · obtain ⟨k, hk⟩ := Ev.rounds (PRat.add_ev n1 d1 n2 d2 i1 i2 i3 i4)
    change Calls Try.prog 16 #[.int .i64 0, .agg #[.int .i64 n1, .int .i64 d1], .agg #[.int .i64 n2, .int .i64 d2]] w fun e w' => e = .returned (.tuple #[.agg #[.int .i64 (PRat.addS n1 d1 n2 d2).1, .int .i64 (PRat.addS n1 d1 n2 d2).2.1], .int .i64 (PRat.addS n1 d1 n2 d2).2.2]) ∧ Below w.heap.size w w'
    generalize PRat.addS n1 d1 n2 d2 = r at hk ⊢
    obtain ⟨r1, r2, r3⟩ := r
    have HC := Aside0.mk (fun W => PRat.rat_Add.calls k n1 d1 n2 d2 r1 r2 r3 W hk)
    clear hk
    go_enter Try.func16, Try.ntmps16
    go_wp2_with (fail)
    refine (HC.out _).mono ?_
    rintro e W1 ⟨rfl, hb⟩
    have HZ := Aside0.mk (blk_below HT.out.2.2 hb)
    have HB1 := Aside0.mk (below_step HB.out hb)
    clear hb HC HT
    have kZ0 := (cl2 HZ.out).1
    have kZ1 := (cl2 HZ.out).2
    have fZ0 := blk_frozen HZ.out 0
    have fZ1 := blk_frozen HZ.out 1
    go_wp2_with (fail)
    refine bodyPost_ret (results_ct rfl _ _ (w.heap.size + 1 + 1) 23 #[.int .i64 r1, .int .i64 r2] (0, 0) _ rfl (blk_put (cs := #[.int .i64 r1, .int .i64 0]) (blk_put (cs := #[.int .i64 0, .int .i64 0]) HZ.out 0 _ rfl) 1 _ rfl) Try.underlying23 rfl (by kernel_rfl)) rfl ?_
    exact ⟨rfl, below_set (below_set HB1.out GE.out) GE.out⟩
  · obtain ⟨k, hk⟩ := Ev.rounds (PRat.sub_ev' n1 d1 n2 d2 i1 i2 i3 i4)
    change Calls Try.prog 16 #[.int .i64 1, .agg #[.int .i64 n1, .int .i64 d1], .agg #[.int .i64 n2, .int .i64 d2]] w fun e w' => e = .returned (.tuple #[.agg #[.int .i64 (PRat.subS n1 d1 n2 d2).1, .int .i64 (PRat.subS n1 d1 n2 d2).2.1], .int .i64 (PRat.subS n1 d1 n2 d2).2.2]) ∧ Below w.heap.size w w'
    generalize PRat.subS n1 d1 n2 d2 = r at hk ⊢
    obtain ⟨r1, r2, r3⟩ := r
    have HC := Aside0.mk (fun W => PRat.rat_Sub.calls k n1 d1 n2 d2 r1 r2 r3 W hk)
    clear hk
    go_enter Try.func16, Try.ntmps16
    go_wp2_with (fail)
    refine (HC.out _).mono ?_
    rintro e W1 ⟨rfl, hb⟩
    have HZ := Aside0.mk (blk_below HT.out.2.2 hb)
    have HB1 := Aside0.mk (below_step HB.out hb)
    clear hb HC HT
    have kZ0 := (cl2 HZ.out).1
    have kZ1 := (cl2 HZ.out).2
    have fZ0 := blk_frozen HZ.out 0
    have fZ1 := blk_frozen HZ.out 1
    go_wp2_with (fail)
    refine bodyPost_ret (results_ct rfl _ _ (w.heap.size + 1 + 1) 23 #[.int .i64 r1, .int .i64 r2] (0, 0) _ rfl (blk_put (cs := #[.int .i64 r1, .int .i64 0]) (blk_put (cs := #[.int .i64 0, .int .i64 0]) HZ.out 0 _ rfl) 1 _ rfl) Try.underlying23 rfl (by kernel_rfl)) rfl ?_
    exact ⟨rfl, below_set (below_set HB1.out GE.out) GE.out⟩
  · obtain ⟨k, hk⟩ := Ev.rounds (PRat.mul_ev n1 d1 n2 d2 i1 i2 i3 i4)
    change Calls Try.prog 16 #[.int .i64 2, .agg #[.int .i64 n1, .int .i64 d1], .agg #[.int .i64 n2, .int .i64 d2]] w fun e w' => e = .returned (.tuple #[.agg #[.int .i64 (PRat.mulS n1 d1 n2 d2).1, .int .i64 (PRat.mulS n1 d1 n2 d2).2.1], .int .i64 (PRat.mulS n1 d1 n2 d2).2.2]) ∧ Below w.heap.size w w'
    generalize PRat.mulS n1 d1 n2 d2 = r at hk ⊢
    obtain ⟨r1, r2, r3⟩ := r
    have HC := Aside0.mk (fun W => PRat.rat_Mul.calls k n1 d1 n2 d2 r1 r2 r3 W hk)
    clear hk
    go_enter Try.func16, Try.ntmps16
    go_wp2_with (fail)
    refine (HC.out _).mono ?_
    rintro e W1 ⟨rfl, hb⟩
    have HZ := Aside0.mk (blk_below HT.out.2.2 hb)
    have HB1 := Aside0.mk (below_step HB.out hb)
    clear hb HC HT
    have kZ0 := (cl2 HZ.out).1
    have kZ1 := (cl2 HZ.out).2
    have fZ0 := blk_frozen HZ.out 0
    have fZ1 := blk_frozen HZ.out 1
    go_wp2_with (fail)
    refine bodyPost_ret (results_ct rfl _ _ (w.heap.size + 1 + 1) 23 #[.int .i64 r1, .int .i64 r2] (0, 0) _ rfl (blk_put (cs := #[.int .i64 r1, .int .i64 0]) (blk_put (cs := #[.int .i64 0, .int .i64 0]) HZ.out 0 _ rfl) 1 _ rfl) Try.underlying23 rfl (by kernel_rfl)) rfl ?_
    exact ⟨rfl, below_set (below_set HB1.out GE.out) GE.out⟩
  · obtain ⟨k, hk⟩ := Ev.rounds (PRat.div_ev n1 d1 n2 d2 i1 i2 i3 i4)
    change Calls Try.prog 16 #[.int .i64 3, .agg #[.int .i64 n1, .int .i64 d1], .agg #[.int .i64 n2, .int .i64 d2]] w fun e w' => e = .returned (.tuple #[.agg #[.int .i64 (PRat.divS n1 d1 n2 d2).1, .int .i64 (PRat.divS n1 d1 n2 d2).2.1], .int .i64 (PRat.divS n1 d1 n2 d2).2.2]) ∧ Below w.heap.size w w'
    generalize PRat.divS n1 d1 n2 d2 = r at hk ⊢
    obtain ⟨r1, r2, r3⟩ := r
    have HC := Aside0.mk (fun W => PRat.rat_Div.calls k n1 d1 n2 d2 r1 r2 r3 W hk)
    clear hk
    go_enter Try.func16, Try.ntmps16
    go_wp2_with (fail)
    refine (HC.out _).mono ?_
    rintro e W1 ⟨rfl, hb⟩
    have HZ := Aside0.mk (blk_below HT.out.2.2 hb)
    have HB1 := Aside0.mk (below_step HB.out hb)
    clear hb HC HT
    have kZ0 := (cl2 HZ.out).1
    have kZ1 := (cl2 HZ.out).2
    have fZ0 := blk_frozen HZ.out 0
    have fZ1 := blk_frozen HZ.out 1
    go_wp2_with (fail)
    refine bodyPost_ret (results_ct rfl _ _ (w.heap.size + 1 + 1) 23 #[.int .i64 r1, .int .i64 r2] (0, 0) _ rfl (blk_put (cs := #[.int .i64 r1, .int .i64 0]) (blk_put (cs := #[.int .i64 0, .int .i64 0]) HZ.out 0 _ rfl) 1 _ rfl) Try.underlying23 rfl (by kernel_rfl)) rfl ?_
    exact ⟨rfl, below_set (below_set HB1.out GE.out) GE.out⟩
set_option maxHeartbeats 4000000 in
set_option maxRecDepth 100000 in
theorem does (n1 d1 n2 d2 : Int) (w : World) (hi : In64 n1 ∧ In64 d1 ∧ In64 n2 ∧ In64 d2) :
    Calls Try.prog 4 #[.agg #[.int .i64 n1, .int .i64 d1], .agg #[.int .i64 n2, .int .i64 d2]] w fun e w' => e = .returned (.bool true) ∧ Below w.heap.size w w' := by
  have HI := Aside0.mk hi
  clear hi
  obtain ⟨ka, hka⟩ := Ev.rounds PRat.awake_ev
  have HA := Aside0.mk (PRat.ballcocklaw01_awake.calls ka true)
  have HK := Aside0.mk hka
  clear hka
  have T2 : ((w.alloc (.cells #[.int .i64 n1, .int .i64 d1] 23 (0, 0))).alloc (.cells #[.int .i64 n2, .int .i64 d2] 23 (0, 0))).heap[w.heap.size]? = some (.cells #[.int .i64 n1, .int .i64 d1] 23 (0, 0)) ∧ ((w.alloc (.cells #[.int .i64 n1, .int .i64 d1] 23 (0, 0))).alloc (.cells #[.int .i64 n2, .int .i64 d2] 23 (0, 0))).heap[w.heap.size + 1]? = some (.cells #[.int .i64 n2, .int .i64 d2] 23 (0, 0)) := by
    have e1 : (w.alloc (.cells #[.int .i64 n1, .int .i64 d1] 23 (0, 0))).heap.size = w.heap.size + 1 := by show (w.heap.push _).size = _; simp
    refine ⟨blk_alloc (by simpa using heap_alloc_new w _) _, ?_⟩
    rw [← e1]
    simpa using heap_alloc_new (w.alloc _) _
  have B2 := below_alloc (below_alloc (Below.refl w.heap.size w) (.cells #[.int .i64 n1, .int .i64 d1] 23 (0, 0))) (.cells #[.int .i64 n2, .int .i64 d2] 23 (0, 0))
  have HT := Aside0.mk T2
  have HB := Aside0.mk B2
  clear T2 B2
  go_enter Try.func4, Try.ntmps4
  go_wp2_with (fail)
  refine (HA.out _ HK.out).mono ?_
  rintro e W0 ⟨rfl, hb⟩
  have HX := Aside0.mk (blk_below HT.out.1 hb)
  have HY := Aside0.mk (blk_below HT.out.2 hb)
  replace HB := Aside0.mk (below_step HB.out hb)
  clear hb HA HK HT
  go_wp2_with (fail)
  obtain ⟨kk, hkk⟩ : ∃ k : Nat, k = 5 := ⟨_, rfl⟩
  go_loopg [5] kk (fun kq v5 W => ∃ i : Nat, v5 = .int .i64 (i : Int) ∧ Aside0 (i ≤ 4 ∧ 4 < i + kq) ∧ Aside0 (kq ≤ kk) ∧ Aside0 (Below w.heap.size w W) ∧ Aside0 (W.heap[w.heap.size]? = some (.cells #[.int .i64 n1, .int .i64 d1] 23 (0, 0))) ∧ Aside0 (W.heap[w.heap.size + 1]? = some (.cells #[.int .i64 n2, .int .i64 d2] 23 (0, 0))))
  case atStart => exact ⟨0, rfl, ⟨by omega⟩, ⟨Nat.le_refl _⟩, HB, HX, HY⟩
  case round =>
    obtain ⟨i, rfl, HN, HK, HB, HX, HY⟩ := hrel
    cases gk with
    | zero => exact absurd HN.out (by omega)
    | succ k1 =>
      by_cases h : i < 4
      · have dn : decide ((i : Int) < 4) = true := decide_eq_true (by omega)
        have dn2 : decide (i < 4) = true := decide_eq_true (by omega)
        have HH := Aside0.mk h
        have hio : i = 0 ∨ i = 1 ∨ i = 2 ∨ i = 3 := by omega
        have kX0 := (cl2 HX.out).1
        have kX1 := (cl2 HX.out).2
        have kY0 := (cl2 HY.out).1
        have kY1 := (cl2 HY.out).2
        go_wp2_with (fail)
        refine (law_do i n1 d1 n2 d2 _ HI.out hio).mono ?_
        rintro e W1 ⟨rfl, hb⟩
        have HL := Aside0.mk (ref_do i n1 d1 n2 d2)
        generalize dS i n1 d1 n2 d2 = r at HL ⊢
        obtain ⟨r1, r2, r3⟩ := r
        have HX1 := Aside0.mk (blk_below HX.out hb)
        have HY1 := Aside0.mk (blk_below HY.out hb)
        have HB1 := Aside0.mk (below_step HB.out hb)
        clear hb kX0 kX1 kY0 kY1
        have kX0 := (cl2 (blk_alloc HX1.out (.cells #[.int .i64 r1, .int .i64 r2] 23 (0, 0)))).1
        have kX1 := (cl2 (blk_alloc HX1.out (.cells #[.int .i64 r1, .int .i64 r2] 23 (0, 0)))).2
        have kY0 := (cl2 (blk_alloc HY1.out (.cells #[.int .i64 r1, .int .i64 r2] 23 (0, 0)))).1
        have kY1 := (cl2 (blk_alloc HY1.out (.cells #[.int .i64 r1, .int .i64 r2] 23 (0, 0)))).2
        go_wp2_with (fail)
        obtain ⟨g6, hg6⟩ : ∃ g : Nat, W1.heap.size = g := ⟨_, rfl⟩
        have HC := Aside0.mk (hg6 ▸ blk_new W1 (.cells #[.int .i64 r1, .int .i64 r2] 23 (0, 0)))
        refine (HL.out _ HI.out hio).mono ?_
        rintro e W2 ⟨rfl, hb⟩
        have HX2 := Aside0.mk (blk_below (blk_alloc HX1.out _) hb)
        have HY2 := Aside0.mk (blk_below (blk_alloc HY1.out _) hb)
        have HB2 := Aside0.mk (below_step (below_alloc HB1.out _) hb)
        have HC2 := Aside0.mk (blk_below HC.out hb)
        clear hb kX0 kX1 kY0 kY1
        rw [hg6]
        clear hg6
        have kC0 := (cl2 (blk_alloc HC2.out (.cells #[.int .i64 r1, .int .i64 r2] 23 (0, 0)))).1
        have kC1 := (cl2 (blk_alloc HC2.out (.cells #[.int .i64 r1, .int .i64 r2] 23 (0, 0)))).2
        have hrr : (r3 != r3) = false := by simp
        go_wp2_with (fail)
        go_roundg k1
        case measure => have := HK.out; omega
        case rel => exact ⟨i + 1, by first | rfl | (rw [wsucc i (by have := HN.out; omega)]), ⟨by have := HH.out; have := HN.out; omega⟩, ⟨by have := HK.out; omega⟩, ⟨below_alloc HB2.out _⟩, ⟨blk_alloc HX2.out _⟩, ⟨blk_alloc HY2.out _⟩⟩
      · have dn : decide ((i : Int) < 4) = false := decide_eq_false (by omega)
        have dn2 : decide (i < 4) = false := decide_eq_false (by omega)
        go_wp2_with (fail)
        go_ret
        exact ⟨rfl, HB.out⟩
theorem in_wf {a : Int} (h : (Lit.int .i64 a).wf = true) : In64 a := by
  simp [Lit.wf, IntKind.min, IntKind.max, IntKind.signed, IntKind.bits] at h
  unfold In64; omega
instance (a : Int) : Decidable (In64 a) := by unfold In64; infer_instance
def ballcocklaw01_RatDoes.f (n1 d1 n2 d2 : Int) : Option Bool := if In64 n1 ∧ In64 d1 ∧ In64 n2 ∧ In64 d2 then some true else none
theorem ballcocklaw01_RatDoes.calls (n1 d1 n2 d2 : Int) (r : Bool) (w : World) (h : ballcocklaw01_RatDoes.f n1 d1 n2 d2 = some r) : Calls Try.prog 4 #[.agg #[.int .i64 n1, .int .i64 d1], .agg #[.int .i64 n2, .int .i64 d2]] w fun e w' => e = .returned (.bool r) ∧ Below w.heap.size w w' := by
  unfold ballcocklaw01_RatDoes.f at h
  by_cases hi : In64 n1 ∧ In64 d1 ∧ In64 n2 ∧ In64 d2
  · rw [if_pos hi] at h
    have e : r = true := (Option.some.inj h).symm
    subst e
    exact does n1 d1 n2 d2 w hi
  · rw [if_neg hi] at h
    cases h
theorem pure_holds (n1 d1 n2 d2 : Int) (h1 : (Lit.int .i64 n1).wf = true) (h2 : (Lit.int .i64 d1).wf = true) (h3 : (Lit.int .i64 n2).wf = true) (h4 : (Lit.int .i64 d2).wf = true) : ballcocklaw01_RatDoes.f n1 d1 n2 d2 = some true := by
  unfold ballcocklaw01_RatDoes.f
  rw [if_pos ⟨in_wf h1, in_wf h2, in_wf h3, in_wf h4⟩]
end Go.Proofs.Ytpcdcanmbokpfaa.PRef
