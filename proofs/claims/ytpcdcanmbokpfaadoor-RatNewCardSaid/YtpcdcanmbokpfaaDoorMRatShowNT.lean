import Derived.Test.YtpcdcanmbokpfaaDoorMRatRatN2T
import Derived.Test.YtpcdcanmbokpfaaDoorShelfS
import Derived.Lib.AppendIntMem
import Derived.Lib.ItoaLen
namespace Go.Proofs.YtpcdcanmbokpfaaDoor.PRat
open Go Go.RowKit Go.Proofs.YtpcdcanmbokpfaaDoorW.PrintWords Go.Proofs.YtpcdcanmbokpfaaDoorW.PrintLast Go.Proofs.YtpcdcanmbokpfaaDoorW.PrintMore BallQ
attribute [local go_sem] max2_int min2_int max_two min_two max_three min_three max_four min_four
set_option linter.unusedVariables false
set_option linter.unusedSimpArgs false
def shreg.T : Bool × List (List Nat × List Nat) := (true, [([], []), ([0], [0]), ([1], [1]), ([2], [2]), ([], []), ([4], [4]), ([5, 2], [5]), ([3, 6], [3, 6]), ([7, 6, 0, 1, 2, 3, 4, 5, 6, 7], [7])])
def shreg.B : List Nat := [0, 1, 3, 7, 0, 16, 55, 127, 255]
theorem shreg.tab : rtab .any (opsOf Tryd.f7 5) = shreg.T := by kernel_rfl
theorem shreg.bits : waitsOk shreg.T.2 shreg.B = true := by kernel_rfl
/-- The text of a right fraction, as strings are put together. -/
def tx (n d : Int) : ByteArray := if d = 1 then ⟨(Lib.itoa n).toArray⟩ else ⟨(Lib.itoa n).toArray⟩ ++ ⟨#[47]⟩ ++ ⟨(Lib.itoa d).toArray⟩
abbrev Tab (w : World) : Prop := Lib.TabBelow Tryd.prog w.heap.size w "internal/strconv.uint64pow10" .u64 Lib.pow10Tab
theorem Tab.on {w w1 : World} (h : Tab w) (hb : Below w.heap.size w w1) : Tab w1 := fun w2 hb2 => h w2 (below_step hb hb2)
theorem bl1 {W : World} {g : Nat} {t : TypeId} {a b : Value} (h : W.heap[g]? = some (.cells #[a, b] t (0, 0))) : W.cell? ⟨g, 0, none⟩ = some a ∧ W.cell? ⟨g, 1, none⟩ = some b := ⟨(blk_cell h 0).trans rfl, (blk_cell h 1).trans rfl⟩
theorem show_bad (n d : Int) (hn : In64 n) (hd : In64 d) (h : ¬ Right n d) (w : World) :
    Calls Tryd.prog 7 #[.agg #[.int .i64 n, .int .i64 d]] w fun e w' => e = .returned (.string ⟨#[63]⟩) ∧ Below w.heap.size w w' := by
  obtain ⟨k, hk⟩ := Ev.rounds (right_ev n d hn hd)
  rw [decide_eq_false h] at hk
  have HC := Aside0.mk (fun W => rat_Right.calls k n d false W hk)
  have HB := Aside0.mk (below_alloc (Below.refl w.heap.size w) (.cells #[.int .i64 n, .int .i64 d] 23 (0, 0)))
  clear hk
  go_enter Tryd.func7, Tryd.ntmps7
  go_wp2_with (fail)
  refine (HC.out _).mono ?_
  rintro e W1 ⟨rfl, hb⟩
  have HB1 := Aside0.mk (below_step HB.out hb)
  clear hb
  go_wp2_with (fail)
  go_ret
  exact ⟨rfl, HB1.out⟩
set_option maxHeartbeats 4000000 in
set_option maxRecDepth 100000 in
theorem show_c (n d : Int) (hn : In64 n) (hd : In64 d) (h : Right n d) (w : World) (ht : Tab w) :
    Calls Tryd.prog 7 #[.agg #[.int .i64 n, .int .i64 d]] w fun e w' => e = .returned (.string (tx n d)) ∧ Below w.heap.size w w' := by
  obtain ⟨k, hk⟩ := Ev.rounds (right_ev n d hn hd)
  rw [decide_eq_true h] at hk
  have HC := Aside0.mk (fun W => rat_Right.calls k n d true W hk)
  have HX := Aside0.mk (show (w.alloc (.cells #[.int .i64 n, .int .i64 d] 23 (0, 0))).heap[w.heap.size]? = some (.cells #[.int .i64 n, .int .i64 d] 23 (0, 0)) by simpa using heap_alloc_new w _)
  have HB := Aside0.mk (below_alloc (Below.refl w.heap.size w) (.cells #[.int .i64 n, .int .i64 d] 23 (0, 0)))
  have HT := Aside0.mk ht
  have HN := Aside0.mk (show In64 n ∧ In64 d from ⟨hn, hd⟩)
  have hl := Lib.itoa_length_le n hn.1 hn.2
  have hl2 := Lib.itoa_length_le d hd.1 hd.2
  have HL := Aside0.mk (show (Lib.itoa n).length ≤ 21 ∧ (Lib.itoa d).length ≤ 21 from ⟨hl, hl2⟩)
  clear hk ht hn hd hl hl2
  go_enter Tryd.func7, Tryd.ntmps7
  go_wp2_with (fail)
  refine (HC.out _).mono ?_
  rintro e W1 ⟨rfl, hb⟩
  replace HX := Aside0.mk (blk_below HX.out hb)
  replace HB := Aside0.mk (below_step HB.out hb)
  clear hb HC
  have k0 := (bl1 HX.out).1
  have k1 := (bl1 HX.out).2
  by_cases h1 : d = 1
  · subst h1
    have e1 : tx n 1 = ⟨(Lib.itoa n).toArray⟩ := by unfold tx; rw [if_pos rfl]
    have E1 := Aside0.mk e1
    clear e1
    go_wp2_with (fail)
    refine (Tryd.strconv_FormatInt_10 n HN.out.1.1 HN.out.1.2 _ (HT.out _ HB.out)).mono ?_
    rintro e W2 ⟨rfl, k, os, rfl⟩
    go_wp2_with (fail)
    go_ret
    exact ⟨by rw [E1.out]; rfl, below_step HB.out (Lib.below_grow _ _ (Nat.le_refl _) _ _)⟩
  · have hd1 : (d == 1) = false := by simpa using h1
    have E1 := Aside0.mk (show tx n d = ⟨(Lib.itoa n).toArray⟩ ++ ⟨#[47]⟩ ++ ⟨(Lib.itoa d).toArray⟩ by unfold tx; rw [if_neg h1])
    go_wp2_with (fail)
    have HXq := Aside0.mk (blk_drew HX.out)
    have HBq := Aside0.mk (below_drew1 HB.out)
    refine start_ (n := 9) (S := fun w' => w'.cell? ⟨w.heap.size, 0, none⟩ = some (.int .i64 n) ∧ w'.cell? ⟨w.heap.size, 1, none⟩ = some (.int .i64 d)) (ds := []) #[false, false, false, false, false, false, false, false, false] (by kernel_rfl) rfl rfl (⟨k0, k1⟩) (fun hHeld => ?_); refine with_tabW shreg.tab shreg.bits (fun HT_ HW_ => ?_)
    clear k0 k1 HX HB
    generalize W1.drew = W2 at HXq HBq hHeld ⊢
    refine pure_ (i := 0) (N := some 12) (v := ?_) (a' := ?_) #[true, false, false, false, false, false, false, false, false] rfl rfl (any_of HT_.out (by kernel_rfl)) (fun _ _ _ h => h) (Or.inl ⟨by rfl, ?_⟩) ?_ ?_
    rotate_left
    · intro w'
      go_simp
      with_reducible rfl
    rotate_left
    · simp only [Act.put, List.setIfInBounds_toArray, List.set_cons_zero, List.set_cons_succ, i64_w, i32_w]
      rfl
    refine pure_ (i := 4) (N := some 16) (v := ?_) (a' := ?_) #[true, false, false, false, true, false, false, false, false] rfl rfl (any_of HT_.out (by kernel_rfl)) (fun _ _ _ h => h) (Or.inl ⟨by rfl, ?_⟩) ?_ ?_
    rotate_left
    · intro w'
      go_simp
      with_reducible rfl
    rotate_left
    · simp only [Act.put, List.setIfInBounds_toArray, List.set_cons_zero, List.set_cons_succ, i64_w, i32_w]
      rfl
    refine take_ (i := 1) (N := some 13) (v := ?_) (a' := ?_) #[true, true, false, false, true, false, false, false, false] rfl rfl (take_ofW HT_.out HW_.out (by kernel_rfl)) (fun _ _ _ h => h) (Or.inl ⟨by rfl, ?_⟩) hHeld ?_ ?_
    rotate_left
    · intro w' s0
      obtain ⟨s1, s2⟩ := s0
      go_simp
      with_reducible rfl
    rotate_left
    · simp only [Act.put, List.setIfInBounds_toArray, List.set_cons_zero, List.set_cons_succ, i64_w, i32_w]
      rfl
    refine take_ (i := 5) (N := some 17) (v := ?_) (a' := ?_) #[true, true, false, false, true, true, false, false, false] rfl rfl (take_ofW HT_.out HW_.out (by kernel_rfl)) (fun _ _ _ h => h) (Or.inl ⟨by rfl, ?_⟩) hHeld ?_ ?_
    rotate_left
    · intro w' s0
      obtain ⟨s1, s2⟩ := s0
      go_simp
      with_reducible rfl
    rotate_left
    · simp only [Act.put, List.setIfInBounds_toArray, List.set_cons_zero, List.set_cons_succ, i64_w, i32_w]
      rfl
    refine one_ (i := 2) (N := some 14) #[true, true, true, false, true, true, false, false, false] rfl rfl (one_of HT_.out (by kernel_rfl)) (by decide) (fun K hK => ?_)
    refine goes_ Tryd.func18 (by kernel_rfl) rfl #[.int .i64 n, .int .i64 10] (by rfl) rfl rfl (by (try simp only [List.map_toArray, List.map_cons, List.map_nil]); first | done | rfl | (simp only [List.length_drop, List.length_take]; rfl)) ?_
    refine (Tryd.strconv_FormatInt_10 n HN.out.1.1 HN.out.1.2 _ (HT.out _ HBq.out)).mono ?_
    rintro e W3 ⟨rfl, hk3⟩
    have hb : Below W2.heap.size W2 W3 := by obtain ⟨k, os, rfl⟩ := hk3; exact Lib.below_grow _ _ (Nat.le_refl _) _ _
    have HX3 := Aside0.mk (blk_below HXq.out hb)
    have HB3 := Aside0.mk (below_step HBq.out hb)
    have HS_ := show _ ∧ _ from bl1 HX3.out
    clear hb hk3
    have hc1 : (9223372036854775807 < (Lib.itoa n).length + 1) = False := eq_false (by have := HL.out.1; omega)
    have hc2 : (9223372036854775807 < (Lib.itoa n).length + 1 + (Lib.itoa d).length) = False := eq_false (by have := HL.out; omega)
    refine ⟨_, rfl, ?_⟩
    refine hK.out _ _ HS_ (fun hHeld => ?_)
    clear hK K
    refine norm_ (a' := ?_) ?_ ?_
    rotate_left
    · show Act.put _ (some 14) _ = _
      simp only [Act.put, List.setIfInBounds_toArray, List.set_cons_zero, List.set_cons_succ, i64_w, i32_w]
      rfl
    refine pure_ (i := 3) (N := some 15) (v := ?_) (a' := ?_) #[true, true, true, true, true, true, false, false, false] rfl rfl (any_of HT_.out (by kernel_rfl)) (fun _ _ _ h => h) (Or.inl ⟨by rfl, ?_⟩) ?_ ?_
    rotate_left
    · intro w'
      go_simp
      with_reducible rfl
    rotate_left
    · simp only [Act.put, List.setIfInBounds_toArray, List.set_cons_zero, List.set_cons_succ, i64_w, i32_w]
      rfl
    refine one_ (i := 6) (N := some 18) #[true, true, true, true, true, true, true, false, false] rfl rfl (one_of HT_.out (by kernel_rfl)) (by decide) (fun K hK => ?_)
    refine goes_ Tryd.func18 (by kernel_rfl) rfl #[.int .i64 d, .int .i64 10] (by rfl) rfl rfl (by (try simp only [List.map_toArray, List.map_cons, List.map_nil]); first | done | rfl | (simp only [List.length_drop, List.length_take]; rfl)) ?_
    refine (Tryd.strconv_FormatInt_10 d HN.out.2.1 HN.out.2.2 _ (HT.out _ HB3.out)).mono ?_
    rintro e W4 ⟨rfl, hk4⟩
    have hb : Below W3.heap.size W3 W4 := by obtain ⟨k, os, rfl⟩ := hk4; exact Lib.below_grow _ _ (Nat.le_refl _) _ _
    have HX4 := Aside0.mk (blk_below HX3.out hb)
    have HB4 := Aside0.mk (below_step HB3.out hb)
    have HS_ := show _ ∧ _ from bl1 HX4.out
    clear hb hk4
    refine ⟨_, rfl, ?_⟩
    refine hK.out _ _ HS_ (fun hHeld => ?_)
    clear hK K
    refine norm_ (a' := ?_) ?_ ?_
    rotate_left
    · show Act.put _ (some 18) _ = _
      simp only [Act.put, List.setIfInBounds_toArray, List.set_cons_zero, List.set_cons_succ, i64_w, i32_w]
      rfl
    refine pure_ (i := 7) (N := some 19) (v := ?_) (a' := ?_) #[true, true, true, true, true, true, true, true, false] rfl rfl (any_of HT_.out (by kernel_rfl)) (fun _ _ _ h => h) (Or.inl ⟨by rfl, ?_⟩) ?_ ?_
    rotate_left
    · intro w'
      go_simp
      with_reducible rfl
    rotate_left
    · simp only [Act.put, List.setIfInBounds_toArray, List.set_cons_zero, List.set_cons_succ, i64_w, i32_w]
      rfl
    refine pure_ (i := 8) (N := some 2) (v := ?_) (a' := ?_) #[true, true, true, true, true, true, true, true, true] rfl rfl (any_of HT_.out (by kernel_rfl)) (fun _ _ _ h => h) (Or.inl ⟨by rfl, ?_⟩) ?_ ?_
    rotate_left
    · intro w'
      go_simp
      with_reducible rfl
    rotate_left
    · simp only [Act.put, List.setIfInBounds_toArray, List.set_cons_zero, List.set_cons_succ, i64_w, i32_w]
      rfl
    refine done_ (done_of HT_.out (by kernel_rfl)) ?_
    go_wp2_with (fail)
    go_ret
    exact ⟨by rw [E1.out]; rfl, HB4.out⟩
end Go.Proofs.YtpcdcanmbokpfaaDoor.PRat
