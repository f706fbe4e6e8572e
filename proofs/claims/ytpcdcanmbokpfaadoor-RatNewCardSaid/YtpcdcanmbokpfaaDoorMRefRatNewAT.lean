/-
Of any two numbers and any fraction, rat.New, rat.Right, rat.Compare and rat.Show answer as the document's: the walk of the law RatNew.
-/
import Derived.Test.YtpcdcanmbokpfaaDoorMRefRefKT
import Derived.Test.YtpcdcanmbokpfaaDoorMRatShowNT
import Derived.Lib.ItoaNum
import Derived.Lib.ItoaLen
namespace Go.Proofs.YtpcdcanmbokpfaaDoor.PRef
open Go Go.RowKit Go.Proofs.YtpcdcanmbokpfaaDoorW.PrintWords Go.Proofs.YtpcdcanmbokpfaaDoorW.PrintLast Go.Proofs.YtpcdcanmbokpfaaDoorW.PrintMore BallBits
attribute [local go_sem] max2_int min2_int max_two min_two max_three min_three max_four min_four
set_option linter.unusedVariables false
set_option linter.unusedSimpArgs false
set_option maxHeartbeats 4000000 in
set_option maxRecDepth 100000 in
theorem digits_c (u : Nat) (hu : u < 9223372036854775808) : ∀ (w : World), Calls Tryd.prog 26 #[.int .i64 (u : Int)] w fun e w' => e = .returned (.string ⟨(Lib.decDigits u).toArray⟩) ∧ Below w.heap.size w w' := by
  induction u using Nat.strongRecOn with
  | _ u ih =>
    intro w
    by_cases h : u < 10
    · have e1 := Aside0.mk (show Lib.decDigits u = [UInt8.ofNat (48 + u)] by rw [Lib.decDigits, dif_pos h])
      have d1 : decide ((u : Int) < 10) = true := decide_eq_true (by omega)
      have d2 : decide (u < 10) = true := decide_eq_true (by omega)
      have f1 : wrap64 (48 + (u : Int)) = 48 + (u : Int) := by unfold wrap64; omega
      have f2 : IntKind.u8.wrap (48 + (u : Int)) = 48 + (u : Int) := by simp [IntKind.wrap, IntKind.signed, IntKind.bits]; omega
      have f3 : (48 + (u : Int)) % 256 = 48 + (u : Int) := by omega
      have CV := Aside0.mk (show Sem.run Tryd.prog (convert 64 9 (.slice (some ⟨w.heap.size, 0, none⟩) 1 1)) (w.alloc (.cells #[.int .u8 (48 + (u : Int))] 5)) = .ok (.string (strOfNums [48 + (u : Int)])) (w.alloc (.cells #[.int .u8 (48 + (u : Int))] 5)) from string_of_reads Tryd.underlying64 Tryd.underlying5 Tryd.underlying9 ⟨rfl, by decide, fun _ => ⟨_, rfl, fun j hj => by
        obtain rfl : j = 0 := by omega
        exact (blk_cell (blk_new w (.cells #[.int .u8 (48 + (u : Int))] 5 (0, 0))) 0).trans rfl⟩⟩)
      have ES := Aside0.mk (show strOfNums [48 + (u : Int)] = ⟨(Lib.decDigits u).toArray⟩ by rw [e1.out]; (simp only [strOfNums, List.map_cons, List.map_nil]; rw [show (48 + (u : Int)).toNat = 48 + u by omega]))
      have cv := CV.out
      clear ih
      go_enter Tryd.func26, Tryd.ntmps26
      go_wp2_with (fail)
      go_ret
      exact ⟨by rw [← ES.out]; rfl, below_alloc (Below.refl _ _) _⟩
    · have e1 := Aside0.mk (show Lib.decDigits u = Lib.decDigits (u / 10) ++ [UInt8.ofNat (48 + u % 10)] by rw [Lib.decDigits, dif_neg h])
      have d1 : decide ((u : Int) < 10) = false := decide_eq_false (by omega)
      have d2 : decide (u < 10) = false := decide_eq_false (by omega)
      have t1 : wrap64 (Int.tdiv (u : Int) 10) = ((u / 10 : Nat) : Int) := by rw [Int.tdiv_eq_ediv_of_nonneg (by omega)]; unfold wrap64; omega
      have t2 : Int.tdiv (u : Int) 10 = ((u / 10 : Nat) : Int) := by rw [Int.tdiv_eq_ediv_of_nonneg (by omega)]; omega
      have t3 : Int.tmod (u : Int) 10 = ((u % 10 : Nat) : Int) := by rw [Int.tmod_eq_emod_of_nonneg (by omega)]; omega
      have E2 := Aside0.mk (show (⟨(Lib.decDigits u).toArray⟩ : ByteArray) = ⟨(Lib.decDigits (u / 10)).toArray⟩ ++ ⟨(Lib.decDigits (u % 10)).toArray⟩ by
        rw [e1.out, show Lib.decDigits (u % 10) = [UInt8.ofNat (48 + u % 10)] by rw [Lib.decDigits, dif_pos (by omega)]]
        exact ByteArray.ext (by simp))
      have hc : (9223372036854775807 < (Lib.decDigits (u / 10)).length + (Lib.decDigits (u % 10)).length) = False := eq_false (by
        rw [Lib.decDigits_length, Lib.decDigits_length]
        have h1 := Lib.nDigits_le20 (u / 10) (by omega)
        have h2 := Lib.nDigits_le20 (u % 10) (by omega)
        omega)
      have I1 := Aside0.mk (ih (u / 10) (by omega) (by omega))
      have I2 := Aside0.mk (ih (u % 10) (by omega) (by omega))
      clear ih
      go_enter Tryd.func26, Tryd.ntmps26
      go_wp2_with (fail)
      rw [show (u : Int) / 10 = ((u / 10 : Nat) : Int) by omega]
      refine (I1.out w).mono ?_
      rintro e W1 ⟨rfl, hb1⟩
      have HB1 := Aside0.mk hb1
      clear hb1
      go_wp2_with (fail)
      first | rw [show (u : Int) % 10 = ((u % 10 : Nat) : Int) by omega] | skip
      refine (I2.out W1).mono ?_
      rintro e W2 ⟨rfl, hb2⟩
      have HB2 := Aside0.mk (below_step HB1.out hb2)
      clear hb2
      go_wp2_with (fail)
      go_ret
      exact ⟨by rw [E2.out]; rfl, HB2.out⟩
theorem digits_i (n : Int) (h0 : 0 ≤ n) (h1 : n ≤ 9223372036854775807) (w : World) : Calls Tryd.prog 26 #[.int .i64 n] w fun e w' => e = .returned (.string ⟨(Lib.decDigits n.toNat).toArray⟩) ∧ Below w.heap.size w w' := by
  have := digits_c n.toNat (by omega) w
  rw [show ((n.toNat : Nat) : Int) = n by omega] at this
  exact this
theorem len_i (n : Int) (h1 : n ≤ 9223372036854775807) : (Lib.decDigits n.toNat).length ≤ 20 := by
  rw [Lib.decDigits_length]
  exact Lib.nDigits_le20 _ (by omega)
set_option maxHeartbeats 4000000 in
set_option maxRecDepth 100000 in
theorem rshow_bad (n d : Int) (hn : BallQ.In64 n) (hd : BallQ.In64 d) (h : ¬ BallQ.Right n d) (w : World) :
    Calls Tryd.prog 13 #[.agg #[.int .i64 n, .int .i64 d]] w fun e w' => e = .returned (.string ⟨#[63]⟩) ∧ Below w.heap.size w w' := by
  have HC := Aside0.mk (right_c n d hn hd)
  have HB := Aside0.mk (below_alloc (Below.refl w.heap.size w) (.cells #[.int .i64 n, .int .i64 d] 23 (0, 0)))
  clear hn hd
  go_enter Tryd.func13, Tryd.ntmps13
  go_wp2_with (fail)
  refine (HC.out _).mono ?_
  rw [decide_eq_false h]
  rintro e W1 ⟨rfl, hb⟩
  have HB1 := Aside0.mk (below_step HB.out hb)
  clear hb
  go_wp2_with (fail)
  go_ret
  exact ⟨rfl, HB1.out⟩
set_option maxHeartbeats 4000000 in
set_option maxRecDepth 100000 in
theorem rshow_c (n d : Int) (hn : BallQ.In64 n) (hd : BallQ.In64 d) (h : BallQ.Right n d) (w : World) :
    Calls Tryd.prog 13 #[.agg #[.int .i64 n, .int .i64 d]] w fun e w' => e = .returned (.string (PRat.tx n d)) ∧ Below w.heap.size w w' := by
  have HC := Aside0.mk (right_c n d hn hd)
  have HX := Aside0.mk (show (w.alloc (.cells #[.int .i64 n, .int .i64 d] 23 (0, 0))).heap[w.heap.size]? = some (.cells #[.int .i64 n, .int .i64 d] 23 (0, 0)) by simpa using heap_alloc_new w _)
  have HB := Aside0.mk (below_alloc (Below.refl w.heap.size w) (.cells #[.int .i64 n, .int .i64 d] 23 (0, 0)))
  obtain ⟨n0, n1⟩ := hn
  obtain ⟨d0, d1⟩ := hd
  have hm := h.2.1
  have hp := h.1
  have HD := Aside0.mk (digits_i d (by omega) d1)
  have LD := Aside0.mk (len_i d d1)
  have ED := Aside0.mk (show Lib.itoa d = Lib.decDigits d.toNat by unfold Lib.itoa; rw [if_neg (by omega)])
  go_enter Tryd.func13, Tryd.ntmps13
  go_wp2_with (fail)
  refine (HC.out _).mono ?_
  rw [decide_eq_true h]
  rintro e W1 ⟨rfl, hb⟩
  replace HX := Aside0.mk (blk_below HX.out hb)
  replace HB := Aside0.mk (below_step HB.out hb)
  clear hb HC h
  have k0 := (cl2 HX.out).1
  have k1 := (cl2 HX.out).2
  by_cases hneg : n < 0
  · have q1 : decide (n < 0) = true := decide_eq_true hneg
    have wn : wrap64 (-n) = -n := by unfold wrap64; omega
    have HN := Aside0.mk (digits_i (-n) (by omega) (by omega))
    have LN := Aside0.mk (len_i (-n) (by omega))
    have EN := Aside0.mk (show Lib.itoa n = 45 :: Lib.decDigits (-n).toNat by unfold Lib.itoa; rw [if_pos hneg, show n.natAbs = (-n).toNat by omega])
    clear n0 n1 d0 d1 hm hp hneg
    go_wp2_with (fail)
    refine (HN.out _).mono ?_
    rintro e W2 ⟨rfl, hb⟩
    replace HX := Aside0.mk (blk_below HX.out hb)
    replace HB := Aside0.mk (below_step HB.out hb)
    clear hb k0 k1
    have k0 := (cl2 HX.out).1
    have k1 := (cl2 HX.out).2
    have c1 : (9223372036854775807 < 1 + (Lib.decDigits (-n).toNat).length) = False := eq_false (by have := LN.out; omega)
    have c2 : (9223372036854775807 < 1 + (Lib.decDigits (-n).toNat).length + 1) = False := eq_false (by have := LN.out; omega)
    have c3 : (9223372036854775807 < 1 + (Lib.decDigits (-n).toNat).length + 1 + (Lib.decDigits d.toNat).length) = False := eq_false (by have := LN.out; have := LD.out; omega)
    by_cases hd1 : d = 1
    · subst hd1
      have EX := Aside0.mk (show PRat.tx n 1 = ⟨#[45]⟩ ++ ⟨(Lib.decDigits (-n).toNat).toArray⟩ by unfold PRat.tx; rw [if_pos rfl, EN.out]; exact ByteArray.ext (by simp))
      clear EN LN LD
      go_wp2_with (fail)
      go_ret
      exact ⟨by rw [EX.out]; rfl, HB.out⟩
    · have q2 : (d != 1) = true := by simpa using hd1
      have EX := Aside0.mk (show PRat.tx n d = ⟨#[45]⟩ ++ ⟨(Lib.decDigits (-n).toNat).toArray⟩ ++ ⟨#[47]⟩ ++ ⟨(Lib.decDigits d.toNat).toArray⟩ by unfold PRat.tx; rw [if_neg hd1, EN.out, ED.out]; exact ByteArray.ext (by simp))
      clear EN
      go_wp2_with (fail)
      refine (HD.out _).mono ?_
      rintro e W3 ⟨rfl, hb⟩
      replace HB := Aside0.mk (below_step HB.out hb)
      clear hb
      go_wp2_with (fail)
      go_ret
      exact ⟨by rw [EX.out]; rfl, HB.out⟩
  · have q1 : decide (n < 0) = false := decide_eq_false hneg
    have HN := Aside0.mk (digits_i n (by omega) n1)
    have LN := Aside0.mk (len_i n n1)
    have EN := Aside0.mk (show Lib.itoa n = Lib.decDigits n.toNat by unfold Lib.itoa; rw [if_neg hneg])
    clear n0 n1 d0 d1 hm hp hneg
    go_wp2_with (fail)
    refine (HN.out _).mono ?_
    rintro e W2 ⟨rfl, hb⟩
    replace HX := Aside0.mk (blk_below HX.out hb)
    replace HB := Aside0.mk (below_step HB.out hb)
    clear hb k0 k1
    have k0 := (cl2 HX.out).1
    have k1 := (cl2 HX.out).2
    have c2 : (9223372036854775807 < (Lib.decDigits n.toNat).length + 1) = False := eq_false (by have := LN.out; omega)
    have c3 : (9223372036854775807 < (Lib.decDigits n.toNat).length + 1 + (Lib.decDigits d.toNat).length) = False := eq_false (by have := LN.out; have := LD.out; omega)
    by_cases hd1 : d = 1
    · subst hd1
      have EX := Aside0.mk (show PRat.tx n 1 = ⟨(Lib.decDigits n.toNat).toArray⟩ by unfold PRat.tx; rw [if_pos rfl, EN.out])
      clear EN LN LD
      go_wp2_with (fail)
      go_ret
      exact ⟨by rw [EX.out]; rfl, HB.out⟩
    · have q2 : (d != 1) = true := by simpa using hd1
      have EX := Aside0.mk (show PRat.tx n d = ⟨(Lib.decDigits n.toNat).toArray⟩ ++ ⟨#[47]⟩ ++ ⟨(Lib.decDigits d.toNat).toArray⟩ by unfold PRat.tx; rw [if_neg hd1, EN.out, ED.out])
      clear EN
      go_wp2_with (fail)
      refine (HD.out _).mono ?_
      rintro e W3 ⟨rfl, hb⟩
      replace HB := Aside0.mk (below_step HB.out hb)
      clear hb
      go_wp2_with (fail)
      go_ret
      exact ⟨by rw [EX.out]; rfl, HB.out⟩
open BallQ
theorem sgn_abs (n : Int) : sgn (decide (n < 0)) n.natAbs = n := by
  unfold sgn
  by_cases h : n < 0
  · simp only [h, decide_true, if_true]; omega
  · simp only [h, decide_false, Bool.false_eq_true, if_false]; omega
theorem abs_sgn (m : Bool) (n : Nat) : (sgn m n).natAbs = n := by
  cases m <;> simp [sgn]
theorem sgn_mul (m : Bool) (g n : Nat) : sgn m (g * n) = (g : Int) * sgn m n := by
  cases m <;> simp [sgn, Int.mul_neg]
theorem put_out (N D : Nat) (h : 0 < D) (m : Bool) : put (N / Nat.gcd N D) (D / Nat.gcd N D) m = out (mkRat (sgn m N) D) := by
  have hg : 0 < Nat.gcd N D := Nat.gcd_pos_of_pos_right _ h
  have e1 : Nat.gcd N D * (N / Nat.gcd N D) = N := Nat.mul_div_cancel' (Nat.gcd_dvd_left N D)
  have e2 : Nat.gcd N D * (D / Nat.gcd N D) = D := Nat.mul_div_cancel' (Nat.gcd_dvd_right N D)
  have hc : (N / Nat.gcd N D).gcd (D / Nat.gcd N D) = 1 := cop_of hg rfl
  have hD : D / Nat.gcd N D ≠ 0 := by
    intro h0
    rw [h0] at e2
    omega
  generalize hx : N / Nat.gcd N D = x at *
  generalize hy : D / Nat.gcd N D = y at *
  generalize hz : Nat.gcd N D = g at *
  have e3 : mkRat (sgn m N) D = mkRat (sgn m x) y := by
    rw [← e1, ← e2, sgn_mul]
    exact Rat.mkRat_mul_left (by omega)
  rw [e3, out_cop (sgn m x) y hD (by rw [abs_sgn]; exact hc) m ?_, abs_sgn]
  intro h0
  cases m
  · simp only [sgn, Bool.false_eq_true, if_false] at h0 ⊢; exact (decide_eq_false (by omega)).symm
  · simp only [sgn, if_true] at h0 ⊢; exact (decide_eq_true (by omega)).symm
theorem sum_sgn (a b c d : Nat) (m1 m2 : Bool) : sgn (sumM a b c d m1 m2) (sumN a b c d m1 m2) = sgn m1 a * (d : Int) + sgn m2 c * (b : Int) := by
  have e1 : sgn m1 a * (d : Int) = sgn m1 (a * d) := by cases m1 <;> simp [sgn, Int.neg_mul]
  have e2 : sgn m2 c * (b : Int) = sgn m2 (c * b) := by cases m2 <;> simp [sgn, Int.neg_mul]
  rw [e1, e2]
  unfold sumN sumM
  generalize a * d = x
  generalize c * b = y
  cases m1 <;> cases m2 <;> simp only [sgn, beq_self_eq_true, if_true, Bool.false_eq_true, if_false, beq_iff_eq, reduceCtorEq] <;> (try split) <;> (try simp only [sgn, if_true, Bool.false_eq_true, if_false]) <;> omega
theorem sgn_not (m : Bool) (n : Nat) : sgn (!m) n = -sgn m n := by cases m <;> simp [sgn]
theorem cmp_eq {n1 d1 n2 d2 : Int} (hi : In64 n1 ∧ In64 d1 ∧ In64 n2 ∧ In64 d2) (h1 : Right n1 d1) (h2 : Right n2 d2) : cmpN n1 d1 n2 d2 = PRat.cmpQ (q n1 d1) (q n2 d2) := by
  have p1 := h1.1
  have p2 := h2.1
  have hlt := PRat.q_lt h1 hi.1 hi.2.1 h2 hi.2.2.1 hi.2.2.2
  have heq : q n1 d1 = q n2 d2 ↔ n1 * d2 = n2 * d1 := by
    unfold q
    rw [Rat.mkRat_eq_iff (by omega) (by omega), show ((d2.toNat : Nat) : Int) = d2 by omega, show ((d1.toNat : Nat) : Int) = d1 by omega]
  have hs := sum_sgn n1.natAbs d1.natAbs n2.natAbs d2.natAbs (decide (n1 < 0)) (!decide (n2 < 0))
  rw [sgn_not, sgn_abs, sgn_abs, show ((d2.natAbs : Nat) : Int) = d2 by omega, show ((d1.natAbs : Nat) : Int) = d1 by omega, Int.neg_mul] at hs
  unfold cmpN PRat.cmpQ
  generalize sumN n1.natAbs d1.natAbs n2.natAbs d2.natAbs (decide (n1 < 0)) (!decide (n2 < 0)) = N at hs ⊢
  generalize sumM n1.natAbs d1.natAbs n2.natAbs d2.natAbs (decide (n1 < 0)) (!decide (n2 < 0)) = M at hs ⊢
  generalize n1 * d2 = x at *
  generalize n2 * d1 = y at *
  by_cases h0 : N = 0
  · subst h0
    have e : sgn M 0 = 0 := by cases M <;> simp [sgn]
    rw [if_pos rfl, if_neg (fun h => by have := hlt.1 h; omega), if_pos (heq.2 (by omega))]
  · rw [if_neg h0]
    cases M
    · simp only [sgn, Bool.false_eq_true, if_false] at hs ⊢
      rw [if_neg (fun h => by have := hlt.1 h; omega), if_neg (fun h => by have := heq.1 h; omega)]
    · simp only [sgn, if_true] at hs ⊢
      rw [if_pos (hlt.2 (by omega))]
theorem new_eq (n d : Int) : (if d = 0 then (0, 0, 2) else put (n.natAbs / Nat.gcd n.natAbs d.natAbs) (d.natAbs / Nat.gcd n.natAbs d.natAbs) ((decide (n < 0)) != (decide (d < 0)))) = PRat.newS n d := by
  unfold PRat.newS
  by_cases h : d = 0
  · rw [if_pos h, if_pos h]
  · rw [if_neg h, if_neg h, put_out _ _ (by omega)]
    congr 1
    by_cases hd : d < 0
    · rw [← Rat.neg_divInt_neg, decide_eq_true hd]
      have e : sgn (decide (n < 0) != true) n.natAbs = -n := by
        rw [show (decide (n < 0) != true) = !(decide (n < 0)) by cases decide (n < 0) <;> rfl, sgn_not, sgn_abs]
      rw [e, ← Rat.divInt_ofNat]
      congr 1
      omega
    · rw [decide_eq_false hd]
      have e : sgn (decide (n < 0) != false) n.natAbs = n := by
        rw [show (decide (n < 0) != false) = decide (n < 0) by cases decide (n < 0) <;> rfl, sgn_abs]
      rw [e, ← Rat.divInt_ofNat]
      congr 1
      omega
theorem new_right {n d r1 r2 r3 : Int} (h : PRat.newS n d = (r1, r2, r3)) (h3 : r3 = 0) : Right r1 r2 ∧ In64 r1 ∧ In64 r2 := by
  unfold PRat.newS at h
  split at h
  · have : r3 = 2 := by simp at h; omega
    omega
  · unfold BallQ.out at h
    split at h
    · rename_i hf
      obtain ⟨e1, e2, e3⟩ : (Rat.divInt n d).num = r1 ∧ ((Rat.divInt n d).den : Int) = r2 ∧ (0 : Int) = r3 := by simpa using h
      have := BallQ.right_fits hf
      rw [e1, e2] at this
      exact this
    · have : r3 = 3 := by simp at h; omega
      omega
def nreg.T : Bool × List (List Nat × List Nat) := (true, [([], []), ([], []), ([0, 1], [0, 1]), ([2], [2]), ([3], [3]), ([3], [3]), ([4, 5, 3], [3, 4, 5]), ([3, 6], [3, 6]), ([7, 3], [7]), ([8], [8]), ([9, 8, 8], [8, 9]), ([8], [8]), ([11, 10, 8], [8, 11]), ([10, 12, 8], [8, 10, 12]), ([8, 13], [8, 13]), ([14, 12], [14]), ([15], [15]), ([16, 15, 15], [15, 16]), ([15], [15]), ([18, 17, 15], [15, 18]), ([17, 19, 15], [15, 17, 19]), ([15, 20], [15, 20]), ([21, 19], [21]), ([22], [22]), ([22], [22]), ([23, 24, 22, 22], [22, 23, 24]), ([22], [22]), ([22], [22]), ([26, 27, 25, 22], [22, 26, 27]), ([25, 28, 22], [22, 25, 28]), ([22, 29], [22, 29]), ([30, 28], [30]), ([31], [31]), ([32, 31, 31], [31, 32]), ([31], [31]), ([34, 33, 31], [31, 34]), ([33, 35, 31], [31, 33, 35]), ([31, 36], [31, 36]), ([37, 35], [37]), ([38], [38]), ([39, 38], [38, 39]), ([40, 38, 38], [38, 40]), ([41], [41]), ([42, 41, 41], [41, 42]), ([41, 43, 38], [38, 41, 43]), ([38, 44], [38, 44]), ([45, 43, 0, 1, 2, 3, 4, 5, 6, 7, 8, 9, 10, 11, 12, 13, 14, 15, 16, 17, 18, 19, 20, 21, 22, 23, 24, 25, 26, 27, 28, 29, 30, 31, 32, 33, 34, 35, 36, 37, 38, 39, 40, 41, 42, 43, 44, 45], [45])])
def nreg.B : List Nat := [0, 0, 3, 7, 15, 15, 63, 127, 255, 511, 1023, 511, 4095, 8191, 16383, 32767, 65535, 131071, 65535, 524287, 1048575, 2097151, 4194303, 8388607, 8388607, 33554431, 8388607, 8388607, 268435455, 536870911, 1073741823, 2147483647, 4294967295, 8589934591, 4294967295, 34359738367, 68719476735, 137438953471, 274877906943, 549755813887, 1099511627775, 2199023255551, 4398046511103, 8796093022207, 17592186044415, 35184372088831, 70368744177663]
theorem nreg.tab : rtab .any (opsOf Tryd.f4 6) = nreg.T := by kernel_rfl
theorem nreg.bits : waitsOk nreg.T.2 nreg.B = true := by kernel_rfl
theorem eqR (a b : Int) (w : World) : Sem.run Tryd.prog (binOp BinOp.eql 23 (.agg #[.int .i64 a, .int .i64 b]) (.agg #[.int .i64 a, .int .i64 b])) w = .ok (.bool true) w := by
  simp only [binOp]
  simp [Op.equal, Op.maxDepth, PRat.eqA23 9998 w a a b b]
attribute [local go_sem] eqR
set_option maxRecDepth 100000 in
theorem awake_c (w : World) : Calls Tryd.prog 5 #[] w fun e w' => e = .returned (.bool true) ∧ Below w.heap.size w w' := by
  obtain ⟨k, hk⟩ := Ev.rounds (PRat.add_ev 1 2 1 3 (by unfold In64; decide) (by unfold In64; decide) (by unfold In64; decide) (by unfold In64; decide))
  rw [show PRat.addS 1 2 1 3 = (5, 6, 0) by decide +kernel] at hk
  have HA := Aside0.mk (fun W => PRat.rat_Add.calls k 1 2 1 3 5 6 0 W hk)
  obtain ⟨j, hj⟩ := Ev.rounds (PRat.mul_ev 4611686018427387904 1 2 1 (by unfold In64; decide) (by unfold In64; decide) (by unfold In64; decide) (by unfold In64; decide))
  rw [show PRat.mulS 4611686018427387904 1 2 1 = (0, 0, 3) by decide +kernel] at hj
  have HM := Aside0.mk (fun W => PRat.rat_Mul.calls j 4611686018427387904 1 2 1 0 0 3 W hj)
  clear hk hj
  go_enter Tryd.func5, Tryd.ntmps5
  go_wp2_with (fail)
  refine (HA.out _).mono ?_
  rintro e W1 ⟨rfl, hb⟩
  have HB := Aside0.mk (below_alloc hb (.cells #[.int .i64 5, .int .i64 6] 23 (0, 0)))
  have H1 := Aside0.mk (blk_new W1 (.cells #[.int .i64 5, .int .i64 6] 23 (0, 0)))
  clear hb
  obtain ⟨g1, hg1⟩ : ∃ g : Nat, W1.heap.size = g := ⟨_, rfl⟩
  rw [hg1] at H1
  go_wp2_with (fail)
  try rw [hg1]
  refine (HM.out _).mono ?_
  rintro e W2 ⟨rfl, hb⟩
  replace HB := Aside0.mk (below_alloc (below_step HB.out hb) (.cells #[.int .i64 0, .int .i64 0] 23 (0, 0)))
  replace H1 := Aside0.mk (blk_alloc (blk_below H1.out hb) (.cells #[.int .i64 0, .int .i64 0] 23 (0, 0)))
  clear hb hg1
  have k0 := (cl2 H1.out).1
  have k1 := (cl2 H1.out).2
  go_wp2_with (fail)
  go_ret
  exact ⟨rfl, HB.out⟩
def shS (n d : Int) : ByteArray := if Right n d then PRat.tx n d else ⟨#[63]⟩
theorem show_any (n d : Int) (hn : In64 n) (hd : In64 d) (w : World) (ht : PRat.Tab w) : Calls Tryd.prog 7 #[.agg #[.int .i64 n, .int .i64 d]] w fun e w' => e = .returned (.string (shS n d)) ∧ Below w.heap.size w w' := by
  unfold shS
  by_cases h : Right n d
  · rw [if_pos h]; exact PRat.show_c n d hn hd h w ht
  · rw [if_neg h]; exact PRat.show_bad n d hn hd h w
theorem rshow_any (n d : Int) (hn : In64 n) (hd : In64 d) (w : World) : Calls Tryd.prog 13 #[.agg #[.int .i64 n, .int .i64 d]] w fun e w' => e = .returned (.string (shS n d)) ∧ Below w.heap.size w w' := by
  unfold shS
  by_cases h : Right n d
  · rw [if_pos h]; exact rshow_c n d hn hd h w
  · rw [if_neg h]; exact rshow_bad n d hn hd h w
theorem pright_c (n d : Int) (hn : In64 n) (hd : In64 d) (w : World) : Calls Tryd.prog 6 #[.agg #[.int .i64 n, .int .i64 d]] w fun e w' => e = .returned (.bool (decide (Right n d))) ∧ Below w.heap.size w w' := by
  obtain ⟨k, hk⟩ := Ev.rounds (PRat.right_ev n d hn hd)
  exact PRat.rat_Right.calls k n d _ w hk
theorem pcmp_c (n1 d1 n2 d2 : Int) (hi : In64 n1 ∧ In64 d1 ∧ In64 n2 ∧ In64 d2) (w : World) : Calls Tryd.prog 11 #[.agg #[.int .i64 n1, .int .i64 d1], .agg #[.int .i64 n2, .int .i64 d2]] w fun e w' => e = .returned (.int .i64 (PRat.cmpS n1 d1 n2 d2)) ∧ Below w.heap.size w w' := by
  obtain ⟨k, hk⟩ := Ev.rounds (PRat.compare_ev n1 d1 n2 d2 hi.1 hi.2.1 hi.2.2.1 hi.2.2.2)
  exact PRat.rat_Compare.calls k n1 d1 n2 d2 _ w hk
theorem rcmp_c (n1 d1 n2 d2 : Int) (hi : In64 n1 ∧ In64 d1 ∧ In64 n2 ∧ In64 d2) (w : World) : Calls Tryd.prog 12 #[.agg #[.int .i64 n1, .int .i64 d1], .agg #[.int .i64 n2, .int .i64 d2]] w fun e w' => e = .returned (.int .i64 (PRat.cmpS n1 d1 n2 d2)) ∧ Below w.heap.size w w' := by
  unfold PRat.cmpS
  by_cases h : Right n1 d1 ∧ Right n2 d2
  · rw [if_pos h, ← cmp_eq hi h.1 h.2]; exact cmp_good n1 d1 n2 d2 w hi h.1 h.2
  · rw [if_neg h]; exact cmp_bad n1 d1 n2 d2 w hi h
theorem pnew_c (n d : Int) (hn : In64 n) (hd : In64 d) (r1 r2 r3 : Int) (hr : PRat.newS n d = (r1, r2, r3)) (w : World) : Calls Tryd.prog 8 #[.int .i64 n, .int .i64 d] w fun e w' => e = .returned (.tuple #[.agg #[.int .i64 r1, .int .i64 r2], .int .i64 r3]) ∧ Below w.heap.size w w' := by
  obtain ⟨k, hk⟩ := Ev.rounds (PRat.new_ev n d hn hd)
  rw [hr] at hk
  exact PRat.rat_New.calls k n d r1 r2 r3 w hk
theorem rnew_c (n d : Int) (hn : In64 n) (hd : In64 d) (r1 r2 r3 : Int) (hr : PRat.newS n d = (r1, r2, r3)) (w : World) : Calls Tryd.prog 9 #[.int .i64 n, .int .i64 d] w fun e w' => e = .returned (.tuple #[.agg #[.int .i64 r1, .int .i64 r2], .int .i64 r3]) ∧ Below w.heap.size w w' := by
  obtain ⟨k, hk⟩ := Ev.rounds (ref_new_ev n d hn hd)
  rw [new_eq, hr] at hk
  exact ballcockref01_New.calls k n d r1 r2 r3 w hk
set_option maxHeartbeats 8000000 in
set_option maxRecDepth 100000 in
theorem new_law (n d x y : Int) (hi : In64 n ∧ In64 d ∧ In64 x ∧ In64 y) (w : World) (ht : PRat.Tab w) :
    Calls Tryd.prog 4 #[.int .i64 n, .int .i64 d, .agg #[.int .i64 x, .int .i64 y]] w fun e w' => e = .returned (.bool true) ∧ Below w.heap.size w w' := by
  obtain ⟨r1, r2, r3, hr⟩ : ∃ r1 r2 r3, PRat.newS n d = (r1, r2, r3) := ⟨_, _, _, rfl⟩
  have HP := Aside0.mk (pnew_c n d hi.1 hi.2.1 r1 r2 r3 hr)
  have HQ := Aside0.mk (rnew_c n d hi.1 hi.2.1 r1 r2 r3 hr)
  have HR3 := Aside0.mk (fun h3 => new_right hr h3)
  have HI := Aside0.mk hi
  have HT := Aside0.mk ht
  have H5 := Aside0.mk (show (w.alloc (.cells #[.int .i64 x, .int .i64 y] 23 (0, 0))).heap[w.heap.size]? = some (.cells #[.int .i64 x, .int .i64 y] 23 (0, 0)) by simpa using heap_alloc_new w _)
  have HB := Aside0.mk (below_alloc (Below.refl w.heap.size w) (.cells #[.int .i64 x, .int .i64 y] 23 (0, 0)))
  clear hr hi ht
  go_enter Tryd.func4, Tryd.ntmps4
  go_wp2_with (fail)
  refine (awake_c _).mono ?_
  rintro e W1 ⟨rfl, hb⟩
  replace H5 := Aside0.mk (blk_below H5.out hb)
  replace HB := Aside0.mk (below_step HB.out hb)
  clear hb
  obtain ⟨g5, hg5⟩ : ∃ g : Nat, w.heap.size = g := ⟨_, rfl⟩
  rw [hg5] at H5 ⊢
  go_wp2_with (fail)
  refine (HP.out _).mono ?_
  rintro e W2 ⟨rfl, hb⟩
  replace H5 := Aside0.mk (blk_alloc (blk_below H5.out hb) (.cells #[.int .i64 r1, .int .i64 r2] 23 (0, 0)))
  replace HB := Aside0.mk (below_alloc (below_step HB.out hb) (.cells #[.int .i64 r1, .int .i64 r2] 23 (0, 0)))
  clear hb HP
  have H7 := Aside0.mk (blk_new W2 (.cells #[.int .i64 r1, .int .i64 r2] 23 (0, 0)))
  obtain ⟨g7, hg7⟩ : ∃ g : Nat, W2.heap.size = g := ⟨_, rfl⟩
  rw [hg7] at H7
  go_wp2_with (fail)
  try rw [hg7]
  refine (HQ.out _).mono ?_
  rintro e W3 ⟨rfl, hb⟩
  replace H5 := Aside0.mk (blk_below H5.out hb)
  replace H7 := Aside0.mk (blk_below H7.out hb)
  replace HB := Aside0.mk (below_step HB.out hb)
  clear hb HQ hg7
  go_wp2_with (fail)
  have T2 := twoA W3 (.cells #[.int .i64 r1, .int .i64 r2] 23 (0, 0)) (.cells #[.int .i64 n, .int .i64 d] 23 (0, 0))
  have H9 := Aside0.mk T2.1
  have H11 := Aside0.mk T2.2
  clear T2
  replace H5 := Aside0.mk (blk_alloc (blk_alloc H5.out (.cells #[.int .i64 r1, .int .i64 r2] 23 (0, 0))) (.cells #[.int .i64 n, .int .i64 d] 23 (0, 0)))
  replace H7 := Aside0.mk (blk_alloc (blk_alloc H7.out (.cells #[.int .i64 r1, .int .i64 r2] 23 (0, 0))) (.cells #[.int .i64 n, .int .i64 d] 23 (0, 0)))
  replace HB := Aside0.mk (below_alloc (below_alloc HB.out (.cells #[.int .i64 r1, .int .i64 r2] 23 (0, 0))) (.cells #[.int .i64 n, .int .i64 d] 23 (0, 0)))
  obtain ⟨g9, hg9⟩ : ∃ g : Nat, W3.heap.size = g := ⟨_, rfl⟩
  obtain ⟨g11, hg11⟩ : ∃ g : Nat, W3.heap.size + 1 = g := ⟨_, rfl⟩
  rw [hg11] at H11 ⊢
  rw [hg9] at H9 ⊢
  clear hg9 hg11
  generalize (W3.alloc (.cells #[.int .i64 r1, .int .i64 r2] 23 (0, 0))).alloc (.cells #[.int .i64 n, .int .i64 d] 23 (0, 0)) = W4 at H5 H7 H9 H11 HB ⊢
  have hR : (decide (Right n d) == decide (Right n d)) = true := by simp
  have hR2 : (decide (Right x y) == decide (Right x y)) = true := by simp
  have hE : (r3 == r3) = true := by simp
  have hC : (PRat.cmpS n d x y == PRat.cmpS n d x y) = true := by simp
  have hS : ((shS n d).toList == (shS n d).toList) = true := by simp

  have H7a := Aside0.mk (blk_drew H7.out)
  have H9a := Aside0.mk (blk_drew H9.out)
  have H11a := Aside0.mk (blk_drew H11.out)
  have H5a := Aside0.mk (blk_drew H5.out)
  have HBa := Aside0.mk (below_drew1 HB.out)
  refine start_ (n := 47) (S := fun w' => (w'.cell? ⟨g7, 0, none⟩ = some (.int .i64 r1) ∧ w'.cell? ⟨g7, 1, none⟩ = some (.int .i64 r2)) ∧ (w'.cell? ⟨g9, 0, none⟩ = some (.int .i64 r1) ∧ w'.cell? ⟨g9, 1, none⟩ = some (.int .i64 r2)) ∧ (w'.cell? ⟨g11, 0, none⟩ = some (.int .i64 n) ∧ w'.cell? ⟨g11, 1, none⟩ = some (.int .i64 d)) ∧ (w'.cell? ⟨g5, 0, none⟩ = some (.int .i64 x) ∧ w'.cell? ⟨g5, 1, none⟩ = some (.int .i64 y))) (ds := []) #[f_, f_, f_, f_, f_, f_, f_, f_, f_, f_, f_, f_, f_, f_, f_, f_, f_, f_, f_, f_, f_, f_, f_, f_, f_, f_, f_, f_, f_, f_, f_, f_, f_, f_, f_, f_, f_, f_, f_, f_, f_, f_, f_, f_, f_, f_, f_] (by kernel_rfl) rfl rfl (⟨cl2 H7a.out, cl2 H9a.out, cl2 H11a.out, cl2 H5a.out⟩) (fun hHeld => ?_); refine with_tabW nreg.tab nreg.bits (fun HT_ HW_ => ?_)
  clear H7 H9 H11 H5 HB
  generalize W4.drew = Wa at H7a H9a H11a H5a HBa hHeld ⊢
  refine take_ (i := 0) (N := some 29) (v := ?_) (a' := ?_) #[t_, f_, f_, f_, f_, f_, f_, f_, f_, f_, f_, f_, f_, f_, f_, f_, f_, f_, f_, f_, f_, f_, f_, f_, f_, f_, f_, f_, f_, f_, f_, f_, f_, f_, f_, f_, f_, f_, f_, f_, f_, f_, f_, f_, f_, f_, f_] rfl rfl (take_ofW HT_.out HW_.out (by kernel_rfl)) (fun _ _ _ h => h) (Or.inl ⟨by rfl, ?_⟩) hHeld ?_ ?_
  rotate_left
  · intro w' s0
    obtain ⟨⟨s1, s2⟩, ⟨s3, s4⟩, ⟨s5, s6⟩, s7, s8⟩ := s0
    go_simp
    with_reducible rfl
  rotate_left
  · simp only [Act.put, List.setIfInBounds_toArray, List.set_cons_zero, List.set_cons_succ, i64_w, i32_w]
    rfl
  refine take_ (i := 1) (N := some 30) (v := ?_) (a' := ?_) #[t_, t_, f_, f_, f_, f_, f_, f_, f_, f_, f_, f_, f_, f_, f_, f_, f_, f_, f_, f_, f_, f_, f_, f_, f_, f_, f_, f_, f_, f_, f_, f_, f_, f_, f_, f_, f_, f_, f_, f_, f_, f_, f_, f_, f_, f_, f_] rfl rfl (take_ofW HT_.out HW_.out (by kernel_rfl)) (fun _ _ _ h => h) (Or.inl ⟨by rfl, ?_⟩) hHeld ?_ ?_
  rotate_left
  · intro w' s0
    obtain ⟨⟨s1, s2⟩, ⟨s3, s4⟩, ⟨s5, s6⟩, s7, s8⟩ := s0
    go_simp
    with_reducible rfl
  rotate_left
  · simp only [Act.put, List.setIfInBounds_toArray, List.set_cons_zero, List.set_cons_succ, i64_w, i32_w]
    rfl
  refine pure_ (i := 2) (N := some 31) (v := ?_) (a' := ?_) #[t_, t_, t_, f_, f_, f_, f_, f_, f_, f_, f_, f_, f_, f_, f_, f_, f_, f_, f_, f_, f_, f_, f_, f_, f_, f_, f_, f_, f_, f_, f_, f_, f_, f_, f_, f_, f_, f_, f_, f_, f_, f_, f_, f_, f_, f_, f_] rfl rfl (any_of HT_.out (by kernel_rfl)) (fun _ _ _ h => h) (Or.inl ⟨by rfl, ?_⟩) ?_ ?_
  rotate_left
  · intro w'
    go_simp
    with_reducible rfl
  rotate_left
  · simp only [Act.put, List.setIfInBounds_toArray, List.set_cons_zero, List.set_cons_succ, i64_w, i32_w]
    rfl
  refine pure_ (i := 3) (N := some 32) (v := ?_) (a' := ?_) #[t_, t_, t_, t_, f_, f_, f_, f_, f_, f_, f_, f_, f_, f_, f_, f_, f_, f_, f_, f_, f_, f_, f_, f_, f_, f_, f_, f_, f_, f_, f_, f_, f_, f_, f_, f_, f_, f_, f_, f_, f_, f_, f_, f_, f_, f_, f_] rfl rfl (any_of HT_.out (by kernel_rfl)) (fun _ _ _ h => h) (Or.inl ⟨by rfl, ?_⟩) ?_ ?_
  rotate_left
  · intro w'
    go_simp
    with_reducible rfl
  rotate_left
  · simp only [Act.put, List.setIfInBounds_toArray, List.set_cons_zero, List.set_cons_succ, i64_w, i32_w]
    rfl
  refine pure_ (i := 4) (N := some 33) (v := ?_) (a' := ?_) #[t_, t_, t_, t_, t_, f_, f_, f_, f_, f_, f_, f_, f_, f_, f_, f_, f_, f_, f_, f_, f_, f_, f_, f_, f_, f_, f_, f_, f_, f_, f_, f_, f_, f_, f_, f_, f_, f_, f_, f_, f_, f_, f_, f_, f_, f_, f_] rfl rfl (any_of HT_.out (by kernel_rfl)) (fun _ _ _ h => h) (Or.inl ⟨by rfl, ?_⟩) ?_ ?_
  rotate_left
  · intro w'
    go_simp
    with_reducible rfl
  rotate_left
  · simp only [Act.put, List.setIfInBounds_toArray, List.set_cons_zero, List.set_cons_succ, i64_w, i32_w]
    rfl
  refine pure_ (i := 5) (N := some 34) (v := ?_) (a' := ?_) #[t_, t_, t_, t_, t_, t_, f_, f_, f_, f_, f_, f_, f_, f_, f_, f_, f_, f_, f_, f_, f_, f_, f_, f_, f_, f_, f_, f_, f_, f_, f_, f_, f_, f_, f_, f_, f_, f_, f_, f_, f_, f_, f_, f_, f_, f_, f_] rfl rfl (any_of HT_.out (by kernel_rfl)) (fun _ _ _ h => h) (Or.inl ⟨by rfl, ?_⟩) ?_ ?_
  rotate_left
  · intro w'
    go_simp
    with_reducible rfl
  rotate_left
  · simp only [Act.put, List.setIfInBounds_toArray, List.set_cons_zero, List.set_cons_succ, i64_w, i32_w]
    rfl
  refine pure_ (i := 6) (N := some 35) (v := ?_) (a' := ?_) #[t_, t_, t_, t_, t_, t_, t_, f_, f_, f_, f_, f_, f_, f_, f_, f_, f_, f_, f_, f_, f_, f_, f_, f_, f_, f_, f_, f_, f_, f_, f_, f_, f_, f_, f_, f_, f_, f_, f_, f_, f_, f_, f_, f_, f_, f_, f_] rfl rfl (any_of HT_.out (by kernel_rfl)) (fun _ _ _ h => h) (Or.inl ⟨by rfl, ?_⟩) ?_ ?_
  rotate_left
  · intro w'
    go_simp
    with_reducible rfl
  rotate_left
  · simp only [Act.put, List.setIfInBounds_toArray, List.set_cons_zero, List.set_cons_succ, i64_w, i32_w]
    rfl
  refine pure_ (i := 7) (N := some 36) (v := ?_) (a' := ?_) #[t_, t_, t_, t_, t_, t_, t_, t_, f_, f_, f_, f_, f_, f_, f_, f_, f_, f_, f_, f_, f_, f_, f_, f_, f_, f_, f_, f_, f_, f_, f_, f_, f_, f_, f_, f_, f_, f_, f_, f_, f_, f_, f_, f_, f_, f_, f_] rfl rfl (any_of HT_.out (by kernel_rfl)) (fun _ _ _ h => h) (Or.inl ⟨by rfl, ?_⟩) ?_ ?_
  rotate_left
  · intro w'
    go_simp
    with_reducible rfl
  rotate_left
  · simp only [Act.put, List.setIfInBounds_toArray, List.set_cons_zero, List.set_cons_succ, i64_w, i32_w]
    rfl
  refine pure_ (i := 8) (N := some 37) (v := ?_) (a' := ?_) #[t_, t_, t_, t_, t_, t_, t_, t_, t_, f_, f_, f_, f_, f_, f_, f_, f_, f_, f_, f_, f_, f_, f_, f_, f_, f_, f_, f_, f_, f_, f_, f_, f_, f_, f_, f_, f_, f_, f_, f_, f_, f_, f_, f_, f_, f_, f_] rfl rfl (any_of HT_.out (by kernel_rfl)) (fun _ _ _ h => h) (Or.inl ⟨by rfl, ?_⟩) ?_ ?_
  rotate_left
  · intro w'
    go_simp
    with_reducible rfl
  rotate_left
  · simp only [Act.put, List.setIfInBounds_toArray, List.set_cons_zero, List.set_cons_succ, i64_w, i32_w]
    rfl
  refine take_ (i := 9) (N := some 38) (v := ?_) (a' := ?_) #[t_, t_, t_, t_, t_, t_, t_, t_, t_, t_, f_, f_, f_, f_, f_, f_, f_, f_, f_, f_, f_, f_, f_, f_, f_, f_, f_, f_, f_, f_, f_, f_, f_, f_, f_, f_, f_, f_, f_, f_, f_, f_, f_, f_, f_, f_, f_] rfl rfl (take_ofW HT_.out HW_.out (by kernel_rfl)) (fun _ _ _ h => h) (Or.inl ⟨by rfl, ?_⟩) hHeld ?_ ?_
  rotate_left
  · intro w' s0
    obtain ⟨⟨s1, s2⟩, ⟨s3, s4⟩, ⟨s5, s6⟩, s7, s8⟩ := s0
    go_simp
    with_reducible rfl
  rotate_left
  · simp only [Act.put, List.setIfInBounds_toArray, List.set_cons_zero, List.set_cons_succ, i64_w, i32_w]
    rfl
  refine take_ (i := 11) (N := some 40) (v := ?_) (a' := ?_) #[t_, t_, t_, t_, t_, t_, t_, t_, t_, t_, f_, t_, f_, f_, f_, f_, f_, f_, f_, f_, f_, f_, f_, f_, f_, f_, f_, f_, f_, f_, f_, f_, f_, f_, f_, f_, f_, f_, f_, f_, f_, f_, f_, f_, f_, f_, f_] rfl rfl (take_ofW HT_.out HW_.out (by kernel_rfl)) (fun _ _ _ h => h) (Or.inl ⟨by rfl, ?_⟩) hHeld ?_ ?_
  rotate_left
  · intro w' s0
    obtain ⟨⟨s1, s2⟩, ⟨s3, s4⟩, ⟨s5, s6⟩, s7, s8⟩ := s0
    go_simp
    with_reducible rfl
  rotate_left
  · simp only [Act.put, List.setIfInBounds_toArray, List.set_cons_zero, List.set_cons_succ, i64_w, i32_w]
    rfl
  refine one_ (i := 10) (N := some 39) #[t_, t_, t_, t_, t_, t_, t_, t_, t_, t_, t_, t_, f_, f_, f_, f_, f_, f_, f_, f_, f_, f_, f_, f_, f_, f_, f_, f_, f_, f_, f_, f_, f_, f_, f_, f_, f_, f_, f_, f_, f_, f_, f_, f_, f_, f_, f_] rfl rfl (one_of HT_.out (by kernel_rfl)) (by decide) (fun K hK => ?_)
  refine goes_ Tryd.func6 (by kernel_rfl) rfl #[.agg #[.int .i64 n, .int .i64 d]] (by rfl) rfl rfl (by (try simp only [List.map_toArray, List.map_cons, List.map_nil]); first | done | rfl | (simp only [List.length_drop, List.length_take]; rfl)) ?_
  refine (pright_c n d HI.out.1 HI.out.2.1 _).mono ?_
  rintro e Wb ⟨rfl, hb⟩
  have H7b := Aside0.mk (blk_below H7a.out hb)
  have H9b := Aside0.mk (blk_below H9a.out hb)
  have H11b := Aside0.mk (blk_below H11a.out hb)
  have H5b := Aside0.mk (blk_below H5a.out hb)
  have HBb := Aside0.mk (below_step HBa.out hb)
  have HS_ := show (_ ∧ _) ∧ (_ ∧ _) ∧ (_ ∧ _) ∧ _ ∧ _ from ⟨cl2 H7b.out, cl2 H9b.out, cl2 H11b.out, cl2 H5b.out⟩
  clear hb H7a H9a H11a H5a HBa
  refine ⟨_, rfl, ?_⟩
  refine hK.out _ _ HS_ (fun hHeld => ?_)
  clear hK K
  refine norm_ (a' := ?_) ?_ ?_
  rotate_left
  · show Act.put _ (some 39) _ = _
    simp only [Act.put, List.setIfInBounds_toArray, List.set_cons_zero, List.set_cons_succ, i64_w, i32_w]
    rfl
  refine one_ (i := 12) (N := some 41) #[t_, t_, t_, t_, t_, t_, t_, t_, t_, t_, t_, t_, t_, f_, f_, f_, f_, f_, f_, f_, f_, f_, f_, f_, f_, f_, f_, f_, f_, f_, f_, f_, f_, f_, f_, f_, f_, f_, f_, f_, f_, f_, f_, f_, f_, f_, f_] rfl rfl (one_of HT_.out (by kernel_rfl)) (by decide) (fun K hK => ?_)
  refine goes_ Tryd.func10 (by kernel_rfl) rfl #[.agg #[.int .i64 n, .int .i64 d]] (by rfl) rfl rfl (by (try simp only [List.map_toArray, List.map_cons, List.map_nil]); first | done | rfl | (simp only [List.length_drop, List.length_take]; rfl)) ?_
  refine (right_c n d HI.out.1 HI.out.2.1 _).mono ?_
  rintro e Wc ⟨rfl, hb⟩
  have H7c := Aside0.mk (blk_below H7b.out hb)
  have H9c := Aside0.mk (blk_below H9b.out hb)
  have H11c := Aside0.mk (blk_below H11b.out hb)
  have H5c := Aside0.mk (blk_below H5b.out hb)
  have HBc := Aside0.mk (below_step HBb.out hb)
  have HS_ := show (_ ∧ _) ∧ (_ ∧ _) ∧ (_ ∧ _) ∧ _ ∧ _ from ⟨cl2 H7c.out, cl2 H9c.out, cl2 H11c.out, cl2 H5c.out⟩
  clear hb H7b H9b H11b H5b HBb
  refine ⟨_, rfl, ?_⟩
  refine hK.out _ _ HS_ (fun hHeld => ?_)
  clear hK K
  refine norm_ (a' := ?_) ?_ ?_
  rotate_left
  · show Act.put _ (some 41) _ = _
    simp only [Act.put, List.setIfInBounds_toArray, List.set_cons_zero, List.set_cons_succ, i64_w, i32_w]
    rfl
  refine pure_ (i := 13) (N := some 42) (v := ?_) (a' := ?_) #[t_, t_, t_, t_, t_, t_, t_, t_, t_, t_, t_, t_, t_, t_, f_, f_, f_, f_, f_, f_, f_, f_, f_, f_, f_, f_, f_, f_, f_, f_, f_, f_, f_, f_, f_, f_, f_, f_, f_, f_, f_, f_, f_, f_, f_, f_, f_] rfl rfl (any_of HT_.out (by kernel_rfl)) (fun _ _ _ h => h) (Or.inl ⟨by rfl, ?_⟩) ?_ ?_
  rotate_left
  · intro w'
    go_simp
    with_reducible rfl
  rotate_left
  · simp only [Act.put, List.setIfInBounds_toArray, List.set_cons_zero, List.set_cons_succ, i64_w, i32_w]
    rfl
  refine pure_ (i := 14) (N := some 43) (v := ?_) (a' := ?_) #[t_, t_, t_, t_, t_, t_, t_, t_, t_, t_, t_, t_, t_, t_, t_, f_, f_, f_, f_, f_, f_, f_, f_, f_, f_, f_, f_, f_, f_, f_, f_, f_, f_, f_, f_, f_, f_, f_, f_, f_, f_, f_, f_, f_, f_, f_, f_] rfl rfl (any_of HT_.out (by kernel_rfl)) (fun _ _ _ h => h) (Or.inl ⟨by rfl, ?_⟩) ?_ ?_
  rotate_left
  · intro w'
    go_simp
    with_reducible rfl
  rotate_left
  · simp only [Act.put, List.setIfInBounds_toArray, List.set_cons_zero, List.set_cons_succ, i64_w, i32_w]
    rfl
  refine pure_ (i := 15) (N := some 44) (v := ?_) (a' := ?_) #[t_, t_, t_, t_, t_, t_, t_, t_, t_, t_, t_, t_, t_, t_, t_, t_, f_, f_, f_, f_, f_, f_, f_, f_, f_, f_, f_, f_, f_, f_, f_, f_, f_, f_, f_, f_, f_, f_, f_, f_, f_, f_, f_, f_, f_, f_, f_] rfl rfl (any_of HT_.out (by kernel_rfl)) (fun _ _ _ h => h) (Or.inl ⟨by rfl, ?_⟩) ?_ ?_
  rotate_left
  · intro w'
    go_simp
    with_reducible rfl
  rotate_left
  · simp only [Act.put, List.setIfInBounds_toArray, List.set_cons_zero, List.set_cons_succ, i64_w, i32_w]
    rfl
  refine take_ (i := 16) (N := some 45) (v := ?_) (a' := ?_) #[t_, t_, t_, t_, t_, t_, t_, t_, t_, t_, t_, t_, t_, t_, t_, t_, t_, f_, f_, f_, f_, f_, f_, f_, f_, f_, f_, f_, f_, f_, f_, f_, f_, f_, f_, f_, f_, f_, f_, f_, f_, f_, f_, f_, f_, f_, f_] rfl rfl (take_ofW HT_.out HW_.out (by kernel_rfl)) (fun _ _ _ h => h) (Or.inl ⟨by rfl, ?_⟩) hHeld ?_ ?_
  rotate_left
  · intro w' s0
    obtain ⟨⟨s1, s2⟩, ⟨s3, s4⟩, ⟨s5, s6⟩, s7, s8⟩ := s0
    go_simp
    with_reducible rfl
  rotate_left
  · simp only [Act.put, List.setIfInBounds_toArray, List.set_cons_zero, List.set_cons_succ, i64_w, i32_w]
    rfl
  refine take_ (i := 18) (N := some 47) (v := ?_) (a' := ?_) #[t_, t_, t_, t_, t_, t_, t_, t_, t_, t_, t_, t_, t_, t_, t_, t_, t_, f_, t_, f_, f_, f_, f_, f_, f_, f_, f_, f_, f_, f_, f_, f_, f_, f_, f_, f_, f_, f_, f_, f_, f_, f_, f_, f_, f_, f_, f_] rfl rfl (take_ofW HT_.out HW_.out (by kernel_rfl)) (fun _ _ _ h => h) (Or.inl ⟨by rfl, ?_⟩) hHeld ?_ ?_
  rotate_left
  · intro w' s0
    obtain ⟨⟨s1, s2⟩, ⟨s3, s4⟩, ⟨s5, s6⟩, s7, s8⟩ := s0
    go_simp
    with_reducible rfl
  rotate_left
  · simp only [Act.put, List.setIfInBounds_toArray, List.set_cons_zero, List.set_cons_succ, i64_w, i32_w]
    rfl
  refine one_ (i := 17) (N := some 46) #[t_, t_, t_, t_, t_, t_, t_, t_, t_, t_, t_, t_, t_, t_, t_, t_, t_, t_, t_, f_, f_, f_, f_, f_, f_, f_, f_, f_, f_, f_, f_, f_, f_, f_, f_, f_, f_, f_, f_, f_, f_, f_, f_, f_, f_, f_, f_] rfl rfl (one_of HT_.out (by kernel_rfl)) (by decide) (fun K hK => ?_)
  refine goes_ Tryd.func6 (by kernel_rfl) rfl #[.agg #[.int .i64 x, .int .i64 y]] (by rfl) rfl rfl (by (try simp only [List.map_toArray, List.map_cons, List.map_nil]); first | done | rfl | (simp only [List.length_drop, List.length_take]; rfl)) ?_
  refine (pright_c x y HI.out.2.2.1 HI.out.2.2.2 _).mono ?_
  rintro e Wd ⟨rfl, hb⟩
  have H7d := Aside0.mk (blk_below H7c.out hb)
  have H9d := Aside0.mk (blk_below H9c.out hb)
  have H11d := Aside0.mk (blk_below H11c.out hb)
  have H5d := Aside0.mk (blk_below H5c.out hb)
  have HBd := Aside0.mk (below_step HBc.out hb)
  have HS_ := show (_ ∧ _) ∧ (_ ∧ _) ∧ (_ ∧ _) ∧ _ ∧ _ from ⟨cl2 H7d.out, cl2 H9d.out, cl2 H11d.out, cl2 H5d.out⟩
  clear hb H7c H9c H11c H5c HBc
  refine ⟨_, rfl, ?_⟩
  refine hK.out _ _ HS_ (fun hHeld => ?_)
  clear hK K
  refine norm_ (a' := ?_) ?_ ?_
  rotate_left
  · show Act.put _ (some 46) _ = _
    simp only [Act.put, List.setIfInBounds_toArray, List.set_cons_zero, List.set_cons_succ, i64_w, i32_w]
    rfl
  refine one_ (i := 19) (N := some 48) #[t_, t_, t_, t_, t_, t_, t_, t_, t_, t_, t_, t_, t_, t_, t_, t_, t_, t_, t_, t_, f_, f_, f_, f_, f_, f_, f_, f_, f_, f_, f_, f_, f_, f_, f_, f_, f_, f_, f_, f_, f_, f_, f_, f_, f_, f_, f_] rfl rfl (one_of HT_.out (by kernel_rfl)) (by decide) (fun K hK => ?_)
  refine goes_ Tryd.func10 (by kernel_rfl) rfl #[.agg #[.int .i64 x, .int .i64 y]] (by rfl) rfl rfl (by (try simp only [List.map_toArray, List.map_cons, List.map_nil]); first | done | rfl | (simp only [List.length_drop, List.length_take]; rfl)) ?_
  refine (right_c x y HI.out.2.2.1 HI.out.2.2.2 _).mono ?_
  rintro e We ⟨rfl, hb⟩
  have H7e := Aside0.mk (blk_below H7d.out hb)
  have H9e := Aside0.mk (blk_below H9d.out hb)
  have H11e := Aside0.mk (blk_below H11d.out hb)
  have H5e := Aside0.mk (blk_below H5d.out hb)
  have HBe := Aside0.mk (below_step HBd.out hb)
  have HS_ := show (_ ∧ _) ∧ (_ ∧ _) ∧ (_ ∧ _) ∧ _ ∧ _ from ⟨cl2 H7e.out, cl2 H9e.out, cl2 H11e.out, cl2 H5e.out⟩
  clear hb H7d H9d H11d H5d HBd
  refine ⟨_, rfl, ?_⟩
  refine hK.out _ _ HS_ (fun hHeld => ?_)
  clear hK K
  refine norm_ (a' := ?_) ?_ ?_
  rotate_left
  · show Act.put _ (some 48) _ = _
    simp only [Act.put, List.setIfInBounds_toArray, List.set_cons_zero, List.set_cons_succ, i64_w, i32_w]
    rfl
  refine pure_ (i := 20) (N := some 49) (v := ?_) (a' := ?_) #[t_, t_, t_, t_, t_, t_, t_, t_, t_, t_, t_, t_, t_, t_, t_, t_, t_, t_, t_, t_, t_, f_, f_, f_, f_, f_, f_, f_, f_, f_, f_, f_, f_, f_, f_, f_, f_, f_, f_, f_, f_, f_, f_, f_, f_, f_, f_] rfl rfl (any_of HT_.out (by kernel_rfl)) (fun _ _ _ h => h) (Or.inl ⟨by rfl, ?_⟩) ?_ ?_
  rotate_left
  · intro w'
    go_simp
    with_reducible rfl
  rotate_left
  · simp only [Act.put, List.setIfInBounds_toArray, List.set_cons_zero, List.set_cons_succ, i64_w, i32_w]
    rfl
  refine pure_ (i := 21) (N := some 50) (v := ?_) (a' := ?_) #[t_, t_, t_, t_, t_, t_, t_, t_, t_, t_, t_, t_, t_, t_, t_, t_, t_, t_, t_, t_, t_, t_, f_, f_, f_, f_, f_, f_, f_, f_, f_, f_, f_, f_, f_, f_, f_, f_, f_, f_, f_, f_, f_, f_, f_, f_, f_] rfl rfl (any_of HT_.out (by kernel_rfl)) (fun _ _ _ h => h) (Or.inl ⟨by rfl, ?_⟩) ?_ ?_
  rotate_left
  · intro w'
    go_simp
    with_reducible rfl
  rotate_left
  · simp only [Act.put, List.setIfInBounds_toArray, List.set_cons_zero, List.set_cons_succ, i64_w, i32_w]
    rfl
  refine pure_ (i := 22) (N := some 51) (v := ?_) (a' := ?_) #[t_, t_, t_, t_, t_, t_, t_, t_, t_, t_, t_, t_, t_, t_, t_, t_, t_, t_, t_, t_, t_, t_, t_, f_, f_, f_, f_, f_, f_, f_, f_, f_, f_, f_, f_, f_, f_, f_, f_, f_, f_, f_, f_, f_, f_, f_, f_] rfl rfl (any_of HT_.out (by kernel_rfl)) (fun _ _ _ h => h) (Or.inl ⟨by rfl, ?_⟩) ?_ ?_
  rotate_left
  · intro w'
    go_simp
    with_reducible rfl
  rotate_left
  · simp only [Act.put, List.setIfInBounds_toArray, List.set_cons_zero, List.set_cons_succ, i64_w, i32_w]
    rfl
  refine take_ (i := 23) (N := some 52) (v := ?_) (a' := ?_) #[t_, t_, t_, t_, t_, t_, t_, t_, t_, t_, t_, t_, t_, t_, t_, t_, t_, t_, t_, t_, t_, t_, t_, t_, f_, f_, f_, f_, f_, f_, f_, f_, f_, f_, f_, f_, f_, f_, f_, f_, f_, f_, f_, f_, f_, f_, f_] rfl rfl (take_ofW HT_.out HW_.out (by kernel_rfl)) (fun _ _ _ h => h) (Or.inl ⟨by rfl, ?_⟩) hHeld ?_ ?_
  rotate_left
  · intro w' s0
    obtain ⟨⟨s1, s2⟩, ⟨s3, s4⟩, ⟨s5, s6⟩, s7, s8⟩ := s0
    go_simp
    with_reducible rfl
  rotate_left
  · simp only [Act.put, List.setIfInBounds_toArray, List.set_cons_zero, List.set_cons_succ, i64_w, i32_w]
    rfl
  refine take_ (i := 24) (N := some 53) (v := ?_) (a' := ?_) #[t_, t_, t_, t_, t_, t_, t_, t_, t_, t_, t_, t_, t_, t_, t_, t_, t_, t_, t_, t_, t_, t_, t_, t_, t_, f_, f_, f_, f_, f_, f_, f_, f_, f_, f_, f_, f_, f_, f_, f_, f_, f_, f_, f_, f_, f_, f_] rfl rfl (take_ofW HT_.out HW_.out (by kernel_rfl)) (fun _ _ _ h => h) (Or.inl ⟨by rfl, ?_⟩) hHeld ?_ ?_
  rotate_left
  · intro w' s0
    obtain ⟨⟨s1, s2⟩, ⟨s3, s4⟩, ⟨s5, s6⟩, s7, s8⟩ := s0
    go_simp
    with_reducible rfl
  rotate_left
  · simp only [Act.put, List.setIfInBounds_toArray, List.set_cons_zero, List.set_cons_succ, i64_w, i32_w]
    rfl
  refine take_ (i := 26) (N := some 55) (v := ?_) (a' := ?_) #[t_, t_, t_, t_, t_, t_, t_, t_, t_, t_, t_, t_, t_, t_, t_, t_, t_, t_, t_, t_, t_, t_, t_, t_, t_, f_, t_, f_, f_, f_, f_, f_, f_, f_, f_, f_, f_, f_, f_, f_, f_, f_, f_, f_, f_, f_, f_] rfl rfl (take_ofW HT_.out HW_.out (by kernel_rfl)) (fun _ _ _ h => h) (Or.inl ⟨by rfl, ?_⟩) hHeld ?_ ?_
  rotate_left
  · intro w' s0
    obtain ⟨⟨s1, s2⟩, ⟨s3, s4⟩, ⟨s5, s6⟩, s7, s8⟩ := s0
    go_simp
    with_reducible rfl
  rotate_left
  · simp only [Act.put, List.setIfInBounds_toArray, List.set_cons_zero, List.set_cons_succ, i64_w, i32_w]
    rfl
  refine take_ (i := 27) (N := some 56) (v := ?_) (a' := ?_) #[t_, t_, t_, t_, t_, t_, t_, t_, t_, t_, t_, t_, t_, t_, t_, t_, t_, t_, t_, t_, t_, t_, t_, t_, t_, f_, t_, t_, f_, f_, f_, f_, f_, f_, f_, f_, f_, f_, f_, f_, f_, f_, f_, f_, f_, f_, f_] rfl rfl (take_ofW HT_.out HW_.out (by kernel_rfl)) (fun _ _ _ h => h) (Or.inl ⟨by rfl, ?_⟩) hHeld ?_ ?_
  rotate_left
  · intro w' s0
    obtain ⟨⟨s1, s2⟩, ⟨s3, s4⟩, ⟨s5, s6⟩, s7, s8⟩ := s0
    go_simp
    with_reducible rfl
  rotate_left
  · simp only [Act.put, List.setIfInBounds_toArray, List.set_cons_zero, List.set_cons_succ, i64_w, i32_w]
    rfl
  refine one_ (i := 25) (N := some 54) #[t_, t_, t_, t_, t_, t_, t_, t_, t_, t_, t_, t_, t_, t_, t_, t_, t_, t_, t_, t_, t_, t_, t_, t_, t_, t_, t_, t_, f_, f_, f_, f_, f_, f_, f_, f_, f_, f_, f_, f_, f_, f_, f_, f_, f_, f_, f_] rfl rfl (one_of HT_.out (by kernel_rfl)) (by decide) (fun K hK => ?_)
  refine goes_ Tryd.func11 (by kernel_rfl) rfl #[.agg #[.int .i64 n, .int .i64 d], .agg #[.int .i64 x, .int .i64 y]] (by rfl) rfl rfl (by (try simp only [List.map_toArray, List.map_cons, List.map_nil]); first | done | rfl | (simp only [List.length_drop, List.length_take]; rfl)) ?_
  refine (pcmp_c n d x y HI.out _).mono ?_
  rintro e Wf ⟨rfl, hb⟩
  have H7f := Aside0.mk (blk_below H7e.out hb)
  have H9f := Aside0.mk (blk_below H9e.out hb)
  have H11f := Aside0.mk (blk_below H11e.out hb)
  have H5f := Aside0.mk (blk_below H5e.out hb)
  have HBf := Aside0.mk (below_step HBe.out hb)
  have HS_ := show (_ ∧ _) ∧ (_ ∧ _) ∧ (_ ∧ _) ∧ _ ∧ _ from ⟨cl2 H7f.out, cl2 H9f.out, cl2 H11f.out, cl2 H5f.out⟩
  clear hb H7e H9e H11e H5e HBe
  refine ⟨_, rfl, ?_⟩
  refine hK.out _ _ HS_ (fun hHeld => ?_)
  clear hK K
  refine norm_ (a' := ?_) ?_ ?_
  rotate_left
  · show Act.put _ (some 54) _ = _
    simp only [Act.put, List.setIfInBounds_toArray, List.set_cons_zero, List.set_cons_succ, i64_w, i32_w]
    rfl
  refine one_ (i := 28) (N := some 57) #[t_, t_, t_, t_, t_, t_, t_, t_, t_, t_, t_, t_, t_, t_, t_, t_, t_, t_, t_, t_, t_, t_, t_, t_, t_, t_, t_, t_, t_, f_, f_, f_, f_, f_, f_, f_, f_, f_, f_, f_, f_, f_, f_, f_, f_, f_, f_] rfl rfl (one_of HT_.out (by kernel_rfl)) (by decide) (fun K hK => ?_)
  refine goes_ Tryd.func12 (by kernel_rfl) rfl #[.agg #[.int .i64 n, .int .i64 d], .agg #[.int .i64 x, .int .i64 y]] (by rfl) rfl rfl (by (try simp only [List.map_toArray, List.map_cons, List.map_nil]); first | done | rfl | (simp only [List.length_drop, List.length_take]; rfl)) ?_
  refine (rcmp_c n d x y HI.out _).mono ?_
  rintro e Wg ⟨rfl, hb⟩
  have H7g := Aside0.mk (blk_below H7f.out hb)
  have H9g := Aside0.mk (blk_below H9f.out hb)
  have H11g := Aside0.mk (blk_below H11f.out hb)
  have H5g := Aside0.mk (blk_below H5f.out hb)
  have HBg := Aside0.mk (below_step HBf.out hb)
  have HS_ := show (_ ∧ _) ∧ (_ ∧ _) ∧ (_ ∧ _) ∧ _ ∧ _ from ⟨cl2 H7g.out, cl2 H9g.out, cl2 H11g.out, cl2 H5g.out⟩
  clear hb H7f H9f H11f H5f HBf
  refine ⟨_, rfl, ?_⟩
  refine hK.out _ _ HS_ (fun hHeld => ?_)
  clear hK K
  refine norm_ (a' := ?_) ?_ ?_
  rotate_left
  · show Act.put _ (some 57) _ = _
    simp only [Act.put, List.setIfInBounds_toArray, List.set_cons_zero, List.set_cons_succ, i64_w, i32_w]
    rfl
  refine pure_ (i := 29) (N := some 58) (v := ?_) (a' := ?_) #[t_, t_, t_, t_, t_, t_, t_, t_, t_, t_, t_, t_, t_, t_, t_, t_, t_, t_, t_, t_, t_, t_, t_, t_, t_, t_, t_, t_, t_, t_, f_, f_, f_, f_, f_, f_, f_, f_, f_, f_, f_, f_, f_, f_, f_, f_, f_] rfl rfl (any_of HT_.out (by kernel_rfl)) (fun _ _ _ h => h) (Or.inl ⟨by rfl, ?_⟩) ?_ ?_
  rotate_left
  · intro w'
    go_simp
    with_reducible rfl
  rotate_left
  · simp only [Act.put, List.setIfInBounds_toArray, List.set_cons_zero, List.set_cons_succ, i64_w, i32_w]
    rfl
  refine pure_ (i := 30) (N := some 59) (v := ?_) (a' := ?_) #[t_, t_, t_, t_, t_, t_, t_, t_, t_, t_, t_, t_, t_, t_, t_, t_, t_, t_, t_, t_, t_, t_, t_, t_, t_, t_, t_, t_, t_, t_, t_, f_, f_, f_, f_, f_, f_, f_, f_, f_, f_, f_, f_, f_, f_, f_, f_] rfl rfl (any_of HT_.out (by kernel_rfl)) (fun _ _ _ h => h) (Or.inl ⟨by rfl, ?_⟩) ?_ ?_
  rotate_left
  · intro w'
    go_simp
    with_reducible rfl
  rotate_left
  · simp only [Act.put, List.setIfInBounds_toArray, List.set_cons_zero, List.set_cons_succ, i64_w, i32_w]
    rfl
  refine pure_ (i := 31) (N := some 60) (v := ?_) (a' := ?_) #[t_, t_, t_, t_, t_, t_, t_, t_, t_, t_, t_, t_, t_, t_, t_, t_, t_, t_, t_, t_, t_, t_, t_, t_, t_, t_, t_, t_, t_, t_, t_, t_, f_, f_, f_, f_, f_, f_, f_, f_, f_, f_, f_, f_, f_, f_, f_] rfl rfl (any_of HT_.out (by kernel_rfl)) (fun _ _ _ h => h) (Or.inl ⟨by rfl, ?_⟩) ?_ ?_
  rotate_left
  · intro w'
    go_simp
    with_reducible rfl
  rotate_left
  · simp only [Act.put, List.setIfInBounds_toArray, List.set_cons_zero, List.set_cons_succ, i64_w, i32_w]
    rfl
  refine take_ (i := 32) (N := some 61) (v := ?_) (a' := ?_) #[t_, t_, t_, t_, t_, t_, t_, t_, t_, t_, t_, t_, t_, t_, t_, t_, t_, t_, t_, t_, t_, t_, t_, t_, t_, t_, t_, t_, t_, t_, t_, t_, t_, f_, f_, f_, f_, f_, f_, f_, f_, f_, f_, f_, f_, f_, f_] rfl rfl (take_ofW HT_.out HW_.out (by kernel_rfl)) (fun _ _ _ h => h) (Or.inl ⟨by rfl, ?_⟩) hHeld ?_ ?_
  rotate_left
  · intro w' s0
    obtain ⟨⟨s1, s2⟩, ⟨s3, s4⟩, ⟨s5, s6⟩, s7, s8⟩ := s0
    go_simp
    with_reducible rfl
  rotate_left
  · simp only [Act.put, List.setIfInBounds_toArray, List.set_cons_zero, List.set_cons_succ, i64_w, i32_w]
    rfl
  refine take_ (i := 34) (N := some 63) (v := ?_) (a' := ?_) #[t_, t_, t_, t_, t_, t_, t_, t_, t_, t_, t_, t_, t_, t_, t_, t_, t_, t_, t_, t_, t_, t_, t_, t_, t_, t_, t_, t_, t_, t_, t_, t_, t_, f_, t_, f_, f_, f_, f_, f_, f_, f_, f_, f_, f_, f_, f_] rfl rfl (take_ofW HT_.out HW_.out (by kernel_rfl)) (fun _ _ _ h => h) (Or.inl ⟨by rfl, ?_⟩) hHeld ?_ ?_
  rotate_left
  · intro w' s0
    obtain ⟨⟨s1, s2⟩, ⟨s3, s4⟩, ⟨s5, s6⟩, s7, s8⟩ := s0
    go_simp
    with_reducible rfl
  rotate_left
  · simp only [Act.put, List.setIfInBounds_toArray, List.set_cons_zero, List.set_cons_succ, i64_w, i32_w]
    rfl
  refine one_ (i := 33) (N := some 62) #[t_, t_, t_, t_, t_, t_, t_, t_, t_, t_, t_, t_, t_, t_, t_, t_, t_, t_, t_, t_, t_, t_, t_, t_, t_, t_, t_, t_, t_, t_, t_, t_, t_, t_, t_, f_, f_, f_, f_, f_, f_, f_, f_, f_, f_, f_, f_] rfl rfl (one_of HT_.out (by kernel_rfl)) (by decide) (fun K hK => ?_)
  refine goes_ Tryd.func7 (by kernel_rfl) rfl #[.agg #[.int .i64 n, .int .i64 d]] (by rfl) rfl rfl (by (try simp only [List.map_toArray, List.map_cons, List.map_nil]); first | done | rfl | (simp only [List.length_drop, List.length_take]; rfl)) ?_
  refine (show_any n d HI.out.1 HI.out.2.1 _ (HT.out.on HBg.out)).mono ?_
  rintro e Wh ⟨rfl, hb⟩
  have H7h := Aside0.mk (blk_below H7g.out hb)
  have H9h := Aside0.mk (blk_below H9g.out hb)
  have H11h := Aside0.mk (blk_below H11g.out hb)
  have H5h := Aside0.mk (blk_below H5g.out hb)
  have HBh := Aside0.mk (below_step HBg.out hb)
  have HS_ := show (_ ∧ _) ∧ (_ ∧ _) ∧ (_ ∧ _) ∧ _ ∧ _ from ⟨cl2 H7h.out, cl2 H9h.out, cl2 H11h.out, cl2 H5h.out⟩
  clear hb H7g H9g H11g H5g HBg
  refine ⟨_, rfl, ?_⟩
  refine hK.out _ _ HS_ (fun hHeld => ?_)
  clear hK K
  refine norm_ (a' := ?_) ?_ ?_
  rotate_left
  · show Act.put _ (some 62) _ = _
    simp only [Act.put, List.setIfInBounds_toArray, List.set_cons_zero, List.set_cons_succ, i64_w, i32_w]
    rfl
  refine one_ (i := 35) (N := some 64) #[t_, t_, t_, t_, t_, t_, t_, t_, t_, t_, t_, t_, t_, t_, t_, t_, t_, t_, t_, t_, t_, t_, t_, t_, t_, t_, t_, t_, t_, t_, t_, t_, t_, t_, t_, t_, f_, f_, f_, f_, f_, f_, f_, f_, f_, f_, f_] rfl rfl (one_of HT_.out (by kernel_rfl)) (by decide) (fun K hK => ?_)
  refine goes_ Tryd.func13 (by kernel_rfl) rfl #[.agg #[.int .i64 n, .int .i64 d]] (by rfl) rfl rfl (by (try simp only [List.map_toArray, List.map_cons, List.map_nil]); first | done | rfl | (simp only [List.length_drop, List.length_take]; rfl)) ?_
  refine (rshow_any n d HI.out.1 HI.out.2.1 _).mono ?_
  rintro e Wi ⟨rfl, hb⟩
  have H7i := Aside0.mk (blk_below H7h.out hb)
  have H9i := Aside0.mk (blk_below H9h.out hb)
  have H11i := Aside0.mk (blk_below H11h.out hb)
  have H5i := Aside0.mk (blk_below H5h.out hb)
  have HBi := Aside0.mk (below_step HBh.out hb)
  have HS_ := show (_ ∧ _) ∧ (_ ∧ _) ∧ (_ ∧ _) ∧ _ ∧ _ from ⟨cl2 H7i.out, cl2 H9i.out, cl2 H11i.out, cl2 H5i.out⟩
  clear hb H7h H9h H11h H5h HBh
  refine ⟨_, rfl, ?_⟩
  refine hK.out _ _ HS_ (fun hHeld => ?_)
  clear hK K
  refine norm_ (a' := ?_) ?_ ?_
  rotate_left
  · show Act.put _ (some 64) _ = _
    simp only [Act.put, List.setIfInBounds_toArray, List.set_cons_zero, List.set_cons_succ, i64_w, i32_w]
    rfl
  refine pure_ (i := 36) (N := some 65) (v := ?_) (a' := ?_) #[t_, t_, t_, t_, t_, t_, t_, t_, t_, t_, t_, t_, t_, t_, t_, t_, t_, t_, t_, t_, t_, t_, t_, t_, t_, t_, t_, t_, t_, t_, t_, t_, t_, t_, t_, t_, t_, f_, f_, f_, f_, f_, f_, f_, f_, f_, f_] rfl rfl (any_of HT_.out (by kernel_rfl)) (fun _ _ _ h => h) (Or.inl ⟨by rfl, ?_⟩) ?_ ?_
  rotate_left
  · intro w'
    go_simp
    with_reducible rfl
  rotate_left
  · simp only [Act.put, List.setIfInBounds_toArray, List.set_cons_zero, List.set_cons_succ, i64_w, i32_w]
    rfl
  refine pure_ (i := 37) (N := some 66) (v := ?_) (a' := ?_) #[t_, t_, t_, t_, t_, t_, t_, t_, t_, t_, t_, t_, t_, t_, t_, t_, t_, t_, t_, t_, t_, t_, t_, t_, t_, t_, t_, t_, t_, t_, t_, t_, t_, t_, t_, t_, t_, t_, f_, f_, f_, f_, f_, f_, f_, f_, f_] rfl rfl (any_of HT_.out (by kernel_rfl)) (fun _ _ _ h => h) (Or.inl ⟨by rfl, ?_⟩) ?_ ?_
  rotate_left
  · intro w'
    go_simp
    with_reducible rfl
  rotate_left
  · simp only [Act.put, List.setIfInBounds_toArray, List.set_cons_zero, List.set_cons_succ, i64_w, i32_w]
    rfl
  refine pure_ (i := 38) (N := some 67) (v := ?_) (a' := ?_) #[t_, t_, t_, t_, t_, t_, t_, t_, t_, t_, t_, t_, t_, t_, t_, t_, t_, t_, t_, t_, t_, t_, t_, t_, t_, t_, t_, t_, t_, t_, t_, t_, t_, t_, t_, t_, t_, t_, t_, f_, f_, f_, f_, f_, f_, f_, f_] rfl rfl (any_of HT_.out (by kernel_rfl)) (fun _ _ _ h => h) (Or.inl ⟨by rfl, ?_⟩) ?_ ?_
  rotate_left
  · intro w'
    go_simp
    with_reducible rfl
  rotate_left
  · simp only [Act.put, List.setIfInBounds_toArray, List.set_cons_zero, List.set_cons_succ, i64_w, i32_w]
    rfl
  refine pure_ (i := 39) (N := some 68) (v := ?_) (a' := ?_) #[t_, t_, t_, t_, t_, t_, t_, t_, t_, t_, t_, t_, t_, t_, t_, t_, t_, t_, t_, t_, t_, t_, t_, t_, t_, t_, t_, t_, t_, t_, t_, t_, t_, t_, t_, t_, t_, t_, t_, t_, f_, f_, f_, f_, f_, f_, f_] rfl rfl (any_of HT_.out (by kernel_rfl)) (fun _ _ _ h => h) (Or.inl ⟨by rfl, ?_⟩) ?_ ?_
  rotate_left
  · intro w'
    go_simp
    with_reducible rfl
  rotate_left
  · simp only [Act.put, List.setIfInBounds_toArray, List.set_cons_zero, List.set_cons_succ, i64_w, i32_w]
    rfl
  by_cases h3 : r3 = 0
  · have HX := Aside0.mk (HR3.out h3)
    have h30 : (r3 != 0) = false := by simp [h3]
    clear h3 HR3
    refine pure_ (i := 40) (N := some 69) (v := ?_) (a' := ?_) #[t_, t_, t_, t_, t_, t_, t_, t_, t_, t_, t_, t_, t_, t_, t_, t_, t_, t_, t_, t_, t_, t_, t_, t_, t_, t_, t_, t_, t_, t_, t_, t_, t_, t_, t_, t_, t_, t_, t_, t_, t_, f_, f_, f_, f_, f_, f_] rfl rfl (any_of HT_.out (by kernel_rfl)) (fun _ _ _ h => h) (Or.inl ⟨by rfl, ?_⟩) ?_ ?_
    rotate_left
    · intro w'
      go_simp
      with_reducible rfl
    rotate_left
    · simp only [Act.put, List.setIfInBounds_toArray, List.set_cons_zero, List.set_cons_succ, i64_w, i32_w]
      rfl
    refine pure_ (i := 41) (N := some 70) (v := ?_) (a' := ?_) #[t_, t_, t_, t_, t_, t_, t_, t_, t_, t_, t_, t_, t_, t_, t_, t_, t_, t_, t_, t_, t_, t_, t_, t_, t_, t_, t_, t_, t_, t_, t_, t_, t_, t_, t_, t_, t_, t_, t_, t_, t_, t_, f_, f_, f_, f_, f_] rfl rfl (any_of HT_.out (by kernel_rfl)) (fun _ _ _ h => h) (Or.inl ⟨by rfl, ?_⟩) ?_ ?_
    rotate_left
    · intro w'
      go_simp
      with_reducible rfl
    rotate_left
    · simp only [Act.put, List.setIfInBounds_toArray, List.set_cons_zero, List.set_cons_succ, i64_w, i32_w]
      rfl
    refine take_ (i := 42) (N := some 71) (v := ?_) (a' := ?_) #[t_, t_, t_, t_, t_, t_, t_, t_, t_, t_, t_, t_, t_, t_, t_, t_, t_, t_, t_, t_, t_, t_, t_, t_, t_, t_, t_, t_, t_, t_, t_, t_, t_, t_, t_, t_, t_, t_, t_, t_, t_, t_, t_, f_, f_, f_, f_] rfl rfl (take_ofW HT_.out HW_.out (by kernel_rfl)) (fun _ _ _ h => h) (Or.inl ⟨by rfl, ?_⟩) hHeld ?_ ?_
    rotate_left
    · intro w' s0
      obtain ⟨⟨s1, s2⟩, ⟨s3, s4⟩, ⟨s5, s6⟩, s7, s8⟩ := s0
      go_simp
      with_reducible rfl
    rotate_left
    · simp only [Act.put, List.setIfInBounds_toArray, List.set_cons_zero, List.set_cons_succ, i64_w, i32_w]
      rfl
    refine one_ (i := 43) (N := some 72) #[t_, t_, t_, t_, t_, t_, t_, t_, t_, t_, t_, t_, t_, t_, t_, t_, t_, t_, t_, t_, t_, t_, t_, t_, t_, t_, t_, t_, t_, t_, t_, t_, t_, t_, t_, t_, t_, t_, t_, t_, t_, t_, t_, t_, f_, f_, f_] rfl rfl (one_of HT_.out (by kernel_rfl)) (by decide) (fun K hK => ?_)
    refine goes_ Tryd.func6 (by kernel_rfl) rfl #[.agg #[.int .i64 r1, .int .i64 r2]] (by rfl) rfl rfl (by (try simp only [List.map_toArray, List.map_cons, List.map_nil]); first | done | rfl | (simp only [List.length_drop, List.length_take]; rfl)) ?_
    refine (pright_c r1 r2 HX.out.2.1 HX.out.2.2 _).mono ?_
    rw [decide_eq_true HX.out.1]
    rintro e Wj ⟨rfl, hb⟩
    have H7j := Aside0.mk (blk_below H7i.out hb)
    have H9j := Aside0.mk (blk_below H9i.out hb)
    have H11j := Aside0.mk (blk_below H11i.out hb)
    have H5j := Aside0.mk (blk_below H5i.out hb)
    have HBj := Aside0.mk (below_step HBi.out hb)
    have HS_ := show (_ ∧ _) ∧ (_ ∧ _) ∧ (_ ∧ _) ∧ _ ∧ _ from ⟨cl2 H7j.out, cl2 H9j.out, cl2 H11j.out, cl2 H5j.out⟩
    clear hb H7i H9i H11i H5i HBi
    refine ⟨_, rfl, ?_⟩
    refine hK.out _ _ HS_ (fun hHeld => ?_)
    clear hK K
    refine norm_ (a' := ?_) ?_ ?_
    rotate_left
    · show Act.put _ (some 72) _ = _
      simp only [Act.put, List.setIfInBounds_toArray, List.set_cons_zero, List.set_cons_succ, i64_w, i32_w]
      rfl
    refine pure_ (i := 44) (N := some 73) (v := ?_) (a' := ?_) #[t_, t_, t_, t_, t_, t_, t_, t_, t_, t_, t_, t_, t_, t_, t_, t_, t_, t_, t_, t_, t_, t_, t_, t_, t_, t_, t_, t_, t_, t_, t_, t_, t_, t_, t_, t_, t_, t_, t_, t_, t_, t_, t_, t_, t_, f_, f_] rfl rfl (any_of HT_.out (by kernel_rfl)) (fun _ _ _ h => h) (Or.inl ⟨by rfl, ?_⟩) ?_ ?_
    rotate_left
    · intro w'
      go_simp
      with_reducible rfl
    rotate_left
    · simp only [Act.put, List.setIfInBounds_toArray, List.set_cons_zero, List.set_cons_succ, i64_w, i32_w]
      rfl
    refine pure_ (i := 45) (N := some 74) (v := ?_) (a' := ?_) #[t_, t_, t_, t_, t_, t_, t_, t_, t_, t_, t_, t_, t_, t_, t_, t_, t_, t_, t_, t_, t_, t_, t_, t_, t_, t_, t_, t_, t_, t_, t_, t_, t_, t_, t_, t_, t_, t_, t_, t_, t_, t_, t_, t_, t_, t_, f_] rfl rfl (any_of HT_.out (by kernel_rfl)) (fun _ _ _ h => h) (Or.inl ⟨by rfl, ?_⟩) ?_ ?_
    rotate_left
    · intro w'
      go_simp
      with_reducible rfl
    rotate_left
    · simp only [Act.put, List.setIfInBounds_toArray, List.set_cons_zero, List.set_cons_succ, i64_w, i32_w]
      rfl
    refine pure_ (i := 46) (N := some 6) (v := ?_) (a' := ?_) #[t_, t_, t_, t_, t_, t_, t_, t_, t_, t_, t_, t_, t_, t_, t_, t_, t_, t_, t_, t_, t_, t_, t_, t_, t_, t_, t_, t_, t_, t_, t_, t_, t_, t_, t_, t_, t_, t_, t_, t_, t_, t_, t_, t_, t_, t_, t_] rfl rfl (any_of HT_.out (by kernel_rfl)) (fun _ _ _ h => h) (Or.inl ⟨by rfl, ?_⟩) ?_ ?_
    rotate_left
    · intro w'
      go_simp
      with_reducible rfl
    rotate_left
    · simp only [Act.put, List.setIfInBounds_toArray, List.set_cons_zero, List.set_cons_succ, i64_w, i32_w]
      rfl
    refine done_ (done_of HT_.out (by kernel_rfl)) ?_
    go_wp2_with (fail)
    go_ret
    exact ⟨rfl, HBj.out⟩
  · have h30 : (r3 != 0) = true := by simpa using h3
    clear h3 HR3
    refine pure_ (i := 40) (N := some 69) (v := ?_) (a' := ?_) #[t_, t_, t_, t_, t_, t_, t_, t_, t_, t_, t_, t_, t_, t_, t_, t_, t_, t_, t_, t_, t_, t_, t_, t_, t_, t_, t_, t_, t_, t_, t_, t_, t_, t_, t_, t_, t_, t_, t_, t_, t_, f_, f_, f_, f_, f_, f_] rfl rfl (any_of HT_.out (by kernel_rfl)) (fun _ _ _ h => h) (Or.inl ⟨by rfl, ?_⟩) ?_ ?_
    rotate_left
    · intro w'
      go_simp
      with_reducible rfl
    rotate_left
    · simp only [Act.put, List.setIfInBounds_toArray, List.set_cons_zero, List.set_cons_succ, i64_w, i32_w]
      rfl
    refine pure_ (i := 41) (N := some 70) (v := ?_) (a' := ?_) #[t_, t_, t_, t_, t_, t_, t_, t_, t_, t_, t_, t_, t_, t_, t_, t_, t_, t_, t_, t_, t_, t_, t_, t_, t_, t_, t_, t_, t_, t_, t_, t_, t_, t_, t_, t_, t_, t_, t_, t_, t_, t_, f_, f_, f_, f_, f_] rfl rfl (any_of HT_.out (by kernel_rfl)) (fun _ _ _ h => h) (Or.inl ⟨by rfl, ?_⟩) ?_ ?_
    rotate_left
    · intro w'
      go_simp
      with_reducible rfl
    rotate_left
    · simp only [Act.put, List.setIfInBounds_toArray, List.set_cons_zero, List.set_cons_succ, i64_w, i32_w]
      rfl
    refine pure_ (i := 42) (N := some 71) (v := undef) (a' := ?_) #[t_, t_, t_, t_, t_, t_, t_, t_, t_, t_, t_, t_, t_, t_, t_, t_, t_, t_, t_, t_, t_, t_, t_, t_, t_, t_, t_, t_, t_, t_, t_, t_, t_, t_, t_, t_, t_, t_, t_, t_, t_, t_, t_, f_, f_, f_, f_] rfl rfl (any_of HT_.out (by kernel_rfl)) (fun _ _ _ h => h) (Or.inr ⟨by rfl, rfl⟩) ?_ ?_
    rotate_left
    · simp only [Act.put, List.setIfInBounds_toArray, List.set_cons_zero, List.set_cons_succ, i64_w, i32_w]
      rfl
    refine pure_ (i := 43) (N := some 72) (v := undef) (a' := ?_) #[t_, t_, t_, t_, t_, t_, t_, t_, t_, t_, t_, t_, t_, t_, t_, t_, t_, t_, t_, t_, t_, t_, t_, t_, t_, t_, t_, t_, t_, t_, t_, t_, t_, t_, t_, t_, t_, t_, t_, t_, t_, t_, t_, t_, f_, f_, f_] rfl rfl (any_of HT_.out (by kernel_rfl)) (fun _ _ _ h => h) (Or.inr ⟨by rfl, rfl⟩) ?_ ?_
    rotate_left
    · simp only [Act.put, List.setIfInBounds_toArray, List.set_cons_zero, List.set_cons_succ, i64_w, i32_w]
      rfl
    refine pure_ (i := 44) (N := some 73) (v := ?_) (a' := ?_) #[t_, t_, t_, t_, t_, t_, t_, t_, t_, t_, t_, t_, t_, t_, t_, t_, t_, t_, t_, t_, t_, t_, t_, t_, t_, t_, t_, t_, t_, t_, t_, t_, t_, t_, t_, t_, t_, t_, t_, t_, t_, t_, t_, t_, t_, f_, f_] rfl rfl (any_of HT_.out (by kernel_rfl)) (fun _ _ _ h => h) (Or.inl ⟨by rfl, ?_⟩) ?_ ?_
    rotate_left
    · intro w'
      go_simp
      with_reducible rfl
    rotate_left
    · simp only [Act.put, List.setIfInBounds_toArray, List.set_cons_zero, List.set_cons_succ, i64_w, i32_w]
      rfl
    refine pure_ (i := 45) (N := some 74) (v := ?_) (a' := ?_) #[t_, t_, t_, t_, t_, t_, t_, t_, t_, t_, t_, t_, t_, t_, t_, t_, t_, t_, t_, t_, t_, t_, t_, t_, t_, t_, t_, t_, t_, t_, t_, t_, t_, t_, t_, t_, t_, t_, t_, t_, t_, t_, t_, t_, t_, t_, f_] rfl rfl (any_of HT_.out (by kernel_rfl)) (fun _ _ _ h => h) (Or.inl ⟨by rfl, ?_⟩) ?_ ?_
    rotate_left
    · intro w'
      go_simp
      with_reducible rfl
    rotate_left
    · simp only [Act.put, List.setIfInBounds_toArray, List.set_cons_zero, List.set_cons_succ, i64_w, i32_w]
      rfl
    refine pure_ (i := 46) (N := some 6) (v := ?_) (a' := ?_) #[t_, t_, t_, t_, t_, t_, t_, t_, t_, t_, t_, t_, t_, t_, t_, t_, t_, t_, t_, t_, t_, t_, t_, t_, t_, t_, t_, t_, t_, t_, t_, t_, t_, t_, t_, t_, t_, t_, t_, t_, t_, t_, t_, t_, t_, t_, t_] rfl rfl (any_of HT_.out (by kernel_rfl)) (fun _ _ _ h => h) (Or.inl ⟨by rfl, ?_⟩) ?_ ?_
    rotate_left
    · intro w'
      go_simp
      with_reducible rfl
    rotate_left
    · simp only [Act.put, List.setIfInBounds_toArray, List.set_cons_zero, List.set_cons_succ, i64_w, i32_w]
      rfl
    refine done_ (done_of HT_.out (by kernel_rfl)) ?_
    go_wp2_with (fail)
    go_ret
    exact ⟨rfl, HBi.out⟩
end Go.Proofs.YtpcdcanmbokpfaaDoor.PRef
