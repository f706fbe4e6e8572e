import Derived.Test.YtpcdcanmbokpfaaDoorPRefx4
import Derived.Test.YtpcdcanmbokpfaaDoorPRefx5
import Derived.Test.YtpcdcanmbokpfaaDoorPRefx6
import Derived.Test.YtpcdcanmbokpfaaDoorPRefx8
import Derived.Test.YtpcdcanmbokpfaaDoorPRefx9
import Derived.Test.YtpcdcanmbokpfaaDoorPRefx10
import Derived.Test.YtpcdcanmbokpfaaDoorMRefNumT
import Derived.Test.YtpcdcanmbokpfaaDoorMRatQT
namespace Go.Proofs.YtpcdcanmbokpfaaDoor.PRef
open Go Go.RowKit Go.Proofs.YtpcdcanmbokpfaaDoorW.PrintWords Go.Proofs.YtpcdcanmbokpfaaDoorW.PrintLast Go.Proofs.YtpcdcanmbokpfaaDoorW.PrintMore BallBits
theorem ref_size_ev (a : Int) (h0 : -9223372036854775808 ≤ a) (h1 : a ≤ 9223372036854775807) : Ev (fun k => ballcockref01_size.f k a) (bof a.natAbs) := by
  unfold ballcockref01_size.f
  by_cases h : a < 0
  · refine Ev_pos h ?_
    have e1 : wrap64 (a + 1) = a + 1 := by unfold wrap64; omega
    have e2 : wrap64 (-(a + 1)) = -(a + 1) := by unfold wrap64; omega
    have e3 : IntKind.u64.wrap (-(a + 1)) = ((a.natAbs - 1 : Nat) : Int) := by rw [wu64]; omega
    rw [e1, e2, e3]
    refine Ev.bind (of_ev (a.natAbs - 1) (by omega)) (Ev.bind (of_ev 1 (by omega)) ?_)
    have := add_ev (bof (a.natAbs - 1)) (bof 1) (Nat.le_trans (length_bof_le (m := 64) (by omega)) (by omega)) (Nat.le_trans (length_bof_le (m := 64) (by omega)) (by omega))
    rw [nv_bof, nv_bof] at this
    refine Ev.bind this (Ev_some fun _ => ?_)
    congr 2; omega
  · refine Ev_neg h ?_
    have e3 : IntKind.u64.wrap a = ((a.natAbs : Nat) : Int) := by rw [wu64]; omega
    rw [e3]
    exact Ev.bind (of_ev _ (by omega)) (Ev.now _)
/-- Small enough for all that is done here. -/
def Sz (n : Nat) : Prop := (bof n).length ≤ 2000
theorem len_le (L : Nat) {m n : Nat} (h : (bof n).length ≤ L) (hm : m ≤ n) : (bof m).length ≤ L := length_bof_le (Nat.lt_of_le_of_lt hm (lt_of_length h))
theorem Sz.le {m n : Nat} (h : Sz n) (hm : m ≤ n) : Sz m := len_le 2000 h hm
theorem sz64 {n : Nat} (h : n < 18446744073709551616) : Sz n := Nat.le_trans (length_bof_le (m := 64) h) (by omega)
theorem common_ev : ∀ (b a : Nat), Sz a → Sz b → Ev (fun k => ballcockref01_Common.f k (bof a) (bof b)) (bof (Nat.gcd a b)) := by
  intro b
  induction b using Nat.strongRecOn with
  | _ b ih =>
    intro a ha hb
    unfold ballcockref01_Common.f
    refine Ev.step (fun k => by rw [ballcockref01_Common.l0]) ?_
    by_cases h : b = 0
    · subst h
      rw [Nat.gcd_zero_right]
      exact Ev_neg (by rw [bof_zero]; simp) (Ev.now _)
    · have hp : 0 < b := by omega
      have hl : (bof b).length ≠ 0 := fun h0 => h (bof_eq_nil.1 (List.length_eq_zero_iff.1 h0))
      refine Ev_pos (by omega) ?_
      have hd := divide_ev (bof a) b hp (by unfold Sz at ha; omega) (by unfold Sz at hb; omega)
      rw [nv_bof] at hd
      refine Ev.bind hd ?_
      have hlt := Nat.mod_lt a hp
      have := ih (a % b) hlt b hb (Sz.le hb (Nat.le_of_lt hlt))
      unfold ballcockref01_Common.f at this
      rw [show Nat.gcd a b = Nat.gcd b (a % b) by rw [Nat.gcd_comm a b, Nat.gcd_rec, Nat.gcd_comm]]
      exact this
theorem value_loop (l : List Bool) (hl : l.length ≤ 63) (i : Nat) : i ≤ l.length → Ev (fun k => ballcockref01_Value.l0 k l ((nv (l.drop i) : Nat) : Int) ((i : Int) - 1)) (((nv l : Nat) : Int), true) := by
  induction i with
  | zero =>
    intro _
    refine Ev.step (fun k => by rw [ballcockref01_Value.l0]) ?_
    exact Ev_neg (by omega) (Ev_some fun _ => by simp)
  | succ i ih =>
    intro hi
    have e0 : ((i + 1 : Nat) : Int) - 1 = (i : Int) := by omega
    refine Ev.step (fun k => by rw [ballcockref01_Value.l0, e0, rd_nat, wpred i (by omega)]) ?_
    refine Ev_pos (by omega) (Ev_pos (by omega) (Ev_pos (by omega) ?_))
    have ih := ih (by omega)
    have hb : nv (l.drop i) < 9223372036854775808 := by
      have h1 := nv_lt (l.drop i)
      have h2 : 2 ^ (l.drop i).length ≤ 2 ^ 63 := Nat.pow_le_pow_right (by omega) (by simp; omega)
      omega
    rw [nv_drop l i (by omega)] at ih hb
    cases hB : l.getD i false <;> rw [hB] at ih hb
    · refine Ev_neg (by simp) ?_
      simp only [Bool.toNat_false] at ih hb
      rw [w64 (by omega) (by omega)]
      rw [show ((0 + 2 * nv (l.drop (i + 1)) : Nat) : Int) = 2 * ((nv (l.drop (i + 1)) : Nat) : Int) by omega] at ih
      exact ih
    · refine Ev_pos rfl ?_
      simp only [Bool.toNat_true] at ih hb
      rw [w64 (x := 2 * _) (by omega) (by omega), w64 (by omega) (by omega)]
      rw [show ((1 + 2 * nv (l.drop (i + 1)) : Nat) : Int) = 2 * ((nv (l.drop (i + 1)) : Nat) : Int) + 1 by omega] at ih
      exact ih
theorem value_ev (n : Nat) (_hs : Sz n) : Ev (fun k => ballcockref01_Value.f k (bof n)) (if n < 9223372036854775808 then ((n : Int), true) else (0, false)) := by
  unfold ballcockref01_Value.f
  by_cases h : n < 9223372036854775808
  · rw [if_pos h]
    have hl : (bof n).length ≤ 63 := length_bof_le (m := 63) h
    refine Ev_neg (by omega) ?_
    rw [wpred _ (by omega)]
    have := value_loop (bof n) hl (bof n).length (Nat.le_refl _)
    rw [List.drop_length, nv_bof] at this
    exact this
  · rw [if_neg h]
    have hl : ¬ (bof n).length ≤ 63 := fun h0 => h (lt_of_length (m := 63) h0)
    exact Ev_pos (by omega) (Ev.now _)
theorem to_j0 (k : Nat) (x y : Int) (a b : List Bool) (m : Bool) : ballcockref01_To.j0 (k + 1) x y true a b m = some (0, 0, 3) := by
  rw [ballcockref01_To.j0, if_pos rfl]
theorem to_ev (n d : Nat) (hn : Sz n) (hd : Sz d) (h0 : 0 < d) (m : Bool) : Ev (fun k => ballcockref01_To.f k (bof n) (bof d) m) (BallQ.put (n / Nat.gcd n d) (d / Nat.gcd n d) m) := by
  have hg : 0 < Nat.gcd n d := Nat.gcd_pos_of_pos_right _ h0
  have hgs : Sz (Nat.gcd n d) := Sz.le hd (Nat.le_of_dvd h0 (Nat.gcd_dvd_right n d))
  unfold ballcockref01_To.f
  refine Ev.bind (common_ev d n hn hd) ?_
  have h1 := divide_ev (bof n) (Nat.gcd n d) hg (by unfold Sz at hn; omega) (by unfold Sz at hgs; omega)
  have h2 := divide_ev (bof d) (Nat.gcd n d) hg (by unfold Sz at hd; omega) (by unfold Sz at hgs; omega)
  rw [nv_bof] at h1 h2
  refine Ev.bind h1 (Ev.bind h2 (Ev.bind (value_ev (n / Nat.gcd n d) (Sz.le hn (Nat.div_le_self _ _))) (Ev.bind (value_ev (d / Nat.gcd n d) (Sz.le hd (Nat.div_le_self _ _))) ?_)))
  generalize n / Nat.gcd n d = x
  generalize d / Nat.gcd n d = y
  unfold BallQ.put
  by_cases hx : x < 9223372036854775808
  · by_cases hy : y < 9223372036854775808
    · rw [if_pos hx, if_pos hy, if_pos ⟨hx, hy⟩]
      refine Ev_pos rfl ?_
      refine Ev.step (fun k => by rw [ballcockref01_To.j0]) (Ev_neg (by simp) ?_)
      cases m
      · exact Ev_neg (by simp) (Ev.now _)
      · refine Ev_pos rfl ?_
        dsimp only
        rw [w64 (by omega) (by omega)]
        exact Ev.now _
    · rw [if_pos hx, if_neg hy, if_neg (show ¬ (x < 9223372036854775808 ∧ y < 9223372036854775808) from fun h => hy h.2)]
      refine Ev_pos rfl ?_
      exact Ev.step (fun k => to_j0 k _ _ _ _ _) (Ev.now _)
  · rw [if_neg hx, if_neg (show ¬ (x < 9223372036854775808 ∧ y < 9223372036854775808) from fun h => hx h.1)]
    refine Ev_neg (by simp) ?_
    exact Ev.step (fun k => to_j0 k _ _ _ _ _) (Ev.now _)
theorem ref_right_ev (n d : Int) (hn : BallQ.In64 n) (hd : BallQ.In64 d) : Ev (fun k => ballcockref01_Right.f k n d) (decide (BallQ.Right n d)) := by
  obtain ⟨n0, n1⟩ := hn
  obtain ⟨d0, d1⟩ := hd
  unfold ballcockref01_Right.f
  by_cases h : d ≤ 0
  · rw [decide_eq_false (fun hr => by have := hr.1; omega)]
    exact Ev_pos h (Ev.step (fun k => by rw [ballcockref01_Right.j0]) (Ev_pos rfl (Ev.now _)))
  · refine Ev_neg h ?_
    by_cases h1 : n = -9223372036854775808
    · rw [decide_eq_false (fun hr => hr.2.1 h1)]
      exact Ev.step (fun k => by rw [ballcockref01_Right.j0]) (Ev_pos (beq_iff_eq.2 h1) (Ev.now _))
    · refine Ev.step (fun k => by rw [ballcockref01_Right.j0]) (Ev_neg (by simpa using h1) ?_)
      refine Ev.bind (ref_size_ev n n0 n1) (Ev.bind (ref_size_ev d d0 d1) (Ev.bind (common_ev d.natAbs n.natAbs (sz64 (by omega)) (sz64 (by omega))) (Ev_some fun _ => ?_)))
      congr 1
      have e : (bof (Nat.gcd n.natAbs d.natAbs)).length = 1 ↔ Nat.gcd n.natAbs d.natAbs = 1 := by
        have hg : 0 < Nat.gcd n.natAbs d.natAbs := Nat.gcd_pos_of_pos_right _ (by omega)
        constructor
        · intro h
          have := lt_of_length (n := Nat.gcd n.natAbs d.natAbs) (m := 1) (by omega)
          omega
        · intro h
          rw [h, bof_pos (by omega), bof_zero]
          rfl
      rw [Bool.eq_iff_iff, beq_iff_eq, decide_eq_true_iff]
      unfold BallQ.Right
      constructor
      · intro hh; exact ⟨by omega, h1, e.1 (by omega)⟩
      · intro hh; have := e.2 hh.2.2; omega
theorem ref_new_ev (n d : Int) (hn : BallQ.In64 n) (hd : BallQ.In64 d) : Ev (fun k => ballcockref01_New.f k n d) (if d = 0 then (0, 0, 2) else BallQ.put (n.natAbs / Nat.gcd n.natAbs d.natAbs) (d.natAbs / Nat.gcd n.natAbs d.natAbs) ((decide (n < 0)) != (decide (d < 0)))) := by
  obtain ⟨n0, n1⟩ := hn
  obtain ⟨d0, d1⟩ := hd
  unfold ballcockref01_New.f
  by_cases h : d = 0
  · rw [if_pos h]; exact Ev_pos h (Ev.now _)
  · rw [if_neg h]
    refine Ev_neg h (Ev.bind (ref_size_ev n n0 n1) (Ev.bind (ref_size_ev d d0 d1) ?_))
    exact Ev.bind (to_ev n.natAbs d.natAbs (sz64 (by omega)) (sz64 (by omega)) (by omega) _) (Ev_some fun _ => rfl)
attribute [local go_sem] max2_int min2_int max_two min_two max_three min_three max_four min_four
set_option linter.unusedVariables false
set_option linter.unusedSimpArgs false
/-- A value that holds a number as a row of bits, in a world (its block is a row of bools). -/
def NB (w : World) (v : Value) (n : Nat) : Prop := ∃ A c, v = .slice A (bof n).length c ∧ (bof n).length ≤ c ∧ Kd.C Kd.bool w A (bof n).length (bof n) ∧ ∀ g, v.ownBlock = some g → ∃ cs, w.heap[g]? = some (.cells cs 4 (0, 0))
theorem NB.below {w w' : World} {v : Value} {n : Nat} (h : NB w v n) (hb : Below w.heap.size w w') : NB w' v n := by
  obtain ⟨A, c, rfl, h1, h2, h3⟩ := h
  refine ⟨A, c, rfl, h1, Kd.C_below h2 hb, fun g hg => ?_⟩
  obtain ⟨cs, h⟩ := h3 g hg
  exact ⟨cs, blk_below h hb⟩
theorem nb_of_R {w : World} {s : Nat} {P : Nat → Prop} {v : Value} {n : Nat} (h : Kd.R Kd.bool 4 w s P v (bof n)) : NB w v n := by
  obtain ⟨A, c, rfl⟩ := Kd.R_slice h
  refine ⟨A, c, rfl, (Kd.R_reads' h).2.1, (Kd.R_reads' h).2.2, fun g hg => ?_⟩
  obtain ⟨_, _, _, q, hq, cells, hc⟩ := (Kd.R_bound h).1 g hg
  have : q = 4 := by
    have hq' : q ∈ ([4] : List Nat) := hq
    simpa using hq'
  subst this
  exact ⟨cells, hc⟩
theorem NB.ne {w : World} {v : Value} {n g t : Nat} {cs : Array Value} (h : NB w v n) (hg : w.heap[g]? = some (.cells cs t (0, 0))) (ht : t ≠ 4) : v.ownBlock ≠ some g := by
  obtain ⟨_, _, _, _, _, h3⟩ := h
  intro e
  obtain ⟨cs', hc⟩ := h3 g e
  rw [hc] at hg
  injection hg with hg
  injection hg with _ hg
  exact ht hg.symm
theorem NB.set {w : World} {v : Value} {n g : Nat} (h : NB w v n) (hn : v.ownBlock ≠ some g) (i : Nat) (u : Value) : NB (w.setCell ⟨g, i, none⟩ u) v n := by
  obtain ⟨A, c, rfl, h1, h2, h3⟩ := h
  refine ⟨A, c, rfl, h1, Kd.C_keep false h2 ((KeepBut.refl w g none).set_ i u) (fun ad ha _ hb => hn (by subst ha; rw [← hb]; rfl)), fun k hk => ?_⟩
  obtain ⟨cs, hc⟩ := h3 k hk
  exact ⟨cs, blk_far hc (fun hkg => hn (by rw [hk]; exact congrArg some hkg)) u⟩
theorem NB.form {w : World} {v : Value} {n : Nat} (h : NB w v n) : ∃ A L c, v = .slice A L c := by
  obtain ⟨A, c, rfl, _⟩ := h
  exact ⟨A, _, c, rfl⟩
theorem add_c {a b : Nat} (ha : Sz a) (hb : Sz b) {w : World} {u v : Value} (hu : NB w u a) (hv : NB w v b) :
    Calls Tryd.prog 33 #[u, v] w fun e w' => ∃ x, e = .returned x ∧ NB w' x (a + b) ∧ Below w.heap.size w w' := by
  obtain ⟨A0, c0, rfl, h0, r0, _⟩ := hu
  obtain ⟨A1, c1, rfl, h1, r1, _⟩ := hv
  have := add_ev (bof a) (bof b) (by unfold Sz at ha; omega) (by unfold Sz at hb; omega)
  rw [nv_bof, nv_bof] at this
  obtain ⟨k, hk⟩ := Ev.rounds this
  refine (ballcockref01_Add.calls k A0 c0 (bof a) A1 c1 (bof b) _ w r0 h0 r1 h1 hk).mono ?_
  rintro e w' ⟨x, rfl, hR, hB⟩
  exact ⟨x, rfl, nb_of_R hR, hB⟩
theorem sub_c {a b : Nat} (ha : Sz a) (hle : b ≤ a) {w : World} {u v : Value} (hu : NB w u a) (hv : NB w v b) :
    Calls Tryd.prog 40 #[u, v] w fun e w' => ∃ x, e = .returned x ∧ NB w' x (a - b) ∧ Below w.heap.size w w' := by
  obtain ⟨A0, c0, rfl, h0, r0, _⟩ := hu
  obtain ⟨A1, c1, rfl, h1, r1, _⟩ := hv
  have := sub_ev (bof a) (bof b) (by unfold Sz at ha; omega) (by rw [nv_bof, nv_bof]; exact hle)
  rw [nv_bof, nv_bof] at this
  obtain ⟨k, hk⟩ := Ev.rounds this
  refine (ballcockref01_Sub.calls k A0 c0 (bof a) A1 c1 (bof b) _ w r0 h0 r1 h1 hk).mono ?_
  rintro e w' ⟨x, rfl, hR, hB⟩
  exact ⟨x, rfl, nb_of_R hR, hB⟩
theorem mul_c {a b : Nat} (ha : Sz a) (hb : Sz b) {w : World} {u v : Value} (hu : NB w u a) (hv : NB w v b) :
    Calls Tryd.prog 38 #[u, v] w fun e w' => ∃ x, e = .returned x ∧ NB w' x (a * b) ∧ Below w.heap.size w w' := by
  obtain ⟨A0, c0, rfl, h0, r0, _⟩ := hu
  obtain ⟨A1, c1, rfl, h1, r1, _⟩ := hv
  have := mul_ev (bof a) (bof b) (by unfold Sz at ha; omega) (by unfold Sz at hb; omega)
  rw [nv_bof, nv_bof] at this
  obtain ⟨k, hk⟩ := Ev.rounds this
  refine (ballcockref01_Mul.calls k A0 c0 (bof a) A1 c1 (bof b) _ w r0 h0 r1 h1 hk).mono ?_
  rintro e w' ⟨x, rfl, hR, hB⟩
  exact ⟨x, rfl, nb_of_R hR, hB⟩
theorem less_c {a b : Nat} (ha : Sz a) {w : World} {u v : Value} (hu : NB w u a) (hv : NB w v b) :
    Calls Tryd.prog 39 #[u, v] w fun e w' => e = .returned (.bool (decide (a < b))) ∧ Below w.heap.size w w' := by
  obtain ⟨A0, c0, rfl, h0, r0, _⟩ := hu
  obtain ⟨A1, c1, rfl, h1, r1, _⟩ := hv
  obtain ⟨k, hk⟩ := Ev.rounds (less_ev a b (by unfold Sz at ha; omega))
  refine (ballcockref01_Less.calls k A0 c0 (bof a) A1 c1 (bof b) _ w r0 h0 r1 h1 hk).mono ?_
  rintro e w' ⟨rfl, hD⟩
  exact ⟨rfl, hD.below⟩
theorem to_c {n d : Nat} (hn : Sz n) (hd : Sz d) (h0 : 0 < d) (m : Bool) {w : World} {u v : Value} (hu : NB w u n) (hv : NB w v d) :
    Calls Tryd.prog 20 #[.agg #[u, v, .bool m]] w fun e w' => e = .returned (.tuple #[.agg #[.int .i64 (BallQ.put (n / Nat.gcd n d) (d / Nat.gcd n d) m).1, .int .i64 (BallQ.put (n / Nat.gcd n d) (d / Nat.gcd n d) m).2.1], .int .i64 (BallQ.put (n / Nat.gcd n d) (d / Nat.gcd n d) m).2.2]) ∧ Below w.heap.size w w' := by
  obtain ⟨A0, c0, rfl, h0', r0, _⟩ := hu
  obtain ⟨A1, c1, rfl, h1', r1, _⟩ := hv
  obtain ⟨k, hk⟩ := Ev.rounds (to_ev n d hn hd h0 m)
  exact ballcockref01_To.calls k A0 c0 (bof n) A1 c1 (bof d) m _ _ _ w r0 h0' r1 h1' hk
theorem right_c (n d : Int) (hn : BallQ.In64 n) (hd : BallQ.In64 d) (w : World) :
    Calls Tryd.prog 10 #[.agg #[.int .i64 n, .int .i64 d]] w fun e w' => e = .returned (.bool (decide (BallQ.Right n d))) ∧ Below w.heap.size w w' := by
  obtain ⟨k, hk⟩ := Ev.rounds (ref_right_ev n d hn hd)
  exact ballcockref01_Right.calls k n d _ w hk
theorem from_c (n d : Int) (hn : BallQ.In64 n) (hd : BallQ.In64 d) (w : World) :
    Calls Tryd.prog 24 #[.agg #[.int .i64 n, .int .i64 d]] w fun e w' => ∃ x y, e = .returned (.agg #[x, y, .bool (decide (n < 0))]) ∧ NB w' x n.natAbs ∧ NB w' y d.natAbs ∧ Below w.heap.size w w' := by
  have hf : Ev (fun k => ballcockref01_From.f k n d) (bof n.natAbs, bof d.natAbs, decide (n < 0)) := by
    unfold ballcockref01_From.f
    exact Ev.bind (ref_size_ev n hn.1 hn.2) (Ev.bind (ref_size_ev d hd.1 hd.2) (Ev.now _))
  obtain ⟨k, hk⟩ := Ev.rounds hf
  refine (ballcockref01_From.calls k n d _ _ _ w hk).mono ?_
  rintro e w' ⟨x, y, rfl, hX, hY, hB⟩
  exact ⟨x, y, rfl, nb_of_R hX, nb_of_R hY, hB⟩
end Go.Proofs.YtpcdcanmbokpfaaDoor.PRef
