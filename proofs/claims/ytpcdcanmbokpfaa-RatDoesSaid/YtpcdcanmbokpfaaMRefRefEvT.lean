import Derived.Test.YtpcdcanmbokpfaaPRefx4
import Derived.Test.YtpcdcanmbokpfaaPRefx6
import Derived.Test.YtpcdcanmbokpfaaPRefx7
import Derived.Test.YtpcdcanmbokpfaaPRefx8
import Derived.Test.YtpcdcanmbokpfaaPRefx9
import Derived.Test.YtpcdcanmbokpfaaMRefNumT
import Derived.Test.YtpcdcanmbokpfaaMRatQT
namespace Go.Proofs.Ytpcdcanmbokpfaa.PRef
open Go Go.RowKit Go.Proofs.YtpcdcanmbokpfaaW.PrintWords Go.Proofs.YtpcdcanmbokpfaaW.PrintLast Go.Proofs.YtpcdcanmbokpfaaW.PrintMore BallBits
theorem ref_size_ev (a : Int) (h0 : -9223372036854775808 ≤ a) (h1 : a ≤ 9223372036854775807) : Ev (fun k => ballcockref01_size.f k a) (bof a.natAbs) := by
  unfold ballcockref01_size.f
  by_cases h : a < 0
  · refine Ev_pos h ?_
    have e1 : wrap64 (a + 1) = a + 1 := by unfold wrap64; omega
    have e2 : wrap64 (-(a + 1)) = -(a + 1) := by unfold wrap64; omega
    have e3 : IntKind.u64.wrap (-(a + 1)) = ((a.natAbs - 1 : Nat) : Int) := by rw [wu64]; omega
    rw [e1, e2, e3]
    refine Ev.bind (of_ev (a.natAbs - 1) (by omega)) (Ev.bind (of_ev 1 (by omega)) ?_)
    have := add_ev (bof (a.natAbs - 1)) (bof 1) (Nat.le_trans (length_bof_le (m := 64) (by omega)) (by omega)) (Nat.le_trans (length_bof_le (m := 64) (by omega)) (by omega))
    rw [nv_bof, nv_bof] at this
    refine Ev.bind this (Ev_some fun _ => ?_)
    congr 2; omega
  · refine Ev_neg h ?_
    have e3 : IntKind.u64.wrap a = ((a.natAbs : Nat) : Int) := by rw [wu64]; omega
    rw [e3]
    exact Ev.bind (of_ev _ (by omega)) (Ev.now _)
/-- Small enough for all that is done here. -/
def Sz (n : Nat) : Prop := (bof n).length ≤ 2000
theorem len_le (L : Nat) {m n : Nat} (h : (bof n).length ≤ L) (hm : m ≤ n) : (bof m).length ≤ L := length_bof_le (Nat.lt_of_le_of_lt hm (lt_of_length h))
theorem Sz.le {m n : Nat} (h : Sz n) (hm : m ≤ n) : Sz m := len_le 2000 h hm
theorem sz64 {n : Nat} (h : n < 18446744073709551616) : Sz n := Nat.le_trans (length_bof_le (m := 64) h) (by omega)
theorem common_ev : ∀ (b a : Nat), Sz a → Sz b → Ev (fun k => ballcockref01_Common.f k (bof a) (bof b)) (bof (Nat.gcd a b)) := by
  intro b
  induction b using Nat.strongRecOn with
  | _ b ih =>
    intro a ha hb
    unfold ballcockref01_Common.f
    refine Ev.step (fun k => by rw [ballcockref01_Common.l0]) ?_
    by_cases h : b = 0
    · subst h
      rw [Nat.gcd_zero_right]
      exact Ev_neg (by rw [bof_zero]; simp) (Ev.now _)
    · have hp : 0 < b := by omega
      have hl : (bof b).length ≠ 0 := fun h0 => h (bof_eq_nil.1 (List.length_eq_zero_iff.1 h0))
      refine Ev_pos (by omega) ?_
      have hd := divide_ev (bof a) b hp (by unfold Sz at ha; omega) (by unfold Sz at hb; omega)
      rw [nv_bof] at hd
      refine Ev.bind hd ?_
      have hlt := Nat.mod_lt a hp
      have := ih (a % b) hlt b hb (Sz.le hb (Nat.le_of_lt hlt))
      unfold ballcockref01_Common.f at this
      rw [show Nat.gcd a b = Nat.gcd b (a % b) by rw [Nat.gcd_comm a b, Nat.gcd_rec, Nat.gcd_comm]]
      exact this
theorem value_loop (l : List Bool) (hl : l.length ≤ 63) (i : Nat) : i ≤ l.length → Ev (fun k => ballcockref01_Value.l0 k l ((nv (l.drop i) : Nat) : Int) ((i : Int) - 1)) (((nv l : Nat) : Int), true) := by
  induction i with
  | zero =>
    intro _
    refine Ev.step (fun k => by rw [ballcockref01_Value.l0]) ?_
    exact Ev_neg (by omega) (Ev_some fun _ => by simp)
  | succ i ih =>
    intro hi
    have e0 : ((i + 1 : Nat) : Int) - 1 = (i : Int) := by omega
    refine Ev.step (fun k => by rw [ballcockref01_Value.l0, e0, rd_nat, wpred i (by omega)]) ?_
    refine Ev_pos (by omega) (Ev_pos (by omega) (Ev_pos (by omega) ?_))
    have ih := ih (by omega)
    have hb : nv (l.drop i) < 9223372036854775808 := by
      have h1 := nv_lt (l.drop i)
      have h2 : 2 ^ (l.drop i).length ≤ 2 ^ 63 := Nat.pow_le_pow_right (by omega) (by simp; omega)
      omega
    rw [nv_drop l i (by omega)] at ih hb
    cases hB : l.getD i false <;> rw [hB] at ih hb
    · refine Ev_neg (by simp) ?_
      simp only [Bool.toNat_false] at ih hb
      rw [w64 (by omega) (by omega)]
      rw [show ((0 + 2 * nv (l.drop (i + 1)) : Nat) : Int) = 2 * ((nv (l.drop (i + 1)) : Nat) : Int) by omega] at ih
      exact ih
    · refine Ev_pos rfl ?_
      simp only [Bool.toNat_true] at ih hb
      rw [w64 (x := 2 * _) (by omega) (by omega), w64 (by omega) (by omega)]
      rw [show ((1 + 2 * nv (l.drop (i + 1)) : Nat) : Int) = 2 * ((nv (l.drop (i + 1)) : Nat) : Int) + 1 by omega] at ih
      exact ih
theorem value_ev (n : Nat) (_hs : Sz n) : Ev (fun k => ballcockref01_Value.f k (bof n)) (if n < 9223372036854775808 then ((n : Int), true) else (0, false)) := by
  unfold ballcockref01_Value.f
  by_cases h : n < 9223372036854775808
  · rw [if_pos h]
    have hl : (bof n).length ≤ 63 := length_bof_le (m := 63) h
    refine Ev_neg (by omega) ?_
    rw [wpred _ (by omega)]
    have := value_loop (bof n) hl (bof n).length (Nat.le_refl _)
    rw [List.drop_length, nv_bof] at this
    exact this
  · rw [if_neg h]
    have hl : ¬ (bof n).length ≤ 63 := fun h0 => h (lt_of_length (m := 63) h0)
    exact Ev_pos (by omega) (Ev.now _)
theorem to_j0 (k : Nat) (x y : Int) (a b : List Bool) (m : Bool) : ballcockref01_To.j0 (k + 1) x y true a b m = some (0, 0, 3) := by
  rw [ballcockref01_To.j0, if_pos rfl]
theorem to_ev (n d : Nat) (hn : Sz n) (hd : Sz d) (h0 : 0 < d) (m : Bool) : Ev (fun k => ballcockref01_To.f k (bof n) (bof d) m) (BallQ.put (n / Nat.gcd n d) (d / Nat.gcd n d) m) := by
  have hg : 0 < Nat.gcd n d := Nat.gcd_pos_of_pos_right _ h0
  have hgs : Sz (Nat.gcd n d) := Sz.le hd (Nat.le_of_dvd h0 (Nat.gcd_dvd_right n d))
  unfold ballcockref01_To.f
  refine Ev.bind (common_ev d n hn hd) ?_
  have h1 := divide_ev (bof n) (Nat.gcd n d) hg (by unfold Sz at hn; omega) (by unfold Sz at hgs; omega)
  have h2 := divide_ev (bof d) (Nat.gcd n d) hg (by unfold Sz at hd; omega) (by unfold Sz at hgs; omega)
  rw [nv_bof] at h1 h2
  refine Ev.bind h1 (Ev.bind h2 (Ev.bind (value_ev (n / Nat.gcd n d) (Sz.le hn (Nat.div_le_self _ _))) (Ev.bind (value_ev (d / Nat.gcd n d) (Sz.le hd (Nat.div_le_self _ _))) ?_)))
  generalize n / Nat.gcd n d = x
  generalize d / Nat.gcd n d = y
  unfold BallQ.put
  by_cases hx : x < 9223372036854775808
  · by_cases hy : y < 9223372036854775808
    · rw [if_pos hx, if_pos hy, if_pos ⟨hx, hy⟩]
      refine Ev_pos rfl ?_
      refine Ev.step (fun k => by rw [ballcockref01_To.j0]) (Ev_neg (by simp) ?_)
      cases m
      · exact Ev_neg (by simp) (Ev.now _)
      · refine Ev_pos rfl ?_
        dsimp only
        rw [w64 (by omega) (by omega)]
        exact Ev.now _
    · rw [if_pos hx, if_neg hy, if_neg (show ¬ (x < 9223372036854775808 ∧ y < 9223372036854775808) from fun h => hy h.2)]
      refine Ev_pos rfl ?_
      exact Ev.step (fun k => to_j0 k _ _ _ _ _) (Ev.now _)
  · rw [if_neg hx, if_neg (show ¬ (x < 9223372036854775808 ∧ y < 9223372036854775808) from fun h => hx h.1)]
    refine Ev_neg (by simp) ?_
    exact Ev.step (fun k => to_j0 k _ _ _ _ _) (Ev.now _)
theorem ref_right_ev (n d : Int) (hn : BallQ.In64 n) (hd : BallQ.In64 d) : Ev (fun k => ballcockref01_Right.f k n d) (decide (BallQ.Right n d)) := by
  obtain ⟨n0, n1⟩ := hn
  obtain ⟨d0, d1⟩ := hd
  unfold ballcockref01_Right.f
  by_cases h : d ≤ 0
  · rw [decide_eq_false (fun hr => by have := hr.1; omega)]
    exact Ev_pos h (Ev.step (fun k => by rw [ballcockref01_Right.j0]) (Ev_pos rfl (Ev.now _)))
  · refine Ev_neg h ?_
    by_cases h1 : n = -9223372036854775808
    · rw [decide_eq_false (fun hr => hr.2.1 h1)]
      exact Ev.step (fun k => by rw [ballcockref01_Right.j0]) (Ev_pos (beq_iff_eq.2 h1) (Ev.now _))
    · refine Ev.step (fun k => by rw [ballcockref01_Right.j0]) (Ev_neg (by simpa using h1) ?_)
      refine Ev.bind (ref_size_ev n n0 n1) (Ev.bind (ref_size_ev d d0 d1) (Ev.bind (common_ev d.natAbs n.natAbs (sz64 (by omega)) (sz64 (by omega))) (Ev_some fun _ => ?_)))
      congr 1
      have e : (bof (Nat.gcd n.natAbs d.natAbs)).length = 1 ↔ Nat.gcd n.natAbs d.natAbs = 1 := by
        have hg : 0 < Nat.gcd n.natAbs d.natAbs := Nat.gcd_pos_of_pos_right _ (by omega)
        constructor
        · intro h
          have := lt_of_length (n := Nat.gcd n.natAbs d.natAbs) (m := 1) (by omega)
          omega
        · intro h
          rw [h, bof_pos (by omega), bof_zero]
          rfl
      rw [Bool.eq_iff_iff, beq_iff_eq, decide_eq_true_iff]
      unfold BallQ.Right
      constructor
      · intro hh; exact ⟨by omega, h1, e.1 (by omega)⟩
      · intro hh; have := e.2 hh.2.2; omega
end Go.Proofs.Ytpcdcanmbokpfaa.PRef
