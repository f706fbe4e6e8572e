-- Words and walks printed by the kit and by programs of this session, and texts by hand, cut to what this law uses (wip/pack.py).
import Derived.Test.YtijhnmbegceonaaDoorOwnX7
import Derived.Test.YtijhnmbegceonaaDoorOwnX1
namespace Go.Proofs.YtijhnmbegceonaaDoor.PRef
open Go Go.RowKit Go.Proofs.YtijhnmbegceonaaDoorW.PrintWords Go.Proofs.YtijhnmbegceonaaDoorW.PrintLast Go.Proofs.YtijhnmbegceonaaDoorW.PrintMore BallBits
theorem ref_size_ev (a : Int) (h0 : -9223372036854775808 ≤ a) (h1 : a ≤ 9223372036854775807) : Ev (fun k => ballcockref01_size.f k a) (bof a.natAbs) := by
  unfold ballcockref01_size.f
  by_cases h : a < 0
  · refine Ev_pos h ?_
    have e1 : wrap64 (a + 1) = a + 1 := by unfold wrap64; omega
    have e2 : wrap64 (-(a + 1)) = -(a + 1) := by unfold wrap64; omega
    have e3 : IntKind.u64.wrap (-(a + 1)) = ((a.natAbs - 1 : Nat) : Int) := by rw [wu64]; omega
    rw [e1, e2, e3]
    refine Ev.bind (of_ev (a.natAbs - 1) (by omega)) (Ev.bind (of_ev 1 (by omega)) ?_)
    have := add_ev (bof (a.natAbs - 1)) (bof 1) (Nat.le_trans (length_bof_le (m := 64) (by omega)) (by omega)) (Nat.le_trans (length_bof_le (m := 64) (by omega)) (by omega))
    rw [nv_bof, nv_bof] at this
    refine Ev.bind this (Ev_some fun _ => ?_)
    congr 2; omega
  · refine Ev_neg h ?_
    have e3 : IntKind.u64.wrap a = ((a.natAbs : Nat) : Int) := by rw [wu64]; omega
    rw [e3]
    exact Ev.bind (of_ev _ (by omega)) (Ev.now _)
def Sz (n : Nat) : Prop := (bof n).length ≤ 2000
theorem len_le (L : Nat) {m n : Nat} (h : (bof n).length ≤ L) (hm : m ≤ n) : (bof m).length ≤ L := length_bof_le (Nat.lt_of_le_of_lt hm (lt_of_length h))
theorem Sz.le {m n : Nat} (h : Sz n) (hm : m ≤ n) : Sz m := len_le 2000 h hm
theorem sz64 {n : Nat} (h : n < 18446744073709551616) : Sz n := Nat.le_trans (length_bof_le (m := 64) h) (by omega)
theorem common_ev : ∀ (b a : Nat), Sz a → Sz b → Ev (fun k => ballcockref01_Common.f k (bof a) (bof b)) (bof (Nat.gcd a b)) := by
  intro b
  induction b using Nat.strongRecOn with
  | _ b ih =>
    intro a ha hb
    unfold ballcockref01_Common.f
    refine Ev.step (fun k => by rw [ballcockref01_Common.l0]) ?_
    by_cases h : b = 0
    · subst h
      rw [Nat.gcd_zero_right]
      exact Ev_neg (by rw [bof_zero]; simp) (Ev.now _)
    · have hp : 0 < b := by omega
      have hl : (bof b).length ≠ 0 := fun h0 => h (bof_eq_nil.1 (List.length_eq_zero_iff.1 h0))
      refine Ev_pos (by omega) ?_
      have hd := divide_ev (bof a) b hp (by unfold Sz at ha; omega) (by unfold Sz at hb; omega)
      rw [nv_bof] at hd
      refine Ev.bind hd ?_
      have hlt := Nat.mod_lt a hp
      have := ih (a % b) hlt b hb (Sz.le hb (Nat.le_of_lt hlt))
      unfold ballcockref01_Common.f at this
      rw [show Nat.gcd a b = Nat.gcd b (a % b) by rw [Nat.gcd_comm a b, Nat.gcd_rec, Nat.gcd_comm]]
      exact this
theorem ref_right_ev (n d : Int) (hn : BallQ.In64 n) (hd : BallQ.In64 d) : Ev (fun k => ballcockref01_Right.f k n d) (decide (BallQ.Right n d)) := by
  obtain ⟨n0, n1⟩ := hn
  obtain ⟨d0, d1⟩ := hd
  unfold ballcockref01_Right.f
  by_cases h : d ≤ 0
  · rw [decide_eq_false (fun hr => by have := hr.1; omega)]
    exact Ev_pos h (Ev.step (fun k => by rw [ballcockref01_Right.j0]) (Ev_pos rfl (Ev.now _)))
  · refine Ev_neg h ?_
    by_cases h1 : n = -9223372036854775808
    · rw [decide_eq_false (fun hr => hr.2.1 h1)]
      exact Ev.step (fun k => by rw [ballcockref01_Right.j0]) (Ev_pos (beq_iff_eq.2 h1) (Ev.now _))
    · refine Ev.step (fun k => by rw [ballcockref01_Right.j0]) (Ev_neg (by simpa using h1) ?_)
      refine Ev.bind (ref_size_ev n n0 n1) (Ev.bind (ref_size_ev d d0 d1) (Ev.bind (common_ev d.natAbs n.natAbs (sz64 (by omega)) (sz64 (by omega))) (Ev_some fun _ => ?_)))
      congr 1
      have e : (bof (Nat.gcd n.natAbs d.natAbs)).length = 1 ↔ Nat.gcd n.natAbs d.natAbs = 1 := by
        have hg : 0 < Nat.gcd n.natAbs d.natAbs := Nat.gcd_pos_of_pos_right _ (by omega)
        constructor
        · intro h
          have := lt_of_length (n := Nat.gcd n.natAbs d.natAbs) (m := 1) (by omega)
          omega
        · intro h
          rw [h, bof_pos (by omega), bof_zero]
          rfl
      rw [Bool.eq_iff_iff, beq_iff_eq, decide_eq_true_iff]
      unfold BallQ.Right
      constructor
      · intro hh; exact ⟨by omega, h1, e.1 (by omega)⟩
      · intro hh; have := e.2 hh.2.2; omega
end Go.Proofs.YtijhnmbegceonaaDoor.PRef
