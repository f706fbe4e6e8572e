import Derived.Test.YtpcdcanmbokpfaaPRefx8
import Derived.Test.YtpcdcanmbokpfaaMRefRefEvT
namespace Go.Proofs.Ytpcdcanmbokpfaa.PRef
open Go Go.RowKit Go.Proofs.YtpcdcanmbokpfaaW.PrintWords Go.Proofs.YtpcdcanmbokpfaaW.PrintLast Go.Proofs.YtpcdcanmbokpfaaW.PrintMore BallBits
attribute [local go_sem] max2_int min2_int max_two min_two max_three min_three max_four min_four
set_option linter.unusedVariables false
set_option linter.unusedSimpArgs false
/-- A value that holds a number as a row of bits, in a world (its block is a row of bools). -/
def NB (w : World) (v : Value) (n : Nat) : Prop := ∃ A c, v = .slice A (bof n).length c ∧ (bof n).length ≤ c ∧ Kd.C Kd.bool w A (bof n).length (bof n) ∧ ∀ g, v.ownBlock = some g → ∃ cs, w.heap[g]? = some (.cells cs 4 (0, 0))
theorem NB.below {w w' : World} {v : Value} {n : Nat} (h : NB w v n) (hb : Below w.heap.size w w') : NB w' v n := by
  obtain ⟨A, c, rfl, h1, h2, h3⟩ := h
  refine ⟨A, c, rfl, h1, Kd.C_below h2 hb, fun g hg => ?_⟩
  obtain ⟨cs, h⟩ := h3 g hg
  exact ⟨cs, blk_below h hb⟩
theorem nb_of_R {w : World} {s : Nat} {P : Nat → Prop} {v : Value} {n : Nat} (h : Kd.R Kd.bool 4 w s P v (bof n)) : NB w v n := by
  obtain ⟨A, c, rfl⟩ := Kd.R_slice h
  refine ⟨A, c, rfl, (Kd.R_reads' h).2.1, (Kd.R_reads' h).2.2, fun g hg => ?_⟩
  obtain ⟨_, _, _, q, hq, cells, hc⟩ := (Kd.R_bound h).1 g hg
  have : q = 4 := by
    have hq' : q ∈ ([4] : List Nat) := hq
    simpa using hq'
  subst this
  exact ⟨cells, hc⟩
theorem NB.ne {w : World} {v : Value} {n g t : Nat} {cs : Array Value} (h : NB w v n) (hg : w.heap[g]? = some (.cells cs t (0, 0))) (ht : t ≠ 4) : v.ownBlock ≠ some g := by
  obtain ⟨_, _, _, _, _, h3⟩ := h
  intro e
  obtain ⟨cs', hc⟩ := h3 g e
  rw [hc] at hg
  injection hg with hg
  injection hg with _ hg
  exact ht hg.symm
theorem NB.set {w : World} {v : Value} {n g : Nat} (h : NB w v n) (hn : v.ownBlock ≠ some g) (i : Nat) (u : Value) : NB (w.setCell ⟨g, i, none⟩ u) v n := by
  obtain ⟨A, c, rfl, h1, h2, h3⟩ := h
  refine ⟨A, c, rfl, h1, Kd.C_keep false h2 ((KeepBut.refl w g none).set_ i u) (fun ad ha _ hb => hn (by subst ha; rw [← hb]; rfl)), fun k hk => ?_⟩
  obtain ⟨cs, hc⟩ := h3 k hk
  exact ⟨cs, blk_far hc (fun hkg => hn (by rw [hk]; exact congrArg some hkg)) u⟩
theorem NB.form {w : World} {v : Value} {n : Nat} (h : NB w v n) : ∃ A L c, v = .slice A L c := by
  obtain ⟨A, c, rfl, _⟩ := h
  exact ⟨A, _, c, rfl⟩
theorem add_c {a b : Nat} (ha : Sz a) (hb : Sz b) {w : World} {u v : Value} (hu : NB w u a) (hv : NB w v b) :
    Calls Try.prog 48 #[u, v] w fun e w' => ∃ x, e = .returned x ∧ NB w' x (a + b) ∧ Below w.heap.size w w' := by
  obtain ⟨A0, c0, rfl, h0, r0, _⟩ := hu
  obtain ⟨A1, c1, rfl, h1, r1, _⟩ := hv
  have := add_ev (bof a) (bof b) (by unfold Sz at ha; omega) (by unfold Sz at hb; omega)
  rw [nv_bof, nv_bof] at this
  obtain ⟨k, hk⟩ := Ev.rounds this
  refine (ballcockref01_Add.calls k A0 c0 (bof a) A1 c1 (bof b) _ w r0 h0 r1 h1 hk).mono ?_
  rintro e w' ⟨x, rfl, hR, hB⟩
  exact ⟨x, rfl, nb_of_R hR, hB⟩
theorem sub_c {a b : Nat} (ha : Sz a) (hle : b ≤ a) {w : World} {u v : Value} (hu : NB w u a) (hv : NB w v b) :
    Calls Try.prog 50 #[u, v] w fun e w' => ∃ x, e = .returned x ∧ NB w' x (a - b) ∧ Below w.heap.size w w' := by
  obtain ⟨A0, c0, rfl, h0, r0, _⟩ := hu
  obtain ⟨A1, c1, rfl, h1, r1, _⟩ := hv
  have := sub_ev (bof a) (bof b) (by unfold Sz at ha; omega) (by rw [nv_bof, nv_bof]; exact hle)
  rw [nv_bof, nv_bof] at this
  obtain ⟨k, hk⟩ := Ev.rounds this
  refine (ballcockref01_Sub.calls k A0 c0 (bof a) A1 c1 (bof b) _ w r0 h0 r1 h1 hk).mono ?_
  rintro e w' ⟨x, rfl, hR, hB⟩
  exact ⟨x, rfl, nb_of_R hR, hB⟩
theorem mul_c {a b : Nat} (ha : Sz a) (hb : Sz b) {w : World} {u v : Value} (hu : NB w u a) (hv : NB w v b) :
    Calls Try.prog 35 #[u, v] w fun e w' => ∃ x, e = .returned x ∧ NB w' x (a * b) ∧ Below w.heap.size w w' := by
  obtain ⟨A0, c0, rfl, h0, r0, _⟩ := hu
  obtain ⟨A1, c1, rfl, h1, r1, _⟩ := hv
  have := mul_ev (bof a) (bof b) (by unfold Sz at ha; omega) (by unfold Sz at hb; omega)
  rw [nv_bof, nv_bof] at this
  obtain ⟨k, hk⟩ := Ev.rounds this
  refine (ballcockref01_Mul.calls k A0 c0 (bof a) A1 c1 (bof b) _ w r0 h0 r1 h1 hk).mono ?_
  rintro e w' ⟨x, rfl, hR, hB⟩
  exact ⟨x, rfl, nb_of_R hR, hB⟩
theorem less_c {a b : Nat} (ha : Sz a) {w : World} {u v : Value} (hu : NB w u a) (hv : NB w v b) :
    Calls Try.prog 49 #[u, v] w fun e w' => e = .returned (.bool (decide (a < b))) ∧ Below w.heap.size w w' := by
  obtain ⟨A0, c0, rfl, h0, r0, _⟩ := hu
  obtain ⟨A1, c1, rfl, h1, r1, _⟩ := hv
  obtain ⟨k, hk⟩ := Ev.rounds (less_ev a b (by unfold Sz at ha; omega))
  refine (ballcockref01_Less.calls k A0 c0 (bof a) A1 c1 (bof b) _ w r0 h0 r1 h1 hk).mono ?_
  rintro e w' ⟨rfl, hD⟩
  exact ⟨rfl, hD.below⟩
theorem to_c {n d : Nat} (hn : Sz n) (hd : Sz d) (h0 : 0 < d) (m : Bool) {w : World} {u v : Value} (hu : NB w u n) (hv : NB w v d) :
    Calls Try.prog 33 #[.agg #[u, v, .bool m]] w fun e w' => e = .returned (.tuple #[.agg #[.int .i64 (BallQ.put (n / Nat.gcd n d) (d / Nat.gcd n d) m).1, .int .i64 (BallQ.put (n / Nat.gcd n d) (d / Nat.gcd n d) m).2.1], .int .i64 (BallQ.put (n / Nat.gcd n d) (d / Nat.gcd n d) m).2.2]) ∧ Below w.heap.size w w' := by
  obtain ⟨A0, c0, rfl, h0', r0, _⟩ := hu
  obtain ⟨A1, c1, rfl, h1', r1, _⟩ := hv
  obtain ⟨k, hk⟩ := Ev.rounds (to_ev n d hn hd h0 m)
  exact ballcockref01_To.calls k A0 c0 (bof n) A1 c1 (bof d) m _ _ _ w r0 h0' r1 h1' hk
theorem right_c (n d : Int) (hn : BallQ.In64 n) (hd : BallQ.In64 d) (w : World) :
    Calls Try.prog 31 #[.agg #[.int .i64 n, .int .i64 d]] w fun e w' => e = .returned (.bool (decide (BallQ.Right n d))) ∧ Below w.heap.size w w' := by
  obtain ⟨k, hk⟩ := Ev.rounds (ref_right_ev n d hn hd)
  exact ballcockref01_Right.calls k n d _ w hk
theorem from_c (n d : Int) (hn : BallQ.In64 n) (hd : BallQ.In64 d) (w : World) :
    Calls Try.prog 32 #[.agg #[.int .i64 n, .int .i64 d]] w fun e w' => ∃ x y, e = .returned (.agg #[x, y, .bool (decide (n < 0))]) ∧ NB w' x n.natAbs ∧ NB w' y d.natAbs ∧ Below w.heap.size w w' := by
  have hf : Ev (fun k => ballcockref01_From.f k n d) (bof n.natAbs, bof d.natAbs, decide (n < 0)) := by
    unfold ballcockref01_From.f
    exact Ev.bind (ref_size_ev n hn.1 hn.2) (Ev.bind (ref_size_ev d hd.1 hd.2) (Ev.now _))
  obtain ⟨k, hk⟩ := Ev.rounds hf
  refine (ballcockref01_From.calls k n d _ _ _ w hk).mono ?_
  rintro e w' ⟨x, y, rfl, hX, hY, hB⟩
  exact ⟨x, y, rfl, nb_of_R hX, nb_of_R hY, hB⟩
end Go.Proofs.Ytpcdcanmbokpfaa.PRef
