import Derived.Test.YtpcdcanmbokpfaaPPHx4
import Derived.Test.YtpcdcanmbokpfaaPPHx13
import Derived.Test.YtpcdcanmbokpfaaPPHx14
import Derived.Test.YtpcdcanmbokpfaaPPHx15
import Derived.Test.YtpcdcanmbokpfaaPPHx16
import Derived.Test.YtpcdcanmbokpfaaMPHRatPT
namespace Go.Proofs.Ytpcdcanmbokpfaa.PPH
open Go Go.RowKit Go.Proofs.YtpcdcanmbokpfaaW.PrintWords Go.Proofs.YtpcdcanmbokpfaaW.PrintLast Go.Proofs.YtpcdcanmbokpfaaW.PrintMore
open BallQ (In64 Right q out fits put)
namespace Halves
theorem ite_any {α : Type} {c : Prop} [Decidable c] {f g : Nat → Option α} {Q : α → Prop} (hf : ∃ r, Ev f r ∧ Q r) (hg : ∃ r, Ev g r ∧ Q r) : ∃ r, Ev (fun k => if c then f k else g k) r ∧ Q r := by
  obtain ⟨r, hr, qr⟩ := hf
  obtain ⟨s, hs, qs⟩ := hg
  by_cases h : c
  · exact ⟨r, Ev_pos h hr, qr⟩
  · exact ⟨s, Ev_neg h hs, qs⟩
theorem step_any {α : Type} {f g : Nat → Option α} {Q : α → Prop} (e : ∀ k, f (k + 1) = g k) (h : ∃ r, Ev g r ∧ Q r) : ∃ r, Ev f r ∧ Q r := by
  obtain ⟨r, hr, qr⟩ := h
  exact ⟨r, Ev.step e hr, qr⟩
theorem now_any {α : Type} {Q : α → Prop} (a : α) (h : Q a) : ∃ r, Ev (fun _ => some a) r ∧ Q r := ⟨a, Ev.now a, h⟩
theorem left6 (a : Int) (b : Bool) : ∃ r, Ev (fun k => perm_left.j6 k a b) r ∧ True := step_any (fun k => by rw [perm_left.j6]) (ite_any (now_any _ trivial) (now_any _ trivial))
theorem left5 (a b : Int) (c : Bool) : ∃ r, Ev (fun k => perm_left.j5 k a b c) r ∧ True := step_any (fun k => by rw [perm_left.j5]) (ite_any (left6 _ _) (ite_any (left6 _ _) (left6 _ _)))
theorem left4 (a b : Int) (c : Bool) : ∃ r, Ev (fun k => perm_left.j4 k a b c) r ∧ True := step_any (fun k => by rw [perm_left.j4]) (ite_any (now_any _ trivial) (ite_any (left5 _ _ _) (left5 _ _ _)))
theorem left3 (a b : Int) (c : Bool) : ∃ r, Ev (fun k => perm_left.j3 k a b c) r ∧ True := step_any (fun k => by rw [perm_left.j3]) (ite_any (left4 _ _ _) (ite_any (left4 _ _ _) (left4 _ _ _)))
theorem left2 (a b : Int) (c : Bool) : ∃ r, Ev (fun k => perm_left.j2 k a b c) r ∧ True := step_any (fun k => by rw [perm_left.j2]) (ite_any (now_any _ trivial) (ite_any (left3 _ _ _) (left3 _ _ _)))
theorem left1 (a b : Int) (c : Bool) : ∃ r, Ev (fun k => perm_left.j1 k a b c) r ∧ True := step_any (fun k => by rw [perm_left.j1]) (ite_any (now_any _ trivial) (ite_any (left2 _ _ _) (left2 _ _ _)))
theorem left0 (a b : Int) (c : Bool) : ∃ r, Ev (fun k => perm_left.j0 k a b c) r ∧ True := step_any (fun k => by rw [perm_left.j0]) (ite_any (now_any _ trivial) (ite_any (left1 _ _ _) (left1 _ _ _)))
theorem left_any (a b : Int) : ∃ r, Ev (fun k => perm_left.f k a b) r ∧ True := by unfold perm_left.f; exact ite_any (left0 _ _ _) (left0 _ _ _)
theorem in1 : In64 1 := by unfold BallQ.In64; omega
theorem in2 : In64 2 := by unfold BallQ.In64; omega
theorem in3 : In64 3 := by unfold BallQ.In64; omega
theorem sub_half : subS 1 1 1 2 = (1, 2, 0) := by decide +kernel
theorem sub_third : subS 1 1 1 3 = (2, 3, 0) := by decide +kernel
theorem mul_third : mulS 1 1 2 3 = (2, 3, 0) ∧ mulS 1 1 1 3 = (1, 3, 0) := by decide +kernel
theorem parts_half (n d : Int) (hn : In64 n) (hd : In64 d) : ∃ p : Int × Int × Int × Int × Int, Ev (fun k => perm_parts.f k n d 1 2) p ∧ (p.2.2.2.2 = 0 → p.1 = p.2.2.1 ∧ p.2.1 = p.2.2.2.1) := by
  unfold perm_parts.f
  have s := Ev_cast (sub_ev' 1 1 1 2 in1 in1 in1 in2) sub_half
  have m := mul_ev n d 1 2 hn hd in1 in2
  by_cases h : (mulS n d 1 2).2.2 = 0
  · exact ⟨_, Ev.bind (Ev.now (1, 1)) (Ev.bind s (Ev_pos rfl (Ev.bind m (Ev_pos h (Ev.bind m (Ev.now _)))))), fun _ => ⟨rfl, rfl⟩⟩
  · exact ⟨_, Ev.bind (Ev.now (1, 1)) (Ev.bind s (Ev_pos rfl (Ev.bind m (Ev_neg h (Ev.now _))))), fun e => absurd e h⟩
abbrev T11 := Int × Int × Int × Int × Int × Int × Int × Int × Int × Int × Int
def Good (kd root : Int) (t : T11) : Prop := (∃ e, e ≠ 0 ∧ t = (0, 0, 0, 0, 0, 0, 0, 0, 0, 0, e)) ∨ ∃ x n d v, t = (x, n, d, root, v, kd, n, d, root, v, 0)
theorem split1 (x1 x3 x11 : Int) (x13 x61 : Bool) (s0 n d root v : Int) (hn : In64 n) (hd : In64 d) : ∃ t, Ev (fun k => perm_Split.j1 k x1 x3 x11 x13 x61 s0 n d root v 1 2) t ∧ Good x1 root t := by
  refine step_any (fun k => by rw [perm_Split.j1]) (ite_any (now_any _ (.inl ⟨2, by decide, rfl⟩)) ?_)
  obtain ⟨p, hp, same⟩ := parts_half n d hn hd
  by_cases h : p.2.2.2.2 = 0
  · obtain ⟨e1, e2⟩ := same h
    have J : ∀ v3, Ev (fun k => perm_Split.j2 k x1 v3 x11 s0 n d root v p.1 p.2.1 p.2.2.1 p.2.2.2.1) (x11, p.1, p.2.1, root, v3, x1, p.1, p.2.1, root, v3, 0) := by
      intro v3
      rw [← e1, ← e2]
      exact Ev.step (fun k => by rw [perm_Split.j2]) (Ev.now _)
    cases x13
    · exact ⟨_, Ev.bind hp (Ev_pos h (Ev_neg (by decide) (J v))), .inr ⟨_, _, _, _, rfl⟩⟩
    · exact ⟨_, Ev.bind hp (Ev_pos h (Ev_pos rfl (J x3))), .inr ⟨_, _, _, _, rfl⟩⟩
  · exact ⟨_, Ev.bind hp (Ev_neg h (Ev.now _)), .inl ⟨_, h, rfl⟩⟩
theorem bind_any {α β : Type} {f : Nat → Option α} {g : Nat → α → Option β} {Q : β → Prop} {a : α} (hf : Ev f a) (hg : ∃ r, Ev (fun k => g k a) r ∧ Q r) : ∃ r, Ev (fun k => (f k).bind (g k)) r ∧ Q r := by
  obtain ⟨r, hr, qr⟩ := hg
  exact ⟨r, Ev.bind hf hr, qr⟩
theorem split0 (x1 x3 x11 : Int) (x12 x13 : Bool) (s0 n d root v : Int) (hn : In64 n) (hd : In64 d) : ∃ t, Ev (fun k => perm_Split.j0 k x1 x3 x11 x12 x13 s0 n d root v 1 2) t ∧ Good x1 root t := by
  have H := fun x61 => split1 x1 x3 x11 x13 x61 s0 n d root v hn hd
  refine step_any (fun k => by rw [perm_Split.j0]) (ite_any ?_ (H _))
  refine bind_any (right_ev n d hn hd) (ite_any ?_ (H _))
  refine bind_any (right_ev 1 2 in1 in2) (ite_any ?_ (H _))
  exact ite_any (H _) (ite_any (H _) (H _))
theorem split_any (kd n d root v kind s : Int) (hn : In64 n) (hd : In64 d) : ∃ t, Ev (fun k => perm_Split.f k kd n d root v kind 1 2 s) t ∧ Good kind root t := by
  unfold perm_Split.f
  obtain ⟨l, hl, _⟩ := left_any kd kind
  exact bind_any hl (ite_any (split0 _ _ _ _ _ _ _ _ _ _ hn hd) (split0 _ _ _ _ _ _ _ _ _ _ hn hd))
theorem left_imm : Ev (fun k => perm_left.f k 0 3) (3, true) := by
  unfold perm_left.f
  refine Ev_neg (by decide) (Ev.step (fun k => by rw [perm_left.j0]) ?_)
  refine Ev_neg (by decide) (Ev_neg (by decide) (Ev.step (fun k => by rw [perm_left.j1]) ?_))
  refine Ev_neg (by decide) (Ev_neg (by decide) (Ev.step (fun k => by rw [perm_left.j2]) ?_))
  refine Ev_neg (by decide) (Ev_neg (by decide) (Ev.step (fun k => by rw [perm_left.j3]) ?_))
  refine Ev_neg (by decide) (Ev_pos rfl (Ev.step (fun k => by rw [perm_left.j4]) ?_))
  exact Ev_pos rfl (Ev.now _)
theorem awake15 : Ev (fun k => ballcocklaw15_awake.f k) true := by
  unfold ballcocklaw15_awake.f
  refine Ev.bind (Ev.now (0, 1, 1, -1, 0)) ?_
  have sp : Ev (fun k => perm_Split.f k 0 1 1 (-1) 0 3 1 3 0) (3, 2, 3, -1, 0, 3, 1, 3, -1, 0, 0) := by
    unfold perm_Split.f
    refine Ev.bind left_imm (Ev_pos rfl (Ev.step (fun k => by rw [perm_Split.j0]) (Ev_pos rfl ?_)))
    have r1 : Right 1 1 := by decide
    have r3 : Right 1 3 := by decide
    refine Ev.bind (right_ev 1 1 in1 in1) (Ev_pos (decide_eq_true r1) (Ev.bind (right_ev 1 3 in1 in3) (Ev_pos (decide_eq_true r3) ?_)))
    refine Ev_neg (by decide) (Ev_neg (by decide) (Ev.step (fun k => by rw [perm_Split.j1]) (Ev_neg (by decide) ?_)))
    have pa : Ev (fun k => perm_parts.f k 1 1 1 3) (2, 3, 1, 3, 0) := by
      unfold perm_parts.f
      refine Ev.bind (Ev.now (1, 1)) (Ev.bind (Ev_cast (sub_ev' 1 1 1 3 in1 in1 in1 in3) sub_third) (Ev_pos rfl ?_))
      refine Ev.bind (Ev_cast (mul_ev 1 1 2 3 in1 in1 in2 in3) mul_third.1) (Ev_pos rfl ?_)
      exact Ev.bind (Ev_cast (mul_ev 1 1 1 3 in1 in1 in1 in3) mul_third.2) (Ev.now _)
    refine Ev.bind pa (Ev_pos rfl (Ev_neg (by decide) (Ev.step (fun k => by rw [perm_Split.j2]) (Ev.now _))))
  exact Ev.bind sp (Ev_pos rfl (Ev_pos (by decide) (Ev_some fun _ => by decide)))
theorem halves1 (x7 x8 s0 n d root v : Int) (hn : In64 n) (hd : In64 d) : Ev (fun k => ballcocklaw15_PermHalves.j1 k x7 x8 s0 n d root v) true := by
  refine Ev.step (fun k => by rw [ballcocklaw15_PermHalves.j1]) ?_
  obtain ⟨t, ht, g⟩ := split_any s0 n d root v x7 x8 hn hd
  refine Ev.bind ht ?_
  rcases g with ⟨e, he, rfl⟩ | ⟨x, y, z, u, rfl⟩
  · exact Ev_neg he (Ev_pos (by simp) (Ev_some fun _ => by simp))
  · exact Ev_pos rfl (Ev_pos (by simp) (Ev_pos rfl (Ev_pos rfl (Ev_pos rfl (Ev_some fun _ => by simp)))))
theorem halves0 (x7 x8 : Int) (b : Bool) (s0 n d root v : Int) (hn : In64 n) (hd : In64 d) : Ev (fun k => ballcocklaw15_PermHalves.j0 k x7 x8 b s0 n d root v) true := by
  refine Ev.step (fun k => by rw [ballcocklaw15_PermHalves.j0]) ?_
  cases b
  · exact Ev_neg (by decide) (halves1 _ _ _ _ _ _ _ hn hd)
  · exact Ev_pos rfl (halves1 _ _ _ _ _ _ _ hn hd)
theorem pure_holds (a0 n d root v a1 a2 : Int) (_h0 : (Lit.int .i64 a0).wf = true) (h1 : (Lit.int .i64 n).wf = true) (h2 : (Lit.int .i64 d).wf = true) (_h3 : (Lit.int .i64 root).wf = true) (_h4 : (Lit.int .u32 v).wf = true) (_h5 : (Lit.int .u8 a1).wf = true) (_h6 : (Lit.int .u8 a2).wf = true) : ∃ k, ballcocklaw15_PermHalves.f k a0 n d root v a1 a2 = some true := by
  apply Ev.rounds
  have i1 := in_of_wf h1; have i2 := in_of_wf h2
  unfold ballcocklaw15_PermHalves.f
  refine Ev.bind awake15 (Ev_pos rfl ?_)
  by_cases c : a0 = 0
  · exact Ev_pos c (halves0 _ _ _ _ _ _ _ _ i1 i2)
  · exact Ev_neg c (halves0 _ _ _ _ _ _ _ _ i1 i2)
end Halves
end Go.Proofs.Ytpcdcanmbokpfaa.PPH
