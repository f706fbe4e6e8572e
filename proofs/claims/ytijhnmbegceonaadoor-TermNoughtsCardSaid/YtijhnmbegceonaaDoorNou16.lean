-- Words and walks printed by the kit and by programs of this session, and texts by hand, cut to what this law uses (wip/pack.py).
import Derived.Test.YtijhnmbegceonaaDoorNou14
import Derived.Test.YtijhnmbegceonaaDoorNou15
namespace Go.Proofs.YtijhnmbegceonaaDoor.PTerm
open Go.RowKit Go.Proofs.YtijhnmbegceonaaDoorW.PrintWords Go.Proofs.YtijhnmbegceonaaDoorW.PrintLast Go.Proofs.YtijhnmbegceonaaDoorW.PrintMore
attribute [local go_sem] max2_int min2_int max_two min_two max_three min_three max_four min_four
set_option linter.unusedVariables false
set_option linter.unusedSimpArgs false
def areg44.T : Bool × List (List Nat × List Nat) := (true, [([], []), ([], []), ([0, 1], [0, 1]), ([], []), ([2, 3, 2], [2, 3]), ([4], [4]), ([4], [4]), ([5, 4, 0, 1, 2, 3, 4, 5, 6], [5]), ([6, 7, 0, 1, 2, 3, 4, 5, 6, 7], [6])])
def areg44.B : List Nat := [0, 0, 3, 0, 15, 31, 31, 127, 255]
theorem areg44.tab : rtab .any (opsOf Tryd.f44 1) = areg44.T := by kernel_rfl
theorem areg44.bits : waitsOk areg44.T.2 areg44.B = true := by kernel_rfl
def scaleF (l0 : List (S24)) (n0 d0 : Int) (n1 d1 : Int) (i : Nat) : Int × Int × Int := PRat.mulS (oneT l0 n0 d0 i).1 (oneT l0 n0 d0 i).2 n1 d1
set_option maxHeartbeats 4000000 in
set_option maxRecDepth 100000 in
theorem term_Scale.c44 (A0 : Option Addr) (c0 : Nat) (l0 : List (S24)) (n0 d0 : Int) (n1 d1 : Int) (ga gb : Nat) (w : World) (ha : w.heap[ga]? = some (.cells #[.slice A0 l0.length c0, .int .i64 n0, .int .i64 d0] 26 (0, 0))) (hb : w.heap[gb]? = some (.cells #[.int .i64 n1, .int .i64 d1] 24 (0, 0))) (hr0 : Kd.C k24 w A0 l0.length l0) (hc0 : l0.length ≤ c0)  (h0 : inAll l0 ∧ BallQ.In64 n0 ∧ BallQ.In64 d0) (h1 : BallQ.In64 n1 ∧ BallQ.In64 d1) (i : Nat) :
    Calls Tryd.prog 44 #[.int .i64 ((i : Int) - 1), .pointer (some ⟨ga, 0, none⟩), .pointer (some ⟨gb, 0, none⟩)] w fun e w' => e = .returned (.tuple #[.agg #[.int .i64 (scaleF l0 n0 d0 n1 d1 i).1, .int .i64 (scaleF l0 n0 d0 n1 d1 i).2.1], .int .i64 (scaleF l0 n0 d0 n1 d1 i).2.2]) ∧ Below w.heap.size w w' := by
  have C0 := Aside0.mk (fun W (hb : Below w.heap.size w W) => term_one.calls 1 A0 c0 l0 n0 d0 ((i : Int) - 1) (oneT l0 n0 d0 i).1 (oneT l0 n0 d0 i).2 W (Kd.C_below hr0 hb) hc0 (one_ev l0 n0 d0 i))
  have i0 := one_in h0.1 h0.2.1 h0.2.2 i
  have C2 := Aside0.mk (fun W => rat_Mul.calls (oneT l0 n0 d0 i).1 (oneT l0 n0 d0 i).2 n1 d1 (scaleF l0 n0 d0 n1 d1 i).1 (scaleF l0 n0 d0 n1 d1 i).2.1 (scaleF l0 n0 d0 n1 d1 i).2.2 W (by unfold rat_Mul.f; rw [if_pos ⟨i0, h1⟩]; rfl))
  generalize scaleF l0 n0 d0 n1 d1 i = z at C2 ⊢
  generalize (oneT l0 n0 d0 i).1 = x0 at C0 C2
  generalize (oneT l0 n0 d0 i).2 = x1 at C0 C2
  clear i0 h0 h1 hr0 hc0
  obtain ⟨j, hj⟩ : ∃ j : Int, j = (i : Int) - 1 := ⟨_, rfl⟩
  rw [← hj] at C0 ⊢
  clear hj
  obtain ⟨z0, z1, z2⟩ := z
  simp only at C2 ⊢
  have HZ := Aside0.mk (blk_new w (.cells #[.int .i64 0, .int .i64 0] 24 (0, 0)))
  have HB := Aside0.mk (below_alloc (Below.refl w.heap.size w) (.cells #[.int .i64 0, .int .i64 0] 24 (0, 0)))
  have HA := Aside0.mk (blk_alloc ha (.cells #[.int .i64 0, .int .i64 0] 24 (0, 0)))
  have HD := Aside0.mk (blk_alloc hb (.cells #[.int .i64 0, .int .i64 0] 24 (0, 0)))
  have NE := Aside0.mk (show ga ≠ w.heap.size ∧ gb ≠ w.heap.size ∧ w.heap.size ≤ w.heap.size from ⟨by have := blk_lt ha; omega, by have := blk_lt hb; omega, Nat.le_refl _⟩)
  clear ha hb
  go_enter Tryd.func44, Tryd.ntmps44
  go_wp2_with (fail)
  generalize hW2 : w.alloc (.cells #[.int .i64 0, .int .i64 0] 24 (0, 0)) = W1 at HZ HB HA HD ⊢
  clear hW2
  obtain ⟨gr, hgr⟩ : ∃ gr, gr = w.heap.size := ⟨_, rfl⟩
  have GE := Aside0.mk (show w.heap.size ≤ gr by rw [hgr]; exact Nat.le_refl _)
  rw [← hgr] at HZ NE ⊢
  clear hgr
  have HZ0 := Aside0.mk (blk_drew HZ.out)
  have HB0 := Aside0.mk (below_drew1 HB.out)
  have HA0 := Aside0.mk (blk_drew HA.out)
  have HD0 := Aside0.mk (blk_drew HD.out)
  refine start_ (n := 9) (S := (fun w' => w'.cell? ⟨ga, 0, none⟩ = some (.slice A0 l0.length c0) ∧ w'.cell? ⟨ga, 1, none⟩ = some (.int .i64 n0) ∧ w'.cell? ⟨ga, 2, none⟩ = some (.int .i64 d0) ∧ w'.cell? ⟨gb, 0, none⟩ = some (.int .i64 n1) ∧ w'.cell? ⟨gb, 1, none⟩ = some (.int .i64 d1))) (ds := []) #[false, false, false, false, false, false, false, false, false] (by kernel_rfl) rfl rfl (⟨(blk_cell HA.out 0).trans rfl, (blk_cell HA.out 1).trans rfl, (blk_cell HA.out 2).trans rfl, (blk_cell HD.out 0).trans rfl, (blk_cell HD.out 1).trans rfl⟩) (fun hHeld => ?_); refine with_tabW areg44.tab areg44.bits (fun HT_ HW_ => ?_)
  clear HZ HB HA HD
  generalize W1.drew = Wq at HZ0 HB0 HA0 HD0 hHeld ⊢
  refine take_ (i := 0) (N := some 6) (v := ?_) (a' := ?_) #[true, false, false, false, false, false, false, false, false] rfl rfl (take_ofW HT_.out HW_.out (by kernel_rfl)) (fun _ _ _ h => h) (Or.inl ⟨by rfl, ?_⟩) hHeld ?_ ?_
  rotate_left
  · intro w' s0
    obtain ⟨s0, s1, s2, s3, s4⟩ := s0
    go_simp
    with_reducible rfl
  rotate_left
  · simp only [Act.put, List.setIfInBounds_toArray, List.set_cons_zero, List.set_cons_succ, i64_w, i32_w]
    rfl
  refine pure_ (i := 1) (N := some 7) (v := ?_) (a' := ?_) #[true, true, false, false, false, false, false, false, false] rfl rfl (any_of HT_.out (by kernel_rfl)) (fun _ _ _ h => h) (Or.inl ⟨by rfl, ?_⟩) ?_ ?_
  rotate_left
  · intro w'
    go_simp
    with_reducible rfl
  rotate_left
  · simp only [Act.put, List.setIfInBounds_toArray, List.set_cons_zero, List.set_cons_succ, i64_w, i32_w]
    rfl
  refine take_ (i := 3) (N := some 9) (v := ?_) (a' := ?_) #[true, true, false, true, false, false, false, false, false] rfl rfl (take_ofW HT_.out HW_.out (by kernel_rfl)) (fun _ _ _ h => h) (Or.inl ⟨by rfl, ?_⟩) hHeld ?_ ?_
  rotate_left
  · intro w' s0
    obtain ⟨s0, s1, s2, s3, s4⟩ := s0
    go_simp
    with_reducible rfl
  rotate_left
  · simp only [Act.put, List.setIfInBounds_toArray, List.set_cons_zero, List.set_cons_succ, i64_w, i32_w]
    rfl
  refine one_ (i := 2) (N := some 8) #[true, true, true, true, false, false, false, false, false] rfl rfl (one_of HT_.out (by kernel_rfl)) (by decide) (fun K hK => ?_)
  refine goes_ Tryd.func43 (by kernel_rfl) rfl #[.agg #[.slice A0 l0.length c0, .int .i64 n0, .int .i64 d0], .int .i64 j] (by rfl) rfl rfl (by (try simp only [List.map_toArray, List.map_cons, List.map_nil]); first | done | rfl) ?_
  refine (C0.out _ HB0.out).mono ?_
  rintro e W1 ⟨rfl, hq⟩
  have HZ1 := Aside0.mk (blk_below HZ0.out hq)
  have HA1 := Aside0.mk (blk_below HA0.out hq)
  have HD1 := Aside0.mk (blk_below HD0.out hq)
  have HB1 := Aside0.mk (below_step HB0.out hq)
  clear hq HZ0 HA0 HD0 HB0
  refine ⟨_, rfl, ?_⟩
  refine hK.out _ _ ⟨(blk_cell HA1.out 0).trans rfl, (blk_cell HA1.out 1).trans rfl, (blk_cell HA1.out 2).trans rfl, (blk_cell HD1.out 0).trans rfl, (blk_cell HD1.out 1).trans rfl⟩ (fun hHeld => ?_)
  clear hK K
  refine norm_ (a' := ?_) ?_ ?_
  rotate_left
  · show Act.put _ (some 8) _ = _
    simp only [Act.put, List.setIfInBounds_toArray, List.set_cons_zero, List.set_cons_succ, i64_w, i32_w]
    rfl
  refine one_ (i := 4) (N := some 10) #[true, true, true, true, true, false, false, false, false] rfl rfl (one_of HT_.out (by kernel_rfl)) (by decide) (fun K hK => ?_)
  refine goes_ Tryd.func45 (by kernel_rfl) rfl #[.agg #[.int .i64 x0, .int .i64 x1], .agg #[.int .i64 n1, .int .i64 d1]] (by rfl) rfl rfl (by (try simp only [List.map_toArray, List.map_cons, List.map_nil]); first | done | rfl) ?_
  refine (C2.out _).mono ?_
  rintro e W2 ⟨rfl, hq⟩
  have HZ2 := Aside0.mk (blk_below HZ1.out hq)
  have HA2 := Aside0.mk (blk_below HA1.out hq)
  have HD2 := Aside0.mk (blk_below HD1.out hq)
  have HB2 := Aside0.mk (below_step HB1.out hq)
  clear hq HZ1 HA1 HD1 HB1
  refine ⟨_, rfl, ?_⟩
  refine hK.out _ _ ⟨(blk_cell HA2.out 0).trans rfl, (blk_cell HA2.out 1).trans rfl, (blk_cell HA2.out 2).trans rfl, (blk_cell HD2.out 0).trans rfl, (blk_cell HD2.out 1).trans rfl⟩ (fun hHeld => ?_)
  clear hK K
  refine norm_ (a' := ?_) ?_ ?_
  rotate_left
  · show Act.put _ (some 10) _ = _
    simp only [Act.put, List.setIfInBounds_toArray, List.set_cons_zero, List.set_cons_succ, i64_w, i32_w]
    rfl
  refine pure_ (i := 5) (N := some 11) (v := ?_) (a' := ?_) #[true, true, true, true, true, true, false, false, false] rfl rfl (any_of HT_.out (by kernel_rfl)) (fun _ _ _ h => h) (Or.inl ⟨by rfl, ?_⟩) ?_ ?_
  rotate_left
  · intro w'
    go_simp
    with_reducible rfl
  rotate_left
  · simp only [Act.put, List.setIfInBounds_toArray, List.set_cons_zero, List.set_cons_succ, i64_w, i32_w]
    rfl
  refine pure_ (i := 6) (N := some 12) (v := ?_) (a' := ?_) #[true, true, true, true, true, true, true, false, false] rfl rfl (any_of HT_.out (by kernel_rfl)) (fun _ _ _ h => h) (Or.inl ⟨by rfl, ?_⟩) ?_ ?_
  rotate_left
  · intro w'
    go_simp
    with_reducible rfl
  rotate_left
  · simp only [Act.put, List.setIfInBounds_toArray, List.set_cons_zero, List.set_cons_succ, i64_w, i32_w]
    rfl
  have k0 := (blk_cell HZ2.out 0).trans rfl
  have k1 := (blk_cell HZ2.out 1).trans rfl
  have f0 := blk_frozen HZ2.out 0
  have f1 := blk_frozen HZ2.out 1
  refine one_ (i := 7) (N := none) #[true, true, true, true, true, true, true, true, false] rfl rfl (one_of HT_.out (by kernel_rfl)) (by decide) (fun K hK => ?_)
  refine skip_ (w1 := (W2.setCell ⟨gr, 0, none⟩ (.int .i64 z0)).setCell ⟨gr, 1, none⟩ (.int .i64 z1)) (by rfl) rfl (by first | (go_simp; done) | (go_simp; rfl)) ?_
  have HAz := Aside0.mk (blk_far (p := ⟨gr, 1, none⟩) (blk_far (p := ⟨gr, 0, none⟩) HA2.out NE.out.1 (.int .i64 z0)) NE.out.1 (.int .i64 z1))
  have HDz := Aside0.mk (blk_far (p := ⟨gr, 1, none⟩) (blk_far (p := ⟨gr, 0, none⟩) HD2.out NE.out.2.1 (.int .i64 z0)) NE.out.2.1 (.int .i64 z1))
  refine hK.out _ _ ⟨(blk_cell HAz.out 0).trans rfl, (blk_cell HAz.out 1).trans rfl, (blk_cell HAz.out 2).trans rfl, (blk_cell HDz.out 0).trans rfl, (blk_cell HDz.out 1).trans rfl⟩ (fun hHeld => ?_)
  clear hK K k0 k1 f0 f1
  refine norm_ (a' := ?_) ?_ ?_
  rotate_left
  · rfl
  refine pure_ (i := 8) (N := some 5) (v := ?_) (a' := ?_) #[true, true, true, true, true, true, true, true, true] rfl rfl (any_of HT_.out (by kernel_rfl)) (fun _ _ _ h => h) (Or.inl ⟨by rfl, ?_⟩) ?_ ?_
  rotate_left
  · intro w'
    go_simp
    with_reducible rfl
  rotate_left
  · simp only [Act.put, List.setIfInBounds_toArray, List.set_cons_zero, List.set_cons_succ, i64_w, i32_w]
    rfl
  refine done_ (done_of HT_.out (by kernel_rfl)) ?_
  go_wp2_with (fail)
  refine bodyPost_ret (results_ct rfl _ _ gr 24 #[.int .i64 z0, .int .i64 z1] (0, 0) _ rfl (blk_put (cs := #[.int .i64 z0, .int .i64 0]) (blk_put (cs := #[.int .i64 0, .int .i64 0]) HZ2.out 0 _ rfl) 1 _ rfl) Tryd.underlying24 rfl (by kernel_rfl)) rfl ?_
  exact ⟨rfl, below_set (below_set HB2.out GE.out) GE.out⟩
set_option maxHeartbeats 4000000 in
set_option maxRecDepth 100000 in
theorem term_Scale.each44 (f : Nat → Int × Int × Int) (n : Nat) (hn : n < 900000) (ga gb : Nat) (w : World) (HF : ∀ (i : Nat) (W : World), Below w.heap.size w W → Calls Tryd.prog 44 #[.int .i64 ((i : Int) - 1), .pointer (some ⟨ga, 0, none⟩), .pointer (some ⟨gb, 0, none⟩)] W fun e w' => e = .returned (.tuple #[.agg #[.int .i64 (f i).1, .int .i64 (f i).2.1], .int .i64 (f i).2.2]) ∧ Below W.heap.size W w') :
    Calls Tryd.prog 40 #[.int .i64 (n : Int), .func (.func 44) #[] #[.pointer (some ⟨ga, 0, none⟩), .pointer (some ⟨gb, 0, none⟩)]] w (EachO (eachT f n) w) := by
  have hu24 := Tryd.underlying24
  have hu26 := Tryd.underlying26
  have HFA := Aside0.mk HF
  have hw : wrap64 ((n : Int) + 1) = ((n + 1 : Nat) : Int) := by unfold wrap64; omega
  have HN := Aside0.mk hn
  have HS := Aside0.mk (two_new w (.cells #[.slice none 0 0, .int .i64 0, .int .i64 0] 26 (0, 0)) (.cells #[.slice none 0 0, .int .i64 0, .int .i64 0] 26 (0, 0)))
  have HB := Aside0.mk (below_alloc (below_alloc (Below.refl w.heap.size w) (.cells #[.slice none 0 0, .int .i64 0, .int .i64 0] 26 (0, 0))) (.cells #[.slice none 0 0, .int .i64 0, .int .i64 0] 26 (0, 0)))
  have HG := Aside0.mk (show w.heap.size ≤ w.heap.size ∧ w.heap.size ≤ w.heap.size + 1 ∧ w.heap.size + 1 ≠ w.heap.size from ⟨Nat.le_refl _, Nat.le_succ _, by omega⟩)
  have HW := Aside0.mk hw
  clear hn HF hw
  go_enter Tryd.func40, Tryd.ntmps40
  go_wp2_with (fail)
  rw [HW.out]
  obtain ⟨N, hN⟩ : ∃ N : Nat, N = n + 1 := ⟨_, rfl⟩
  rw [← hN]
  have HNn := Aside0.mk hN
  clear hN HW
  generalize hW2 : (w.alloc (.cells #[.slice none 0 0, .int .i64 0, .int .i64 0] 26 (0, 0))).alloc (.cells #[.slice none 0 0, .int .i64 0, .int .i64 0] 26 (0, 0)) = W2 at HS HB ⊢
  clear hW2
  obtain ⟨gr, hgr⟩ : ∃ gr, gr = w.heap.size := ⟨_, rfl⟩
  obtain ⟨gt, hgt⟩ : ∃ gt, gt = w.heap.size + 1 := ⟨_, rfl⟩
  have HR := Aside0.mk (show W2.heap[gr]? = some (.cells #[.slice none 0 0, .int .i64 0, .int .i64 0] 26 (0, 0)) by rw [hgr]; exact HS.out.1)
  have HT := Aside0.mk (show W2.heap[gt]? = some (.cells #[.slice none 0 0, .int .i64 0, .int .i64 0] 26 (0, 0)) by rw [hgt]; exact HS.out.2)
  have GG := Aside0.mk (show w.heap.size ≤ gr ∧ w.heap.size ≤ gt ∧ gr ≠ gt by omega)
  clear HS HG
  rw [← hgt, ← hgr]
  clear hgt hgr
  obtain ⟨kk, hkk⟩ : ∃ k : Nat, k = N + 1 := ⟨_, rfl⟩
  go_loopg [12] kk (fun kq v12 W => ∃ (i : Nat) (v : Value) (a b : Int) (C : List (S24)), v12 = .int .i64 (i : Int) ∧ Aside0 (i ≤ N ∧ N < i + kq) ∧ Aside0 (kq ≤ kk) ∧ Aside0 (∀ j, j < i → (f j).2.2 = 0) ∧ Aside0 (W.heap[gt]? = some (.cells #[v, .int .i64 a, .int .i64 b] 26 (0, 0))) ∧ Aside0 (W.heap[gr]? = some (.cells #[.slice none 0 0, .int .i64 0, .int .i64 0] 26 (0, 0))) ∧ Aside0 (Kd.R k24 24 W w.heap.size (fun _ => True) v C) ∧ Aside0 (C = (List.range (i - 1)).map (fun q => (⟨(f (q + 1)).1, (f (q + 1)).2.1⟩ : S24)) ∧ (0 < i → a = (f 0).1 ∧ b = (f 0).2.1)) ∧ Aside0 (Below w.heap.size w W))
  case atStart => exact ⟨0, .slice none 0 0, 0, 0, [], rfl, ⟨by omega⟩, ⟨Nat.le_refl _⟩, ⟨fun j hj => absurd hj (by omega)⟩, HT, HR, ⟨Kd.R_nil _ _ _ _ _⟩, ⟨rfl, fun h => absurd h (by omega)⟩, HB⟩
  case round =>
    clear HB HT HR
    obtain ⟨i, v, a, b, C, rfl, HJ, HK, H0, HT, HR, HO, HC, HB⟩ := hrel
    cases gk with
    | zero => exact absurd HJ.out (by omega)
    | succ k1 =>
      by_cases hlt : i < N
      · have d1 : decide ((i : Int) < (N : Int)) = true := decide_eq_true (by omega)
        have d2 : decide (i < N) = true := decide_eq_true hlt
        have hwi : wrap64 ((i : Int) - 1) = (i : Int) - 1 := by have := HN.out; have := HNn.out; unfold wrap64; omega
        have hf := HFA.out i
        rw [← hwi] at hf
        have HFI := Aside0.mk hf
        have HLt := Aside0.mk hlt
        have HWi := Aside0.mk hwi
        clear hf hwi hlt
        obtain ⟨z, hz⟩ : ∃ z, z = f i := ⟨_, rfl⟩
        rw [← hz] at HFI
        have HZ := Aside0.mk hz
        clear hz
        obtain ⟨z0, z1, z2⟩ := z
        simp only at HFI
        go_wp2_with (fail)
        refine (HFI.out _ HB.out).mono ?_
        rintro e W1 ⟨rfl, hb⟩
        have HB1 := Aside0.mk (below_alloc (below_step HB.out hb) (.cells #[.int .i64 z0, .int .i64 z1] 24 (0, 0)))
        have HT1 := Aside0.mk (blk_alloc (blk_below HT.out hb) (.cells #[.int .i64 z0, .int .i64 z1] 24 (0, 0)))
        have HR1 := Aside0.mk (blk_alloc (blk_below HR.out hb) (.cells #[.int .i64 z0, .int .i64 z1] 24 (0, 0)))
        have HO1 := Aside0.mk (Kd.R_alloc (Kd.R_below HO.out hb) (.cells #[.int .i64 z0, .int .i64 z1] 24 (0, 0)))
        have HX1 := Aside0.mk (blk_new W1 (.cells #[.int .i64 z0, .int .i64 z1] 24 (0, 0)))
        have HE := Aside0.mk (show (W1.alloc (.cells #[.int .i64 z0, .int .i64 z1] 24 (0, 0))).heap.size = W1.heap.size + 1 by show (W1.heap.push _).size = _; simp)
        clear hb HB HT HR HO d1 d2
        by_cases hz2 : z2 = 0
        rotate_left
        · have e1 : (z2 == 0) = false := by simp [hz2]
          have e2 : (z2 != 0) = true := by simp [hz2]
          have HZ2 := Aside0.mk hz2
          clear hz2
          have k0 := (blk_cell HR1.out 0).trans rfl
          have k1c := (blk_cell HR1.out 1).trans rfl
          have k2c := (blk_cell HR1.out 2).trans rfl
          have f0 := blk_frozen HR1.out 0
          have f1 := blk_frozen HR1.out 1
          have f2 := blk_frozen HR1.out 2
          go_wp2_with (fail)
          (try simp only [Exit.inBlock, Exit.then])
          refine bodyPost_ret (results_ct rfl _ _ gr 26 #[.slice none 0 0, .int .i64 0, .int .i64 0] (0, 0) _ rfl (blk_put (blk_put (blk_put HR1.out 0 (.slice none 0 0) rfl) 1 (.int .i64 0) rfl) 2 (.int .i64 0) rfl) Tryd.underlying26 rfl (by kernel_rfl)) rfl ?_
          have hbad := each_bad (f := f) (n := n) (i := i) (by have := HLt.out; have := HNn.out; omega) H0.out (by rw [← HZ.out]; exact HZ2.out)
          rw [hbad]
          exact ⟨_, by rw [← HZ.out]; rfl, Kd.R_nil _ _ _ _ _, below_set (below_set (below_set HB1.out GG.out.1) GG.out.1) GG.out.1⟩
        · subst hz2
          have g0 := (blk_cell HT1.out 0).trans rfl
          have g1 := (blk_cell HT1.out 1).trans rfl
          have g2 := (blk_cell HT1.out 2).trans rfl
          have f0 := blk_frozen HT1.out 0
          have f1 := blk_frozen HT1.out 1
          have f2 := blk_frozen HT1.out 2
          have x0 := (blk_cell HX1.out 0).trans rfl
          have x1 := (blk_cell HX1.out 1).trans rfl
          have hall : ∀ j, j < i + 1 → (f j).2.2 = 0 := by
            intro j hj
            by_cases hji : j = i
            · subst hji; rw [← HZ.out]
            · exact H0.out j (by omega)
          have HA := Aside0.mk hall
          clear hall
          have HI2 := Aside0.mk (show i + 1 ≤ N ∧ N < (i + 1) + k1 from ⟨by have := HLt.out; omega, by have := HJ.out; omega⟩)
          have HWs := Aside0.mk (show wrap64 ((i : Int) + 1) = ((i + 1 : Nat) : Int) by have := HLt.out; have := HN.out; have := HNn.out; unfold wrap64; omega)
          by_cases hi0 : i = 0
          · have e3 : ((i : Int) == 0) = true := by simp [hi0]
            have e4 : ((i : Int) != 0) = false := by simp [hi0]
            have e5 : (i == 0) = true := by simp [hi0]
            have HI0 := Aside0.mk hi0
            clear hi0
            go_wp2_with (fail)
            go_roundg k1
            case measure => have := HK.out; omega
            case rel =>
              refine ⟨i + 1, v, z0, z1, C, by rw [HWs.out], ⟨HI2.out⟩, ⟨by have := HK.out; omega⟩, HA, ⟨?_⟩, ⟨?_⟩, ⟨?_⟩, ⟨?_, fun _ => ?_⟩, ⟨?_⟩⟩
              · exact blk_put (blk_put HT1.out 1 (.int .i64 z0) rfl) 2 (.int .i64 z1) rfl
              · exact blk_far (p := ⟨gt, 2, none⟩) (blk_far (p := ⟨gt, 1, none⟩) HR1.out GG.out.2.2 (.int .i64 z0)) GG.out.2.2 (.int .i64 z1)
              · exact Kd.R_set (Kd.R_set HO1.out HT1.out (by decide) 1 (.int .i64 z0)) (blk_set HT1.out 1 (.int .i64 z0)) (by decide) 2 (.int .i64 z1)
              · have := HC.out.1; rw [this, HI0.out]
              · have := HZ.out; rw [HI0.out] at this; rw [← this]; exact ⟨rfl, rfl⟩
              · exact below_set (below_set HB1.out GG.out.2.1) GG.out.2.1
          · have e3 : ((i : Int) == 0) = false := by simp [hi0]
            have e4 : ((i : Int) != 0) = true := by simp [hi0]
            have e5 : (i == 0) = false := by simp [hi0]
            have HI0 := Aside0.mk hi0
            have HCl := Aside0.mk (show C.length < 1000000 by have h9 := HC.out.1; have := HLt.out; have := HN.out; have := HNn.out; rw [h9]; simp; omega)
            clear hi0
            go_wp2_with (first | ((with_reducible refine gate_builtin (b := .append) (xs := #[.tmp 31, .tmp 33]) rfl ?_); at_builtin; refine Kd.R_append k24 (w0 := w) w.heap.size rfl (.tmp 31) (.tmp 33) 22 24 (.agg #[(.int .i64 0), (.int .i64 0)]) 16 rfl Tryd.underlying22 info24 rfl (by decide) (by omega) v C (⟨z0, z1⟩ : S24) [.int .i64 z0, .int .i64 z1] (fun _ => True) (fun _ => False) rfl (by first | rfl | (rw [HE.out]; rfl)) ?aP (fun _ hk => hk.elim) ?aF ?aO ?aB ?aS ?aL ?_; (case aP => exact k24_mkM _ _ _ (⟨z0, z1⟩ : S24)); (case aB => exact HB1.out); (case aF => exact (fun _ _ => trivial)); (case aO => exact HO1.out); (case aS => exact (below_size HB1.out)); (case aL => have := HCl.out; omega); intro v1 w1 ho hb hg hat; obtain ⟨Av, cv, hv1⟩ := Kd.R_slice ho; subst hv1; have HOa := Aside0.mk (show Kd.R k24 24 w1 w.heap.size (fun _ => True) (.slice Av (C.length + 1) cv) (C ++ [(⟨z0, z1⟩ : S24)]) by rw [List.length_append] at ho; exact ho); have HBa := Aside0.mk hb; have HTa := Aside0.mk (blk_grown HT1.out hg (Kd.R_ne HO1.out HT1.out (by decide))); have HRa := Aside0.mk (blk_grown HR1.out hg (Kd.R_ne HO1.out HR1.out (by decide))); clear ho hb hg hat g0 g1 g2 f0 f1 f2 x0 x1; have g0 := (blk_cell HTa.out 0).trans rfl; have f0 := blk_frozen HTa.out 0))
            go_roundg k1
            case measure => have := HK.out; omega
            case rel =>
              refine ⟨i + 1, .slice Av (C.length + 1) cv, a, b, C ++ [⟨z0, z1⟩], by rw [HWs.out], ⟨HI2.out⟩, ⟨by have := HK.out; omega⟩, HA, ⟨?_⟩, ⟨?_⟩, ⟨?_⟩, ⟨?_, fun _ => HC.out.2 (by have := HI0.out; omega)⟩, ⟨?_⟩⟩
              · exact blk_put HTa.out 0 _ rfl
              · exact blk_far (p := ⟨gt, 0, none⟩) HRa.out GG.out.2.2 _
              · exact Kd.R_set HOa.out HTa.out (by decide) 0 _
              · obtain ⟨q, hq⟩ : ∃ q, i = q + 1 := ⟨i - 1, by have := HI0.out; omega⟩
                have h9 := HC.out.1
                have hz := HZ.out
                rw [h9, hq, Nat.add_sub_cancel, Nat.add_sub_cancel, List.range_succ, List.map_append, List.map_cons, List.map_nil]
                rw [hq] at hz
                rw [← hz]
              · exact below_set HBa.out GG.out.2.1
      · have hi : i = N := by have := HJ.out; omega
        obtain ⟨A, c, hv⟩ := Kd.R_slice HO.out
        have hC := HC.out.1
        have hCl : C.length = n := by have := HNn.out; rw [hC, List.length_map, List.length_range]; omega
        obtain ⟨kt, hkt⟩ := Ev.rounds (trim_ev C a b (by have := HN.out; omega))
        have d1 : decide ((i : Int) < (N : Int)) = false := decide_eq_false (by omega)
        have d2 : decide (i < N) = false := decide_eq_false (by omega)
        have ho := HO.out
        rw [hv] at ho
        obtain ⟨_, hcc, hCC⟩ := Kd.R_reads' ho
        have hn1 : n + 1 = N := HNn.out.symm
        have hgood := each_good (f := f) (n := n) (fun j hj => H0.out j (by omega))
        have hab := HC.out.2 (by omega)
        have eL : (List.range (i - 1)).map (fun q => (⟨(f (q + 1)).1, (f (q + 1)).2.1⟩ : S24)) = (List.range n).map (fun q => (⟨(f (q + 1)).1, (f (q + 1)).2.1⟩ : S24)) := by rw [show i - 1 = n by omega]
        rw [← eL, ← hC, ← hab.1, ← hab.2] at hgood
        have HGo := Aside0.mk hgood
        subst hv
        have HT9 := Aside0.mk (fun W (hb : Below wr.heap.size wr W) => term_trim.calls kt A c C a b (trimT C) a b W (Kd.C_below hCC hb) hcc hkt)
        have g0 := (blk_cell HT.out 0).trans rfl
        have g1 := (blk_cell HT.out 1).trans rfl
        have g2 := (blk_cell HT.out 2).trans rfl
        clear hi hC hCl hkt hcc hCC hn1 hgood hab eL ho hlt
        go_wp2_with (fail)
        refine (HT9.out _ (Below.refl _ _)).mono ?_
        rintro e W4 ⟨vr, rfl, ho4, hb4⟩
        obtain ⟨Av, cv, hvr⟩ := Kd.R_slice ho4
        subst hvr
        have HR4 := Aside0.mk (blk_below HR.out hb4)
        have HO4 := Aside0.mk (Kd.R_lower ho4 (below_size HB.out))
        have HB4 := Aside0.mk (below_step HB.out hb4)
        clear ho4 hb4 g0 g1 g2
        have k0 := (blk_cell HR4.out 0).trans rfl
        have k1c := (blk_cell HR4.out 1).trans rfl
        have k2c := (blk_cell HR4.out 2).trans rfl
        have f0 := blk_frozen HR4.out 0
        have f1 := blk_frozen HR4.out 1
        have f2 := blk_frozen HR4.out 2
        go_wp2_with (fail)
        (try simp only [Exit.inBlock, Exit.then])
        refine bodyPost_ret (results_ct rfl _ _ gr 26 #[(.slice Av (trimT C).length cv), .int .i64 a, .int .i64 b] (0, 0) _ rfl (blk_put (blk_put (blk_put HR4.out 0 (.slice Av (trimT C).length cv) rfl) 1 (.int .i64 a) rfl) 2 (.int .i64 b) rfl) Tryd.underlying26 rfl (by kernel_rfl)) rfl ?_
        rw [HGo.out]
        exact ⟨_, rfl, Kd.R_set (Kd.R_set (Kd.R_set HO4.out HR4.out (by decide) 0 (.slice Av (trimT C).length cv)) (blk_set HR4.out 0 (.slice Av (trimT C).length cv)) (by decide) 1 (.int .i64 a)) (blk_set (blk_set HR4.out 0 (.slice Av (trimT C).length cv)) 1 (.int .i64 a)) (by decide) 2 (.int .i64 b), below_set (below_set (below_set HB4.out GG.out.1) GG.out.1) GG.out.1⟩
def scaleT (l0 : List (S24)) (n0 d0 : Int) (n1 d1 : Int) : List (S24) × Int × Int × Int :=
  if (rightT l0 n0 d0 && decide (BallQ.Right n1 d1)) = true then eachT (scaleF l0 n0 d0 n1 d1) l0.length else ([], 0, 0, 2)
def term_Scale.f (l0_0 : List (S24)) (a0_1 : Int) (a0_2 : Int) (a1_0 : Int) (a1_1 : Int) : Option (List (S24) × Int × Int × Int) := if (inAll l0_0 ∧ l0_0.length < 800000 ∧ BallQ.In64 a0_1 ∧ BallQ.In64 a0_2) ∧ BallQ.In64 a1_0 ∧ BallQ.In64 a1_1 then some (scaleT l0_0 a0_1 a0_2 a1_0 a1_1) else none
set_option maxHeartbeats 4000000 in
set_option maxRecDepth 100000 in
theorem term_Scale.calls (A0_0 : Option Addr) (c0_0 : Nat) (l0_0 : List (S24)) (a0_1 : Int) (a0_2 : Int) (a1_0 : Int) (a1_1 : Int) (r1 : List (S24)) (r2 : Int) (r3 : Int) (r4 : Int) (w : World) (hr0_0 : Kd.C k24 w A0_0 l0_0.length l0_0) (hc0_0 : l0_0.length ≤ c0_0) (h : term_Scale.f l0_0 a0_1 a0_2 a1_0 a1_1 = some (r1, r2, r3, r4)) :
    Calls Tryd.prog 21 #[.agg #[.slice A0_0 l0_0.length c0_0, .int .i64 a0_1, .int .i64 a0_2], .agg #[.int .i64 a1_0, .int .i64 a1_1]] w fun e w' => ∃ v0_ : Value, e = .returned (.tuple #[.agg #[v0_, .int .i64 r2, .int .i64 r3], .int .i64 r4]) ∧ Kd.R k24 24 w' w.heap.size (fun _ => True) v0_ r1 ∧ Below w.heap.size w w' := by
  unfold term_Scale.f at h
  split at h
  rotate_left
  · cases h
  rename_i hh
  obtain ⟨⟨hin0, hl0, hn0, hd0⟩, hn1, hd1⟩ := hh
  have e := Option.some.inj h
  have e1 : r1 = (scaleT l0_0 a0_1 a0_2 a1_0 a1_1).1 := by rw [e]
  have e2 : r2 = (scaleT l0_0 a0_1 a0_2 a1_0 a1_1).2.1 := by rw [e]
  have e3 : r3 = (scaleT l0_0 a0_1 a0_2 a1_0 a1_1).2.2.1 := by rw [e]
  have e4 : r4 = (scaleT l0_0 a0_1 a0_2 a1_0 a1_1).2.2.2 := by rw [e]
  subst e1 e2 e3 e4
  clear h e
  show Calls Tryd.prog 21 _ w (EachO (scaleT l0_0 a0_1 a0_2 a1_0 a1_1) w)
  have hu26 := Tryd.underlying26
  have W0 : World := w
  have RT0 := Aside0.mk (fun W (hb : Below w.heap.size w W) => term_Right.calls A0_0 c0_0 l0_0 a0_1 a0_2 (rightT l0_0 a0_1 a0_2) W (Kd.C_below hr0_0 hb) hc0_0 (by unfold term_Right.f; rw [if_pos ⟨hin0, by omega, hn0, hd0⟩]))
  have RT1 := Aside0.mk (fun W => rat_Right.calls a1_0 a1_1 (decide (BallQ.Right a1_0 a1_1)) W (by unfold rat_Right.f; rw [if_pos ⟨hn1, hd1⟩]))
  have EA := Aside0.mk (show ∀ (ga gb : Nat) (W : World) (hb : Below w.heap.size w W) (ha : W.heap[ga]? = some (.cells #[.slice A0_0 l0_0.length c0_0, .int .i64 a0_1, .int .i64 a0_2] 26 (0, 0))) (hbb : W.heap[gb]? = some (.cells #[.int .i64 a1_0, .int .i64 a1_1] 24 (0, 0))), Calls Tryd.prog 40 #[.int .i64 (l0_0.length : Int), .func (.func 44) #[] #[.pointer (some ⟨ga, 0, none⟩), .pointer (some ⟨gb, 0, none⟩)]] W (EachO (eachT (scaleF l0_0 a0_1 a0_2 a1_0 a1_1) l0_0.length) W) from by
    rintro ga gb W hb ha hbb
    exact term_Scale.each44 (scaleF l0_0 a0_1 a0_2 a1_0 a1_1) _ (by omega) ga gb W (fun i W2 hb2 => term_Scale.c44 A0_0 c0_0 l0_0 a0_1 a0_2 a1_0 a1_1 ga gb W2 (blk_below ha hb2) (blk_below hbb hb2) (Kd.C_below (Kd.C_below hr0_0 hb) hb2) hc0_0 ⟨hin0, hn0, hd0⟩ ⟨hn1, hd1⟩ i))
  unfold scaleT
  have HLn := Aside0.mk hl0
  have S3 := Aside0.mk (three_new w (.cells #[.slice A0_0 l0_0.length c0_0, .int .i64 a0_1, .int .i64 a0_2] 26 (0, 0)) (.cells #[.int .i64 a1_0, .int .i64 a1_1] 24 (0, 0)) (.cells #[.slice none 0 0, .int .i64 0, .int .i64 0] 26 (0, 0)))
  have HB := Aside0.mk (below_alloc (below_alloc (below_alloc (Below.refl w.heap.size w) (.cells #[.slice A0_0 l0_0.length c0_0, .int .i64 a0_1, .int .i64 a0_2] 26 (0, 0))) (.cells #[.int .i64 a1_0, .int .i64 a1_1] 24 (0, 0))) (.cells #[.slice none 0 0, .int .i64 0, .int .i64 0] 26 (0, 0)))
  have GE := Aside0.mk (show w.heap.size ≤ w.heap.size + 1 + 1 ∧ w.heap.size + 1 + 1 ≠ w.heap.size ∧ w.heap.size + 1 + 1 ≠ w.heap.size + 1 by omega)
  clear hin0 hl0 hn0 hd0 hn1 hd1 hr0_0 hc0_0 W0
  generalize rightT l0_0 a0_1 a0_2 = b0 at RT0 ⊢
  generalize decide (BallQ.Right a1_0 a1_1) = b1 at RT1 ⊢
  generalize eachT (scaleF l0_0 a0_1 a0_2 a1_0 a1_1) l0_0.length = RR at EA ⊢
  cases b0 with
  | false =>
    show Calls Tryd.prog 21 _ w (EachO ([], 0, 0, 2) w)
    go_enter Tryd.func21, Tryd.ntmps21
    go_wp2_with (fail)
    refine (RT0.out _ HB.out).mono ?_
    rintro e W1 ⟨rfl, hb⟩
    have HB1 := Aside0.mk (below_step HB.out hb)
    have HR1 := Aside0.mk (blk_below S3.out.2.2 hb)
    clear hb HB S3
    have k0 := (blk_cell HR1.out 0).trans rfl
    have k1c := (blk_cell HR1.out 1).trans rfl
    have k2c := (blk_cell HR1.out 2).trans rfl
    have f0 := blk_frozen HR1.out 0
    have f1 := blk_frozen HR1.out 1
    have f2 := blk_frozen HR1.out 2
    go_wp2_with (fail)
    (try simp only [Exit.inBlock, Exit.then])
    refine bodyPost_ret (results_ct rfl _ _ (w.heap.size + 1 + 1) 26 #[.slice none 0 0, .int .i64 0, .int .i64 0] (0, 0) _ rfl (blk_put (blk_put (blk_put HR1.out 0 (.slice none 0 0) rfl) 1 (.int .i64 0) rfl) 2 (.int .i64 0) rfl) Tryd.underlying26 rfl (by kernel_rfl)) rfl ?_
    exact ⟨_, rfl, Kd.R_nil _ _ _ _ _, below_set (below_set (below_set HB1.out GE.out.1) GE.out.1) GE.out.1⟩
  | true =>
   cases b1 with
   | false =>
    show Calls Tryd.prog 21 _ w (EachO ([], 0, 0, 2) w)
    go_enter Tryd.func21, Tryd.ntmps21
    go_wp2_with (fail)
    refine (RT0.out _ HB.out).mono ?_
    rintro e W1 ⟨rfl, hb⟩
    have HB1 := Aside0.mk (below_step HB.out hb)
    have HA1 := Aside0.mk (blk_below S3.out.1 hb)
    have HD1 := Aside0.mk (blk_below S3.out.2.1 hb)
    have HR1 := Aside0.mk (blk_below S3.out.2.2 hb)
    clear hb HB S3
    have p0 := (blk_cell HD1.out 0).trans rfl
    have p1 := (blk_cell HD1.out 1).trans rfl
    go_wp2_with (fail)
    refine (RT1.out _).mono ?_
    rintro e W2 ⟨rfl, hb⟩
    have HB2 := Aside0.mk (below_step HB1.out hb)
    have HA2 := Aside0.mk (blk_below HA1.out hb)
    have HD2 := Aside0.mk (blk_below HD1.out hb)
    have HR2 := Aside0.mk (blk_below HR1.out hb)
    clear hb HB1 HA1 HD1 HR1 p0 p1
    have k0 := (blk_cell HR2.out 0).trans rfl
    have k1c := (blk_cell HR2.out 1).trans rfl
    have k2c := (blk_cell HR2.out 2).trans rfl
    have f0 := blk_frozen HR2.out 0
    have f1 := blk_frozen HR2.out 1
    have f2 := blk_frozen HR2.out 2
    go_wp2_with (fail)
    (try simp only [Exit.inBlock, Exit.then])
    refine bodyPost_ret (results_ct rfl _ _ (w.heap.size + 1 + 1) 26 #[.slice none 0 0, .int .i64 0, .int .i64 0] (0, 0) _ rfl (blk_put (blk_put (blk_put HR2.out 0 (.slice none 0 0) rfl) 1 (.int .i64 0) rfl) 2 (.int .i64 0) rfl) Tryd.underlying26 rfl (by kernel_rfl)) rfl ?_
    exact ⟨_, rfl, Kd.R_nil _ _ _ _ _, below_set (below_set (below_set HB2.out GE.out.1) GE.out.1) GE.out.1⟩
   | true =>
    show Calls Tryd.prog 21 _ w (EachO RR w)
    go_enter Tryd.func21, Tryd.ntmps21
    go_wp2_with (fail)
    refine (RT0.out _ HB.out).mono ?_
    rintro e W1 ⟨rfl, hb⟩
    have HB1 := Aside0.mk (below_step HB.out hb)
    have HA1 := Aside0.mk (blk_below S3.out.1 hb)
    have HD1 := Aside0.mk (blk_below S3.out.2.1 hb)
    have HR1 := Aside0.mk (blk_below S3.out.2.2 hb)
    clear hb HB S3
    have p0 := (blk_cell HD1.out 0).trans rfl
    have p1 := (blk_cell HD1.out 1).trans rfl
    go_wp2_with (fail)
    refine (RT1.out _).mono ?_
    rintro e W2 ⟨rfl, hb⟩
    have HB2 := Aside0.mk (below_step HB1.out hb)
    have HA2 := Aside0.mk (blk_below HA1.out hb)
    have HD2 := Aside0.mk (blk_below HD1.out hb)
    have HR2 := Aside0.mk (blk_below HR1.out hb)
    clear hb HB1 HA1 HD1 HR1 p0 p1
    have q0 := (blk_cell HA2.out 0).trans rfl
    go_wp2_with (fail)
    · refine (EA.out _ _ _ HB2.out HA2.out HD2.out).mono ?_
      rintro e W3 ⟨vr, rfl, ho, hb⟩
      obtain ⟨Av, cv, hvr⟩ := Kd.R_slice ho
      subst hvr
      have HO3 := Aside0.mk (Kd.R_lower ho (below_size HB2.out))
      have HB3 := Aside0.mk (below_step HB2.out hb)
      have HR3 := Aside0.mk (blk_below HR2.out hb)
      clear hb ho q0 HB2 HA2 HD2 HR2
      have k0 := (blk_cell HR3.out 0).trans rfl
      have k1c := (blk_cell HR3.out 1).trans rfl
      have k2c := (blk_cell HR3.out 2).trans rfl
      have f0 := blk_frozen HR3.out 0
      have f1 := blk_frozen HR3.out 1
      have f2 := blk_frozen HR3.out 2
      go_wp2_with (fail)
      (try simp only [Exit.inBlock, Exit.then])
      refine bodyPost_ret (results_ct rfl _ _ (w.heap.size + 1 + 1) 26 #[.slice Av RR.1.length cv, .int .i64 RR.2.1, .int .i64 RR.2.2.1] (0, 0) _ rfl (blk_put (blk_put (blk_put HR3.out 0 (.slice Av RR.1.length cv) rfl) 1 (.int .i64 RR.2.1) rfl) 2 (.int .i64 RR.2.2.1) rfl) Tryd.underlying26 rfl (by kernel_rfl)) rfl ?_
      exact ⟨_, rfl, Kd.R_set (Kd.R_set (Kd.R_set HO3.out HR3.out (by decide) 0 _) (blk_set HR3.out 0 _) (by decide) 1 (.int .i64 RR.2.1)) (blk_set (blk_set HR3.out 0 _) 1 (.int .i64 RR.2.1)) (by decide) 2 (.int .i64 RR.2.2.1), below_set (below_set (below_set HB3.out GE.out.1) GE.out.1) GE.out.1⟩
end Go.Proofs.YtijhnmbegceonaaDoor.PTerm
namespace Go.Proofs.YtijhnmbegceonaaDoor.PTerm
open Go.RowKit Go.Proofs.YtijhnmbegceonaaDoorW.PrintWords Go.Proofs.YtijhnmbegceonaaDoorW.PrintLast Go.Proofs.YtijhnmbegceonaaDoorW.PrintMore
attribute [local go_sem] max2_int min2_int max_two min_two max_three min_three max_four min_four
set_option linter.unusedVariables false
set_option linter.unusedSimpArgs false
attribute [local go_sem high] eqA24
def ballcocklaw02_TermNoughts.j0 : Nat → Bool → List (S24) → Int → Int → Option (Bool)
  | 0, _, _, _, _ => none
  | k + 1, x22, x209000, x209001, x209002 => if x22 = true then ((ballcocklaw02_awake.f k).bind fun t212 => (some t212)) else ((term_Add.f x209000 x209001 x209002 ([] : List (S24)) 0 1).bind fun bt213 => ((term_Scale.f x209000 x209001 x209002 (-1) 1).bind fun bt220 => ((term_Add.f x209000 x209001 x209002 bt220.1 bt220.2.1 bt220.2.2.1).bind fun bt227 => ((term_Scale.f x209000 x209001 x209002 1 1).bind fun bt234 => (if bt213.2.2.2 = 0 then (if bt220.2.2.2 = 0 then (if bt227.2.2.2 = 0 then (if bt234.2.2.2 = 0 then ((term_Same.f k bt213.1 bt213.2.1 bt213.2.2.1 x209000 x209001 x209002).bind fun t241 => (if t241 = true then ((term_Same.f k bt234.1 bt234.2.1 bt234.2.2.1 x209000 x209001 x209002).bind fun t242 => (if t242 = true then (if (bt227.1.length : Int) = 0 then (some (bt227.2.1 == 0 && (bt227.2.2.1 == 1))) else (some false)) else (some false))) else (some false))) else (some false)) else (some false)) else (some false)) else (some false))))))
def ballcocklaw02_TermNoughts.f (k : Nat) (l0_0 : List (S24)) (a0_1 : Int) (a0_2 : Int) : Option (Bool) := (ballcocklaw02_awake.f k).bind fun t209 => (if t209 = true then ((ballcockref02_Small.f l0_0 a0_1 a0_2).bind fun t210 => (if t210 = true then ((ballcockref02_Right.f k l0_0 a0_1 a0_2).bind fun t211 => (ballcocklaw02_TermNoughts.j0 k (!t211) l0_0 a0_1 a0_2)) else (ballcocklaw02_TermNoughts.j0 k true l0_0 a0_1 a0_2))) else (ballcocklaw02_TermNoughts.j0 k true l0_0 a0_1 a0_2))
set_option maxHeartbeats 8000000 in
set_option maxRecDepth 100000 in
theorem ballcocklaw02_TermNoughts.calls (k : Nat) (A0_0 : Option Addr) (c0_0 : Nat) (l0_0 : List (S24)) (a0_1 : Int) (a0_2 : Int) (r : Bool) (w : World) (hr0_0 : Kd.C k24 w A0_0 l0_0.length l0_0) (hc0_0 : l0_0.length ≤ c0_0) (hr_ : r = true) (h : ballcocklaw02_TermNoughts.f k l0_0 a0_1 a0_2 = some r) :
    Calls Tryd.prog 7 #[.agg #[.slice A0_0 l0_0.length c0_0, .int .i64 a0_1, .int .i64 a0_2]] w fun e w' => e = .returned (.bool r) ∧ Below w.heap.size w w' := by
  have hu26 := Tryd.underlying26
  have hu24 := Tryd.underlying24
  have HR0_0 := Aside0.mk hr0_0
  have HC0_0 := Aside0.mk hc0_0
  clear hr0_0 hc0_0
  have HB := Aside0.mk (Below.refl w.heap.size w)
  have H : ((ballcocklaw02_awake.f k).bind fun t209 => (if t209 = true then ((ballcockref02_Small.f l0_0 a0_1 a0_2).bind fun t210 => (if t210 = true then ((ballcockref02_Right.f k l0_0 a0_1 a0_2).bind fun t211 => (ballcocklaw02_TermNoughts.j0 k (!t211) l0_0 a0_1 a0_2)) else (ballcocklaw02_TermNoughts.j0 k true l0_0 a0_1 a0_2))) else (ballcocklaw02_TermNoughts.j0 k true l0_0 a0_1 a0_2))) = some r := h
  clear h
  have HC2 := Aside0.mk H
  clear H
  go_enter Tryd.func7, Tryd.ntmps7
  go_upto_region 1 with (first | ((with_reducible refine gate_dst (N := 1) rfl ?_); (try (refine gate_guard (by rfl) ?_; dsimp only)); refine box_event ?hg (N := 1) ?hd (cs := #[.slice A0_0 l0_0.length c0_0, .int .i64 a0_1, .int .i64 a0_2]) (t := 26) ?hr ?_; (case hd => rfl); (case hg => rfl); (case hr => first | (go_simp; done) | (go_simp; rfl)); intro gb208 hg w3 hbox hb; have n0_ := Aside0.mk (below_step (by repeat (first | (with_reducible first | exact HB.out | apply below_alloc | apply pw_below_drewN | apply below_drew1) | exact HB.out)) hb); have n1_ := Aside0.mk (hbox); have n2_ := Aside0.mk ((by rw [hg]; exact (below_size (by repeat (first | (with_reducible first | exact HB.out | apply below_alloc | apply pw_below_drewN | apply below_drew1) | exact HB.out))) : w.heap.size ≤ gb208)); have n3_ := Aside0.mk ((by rw [hg]; exact (below_size (by repeat (first | (with_reducible first | exact HB.out | apply below_alloc | apply pw_below_drewN | apply below_drew1) | exact HB.out))) : w.heap.size ≤ gb208)); clear HB; have HB := n0_; have BK208 := n1_; have GW208 := n2_; have GE208 := n3_; clear n0_ n1_ n2_ n3_; clear hb hbox hg))
  (try simp only [Act.put, List.setIfInBounds_toArray, List.set_cons_zero, List.set_cons_succ])
  go_cut [22] (fun v22 wc => ∃ (kq : Nat) (x22_1 : Bool), v22 = .bool x22_1 ∧ Aside0 (ballcocklaw02_TermNoughts.j0 kq x22_1 l0_0 a0_1 a0_2 = some r) ∧ Aside0 (kq ≤ k) ∧ Aside0 (wc.heap[gb208]? = some (.cells #[(.slice A0_0 l0_0.length c0_0), .int .i64 a0_1, .int .i64 a0_2] 26 (0, 0))) ∧ Aside0 (Below w.heap.size w wc))
  case first =>
    have H := HC2.out
    clear HC2
    replace H := Option.bind_eq_some_iff.mp H
    obtain ⟨t209, A40, H⟩ := H
    replace H : (if t209 = true then ((ballcockref02_Small.f l0_0 a0_1 a0_2).bind fun t210 => (if t210 = true then ((ballcockref02_Right.f k l0_0 a0_1 a0_2).bind fun t211 => (ballcocklaw02_TermNoughts.j0 k (!t211) l0_0 a0_1 a0_2)) else (ballcocklaw02_TermNoughts.j0 k true l0_0 a0_1 a0_2))) else (ballcocklaw02_TermNoughts.j0 k true l0_0 a0_1 a0_2)) = some r := H
    have A4 := Aside0.mk A40
    clear A40
    by_cases c5 : t209 = true
    · subst c5
      have H1 : ((ballcockref02_Small.f l0_0 a0_1 a0_2).bind fun t210 => (if t210 = true then ((ballcockref02_Right.f k l0_0 a0_1 a0_2).bind fun t211 => (ballcocklaw02_TermNoughts.j0 k (!t211) l0_0 a0_1 a0_2)) else (ballcocklaw02_TermNoughts.j0 k true l0_0 a0_1 a0_2))) = some r := by rw [if_pos rfl] at H; exact H
      clear H
      have H := H1
      clear H1
      replace H := Option.bind_eq_some_iff.mp H
      obtain ⟨t210, A60, H⟩ := H
      replace H : (if t210 = true then ((ballcockref02_Right.f k l0_0 a0_1 a0_2).bind fun t211 => (ballcocklaw02_TermNoughts.j0 k (!t211) l0_0 a0_1 a0_2)) else (ballcocklaw02_TermNoughts.j0 k true l0_0 a0_1 a0_2)) = some r := H
      have A6 := Aside0.mk A60
      clear A60
      by_cases c7 : t210 = true
      · subst c7
        have H1 : ((ballcockref02_Right.f k l0_0 a0_1 a0_2).bind fun t211 => (ballcocklaw02_TermNoughts.j0 k (!t211) l0_0 a0_1 a0_2)) = some r := by rw [if_pos rfl] at H; exact H
        clear H
        have H := H1
        clear H1
        replace H := Option.bind_eq_some_iff.mp H
        obtain ⟨t211, A80, H⟩ := H
        replace H : (ballcocklaw02_TermNoughts.j0 k (!t211) l0_0 a0_1 a0_2) = some r := H
        have A8 := Aside0.mk A80
        clear A80
        have H' := Aside0.mk H
        clear H
        go_wp2_with (first | ((with_reducible refine gate_callee (f := 9) rfl ?_); refine goesL_ (some 11) rfl rfl Tryd.func9 (by kernel_rfl) rfl #[] rfl (by (try simp only [List.map_toArray, List.map_cons, List.map_nil]); first | done | rfl | (simp only [List.length_drop, List.length_take]; rfl)) ?_; (with_reducible refine (ballcocklaw02_awake.calls k  true _ A4.out).mono ?_); rintro e w9 ⟨rfl, hb⟩; refine ⟨_, rfl, ?_⟩; have n0_ := Aside0.mk (blk_below (g := gb208) (o := .cells #[.slice A0_0 l0_0.length c0_0, .int .i64 a0_1, .int .i64 a0_2] 26 (0, 0)) (by (with_reducible repeat (first | refine blk_drewN ?_ _ | refine blk_drew ?_ | refine blk_alloc ?_ _)); exact BK208.out) hb); have n1_ := Aside0.mk (below_step (by repeat (first | (with_reducible first | exact HB.out | apply below_alloc | apply pw_below_drewN | apply below_drew1 | refine below_set ?_ GE208.out) | exact HB.out)) hb); clear BK208; clear HB; have BK208 := n0_; have HB := n1_; clear n0_ n1_; (try clear hb); (try clear hb2); (try clear hk); (try clear hi); have hcz10_0 : w9.cell? ⟨gb208, 0, none⟩ = some (.slice A0_0 l0_0.length c0_0) := (blk_cell BK208.out 0).trans rfl; have hcz10_1 : w9.cell? ⟨gb208, 1, none⟩ = some (.int .i64 a0_1) := (blk_cell BK208.out 1).trans rfl; have hcz10_2 : w9.cell? ⟨gb208, 2, none⟩ = some (.int .i64 a0_2) := (blk_cell BK208.out 2).trans rfl; have hfz10_0 := blk_frozen BK208.out 0; have hfz10_1 := blk_frozen BK208.out 1; have hfz10_2 := blk_frozen BK208.out 2) | (go_at_call 10; (with_reducible refine (ballcockref02_Small.calls _ _ l0_0 a0_1 a0_2 true _ ?side1 ?side2 A6.out).mono ?_); (case side1 => repeat (first | exact (Kd.C_below HR0_0.out HB.out) | (with_reducible refine Kd.C_alloc ?_ _) | (with_reducible refine Kd.C_drewN ?_ _) | (with_reducible refine Kd.C_drew ?_))); (case side2 => exact HC0_0.out); rintro e w11 ⟨rfl, hb⟩; have n0_ := Aside0.mk (blk_below (g := gb208) (o := .cells #[.slice A0_0 l0_0.length c0_0, .int .i64 a0_1, .int .i64 a0_2] 26 (0, 0)) (by (with_reducible repeat (first | refine blk_drewN ?_ _ | refine blk_drew ?_ | refine blk_alloc ?_ _)); exact BK208.out) hb); have n1_ := Aside0.mk (below_step (by repeat (first | (with_reducible first | exact HB.out | apply below_alloc | apply pw_below_drewN | apply below_drew1 | refine below_set ?_ GE208.out) | exact HB.out)) hb); clear BK208; clear HB; have BK208 := n0_; have HB := n1_; clear n0_ n1_; (try clear hb); (try clear hb2); (try clear hk); (try clear hi); have hcz12_0 : w11.cell? ⟨gb208, 0, none⟩ = some (.slice A0_0 l0_0.length c0_0) := (blk_cell BK208.out 0).trans rfl; have hcz12_1 : w11.cell? ⟨gb208, 1, none⟩ = some (.int .i64 a0_1) := (blk_cell BK208.out 1).trans rfl; have hcz12_2 : w11.cell? ⟨gb208, 2, none⟩ = some (.int .i64 a0_2) := (blk_cell BK208.out 2).trans rfl; have hfz12_0 := blk_frozen BK208.out 0; have hfz12_1 := blk_frozen BK208.out 1; have hfz12_2 := blk_frozen BK208.out 2) | (go_at_call 11; (with_reducible refine (ballcockref02_Right.calls k _ _ l0_0 a0_1 a0_2 t211 _ ?side1 ?side2 A8.out).mono ?_); (case side1 => repeat (first | exact (Kd.C_below HR0_0.out HB.out) | (with_reducible refine Kd.C_alloc ?_ _) | (with_reducible refine Kd.C_drewN ?_ _) | (with_reducible refine Kd.C_drew ?_))); (case side2 => exact HC0_0.out); rintro e w13 ⟨rfl, hb⟩; have n0_ := Aside0.mk (blk_below (g := gb208) (o := .cells #[.slice A0_0 l0_0.length c0_0, .int .i64 a0_1, .int .i64 a0_2] 26 (0, 0)) (by (with_reducible repeat (first | refine blk_drewN ?_ _ | refine blk_drew ?_ | refine blk_alloc ?_ _)); exact BK208.out) hb); have n1_ := Aside0.mk (below_step (by repeat (first | (with_reducible first | exact HB.out | apply below_alloc | apply pw_below_drewN | apply below_drew1 | refine below_set ?_ GE208.out) | exact HB.out)) hb); clear BK208; clear HB; have BK208 := n0_; have HB := n1_; clear n0_ n1_; (try clear hb); (try clear hb2); (try clear hk); (try clear hi)))
        go_meet
        case rel => exact ⟨_, (!t211), (by first | rfl | (simp; done) | (simp [*]; done)), H', ⟨by first | omega | exact Nat.le_refl _⟩, ⟨by (with_reducible repeat (first | refine blk_drewN ?_ _ | refine blk_drew ?_ | refine blk_alloc ?_ _)); exact BK208.out⟩, ⟨by repeat (first | (with_reducible first | exact HB.out | apply below_alloc | apply pw_below_drewN | apply below_drew1 | refine below_set ?_ GE208.out) | exact HB.out)⟩⟩
      · replace c7 := Bool.eq_false_iff.mpr c7
        subst c7
        have H1 : (ballcocklaw02_TermNoughts.j0 k true l0_0 a0_1 a0_2) = some r := by rw [if_neg (show ¬ (false = true) by decide)] at H; exact H
        clear H
        have H := H1
        clear H1
        have H' := Aside0.mk H
        clear H
        go_wp2_with (first | ((with_reducible refine gate_callee (f := 9) rfl ?_); refine goesL_ (some 11) rfl rfl Tryd.func9 (by kernel_rfl) rfl #[] rfl (by (try simp only [List.map_toArray, List.map_cons, List.map_nil]); first | done | rfl | (simp only [List.length_drop, List.length_take]; rfl)) ?_; (with_reducible refine (ballcocklaw02_awake.calls k  true _ A4.out).mono ?_); rintro e w14 ⟨rfl, hb⟩; refine ⟨_, rfl, ?_⟩; have n0_ := Aside0.mk (blk_below (g := gb208) (o := .cells #[.slice A0_0 l0_0.length c0_0, .int .i64 a0_1, .int .i64 a0_2] 26 (0, 0)) (by (with_reducible repeat (first | refine blk_drewN ?_ _ | refine blk_drew ?_ | refine blk_alloc ?_ _)); exact BK208.out) hb); have n1_ := Aside0.mk (below_step (by repeat (first | (with_reducible first | exact HB.out | apply below_alloc | apply pw_below_drewN | apply below_drew1 | refine below_set ?_ GE208.out) | exact HB.out)) hb); clear BK208; clear HB; have BK208 := n0_; have HB := n1_; clear n0_ n1_; (try clear hb); (try clear hb2); (try clear hk); (try clear hi); have hcz15_0 : w14.cell? ⟨gb208, 0, none⟩ = some (.slice A0_0 l0_0.length c0_0) := (blk_cell BK208.out 0).trans rfl; have hcz15_1 : w14.cell? ⟨gb208, 1, none⟩ = some (.int .i64 a0_1) := (blk_cell BK208.out 1).trans rfl; have hcz15_2 : w14.cell? ⟨gb208, 2, none⟩ = some (.int .i64 a0_2) := (blk_cell BK208.out 2).trans rfl; have hfz15_0 := blk_frozen BK208.out 0; have hfz15_1 := blk_frozen BK208.out 1; have hfz15_2 := blk_frozen BK208.out 2) | (go_at_call 10; (with_reducible refine (ballcockref02_Small.calls _ _ l0_0 a0_1 a0_2 false _ ?side1 ?side2 A6.out).mono ?_); (case side1 => repeat (first | exact (Kd.C_below HR0_0.out HB.out) | (with_reducible refine Kd.C_alloc ?_ _) | (with_reducible refine Kd.C_drewN ?_ _) | (with_reducible refine Kd.C_drew ?_))); (case side2 => exact HC0_0.out); rintro e w16 ⟨rfl, hb⟩; have n0_ := Aside0.mk (blk_below (g := gb208) (o := .cells #[.slice A0_0 l0_0.length c0_0, .int .i64 a0_1, .int .i64 a0_2] 26 (0, 0)) (by (with_reducible repeat (first | refine blk_drewN ?_ _ | refine blk_drew ?_ | refine blk_alloc ?_ _)); exact BK208.out) hb); have n1_ := Aside0.mk (below_step (by repeat (first | (with_reducible first | exact HB.out | apply below_alloc | apply pw_below_drewN | apply below_drew1 | refine below_set ?_ GE208.out) | exact HB.out)) hb); clear BK208; clear HB; have BK208 := n0_; have HB := n1_; clear n0_ n1_; (try clear hb); (try clear hb2); (try clear hk); (try clear hi)))
        go_meet
        case rel => exact ⟨_, (true), (by first | rfl | (simp; done) | (simp [*]; done)), H', ⟨by first | omega | exact Nat.le_refl _⟩, ⟨by (with_reducible repeat (first | refine blk_drewN ?_ _ | refine blk_drew ?_ | refine blk_alloc ?_ _)); exact BK208.out⟩, ⟨by repeat (first | (with_reducible first | exact HB.out | apply below_alloc | apply pw_below_drewN | apply below_drew1 | refine below_set ?_ GE208.out) | exact HB.out)⟩⟩
    · replace c5 := Bool.eq_false_iff.mpr c5
      subst c5
      have H1 : (ballcocklaw02_TermNoughts.j0 k true l0_0 a0_1 a0_2) = some r := by rw [if_neg (show ¬ (false = true) by decide)] at H; exact H
      clear H
      have H := H1
      clear H1
      have H' := Aside0.mk H
      clear H
      go_wp2_with (first | ((with_reducible refine gate_callee (f := 9) rfl ?_); refine goesL_ (some 11) rfl rfl Tryd.func9 (by kernel_rfl) rfl #[] rfl (by (try simp only [List.map_toArray, List.map_cons, List.map_nil]); first | done | rfl | (simp only [List.length_drop, List.length_take]; rfl)) ?_; (with_reducible refine (ballcocklaw02_awake.calls k  false _ A4.out).mono ?_); rintro e w17 ⟨rfl, hb⟩; refine ⟨_, rfl, ?_⟩; have n0_ := Aside0.mk (blk_below (g := gb208) (o := .cells #[.slice A0_0 l0_0.length c0_0, .int .i64 a0_1, .int .i64 a0_2] 26 (0, 0)) (by (with_reducible repeat (first | refine blk_drewN ?_ _ | refine blk_drew ?_ | refine blk_alloc ?_ _)); exact BK208.out) hb); have n1_ := Aside0.mk (below_step (by repeat (first | (with_reducible first | exact HB.out | apply below_alloc | apply pw_below_drewN | apply below_drew1 | refine below_set ?_ GE208.out) | exact HB.out)) hb); clear BK208; clear HB; have BK208 := n0_; have HB := n1_; clear n0_ n1_; (try clear hb); (try clear hb2); (try clear hk); (try clear hi)))
      go_meet
      case rel => exact ⟨_, (true), (by first | rfl | (simp; done) | (simp [*]; done)), H', ⟨by first | omega | exact Nat.le_refl _⟩, ⟨by (with_reducible repeat (first | refine blk_drewN ?_ _ | refine blk_drew ?_ | refine blk_alloc ?_ _)); exact BK208.out⟩, ⟨by repeat (first | (with_reducible first | exact HB.out | apply below_alloc | apply pw_below_drewN | apply below_drew1 | refine below_set ?_ GE208.out) | exact HB.out)⟩⟩
  case rest =>
    clear HC2
    try clear p2
    try clear c5
    try clear c7
    try clear c9
    try clear hcz10_0
    try clear hcz10_1
    try clear hcz10_2
    try clear hcz12_0
    try clear hcz12_1
    try clear hcz12_2
    try clear hcz15_0
    try clear hcz15_1
    try clear hcz15_2
    try clear hfz10_0
    try clear hfz10_1
    try clear hfz10_2
    try clear hfz12_0
    try clear hfz12_1
    try clear hfz12_2
    try clear hfz15_0
    try clear hfz15_1
    try clear hfz15_2
    obtain ⟨kq, x22_1, rfl, HA, HJ1, BK208, HB⟩ := hcut
    cases kq with
    | zero => exact absurd HA.out (by simp [ballcocklaw02_TermNoughts.j0])
    | succ kj1 =>
      have H := HA.out
      clear HA
      simp only [ballcocklaw02_TermNoughts.j0] at H
      by_cases c18 : x22_1 = true
      · subst c18
        have H1 : ((ballcocklaw02_awake.f kj1).bind fun t212 => (some t212)) = some r := by rw [if_pos rfl] at H; exact H
        clear H
        have H := H1
        clear H1
        replace H := Option.bind_eq_some_iff.mp H
        obtain ⟨t212, A190, H⟩ := H
        replace H : (some t212) = some r := H
        have A19 := Aside0.mk A190
        clear A190
        obtain rfl := Option.some.inj H
        go_wp2_with (first | ((with_reducible refine gate_callee (f := 9) rfl ?_); refine goesL_ (some 23) rfl rfl Tryd.func9 (by kernel_rfl) rfl #[] rfl (by (try simp only [List.map_toArray, List.map_cons, List.map_nil]); first | done | rfl | (simp only [List.length_drop, List.length_take]; rfl)) ?_; (with_reducible refine (ballcocklaw02_awake.calls kj1  t212 _ A19.out).mono ?_); rintro e w20 ⟨rfl, hb⟩; refine ⟨_, rfl, ?_⟩; have n0_ := Aside0.mk (blk_below (g := gb208) (o := .cells #[.slice A0_0 l0_0.length c0_0, .int .i64 a0_1, .int .i64 a0_2] 26 (0, 0)) (by (with_reducible repeat (first | refine blk_drewN ?_ _ | refine blk_drew ?_ | refine blk_alloc ?_ _)); exact BK208.out) hb); have n1_ := Aside0.mk (below_step (by repeat (first | (with_reducible first | exact HB.out | apply below_alloc | apply pw_below_drewN | apply below_drew1 | refine below_set ?_ GE208.out) | exact HB.out)) hb); clear BK208; clear HB; have BK208 := n0_; have HB := n1_; clear n0_ n1_; (try clear hb); (try clear hb2); (try clear hk); (try clear hi)))
        go_ret
        exact ⟨by first | rfl | (simp [errW_none, errW_some] <;> rfl) | (simp [*, errW_none, errW_some] <;> rfl), by repeat (first | (with_reducible first | exact HB.out | apply below_alloc | apply pw_below_drewN | apply below_drew1 | refine below_set ?_ GE208.out) | exact HB.out)⟩
      · replace c18 := Bool.eq_false_iff.mpr c18
        subst c18
        have H1 : ((term_Add.f l0_0 a0_1 a0_2 ([] : List (S24)) 0 1).bind fun bt213 => ((term_Scale.f l0_0 a0_1 a0_2 (-1) 1).bind fun bt220 => ((term_Add.f l0_0 a0_1 a0_2 bt220.1 bt220.2.1 bt220.2.2.1).bind fun bt227 => ((term_Scale.f l0_0 a0_1 a0_2 1 1).bind fun bt234 => (if bt213.2.2.2 = 0 then (if bt220.2.2.2 = 0 then (if bt227.2.2.2 = 0 then (if bt234.2.2.2 = 0 then ((term_Same.f kj1 bt213.1 bt213.2.1 bt213.2.2.1 l0_0 a0_1 a0_2).bind fun t241 => (if t241 = true then ((term_Same.f kj1 bt234.1 bt234.2.1 bt234.2.2.1 l0_0 a0_1 a0_2).bind fun t242 => (if t242 = true then (if (bt227.1.length : Int) = 0 then (some (bt227.2.1 == 0 && (bt227.2.2.1 == 1))) else (some false)) else (some false))) else (some false))) else (some false)) else (some false)) else (some false)) else (some false)))))) = some r := by rw [if_neg (show ¬ (false = true) by decide)] at H; exact H
        clear H
        have H := H1
        clear H1
        replace H := Option.bind_eq_some_iff.mp H
        obtain ⟨⟨t213, t216, t217, t218⟩, A210, H⟩ := H
        replace H : ((term_Scale.f l0_0 a0_1 a0_2 (-1) 1).bind fun bt220 => ((term_Add.f l0_0 a0_1 a0_2 bt220.1 bt220.2.1 bt220.2.2.1).bind fun bt227 => ((term_Scale.f l0_0 a0_1 a0_2 1 1).bind fun bt234 => (if t218 = 0 then (if bt220.2.2.2 = 0 then (if bt227.2.2.2 = 0 then (if bt234.2.2.2 = 0 then ((term_Same.f kj1 t213 t216 t217 l0_0 a0_1 a0_2).bind fun t241 => (if t241 = true then ((term_Same.f kj1 bt234.1 bt234.2.1 bt234.2.2.1 l0_0 a0_1 a0_2).bind fun t242 => (if t242 = true then (if (bt227.1.length : Int) = 0 then (some (bt227.2.1 == 0 && (bt227.2.2.1 == 1))) else (some false)) else (some false))) else (some false))) else (some false)) else (some false)) else (some false)) else (some false))))) = some r := H
        have A21 := Aside0.mk A210
        clear A210
        replace H := Option.bind_eq_some_iff.mp H
        obtain ⟨⟨t220, t223, t224, t225⟩, A220, H⟩ := H
        replace H : ((term_Add.f l0_0 a0_1 a0_2 t220 t223 t224).bind fun bt227 => ((term_Scale.f l0_0 a0_1 a0_2 1 1).bind fun bt234 => (if t218 = 0 then (if t225 = 0 then (if bt227.2.2.2 = 0 then (if bt234.2.2.2 = 0 then ((term_Same.f kj1 t213 t216 t217 l0_0 a0_1 a0_2).bind fun t241 => (if t241 = true then ((term_Same.f kj1 bt234.1 bt234.2.1 bt234.2.2.1 l0_0 a0_1 a0_2).bind fun t242 => (if t242 = true then (if (bt227.1.length : Int) = 0 then (some (bt227.2.1 == 0 && (bt227.2.2.1 == 1))) else (some false)) else (some false))) else (some false))) else (some false)) else (some false)) else (some false)) else (some false)))) = some r := H
        have A22 := Aside0.mk A220
        clear A220
        replace H := Option.bind_eq_some_iff.mp H
        obtain ⟨⟨t227, t230, t231, t232⟩, A230, H⟩ := H
        replace H : ((term_Scale.f l0_0 a0_1 a0_2 1 1).bind fun bt234 => (if t218 = 0 then (if t225 = 0 then (if t232 = 0 then (if bt234.2.2.2 = 0 then ((term_Same.f kj1 t213 t216 t217 l0_0 a0_1 a0_2).bind fun t241 => (if t241 = true then ((term_Same.f kj1 bt234.1 bt234.2.1 bt234.2.2.1 l0_0 a0_1 a0_2).bind fun t242 => (if t242 = true then (if (t227.length : Int) = 0 then (some (t230 == 0 && (t231 == 1))) else (some false)) else (some false))) else (some false))) else (some false)) else (some false)) else (some false)) else (some false))) = some r := H
        have A23 := Aside0.mk A230
        clear A230
        replace H := Option.bind_eq_some_iff.mp H
        obtain ⟨⟨t234, t237, t238, t239⟩, A240, H⟩ := H
        replace H : (if t218 = 0 then (if t225 = 0 then (if t232 = 0 then (if t239 = 0 then ((term_Same.f kj1 t213 t216 t217 l0_0 a0_1 a0_2).bind fun t241 => (if t241 = true then ((term_Same.f kj1 t234 t237 t238 l0_0 a0_1 a0_2).bind fun t242 => (if t242 = true then (if (t227.length : Int) = 0 then (some (t230 == 0 && (t231 == 1))) else (some false)) else (some false))) else (some false))) else (some false)) else (some false)) else (some false)) else (some false)) = some r := H
        have A24 := Aside0.mk A240
        clear A240
        by_cases c25 : t218 = 0
        · rw [if_pos c25] at H
          have c25b0 : (t218 == 0) = true := beq_iff_eq.mpr c25
          have c25b1 : (t218 != 0) = false := bne_eq_false_iff_eq.mpr c25
          clear c25
          by_cases c26 : t225 = 0
          · rw [if_pos c26] at H
            have c26b0 : (t225 == 0) = true := beq_iff_eq.mpr c26
            have c26b1 : (t225 != 0) = false := bne_eq_false_iff_eq.mpr c26
            clear c26
            by_cases c27 : t232 = 0
            · rw [if_pos c27] at H
              have c27b0 : (t232 == 0) = true := beq_iff_eq.mpr c27
              have c27b1 : (t232 != 0) = false := bne_eq_false_iff_eq.mpr c27
              clear c27
              by_cases c28 : t239 = 0
              · rw [if_pos c28] at H
                have c28b0 : (t239 == 0) = true := beq_iff_eq.mpr c28
                have c28b1 : (t239 != 0) = false := bne_eq_false_iff_eq.mpr c28
                clear c28
                replace H := Option.bind_eq_some_iff.mp H
                obtain ⟨t241, A290, H⟩ := H
                replace H : (if t241 = true then ((term_Same.f kj1 t234 t237 t238 l0_0 a0_1 a0_2).bind fun t242 => (if t242 = true then (if (t227.length : Int) = 0 then (some (t230 == 0 && (t231 == 1))) else (some false)) else (some false))) else (some false)) = some r := H
                have A29 := Aside0.mk A290
                clear A290
                by_cases c30 : t241 = true
                · subst c30
                  have H1 : ((term_Same.f kj1 t234 t237 t238 l0_0 a0_1 a0_2).bind fun t242 => (if t242 = true then (if (t227.length : Int) = 0 then (some (t230 == 0 && (t231 == 1))) else (some false)) else (some false))) = some r := by rw [if_pos rfl] at H; exact H
                  clear H
                  have H := H1
                  clear H1
                  replace H := Option.bind_eq_some_iff.mp H
                  obtain ⟨t242, A310, H⟩ := H
                  replace H : (if t242 = true then (if (t227.length : Int) = 0 then (some (t230 == 0 && (t231 == 1))) else (some false)) else (some false)) = some r := H
                  have A31 := Aside0.mk A310
                  clear A310
                  by_cases c32 : t242 = true
                  · subst c32
                    have H1 : (if (t227.length : Int) = 0 then (some (t230 == 0 && (t231 == 1))) else (some false)) = some r := by rw [if_pos rfl] at H; exact H
                    clear H
                    have H := H1
                    clear H1
                    by_cases c33 : (t227.length : Int) = 0
                    · rw [if_pos c33] at H
                      have c33b0 : ((t227.length : Int) == 0) = true := beq_iff_eq.mpr c33
                      have c33b1 : ((t227.length : Int) != 0) = false := bne_eq_false_iff_eq.mpr c33
                      clear c33
                      obtain rfl := Option.some.inj H
                      have hcz34_0 : wc.cell? ⟨gb208, 0, none⟩ = some (.slice A0_0 l0_0.length c0_0) := (blk_cell BK208.out 0).trans rfl
                      have hcz34_1 : wc.cell? ⟨gb208, 1, none⟩ = some (.int .i64 a0_1) := (blk_cell BK208.out 1).trans rfl
                      have hcz34_2 : wc.cell? ⟨gb208, 2, none⟩ = some (.int .i64 a0_2) := (blk_cell BK208.out 2).trans rfl
                      have hfz34_0 := blk_frozen BK208.out 0
                      have hfz34_1 := blk_frozen BK208.out 1
                      have hfz34_2 := blk_frozen BK208.out 2
                      go_wp2_with (first | ((with_reducible refine gate_callee (f := 19) rfl ?_); refine goesL_ (some 28) rfl rfl Tryd.func19 (by kernel_rfl) rfl #[.agg #[.slice A0_0 l0_0.length c0_0, .int .i64 a0_1, .int .i64 a0_2], .agg #[.slice none 0 0, .int .i64 0, .int .i64 1]] rfl (by (try simp only [List.map_toArray, List.map_cons, List.map_nil]); first | done | rfl | (simp only [List.length_drop, List.length_take]; rfl)) ?_; (refine (term_Add.calls _ _ l0_0 a0_1 a0_2 _ _ ([] : List (S24)) 0 1 t213 t216 t217 t218 _ ?side1 ?side2 ?side3 ?side4 A21.out).mono ?_); (case side1 => repeat (first | exact (Kd.C_below HR0_0.out HB.out) | (with_reducible refine Kd.C_alloc ?_ _) | (with_reducible refine Kd.C_drewN ?_ _) | (with_reducible refine Kd.C_drew ?_))); (case side2 => exact HC0_0.out); (case side3 => exact Kd.C_nil _ _); (case side4 => exact Nat.le_refl _); rintro e w35 ⟨v214, rfl, ho0, hb⟩; refine ⟨_, rfl, ?_⟩; have n0_ := Aside0.mk (Kd.R_lower ho0 (below_size (by repeat (first | (with_reducible first | exact HB.out | apply below_alloc | apply pw_below_drewN | apply below_drew1 | refine below_set ?_ GE208.out) | exact HB.out)))); have n1_ := Aside0.mk (blk_below (g := gb208) (o := .cells #[.slice A0_0 l0_0.length c0_0, .int .i64 a0_1, .int .i64 a0_2] 26 (0, 0)) (by (with_reducible repeat (first | refine blk_drewN ?_ _ | refine blk_drew ?_ | refine blk_alloc ?_ _)); exact BK208.out) hb); have n2_ := Aside0.mk (below_step (by repeat (first | (with_reducible first | exact HB.out | apply below_alloc | apply pw_below_drewN | apply below_drew1 | refine below_set ?_ GE208.out) | exact HB.out)) hb); clear BK208; clear HB; have HO215 := n0_; have BK208 := n1_; have HB := n2_; clear n0_ n1_ n2_; (try clear hb); (try clear hb2); (try clear hk); (try clear hi); (try clear ho0)) | ((with_reducible refine gate_dst (N := 3) rfl ?_); (try (refine gate_guard (by rfl) ?_; dsimp only)); refine box_event ?hg (N := 3) ?hd (cs := #[.slice none 0 0, .int .i64 0, .int .i64 0]) (t := 26) ?hr ?_; (case hd => rfl); (case hg => rfl); (case hr => first | (go_simp; done) | (go_simp; rfl)); intro gb219 hg w36 hbox hb; have n0_ := Aside0.mk (Kd.R_below (by (with_reducible repeat (first | apply Kd.R_alloc | apply Kd.R_drewN | apply Kd.R_drew)); exact HO215.out) hb); have n1_ := Aside0.mk (blk_below (g := gb208) (o := .cells #[.slice A0_0 l0_0.length c0_0, .int .i64 a0_1, .int .i64 a0_2] 26 (0, 0)) (by (with_reducible repeat (first | refine blk_drewN ?_ _ | refine blk_drew ?_ | refine blk_alloc ?_ _)); exact BK208.out) hb); have n2_ := Aside0.mk (below_step (by repeat (first | (with_reducible first | exact HB.out | apply below_alloc | apply pw_below_drewN | apply below_drew1 | refine below_set ?_ GE208.out) | exact HB.out)) hb); have n3_ := Aside0.mk (hbox); have n4_ := Aside0.mk ((by rw [hg]; exact (below_size (by repeat (first | (with_reducible first | exact HB.out | apply below_alloc | apply pw_below_drewN | apply below_drew1 | refine below_set ?_ GE208.out) | exact HB.out))) : w.heap.size ≤ gb219)); have n5_ := Aside0.mk ((by rw [hg]; exact (below_size (by repeat (first | (with_reducible first | exact HB.out | apply below_alloc | apply pw_below_drewN | apply below_drew1 | refine below_set ?_ GE208.out) | exact HB.out))) : w.heap.size ≤ gb219)); have n6_ := Aside0.mk ((by rw [hg]; exact Nat.ne_of_lt (blk_lt (g := gb208) (o := .cells #[.slice A0_0 l0_0.length c0_0, .int .i64 a0_1, .int .i64 a0_2] 26 (0, 0)) (by (with_reducible repeat (first | refine blk_drewN ?_ _ | refine blk_drew ?_ | refine blk_alloc ?_ _)); exact BK208.out)) : gb208 ≠ gb219)); have n7_ := Aside0.mk ((by rw [hg]; exact Nat.ne_of_gt (blk_lt (g := gb208) (o := .cells #[.slice A0_0 l0_0.length c0_0, .int .i64 a0_1, .int .i64 a0_2] 26 (0, 0)) (by (with_reducible repeat (first | refine blk_drewN ?_ _ | refine blk_drew ?_ | refine blk_alloc ?_ _)); exact BK208.out)) : gb219 ≠ gb208)); clear HO215; clear BK208; clear HB; have HO215 := n0_; have BK208 := n1_; have HB := n2_; have BK219 := n3_; have GW219 := n4_; have GE219 := n5_; have NB208_219 := n6_; have NB219_208 := n7_; clear n0_ n1_ n2_ n3_ n4_ n5_ n6_ n7_; clear hb hbox hg; obtain ⟨Ao37, co37, eo37⟩ := Kd.R_slice HO215.out; subst eo37; have hnb38 := NB219_208.out; have hnc38 := NB208_219.out; have hcz39_0 : w36.cell? ⟨gb219, 0, none⟩ = some (.slice none 0 0) := (blk_cell BK219.out 0).trans rfl; have hcz39_1 : w36.cell? ⟨gb219, 1, none⟩ = some (.int .i64 0) := (blk_cell BK219.out 1).trans rfl; have hcz39_2 : w36.cell? ⟨gb219, 2, none⟩ = some (.int .i64 0) := (blk_cell BK219.out 2).trans rfl; have hfz39_0 := blk_frozen BK219.out 0; have hfz39_1 := blk_frozen BK219.out 1; have hfz39_2 := blk_frozen BK219.out 2; have hcz40_0 : w36.cell? ⟨gb208, 0, none⟩ = some (.slice A0_0 l0_0.length c0_0) := (blk_cell BK208.out 0).trans rfl; have hcz40_1 : w36.cell? ⟨gb208, 1, none⟩ = some (.int .i64 a0_1) := (blk_cell BK208.out 1).trans rfl; have hcz40_2 : w36.cell? ⟨gb208, 2, none⟩ = some (.int .i64 a0_2) := (blk_cell BK208.out 2).trans rfl; have hfz40_0 := blk_frozen BK208.out 0; have hfz40_1 := blk_frozen BK208.out 1; have hfz40_2 := blk_frozen BK208.out 2) | ((with_reducible refine gate_callee (f := 21) rfl ?_); refine goesL_ (some 34) rfl rfl Tryd.func21 (by kernel_rfl) rfl #[.agg #[.slice A0_0 l0_0.length c0_0, .int .i64 a0_1, .int .i64 a0_2], .agg #[.int .i64 (-1), .int .i64 1]] rfl (by (try simp only [List.map_toArray, List.map_cons, List.map_nil]); first | done | rfl | (simp only [List.length_drop, List.length_take]; rfl)) ?_; (with_reducible refine (term_Scale.calls _ _ l0_0 a0_1 a0_2 (-1) 1 t220 t223 t224 t225 _ ?side1 ?side2 A22.out).mono ?_); (case side1 => exact Kd.C_below HR0_0.out (by repeat (first | (with_reducible first | exact HB.out | apply below_alloc | apply pw_below_drewN | apply below_drew1 | refine below_set ?_ GE208.out | refine below_set ?_ GE219.out) | exact HB.out))); (case side2 => exact HC0_0.out); rintro e w41 ⟨v221, rfl, ho0, hb⟩; refine ⟨_, rfl, ?_⟩; have n0_ := Aside0.mk (Kd.R_elder' (by (with_reducible repeat (first | apply Kd.R_alloc | apply Kd.R_drewN | apply Kd.R_drew)); exact (Kd.R_mono (Kd.R_far (p := ⟨gb219, 2, none⟩) (Kd.R_far (p := ⟨gb219, 1, none⟩) (Kd.R_far (p := ⟨gb219, 0, none⟩) (Kd.R_types HO215.out BK219.out (by decide)) (fun _ hk => hk.2) (.slice Ao37 t213.length co37)) (fun _ hk => hk.2) (.int .i64 t216)) (fun _ hk => hk.2) (.int .i64 t217)) (fun _ h_ => h_.1))) (Kd.R_base ho0) hb); have n1_ := Aside0.mk (Kd.R_lower (Kd.R_new' ho0 (Kd.R_lt (by (with_reducible repeat (first | apply Kd.R_alloc | apply Kd.R_drewN | apply Kd.R_drew)); exact (Kd.R_mono (Kd.R_far (p := ⟨gb219, 2, none⟩) (Kd.R_far (p := ⟨gb219, 1, none⟩) (Kd.R_far (p := ⟨gb219, 0, none⟩) (Kd.R_types HO215.out BK219.out (by decide)) (fun _ hk => hk.2) (.slice Ao37 t213.length co37)) (fun _ hk => hk.2) (.int .i64 t216)) (fun _ hk => hk.2) (.int .i64 t217)) (fun _ h_ => h_.1))))) (below_size (by repeat (first | (with_reducible first | exact HB.out | apply below_alloc | apply pw_below_drewN | apply below_drew1 | refine below_set ?_ GE208.out | refine below_set ?_ GE219.out) | exact HB.out)))); have n2_ := Aside0.mk (blk_below (g := gb208) (o := .cells #[.slice A0_0 l0_0.length c0_0, .int .i64 a0_1, .int .i64 a0_2] 26 (0, 0)) (by (with_reducible repeat (first | refine blk_drewN ?_ _ | refine blk_drew ?_ | refine blk_alloc ?_ _)); refine blk_far ?_ NB208_219.out _; (with_reducible repeat (first | refine blk_drewN ?_ _ | refine blk_drew ?_ | refine blk_alloc ?_ _)); refine blk_far ?_ NB208_219.out _; (with_reducible repeat (first | refine blk_drewN ?_ _ | refine blk_drew ?_ | refine blk_alloc ?_ _)); refine blk_far ?_ NB208_219.out _; (with_reducible repeat (first | refine blk_drewN ?_ _ | refine blk_drew ?_ | refine blk_alloc ?_ _)); exact BK208.out) hb); have n3_ := Aside0.mk (blk_below (g := gb219) (o := .cells #[.slice Ao37 t213.length co37, .int .i64 t216, .int .i64 t217] 26 (0, 0)) (by (with_reducible repeat (first | refine blk_drewN ?_ _ | refine blk_drew ?_ | refine blk_alloc ?_ _)); refine blk_put (cs := #[.slice Ao37 t213.length co37, .int .i64 t216, .int .i64 0]) ?_ 2 _ rfl; (with_reducible repeat (first | refine blk_drewN ?_ _ | refine blk_drew ?_ | refine blk_alloc ?_ _)); refine blk_put (cs := #[.slice Ao37 t213.length co37, .int .i64 0, .int .i64 0]) ?_ 1 _ rfl; (with_reducible repeat (first | refine blk_drewN ?_ _ | refine blk_drew ?_ | refine blk_alloc ?_ _)); refine blk_put (cs := #[.slice none 0 0, .int .i64 0, .int .i64 0]) ?_ 0 _ rfl; (with_reducible repeat (first | refine blk_drewN ?_ _ | refine blk_drew ?_ | refine blk_alloc ?_ _)); exact BK219.out) hb); have n4_ := Aside0.mk (below_step (by repeat (first | (with_reducible first | exact HB.out | apply below_alloc | apply pw_below_drewN | apply below_drew1 | refine below_set ?_ GE208.out | refine below_set ?_ GE219.out) | exact HB.out)) hb); clear HO215; clear BK208; clear BK219; clear HB; have HO215 := n0_; have HO222 := n1_; have BK208 := n2_; have BK219 := n3_; have HB := n4_; clear n0_ n1_ n2_ n3_ n4_; (try clear hb); (try clear hb2); (try clear hk); (try clear hi); (try clear ho0)) | ((with_reducible refine gate_dst (N := 5) rfl ?_); (try (refine gate_guard (by rfl) ?_; dsimp only)); refine box_event ?hg (N := 5) ?hd (cs := #[.slice none 0 0, .int .i64 0, .int .i64 0]) (t := 26) ?hr ?_; (case hd => rfl); (case hg => rfl); (case hr => first | (go_simp; done) | (go_simp; rfl)); intro gb226 hg w42 hbox hb; have n0_ := Aside0.mk (Kd.R_below (by (with_reducible repeat (first | apply Kd.R_alloc | apply Kd.R_drewN | apply Kd.R_drew)); exact HO215.out) hb); have n1_ := Aside0.mk (Kd.R_below (by (with_reducible repeat (first | apply Kd.R_alloc | apply Kd.R_drewN | apply Kd.R_drew)); exact HO222.out) hb); have n2_ := Aside0.mk (blk_below (g := gb208) (o := .cells #[.slice A0_0 l0_0.length c0_0, .int .i64 a0_1, .int .i64 a0_2] 26 (0, 0)) (by (with_reducible repeat (first | refine blk_drewN ?_ _ | refine blk_drew ?_ | refine blk_alloc ?_ _)); exact BK208.out) hb); have n3_ := Aside0.mk (blk_below (g := gb219) (o := .cells #[.slice Ao37 t213.length co37, .int .i64 t216, .int .i64 t217] 26 (0, 0)) (by (with_reducible repeat (first | refine blk_drewN ?_ _ | refine blk_drew ?_ | refine blk_alloc ?_ _)); exact BK219.out) hb); have n4_ := Aside0.mk (below_step (by repeat (first | (with_reducible first | exact HB.out | apply below_alloc | apply pw_below_drewN | apply below_drew1 | refine below_set ?_ GE208.out | refine below_set ?_ GE219.out) | exact HB.out)) hb); have n5_ := Aside0.mk (hbox); have n6_ := Aside0.mk ((by rw [hg]; exact (below_size (by repeat (first | (with_reducible first | exact HB.out | apply below_alloc | apply pw_below_drewN | apply below_drew1 | refine below_set ?_ GE208.out | refine below_set ?_ GE219.out) | exact HB.out))) : w.heap.size ≤ gb226)); have n7_ := Aside0.mk ((by rw [hg]; exact (below_size (by repeat (first | (with_reducible first | exact HB.out | apply below_alloc | apply pw_below_drewN | apply below_drew1 | refine below_set ?_ GE208.out | refine below_set ?_ GE219.out) | exact HB.out))) : w.heap.size ≤ gb226)); have n8_ := Aside0.mk ((by rw [hg]; exact Nat.ne_of_lt (blk_lt (g := gb208) (o := .cells #[.slice A0_0 l0_0.length c0_0, .int .i64 a0_1, .int .i64 a0_2] 26 (0, 0)) (by (with_reducible repeat (first | refine blk_drewN ?_ _ | refine blk_drew ?_ | refine blk_alloc ?_ _)); exact BK208.out)) : gb208 ≠ gb226)); have n9_ := Aside0.mk ((by rw [hg]; exact Nat.ne_of_gt (blk_lt (g := gb208) (o := .cells #[.slice A0_0 l0_0.length c0_0, .int .i64 a0_1, .int .i64 a0_2] 26 (0, 0)) (by (with_reducible repeat (first | refine blk_drewN ?_ _ | refine blk_drew ?_ | refine blk_alloc ?_ _)); exact BK208.out)) : gb226 ≠ gb208)); have n10_ := Aside0.mk ((by rw [hg]; exact Nat.ne_of_lt (blk_lt (g := gb219) (o := .cells #[.slice Ao37 t213.length co37, .int .i64 t216, .int .i64 t217] 26 (0, 0)) (by (with_reducible repeat (first | refine blk_drewN ?_ _ | refine blk_drew ?_ | refine blk_alloc ?_ _)); exact BK219.out)) : gb219 ≠ gb226)); have n11_ := Aside0.mk ((by rw [hg]; exact Nat.ne_of_gt (blk_lt (g := gb219) (o := .cells #[.slice Ao37 t213.length co37, .int .i64 t216, .int .i64 t217] 26 (0, 0)) (by (with_reducible repeat (first | refine blk_drewN ?_ _ | refine blk_drew ?_ | refine blk_alloc ?_ _)); exact BK219.out)) : gb226 ≠ gb219)); clear HO215; clear HO222; clear BK208; clear BK219; clear HB; have HO215 := n0_; have HO222 := n1_; have BK208 := n2_; have BK219 := n3_; have HB := n4_; have BK226 := n5_; have GW226 := n6_; have GE226 := n7_; have NB208_226 := n8_; have NB226_208 := n9_; have NB219_226 := n10_; have NB226_219 := n11_; clear n0_ n1_ n2_ n3_ n4_ n5_ n6_ n7_ n8_ n9_ n10_ n11_; clear hb hbox hg; obtain ⟨Ao43, co43, eo43⟩ := Kd.R_slice HO222.out; subst eo43; have hnb44 := NB226_208.out; have hnc44 := NB208_226.out; have hnb45 := NB226_219.out; have hnc45 := NB219_226.out; have hcz46_0 : w42.cell? ⟨gb226, 0, none⟩ = some (.slice none 0 0) := (blk_cell BK226.out 0).trans rfl; have hcz46_1 : w42.cell? ⟨gb226, 1, none⟩ = some (.int .i64 0) := (blk_cell BK226.out 1).trans rfl; have hcz46_2 : w42.cell? ⟨gb226, 2, none⟩ = some (.int .i64 0) := (blk_cell BK226.out 2).trans rfl; have hfz46_0 := blk_frozen BK226.out 0; have hfz46_1 := blk_frozen BK226.out 1; have hfz46_2 := blk_frozen BK226.out 2; have hcz47_0 : w42.cell? ⟨gb208, 0, none⟩ = some (.slice A0_0 l0_0.length c0_0) := (blk_cell BK208.out 0).trans rfl; have hcz47_1 : w42.cell? ⟨gb208, 1, none⟩ = some (.int .i64 a0_1) := (blk_cell BK208.out 1).trans rfl; have hcz47_2 : w42.cell? ⟨gb208, 2, none⟩ = some (.int .i64 a0_2) := (blk_cell BK208.out 2).trans rfl; have hfz47_0 := blk_frozen BK208.out 0; have hfz47_1 := blk_frozen BK208.out 1; have hfz47_2 := blk_frozen BK208.out 2) | ((with_reducible refine gate_callee (f := 19) rfl ?_); refine goesL_ (some 40) rfl rfl Tryd.func19 (by kernel_rfl) rfl #[.agg #[.slice A0_0 l0_0.length c0_0, .int .i64 a0_1, .int .i64 a0_2], .agg #[.slice Ao43 t220.length co43, .int .i64 t223, .int .i64 t224]] rfl (by (try simp only [List.map_toArray, List.map_cons, List.map_nil]); first | done | rfl | (simp only [List.length_drop, List.length_take]; rfl)) ?_; (with_reducible refine (term_Add.calls _ _ l0_0 a0_1 a0_2 _ _ t220 t223 t224 t227 t230 t231 t232 _ ?side1 ?side2 ?side3 ?side4 A23.out).mono ?_); (case side1 => exact Kd.C_below HR0_0.out (by repeat (first | (with_reducible first | exact HB.out | apply below_alloc | apply pw_below_drewN | apply below_drew1 | refine below_set ?_ GE208.out | refine below_set ?_ GE219.out | refine below_set ?_ GE226.out) | exact HB.out))); (case side2 => exact HC0_0.out); (case side3 => refine (Kd.R_reads' (e := 24) (base := w.heap.size) (ok := fun k_ => (True ∧ some k_ ≠ (.slice Ao37 t213.length co37 : Value).ownBlock)) (n := t220.length) (c := co43) ?_).2.2; exact (by (with_reducible repeat (first | apply Kd.R_alloc | apply Kd.R_drewN | apply Kd.R_drew)); exact (Kd.R_mono (Kd.R_far (p := ⟨gb226, 2, none⟩) (Kd.R_far (p := ⟨gb226, 1, none⟩) (Kd.R_far (p := ⟨gb226, 0, none⟩) (Kd.R_types HO222.out BK226.out (by decide)) (fun _ hk => hk.2) (.slice Ao43 t220.length co43)) (fun _ hk => hk.2) (.int .i64 t223)) (fun _ hk => hk.2) (.int .i64 t224)) (fun _ h_ => h_.1)))); (case side4 => exact (Kd.R_reads' HO222.out).2.1); rintro e w48 ⟨v228, rfl, ho0, hb⟩; refine ⟨_, rfl, ?_⟩; have n0_ := Aside0.mk (Kd.R_elder' (by (with_reducible repeat (first | apply Kd.R_alloc | apply Kd.R_drewN | apply Kd.R_drew)); exact (Kd.R_mono (Kd.R_far (p := ⟨gb226, 2, none⟩) (Kd.R_far (p := ⟨gb226, 1, none⟩) (Kd.R_far (p := ⟨gb226, 0, none⟩) (Kd.R_types HO215.out BK226.out (by decide)) (fun _ hk => hk.2) (.slice Ao43 t220.length co43)) (fun _ hk => hk.2) (.int .i64 t223)) (fun _ hk => hk.2) (.int .i64 t224)) (fun _ h_ => h_.1))) (Kd.R_base ho0) hb); have n1_ := Aside0.mk (Kd.R_elder' (by (with_reducible repeat (first | apply Kd.R_alloc | apply Kd.R_drewN | apply Kd.R_drew)); exact (Kd.R_mono (Kd.R_far (p := ⟨gb226, 2, none⟩) (Kd.R_far (p := ⟨gb226, 1, none⟩) (Kd.R_far (p := ⟨gb226, 0, none⟩) (Kd.R_types HO222.out BK226.out (by decide)) (fun _ hk => hk.2) (.slice Ao43 t220.length co43)) (fun _ hk => hk.2) (.int .i64 t223)) (fun _ hk => hk.2) (.int .i64 t224)) (fun _ h_ => h_.1))) (Kd.R_base ho0) hb); have n2_ := Aside0.mk (Kd.R_lower (Kd.R_new' (Kd.R_new' ho0 (Kd.R_lt (by (with_reducible repeat (first | apply Kd.R_alloc | apply Kd.R_drewN | apply Kd.R_drew)); exact (Kd.R_mono (Kd.R_far (p := ⟨gb226, 2, none⟩) (Kd.R_far (p := ⟨gb226, 1, none⟩) (Kd.R_far (p := ⟨gb226, 0, none⟩) (Kd.R_types HO215.out BK226.out (by decide)) (fun _ hk => hk.2) (.slice Ao43 t220.length co43)) (fun _ hk => hk.2) (.int .i64 t223)) (fun _ hk => hk.2) (.int .i64 t224)) (fun _ h_ => h_.1))))) (Kd.R_lt (by (with_reducible repeat (first | apply Kd.R_alloc | apply Kd.R_drewN | apply Kd.R_drew)); exact (Kd.R_mono (Kd.R_far (p := ⟨gb226, 2, none⟩) (Kd.R_far (p := ⟨gb226, 1, none⟩) (Kd.R_far (p := ⟨gb226, 0, none⟩) (Kd.R_types HO222.out BK226.out (by decide)) (fun _ hk => hk.2) (.slice Ao43 t220.length co43)) (fun _ hk => hk.2) (.int .i64 t223)) (fun _ hk => hk.2) (.int .i64 t224)) (fun _ h_ => h_.1))))) (below_size (by repeat (first | (with_reducible first | exact HB.out | apply below_alloc | apply pw_below_drewN | apply below_drew1 | refine below_set ?_ GE208.out | refine below_set ?_ GE219.out | refine below_set ?_ GE226.out) | exact HB.out)))); have n3_ := Aside0.mk (blk_below (g := gb208) (o := .cells #[.slice A0_0 l0_0.length c0_0, .int .i64 a0_1, .int .i64 a0_2] 26 (0, 0)) (by (with_reducible repeat (first | refine blk_drewN ?_ _ | refine blk_drew ?_ | refine blk_alloc ?_ _)); refine blk_far ?_ NB208_226.out _; (with_reducible repeat (first | refine blk_drewN ?_ _ | refine blk_drew ?_ | refine blk_alloc ?_ _)); refine blk_far ?_ NB208_226.out _; (with_reducible repeat (first | refine blk_drewN ?_ _ | refine blk_drew ?_ | refine blk_alloc ?_ _)); refine blk_far ?_ NB208_226.out _; (with_reducible repeat (first | refine blk_drewN ?_ _ | refine blk_drew ?_ | refine blk_alloc ?_ _)); exact BK208.out) hb); have n4_ := Aside0.mk (blk_below (g := gb219) (o := .cells #[.slice Ao37 t213.length co37, .int .i64 t216, .int .i64 t217] 26 (0, 0)) (by (with_reducible repeat (first | refine blk_drewN ?_ _ | refine blk_drew ?_ | refine blk_alloc ?_ _)); refine blk_far ?_ NB219_226.out _; (with_reducible repeat (first | refine blk_drewN ?_ _ | refine blk_drew ?_ | refine blk_alloc ?_ _)); refine blk_far ?_ NB219_226.out _; (with_reducible repeat (first | refine blk_drewN ?_ _ | refine blk_drew ?_ | refine blk_alloc ?_ _)); refine blk_far ?_ NB219_226.out _; (with_reducible repeat (first | refine blk_drewN ?_ _ | refine blk_drew ?_ | refine blk_alloc ?_ _)); exact BK219.out) hb); have n5_ := Aside0.mk (blk_below (g := gb226) (o := .cells #[.slice Ao43 t220.length co43, .int .i64 t223, .int .i64 t224] 26 (0, 0)) (by (with_reducible repeat (first | refine blk_drewN ?_ _ | refine blk_drew ?_ | refine blk_alloc ?_ _)); refine blk_put (cs := #[.slice Ao43 t220.length co43, .int .i64 t223, .int .i64 0]) ?_ 2 _ rfl; (with_reducible repeat (first | refine blk_drewN ?_ _ | refine blk_drew ?_ | refine blk_alloc ?_ _)); refine blk_put (cs := #[.slice Ao43 t220.length co43, .int .i64 0, .int .i64 0]) ?_ 1 _ rfl; (with_reducible repeat (first | refine blk_drewN ?_ _ | refine blk_drew ?_ | refine blk_alloc ?_ _)); refine blk_put (cs := #[.slice none 0 0, .int .i64 0, .int .i64 0]) ?_ 0 _ rfl; (with_reducible repeat (first | refine blk_drewN ?_ _ | refine blk_drew ?_ | refine blk_alloc ?_ _)); exact BK226.out) hb); have n6_ := Aside0.mk (below_step (by repeat (first | (with_reducible first | exact HB.out | apply below_alloc | apply pw_below_drewN | apply below_drew1 | refine below_set ?_ GE208.out | refine below_set ?_ GE219.out | refine below_set ?_ GE226.out) | exact HB.out)) hb); clear HO215; clear HO222; clear BK208; clear BK219; clear BK226; clear HB; have HO215 := n0_; have HO222 := n1_; have HO229 := n2_; have BK208 := n3_; have BK219 := n4_; have BK226 := n5_; have HB := n6_; clear n0_ n1_ n2_ n3_ n4_ n5_ n6_; (try clear hb); (try clear hb2); (try clear hk); (try clear hi); (try clear ho0)) | ((with_reducible refine gate_dst (N := 7) rfl ?_); (try (refine gate_guard (by rfl) ?_; dsimp only)); refine box_event ?hg (N := 7) ?hd (cs := #[.slice none 0 0, .int .i64 0, .int .i64 0]) (t := 26) ?hr ?_; (case hd => rfl); (case hg => rfl); (case hr => first | (go_simp; done) | (go_simp; rfl)); intro gb233 hg w49 hbox hb; have n0_ := Aside0.mk (Kd.R_below (by (with_reducible repeat (first | apply Kd.R_alloc | apply Kd.R_drewN | apply Kd.R_drew)); exact HO215.out) hb); have n1_ := Aside0.mk (Kd.R_below (by (with_reducible repeat (first | apply Kd.R_alloc | apply Kd.R_drewN | apply Kd.R_drew)); exact HO222.out) hb); have n2_ := Aside0.mk (Kd.R_below (by (with_reducible repeat (first | apply Kd.R_alloc | apply Kd.R_drewN | apply Kd.R_drew)); exact HO229.out) hb); have n3_ := Aside0.mk (blk_below (g := gb208) (o := .cells #[.slice A0_0 l0_0.length c0_0, .int .i64 a0_1, .int .i64 a0_2] 26 (0, 0)) (by (with_reducible repeat (first | refine blk_drewN ?_ _ | refine blk_drew ?_ | refine blk_alloc ?_ _)); exact BK208.out) hb); have n4_ := Aside0.mk (blk_below (g := gb219) (o := .cells #[.slice Ao37 t213.length co37, .int .i64 t216, .int .i64 t217] 26 (0, 0)) (by (with_reducible repeat (first | refine blk_drewN ?_ _ | refine blk_drew ?_ | refine blk_alloc ?_ _)); exact BK219.out) hb); have n5_ := Aside0.mk (blk_below (g := gb226) (o := .cells #[.slice Ao43 t220.length co43, .int .i64 t223, .int .i64 t224] 26 (0, 0)) (by (with_reducible repeat (first | refine blk_drewN ?_ _ | refine blk_drew ?_ | refine blk_alloc ?_ _)); exact BK226.out) hb); have n6_ := Aside0.mk (below_step (by repeat (first | (with_reducible first | exact HB.out | apply below_alloc | apply pw_below_drewN | apply below_drew1 | refine below_set ?_ GE208.out | refine below_set ?_ GE219.out | refine below_set ?_ GE226.out) | exact HB.out)) hb); have n7_ := Aside0.mk (hbox); have n8_ := Aside0.mk ((by rw [hg]; exact (below_size (by repeat (first | (with_reducible first | exact HB.out | apply below_alloc | apply pw_below_drewN | apply below_drew1 | refine below_set ?_ GE208.out | refine below_set ?_ GE219.out | refine below_set ?_ GE226.out) | exact HB.out))) : w.heap.size ≤ gb233)); have n9_ := Aside0.mk ((by rw [hg]; exact (below_size (by repeat (first | (with_reducible first | exact HB.out | apply below_alloc | apply pw_below_drewN | apply below_drew1 | refine below_set ?_ GE208.out | refine below_set ?_ GE219.out | refine below_set ?_ GE226.out) | exact HB.out))) : w.heap.size ≤ gb233)); have n10_ := Aside0.mk ((by rw [hg]; exact Nat.ne_of_lt (blk_lt (g := gb208) (o := .cells #[.slice A0_0 l0_0.length c0_0, .int .i64 a0_1, .int .i64 a0_2] 26 (0, 0)) (by (with_reducible repeat (first | refine blk_drewN ?_ _ | refine blk_drew ?_ | refine blk_alloc ?_ _)); exact BK208.out)) : gb208 ≠ gb233)); have n11_ := Aside0.mk ((by rw [hg]; exact Nat.ne_of_gt (blk_lt (g := gb208) (o := .cells #[.slice A0_0 l0_0.length c0_0, .int .i64 a0_1, .int .i64 a0_2] 26 (0, 0)) (by (with_reducible repeat (first | refine blk_drewN ?_ _ | refine blk_drew ?_ | refine blk_alloc ?_ _)); exact BK208.out)) : gb233 ≠ gb208)); have n12_ := Aside0.mk ((by rw [hg]; exact Nat.ne_of_lt (blk_lt (g := gb219) (o := .cells #[.slice Ao37 t213.length co37, .int .i64 t216, .int .i64 t217] 26 (0, 0)) (by (with_reducible repeat (first | refine blk_drewN ?_ _ | refine blk_drew ?_ | refine blk_alloc ?_ _)); exact BK219.out)) : gb219 ≠ gb233)); have n13_ := Aside0.mk ((by rw [hg]; exact Nat.ne_of_gt (blk_lt (g := gb219) (o := .cells #[.slice Ao37 t213.length co37, .int .i64 t216, .int .i64 t217] 26 (0, 0)) (by (with_reducible repeat (first | refine blk_drewN ?_ _ | refine blk_drew ?_ | refine blk_alloc ?_ _)); exact BK219.out)) : gb233 ≠ gb219)); have n14_ := Aside0.mk ((by rw [hg]; exact Nat.ne_of_lt (blk_lt (g := gb226) (o := .cells #[.slice Ao43 t220.length co43, .int .i64 t223, .int .i64 t224] 26 (0, 0)) (by (with_reducible repeat (first | refine blk_drewN ?_ _ | refine blk_drew ?_ | refine blk_alloc ?_ _)); exact BK226.out)) : gb226 ≠ gb233)); have n15_ := Aside0.mk ((by rw [hg]; exact Nat.ne_of_gt (blk_lt (g := gb226) (o := .cells #[.slice Ao43 t220.length co43, .int .i64 t223, .int .i64 t224] 26 (0, 0)) (by (with_reducible repeat (first | refine blk_drewN ?_ _ | refine blk_drew ?_ | refine blk_alloc ?_ _)); exact BK226.out)) : gb233 ≠ gb226)); clear HO215; clear HO222; clear HO229; clear BK208; clear BK219; clear BK226; clear HB; have HO215 := n0_; have HO222 := n1_; have HO229 := n2_; have BK208 := n3_; have BK219 := n4_; have BK226 := n5_; have HB := n6_; have BK233 := n7_; have GW233 := n8_; have GE233 := n9_; have NB208_233 := n10_; have NB233_208 := n11_; have NB219_233 := n12_; have NB233_219 := n13_; have NB226_233 := n14_; have NB233_226 := n15_; clear n0_ n1_ n2_ n3_ n4_ n5_ n6_ n7_ n8_ n9_ n10_ n11_ n12_ n13_ n14_ n15_; clear hb hbox hg; obtain ⟨Ao50, co50, eo50⟩ := Kd.R_slice HO229.out; subst eo50; have hnb51 := NB233_208.out; have hnc51 := NB208_233.out; have hnb52 := NB233_219.out; have hnc52 := NB219_233.out; have hnb53 := NB233_226.out; have hnc53 := NB226_233.out; have hcz54_0 : w49.cell? ⟨gb233, 0, none⟩ = some (.slice none 0 0) := (blk_cell BK233.out 0).trans rfl; have hcz54_1 : w49.cell? ⟨gb233, 1, none⟩ = some (.int .i64 0) := (blk_cell BK233.out 1).trans rfl; have hcz54_2 : w49.cell? ⟨gb233, 2, none⟩ = some (.int .i64 0) := (blk_cell BK233.out 2).trans rfl; have hfz54_0 := blk_frozen BK233.out 0; have hfz54_1 := blk_frozen BK233.out 1; have hfz54_2 := blk_frozen BK233.out 2; have hcz55_0 : w49.cell? ⟨gb208, 0, none⟩ = some (.slice A0_0 l0_0.length c0_0) := (blk_cell BK208.out 0).trans rfl; have hcz55_1 : w49.cell? ⟨gb208, 1, none⟩ = some (.int .i64 a0_1) := (blk_cell BK208.out 1).trans rfl; have hcz55_2 : w49.cell? ⟨gb208, 2, none⟩ = some (.int .i64 a0_2) := (blk_cell BK208.out 2).trans rfl; have hfz55_0 := blk_frozen BK208.out 0; have hfz55_1 := blk_frozen BK208.out 1; have hfz55_2 := blk_frozen BK208.out 2) | ((with_reducible refine gate_callee (f := 21) rfl ?_); refine goesL_ (some 46) rfl rfl Tryd.func21 (by kernel_rfl) rfl #[.agg #[.slice A0_0 l0_0.length c0_0, .int .i64 a0_1, .int .i64 a0_2], .agg #[.int .i64 1, .int .i64 1]] rfl (by (try simp only [List.map_toArray, List.map_cons, List.map_nil]); first | done | rfl | (simp only [List.length_drop, List.length_take]; rfl)) ?_; (with_reducible refine (term_Scale.calls _ _ l0_0 a0_1 a0_2 1 1 t234 t237 t238 t239 _ ?side1 ?side2 A24.out).mono ?_); (case side1 => exact Kd.C_below HR0_0.out (by repeat (first | (with_reducible first | exact HB.out | apply below_alloc | apply pw_below_drewN | apply below_drew1 | refine below_set ?_ GE208.out | refine below_set ?_ GE219.out | refine below_set ?_ GE226.out | refine below_set ?_ GE233.out) | exact HB.out))); (case side2 => exact HC0_0.out); rintro e w56 ⟨v235, rfl, ho0, hb⟩; refine ⟨_, rfl, ?_⟩; have n0_ := Aside0.mk (Kd.R_elder' (by (with_reducible repeat (first | apply Kd.R_alloc | apply Kd.R_drewN | apply Kd.R_drew)); exact (Kd.R_mono (Kd.R_far (p := ⟨gb233, 2, none⟩) (Kd.R_far (p := ⟨gb233, 1, none⟩) (Kd.R_far (p := ⟨gb233, 0, none⟩) (Kd.R_types HO215.out BK233.out (by decide)) (fun _ hk => hk.2) (.slice Ao50 t227.length co50)) (fun _ hk => hk.2) (.int .i64 t230)) (fun _ hk => hk.2) (.int .i64 t231)) (fun _ h_ => h_.1))) (Kd.R_base ho0) hb); have n1_ := Aside0.mk (Kd.R_elder' (by (with_reducible repeat (first | apply Kd.R_alloc | apply Kd.R_drewN | apply Kd.R_drew)); exact (Kd.R_mono (Kd.R_far (p := ⟨gb233, 2, none⟩) (Kd.R_far (p := ⟨gb233, 1, none⟩) (Kd.R_far (p := ⟨gb233, 0, none⟩) (Kd.R_types HO222.out BK233.out (by decide)) (fun _ hk => hk.2) (.slice Ao50 t227.length co50)) (fun _ hk => hk.2) (.int .i64 t230)) (fun _ hk => hk.2) (.int .i64 t231)) (fun _ h_ => h_.1))) (Kd.R_base ho0) hb); have n2_ := Aside0.mk (Kd.R_elder' (by (with_reducible repeat (first | apply Kd.R_alloc | apply Kd.R_drewN | apply Kd.R_drew)); exact (Kd.R_mono (Kd.R_far (p := ⟨gb233, 2, none⟩) (Kd.R_far (p := ⟨gb233, 1, none⟩) (Kd.R_far (p := ⟨gb233, 0, none⟩) (Kd.R_types HO229.out BK233.out (by decide)) (fun _ hk => hk.2) (.slice Ao50 t227.length co50)) (fun _ hk => hk.2) (.int .i64 t230)) (fun _ hk => hk.2) (.int .i64 t231)) (fun _ h_ => h_.1))) (Kd.R_base ho0) hb); have n3_ := Aside0.mk (Kd.R_lower (Kd.R_new' (Kd.R_new' (Kd.R_new' ho0 (Kd.R_lt (by (with_reducible repeat (first | apply Kd.R_alloc | apply Kd.R_drewN | apply Kd.R_drew)); exact (Kd.R_mono (Kd.R_far (p := ⟨gb233, 2, none⟩) (Kd.R_far (p := ⟨gb233, 1, none⟩) (Kd.R_far (p := ⟨gb233, 0, none⟩) (Kd.R_types HO215.out BK233.out (by decide)) (fun _ hk => hk.2) (.slice Ao50 t227.length co50)) (fun _ hk => hk.2) (.int .i64 t230)) (fun _ hk => hk.2) (.int .i64 t231)) (fun _ h_ => h_.1))))) (Kd.R_lt (by (with_reducible repeat (first | apply Kd.R_alloc | apply Kd.R_drewN | apply Kd.R_drew)); exact (Kd.R_mono (Kd.R_far (p := ⟨gb233, 2, none⟩) (Kd.R_far (p := ⟨gb233, 1, none⟩) (Kd.R_far (p := ⟨gb233, 0, none⟩) (Kd.R_types HO222.out BK233.out (by decide)) (fun _ hk => hk.2) (.slice Ao50 t227.length co50)) (fun _ hk => hk.2) (.int .i64 t230)) (fun _ hk => hk.2) (.int .i64 t231)) (fun _ h_ => h_.1))))) (Kd.R_lt (by (with_reducible repeat (first | apply Kd.R_alloc | apply Kd.R_drewN | apply Kd.R_drew)); exact (Kd.R_mono (Kd.R_far (p := ⟨gb233, 2, none⟩) (Kd.R_far (p := ⟨gb233, 1, none⟩) (Kd.R_far (p := ⟨gb233, 0, none⟩) (Kd.R_types HO229.out BK233.out (by decide)) (fun _ hk => hk.2) (.slice Ao50 t227.length co50)) (fun _ hk => hk.2) (.int .i64 t230)) (fun _ hk => hk.2) (.int .i64 t231)) (fun _ h_ => h_.1))))) (below_size (by repeat (first | (with_reducible first | exact HB.out | apply below_alloc | apply pw_below_drewN | apply below_drew1 | refine below_set ?_ GE208.out | refine below_set ?_ GE219.out | refine below_set ?_ GE226.out | refine below_set ?_ GE233.out) | exact HB.out)))); have n4_ := Aside0.mk (blk_below (g := gb208) (o := .cells #[.slice A0_0 l0_0.length c0_0, .int .i64 a0_1, .int .i64 a0_2] 26 (0, 0)) (by (with_reducible repeat (first | refine blk_drewN ?_ _ | refine blk_drew ?_ | refine blk_alloc ?_ _)); refine blk_far ?_ NB208_233.out _; (with_reducible repeat (first | refine blk_drewN ?_ _ | refine blk_drew ?_ | refine blk_alloc ?_ _)); refine blk_far ?_ NB208_233.out _; (with_reducible repeat (first | refine blk_drewN ?_ _ | refine blk_drew ?_ | refine blk_alloc ?_ _)); refine blk_far ?_ NB208_233.out _; (with_reducible repeat (first | refine blk_drewN ?_ _ | refine blk_drew ?_ | refine blk_alloc ?_ _)); exact BK208.out) hb); have n5_ := Aside0.mk (blk_below (g := gb219) (o := .cells #[.slice Ao37 t213.length co37, .int .i64 t216, .int .i64 t217] 26 (0, 0)) (by (with_reducible repeat (first | refine blk_drewN ?_ _ | refine blk_drew ?_ | refine blk_alloc ?_ _)); refine blk_far ?_ NB219_233.out _; (with_reducible repeat (first | refine blk_drewN ?_ _ | refine blk_drew ?_ | refine blk_alloc ?_ _)); refine blk_far ?_ NB219_233.out _; (with_reducible repeat (first | refine blk_drewN ?_ _ | refine blk_drew ?_ | refine blk_alloc ?_ _)); refine blk_far ?_ NB219_233.out _; (with_reducible repeat (first | refine blk_drewN ?_ _ | refine blk_drew ?_ | refine blk_alloc ?_ _)); exact BK219.out) hb); have n6_ := Aside0.mk (blk_below (g := gb226) (o := .cells #[.slice Ao43 t220.length co43, .int .i64 t223, .int .i64 t224] 26 (0, 0)) (by (with_reducible repeat (first | refine blk_drewN ?_ _ | refine blk_drew ?_ | refine blk_alloc ?_ _)); refine blk_far ?_ NB226_233.out _; (with_reducible repeat (first | refine blk_drewN ?_ _ | refine blk_drew ?_ | refine blk_alloc ?_ _)); refine blk_far ?_ NB226_233.out _; (with_reducible repeat (first | refine blk_drewN ?_ _ | refine blk_drew ?_ | refine blk_alloc ?_ _)); refine blk_far ?_ NB226_233.out _; (with_reducible repeat (first | refine blk_drewN ?_ _ | refine blk_drew ?_ | refine blk_alloc ?_ _)); exact BK226.out) hb); have n7_ := Aside0.mk (blk_below (g := gb233) (o := .cells #[.slice Ao50 t227.length co50, .int .i64 t230, .int .i64 t231] 26 (0, 0)) (by (with_reducible repeat (first | refine blk_drewN ?_ _ | refine blk_drew ?_ | refine blk_alloc ?_ _)); refine blk_put (cs := #[.slice Ao50 t227.length co50, .int .i64 t230, .int .i64 0]) ?_ 2 _ rfl; (with_reducible repeat (first | refine blk_drewN ?_ _ | refine blk_drew ?_ | refine blk_alloc ?_ _)); refine blk_put (cs := #[.slice Ao50 t227.length co50, .int .i64 0, .int .i64 0]) ?_ 1 _ rfl; (with_reducible repeat (first | refine blk_drewN ?_ _ | refine blk_drew ?_ | refine blk_alloc ?_ _)); refine blk_put (cs := #[.slice none 0 0, .int .i64 0, .int .i64 0]) ?_ 0 _ rfl; (with_reducible repeat (first | refine blk_drewN ?_ _ | refine blk_drew ?_ | refine blk_alloc ?_ _)); exact BK233.out) hb); have n8_ := Aside0.mk (below_step (by repeat (first | (with_reducible first | exact HB.out | apply below_alloc | apply pw_below_drewN | apply below_drew1 | refine below_set ?_ GE208.out | refine below_set ?_ GE219.out | refine below_set ?_ GE226.out | refine below_set ?_ GE233.out) | exact HB.out)) hb); clear HO215; clear HO222; clear HO229; clear BK208; clear BK219; clear BK226; clear BK233; clear HB; have HO215 := n0_; have HO222 := n1_; have HO229 := n2_; have HO236 := n3_; have BK208 := n4_; have BK219 := n5_; have BK226 := n6_; have BK233 := n7_; have HB := n8_; clear n0_ n1_ n2_ n3_ n4_ n5_ n6_ n7_ n8_; (try clear hb); (try clear hb2); (try clear hk); (try clear hi); (try clear ho0)) | ((with_reducible refine gate_dst (N := 9) rfl ?_); (try (refine gate_guard (by rfl) ?_; dsimp only)); refine box_event ?hg (N := 9) ?hd (cs := #[.slice none 0 0, .int .i64 0, .int .i64 0]) (t := 26) ?hr ?_; (case hd => rfl); (case hg => rfl); (case hr => first | (go_simp; done) | (go_simp; rfl)); intro gb240 hg w57 hbox hb; have n0_ := Aside0.mk (Kd.R_below (by (with_reducible repeat (first | apply Kd.R_alloc | apply Kd.R_drewN | apply Kd.R_drew)); exact HO215.out) hb); have n1_ := Aside0.mk (Kd.R_below (by (with_reducible repeat (first | apply Kd.R_alloc | apply Kd.R_drewN | apply Kd.R_drew)); exact HO222.out) hb); have n2_ := Aside0.mk (Kd.R_below (by (with_reducible repeat (first | apply Kd.R_alloc | apply Kd.R_drewN | apply Kd.R_drew)); exact HO229.out) hb); have n3_ := Aside0.mk (Kd.R_below (by (with_reducible repeat (first | apply Kd.R_alloc | apply Kd.R_drewN | apply Kd.R_drew)); exact HO236.out) hb); have n4_ := Aside0.mk (blk_below (g := gb208) (o := .cells #[.slice A0_0 l0_0.length c0_0, .int .i64 a0_1, .int .i64 a0_2] 26 (0, 0)) (by (with_reducible repeat (first | refine blk_drewN ?_ _ | refine blk_drew ?_ | refine blk_alloc ?_ _)); exact BK208.out) hb); have n5_ := Aside0.mk (blk_below (g := gb219) (o := .cells #[.slice Ao37 t213.length co37, .int .i64 t216, .int .i64 t217] 26 (0, 0)) (by (with_reducible repeat (first | refine blk_drewN ?_ _ | refine blk_drew ?_ | refine blk_alloc ?_ _)); exact BK219.out) hb); have n6_ := Aside0.mk (blk_below (g := gb226) (o := .cells #[.slice Ao43 t220.length co43, .int .i64 t223, .int .i64 t224] 26 (0, 0)) (by (with_reducible repeat (first | refine blk_drewN ?_ _ | refine blk_drew ?_ | refine blk_alloc ?_ _)); exact BK226.out) hb); have n7_ := Aside0.mk (blk_below (g := gb233) (o := .cells #[.slice Ao50 t227.length co50, .int .i64 t230, .int .i64 t231] 26 (0, 0)) (by (with_reducible repeat (first | refine blk_drewN ?_ _ | refine blk_drew ?_ | refine blk_alloc ?_ _)); exact BK233.out) hb); have n8_ := Aside0.mk (below_step (by repeat (first | (with_reducible first | exact HB.out | apply below_alloc | apply pw_below_drewN | apply below_drew1 | refine below_set ?_ GE208.out | refine below_set ?_ GE219.out | refine below_set ?_ GE226.out | refine below_set ?_ GE233.out) | exact HB.out)) hb); have n9_ := Aside0.mk (hbox); have n10_ := Aside0.mk ((by rw [hg]; exact (below_size (by repeat (first | (with_reducible first | exact HB.out | apply below_alloc | apply pw_below_drewN | apply below_drew1 | refine below_set ?_ GE208.out | refine below_set ?_ GE219.out | refine below_set ?_ GE226.out | refine below_set ?_ GE233.out) | exact HB.out))) : w.heap.size ≤ gb240)); have n11_ := Aside0.mk ((by rw [hg]; exact (below_size (by repeat (first | (with_reducible first | exact HB.out | apply below_alloc | apply pw_below_drewN | apply below_drew1 | refine below_set ?_ GE208.out | refine below_set ?_ GE219.out | refine below_set ?_ GE226.out | refine below_set ?_ GE233.out) | exact HB.out))) : w.heap.size ≤ gb240)); have n12_ := Aside0.mk ((by rw [hg]; exact Nat.ne_of_lt (blk_lt (g := gb208) (o := .cells #[.slice A0_0 l0_0.length c0_0, .int .i64 a0_1, .int .i64 a0_2] 26 (0, 0)) (by (with_reducible repeat (first | refine blk_drewN ?_ _ | refine blk_drew ?_ | refine blk_alloc ?_ _)); exact BK208.out)) : gb208 ≠ gb240)); have n13_ := Aside0.mk ((by rw [hg]; exact Nat.ne_of_gt (blk_lt (g := gb208) (o := .cells #[.slice A0_0 l0_0.length c0_0, .int .i64 a0_1, .int .i64 a0_2] 26 (0, 0)) (by (with_reducible repeat (first | refine blk_drewN ?_ _ | refine blk_drew ?_ | refine blk_alloc ?_ _)); exact BK208.out)) : gb240 ≠ gb208)); have n14_ := Aside0.mk ((by rw [hg]; exact Nat.ne_of_lt (blk_lt (g := gb219) (o := .cells #[.slice Ao37 t213.length co37, .int .i64 t216, .int .i64 t217] 26 (0, 0)) (by (with_reducible repeat (first | refine blk_drewN ?_ _ | refine blk_drew ?_ | refine blk_alloc ?_ _)); exact BK219.out)) : gb219 ≠ gb240)); have n15_ := Aside0.mk ((by rw [hg]; exact Nat.ne_of_gt (blk_lt (g := gb219) (o := .cells #[.slice Ao37 t213.length co37, .int .i64 t216, .int .i64 t217] 26 (0, 0)) (by (with_reducible repeat (first | refine blk_drewN ?_ _ | refine blk_drew ?_ | refine blk_alloc ?_ _)); exact BK219.out)) : gb240 ≠ gb219)); have n16_ := Aside0.mk ((by rw [hg]; exact Nat.ne_of_lt (blk_lt (g := gb226) (o := .cells #[.slice Ao43 t220.length co43, .int .i64 t223, .int .i64 t224] 26 (0, 0)) (by (with_reducible repeat (first | refine blk_drewN ?_ _ | refine blk_drew ?_ | refine blk_alloc ?_ _)); exact BK226.out)) : gb226 ≠ gb240)); have n17_ := Aside0.mk ((by rw [hg]; exact Nat.ne_of_gt (blk_lt (g := gb226) (o := .cells #[.slice Ao43 t220.length co43, .int .i64 t223, .int .i64 t224] 26 (0, 0)) (by (with_reducible repeat (first | refine blk_drewN ?_ _ | refine blk_drew ?_ | refine blk_alloc ?_ _)); exact BK226.out)) : gb240 ≠ gb226)); have n18_ := Aside0.mk ((by rw [hg]; exact Nat.ne_of_lt (blk_lt (g := gb233) (o := .cells #[.slice Ao50 t227.length co50, .int .i64 t230, .int .i64 t231] 26 (0, 0)) (by (with_reducible repeat (first | refine blk_drewN ?_ _ | refine blk_drew ?_ | refine blk_alloc ?_ _)); exact BK233.out)) : gb233 ≠ gb240)); have n19_ := Aside0.mk ((by rw [hg]; exact Nat.ne_of_gt (blk_lt (g := gb233) (o := .cells #[.slice Ao50 t227.length co50, .int .i64 t230, .int .i64 t231] 26 (0, 0)) (by (with_reducible repeat (first | refine blk_drewN ?_ _ | refine blk_drew ?_ | refine blk_alloc ?_ _)); exact BK233.out)) : gb240 ≠ gb233)); clear HO215; clear HO222; clear HO229; clear HO236; clear BK208; clear BK219; clear BK226; clear BK233; clear HB; have HO215 := n0_; have HO222 := n1_; have HO229 := n2_; have HO236 := n3_; have BK208 := n4_; have BK219 := n5_; have BK226 := n6_; have BK233 := n7_; have HB := n8_; have BK240 := n9_; have GW240 := n10_; have GE240 := n11_; have NB208_240 := n12_; have NB240_208 := n13_; have NB219_240 := n14_; have NB240_219 := n15_; have NB226_240 := n16_; have NB240_226 := n17_; have NB233_240 := n18_; have NB240_233 := n19_; clear n0_ n1_ n2_ n3_ n4_ n5_ n6_ n7_ n8_ n9_ n10_ n11_ n12_ n13_ n14_ n15_ n16_ n17_ n18_ n19_; clear hb hbox hg; obtain ⟨Ao58, co58, eo58⟩ := Kd.R_slice HO236.out; subst eo58; have hnb59 := NB240_208.out; have hnc59 := NB208_240.out; have hnb60 := NB240_219.out; have hnc60 := NB219_240.out; have hnb61 := NB240_226.out; have hnc61 := NB226_240.out; have hnb62 := NB240_233.out; have hnc62 := NB233_240.out; have hcz63_0 : w57.cell? ⟨gb240, 0, none⟩ = some (.slice none 0 0) := (blk_cell BK240.out 0).trans rfl; have hcz63_1 : w57.cell? ⟨gb240, 1, none⟩ = some (.int .i64 0) := (blk_cell BK240.out 1).trans rfl; have hcz63_2 : w57.cell? ⟨gb240, 2, none⟩ = some (.int .i64 0) := (blk_cell BK240.out 2).trans rfl; have hfz63_0 := blk_frozen BK240.out 0; have hfz63_1 := blk_frozen BK240.out 1; have hfz63_2 := blk_frozen BK240.out 2; have hcz64_0 : w57.cell? ⟨gb219, 0, none⟩ = some (.slice Ao37 t213.length co37) := (blk_cell BK219.out 0).trans rfl; have hcz64_1 : w57.cell? ⟨gb219, 1, none⟩ = some (.int .i64 t216) := (blk_cell BK219.out 1).trans rfl; have hcz64_2 : w57.cell? ⟨gb219, 2, none⟩ = some (.int .i64 t217) := (blk_cell BK219.out 2).trans rfl; have hfz64_0 := blk_frozen BK219.out 0; have hfz64_1 := blk_frozen BK219.out 1; have hfz64_2 := blk_frozen BK219.out 2; have hcz65_0 : w57.cell? ⟨gb208, 0, none⟩ = some (.slice A0_0 l0_0.length c0_0) := (blk_cell BK208.out 0).trans rfl; have hcz65_1 : w57.cell? ⟨gb208, 1, none⟩ = some (.int .i64 a0_1) := (blk_cell BK208.out 1).trans rfl; have hcz65_2 : w57.cell? ⟨gb208, 2, none⟩ = some (.int .i64 a0_2) := (blk_cell BK208.out 2).trans rfl; have hfz65_0 := blk_frozen BK208.out 0; have hfz65_1 := blk_frozen BK208.out 1; have hfz65_2 := blk_frozen BK208.out 2) | (go_at_call 16; (with_reducible refine (term_Same.calls kj1 _ _ t213 t216 t217 _ _ l0_0 a0_1 a0_2 true _ ?side1 ?side2 ?side3 ?side4 A29.out).mono ?_); (case side1 => refine (Kd.R_reads' (e := 24) (base := w.heap.size) (ok := fun k_ => (((True ∧ some k_ ≠ (.slice Ao43 t220.length co43 : Value).ownBlock) ∧ some k_ ≠ (.slice Ao50 t227.length co50 : Value).ownBlock) ∧ some k_ ≠ (.slice Ao58 t234.length co58 : Value).ownBlock)) (n := t213.length) (c := co37) ?_).2.2; exact (by (with_reducible repeat (first | apply Kd.R_alloc | apply Kd.R_drewN | apply Kd.R_drew)); exact (Kd.R_mono (Kd.R_far (p := ⟨gb240, 2, none⟩) (Kd.R_far (p := ⟨gb240, 1, none⟩) (Kd.R_far (p := ⟨gb240, 0, none⟩) (Kd.R_types HO215.out BK240.out (by decide)) (fun _ hk => hk.2) (.slice Ao58 t234.length co58)) (fun _ hk => hk.2) (.int .i64 t237)) (fun _ hk => hk.2) (.int .i64 t238)) (fun _ h_ => h_.1)))); (case side2 => exact (Kd.R_reads' HO215.out).2.1); (case side3 => exact Kd.C_below HR0_0.out (by repeat (first | (with_reducible first | exact HB.out | apply below_alloc | apply pw_below_drewN | apply below_drew1 | refine below_set ?_ GE208.out | refine below_set ?_ GE219.out | refine below_set ?_ GE226.out | refine below_set ?_ GE233.out | refine below_set ?_ GE240.out) | exact HB.out))); (case side4 => exact HC0_0.out); rintro e w66 ⟨rfl, hb⟩; have n0_ := Aside0.mk (Kd.R_below (by (with_reducible repeat (first | apply Kd.R_alloc | apply Kd.R_drewN | apply Kd.R_drew)); exact (Kd.R_mono (Kd.R_far (p := ⟨gb240, 2, none⟩) (Kd.R_far (p := ⟨gb240, 1, none⟩) (Kd.R_far (p := ⟨gb240, 0, none⟩) (Kd.R_types HO215.out BK240.out (by decide)) (fun _ hk => hk.2) (.slice Ao58 t234.length co58)) (fun _ hk => hk.2) (.int .i64 t237)) (fun _ hk => hk.2) (.int .i64 t238)) (fun _ h_ => h_.1))) hb); have n1_ := Aside0.mk (Kd.R_below (by (with_reducible repeat (first | apply Kd.R_alloc | apply Kd.R_drewN | apply Kd.R_drew)); exact (Kd.R_mono (Kd.R_far (p := ⟨gb240, 2, none⟩) (Kd.R_far (p := ⟨gb240, 1, none⟩) (Kd.R_far (p := ⟨gb240, 0, none⟩) (Kd.R_types HO222.out BK240.out (by decide)) (fun _ hk => hk.2) (.slice Ao58 t234.length co58)) (fun _ hk => hk.2) (.int .i64 t237)) (fun _ hk => hk.2) (.int .i64 t238)) (fun _ h_ => h_.1))) hb); have n2_ := Aside0.mk (Kd.R_below (by (with_reducible repeat (first | apply Kd.R_alloc | apply Kd.R_drewN | apply Kd.R_drew)); exact (Kd.R_mono (Kd.R_far (p := ⟨gb240, 2, none⟩) (Kd.R_far (p := ⟨gb240, 1, none⟩) (Kd.R_far (p := ⟨gb240, 0, none⟩) (Kd.R_types HO229.out BK240.out (by decide)) (fun _ hk => hk.2) (.slice Ao58 t234.length co58)) (fun _ hk => hk.2) (.int .i64 t237)) (fun _ hk => hk.2) (.int .i64 t238)) (fun _ h_ => h_.1))) hb); have n3_ := Aside0.mk (Kd.R_below (by (with_reducible repeat (first | apply Kd.R_alloc | apply Kd.R_drewN | apply Kd.R_drew)); exact (Kd.R_mono (Kd.R_far (p := ⟨gb240, 2, none⟩) (Kd.R_far (p := ⟨gb240, 1, none⟩) (Kd.R_far (p := ⟨gb240, 0, none⟩) (Kd.R_types HO236.out BK240.out (by decide)) (fun _ hk => hk.2) (.slice Ao58 t234.length co58)) (fun _ hk => hk.2) (.int .i64 t237)) (fun _ hk => hk.2) (.int .i64 t238)) (fun _ h_ => h_.1))) hb); have n4_ := Aside0.mk (blk_below (g := gb208) (o := .cells #[.slice A0_0 l0_0.length c0_0, .int .i64 a0_1, .int .i64 a0_2] 26 (0, 0)) (by (with_reducible repeat (first | refine blk_drewN ?_ _ | refine blk_drew ?_ | refine blk_alloc ?_ _)); refine blk_far ?_ NB208_240.out _; (with_reducible repeat (first | refine blk_drewN ?_ _ | refine blk_drew ?_ | refine blk_alloc ?_ _)); refine blk_far ?_ NB208_240.out _; (with_reducible repeat (first | refine blk_drewN ?_ _ | refine blk_drew ?_ | refine blk_alloc ?_ _)); refine blk_far ?_ NB208_240.out _; (with_reducible repeat (first | refine blk_drewN ?_ _ | refine blk_drew ?_ | refine blk_alloc ?_ _)); exact BK208.out) hb); have n5_ := Aside0.mk (blk_below (g := gb219) (o := .cells #[.slice Ao37 t213.length co37, .int .i64 t216, .int .i64 t217] 26 (0, 0)) (by (with_reducible repeat (first | refine blk_drewN ?_ _ | refine blk_drew ?_ | refine blk_alloc ?_ _)); refine blk_far ?_ NB219_240.out _; (with_reducible repeat (first | refine blk_drewN ?_ _ | refine blk_drew ?_ | refine blk_alloc ?_ _)); refine blk_far ?_ NB219_240.out _; (with_reducible repeat (first | refine blk_drewN ?_ _ | refine blk_drew ?_ | refine blk_alloc ?_ _)); refine blk_far ?_ NB219_240.out _; (with_reducible repeat (first | refine blk_drewN ?_ _ | refine blk_drew ?_ | refine blk_alloc ?_ _)); exact BK219.out) hb); have n6_ := Aside0.mk (blk_below (g := gb226) (o := .cells #[.slice Ao43 t220.length co43, .int .i64 t223, .int .i64 t224] 26 (0, 0)) (by (with_reducible repeat (first | refine blk_drewN ?_ _ | refine blk_drew ?_ | refine blk_alloc ?_ _)); refine blk_far ?_ NB226_240.out _; (with_reducible repeat (first | refine blk_drewN ?_ _ | refine blk_drew ?_ | refine blk_alloc ?_ _)); refine blk_far ?_ NB226_240.out _; (with_reducible repeat (first | refine blk_drewN ?_ _ | refine blk_drew ?_ | refine blk_alloc ?_ _)); refine blk_far ?_ NB226_240.out _; (with_reducible repeat (first | refine blk_drewN ?_ _ | refine blk_drew ?_ | refine blk_alloc ?_ _)); exact BK226.out) hb); have n7_ := Aside0.mk (blk_below (g := gb233) (o := .cells #[.slice Ao50 t227.length co50, .int .i64 t230, .int .i64 t231] 26 (0, 0)) (by (with_reducible repeat (first | refine blk_drewN ?_ _ | refine blk_drew ?_ | refine blk_alloc ?_ _)); refine blk_far ?_ NB233_240.out _; (with_reducible repeat (first | refine blk_drewN ?_ _ | refine blk_drew ?_ | refine blk_alloc ?_ _)); refine blk_far ?_ NB233_240.out _; (with_reducible repeat (first | refine blk_drewN ?_ _ | refine blk_drew ?_ | refine blk_alloc ?_ _)); refine blk_far ?_ NB233_240.out _; (with_reducible repeat (first | refine blk_drewN ?_ _ | refine blk_drew ?_ | refine blk_alloc ?_ _)); exact BK233.out) hb); have n8_ := Aside0.mk (blk_below (g := gb240) (o := .cells #[.slice Ao58 t234.length co58, .int .i64 t237, .int .i64 t238] 26 (0, 0)) (by (with_reducible repeat (first | refine blk_drewN ?_ _ | refine blk_drew ?_ | refine blk_alloc ?_ _)); refine blk_put (cs := #[.slice Ao58 t234.length co58, .int .i64 t237, .int .i64 0]) ?_ 2 _ rfl; (with_reducible repeat (first | refine blk_drewN ?_ _ | refine blk_drew ?_ | refine blk_alloc ?_ _)); refine blk_put (cs := #[.slice Ao58 t234.length co58, .int .i64 0, .int .i64 0]) ?_ 1 _ rfl; (with_reducible repeat (first | refine blk_drewN ?_ _ | refine blk_drew ?_ | refine blk_alloc ?_ _)); refine blk_put (cs := #[.slice none 0 0, .int .i64 0, .int .i64 0]) ?_ 0 _ rfl; (with_reducible repeat (first | refine blk_drewN ?_ _ | refine blk_drew ?_ | refine blk_alloc ?_ _)); exact BK240.out) hb); have n9_ := Aside0.mk (below_step (by repeat (first | (with_reducible first | exact HB.out | apply below_alloc | apply pw_below_drewN | apply below_drew1 | refine below_set ?_ GE208.out | refine below_set ?_ GE219.out | refine below_set ?_ GE226.out | refine below_set ?_ GE233.out | refine below_set ?_ GE240.out) | exact HB.out)) hb); clear HO215; clear HO222; clear HO229; clear HO236; clear BK208; clear BK219; clear BK226; clear BK233; clear BK240; clear HB; have HO215 := n0_; have HO222 := n1_; have HO229 := n2_; have HO236 := n3_; have BK208 := n4_; have BK219 := n5_; have BK226 := n6_; have BK233 := n7_; have BK240 := n8_; have HB := n9_; clear n0_ n1_ n2_ n3_ n4_ n5_ n6_ n7_ n8_ n9_; (try clear hb); (try clear hb2); (try clear hk); (try clear hi); have hcz67_0 : w66.cell? ⟨gb240, 0, none⟩ = some (.slice Ao58 t234.length co58) := (blk_cell BK240.out 0).trans rfl; have hcz67_1 : w66.cell? ⟨gb240, 1, none⟩ = some (.int .i64 t237) := (blk_cell BK240.out 1).trans rfl; have hcz67_2 : w66.cell? ⟨gb240, 2, none⟩ = some (.int .i64 t238) := (blk_cell BK240.out 2).trans rfl; have hfz67_0 := blk_frozen BK240.out 0; have hfz67_1 := blk_frozen BK240.out 1; have hfz67_2 := blk_frozen BK240.out 2; have hcz68_0 : w66.cell? ⟨gb208, 0, none⟩ = some (.slice A0_0 l0_0.length c0_0) := (blk_cell BK208.out 0).trans rfl; have hcz68_1 : w66.cell? ⟨gb208, 1, none⟩ = some (.int .i64 a0_1) := (blk_cell BK208.out 1).trans rfl; have hcz68_2 : w66.cell? ⟨gb208, 2, none⟩ = some (.int .i64 a0_2) := (blk_cell BK208.out 2).trans rfl; have hfz68_0 := blk_frozen BK208.out 0; have hfz68_1 := blk_frozen BK208.out 1; have hfz68_2 := blk_frozen BK208.out 2) | (go_at_call 16; (with_reducible refine (term_Same.calls kj1 _ _ t234 t237 t238 _ _ l0_0 a0_1 a0_2 true _ ?side1 ?side2 ?side3 ?side4 A31.out).mono ?_); (case side1 => repeat (first | exact (Kd.R_reads' HO236.out).2.2 | (with_reducible refine Kd.C_alloc ?_ _) | (with_reducible refine Kd.C_drewN ?_ _) | (with_reducible refine Kd.C_drew ?_))); (case side2 => exact (Kd.R_reads' HO236.out).2.1); (case side3 => repeat (first | exact (Kd.C_below HR0_0.out HB.out) | (with_reducible refine Kd.C_alloc ?_ _) | (with_reducible refine Kd.C_drewN ?_ _) | (with_reducible refine Kd.C_drew ?_))); (case side4 => exact HC0_0.out); rintro e w69 ⟨rfl, hb⟩; have n0_ := Aside0.mk (Kd.R_below (by (with_reducible repeat (first | apply Kd.R_alloc | apply Kd.R_drewN | apply Kd.R_drew)); exact HO215.out) hb); have n1_ := Aside0.mk (Kd.R_below (by (with_reducible repeat (first | apply Kd.R_alloc | apply Kd.R_drewN | apply Kd.R_drew)); exact HO222.out) hb); have n2_ := Aside0.mk (Kd.R_below (by (with_reducible repeat (first | apply Kd.R_alloc | apply Kd.R_drewN | apply Kd.R_drew)); exact HO229.out) hb); have n3_ := Aside0.mk (Kd.R_below (by (with_reducible repeat (first | apply Kd.R_alloc | apply Kd.R_drewN | apply Kd.R_drew)); exact HO236.out) hb); have n4_ := Aside0.mk (blk_below (g := gb208) (o := .cells #[.slice A0_0 l0_0.length c0_0, .int .i64 a0_1, .int .i64 a0_2] 26 (0, 0)) (by (with_reducible repeat (first | refine blk_drewN ?_ _ | refine blk_drew ?_ | refine blk_alloc ?_ _)); exact BK208.out) hb); have n5_ := Aside0.mk (blk_below (g := gb219) (o := .cells #[.slice Ao37 t213.length co37, .int .i64 t216, .int .i64 t217] 26 (0, 0)) (by (with_reducible repeat (first | refine blk_drewN ?_ _ | refine blk_drew ?_ | refine blk_alloc ?_ _)); exact BK219.out) hb); have n6_ := Aside0.mk (blk_below (g := gb226) (o := .cells #[.slice Ao43 t220.length co43, .int .i64 t223, .int .i64 t224] 26 (0, 0)) (by (with_reducible repeat (first | refine blk_drewN ?_ _ | refine blk_drew ?_ | refine blk_alloc ?_ _)); exact BK226.out) hb); have n7_ := Aside0.mk (blk_below (g := gb233) (o := .cells #[.slice Ao50 t227.length co50, .int .i64 t230, .int .i64 t231] 26 (0, 0)) (by (with_reducible repeat (first | refine blk_drewN ?_ _ | refine blk_drew ?_ | refine blk_alloc ?_ _)); exact BK233.out) hb); have n8_ := Aside0.mk (blk_below (g := gb240) (o := .cells #[.slice Ao58 t234.length co58, .int .i64 t237, .int .i64 t238] 26 (0, 0)) (by (with_reducible repeat (first | refine blk_drewN ?_ _ | refine blk_drew ?_ | refine blk_alloc ?_ _)); exact BK240.out) hb); have n9_ := Aside0.mk (below_step (by repeat (first | (with_reducible first | exact HB.out | apply below_alloc | apply pw_below_drewN | apply below_drew1 | refine below_set ?_ GE208.out | refine below_set ?_ GE219.out | refine below_set ?_ GE226.out | refine below_set ?_ GE233.out | refine below_set ?_ GE240.out) | exact HB.out)) hb); clear HO215; clear HO222; clear HO229; clear HO236; clear BK208; clear BK219; clear BK226; clear BK233; clear BK240; clear HB; have HO215 := n0_; have HO222 := n1_; have HO229 := n2_; have HO236 := n3_; have BK208 := n4_; have BK219 := n5_; have BK226 := n6_; have BK233 := n7_; have BK240 := n8_; have HB := n9_; clear n0_ n1_ n2_ n3_ n4_ n5_ n6_ n7_ n8_ n9_; (try clear hb); (try clear hb2); (try clear hk); (try clear hi); have hcz70_0 : w69.cell? ⟨gb233, 0, none⟩ = some (.slice Ao50 t227.length co50) := (blk_cell BK233.out 0).trans rfl; have hcz70_1 : w69.cell? ⟨gb233, 1, none⟩ = some (.int .i64 t230) := (blk_cell BK233.out 1).trans rfl; have hcz70_2 : w69.cell? ⟨gb233, 2, none⟩ = some (.int .i64 t231) := (blk_cell BK233.out 2).trans rfl; have hfz70_0 := blk_frozen BK233.out 0; have hfz70_1 := blk_frozen BK233.out 1; have hfz70_2 := blk_frozen BK233.out 2))
                      go_ret
                      exact ⟨by first | rfl | (simp [errW_none, errW_some] <;> rfl) | (simp [*, errW_none, errW_some] <;> rfl), by repeat (first | (with_reducible first | exact HB.out | apply below_alloc | apply pw_below_drewN | apply below_drew1 | refine below_set ?_ GE208.out | refine below_set ?_ GE219.out | refine below_set ?_ GE226.out | refine below_set ?_ GE233.out | refine below_set ?_ GE240.out) | exact HB.out)⟩
                    · rw [if_neg c33] at H
                      have c33b0 : ((t227.length : Int) == 0) = false := beq_eq_false_iff_ne.mpr c33
                      have c33b1 : ((t227.length : Int) != 0) = true := bne_iff_ne.mpr c33
                      have c33b2 : ¬ (t227 = []) := fun h_ => c33 (by rw [h_]; rfl)
                      subst hr_
                      exact absurd H (by simp)
                  · replace c32 := Bool.eq_false_iff.mpr c32
                    subst c32
                    have H1 : (some false) = some r := by rw [if_neg (show ¬ (false = true) by decide)] at H; exact H
                    clear H
                    have H := H1
                    clear H1
                    subst hr_
                    exact absurd H (by simp)
                · replace c30 := Bool.eq_false_iff.mpr c30
                  subst c30
                  have H1 : (some false) = some r := by rw [if_neg (show ¬ (false = true) by decide)] at H; exact H
                  clear H
                  have H := H1
                  clear H1
                  subst hr_
                  exact absurd H (by simp)
              · rw [if_neg c28] at H
                have c28b0 : (t239 == 0) = false := beq_eq_false_iff_ne.mpr c28
                have c28b1 : (t239 != 0) = true := bne_iff_ne.mpr c28
                subst hr_
                exact absurd H (by simp)
            · rw [if_neg c27] at H
              have c27b0 : (t232 == 0) = false := beq_eq_false_iff_ne.mpr c27
              have c27b1 : (t232 != 0) = true := bne_iff_ne.mpr c27
              subst hr_
              exact absurd H (by simp)
          · rw [if_neg c26] at H
            have c26b0 : (t225 == 0) = false := beq_eq_false_iff_ne.mpr c26
            have c26b1 : (t225 != 0) = true := bne_iff_ne.mpr c26
            subst hr_
            exact absurd H (by simp)
        · rw [if_neg c25] at H
          have c25b0 : (t218 == 0) = false := beq_eq_false_iff_ne.mpr c25
          have c25b1 : (t218 != 0) = true := bne_iff_ne.mpr c25
          subst hr_
          exact absurd H (by simp)
end Go.Proofs.YtijhnmbegceonaaDoor.PTerm
namespace Go.Proofs.YtijhnmbegceonaaDoor.PTerm
open Go Go.RowKit Go.Proofs.YtijhnmbegceonaaDoorW.PrintWords Go.Proofs.YtijhnmbegceonaaDoorW.PrintLast Go.Proofs.YtijhnmbegceonaaDoorW.PrintMore
open BallQ (In64 Right q out)
open PRat (Ev_pos Ev_neg Ev_bnd Ev_bndc Ev_some Ev_cast w64 wsucc addS mulS)
set_option linter.unusedVariables false
theorem awake_at : ballcocklaw02_awake.f 20 = some true := by decide +kernel
theorem awake_ev : Ev (fun k => ballcocklaw02_awake.f k) true := Ev.of (fun k => ballcocklaw02_awake.mono k) awake_at
def RightL (l : List (S24)) : Prop := ∀ x ∈ l, Right x.f0 x.f1
theorem rightT_iff (l : List (S24)) (n d : Int) : rightT l n d = true ↔ l.length ≤ 8 ∧ Right n d ∧ RightL l := by
  unfold rightT RightL
  simp only [Bool.and_eq_true, decide_eq_true_eq, List.all_eq_true]
theorem out_q {n d : Int} (h : Right n d) (hn : In64 n) (hd : In64 d) : out (q n d) = (n, d, 0) := by
  obtain ⟨h0, h1, h2⟩ := BallQ.q_right h hn hd
  unfold BallQ.out
  rw [if_pos h2, h0, h1]
theorem right01 : Right 0 1 := ⟨by decide, by decide, by decide⟩
theorem in0 : In64 0 := ⟨by decide, by decide⟩
theorem in1 : In64 1 := ⟨by decide, by decide⟩
theorem nought {d : Int} (h : Right 0 d) : d = 1 := by
  obtain ⟨h0, _, h2⟩ := h
  rw [Int.natAbs_zero, Nat.gcd_zero_left] at h2
  omega
theorem cutN_pos (l : List (S24)) : ∀ n c, cutN l n = c + 1 → (l.getD c ⟨0, 0⟩).f0 ≠ 0
  | 0, c, h => by unfold cutN at h; omega
  | n + 1, c, h => by
    unfold cutN at h
    split at h
    · exact cutN_pos l n c h
    · rename_i hn; obtain rfl : n = c := by omega
      exact hn
theorem cutN_zero (l : List (S24)) : ∀ n i, cutN l n ≤ i → i < n → (l.getD i ⟨0, 0⟩).f0 = 0
  | 0, i, _, h => by omega
  | n + 1, i, h1, h2 => by
    unfold cutN at h1
    split at h1
    · rename_i hn
      by_cases hi : i = n
      · subst hi; exact hn
      · exact cutN_zero l n i h1 (by omega)
    · omega
theorem cutN_all (l : List (S24)) : ∀ n, (∀ i, i < n → (l.getD i ⟨0, 0⟩).f0 = 0) → cutN l n = 0
  | 0, _ => rfl
  | n + 1, h => by
    unfold cutN
    rw [if_pos (h n (Nat.lt_succ_self n))]
    exact cutN_all l n (fun i hi => h i (by omega))
theorem trim_len (l : List (S24)) : (trimT l).length = cutN l l.length := by
  unfold trimT; rw [List.length_take]; have := cutN_le l l.length; omega
theorem trim_mem {l : List (S24)} {x : S24} (h : x ∈ trimT l) : x ∈ l := List.mem_of_mem_take h
theorem getD_lt {l : List (S24)} {i : Nat} (h : i < l.length) (z : S24) : l.getD i z = l[i] := by
  rw [List.getD_eq_getElem?_getD, List.getElem?_eq_getElem h]; rfl
theorem getD_ge {l : List (S24)} {i : Nat} (h : l.length ≤ i) (z : S24) : l.getD i z = z := by
  rw [List.getD_eq_getElem?_getD, List.getElem?_eq_none h]; rfl
theorem trim_get {l : List (S24)} {i : Nat} (h : i < cutN l l.length) (z : S24) : (trimT l).getD i z = l.getD i z := by
  have h1 := cutN_le l l.length
  rw [getD_lt (by rw [trim_len]; exact h), getD_lt (by omega)]
  unfold trimT
  rw [List.getElem_take]
theorem trim_idem (l : List (S24)) : trimT (trimT l) = trimT l := by
  have hl := trim_len l
  have e : cutN (trimT l) (trimT l).length = (trimT l).length := by
    rw [hl]
    cases hc : cutN l l.length with
    | zero => rfl
    | succ c =>
      have h2 := cutN_pos l _ c hc
      unfold cutN
      rw [trim_get (by omega), if_neg h2]
  have : trimT (trimT l) = (trimT l).take (cutN (trimT l) (trimT l).length) := rfl
  rw [this, e, List.take_length]
theorem trim_nil {l : List (S24)} (h : ∀ x ∈ l, x.f0 = 0) : trimT l = [] := by
  have e : cutN l l.length = 0 := cutN_all l _ (fun i hi => by rw [getD_lt hi]; exact h _ (List.getElem_mem hi))
  unfold trimT; rw [e]; rfl
theorem trim_at {l : List (S24)} (hr : RightL l) (i : Nat) : (trimT l).getD i ⟨0, 1⟩ = l.getD i ⟨0, 1⟩ := by
  by_cases h : i < cutN l l.length
  · exact trim_get h _
  · rw [getD_ge (by rw [trim_len]; omega)]
    by_cases h2 : i < l.length
    · rw [getD_lt h2]
      have h3 := cutN_zero l l.length i (by omega) h2
      rw [getD_lt h2] at h3
      have h4 := hr _ (List.getElem_mem h2)
      generalize l[i] = y at h3 h4 ⊢
      obtain ⟨y0, y1⟩ := y
      simp only at h3 h4
      subst h3
      rw [nought h4]
    · rw [getD_ge (by omega)]
theorem range_get (l : List (S24)) : (List.range l.length).map (fun i => l.getD i ⟨0, 1⟩) = l := by
  apply List.ext_getElem
  · simp
  · intro i h1 h2
    rw [List.getElem_map, List.getElem_range, getD_lt h2]
theorem each_of {f : Nat → Int × Int × Int} {n : Nat} (g : Nat → S24) (h : ∀ i, i ≤ n → f i = ((g i).f0, (g i).f1, 0)) : eachT f n = (trimT ((List.range n).map (fun i => g (i + 1))), (g 0).f0, (g 0).f1, 0) := by
  rw [each_good (fun j hj => by rw [h j (by omega)])]
  rw [h 0 (by omega)]
  have e : (List.range n).map (fun i => (⟨(f (i + 1)).1, (f (i + 1)).2.1⟩ : S24)) = (List.range n).map (fun i => g (i + 1)) := by
    apply List.map_congr_left
    intro i hi
    rw [h (i + 1) (by have := List.mem_range.1 hi; omega)]
  rw [e]
def gT (l : List (S24)) (n d : Int) : Nat → S24
  | 0 => ⟨n, d⟩
  | i + 1 => l.getD i ⟨0, 1⟩
theorem one_g (l : List (S24)) (n d : Int) (i : Nat) : oneT l n d i = ((gT l n d i).f0, (gT l n d i).f1) := by cases i <;> rfl
theorem g_right {l : List (S24)} {n d : Int} (hn : Right n d) (hl : RightL l) (i : Nat) : Right (gT l n d i).f0 (gT l n d i).f1 := by
  cases i with
  | zero => exact hn
  | succ i =>
    show Right (l.getD i ⟨0, 1⟩).f0 (l.getD i ⟨0, 1⟩).f1
    by_cases h : i < l.length
    · rw [getD_lt h]; exact hl _ (List.getElem_mem h)
    · rw [getD_ge (by omega)]; exact right01
theorem g_in {l : List (S24)} {n d : Int} (hn : In64 n) (hd : In64 d) (hl : inAll l) (i : Nat) : In64 (gT l n d i).f0 ∧ In64 (gT l n d i).f1 := by
  have := one_in hl hn hd i
  rw [one_g] at this
  exact this
theorem right_f {l : List (S24)} {n d : Int} (hl : inAll l) (h8 : l.length < 1000000) (hn : In64 n) (hd : In64 d) : term_Right.f l n d = some (rightT l n d) := by
  unfold term_Right.f; rw [if_pos ⟨hl, h8, hn, hd⟩]
theorem rd24' (l : List (S24)) (i : Nat) : rd_T24 l (i : Int) = l.getD i ⟨0, 0⟩ := by unfold rd_T24; rw [Int.toNat_natCast]; rfl
theorem rright_f {n d : Int} (hn : In64 n) (hd : In64 d) : ballcockref01_Right.f n d = some (decide (Right n d)) := by
  unfold ballcockref01_Right.f; rw [if_pos ⟨hn, hd⟩]
theorem ref_right_l0 {l : List (S24)} {n d : Int} (hl : inAll l) (h8 : l.length < 1000000) (hn : In64 n) (hd : In64 d) (m : Nat) : ∀ i, i + m = l.length → Ev (fun k => ballcockref02_Right.l0 k (i : Int) l n d) (decide (l.length ≤ 8) && (decide (Right n d) && (l.drop i).all (fun x => decide (Right x.f0 x.f1)))) := by
  induction m with
  | zero =>
    intro i hi
    refine Ev.step (fun k => by rw [ballcockref02_Right.l0]) (Ev_neg (by omega) ?_)
    rw [List.drop_eq_nil_of_le (by omega), List.all_nil, Bool.and_true]
    by_cases h : l.length ≤ 8
    · rw [decide_eq_true h, Bool.true_and]
      exact Ev_pos (by omega) (Ev_bnd (rright_f hn hd) (Ev.now _))
    · rw [decide_eq_false h, Bool.false_and]
      exact Ev_neg (by omega) (Ev.now _)
  | succ m ih =>
    intro i hi
    have hlt : i < l.length := by omega
    have hx := hl _ (List.getElem_mem hlt)
    refine Ev.step (fun k => by rw [ballcockref02_Right.l0]) (Ev_pos (by omega) (Ev_pos (by omega) ?_))
    rw [rd24', getD_lt hlt, List.drop_eq_getElem_cons hlt, List.all_cons]
    refine Ev_bnd (rright_f hx.1 hx.2) ?_
    cases hb : decide (Right l[i].f0 l[i].f1) with
    | true =>
      refine Ev_pos rfl ?_
      rw [wsucc i (by omega), Bool.true_and]
      exact ih (i + 1) (by omega)
    | false =>
      rw [Bool.false_and, Bool.and_false, Bool.and_false]
      exact Ev_neg (by decide) (Ev.now _)
theorem ref_right {l : List (S24)} {n d : Int} (hl : inAll l) (h8 : l.length < 1000000) (hn : In64 n) (hd : In64 d) : Ev (fun k => ballcockref02_Right.f k l n d) (rightT l n d) := by
  unfold ballcockref02_Right.f rightT
  have := ref_right_l0 hl h8 hn hd l.length 0 (by omega)
  rw [List.drop_zero] at this
  exact this
theorem equal_l0 (l : List (S24)) (h8 : l.length < 1000000) (m : Nat) : ∀ i, i + m = l.length → Ev (fun k => api_Rat_34.l0 k l l (l.length : Int) (i : Int)) true := by
  induction m with
  | zero => intro i hi; exact Ev.step (fun k => by rw [api_Rat_34.l0]) (Ev_neg (by omega) (Ev.now _))
  | succ m ih =>
    intro i hi
    refine Ev.step (fun k => by rw [api_Rat_34.l0]) (Ev_pos (by omega) (Ev_pos (by omega) (Ev_pos (by omega) (Ev_pos (by omega) (Ev_neg (by simp) ?_)))))
    rw [wsucc i (by omega)]
    exact ih (i + 1) (by omega)
theorem same_ev {l0 l1 : List (S24)} {n d : Int} (h0 : inAll l0) (h1 : inAll l1) (k0 : l0.length < 1000000) (k1 : l1.length < 1000000) (hn : In64 n) (hd : In64 d) (r0 : rightT l0 n d = true) (r1 : rightT l1 n d = true) (e : trimT l0 = trimT l1) :
    Ev (fun k => term_Same.f k l0 n d l1 n d) true := by
  unfold term_Same.f
  refine Ev_bnd (right_f h0 k0 hn hd) ?_
  rw [r0]
  refine Ev_pos rfl (Ev_bnd (right_f h1 k1 hn hd) ?_)
  rw [r1]
  refine Ev_pos rfl (Ev_pos (by simp) (Ev.bind (trim_ev l0 n d k0) (Ev.bind (trim_ev l1 n d k1) ?_)))
  rw [e]
  refine Ev.bind (a := true) ?_ (Ev.now _)
  unfold api_Rat_34.f
  refine Ev_pos rfl ?_
  show Ev (fun k => api_Rat_34.l0 k (trimT l1) (trimT l1) ((trimT l1).length : Int) ((0 : Nat) : Int)) true
  exact equal_l0 (trimT l1) (by have := trim_len l1; have := cutN_le l1 l1.length; omega) (trimT l1).length 0 (Nat.zero_add _)
theorem in_trim {l : List (S24)} (h : inAll l) : inAll (trimT l) := fun x hx => h x (trim_mem hx)
theorem right_trim {l : List (S24)} {n d : Int} (h : rightT l n d = true) : rightT (trimT l) n d = true := by
  rw [rightT_iff] at h ⊢
  exact ⟨by have := trim_len l; have := cutN_le l l.length; omega, h.2.1, fun x hx => h.2.2 x (trim_mem hx)⟩
theorem small_f (l : List (S24)) (n d : Int) : ballcockref02_Small.f l n d = some (decide ((l.length : Int) ≤ 12)) := rfl
end Go.Proofs.YtijhnmbegceonaaDoor.PTerm
namespace Go.Proofs.YtijhnmbegceonaaDoor.PTerm
open Go Go.RowKit Go.Proofs.YtijhnmbegceonaaDoorW.PrintWords Go.Proofs.YtijhnmbegceonaaDoorW.PrintLast Go.Proofs.YtijhnmbegceonaaDoorW.PrintMore
open BallQ (In64 Right q out)
open PRat (Ev_pos Ev_neg Ev_bnd Ev_bndc Ev_some Ev_cast w64 wsucc addS mulS)
set_option linter.unusedVariables false
set_option linter.unusedSectionVars false
def ngS (x : S24) : S24 := ⟨-x.f0, x.f1⟩
theorem add0 {n d : Int} (h : Right n d) (hn : In64 n) (hd : In64 d) : addS n d 0 1 = (n, d, 0) := by
  unfold PRat.addS
  rw [if_pos ⟨h, right01⟩, show q 0 1 = 0 by decide +kernel, Rat.add_zero]
  exact out_q h hn hd
theorem mulm {n d : Int} (h : Right n d) (hn : In64 n) (hd : In64 d) : mulS n d (-1) 1 = (-n, d, 0) := by
  obtain ⟨g1, g2, g3⟩ := PRat.right_neg h hn
  unfold PRat.mulS
  rw [if_pos ⟨h, by decide, by decide, by decide⟩, show q (-1) 1 = -1 by decide +kernel, show q n d * -1 = q (-n) d by rw [g3]; grind]
  exact out_q g1 g2 hd
theorem mul1 {n d : Int} (h : Right n d) (hn : In64 n) (hd : In64 d) : mulS n d 1 1 = (n, d, 0) := by
  unfold PRat.mulS
  rw [if_pos ⟨h, by decide, by decide, by decide⟩, show q 1 1 = 1 by decide +kernel, Rat.mul_one]
  exact out_q h hn hd
theorem addm {n d : Int} (h : Right n d) (hn : In64 n) (hd : In64 d) : addS n d (-n) d = (0, 1, 0) := by
  obtain ⟨g1, g2, g3⟩ := PRat.right_neg h hn
  unfold PRat.addS
  rw [if_pos ⟨h, g1⟩, g3, show q n d + -q n d = 0 by grind]
  exact PRat.out_zero
section
variable {l : List (S24)} {n d : Int} (hl : inAll l) (hn : In64 n) (hd : In64 d) (hr : rightT l n d = true)
include hl hn hd hr
theorem at0 (i : Nat) : gT ([] : List (S24)) 0 1 i = ⟨0, 1⟩ := by cases i <;> rfl
theorem add_nought : addT l n d ([] : List (S24)) 0 1 = (trimT l, n, d, 0) := by
  obtain ⟨h8, hk, hL⟩ := (rightT_iff l n d).1 hr
  unfold addT
  rw [hr, show rightT ([] : List (S24)) 0 1 = true by rw [rightT_iff]; exact ⟨by simp, right01, fun x hx => by cases hx⟩]
  rw [if_pos (show (true && true) = true from rfl), show max l.length ([] : List (S24)).length = l.length by simp]
  rw [each_of (gT l n d) (fun i hi => by
    unfold addF
    rw [one_g, one_g, at0 hl hn hd hr i]
    have hi2 := g_in hn hd hl i
    exact add0 (g_right hk hL i) hi2.1 hi2.2)]
  show (trimT ((List.range l.length).map (fun i => l.getD i ⟨0, 1⟩)), n, d, (0 : Int)) = _
  rw [range_get]
theorem scale_one : scaleT l n d 1 1 = (trimT l, n, d, 0) := by
  obtain ⟨h8, hk, hL⟩ := (rightT_iff l n d).1 hr
  unfold scaleT
  rw [hr, show decide (Right 1 1) = true by decide +kernel, if_pos (show (true && true) = true from rfl)]
  rw [each_of (gT l n d) (fun i hi => by
    unfold scaleF
    rw [one_g]
    have hi2 := g_in hn hd hl i
    exact mul1 (g_right hk hL i) hi2.1 hi2.2)]
  show (trimT ((List.range l.length).map (fun i => l.getD i ⟨0, 1⟩)), n, d, (0 : Int)) = _
  rw [range_get]
theorem ng_at (i : Nat) : (l.map ngS).getD i ⟨0, 1⟩ = ngS (l.getD i ⟨0, 1⟩) := by
  by_cases h : i < l.length
  · rw [getD_lt (by simpa using h), getD_lt h, List.getElem_map]
  · rw [getD_ge (by simpa using h), getD_ge (by omega)]; rfl
theorem scale_minus : scaleT l n d (-1) 1 = (trimT (l.map ngS), -n, d, 0) := by
  obtain ⟨h8, hk, hL⟩ := (rightT_iff l n d).1 hr
  unfold scaleT
  rw [hr, show decide (Right (-1) 1) = true by decide +kernel, if_pos (show (true && true) = true from rfl)]
  rw [each_of (fun i => ngS (gT l n d i)) (fun i hi => by
    unfold scaleF
    rw [one_g]
    have hi2 := g_in hn hd hl i
    exact mulm (g_right hk hL i) hi2.1 hi2.2)]
  show (trimT ((List.range l.length).map (fun i => ngS (l.getD i ⟨0, 1⟩))), -n, d, (0 : Int)) = _
  have e : (List.range l.length).map (fun i => ngS (l.getD i ⟨0, 1⟩)) = l.map ngS := by
    have := congrArg (List.map ngS) (range_get l)
    rw [List.map_map] at this
    exact this
  rw [e]
theorem ng_right : rightT (trimT (l.map ngS)) (-n) d = true := by
  obtain ⟨h8, hk, hL⟩ := (rightT_iff l n d).1 hr
  rw [rightT_iff]
  refine ⟨by have := trim_len (l.map ngS); have := cutN_le (l.map ngS) (l.map ngS).length; rw [List.length_map] at this; rw [trim_len, List.length_map]; omega, (PRat.right_neg hk hn).1, fun x hx => ?_⟩
  obtain ⟨y, hy, rfl⟩ := List.mem_map.1 (trim_mem hx)
  exact (PRat.right_neg (hL y hy) (hl y hy).1).1
theorem ng_in : inAll (trimT (l.map ngS)) := by
  obtain ⟨h8, hk, hL⟩ := (rightT_iff l n d).1 hr
  intro x hx
  obtain ⟨y, hy, rfl⟩ := List.mem_map.1 (trim_mem hx)
  exact ⟨(PRat.right_neg (hL y hy) (hl y hy).1).2.1, (hl y hy).2⟩
theorem add_minus : addT l n d (trimT (l.map ngS)) (-n) d = ([], 0, 1, 0) := by
  obtain ⟨h8, hk, hL⟩ := (rightT_iff l n d).1 hr
  have hng := ng_right hl hn hd hr
  have hLn : RightL (l.map ngS) := by
    intro x hx
    obtain ⟨y, hy, rfl⟩ := List.mem_map.1 hx
    exact (PRat.right_neg (hL y hy) (hl y hy).1).1
  unfold addT
  rw [hr, hng, if_pos (show (true && true) = true from rfl), show max l.length (trimT (l.map ngS)).length = l.length by have := cutN_le (l.map ngS) (l.map ngS).length; rw [List.length_map] at this; rw [trim_len, List.length_map]; omega]
  rw [each_of (fun _ => ⟨0, 1⟩) (fun i hi => by
    unfold addF
    rw [one_g, one_g]
    have e : gT (trimT (l.map ngS)) (-n) d i = ngS (gT l n d i) := by
      cases i with
      | zero => rfl
      | succ i =>
        show (trimT (l.map ngS)).getD i ⟨0, 1⟩ = ngS (l.getD i ⟨0, 1⟩)
        rw [trim_at hLn, ng_at hl hn hd hr]
    rw [e]
    have hi2 := g_in hn hd hl i
    exact addm (g_right hk hL i) hi2.1 hi2.2)]
  rw [trim_nil (fun x hx => by obtain ⟨i, _, rfl⟩ := List.mem_map.1 hx; rfl)]
theorem noughts_main : Ev (fun k => ballcocklaw02_TermNoughts.j0 k false l n d) true := by
  obtain ⟨h8, hk, hL⟩ := (rightT_iff l n d).1 hr
  have h9 : l.length < 800000 := by omega
  have hti := in_trim hl
  have htr := right_trim hr
  have htl : (trimT l).length < 1000000 := by have := trim_len l; have := cutN_le l l.length; omega
  have c1 : term_Add.f l n d ([] : List (S24)) 0 1 = some (trimT l, n, d, 0) := by
    unfold term_Add.f
    rw [if_pos ⟨⟨hl, h9, hn, hd⟩, (fun x hx => by cases hx), by simp, in0, in1⟩, add_nought hl hn hd hr]
  have c2 : term_Scale.f l n d (-1) 1 = some (trimT (l.map ngS), -n, d, 0) := by
    unfold term_Scale.f
    rw [if_pos ⟨⟨hl, h9, hn, hd⟩, ⟨by decide, by decide⟩, in1⟩, scale_minus hl hn hd hr]
  have c3 : term_Add.f l n d (trimT (l.map ngS)) (-n) d = some ([], 0, 1, 0) := by
    have hm := ng_right hl hn hd hr
    unfold term_Add.f
    rw [if_pos ⟨⟨hl, h9, hn, hd⟩, ng_in hl hn hd hr, by have := ((rightT_iff _ _ _).1 hm).1; omega, (PRat.right_neg hk hn).2.1, hd⟩, add_minus hl hn hd hr]
  have c4 : term_Scale.f l n d 1 1 = some (trimT l, n, d, 0) := by
    unfold term_Scale.f
    rw [if_pos ⟨⟨hl, h9, hn, hd⟩, in1, in1⟩, scale_one hl hn hd hr]
  have hs := same_ev hti hl htl (by omega) hn hd htr hr (trim_idem l)
  refine Ev.step (fun k => by rw [ballcocklaw02_TermNoughts.j0]) (Ev_neg (by decide) (Ev_bnd c1 (Ev_bnd c2 (Ev_bnd c3 (Ev_bnd c4 ?_)))))
  refine Ev_pos rfl (Ev_pos rfl (Ev_pos rfl (Ev_pos rfl (Ev.bind hs (Ev_pos rfl (Ev.bind hs (Ev_pos rfl (Ev_pos rfl (Ev.now _)))))))))
end
theorem noughts_holds (l : List (S24)) (n d : Int) (hl : inAll l) (hn : In64 n) (hd : In64 d) : ∃ k, ballcocklaw02_TermNoughts.f k l n d = some true := by
  refine PRat.Ev_and (g := fun k => ballcocklaw02_TermNoughts.f k l n d) ?_
  unfold ballcocklaw02_TermNoughts.f
  have stop : Ev (fun k => ballcocklaw02_TermNoughts.j0 k true l n d) true := Ev.step (fun k => by rw [ballcocklaw02_TermNoughts.j0]) (Ev_pos rfl (Ev.bind awake_ev (Ev.now _)))
  refine Ev.bind awake_ev (Ev_pos rfl (Ev_bnd (small_f l n d) ?_))
  by_cases h : (l.length : Int) ≤ 12
  · refine Ev_pos (decide_eq_true h) (Ev.bind (ref_right hl (by omega) hn hd) ?_)
    cases hr : rightT l n d with
    | true => exact noughts_main hl hn hd hr
    | false => exact stop
  · exact Ev_neg (by simpa using h) stop
end Go.Proofs.YtijhnmbegceonaaDoor.PTerm
