import Derived.Test.YtpcdcanmbokpfaaDoorMRefRefAT
namespace Go.Proofs.YtpcdcanmbokpfaaDoor.PRef
open Go Go.RowKit Go.Proofs.YtpcdcanmbokpfaaDoorW.PrintWords Go.Proofs.YtpcdcanmbokpfaaDoorW.PrintLast Go.Proofs.YtpcdcanmbokpfaaDoorW.PrintMore BallBits
attribute [local go_sem] max2_int min2_int max_two min_two max_three min_three max_four min_four
set_option linter.unusedVariables false
set_option linter.unusedSimpArgs false
theorem cutw {P : Program} {code : Code} {Q : Exit → Act → World → Prop} {a : Act} {w : World} (F : World → Prop) (hF : F w) (h : ∀ w', F w' → code.wp P Q a w') : code.wp P Q a w := h w hF
theorem three (w : World) (a b c : Obj) : (((w.alloc a).alloc b).alloc c).heap[w.heap.size]? = some a ∧ (((w.alloc a).alloc b).alloc c).heap[w.heap.size + 1]? = some b ∧ (((w.alloc a).alloc b).alloc c).heap[w.heap.size + 1 + 1]? = some c := by
  have e1 : (w.alloc a).heap.size = w.heap.size + 1 := by show (w.heap.push a).size = _; simp
  have e2 : ((w.alloc a).alloc b).heap.size = w.heap.size + 1 + 1 := by show ((w.alloc a).heap.push b).size = _; simp [e1]
  refine ⟨?_, ?_, ?_⟩
  · exact blk_alloc (blk_alloc (by simpa using heap_alloc_new w a) b) c
  · rw [← e1]; exact blk_alloc (by simpa using heap_alloc_new (w.alloc a) b) c
  · rw [← e2]; simpa using heap_alloc_new ((w.alloc a).alloc b) c
theorem cl0 {W : World} {g : Nat} {t : TypeId} {a b c : Value} (h : W.heap[g]? = some (.cells #[a, b, c] t (0, 0))) : W.cell? ⟨g, 0, none⟩ = some a ∧ W.cell? ⟨g, 1, none⟩ = some b ∧ W.cell? ⟨g, 2, none⟩ = some c := ⟨(blk_cell h 0).trans rfl, (blk_cell h 1).trans rfl, (blk_cell h 2).trans rfl⟩
theorem cl2 {W : World} {g : Nat} {t : TypeId} {a b : Value} (h : W.heap[g]? = some (.cells #[a, b] t (0, 0))) : W.cell? ⟨g, 0, none⟩ = some a ∧ W.cell? ⟨g, 1, none⟩ = some b := ⟨(blk_cell h 0).trans rfl, (blk_cell h 1).trans rfl⟩
def sreg1.T : Bool × List (List Nat × List Nat) := (true, [([], []), ([0], [0]), ([], []), ([2], [2]), ([1, 3], [1, 3]), ([], []), ([5], [5]), ([], []), ([7], [7]), ([6, 8, 4], [6, 8]), ([4, 9, 0, 1, 2, 3, 4], [4]), ([9, 10, 0, 1, 2, 3, 4, 5, 6, 7, 8, 9, 10], [9])])
def sreg1.B : List Nat := [0, 1, 0, 4, 15, 0, 32, 0, 128, 511, 1023, 2047]
theorem sreg1.tab : rtab .any (opsOf Tryd.f25 1) = sreg1.T := by kernel_rfl
theorem sreg1.bits : waitsOk sreg1.T.2 sreg1.B = true := by kernel_rfl
/-- A sum of two signed sizes. -/
def sgn (m : Bool) (n : Nat) : Int := if m then -(n : Int) else (n : Int)
def sumN (a b c d : Nat) (m1 m2 : Bool) : Nat := if m1 == m2 then a * d + c * b else if a * d < c * b then c * b - a * d else a * d - c * b
def sumM (a b c d : Nat) (m1 m2 : Bool) : Bool := if m1 == m2 then m1 else if a * d < c * b then m2 else m1
set_option maxHeartbeats 4000000 in
set_option maxRecDepth 100000 in
theorem sum_c (a b c d : Nat) (m1 m2 : Bool) (w : World) (va vb vc vd : Value) (ha : NB w va a) (hb : NB w vb b) (hc : NB w vc c) (hd : NB w vd d) (sa : Sz a) (sb : Sz b) (sc : Sz c) (sd : Sz d) (sad : Sz (a * d)) (scb : Sz (c * b)) :
    Calls Tryd.prog 25 #[.agg #[va, vb, .bool m1], .agg #[vc, vd, .bool m2]] w fun e w' => ∃ x y, e = .returned (.agg #[x, y, .bool (sumM a b c d m1 m2)]) ∧ NB w' x (sumN a b c d m1 m2) ∧ NB w' y (b * d) ∧ Below w.heap.size w w' := by
  have Na := Aside0.mk ha
  have Nb := Aside0.mk hb
  have Nc := Aside0.mk hc
  have Nd := Aside0.mk hd
  obtain ⟨Aa, La, na, rfl⟩ := NB.form ha
  obtain ⟨Ab, Lb, nb, rfl⟩ := NB.form hb
  obtain ⟨Ac, Lc, nc, rfl⟩ := NB.form hc
  obtain ⟨Ad, Ld, nd, rfl⟩ := NB.form hd
  have SZ := Aside0.mk (show Sz a ∧ Sz b ∧ Sz c ∧ Sz d ∧ Sz (a * d) ∧ Sz (c * b) from ⟨sa, sb, sc, sd, sad, scb⟩)
  clear ha hb hc hd sa sb sc sd sad scb
  go_enter Tryd.func25, Tryd.ntmps25
  go_wp2_with (fail)
  have T3 := three w (.cells #[.slice Aa La na, .slice Ab Lb nb, .bool m1] 45 (0, 0)) (.cells #[.slice Ac Lc nc, .slice Ad Ld nd, .bool m2] 45 (0, 0)) (.cells #[.slice none 0 0, .slice none 0 0, .bool false] 45 (0, 0))
  have B3 := below_alloc (below_alloc (below_alloc (Below.refl w.heap.size w) (.cells #[.slice Aa La na, .slice Ab Lb nb, .bool m1] 45 (0, 0))) (.cells #[.slice Ac Lc nc, .slice Ad Ld nd, .bool m2] 45 (0, 0))) (.cells #[.slice none 0 0, .slice none 0 0, .bool false] 45 (0, 0))
  refine cutw (F := fun W => (W.heap[w.heap.size]? = some (.cells #[.slice Aa La na, .slice Ab Lb nb, .bool m1] 45 (0, 0)) ∧ W.heap[w.heap.size + 1]? = some (.cells #[.slice Ac Lc nc, .slice Ad Ld nd, .bool m2] 45 (0, 0)) ∧ W.heap[w.heap.size + 1 + 1]? = some (.cells #[.slice none 0 0, .slice none 0 0, .bool false] 45 (0, 0))) ∧ Below w.heap.size w W) ⟨T3, B3⟩ ?_
  clear T3 B3
  rintro W ⟨⟨hX, hY, hZ⟩, hB⟩
  have HX := Aside0.mk hX
  have HY := Aside0.mk hY
  have HZ := Aside0.mk hZ
  have HB := Aside0.mk hB
  have qa := (cl0 hX).1
  have qb := (cl0 hX).2.1
  have qc := (cl0 hY).1
  have qd := (cl0 hY).2.1
  clear hX hY hZ hB
  have HBq := Aside0.mk (below_drew1 HB.out)
  have HXq := Aside0.mk (blk_drew HX.out)
  have HYq := Aside0.mk (blk_drew HY.out)
  have HZq := Aside0.mk (blk_drew HZ.out)
  refine start_ (n := 12) (S := fun w' => w'.cell? ⟨w.heap.size, 0, none⟩ = some (.slice Aa La na) ∧ w'.cell? ⟨w.heap.size, 1, none⟩ = some (.slice Ab Lb nb) ∧ w'.cell? ⟨w.heap.size + 1, 0, none⟩ = some (.slice Ac Lc nc) ∧ w'.cell? ⟨w.heap.size + 1, 1, none⟩ = some (.slice Ad Ld nd)) (ds := []) #[false, false, false, false, false, false, false, false, false, false, false, false] (by kernel_rfl) rfl rfl (⟨qa, qb, qc, qd⟩) (fun hHeld => ?_); refine with_tabW sreg1.tab sreg1.bits (fun HT_ HW_ => ?_)
  clear qa qb qc qd HX HY HZ HB
  generalize W.drew = W1 at HBq HXq HYq HZq hHeld ⊢
  refine pure_ (i := 0) (N := some 8) (v := ?_) (a' := ?_) #[true, false, false, false, false, false, false, false, false, false, false, false] rfl rfl (any_of HT_.out (by kernel_rfl)) (fun _ _ _ h => h) (Or.inl ⟨by rfl, ?_⟩) ?_ ?_
  rotate_left
  · intro w'
    go_simp
    with_reducible rfl
  rotate_left
  · simp only [Act.put, List.setIfInBounds_toArray, List.set_cons_zero, List.set_cons_succ, i64_w, i32_w]
    rfl
  refine pure_ (i := 2) (N := some 10) (v := ?_) (a' := ?_) #[true, false, true, false, false, false, false, false, false, false, false, false] rfl rfl (any_of HT_.out (by kernel_rfl)) (fun _ _ _ h => h) (Or.inl ⟨by rfl, ?_⟩) ?_ ?_
  rotate_left
  · intro w'
    go_simp
    with_reducible rfl
  rotate_left
  · simp only [Act.put, List.setIfInBounds_toArray, List.set_cons_zero, List.set_cons_succ, i64_w, i32_w]
    rfl
  refine pure_ (i := 5) (N := some 13) (v := ?_) (a' := ?_) #[true, false, true, false, false, true, false, false, false, false, false, false] rfl rfl (any_of HT_.out (by kernel_rfl)) (fun _ _ _ h => h) (Or.inl ⟨by rfl, ?_⟩) ?_ ?_
  rotate_left
  · intro w'
    go_simp
    with_reducible rfl
  rotate_left
  · simp only [Act.put, List.setIfInBounds_toArray, List.set_cons_zero, List.set_cons_succ, i64_w, i32_w]
    rfl
  refine pure_ (i := 7) (N := some 15) (v := ?_) (a' := ?_) #[true, false, true, false, false, true, false, true, false, false, false, false] rfl rfl (any_of HT_.out (by kernel_rfl)) (fun _ _ _ h => h) (Or.inl ⟨by rfl, ?_⟩) ?_ ?_
  rotate_left
  · intro w'
    go_simp
    with_reducible rfl
  rotate_left
  · simp only [Act.put, List.setIfInBounds_toArray, List.set_cons_zero, List.set_cons_succ, i64_w, i32_w]
    rfl
  refine take_ (i := 1) (N := some 9) (v := ?_) (a' := ?_) #[true, true, true, false, false, true, false, true, false, false, false, false] rfl rfl (take_ofW HT_.out HW_.out (by kernel_rfl)) (fun _ _ _ h => h) (Or.inl ⟨by rfl, ?_⟩) hHeld ?_ ?_
  rotate_left
  · intro w' s0
    obtain ⟨s1, s2, s3, s4⟩ := s0
    go_simp
    with_reducible rfl
  rotate_left
  · simp only [Act.put, List.setIfInBounds_toArray, List.set_cons_zero, List.set_cons_succ, i64_w, i32_w]
    rfl
  refine take_ (i := 3) (N := some 11) (v := ?_) (a' := ?_) #[true, true, true, true, false, true, false, true, false, false, false, false] rfl rfl (take_ofW HT_.out HW_.out (by kernel_rfl)) (fun _ _ _ h => h) (Or.inl ⟨by rfl, ?_⟩) hHeld ?_ ?_
  rotate_left
  · intro w' s0
    obtain ⟨s1, s2, s3, s4⟩ := s0
    go_simp
    with_reducible rfl
  rotate_left
  · simp only [Act.put, List.setIfInBounds_toArray, List.set_cons_zero, List.set_cons_succ, i64_w, i32_w]
    rfl
  refine take_ (i := 6) (N := some 14) (v := ?_) (a' := ?_) #[true, true, true, true, false, true, true, true, false, false, false, false] rfl rfl (take_ofW HT_.out HW_.out (by kernel_rfl)) (fun _ _ _ h => h) (Or.inl ⟨by rfl, ?_⟩) hHeld ?_ ?_
  rotate_left
  · intro w' s0
    obtain ⟨s1, s2, s3, s4⟩ := s0
    go_simp
    with_reducible rfl
  rotate_left
  · simp only [Act.put, List.setIfInBounds_toArray, List.set_cons_zero, List.set_cons_succ, i64_w, i32_w]
    rfl
  refine take_ (i := 8) (N := some 16) (v := ?_) (a' := ?_) #[true, true, true, true, false, true, true, true, true, false, false, false] rfl rfl (take_ofW HT_.out HW_.out (by kernel_rfl)) (fun _ _ _ h => h) (Or.inl ⟨by rfl, ?_⟩) hHeld ?_ ?_
  rotate_left
  · intro w' s0
    obtain ⟨s1, s2, s3, s4⟩ := s0
    go_simp
    with_reducible rfl
  rotate_left
  · simp only [Act.put, List.setIfInBounds_toArray, List.set_cons_zero, List.set_cons_succ, i64_w, i32_w]
    rfl
  refine one_ (i := 4) (N := some 12) #[true, true, true, true, true, true, true, true, true, false, false, false] rfl rfl (one_of HT_.out (by kernel_rfl)) (by decide) (fun K hK => ?_)
  refine goes_ Tryd.func38 (by kernel_rfl) rfl #[.slice Aa La na, .slice Ad Ld nd] (by rfl) rfl rfl (by (try simp only [List.map_toArray, List.map_cons, List.map_nil]); first | done | rfl | (simp only [List.length_drop, List.length_take]; rfl)) ?_
  refine (mul_c SZ.out.1 SZ.out.2.2.2.1 (Na.out.below HBq.out) (Nd.out.below HBq.out)).mono ?_
  rintro e W2 ⟨x, rfl, hx, hb⟩
  have NX := Aside0.mk hx
  obtain ⟨Ax, Lx, nx, rfl⟩ := NB.form hx
  clear hx
  have hbb := hb
  have HX2 := Aside0.mk (blk_below HXq.out hb)
  have HY2 := Aside0.mk (blk_below HYq.out hb)
  have HZ2 := Aside0.mk (blk_below HZq.out hb)
  have HB2 := Aside0.mk (below_step HBq.out hb)
  have HS_ : W2.cell? ⟨w.heap.size, 0, none⟩ = some (.slice Aa La na) ∧ W2.cell? ⟨w.heap.size, 1, none⟩ = some (.slice Ab Lb nb) ∧ W2.cell? ⟨w.heap.size + 1, 0, none⟩ = some (.slice Ac Lc nc) ∧ W2.cell? ⟨w.heap.size + 1, 1, none⟩ = some (.slice Ad Ld nd) := ⟨(cl0 HX2.out).1, (cl0 HX2.out).2.1, (cl0 HY2.out).1, (cl0 HY2.out).2.1⟩
  clear hbb hb
  refine ⟨_, rfl, ?_⟩
  refine hK.out _ _ HS_ (fun hHeld => ?_)
  clear hK K
  refine norm_ (a' := ?_) ?_ ?_
  rotate_left
  · show Act.put _ (some 12) _ = _
    simp only [Act.put, List.setIfInBounds_toArray, List.set_cons_zero, List.set_cons_succ, i64_w, i32_w]
    rfl
  refine one_ (i := 9) (N := some 17) #[true, true, true, true, true, true, true, true, true, true, false, false] rfl rfl (one_of HT_.out (by kernel_rfl)) (by decide) (fun K hK => ?_)
  refine goes_ Tryd.func38 (by kernel_rfl) rfl #[.slice Ac Lc nc, .slice Ab Lb nb] (by rfl) rfl rfl (by (try simp only [List.map_toArray, List.map_cons, List.map_nil]); first | done | rfl | (simp only [List.length_drop, List.length_take]; rfl)) ?_
  refine (mul_c SZ.out.2.2.1 SZ.out.2.1 (Nc.out.below HB2.out) (Nb.out.below HB2.out)).mono ?_
  rintro e W3 ⟨y, rfl, hy, hb⟩
  have NY := Aside0.mk hy
  obtain ⟨Ay, Ly, ny, rfl⟩ := NB.form hy
  have NX3 := Aside0.mk (NX.out.below hb)
  clear hy
  have hbb := hb
  have HX3 := Aside0.mk (blk_below HX2.out hb)
  have HY3 := Aside0.mk (blk_below HY2.out hb)
  have HZ3 := Aside0.mk (blk_below HZ2.out hb)
  have HB3 := Aside0.mk (below_step HB2.out hb)
  have HS_ : W3.cell? ⟨w.heap.size, 0, none⟩ = some (.slice Aa La na) ∧ W3.cell? ⟨w.heap.size, 1, none⟩ = some (.slice Ab Lb nb) ∧ W3.cell? ⟨w.heap.size + 1, 0, none⟩ = some (.slice Ac Lc nc) ∧ W3.cell? ⟨w.heap.size + 1, 1, none⟩ = some (.slice Ad Ld nd) := ⟨(cl0 HX3.out).1, (cl0 HX3.out).2.1, (cl0 HY3.out).1, (cl0 HY3.out).2.1⟩
  clear hbb hb
  refine ⟨_, rfl, ?_⟩
  refine hK.out _ _ HS_ (fun hHeld => ?_)
  clear hK K
  refine norm_ (a' := ?_) ?_ ?_
  rotate_left
  · show Act.put _ (some 17) _ = _
    simp only [Act.put, List.setIfInBounds_toArray, List.set_cons_zero, List.set_cons_succ, i64_w, i32_w]
    rfl
  refine pure_ (i := 10) (N := some 5) (v := ?_) (a' := ?_) #[true, true, true, true, true, true, true, true, true, true, true, false] rfl rfl (any_of HT_.out (by kernel_rfl)) (fun _ _ _ h => h) (Or.inl ⟨by rfl, ?_⟩) ?_ ?_
  rotate_left
  · intro w'
    go_simp
    with_reducible rfl
  rotate_left
  · simp only [Act.put, List.setIfInBounds_toArray, List.set_cons_zero, List.set_cons_succ, i64_w, i32_w]
    rfl
  refine pure_ (i := 11) (N := some 6) (v := ?_) (a' := ?_) #[true, true, true, true, true, true, true, true, true, true, true, true] rfl rfl (any_of HT_.out (by kernel_rfl)) (fun _ _ _ h => h) (Or.inl ⟨by rfl, ?_⟩) ?_ ?_
  rotate_left
  · intro w'
    go_simp
    with_reducible rfl
  rotate_left
  · simp only [Act.put, List.setIfInBounds_toArray, List.set_cons_zero, List.set_cons_succ, i64_w, i32_w]
    rfl
  refine done_ (done_of HT_.out (by kernel_rfl)) ?_
  have qb := (cl0 HX3.out).2.1
  have qd := (cl0 HY3.out).2.1
  go_wp2_with (fail)
  refine (mul_c SZ.out.2.1 SZ.out.2.2.2.1 (Nb.out.below HB3.out) (Nd.out.below HB3.out)).mono ?_
  rintro e W4 ⟨z, rfl, hz, hb⟩
  have NZ4 := Aside0.mk hz
  obtain ⟨Az, Lz, cz, rfl⟩ := NB.form hz
  have NX4 := Aside0.mk (NX3.out.below hb)
  have NY4 := Aside0.mk (NY.out.below hb)
  have HX4 := Aside0.mk (blk_below HX3.out hb)
  have HY4 := Aside0.mk (blk_below HY3.out hb)
  have HZ4 := Aside0.mk (blk_below HZ3.out hb)
  have HB4 := Aside0.mk (below_step HB3.out hb)
  clear hz hb qb qd hHeld
  go_upto_region 3 with (fail)
  obtain ⟨g4, hg4⟩ : ∃ g4 : Nat, W4.heap.size = g4 := ⟨_, rfl⟩
  have HG5 := blk_new W4 (.cells #[.slice none 0 0, .slice Az Lz cz, .bool false] 45 (0, 0))
  have E4 := Aside0.mk (show w.heap.size < g4 ∧ w.heap.size + 1 < g4 ∧ w.heap.size + 1 + 1 < g4 from hg4 ▸ ⟨blk_lt HX4.out, blk_lt HY4.out, blk_lt HZ4.out⟩)
  have BW := Aside0.mk (below_alloc (Below.refl W4.heap.size W4) (.cells #[.slice none 0 0, .slice Az Lz cz, .bool false] 45 (0, 0)))
  rw [hg4] at HG5 ⊢
  refine cutw (F := fun W => (W.heap[w.heap.size]? = some (.cells #[.slice Aa La na, .slice Ab Lb nb, .bool m1] 45 (0, 0)) ∧ W.heap[w.heap.size + 1]? = some (.cells #[.slice Ac Lc nc, .slice Ad Ld nd, .bool m2] 45 (0, 0)) ∧ W.heap[w.heap.size + 1 + 1]? = some (.cells #[.slice none 0 0, .slice none 0 0, .bool false] 45 (0, 0)) ∧ W.heap[g4]? = some (.cells #[.slice none 0 0, .slice Az Lz cz, .bool false] 45 (0, 0)) ∧ Below w.heap.size w W) ∧ NB W (.slice Ax Lx nx) (a * d) ∧ NB W (.slice Ay Ly ny) (c * b) ∧ NB W (.slice Az Lz cz) (b * d)) ⟨⟨blk_alloc HX4.out _, blk_alloc HY4.out _, blk_alloc HZ4.out _, HG5, below_alloc HB4.out _⟩, NX4.out.below BW.out, NY4.out.below BW.out, NZ4.out.below BW.out⟩ ?_
  clear HG5 BW HX4 HY4 HZ4 HB4 NX4 NY4 NZ4 hg4 HX3 HY3 HZ3 HB3 HX2 HY2 HZ2 HB2 HXq HYq HZq HBq NX NX3 NY
  have hE4 := E4.out
  obtain ⟨g1, hg1⟩ : ∃ g1 : Nat, w.heap.size = g1 := ⟨_, rfl⟩
  obtain ⟨g2, hg2⟩ : ∃ g2 : Nat, w.heap.size + 1 = g2 := ⟨_, rfl⟩
  obtain ⟨g3, hg3⟩ : ∃ g3 : Nat, w.heap.size + 1 + 1 = g3 := ⟨_, rfl⟩
  have GE := Aside0.mk (show w.heap.size ≤ g3 ∧ w.heap.size ≤ g4 by omega)
  have NE := Aside0.mk (show g1 ≠ g2 ∧ g1 ≠ g3 ∧ g1 ≠ g4 ∧ g2 ≠ g3 ∧ g2 ≠ g4 ∧ g3 ≠ g4 by omega)
  rw [hg3, hg2]
  clear hE4 E4
  rintro W5 ⟨⟨hX, hY, hZ, hG, hB⟩, nx', ny', nz'⟩
  rw [hg1] at hX ⊢
  have HX := Aside0.mk hX
  have HY := Aside0.mk hY
  have HZ := Aside0.mk hZ
  have HG := Aside0.mk hG
  have HB := Aside0.mk hB
  have NX := Aside0.mk nx'
  have NY := Aside0.mk ny'
  have NZ := Aside0.mk nz'
  have q1 := (cl0 hX).2.2
  have q2 := (cl0 hY).2.2
  clear hX hY hZ hG hB nx' ny' nz' hg1 hg2 hg3
  by_cases hm : m1 = m2
  · subst hm
    have hmm : (m1 == m1) = true := by simp
    have E1' := Aside0.mk (show sumN a b c d m1 m1 = a * d + c * b by simp [sumN])
    have E2' := Aside0.mk (show sumM a b c d m1 m1 = m1 by simp [sumM])
    go_wp2_with (fail)
    refine (add_c SZ.out.2.2.2.2.1 SZ.out.2.2.2.2.2 NX.out NY.out).mono ?_
    rintro e W6 ⟨v, rfl, hv, hb⟩
    have NV := Aside0.mk hv
    obtain ⟨Av, Lv, cv, rfl⟩ := NB.form hv
    have NZ6 := Aside0.mk (NZ.out.below hb)
    have HX6 := Aside0.mk (blk_below HX.out hb)
    have HY6 := Aside0.mk (blk_below HY.out hb)
    have HZ6 := Aside0.mk (blk_below HZ.out hb)
    have HG6 := Aside0.mk (blk_below HG.out hb)
    have HB6 := Aside0.mk (below_step HB.out hb)
    clear hv hb q1 q2 HX HY HZ HG HB NX NY NZ
    have kX0 := (cl0 HX6.out).1
    have fX0 := blk_frozen HX6.out 0
    have kX1 := (cl0 HX6.out).2.1
    have fX1 := blk_frozen HX6.out 1
    have kX2 := (cl0 HX6.out).2.2
    have fX2 := blk_frozen HX6.out 2
    have kY0 := (cl0 HY6.out).1
    have fY0 := blk_frozen HY6.out 0
    have kY1 := (cl0 HY6.out).2.1
    have fY1 := blk_frozen HY6.out 1
    have kY2 := (cl0 HY6.out).2.2
    have fY2 := blk_frozen HY6.out 2
    have kZ0 := (cl0 HZ6.out).1
    have fZ0 := blk_frozen HZ6.out 0
    have kZ1 := (cl0 HZ6.out).2.1
    have fZ1 := blk_frozen HZ6.out 1
    have kZ2 := (cl0 HZ6.out).2.2
    have fZ2 := blk_frozen HZ6.out 2
    have kG0 := (cl0 HG6.out).1
    have fG0 := blk_frozen HG6.out 0
    have kG1 := (cl0 HG6.out).2.1
    have fG1 := blk_frozen HG6.out 1
    have kG2 := (cl0 HG6.out).2.2
    have fG2 := blk_frozen HG6.out 2
    obtain ⟨n12, n13, n14, n23, n24, n34⟩ := NE.out
    have n21 := Ne.symm n12
    have n31 := Ne.symm n13
    have n41 := Ne.symm n14
    have n32 := Ne.symm n23
    have n42 := Ne.symm n24
    have n43 := Ne.symm n34
    go_wp2_with (fail)
    refine bodyPost_ret (results_cell_row rfl _ _ g3 45 #[.slice Av Lv cv, .slice Az Lz cz, .bool m1] (0, 0) _ rfl (blk_put (cs := #[.slice Av Lv cv, .slice Az Lz cz, .bool false]) (blk_put (cs := #[.slice Av Lv cv, .slice none 0 0, .bool false]) (blk_put (cs := #[.slice none 0 0, .slice none 0 0, .bool false]) (blk_far (blk_far HZ6.out n34 _) n34 _) 0 _ rfl) 1 _ rfl) 2 _ rfl) Tryd.underlying45 rfl (by kernel_rfl)) rfl ?_
    have o1 := NV.out.ne HG6.out (by decide)
    have o2 := NV.out.ne HZ6.out (by decide)
    have o3 := NZ6.out.ne HG6.out (by decide)
    have o4 := NZ6.out.ne HZ6.out (by decide)
    skip
    exact ⟨_, _, by rw [E2'.out], by rw [E1'.out]; exact ((((NV.out.set o1 _ _).set o1 _ _).set o2 _ _).set o2 _ _).set o2 _ _, ((((NZ6.out.set o3 _ _).set o3 _ _).set o4 _ _).set o4 _ _).set o4 _ _, below_set (below_set (below_set (below_set (below_set HB6.out GE.out.2) GE.out.2) GE.out.1) GE.out.1) GE.out.1⟩
  · have hmm : (m1 == m2) = false := by simpa using hm
    go_wp2_with (fail)
    refine (less_c SZ.out.2.2.2.2.1 NX.out NY.out).mono ?_
    rintro e W9 ⟨rfl, hb⟩
    replace HX := Aside0.mk (blk_below HX.out hb)
    replace HY := Aside0.mk (blk_below HY.out hb)
    replace HZ := Aside0.mk (blk_below HZ.out hb)
    replace HG := Aside0.mk (blk_below HG.out hb)
    replace HB := Aside0.mk (below_step HB.out hb)
    replace NX := Aside0.mk (NX.out.below hb)
    replace NY := Aside0.mk (NY.out.below hb)
    replace NZ := Aside0.mk (NZ.out.below hb)
    clear hb q1 q2
    have q1 := True.intro
    have q2 := True.intro
    by_cases hl : a * d < c * b
    · have E1' := Aside0.mk (show sumN a b c d m1 m2 = c * b - a * d by simp [sumN, hmm, hl])
      have E2' := Aside0.mk (show sumM a b c d m1 m2 = m2 by simp [sumM, hmm, hl])
      have hl' : decide (a * d < c * b) = true := decide_eq_true hl
      rw [hl']
      clear hl'
      go_wp2_with (fail)
      refine (sub_c SZ.out.2.2.2.2.2 (Nat.le_of_lt hl) NY.out NX.out).mono ?_
      rintro e W6 ⟨v, rfl, hv, hb⟩
      have NV := Aside0.mk hv
      obtain ⟨Av, Lv, cv, rfl⟩ := NB.form hv
      have NZ6 := Aside0.mk (NZ.out.below hb)
      have HX6 := Aside0.mk (blk_below HX.out hb)
      have HY6 := Aside0.mk (blk_below HY.out hb)
      have HZ6 := Aside0.mk (blk_below HZ.out hb)
      have HG6 := Aside0.mk (blk_below HG.out hb)
      have HB6 := Aside0.mk (below_step HB.out hb)
      clear hv hb q1 q2 HX HY HZ HG HB NX NY NZ
      have kX0 := (cl0 HX6.out).1
      have fX0 := blk_frozen HX6.out 0
      have kX1 := (cl0 HX6.out).2.1
      have fX1 := blk_frozen HX6.out 1
      have kX2 := (cl0 HX6.out).2.2
      have fX2 := blk_frozen HX6.out 2
      have kY0 := (cl0 HY6.out).1
      have fY0 := blk_frozen HY6.out 0
      have kY1 := (cl0 HY6.out).2.1
      have fY1 := blk_frozen HY6.out 1
      have kY2 := (cl0 HY6.out).2.2
      have fY2 := blk_frozen HY6.out 2
      have kZ0 := (cl0 HZ6.out).1
      have fZ0 := blk_frozen HZ6.out 0
      have kZ1 := (cl0 HZ6.out).2.1
      have fZ1 := blk_frozen HZ6.out 1
      have kZ2 := (cl0 HZ6.out).2.2
      have fZ2 := blk_frozen HZ6.out 2
      have kG0 := (cl0 HG6.out).1
      have fG0 := blk_frozen HG6.out 0
      have kG1 := (cl0 HG6.out).2.1
      have fG1 := blk_frozen HG6.out 1
      have kG2 := (cl0 HG6.out).2.2
      have fG2 := blk_frozen HG6.out 2
      obtain ⟨n12, n13, n14, n23, n24, n34⟩ := NE.out
      have n21 := Ne.symm n12
      have n31 := Ne.symm n13
      have n41 := Ne.symm n14
      have n32 := Ne.symm n23
      have n42 := Ne.symm n24
      have n43 := Ne.symm n34
      go_wp2_with (fail)
      refine bodyPost_ret (results_cell_row rfl _ _ g3 45 #[.slice Av Lv cv, .slice Az Lz cz, .bool m2] (0, 0) _ rfl (blk_put (cs := #[.slice Av Lv cv, .slice Az Lz cz, .bool false]) (blk_put (cs := #[.slice Av Lv cv, .slice none 0 0, .bool false]) (blk_put (cs := #[.slice none 0 0, .slice none 0 0, .bool false]) (blk_far (blk_far HZ6.out n34 _) n34 _) 0 _ rfl) 1 _ rfl) 2 _ rfl) Tryd.underlying45 rfl (by kernel_rfl)) rfl ?_
      have o1 := NV.out.ne HG6.out (by decide)
      have o2 := NV.out.ne HZ6.out (by decide)
      have o3 := NZ6.out.ne HG6.out (by decide)
      have o4 := NZ6.out.ne HZ6.out (by decide)
      skip
      exact ⟨_, _, by rw [E2'.out], by rw [E1'.out]; exact ((((NV.out.set o1 _ _).set o1 _ _).set o2 _ _).set o2 _ _).set o2 _ _, ((((NZ6.out.set o3 _ _).set o3 _ _).set o4 _ _).set o4 _ _).set o4 _ _, below_set (below_set (below_set (below_set (below_set HB6.out GE.out.2) GE.out.2) GE.out.1) GE.out.1) GE.out.1⟩
    · have E1' := Aside0.mk (show sumN a b c d m1 m2 = a * d - c * b by simp [sumN, hmm, hl])
      have E2' := Aside0.mk (show sumM a b c d m1 m2 = m1 by simp [sumM, hmm, hl])
      have hl' : decide (a * d < c * b) = false := decide_eq_false hl
      rw [hl']
      clear hl'
      go_wp2_with (fail)
      refine (sub_c SZ.out.2.2.2.2.1 (Nat.le_of_not_lt hl) NX.out NY.out).mono ?_
      rintro e W6 ⟨v, rfl, hv, hb⟩
      have NV := Aside0.mk hv
      obtain ⟨Av, Lv, cv, rfl⟩ := NB.form hv
      have NZ6 := Aside0.mk (NZ.out.below hb)
      have HX6 := Aside0.mk (blk_below HX.out hb)
      have HY6 := Aside0.mk (blk_below HY.out hb)
      have HZ6 := Aside0.mk (blk_below HZ.out hb)
      have HG6 := Aside0.mk (blk_below HG.out hb)
      have HB6 := Aside0.mk (below_step HB.out hb)
      clear hv hb q1 q2 HX HY HZ HG HB NX NY NZ
      have kX0 := (cl0 HX6.out).1
      have fX0 := blk_frozen HX6.out 0
      have kX1 := (cl0 HX6.out).2.1
      have fX1 := blk_frozen HX6.out 1
      have kX2 := (cl0 HX6.out).2.2
      have fX2 := blk_frozen HX6.out 2
      have kY0 := (cl0 HY6.out).1
      have fY0 := blk_frozen HY6.out 0
      have kY1 := (cl0 HY6.out).2.1
      have fY1 := blk_frozen HY6.out 1
      have kY2 := (cl0 HY6.out).2.2
      have fY2 := blk_frozen HY6.out 2
      have kZ0 := (cl0 HZ6.out).1
      have fZ0 := blk_frozen HZ6.out 0
      have kZ1 := (cl0 HZ6.out).2.1
      have fZ1 := blk_frozen HZ6.out 1
      have kZ2 := (cl0 HZ6.out).2.2
      have fZ2 := blk_frozen HZ6.out 2
      have kG0 := (cl0 HG6.out).1
      have fG0 := blk_frozen HG6.out 0
      have kG1 := (cl0 HG6.out).2.1
      have fG1 := blk_frozen HG6.out 1
      have kG2 := (cl0 HG6.out).2.2
      have fG2 := blk_frozen HG6.out 2
      obtain ⟨n12, n13, n14, n23, n24, n34⟩ := NE.out
      have n21 := Ne.symm n12
      have n31 := Ne.symm n13
      have n41 := Ne.symm n14
      have n32 := Ne.symm n23
      have n42 := Ne.symm n24
      have n43 := Ne.symm n34
      go_wp2_with (fail)
      refine bodyPost_ret (results_cell_row rfl _ _ g3 45 #[.slice Av Lv cv, .slice Az Lz cz, .bool m1] (0, 0) _ rfl (blk_put (cs := #[.slice Av Lv cv, .slice Az Lz cz, .bool false]) (blk_put (cs := #[.slice Av Lv cv, .slice none 0 0, .bool false]) (blk_put (cs := #[.slice none 0 0, .slice none 0 0, .bool false]) (blk_far (blk_far HZ6.out n34 _) n34 _) 0 _ rfl) 1 _ rfl) 2 _ rfl) Tryd.underlying45 rfl (by kernel_rfl)) rfl ?_
      have o1 := NV.out.ne HG6.out (by decide)
      have o2 := NV.out.ne HZ6.out (by decide)
      have o3 := NZ6.out.ne HG6.out (by decide)
      have o4 := NZ6.out.ne HZ6.out (by decide)
      skip
      exact ⟨_, _, by rw [E2'.out], by rw [E1'.out]; exact ((((NV.out.set o1 _ _).set o1 _ _).set o2 _ _).set o2 _ _).set o2 _ _, ((((NZ6.out.set o3 _ _).set o3 _ _).set o4 _ _).set o4 _ _).set o4 _ _, below_set (below_set (below_set (below_set (below_set HB6.out GE.out.2) GE.out.2) GE.out.1) GE.out.1) GE.out.1⟩
end Go.Proofs.YtpcdcanmbokpfaaDoor.PRef
