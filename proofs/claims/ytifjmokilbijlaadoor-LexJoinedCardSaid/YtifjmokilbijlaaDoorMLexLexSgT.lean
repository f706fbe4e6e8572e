import Derived.Test.YtifjmokilbijlaaDoorMLexLexHpT
import Derived.LoopN
namespace Go.Proofs.YtifjmokilbijlaaDoor.PLex
open Go Go.RowKit Go.Proofs.YtifjmokilbijlaaDoorW.PrintWords Go.Proofs.YtifjmokilbijlaaDoorW.PrintLast Go.Proofs.YtifjmokilbijlaaDoorW.PrintMore BallLex
attribute [local go_sem] max2_int min2_int max_two min_two max_three min_three max_four min_four
set_option linter.unusedVariables false
set_option linter.unusedSimpArgs false
def sreg4.T : Bool × List (List Nat × List Nat) := (true, [([], []), ([0], [0]), ([1], [1]), ([2], [2]), ([], []), ([4], [4]), ([5], [5]), ([6], [6]), ([3, 7], [3, 7]), ([], []), ([8, 9], [8, 9])])
def sreg4.B : List Nat := [0, 1, 3, 7, 0, 16, 48, 112, 255, 0, 1023]
theorem sreg4.tab : rtab .any (opsOf Tryd.f58 4) = sreg4.T := by kernel_rfl
theorem sreg4.bits : waitsOk sreg4.T.2 sreg4.B = true := by kernel_rfl
def sreg8.T : Bool × List (List Nat × List Nat) := (true, [([], []), ([0], [0]), ([1], [1]), ([2], [2]), ([], []), ([4], [4]), ([5], [5]), ([6], [6]), ([3, 7], [3, 7]), ([8, 0, 1, 2, 3, 4, 5, 6, 7, 8], [8])])
def sreg8.B : List Nat := [0, 1, 3, 7, 0, 16, 48, 112, 255, 511]
theorem sreg8.tab : rtab .any (opsOf Tryd.f58 8) = sreg8.T := by kernel_rfl
theorem sreg8.bits : waitsOk sreg8.T.2 sreg8.B = true := by kernel_rfl
theorem enc_all : ∀ c : Fin 128, Utf8.encode (wrap32 ((c.val : Nat) : Int)) = ⟨#[UInt8.ofNat c.val]⟩ := by decide +kernel
theorem b2 (s : ByteArray) (i : Nat) (a b : UInt8) (hi : i < s.size) : (decide ((⟨#[a, b]⟩ : ByteArray).size ≤ (s.extract i s.size).size) && ((s.extract i s.size).extract 0 (⟨#[a, b]⟩ : ByteArray).size).toList == (⟨#[a, b]⟩ : ByteArray).toList) = (decide (i + 1 < s.size) && (by_ s i == a.toNat && by_ s (i + 1) == b.toNat)) := by
  have h : (⟨#[a, b]⟩ : ByteArray).toList = [a, b] := by
    have e := Lib.extract_toList ⟨#[a, b]⟩ 0 2
    rw [show (⟨#[a, b]⟩ : ByteArray).extract 0 2 = ⟨#[a, b]⟩ from by rw [Lib.extract_eq]; rfl] at e
    exact e
  rw [h]
  exact two_ s i a b hi
set_option maxHeartbeats 4000000 in
set_option maxRecDepth 100000 in
theorem sign_c (g : Nat) (s : ByteArray) (i : Nat) (hi : i < s.size) (hs : s.size ≤ 1000000) (w0 w : World) (hB : Below w0.heap.size w0 w) (hge : w0.heap.size ≤ g) (hg : w.heap[g]? = some (.cells #[.string s, .int .i64 (i : Int)] 54 (0, 0))) :
    Calls Tryd.prog 58 #[.pointer (some ⟨g, 0, none⟩)] w fun e w' => e = .returned (.tuple #[.string (s.extract i (i + sgn s i)), .bool (decide (0 < sgn s i))]) ∧ w'.heap[g]? = some (.cells #[.string s, .int .i64 ((i + sgn s i : Nat) : Int)] 54 (0, 0)) ∧ KeepBut w w' g none ∧ Below w0.heap.size w0 w' := by
  have HG := Aside0.mk hg
  have HB := Aside0.mk hB
  have HKe := Aside0.mk (KeepBut.refl w g none)
  have HI := Aside0.mk (show i < s.size ∧ s.size ≤ 1000000 ∧ w0.heap.size ≤ g from ⟨hi, hs, hge⟩)
  have p0 := eq_true (show 0 ≤ (i : Int) by omega)
  have p1 := eq_true (show (i : Int) ≤ (s.size : Int) by omega)
  have p2 := eq_true (show i ≤ s.size by omega)
  have q0 := eq_true (show (i : Int) < (s.size : Int) by omega)
  have q1 := eq_true (show i < s.size by omega)
  have BY := Aside0.mk (by_at s i hi)
  have HZ := Aside0.mk (show (s.extract i s.size).size ≤ 1000000 by rw [ByteArray.size_extract]; omega)
  clear hg hB hs hge
  have x0 : ∀ w : World, (Instr.index 93 (.agg #[.string ⟨#[61, 61]⟩, .string ⟨#[45, 62]⟩]) (.int .i64 0)).run Tryd.prog w = .ok (.string ⟨#[61, 61]⟩) w := fun _ => by kernel_rfl
  have x1 : ∀ w : World, (Instr.index 93 (.agg #[.string ⟨#[61, 61]⟩, .string ⟨#[45, 62]⟩]) (.int .i64 1)).run Tryd.prog w = .ok (.string ⟨#[45, 62]⟩) w := fun _ => by kernel_rfl
  go_enter Tryd.func58, Tryd.ntmps58
  go_wp2_with (fail)
  refine wp_loop_rounds 3 ?_
  rw [rounds_succ]
  go_wp2_with (fail)
  have HGq := Aside0.mk (blk_drew HG.out)
  have HBq := Aside0.mk (below_drew1 HB.out)
  have HKq := Aside0.mk (keep_drew HKe.out)
  have k0 := (cw2 HG.out).1
  have k1' := (cw2 HG.out).2
  refine start_ (n := 11) (S := (fun w' => w'.cell? ⟨g, 0, none⟩ = some (.string s) ∧ w'.cell? ⟨g, 1, none⟩ = some (.int .i64 (i : Int)))) (ds := []) #[f_, f_, f_, f_, f_, f_, f_, f_, f_, f_, f_] (by kernel_rfl) rfl rfl (⟨k0, k1'⟩) (fun hHeld => ?_); refine with_tabW sreg4.tab sreg4.bits (fun HT_ HW_ => ?_)
  clear k0 k1' HG HB HKe
  generalize w.drew = wq at HGq HBq HKq hHeld ⊢
  refine pure_ (i := 0) (N := some 11) (v := ?_) (a' := ?_) #[t_, f_, f_, f_, f_, f_, f_, f_, f_, f_, f_] rfl rfl (any_of HT_.out (by kernel_rfl)) (fun _ _ _ h => h) (Or.inl ⟨by rfl, ?_⟩) ?_ ?_
  rotate_left
  · intro w'
    go_simp
    with_reducible rfl
  rotate_left
  · simp only [Act.put, List.setIfInBounds_toArray, List.set_cons_zero, List.set_cons_succ, i64_w, i32_w]
    rfl
  refine pure_ (i := 1) (N := some 12) (v := ?_) (a' := ?_) #[t_, t_, f_, f_, f_, f_, f_, f_, f_, f_, f_] rfl rfl (any_of HT_.out (by kernel_rfl)) (fun _ _ _ h => h) (Or.inl ⟨by rfl, ?_⟩) ?_ ?_
  rotate_left
  · intro w'
    go_simp
    with_reducible rfl
  rotate_left
  · simp only [Act.put, List.setIfInBounds_toArray, List.set_cons_zero, List.set_cons_succ, i64_w, i32_w]
    rfl
  refine pure_ (i := 2) (N := some 13) (v := ?_) (a' := ?_) #[t_, t_, t_, f_, f_, f_, f_, f_, f_, f_, f_] rfl rfl (any_of HT_.out (by kernel_rfl)) (fun _ _ _ h => h) (Or.inl ⟨by rfl, ?_⟩) ?_ ?_
  rotate_left
  · intro w'
    go_simp
    with_reducible rfl
  rotate_left
  · simp only [Act.put, List.setIfInBounds_toArray, List.set_cons_zero, List.set_cons_succ, i64_w, i32_w]
    rfl
  refine pure_ (i := 4) (N := some 15) (v := ?_) (a' := ?_) #[t_, t_, t_, f_, t_, f_, f_, f_, f_, f_, f_] rfl rfl (any_of HT_.out (by kernel_rfl)) (fun _ _ _ h => h) (Or.inl ⟨by rfl, ?_⟩) ?_ ?_
  rotate_left
  · intro w'
    go_simp
    with_reducible rfl
  rotate_left
  · simp only [Act.put, List.setIfInBounds_toArray, List.set_cons_zero, List.set_cons_succ, i64_w, i32_w]
    rfl
  refine pure_ (i := 5) (N := some 16) (v := ?_) (a' := ?_) #[t_, t_, t_, f_, t_, t_, f_, f_, f_, f_, f_] rfl rfl (any_of HT_.out (by kernel_rfl)) (fun _ _ _ h => h) (Or.inl ⟨by rfl, ?_⟩) ?_ ?_
  rotate_left
  · intro w'
    go_simp
    with_reducible rfl
  rotate_left
  · simp only [Act.put, List.setIfInBounds_toArray, List.set_cons_zero, List.set_cons_succ, i64_w, i32_w]
    rfl
  refine pure_ (i := 6) (N := some 17) (v := ?_) (a' := ?_) #[t_, t_, t_, f_, t_, t_, t_, f_, f_, f_, f_] rfl rfl (any_of HT_.out (by kernel_rfl)) (fun _ _ _ h => h) (Or.inl ⟨by rfl, ?_⟩) ?_ ?_
  rotate_left
  · intro w'
    go_simp
    with_reducible rfl
  rotate_left
  · simp only [Act.put, List.setIfInBounds_toArray, List.set_cons_zero, List.set_cons_succ, i64_w, i32_w]
    rfl
  refine take_ (i := 3) (N := some 14) (v := ?_) (a' := ?_) #[t_, t_, t_, t_, t_, t_, t_, f_, f_, f_, f_] rfl rfl (take_ofW HT_.out HW_.out (by kernel_rfl)) (fun _ _ _ h => h) (Or.inl ⟨by rfl, ?_⟩) hHeld ?_ ?_
  rotate_left
  · intro w' s0
    obtain ⟨s1, s2⟩ := s0
    go_simp
    with_reducible rfl
  rotate_left
  · simp only [Act.put, List.setIfInBounds_toArray, List.set_cons_zero, List.set_cons_succ, i64_w, i32_w]
    rfl
  refine take_ (i := 7) (N := some 18) (v := ?_) (a' := ?_) #[t_, t_, t_, t_, t_, t_, t_, t_, f_, f_, f_] rfl rfl (take_ofW HT_.out HW_.out (by kernel_rfl)) (fun _ _ _ h => h) (Or.inl ⟨by rfl, ?_⟩) hHeld ?_ ?_
  rotate_left
  · intro w' s0
    obtain ⟨s1, s2⟩ := s0
    go_simp
    with_reducible rfl
  rotate_left
  · simp only [Act.put, List.setIfInBounds_toArray, List.set_cons_zero, List.set_cons_succ, i64_w, i32_w]
    rfl
  refine pure_ (i := 8) (N := some 19) (v := ?_) (a' := ?_) #[t_, t_, t_, t_, t_, t_, t_, t_, t_, f_, f_] rfl rfl (any_of HT_.out (by kernel_rfl)) (fun _ _ _ h => h) (Or.inl ⟨by rfl, ?_⟩) ?_ ?_
  rotate_left
  · intro w'
    go_simp
    with_reducible rfl
  rotate_left
  · simp only [Act.put, List.setIfInBounds_toArray, List.set_cons_zero, List.set_cons_succ, i64_w, i32_w]
    rfl
  refine pure_ (i := 9) (N := some 20) (v := ?_) (a' := ?_) #[t_, t_, t_, t_, t_, t_, t_, t_, t_, t_, f_] rfl rfl (any_of HT_.out (by kernel_rfl)) (fun _ _ _ h => h) (Or.inl ⟨by rfl, ?_⟩) ?_ ?_
  rotate_left
  · intro w'
    go_simp
    with_reducible rfl
  rotate_left
  · simp only [Act.put, List.setIfInBounds_toArray, List.set_cons_zero, List.set_cons_succ, i64_w, i32_w]
    rfl
  refine one_ (i := 10) (N := some 21) #[t_, t_, t_, t_, t_, t_, t_, t_, t_, t_, t_] rfl rfl (one_of HT_.out (by kernel_rfl)) (by decide) (fun K hK => ?_)
  refine goes_ Tryd.func79 (by kernel_rfl) rfl #[.string (s.extract i s.size), .string ⟨#[61, 61]⟩] (by rfl) rfl rfl (by (try simp only [List.map_toArray, List.map_cons, List.map_nil]); first | done | rfl | (simp only [List.length_drop, List.length_take]; rfl)) ?_
  refine (pre_c (s.extract i s.size) ⟨#[61, 61]⟩ (by decide) HZ.out _).mono ?_
  rintro e Wx ⟨rfl, rfl⟩
  have HS_ := show _ ∧ _ from cw2 HGq.out
  refine ⟨_, rfl, ?_⟩
  refine hK.out _ _ HS_ (fun hHeld => ?_)
  clear hK K
  refine norm_ (a' := ?_) ?_ ?_
  rotate_left
  · show Act.put _ (some 21) _ = _
    simp only [Act.put, List.setIfInBounds_toArray, List.set_cons_zero, List.set_cons_succ, i64_w, i32_w]
    rfl
  refine done_ (done_of HT_.out (by kernel_rfl)) ?_
  have HG := HGq
  have HB := HBq
  have HKe := HKq
  clear HGq HBq HKq
  rw [b2 s i 61 61 HI.out.1]
  by_cases hb : (decide (i + 1 < s.size) && (by_ s i == (61 : UInt8).toNat && by_ s (i + 1) == (61 : UInt8).toNat)) = true
  ·
    have HP := Aside0.mk hb
    simp only [Bool.and_eq_true, decide_eq_true_eq, beq_iff_eq] at hb
    have SG := Aside0.mk (show sgn s i = 2 by unfold sgn; rw [if_pos (by simp [pair, hb.1, hb.2.1, hb.2.2])])
    have LI := Aside0.mk (lit2 s i 61 61 hb.1 hb.2.1 hb.2.2)
    have HL := Aside0.mk hb.1
    rw [HP.out]
    have k0 := (cw2 HG.out).1
    have k1' := (cw2 HG.out).2
    have f1 := blk_frozen HG.out 1
    clear hb
    go_wp2_with (fail)
    (try simp only [Exit.inBlock, Exit.then])
    go_ret2
    rw [SG.out, ← LI.out]
    refine ⟨rfl, ?_, HKe.out.set_ 1 _, below_set HB.out (by have := HI.out; omega)⟩
    have e : wrap64 ((i : Int) + 2) = ((i + 2 : Nat) : Int) := by have := HI.out; unfold wrap64; omega
    exact blk_put HG.out 1 _ (by rw [← e]; rfl)
  · have hb' : (decide (i + 1 < s.size) && (by_ s i == (61 : UInt8).toNat && by_ s (i + 1) == (61 : UInt8).toNat)) = false := by simpa using hb
    have N1 := Aside0.mk hb'
    rw [hb']
    clear hb hb'
    go_wp2_with (fail)
    rw [rounds_succ]
    go_wp2_with (fail)
    have HGq := Aside0.mk (blk_drew HG.out)
    have HBq := Aside0.mk (below_drew1 HB.out)
    have HKq := Aside0.mk (keep_drew HKe.out)
    have k0 := (cw2 HG.out).1
    have k1' := (cw2 HG.out).2
    refine start_ (n := 11) (S := (fun w' => w'.cell? ⟨g, 0, none⟩ = some (.string s) ∧ w'.cell? ⟨g, 1, none⟩ = some (.int .i64 (i : Int)))) (ds := []) #[f_, f_, f_, f_, f_, f_, f_, f_, f_, f_, f_] (by kernel_rfl) rfl rfl (⟨k0, k1'⟩) (fun hHeld => ?_); refine with_tabW sreg4.tab sreg4.bits (fun HT_ HW_ => ?_)
    clear k0 k1' HG HB HKe
    generalize Wx.drew = Wxq at HGq HBq HKq hHeld ⊢
    refine pure_ (i := 0) (N := some 11) (v := ?_) (a' := ?_) #[t_, f_, f_, f_, f_, f_, f_, f_, f_, f_, f_] rfl rfl (any_of HT_.out (by kernel_rfl)) (fun _ _ _ h => h) (Or.inl ⟨by rfl, ?_⟩) ?_ ?_
    rotate_left
    · intro w'
      go_simp
      with_reducible rfl
    rotate_left
    · simp only [Act.put, List.setIfInBounds_toArray, List.set_cons_zero, List.set_cons_succ, i64_w, i32_w]
      rfl
    refine pure_ (i := 1) (N := some 12) (v := ?_) (a' := ?_) #[t_, t_, f_, f_, f_, f_, f_, f_, f_, f_, f_] rfl rfl (any_of HT_.out (by kernel_rfl)) (fun _ _ _ h => h) (Or.inl ⟨by rfl, ?_⟩) ?_ ?_
    rotate_left
    · intro w'
      go_simp
      with_reducible rfl
    rotate_left
    · simp only [Act.put, List.setIfInBounds_toArray, List.set_cons_zero, List.set_cons_succ, i64_w, i32_w]
      rfl
    refine pure_ (i := 2) (N := some 13) (v := ?_) (a' := ?_) #[t_, t_, t_, f_, f_, f_, f_, f_, f_, f_, f_] rfl rfl (any_of HT_.out (by kernel_rfl)) (fun _ _ _ h => h) (Or.inl ⟨by rfl, ?_⟩) ?_ ?_
    rotate_left
    · intro w'
      go_simp
      with_reducible rfl
    rotate_left
    · simp only [Act.put, List.setIfInBounds_toArray, List.set_cons_zero, List.set_cons_succ, i64_w, i32_w]
      rfl
    refine pure_ (i := 4) (N := some 15) (v := ?_) (a' := ?_) #[t_, t_, t_, f_, t_, f_, f_, f_, f_, f_, f_] rfl rfl (any_of HT_.out (by kernel_rfl)) (fun _ _ _ h => h) (Or.inl ⟨by rfl, ?_⟩) ?_ ?_
    rotate_left
    · intro w'
      go_simp
      with_reducible rfl
    rotate_left
    · simp only [Act.put, List.setIfInBounds_toArray, List.set_cons_zero, List.set_cons_succ, i64_w, i32_w]
      rfl
    refine pure_ (i := 5) (N := some 16) (v := ?_) (a' := ?_) #[t_, t_, t_, f_, t_, t_, f_, f_, f_, f_, f_] rfl rfl (any_of HT_.out (by kernel_rfl)) (fun _ _ _ h => h) (Or.inl ⟨by rfl, ?_⟩) ?_ ?_
    rotate_left
    · intro w'
      go_simp
      with_reducible rfl
    rotate_left
    · simp only [Act.put, List.setIfInBounds_toArray, List.set_cons_zero, List.set_cons_succ, i64_w, i32_w]
      rfl
    refine pure_ (i := 6) (N := some 17) (v := ?_) (a' := ?_) #[t_, t_, t_, f_, t_, t_, t_, f_, f_, f_, f_] rfl rfl (any_of HT_.out (by kernel_rfl)) (fun _ _ _ h => h) (Or.inl ⟨by rfl, ?_⟩) ?_ ?_
    rotate_left
    · intro w'
      go_simp
      with_reducible rfl
    rotate_left
    · simp only [Act.put, List.setIfInBounds_toArray, List.set_cons_zero, List.set_cons_succ, i64_w, i32_w]
      rfl
    refine take_ (i := 3) (N := some 14) (v := ?_) (a' := ?_) #[t_, t_, t_, t_, t_, t_, t_, f_, f_, f_, f_] rfl rfl (take_ofW HT_.out HW_.out (by kernel_rfl)) (fun _ _ _ h => h) (Or.inl ⟨by rfl, ?_⟩) hHeld ?_ ?_
    rotate_left
    · intro w' s0
      obtain ⟨s1, s2⟩ := s0
      go_simp
      with_reducible rfl
    rotate_left
    · simp only [Act.put, List.setIfInBounds_toArray, List.set_cons_zero, List.set_cons_succ, i64_w, i32_w]
      rfl
    refine take_ (i := 7) (N := some 18) (v := ?_) (a' := ?_) #[t_, t_, t_, t_, t_, t_, t_, t_, f_, f_, f_] rfl rfl (take_ofW HT_.out HW_.out (by kernel_rfl)) (fun _ _ _ h => h) (Or.inl ⟨by rfl, ?_⟩) hHeld ?_ ?_
    rotate_left
    · intro w' s0
      obtain ⟨s1, s2⟩ := s0
      go_simp
      with_reducible rfl
    rotate_left
    · simp only [Act.put, List.setIfInBounds_toArray, List.set_cons_zero, List.set_cons_succ, i64_w, i32_w]
      rfl
    refine pure_ (i := 8) (N := some 19) (v := ?_) (a' := ?_) #[t_, t_, t_, t_, t_, t_, t_, t_, t_, f_, f_] rfl rfl (any_of HT_.out (by kernel_rfl)) (fun _ _ _ h => h) (Or.inl ⟨by rfl, ?_⟩) ?_ ?_
    rotate_left
    · intro w'
      go_simp
      with_reducible rfl
    rotate_left
    · simp only [Act.put, List.setIfInBounds_toArray, List.set_cons_zero, List.set_cons_succ, i64_w, i32_w]
      rfl
    refine pure_ (i := 9) (N := some 20) (v := ?_) (a' := ?_) #[t_, t_, t_, t_, t_, t_, t_, t_, t_, t_, f_] rfl rfl (any_of HT_.out (by kernel_rfl)) (fun _ _ _ h => h) (Or.inl ⟨by rfl, ?_⟩) ?_ ?_
    rotate_left
    · intro w'
      go_simp
      with_reducible rfl
    rotate_left
    · simp only [Act.put, List.setIfInBounds_toArray, List.set_cons_zero, List.set_cons_succ, i64_w, i32_w]
      rfl
    refine one_ (i := 10) (N := some 21) #[t_, t_, t_, t_, t_, t_, t_, t_, t_, t_, t_] rfl rfl (one_of HT_.out (by kernel_rfl)) (by decide) (fun K hK => ?_)
    refine goes_ Tryd.func79 (by kernel_rfl) rfl #[.string (s.extract i s.size), .string ⟨#[45, 62]⟩] (by rfl) rfl rfl (by (try simp only [List.map_toArray, List.map_cons, List.map_nil]); first | done | rfl | (simp only [List.length_drop, List.length_take]; rfl)) ?_
    refine (pre_c (s.extract i s.size) ⟨#[45, 62]⟩ (by decide) HZ.out _).mono ?_
    rintro e Wy ⟨rfl, rfl⟩
    have HS_ := show _ ∧ _ from cw2 HGq.out
    refine ⟨_, rfl, ?_⟩
    refine hK.out _ _ HS_ (fun hHeld => ?_)
    clear hK K
    refine norm_ (a' := ?_) ?_ ?_
    rotate_left
    · show Act.put _ (some 21) _ = _
      simp only [Act.put, List.setIfInBounds_toArray, List.set_cons_zero, List.set_cons_succ, i64_w, i32_w]
      rfl
    refine done_ (done_of HT_.out (by kernel_rfl)) ?_
    have HG := HGq
    have HB := HBq
    have HKe := HKq
    clear HGq HBq HKq
    rw [b2 s i 45 62 HI.out.1]
    by_cases hb : (decide (i + 1 < s.size) && (by_ s i == (45 : UInt8).toNat && by_ s (i + 1) == (62 : UInt8).toNat)) = true
    ·
      have HP := Aside0.mk hb
      simp only [Bool.and_eq_true, decide_eq_true_eq, beq_iff_eq] at hb
      have SG := Aside0.mk (show sgn s i = 2 by unfold sgn; rw [if_pos (by simp [pair, hb.1, hb.2.1, hb.2.2])])
      have LI := Aside0.mk (lit2 s i 45 62 hb.1 hb.2.1 hb.2.2)
      have HL := Aside0.mk hb.1
      rw [HP.out]
      have k0 := (cw2 HG.out).1
      have k1' := (cw2 HG.out).2
      have f1 := blk_frozen HG.out 1
      clear hb
      go_wp2_with (fail)
      (try simp only [Exit.inBlock, Exit.then])
      go_ret2
      rw [SG.out, ← LI.out]
      refine ⟨rfl, ?_, HKe.out.set_ 1 _, below_set HB.out (by have := HI.out; omega)⟩
      have e : wrap64 ((i : Int) + 2) = ((i + 2 : Nat) : Int) := by have := HI.out; unfold wrap64; omega
      exact blk_put HG.out 1 _ (by rw [← e]; rfl)
    · have hb' : (decide (i + 1 < s.size) && (by_ s i == (45 : UInt8).toNat && by_ s (i + 1) == (62 : UInt8).toNat)) = false := by simpa using hb
      have NP := Aside0.mk (show pair s i = false by
        have h1 := N1.out
        unfold pair
        cases hd : decide (i + 1 < s.size) with
        | false => rfl
        | true =>
          rw [hd, Bool.true_and] at h1 hb'
          rw [Bool.true_and]
          exact Bool.or_eq_false_iff.2 ⟨h1, hb'⟩)
      rw [hb']
      clear hb hb' N1
      go_wp2_with (fail)
      rw [rounds_succ]
      go_wp2_with (fail)
      have HGq := Aside0.mk (blk_drew HG.out)
      have HBq := Aside0.mk (below_drew1 HB.out)
      have HKq := Aside0.mk (keep_drew HKe.out)
      have k0 := (cw2 HG.out).1
      have k1' := (cw2 HG.out).2
      refine start_ (n := 10) (S := (fun w' => w'.cell? ⟨g, 0, none⟩ = some (.string s) ∧ w'.cell? ⟨g, 1, none⟩ = some (.int .i64 (i : Int)))) (ds := []) #[f_, f_, f_, f_, f_, f_, f_, f_, f_, f_] (by kernel_rfl) rfl rfl (⟨k0, k1'⟩) (fun hHeld => ?_); refine with_tabW sreg8.tab sreg8.bits (fun HT_ HW_ => ?_)
      clear k0 k1' HG HB HKe
      generalize Wy.drew = Wz at HGq HBq HKq hHeld ⊢
      refine pure_ (i := 0) (N := some 33) (v := ?_) (a' := ?_) #[t_, f_, f_, f_, f_, f_, f_, f_, f_, f_] rfl rfl (any_of HT_.out (by kernel_rfl)) (fun _ _ _ h => h) (Or.inl ⟨by rfl, ?_⟩) ?_ ?_
      rotate_left
      · intro w'
        go_simp
        with_reducible rfl
      rotate_left
      · simp only [Act.put, List.setIfInBounds_toArray, List.set_cons_zero, List.set_cons_succ, i64_w, i32_w]
        rfl
      refine pure_ (i := 1) (N := some 34) (v := ?_) (a' := ?_) #[t_, t_, f_, f_, f_, f_, f_, f_, f_, f_] rfl rfl (any_of HT_.out (by kernel_rfl)) (fun _ _ _ h => h) (Or.inl ⟨by rfl, ?_⟩) ?_ ?_
      rotate_left
      · intro w'
        go_simp
        with_reducible rfl
      rotate_left
      · simp only [Act.put, List.setIfInBounds_toArray, List.set_cons_zero, List.set_cons_succ, i64_w, i32_w]
        rfl
      refine pure_ (i := 2) (N := some 35) (v := ?_) (a' := ?_) #[t_, t_, t_, f_, f_, f_, f_, f_, f_, f_] rfl rfl (any_of HT_.out (by kernel_rfl)) (fun _ _ _ h => h) (Or.inl ⟨by rfl, ?_⟩) ?_ ?_
      rotate_left
      · intro w'
        go_simp
        with_reducible rfl
      rotate_left
      · simp only [Act.put, List.setIfInBounds_toArray, List.set_cons_zero, List.set_cons_succ, i64_w, i32_w]
        rfl
      refine pure_ (i := 4) (N := some 37) (v := ?_) (a' := ?_) #[t_, t_, t_, f_, t_, f_, f_, f_, f_, f_] rfl rfl (any_of HT_.out (by kernel_rfl)) (fun _ _ _ h => h) (Or.inl ⟨by rfl, ?_⟩) ?_ ?_
      rotate_left
      · intro w'
        go_simp
        with_reducible rfl
      rotate_left
      · simp only [Act.put, List.setIfInBounds_toArray, List.set_cons_zero, List.set_cons_succ, i64_w, i32_w]
        rfl
      refine pure_ (i := 5) (N := some 38) (v := ?_) (a' := ?_) #[t_, t_, t_, f_, t_, t_, f_, f_, f_, f_] rfl rfl (any_of HT_.out (by kernel_rfl)) (fun _ _ _ h => h) (Or.inl ⟨by rfl, ?_⟩) ?_ ?_
      rotate_left
      · intro w'
        go_simp
        with_reducible rfl
      rotate_left
      · simp only [Act.put, List.setIfInBounds_toArray, List.set_cons_zero, List.set_cons_succ, i64_w, i32_w]
        rfl
      refine pure_ (i := 6) (N := some 39) (v := ?_) (a' := ?_) #[t_, t_, t_, f_, t_, t_, t_, f_, f_, f_] rfl rfl (any_of HT_.out (by kernel_rfl)) (fun _ _ _ h => h) (Or.inl ⟨by rfl, ?_⟩) ?_ ?_
      rotate_left
      · intro w'
        go_simp
        with_reducible rfl
      rotate_left
      · simp only [Act.put, List.setIfInBounds_toArray, List.set_cons_zero, List.set_cons_succ, i64_w, i32_w]
        rfl
      refine take_ (i := 3) (N := some 36) (v := ?_) (a' := ?_) #[t_, t_, t_, t_, t_, t_, t_, f_, f_, f_] rfl rfl (take_ofW HT_.out HW_.out (by kernel_rfl)) (fun _ _ _ h => h) (Or.inl ⟨by rfl, ?_⟩) hHeld ?_ ?_
      rotate_left
      · intro w' s0
        obtain ⟨s1, s2⟩ := s0
        go_simp
        with_reducible rfl
      rotate_left
      · simp only [Act.put, List.setIfInBounds_toArray, List.set_cons_zero, List.set_cons_succ, i64_w, i32_w]
        rfl
      refine take_ (i := 7) (N := some 40) (v := ?_) (a' := ?_) #[t_, t_, t_, t_, t_, t_, t_, t_, f_, f_] rfl rfl (take_ofW HT_.out HW_.out (by kernel_rfl)) (fun _ _ _ h => h) (Or.inl ⟨by rfl, ?_⟩) hHeld ?_ ?_
      rotate_left
      · intro w' s0
        obtain ⟨s1, s2⟩ := s0
        go_simp
        with_reducible rfl
      rotate_left
      · simp only [Act.put, List.setIfInBounds_toArray, List.set_cons_zero, List.set_cons_succ, i64_w, i32_w]
        rfl
      refine pure_ (i := 8) (N := some 41) (v := ?_) (a' := ?_) #[t_, t_, t_, t_, t_, t_, t_, t_, t_, f_] rfl rfl (any_of HT_.out (by kernel_rfl)) (fun _ _ _ h => h) (Or.inl ⟨by rfl, ?_⟩) ?_ ?_
      rotate_left
      · intro w'
        go_simp
        with_reducible rfl
      rotate_left
      · simp only [Act.put, List.setIfInBounds_toArray, List.set_cons_zero, List.set_cons_succ, i64_w, i32_w]
        rfl
      refine pure_ (i := 9) (N := some 6) (v := ?_) (a' := ?_) #[t_, t_, t_, t_, t_, t_, t_, t_, t_, t_] rfl rfl (any_of HT_.out (by kernel_rfl)) (fun _ _ _ h => h) (Or.inl ⟨by rfl, ?_⟩) ?_ ?_
      rotate_left
      · intro w'
        go_simp
        with_reducible rfl
      rotate_left
      · simp only [Act.put, List.setIfInBounds_toArray, List.set_cons_zero, List.set_cons_succ, i64_w, i32_w]
        rfl
      refine done_ (done_of HT_.out (by kernel_rfl)) ?_
      go_wp2_with (fail)
      refine (Tryd.strings_IndexByte _ _ _).mono ?_
      rintro e Wt ⟨rfl, rfl⟩
      have hx := sign_all ⟨by_ s i, by rw [BY.out]; exact UInt8.toNat_lt _⟩
      simp only at hx
      have hc : ((((s[i]'hi).toNat : Nat) : Int).toNat.toUInt8) = UInt8.ofNat (by_ s i) := by rw [BY.out]; rfl
      rw [hc]
      rw [← BY.out]
      obtain ⟨r, hr⟩ : ∃ r, Lib.indexByte [123, 125, 40, 41, 59, 44, 46, 58, 61, 60, 43, 45, 42, 47, 124, 38] (UInt8.ofNat (by_ s i)) = r := ⟨_, rfl⟩
      rw [hr] at hx
      rw [show Lib.indexByte (⟨#[123, 125, 40, 41, 59, 44, 46, 58, 61, 60, 43, 45, 42, 47, 124, 38]⟩ : ByteArray).data.toList (UInt8.ofNat (by_ s i)) = r from hr]
      clear hr hc
      by_cases hsg : sign (by_ s i) = true
      · have d : decide (r < 0) = false := decide_eq_false (fun h => by rw [hx.1 h] at hsg; cases hsg)
        have SG := Aside0.mk (show sgn s i = 1 by unfold sgn; rw [NP.out, if_neg (by simp), if_pos hsg])
        have HC := Aside0.mk (sign_lt (show by_ s i < 256 by rw [BY.out]; exact UInt8.toNat_lt _) hsg)
        have k0 := (cw2 HGq.out).1
        have k1' := (cw2 HGq.out).2
        have f1 := blk_frozen HGq.out 1
        clear hx hsg
        go_wp2_with (fail)
        go_ret2
        have e1 : Utf8.encode (wrap32 ((by_ s i : Nat) : Int)) = s.extract i (i + 1) := by
          rw [enc_all ⟨by_ s i, HC.out⟩]
          exact lit1 s i _ HI.out.1 (by rw [UInt8.toNat_ofNat_of_lt']; have := HC.out; show by_ s i < 256; omega)
        rw [SG.out]
        refine ⟨?_, ?_, HKq.out.set_ 1 _, below_set HBq.out (by have := HI.out; omega)⟩
        · show Ending.returned (.tuple #[.string (Utf8.encode (wrap32 ((by_ s i : Nat) : Int))), .bool true]) = _
          rw [e1]; rfl
        have e : wrap64 ((i : Int) + 1) = ((i + 1 : Nat) : Int) := by have := HI.out; unfold wrap64; omega
        exact blk_put HGq.out 1 _ (by rw [← e]; rfl)
      · have hsg' : sign (by_ s i) = false := by simpa using hsg
        have d : decide (r < 0) = true := decide_eq_true (hx.2 hsg')
        have SG := Aside0.mk (show sgn s i = 0 by unfold sgn; rw [NP.out, if_neg (by simp), if_neg hsg])
        have LI := Aside0.mk (lit0 s i)
        clear hx hsg hsg'
        go_wp2_with (fail)
        go_ret2
        rw [SG.out, Nat.add_zero, ← LI.out]
        exact ⟨rfl, HGq.out, HKq.out, HBq.out⟩
end Go.Proofs.YtifjmokilbijlaaDoor.PLex
