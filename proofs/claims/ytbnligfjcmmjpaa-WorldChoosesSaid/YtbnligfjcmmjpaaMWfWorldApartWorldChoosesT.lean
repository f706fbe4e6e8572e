import Derived.Test.YtbnligfjcmmjpaaPWfWorldApartx1
import Derived.Test.YtbnligfjcmmjpaaPWfWorldApartx2
import Derived.Test.YtbnligfjcmmjpaaMWfWorldApartWorldT
namespace Go.Proofs.Ytbnligfjcmmjpaa.PWfWorldApart
open Go Go.RowKit Go.Proofs.YtbnligfjcmmjpaaW.PrintWords Go.Proofs.YtbnligfjcmmjpaaW.PrintLast Go.Proofs.YtbnligfjcmmjpaaW.PrintMore
attribute [local go_sem] max2_int min2_int max_two min_two max_three min_three max_four min_four
set_option linter.unusedVariables false
set_option linter.unusedSimpArgs false
theorem ref_cell0 {W : World} {g n c : Nat} {A : Option Addr} {u : Int} (h : W.heap[g]? = some (.cells #[.slice A n c, .int .i64 u] 28 (0, 0))) : W.cell? ⟨g, 0, none⟩ = some (.slice A n c) := (blk_cell h 0).trans rfl
theorem ref_cell1 {W : World} {g n c : Nat} {A : Option Addr} {u : Int} (h : W.heap[g]? = some (.cells #[.slice A n c, .int .i64 u] 28 (0, 0))) : W.cell? ⟨g, 1, none⟩ = some (.int .i64 u) := (blk_cell h 1).trans rfl
set_option maxHeartbeats 2000000 in
set_option maxRecDepth 100000 in
theorem ref_mid (g : Nat) (ad : Addr) (n c : Nat) (u x a1 : Int) (w0 w : World) (hB : Below w0.heap.size w0 w) (hge : w0.heap.size ≤ g) (hg : w.heap[g]? = some (.cells #[.slice (some ad) (n + 1) c, .int .i64 u] 28 (0, 0))) (hc : n + 1 ≤ c) (hx : w.cell? ad = some (.int .i64 x)) (h1 : 1 ≤ a1) (h0 : 0 ≤ Int.tmod x a1) :
    Calls Try.prog 18 #[.pointer (some ⟨g, 0, none⟩), .int .i64 a1] w fun e w' => e = .returned (.int .i64 (Int.tmod x a1)) ∧ ∃ ad' c', w'.heap[g]? = some (.cells #[.slice (some ad') n c', .int .i64 (wrap64 (u + 1))] 28 (0, 0)) ∧ (0 < n → ad' = ad.add 1) ∧ n ≤ c' ∧ KeepBut w w' g none ∧ Below w0.heap.size w0 w' := by
  have HG := Aside0.mk hg
  have HB := Aside0.mk hB
  have k0 := ref_cell0 hg
  have k1 := ref_cell1 hg
  have f0 := blk_frozen hg 0
  have f1 := blk_frozen hg 1
  have d1 : decide (a1 < 1) = false := decide_eq_false (by omega)
  have d2 : (((n + 1 : Nat) : Int) == 0) = false := by simp; omega
  have d3 : (a1 == 0) = false := by simp; omega
  have d4 : decide (Int.tmod x a1 < 0) = false := decide_eq_false (by omega)
  clear hg hB
  go_enter Try.func18, Try.ntmps18
  go_wp2_with (fail)
  all_goals go_ret
  all_goals refine ⟨rfl, _, _, blk_set (blk_set HG.out 0 _) 1 _, ?_, ?_, ((KeepBut.refl w g none).set_ 0 _).set_ 1 _, below_set (below_set HB.out hge) hge⟩
  all_goals first | omega | (intro _; first | rfl | (exfalso; omega))
set_option maxHeartbeats 2000000 in
set_option maxRecDepth 100000 in
theorem ref_neg (g : Nat) (ad : Addr) (n c : Nat) (u x a1 : Int) (w0 w : World) (hB : Below w0.heap.size w0 w) (hge : w0.heap.size ≤ g) (hg : w.heap[g]? = some (.cells #[.slice (some ad) (n + 1) c, .int .i64 u] 28 (0, 0))) (hc : n + 1 ≤ c) (hx : w.cell? ad = some (.int .i64 x)) (h1 : 1 ≤ a1) (h0 : Int.tmod x a1 < 0) :
    Calls Try.prog 18 #[.pointer (some ⟨g, 0, none⟩), .int .i64 a1] w fun e w' => e = .returned (.int .i64 (wrap64 (Int.tmod x a1 + a1))) ∧ ∃ ad' c', w'.heap[g]? = some (.cells #[.slice (some ad') n c', .int .i64 (wrap64 (u + 1))] 28 (0, 0)) ∧ (0 < n → ad' = ad.add 1) ∧ n ≤ c' ∧ KeepBut w w' g none ∧ Below w0.heap.size w0 w' := by
  have HG := Aside0.mk hg
  have HB := Aside0.mk hB
  have k0 := ref_cell0 hg
  have k1 := ref_cell1 hg
  have f0 := blk_frozen hg 0
  have f1 := blk_frozen hg 1
  have d1 : decide (a1 < 1) = false := decide_eq_false (by omega)
  have d2 : (((n + 1 : Nat) : Int) == 0) = false := by simp; omega
  have d3 : (a1 == 0) = false := by simp; omega
  have d4 : decide (Int.tmod x a1 < 0) = true := decide_eq_true (by omega)
  clear hg hB
  go_enter Try.func18, Try.ntmps18
  go_wp2_with (fail)
  all_goals go_ret
  all_goals refine ⟨rfl, _, _, blk_set (blk_set HG.out 0 _) 1 _, ?_, ?_, ((KeepBut.refl w g none).set_ 0 _).set_ 1 _, below_set (below_set HB.out hge) hge⟩
  all_goals first | omega | (intro _; first | rfl | (exfalso; omega))
set_option maxHeartbeats 2000000 in
set_option maxRecDepth 100000 in
theorem ref_low (g : Nat) (a1 : Int) (w : World) (h1 : a1 < 1) :
    Calls Try.prog 18 #[.pointer (some ⟨g, 0, none⟩), .int .i64 a1] w fun e w' => e = .returned (.int .i64 0) ∧ w' = w := by
  have d1 : decide (a1 < 1) = true := decide_eq_true h1
  go_enter Try.func18, Try.ntmps18
  go_wp2_with (fail)
  go_ret
  exact ⟨rfl, rfl⟩
set_option maxHeartbeats 2000000 in
set_option maxRecDepth 100000 in
theorem ref_end (g : Nat) (A : Option Addr) (c : Nat) (u a1 : Int) (w : World) (hg : w.heap[g]? = some (.cells #[.slice A 0 c, .int .i64 u] 28 (0, 0))) :
    Calls Try.prog 18 #[.pointer (some ⟨g, 0, none⟩), .int .i64 a1] w fun e w' => e = .returned (.int .i64 0) ∧ w' = w := by
  by_cases h1 : a1 < 1
  · exact ref_low g a1 w h1
  · have d1 : decide (a1 < 1) = false := decide_eq_false h1
    have k0 := ref_cell0 hg
    go_enter Try.func18, Try.ntmps18
    go_wp2_with (fail)
    go_ret
    exact ⟨rfl, rfl⟩
def Rf (w W : World) (g : Nat) (l : List Int) (u : Nat) : Prop := ∃ A c, W.heap[g]? = some (.cells #[.slice A (l.length - u) c, .int .i64 (u : Int)] 28 (0, 0)) ∧ l.length - u ≤ c ∧ (u < l.length → ∃ ad : Addr, A = some ad ∧ ∀ j : Nat, u + j < l.length → w.cell? (ad.add j) = some (.int .i64 (rd l ((u + j : Nat) : Int))))
theorem tmod_neg' {v n : Int} (hn : 1 ≤ n) : -n < Int.tmod v n ∧ Int.tmod v n < n := by
  have h1 := Int.tmod_lt_of_pos v (show 0 < n by omega)
  have h2 := Int.tmod_lt_of_pos (-v) (show 0 < n by omega)
  rw [Int.neg_tmod] at h2
  omega
theorem add_zero' (ad : Addr) : ad.add 0 = ad := by cases ad; rfl
theorem add_one' (ad : Addr) (j : Nat) : (ad.add 1).add j = ad.add (1 + j) := by simp [Addr.add, Nat.add_assoc]
theorem rf_step {w W : World} {g : Nat} {l : List Int} {u : Nat} (hu : u < l.length) (hl : l.length ≤ 1000) {ad : Addr} (hc : ∀ j : Nat, u + j < l.length → w.cell? (ad.add j) = some (.int .i64 (rd l ((u + j : Nat) : Int)))) {m : Nat} (hm : l.length - u = m + 1) {ad' : Addr} {c' : Nat}
    (hg : W.heap[g]? = some (.cells #[.slice (some ad') m c', .int .i64 (wrap64 ((u : Int) + 1))] 28 (0, 0))) (ha : 0 < m → ad' = ad.add 1) (hmc : m ≤ c') : Rf w W g l (u + 1) := by
  have e : l.length - (u + 1) = m := by omega
  rw [wsucc u (by omega)] at hg
  refine ⟨some ad', c', by rw [e]; exact hg, by omega, fun h => ⟨ad', rfl, fun j hj => ?_⟩⟩
  rw [ha (by omega), add_one']
  have := hc (1 + j) (by omega)
  rw [this]
  congr 3
  omega
theorem both (l : List Int) (hl : l.length ≤ 1000) (u : Nat) (hu : u ≤ l.length) (n : Int) (hn : n ≤ 9223372036854775807) : ∃ (k : Nat) (r : Int) (u' : Nat), u' ≤ l.length ∧ world_World_Choose.f k l (u : Int) n = some (r, (u' : Int)) ∧ (0 < n → 0 ≤ r ∧ r < n) ∧
    ∀ (w W : World) (g : Nat), Below w.heap.size w W → w.heap.size ≤ g → Rf w W g l u → Calls Try.prog 18 #[.pointer (some ⟨g, 0, none⟩), .int .i64 n] W fun e W' => e = .returned (.int .i64 r) ∧ Rf w W' g l u' ∧ KeepBut W W' g none ∧ Below w.heap.size w W' := by
  by_cases h1 : n < 1
  · obtain ⟨k, hk⟩ := Ev.rounds (World21.choose_low l (u : Int) n h1)
    refine ⟨k, _, u, hu, hk, fun h => by omega, fun w W g hB hg hR => (ref_low g n W h1).mono ?_⟩
    rintro e W' ⟨rfl, rfl⟩
    exact ⟨rfl, hR, KeepBut.refl _ _ _, hB⟩
  · by_cases he : u = l.length
    · subst he
      obtain ⟨k, hk⟩ := Ev.rounds (World21.choose_end l n)
      refine ⟨k, _, _, hu, hk, fun h => by omega, fun w W g hB hg hR => ?_⟩
      obtain ⟨A, c, hb, hc, hr⟩ := hR
      rw [Nat.sub_self] at hb
      refine (ref_end g A c _ n W hb).mono ?_
      rintro e W' ⟨rfl, rfl⟩
      exact ⟨rfl, ⟨A, c, by rw [Nat.sub_self]; exact hb, hc, hr⟩, KeepBut.refl _ _ _, hB⟩
    · have hlt : u < l.length := by omega
      obtain ⟨m, hm⟩ : ∃ m, l.length - u = m + 1 := ⟨l.length - u - 1, by omega⟩
      have hb := tmod_neg' (v := rd l (u : Int)) (n := n) (by omega)
      by_cases ht : Int.tmod (rd l u) n < 0
      · obtain ⟨k, hk⟩ := Ev.rounds (World21.choose_neg l u n (by omega) hlt (by omega) ht)
        have hw : wrap64 (Int.tmod (rd l (u : Int)) n + n) = Int.tmod (rd l (u : Int)) n + n := w64 (by omega) (by omega)
        refine ⟨k, _, u + 1, by omega, hk, fun h => by rw [hw]; omega, fun w W g hB hg hR => ?_⟩
        obtain ⟨A, c, hbk, hc, hr⟩ := hR
        obtain ⟨ad, rfl, hcell⟩ := hr hlt
        rw [hm] at hbk hc
        have hx := hcell 0 (by omega)
        rw [add_zero'] at hx
        refine (ref_neg g ad m c (u : Int) (rd l (u : Int)) n w W hB hg hbk hc (pw_cell_below hB hx) (by omega) ht).mono ?_
        rintro e W' ⟨rfl, ad', c', h2, h3, h4, h5, h6⟩
        exact ⟨rfl, rf_step hlt hl hcell hm h2 h3 h4, h5, h6⟩
      · obtain ⟨k, hk⟩ := Ev.rounds (World21.choose_mid l u n (by omega) hlt (by omega) (by omega))
        refine ⟨k, _, u + 1, by omega, hk, fun h => by omega, fun w W g hB hg hR => ?_⟩
        obtain ⟨A, c, hbk, hc, hr⟩ := hR
        obtain ⟨ad, rfl, hcell⟩ := hr hlt
        rw [hm] at hbk hc
        have hx := hcell 0 (by omega)
        rw [add_zero'] at hx
        refine (ref_mid g ad m c (u : Int) (rd l (u : Int)) n w W hB hg hbk hc (pw_cell_below hB hx) (by omega) (by omega)).mono ?_
        rintro e W' ⟨rfl, ad', c', h2, h3, h4, h5, h6⟩
        exact ⟨rfl, rf_step hlt hl hcell hm h2 h3 h4, h5, h6⟩
theorem awake_k : ∃ k, ballcocklaw21_awake.f k = some true := Ev.rounds World21.awake_ev
theorem choose_any (l : List Int) (hl : l.length ≤ 10000) (u : Nat) (hu : u ≤ l.length) (n : Int) : ∃ (k : Nat) (r : Int) (u' : Nat), u' ≤ l.length ∧ world_World_Choose.f k l (u : Int) n = some (r, (u' : Int)) := by
  by_cases hn : n < 1
  · obtain ⟨k, hk⟩ := Ev.rounds (World21.choose_low l (u : Int) n hn)
    exact ⟨k, _, u, hu, hk⟩
  · by_cases he : u = l.length
    · subst he
      obtain ⟨k, hk⟩ := Ev.rounds (World21.choose_end l n)
      exact ⟨k, _, _, hu, hk⟩
    · by_cases ht : Int.tmod (rd l u) n < 0
      · obtain ⟨k, hk⟩ := Ev.rounds (World21.choose_neg l u n (by omega) (by omega) hl ht)
        exact ⟨k, _, u + 1, by omega, hk⟩
      · obtain ⟨k, hk⟩ := Ev.rounds (World21.choose_mid l u n (by omega) (by omega) hl (by omega))
        exact ⟨k, _, u + 1, by omega, hk⟩
/-- What holds may grow on the way. -/
theorem more_ {P : Program} {md : Region.Mode} {ops : Array Oper} {Q : Exit → Act → World → Prop} {S S2 : World → Prop} (h21 : ∀ w, S2 w → S w) : ∀ (fuel : Nat) (l : Array Bool) (a : Act) (w : World), S2 w → wpAnyLast P md ops Q S2 [] fuel l a w → wpAnyLast P md ops Q S [] fuel l a w
  | 0, _, _, _, _, h => h
  | fuel + 1, _, _, _, hs, h => ⟨h.1, fun i hi => wpOp_mono (fun a' w' h' => ⟨fun _ _ => h21 _ (h'.1 (by simp) hs), more_ h21 fuel _ a' w' (h'.1 (by simp) hs) h'.2⟩) (h.2 i hi)⟩
def reg13.T : Bool × List (List Nat × List Nat) := (true, [([], []), ([], []), ([], []), ([], []), ([2, 3], [2, 3]), ([4], [4]), ([1, 5], [1, 5]), ([0, 6], [0, 6]), ([7, 6], [7]), ([8], [8]), ([9, 8, 8], [8, 9]), ([8], [8]), ([11, 8], [8, 11]), ([12, 8], [8, 12]), ([13, 8], [8, 13]), ([10, 14, 8], [8, 10, 14]), ([8, 15], [8, 15]), ([16, 10], [16]), ([17], [17]), ([18, 17, 17], [17, 18]), ([17], [17]), ([20, 17], [17, 20]), ([21, 17], [17, 21]), ([22, 17], [17, 22]), ([23, 17], [17, 23]), ([19, 24, 17], [17, 19, 24]), ([17, 25], [17, 25]), ([26, 19], [26]), ([27], [27]), ([27], [27]), ([28, 29, 27], [27, 28, 29]), ([30, 27], [27, 30]), ([31, 27], [27, 31]), ([32, 27, 27], [27, 32]), ([33], [33]), ([34, 33], [33, 34]), ([35, 33, 33], [33, 35]), ([36], [36]), ([36], [36]), ([36], [36]), ([38, 39, 36], [36, 38, 39]), ([40, 36], [36, 40]), ([37, 41, 36], [36, 37, 41]), ([36, 42, 33], [33, 36, 42]), ([33, 43, 27], [27, 33, 43]), ([27, 44], [27, 44])])
def reg13.B : List Nat := [0, 0, 0, 0, 12, 28, 62, 127, 255, 511, 1023, 511, 2559, 6655, 14847, 32767, 65535, 131071, 262143, 524287, 262143, 1310719, 3407871, 7602175, 15990783, 33554431, 67108863, 134217727, 268435455, 268435455, 1073741823, 2147483647, 4294967295, 8589934591, 17179869183, 34359738367, 68719476735, 137438953471, 137438953471, 137438953471, 962072674303, 2061584302079, 4398046511103, 8796093022207, 17592186044415, 35184372088831]
theorem reg13.tab : rtab .any (opsOf Try.f3 13) = reg13.T := by kernel_rfl
theorem reg13.bits : waitsOk reg13.T.2 reg13.B = true := by kernel_rfl
set_option maxHeartbeats 4000000 in
set_option maxRecDepth 100000 in
theorem chooses_main (A0 : Option Addr) (c0 : Nat) (l0 : List Int) (A1 : Option Addr) (c1 : Nat) (l1 : List Int) (w : World) (hr0 : Kd.C (Kd.int .i64) w A0 l0.length l0) (hc0 : l0.length ≤ c0) (hr1 : Kd.C (Kd.int .i64) w A1 l1.length l1) (hc1 : l1.length ≤ c1) (h0 : l0.length ≤ 60) (h1 : l1.length ≤ 60) (hz : ∀ i : Int, rd l1 i ≤ 9223372036854775807) :
    Calls Try.prog 3 #[.slice A0 l0.length c0, .slice A1 l1.length c1] w fun e w' => e = .returned (.bool true) ∧ Below w.heap.size w w' := by
  obtain ⟨ka, hka⟩ := awake_k
  have HR0 := Aside0.mk hr0
  have HR1 := Aside0.mk hr1
  have HC0 := Aside0.mk hc0
  clear hr0 hr1
  have d0 : decide (60 < (l0.length : Int)) = false := decide_eq_false (by omega)
  have d1 : decide (60 < (l1.length : Int)) = false := decide_eq_false (by omega)
  have H0 := Aside0.mk h0
  have H1 := Aside0.mk h1
  clear h0 h1
  obtain ⟨y101, hy101⟩ : ∃ y_ : List Int, y_ = (([] : List Int)) := ⟨_, rfl⟩
  have Ny101 := Aside0.mk hy101
  have LMc2 := Aside0.mk (show y101.length + l0.length < 17592186044416 by rw [hy101]; have := H0.out; simp; omega)
  clear hy101
  obtain ⟨y104, hy104⟩ : ∃ y_ : List Int, y_ = (y101 ++ l0) := ⟨_, rfl⟩
  have Ny104 := Aside0.mk hy104
  clear hy104
  go_enter Try.func3, Try.ntmps3
  go_wp2_with (fail)
  refine (ballcocklaw21_awake.calls ka true _ hka).mono ?_
  rintro e w1 ⟨rfl, hb1⟩
  have HB := Aside0.mk hb1
  clear hb1
  go_wp2_with (first | ((with_reducible refine gate_dst (N := 24) rfl ?_); refine Kd.R_lit (Kd.int .i64) _ 3 ?hg (N := 24) ?hd (xs := ([] : List Int)) (inner := []) (ok := fun _ => True) (okp := fun _ => True) ?hr ?hp (fun _ hk => hk) trivial (Below.refl _ _) (Nat.le_refl _) (by simp) ?_; (case hd => rfl); (case hg => rfl); (case hr => first | (go_simp; done) | (go_simp; rfl)); (case hp => exact (Reps.none _ _)); intro v102 w3 ho4 hb hg_ hnew_; clear hg_ hnew_; (first | rw [← Ny101.out] at ho4 | (simp only [Int.reduceToNat] at ho4; rw [← Ny101.out] at ho4)); have n0_ := Aside0.mk (Kd.R_lower ho4 (below_size (by repeat (first | (with_reducible first | exact HB.out | apply below_alloc | apply pw_below_drewN | apply below_drew1) | exact HB.out)))); have n1_ := Aside0.mk (below_step (by repeat (first | (with_reducible first | exact HB.out | apply below_alloc | apply pw_below_drewN | apply below_drew1) | exact HB.out)) hb); clear HB; have HO103 := n0_; have HB := n1_; clear n0_ n1_; clear hb ho4) | ((with_reducible refine gate_builtin (b := .append) (xs := #[.tmp 24, .tmp 25]) rfl ?_); at_builtin; refine Kd.R_append_rows (Kd.int .i64) (w0 := w) w.heap.size rfl (.tmp 24) (.tmp 25) 22 3 (.int .i64 0) 8 rfl Try.underlying22 info3 rfl (by decide) (by omega) v102 y101 l0 _ _ _ (fun _ => True) (fun _ => False) rfl rfl ?aO ?aR (fun _ _ h => h) (fun _ h => h.elim) ?aF ?aB ?aS ?aL ?_; (case aR => repeat (first | exact (Kd.C_below HR0.out HB.out) | (with_reducible refine Kd.C_alloc ?_ _) | (with_reducible refine Kd.C_drewN ?_ _) | (with_reducible refine Kd.C_drew ?_))); (case aB => exact (by repeat (first | (with_reducible first | exact HB.out | apply below_alloc | apply pw_below_drewN | apply below_drew1) | exact HB.out))); (case aF => exact (fun _ _ => trivial)); (case aO => exact (by (with_reducible repeat (first | apply Kd.R_alloc | apply Kd.R_drewN | apply Kd.R_drew)); exact HO103.out)); (case aS => exact (below_size (by repeat (first | (with_reducible first | exact HB.out | apply below_alloc | apply pw_below_drewN | apply below_drew1) | exact HB.out)))); (case aL => have := LMc2.out; omega); intro v105 w5 ho hb hg hat; rw [← Ny104.out] at ho; have n0_ := Aside0.mk (hb); have n1_ := Aside0.mk (ho); clear HB; clear HO103; have HB := n0_; have HO106 := n1_; clear n0_ n1_; clear ho hb hg hat))
  have e104 : y104 = l0 := by rw [Ny104.out, Ny101.out]; rfl
  have HO := Aside0.mk (show Kd.R (Kd.int .i64) 3 w5 w.heap.size (fun _ => True) v105 l0 from e104 ▸ HO106.out)
  clear HO106
  obtain ⟨A', c', rfl⟩ := Kd.R_slice HO.out
  refine (new_here A' c' l0 w5 (Kd.R_reads' HO.out).2.2 (Kd.R_reads' HO.out).2.1 (by have := H0.out; omega)).mono ?_
  rintro e w6 ⟨gw, rfl, hI6, hb6⟩
  have HB6 := Aside0.mk (below_step HB.out hb6)
  have HO6 := Aside0.mk (Kd.R_below (Kd.R_mono (ok' := fun k => k < w5.heap.size) (Kd.R_bound HO.out) (fun k hk => hk.2.2.1)) hb6)
  have HI6 := Aside0.mk hI6
  clear hI6 hb6
  go_wp2_with (fail)
  have HB7 := Aside0.mk (below_alloc HB6.out (.cells #[.slice A0 l0.length c0, .int .i64 0] 28))
  have HO7 := Aside0.mk (Kd.R_alloc HO6.out (.cells #[.slice A0 l0.length c0, .int .i64 0] 28))
  have HI7 := Aside0.mk (IsS86.alloc HI6.out (.cells #[.slice A0 l0.length c0, .int .i64 0] 28))
  have HG7 := Aside0.mk (show (w6.alloc (.cells #[.slice A0 l0.length c0, .int .i64 0] 28)).heap[w6.heap.size]? = some (.cells #[.slice A0 l0.length c0, .int .i64 0] 28 (0, 0)) by simpa using heap_alloc_new w6 _)
  have E1 := Aside0.mk (show w.heap.size ≤ w5.heap.size ∧ w5.heap.size ≤ gw ∧ gw < w6.heap.size from ⟨HB.out.size, HI6.out.ge, HI6.out.lt⟩)
  obtain ⟨gr, hgr⟩ : ∃ gr : Nat, w6.heap.size = gr := ⟨_, rfl⟩
  rw [hgr] at HG7 E1 ⊢
  obtain ⟨w7, hw7⟩ : ∃ w7 : World, w6.alloc (.cells #[.slice A0 l0.length c0, .int .i64 0] 28) = w7 := ⟨_, rfl⟩
  rw [hw7] at HB7 HO7 HI7 HG7 ⊢
  obtain ⟨kk, hkk⟩ : ∃ k : Nat, k = l0.length + 1 := ⟨_, rfl⟩
  go_loopg [8] kk (fun kq v8 w' => ∃ (i : Nat) (xs : List Int), v8 = .int .i64 (i : Int) ∧ Aside0 (i ≤ l0.length ∧ l0.length < i + kq ∧ xs.length = l0.length) ∧ Aside0 (kq ≤ kk) ∧ Aside0 (Below w.heap.size w w') ∧ Aside0 (Kd.R (Kd.int .i64) 3 w' w.heap.size (fun k => k < w5.heap.size) (.slice A' l0.length c') xs) ∧ Aside0 (IsS86 w5 w' gw l0 0) ∧ Aside0 (w'.heap[gr]? = some (.cells #[.slice A0 l0.length c0, .int .i64 0] 28 (0, 0))))
  case atStart => exact ⟨0, l0, rfl, ⟨by omega⟩, ⟨Nat.le_refl _⟩, HB7, HO7, HI7, HG7⟩
  case round =>
    obtain ⟨i, xs, rfl, HN, HK, HB, HO, HI, HG⟩ := hrel
    cases gk with
    | zero => exact absurd HN.out (by omega)
    | succ k1 =>
      by_cases hi : i < l0.length
      · have d2 : decide ((i : Int) < (l0.length : Int)) = true := decide_eq_true (by omega)
        have hN := HN.out
        have hE := E1.out
        obtain ⟨go, co, eo, gb, gl, cl, HGo⟩ := Kd.R_form HO.out (by omega)
        (first | cases eo | (injection eo with ea_ en_ ec_; (first | subst ea_ | (injection ea_ with ea_; subst ea_)); subst ec_; clear en_))
        have p1 : 0 ≤ (i : Int) := by omega
        have q1 : (i : Int) < (l0.length : Int) := by omega
        obtain ⟨hx, hf⟩ := Kd.R_celln (0 : Int) HO.out (i : Int) p1 q1
        simp only [Int.toNat_natCast] at hx hf
        have HP := Kd.R_putg HO.out (i : Int) (0 : Int)
        have p1' := eq_true p1
        have q1' := eq_true q1
        go_wp2_with (fail)
        simp only [Int.toNat_natCast] at HP
        have hgo : go < w5.heap.size := HO.out.1 go rfl
        have hL0 := H0.out
        go_roundg k1
        case measure => have := HK.out; omega
        case rel => exact ⟨i + 1, xs.set i 0, by first | rfl | (rw [wsucc i (by omega)]), ⟨by simp; omega⟩, ⟨by have := HK.out; omega⟩, ⟨below_set HB.out gb⟩, ⟨HP.1⟩, ⟨HI.out.frame ((KeepBut.refl wr go none).set_ i _) (.inl hgo)⟩, ⟨blk_far HG.out (by show gr ≠ go; omega) _⟩⟩
      · have d2 : decide ((i : Int) < (l0.length : Int)) = false := decide_eq_false (by omega)
        go_wp2_with (fail)
        obtain ⟨k2, hk2⟩ : ∃ k : Nat, k = l1.length + 1 := ⟨_, rfl⟩
        have RF0 : Rf w wr gr l0 0 := ⟨A0, c0, by simpa using HG.out, by have := HC0.out; omega, fun h => by
          have hr := HR0.out.2.2 h
          obtain ⟨ad, ea, hc⟩ := hr
          refine ⟨ad, ea, fun j hj => ?_⟩
          obtain ⟨ad2, e2, hx2⟩ := Kd.at_int HR0.out ((0 + j : Nat) : Int) (by omega) (by omega)
          rw [ea] at e2
          cases e2
          simpa using hx2⟩
        have HF := Aside0.mk RF0
        clear RF0
        go_loopg [9] k2 (fun kq v9 w' => ∃ (i u : Nat), v9 = .int .i64 (i : Int) ∧ Aside0 (i ≤ l1.length ∧ l1.length < i + kq ∧ u ≤ l0.length) ∧ Aside0 (kq ≤ k2) ∧ Aside0 (Below w.heap.size w w') ∧ Aside0 (IsS86 w5 w' gw l0 (u : Int)) ∧ Aside0 (Rf w w' gr l0 u))
        case atStart => exact ⟨0, 0, rfl, ⟨by omega⟩, ⟨Nat.le_refl _⟩, HB, HI, HF⟩
        case round =>
          obtain ⟨i2, u, rfl, HN2, HK2, HB2, HI2, HF2⟩ := hrel
          cases gk with
          | zero => exact absurd HN2.out (by omega)
          | succ k3 =>
            by_cases hi2 : i2 < l1.length
            · have d3 : decide ((i2 : Int) < (l1.length : Int)) = true := decide_eq_true (by omega)
              have hE := E1.out
              have hN2 := HN2.out
              have hL0 := H0.out
              have hL1 := H1.out
              have g5 : w.heap.size ≤ w5.heap.size := by omega
              have g6 : w.heap.size ≤ gr := by omega
              obtain ⟨q, r, u1, hu1, hch, hrn, href⟩ := both l0 (by omega) u (by omega) (rd l1 (i2 : Int)) (hz _)
              have p1 : 0 ≤ (i2 : Int) := by omega
              have q1 : (i2 : Int) < (l1.length : Int) := by omega
              obtain ⟨ad, e1, hx⟩ := Kd.at_int (Kd.C_below HR1.out HB2.out) (i2 : Int) p1 q1
              cases e1
              simp only [Int.toNat_natCast] at hx
              have p1' := eq_true p1
              have q1' := eq_true q1
              go_wp2_with (fail)
              refine (gen_Choose q gw l0 u (rd l1 (i2 : Int)) r u1 w5 w _ g5 HI2.out HB2.out hch).mono ?_
              rintro e wa ⟨rfl, hIa, hBa, hKa⟩
              have HIa := Aside0.mk hIa
              have HBa := Aside0.mk hBa
              have HFa : Aside0 (Rf w wa gr l0 u) := ⟨by
                obtain ⟨A, c, hb, h2, h3⟩ := HF2.out
                exact ⟨A, c, hKa.blk hb (by omega) (by simp), h2, h3⟩⟩
              clear hIa hBa hKa hx
              obtain ⟨ad2, e2, hx2⟩ := Kd.at_int (Kd.C_below HR1.out HBa.out) (i2 : Int) p1 q1
              cases e2
              simp only [Int.toNat_natCast] at hx2
              go_wp2_with (fail)
              go_wp2_with (fail)
              have hrr : (r != r) = false := by simp
              have huu : ((u1 : Int) != (u1 : Int)) = false := by simp
              have hw : (wrap64 ((l0.length : Int) - (u1 : Int)) != ((l0.length - u1 : Nat) : Int)) = false := by
                rw [w64 (by omega) (by omega)]
                simp only [bne_eq_false_iff_eq]
                omega
              by_cases hpos : 0 < rd l1 (i2 : Int)
              · have dp : decide (0 < rd l1 (i2 : Int)) = true := decide_eq_true hpos
                obtain ⟨r0, r1⟩ := hrn hpos
                have dr0 : decide (r < 0) = false := decide_eq_false (by omega)
                have dr1 : decide (rd l1 (i2 : Int) ≤ r) = false := decide_eq_false (by omega)
                have HBq := Aside0.mk (below_drew1 HBa.out)
                have HIq := Aside0.mk (IsS86.drew HIa.out)
                have HFq : Aside0 (Rf w wa.drew gr l0 u) := ⟨HFa.out⟩
                refine start_ (n := 46) (S := fun w' => w'.cell? (ad.add i2) = some (.int .i64 (rd l1 (i2 : Int)))) (ds := []) #[false, false, false, false, false, false, false, false, false, false, false, false, false, false, false, false, false, false, false, false, false, false, false, false, false, false, false, false, false, false, false, false, false, false, false, false, false, false, false, false, false, false, false, false, false, false] (by kernel_rfl) rfl rfl (hx2) (fun hHeld => ?_); refine with_tabW reg13.tab reg13.bits (fun HT_ HW_ => ?_)
                generalize wa.drew = wq at HBq HIq HFq hHeld ⊢
                refine pure_ (i := 0) (N := some 53) (v := ?_) (a' := ?_) #[true, false, false, false, false, false, false, false, false, false, false, false, false, false, false, false, false, false, false, false, false, false, false, false, false, false, false, false, false, false, false, false, false, false, false, false, false, false, false, false, false, false, false, false, false, false] rfl rfl (any_of HT_.out (by kernel_rfl)) (fun _ _ _ h => h) (Or.inl ⟨by rfl, ?_⟩) ?_ ?_
                rotate_left
                · intro w'
                  go_simp
                  with_reducible rfl
                rotate_left
                · simp only [Act.put, List.setIfInBounds_toArray, List.set_cons_zero, List.set_cons_succ, i64_w, i32_w]
                  rfl
                refine pure_ (i := 1) (N := some 54) (v := ?_) (a' := ?_) #[true, true, false, false, false, false, false, false, false, false, false, false, false, false, false, false, false, false, false, false, false, false, false, false, false, false, false, false, false, false, false, false, false, false, false, false, false, false, false, false, false, false, false, false, false, false] rfl rfl (any_of HT_.out (by kernel_rfl)) (fun _ _ _ h => h) (Or.inl ⟨by rfl, ?_⟩) ?_ ?_
                rotate_left
                · intro w'
                  go_simp
                  with_reducible rfl
                rotate_left
                · simp only [Act.put, List.setIfInBounds_toArray, List.set_cons_zero, List.set_cons_succ, i64_w, i32_w]
                  rfl
                refine pure_ (i := 2) (N := some 55) (v := ?_) (a' := ?_) #[true, true, true, false, false, false, false, false, false, false, false, false, false, false, false, false, false, false, false, false, false, false, false, false, false, false, false, false, false, false, false, false, false, false, false, false, false, false, false, false, false, false, false, false, false, false] rfl rfl (any_of HT_.out (by kernel_rfl)) (fun _ _ _ h => h) (Or.inl ⟨by rfl, ?_⟩) ?_ ?_
                rotate_left
                · intro w'
                  go_simp
                  with_reducible rfl
                rotate_left
                · simp only [Act.put, List.setIfInBounds_toArray, List.set_cons_zero, List.set_cons_succ, i64_w, i32_w]
                  rfl
                refine pure_ (i := 3) (N := some 56) (v := ?_) (a' := ?_) #[true, true, true, true, false, false, false, false, false, false, false, false, false, false, false, false, false, false, false, false, false, false, false, false, false, false, false, false, false, false, false, false, false, false, false, false, false, false, false, false, false, false, false, false, false, false] rfl rfl (any_of HT_.out (by kernel_rfl)) (fun _ _ _ h => h) (Or.inl ⟨by rfl, ?_⟩) ?_ ?_
                rotate_left
                · intro w'
                  go_simp
                  with_reducible rfl
                rotate_left
                · simp only [Act.put, List.setIfInBounds_toArray, List.set_cons_zero, List.set_cons_succ, i64_w, i32_w]
                  rfl
                refine pure_ (i := 4) (N := some 57) (v := ?_) (a' := ?_) #[true, true, true, true, true, false, false, false, false, false, false, false, false, false, false, false, false, false, false, false, false, false, false, false, false, false, false, false, false, false, false, false, false, false, false, false, false, false, false, false, false, false, false, false, false, false] rfl rfl (any_of HT_.out (by kernel_rfl)) (fun _ _ _ h => h) (Or.inl ⟨by rfl, ?_⟩) ?_ ?_
                rotate_left
                · intro w'
                  go_simp
                  with_reducible rfl
                rotate_left
                · simp only [Act.put, List.setIfInBounds_toArray, List.set_cons_zero, List.set_cons_succ, i64_w, i32_w]
                  rfl
                refine take_ (i := 5) (N := some 58) (v := ?_) (a' := ?_) #[true, true, true, true, true, true, false, false, false, false, false, false, false, false, false, false, false, false, false, false, false, false, false, false, false, false, false, false, false, false, false, false, false, false, false, false, false, false, false, false, false, false, false, false, false, false] rfl rfl (take_ofW HT_.out HW_.out (by kernel_rfl)) (fun _ _ _ h => h) (Or.inl ⟨by rfl, ?_⟩) hHeld ?_ ?_
                rotate_left
                · intro w' s0
                  go_simp
                  with_reducible rfl
                rotate_left
                · simp only [Act.put, List.setIfInBounds_toArray, List.set_cons_zero, List.set_cons_succ, i64_w, i32_w]
                  rfl
                refine one_ (i := 6) (N := some 59) #[true, true, true, true, true, true, true, false, false, false, false, false, false, false, false, false, false, false, false, false, false, false, false, false, false, false, false, false, false, false, false, false, false, false, false, false, false, false, false, false, false, false, false, false, false, false] rfl rfl (one_of HT_.out (by kernel_rfl)) (by decide) (fun K hK => ?_)
                refine goes_ Try.func18 (by kernel_rfl) rfl #[.pointer (some ⟨gr, 0, none⟩), .int .i64 (rd l1 (i2 : Int))] (by rfl) rfl rfl (by (try simp only [List.map_toArray, List.map_cons, List.map_nil]); first | done | rfl | (simp only [List.length_drop, List.length_take]; rfl)) ?_
                refine (href w _ gr HBq.out g6 HFq.out).mono ?_
                rintro e wb ⟨rfl, hFb, hKb, hBb⟩
                have HFb := Aside0.mk hFb
                have HBb := Aside0.mk hBb
                have HIb := Aside0.mk (HIq.out.frame hKb (by omega))
                clear hFb hBb hKb
                obtain ⟨ad3, e3, hx3⟩ := Kd.at_int (Kd.C_below HR1.out HBb.out) (i2 : Int) p1 q1
                cases e3
                simp only [Int.toNat_natCast] at hx3
                have HS_ := hx3
                refine ⟨_, rfl, ?_⟩
                refine hK.out _ _ HS_ (fun hHeld => ?_)
                clear hK K
                refine norm_ (a' := ?_) ?_ ?_
                rotate_left
                · show Act.put _ (some 59) _ = _
                  simp only [Act.put, List.setIfInBounds_toArray, List.set_cons_zero, List.set_cons_succ, i64_w, i32_w]
                  rfl
                refine pure_ (i := 7) (N := some 60) (v := ?_) (a' := ?_) #[true, true, true, true, true, true, true, true, false, false, false, false, false, false, false, false, false, false, false, false, false, false, false, false, false, false, false, false, false, false, false, false, false, false, false, false, false, false, false, false, false, false, false, false, false, false] rfl rfl (any_of HT_.out (by kernel_rfl)) (fun _ _ _ h => h) (Or.inl ⟨by rfl, ?_⟩) ?_ ?_
                rotate_left
                · intro w'
                  go_simp
                  with_reducible rfl
                rotate_left
                · simp only [Act.put, List.setIfInBounds_toArray, List.set_cons_zero, List.set_cons_succ, i64_w, i32_w]
                  rfl
                refine pure_ (i := 8) (N := some 61) (v := ?_) (a' := ?_) #[true, true, true, true, true, true, true, true, true, false, false, false, false, false, false, false, false, false, false, false, false, false, false, false, false, false, false, false, false, false, false, false, false, false, false, false, false, false, false, false, false, false, false, false, false, false] rfl rfl (any_of HT_.out (by kernel_rfl)) (fun _ _ _ h => h) (Or.inl ⟨by rfl, ?_⟩) ?_ ?_
                rotate_left
                · intro w'
                  go_simp
                  with_reducible rfl
                rotate_left
                · simp only [Act.put, List.setIfInBounds_toArray, List.set_cons_zero, List.set_cons_succ, i64_w, i32_w]
                  rfl
                obtain ⟨A2, c2, hgb, hc2, hr2⟩ := HFb.out
                have HGb := Aside0.mk hgb
                have HCb := Aside0.mk hc2
                have HRb := Aside0.mk hr2
                refine more_ (S2 := fun w' => w'.cell? (ad.add i2) = some (.int .i64 (rd l1 (i2 : Int))) ∧ w'.cell? ⟨gr, 0, none⟩ = some (.slice A2 (l0.length - u1) c2) ∧ w'.cell? ⟨gr, 1, none⟩ = some (.int .i64 (u1 : Int))) (fun _ h => h.1) _ _ _ _ ⟨hHeld, ref_cell0 hgb, ref_cell1 hgb⟩ ?_
                replace hHeld := show _ ∧ _ ∧ _ from ⟨hHeld, ref_cell0 hgb, ref_cell1 hgb⟩
                clear hgb hc2 hr2 hx3
                refine pure_ (i := 9) (N := some 62) (v := ?_) (a' := ?_) #[true, true, true, true, true, true, true, true, true, true, false, false, false, false, false, false, false, false, false, false, false, false, false, false, false, false, false, false, false, false, false, false, false, false, false, false, false, false, false, false, false, false, false, false, false, false] rfl rfl (any_of HT_.out (by kernel_rfl)) (fun _ _ _ h => h) (Or.inl ⟨by rfl, ?_⟩) ?_ ?_
                rotate_left
                · intro w'
                  go_simp
                  with_reducible rfl
                rotate_left
                · simp only [Act.put, List.setIfInBounds_toArray, List.set_cons_zero, List.set_cons_succ, i64_w, i32_w]
                  rfl
                refine pure_ (i := 11) (N := some 64) (v := ?_) (a' := ?_) #[true, true, true, true, true, true, true, true, true, true, false, true, false, false, false, false, false, false, false, false, false, false, false, false, false, false, false, false, false, false, false, false, false, false, false, false, false, false, false, false, false, false, false, false, false, false] rfl rfl (any_of HT_.out (by kernel_rfl)) (fun _ _ _ h => h) (Or.inl ⟨by rfl, ?_⟩) ?_ ?_
                rotate_left
                · intro w'
                  go_simp
                  with_reducible rfl
                rotate_left
                · simp only [Act.put, List.setIfInBounds_toArray, List.set_cons_zero, List.set_cons_succ, i64_w, i32_w]
                  rfl
                refine pure_ (i := 12) (N := some 65) (v := ?_) (a' := ?_) #[true, true, true, true, true, true, true, true, true, true, false, true, true, false, false, false, false, false, false, false, false, false, false, false, false, false, false, false, false, false, false, false, false, false, false, false, false, false, false, false, false, false, false, false, false, false] rfl rfl (any_of HT_.out (by kernel_rfl)) (fun _ _ _ h => h) (Or.inl ⟨by rfl, ?_⟩) ?_ ?_
                rotate_left
                · intro w'
                  go_simp
                  with_reducible rfl
                rotate_left
                · simp only [Act.put, List.setIfInBounds_toArray, List.set_cons_zero, List.set_cons_succ, i64_w, i32_w]
                  rfl
                refine pure_ (i := 13) (N := some 66) (v := ?_) (a' := ?_) #[true, true, true, true, true, true, true, true, true, true, false, true, true, true, false, false, false, false, false, false, false, false, false, false, false, false, false, false, false, false, false, false, false, false, false, false, false, false, false, false, false, false, false, false, false, false] rfl rfl (any_of HT_.out (by kernel_rfl)) (fun _ _ _ h => h) (Or.inl ⟨by rfl, ?_⟩) ?_ ?_
                rotate_left
                · intro w'
                  go_simp
                  with_reducible rfl
                rotate_left
                · simp only [Act.put, List.setIfInBounds_toArray, List.set_cons_zero, List.set_cons_succ, i64_w, i32_w]
                  rfl
                refine take_ (i := 14) (N := some 67) (v := ?_) (a' := ?_) #[true, true, true, true, true, true, true, true, true, true, false, true, true, true, true, false, false, false, false, false, false, false, false, false, false, false, false, false, false, false, false, false, false, false, false, false, false, false, false, false, false, false, false, false, false, false] rfl rfl (take_ofW HT_.out HW_.out (by kernel_rfl)) (fun _ _ _ h => h) (Or.inl ⟨by rfl, ?_⟩) hHeld ?_ ?_
                rotate_left
                · intro w' s0
                  obtain ⟨s1, s2, s3⟩ := s0
                  go_simp
                  with_reducible rfl
                rotate_left
                · simp only [Act.put, List.setIfInBounds_toArray, List.set_cons_zero, List.set_cons_succ, i64_w, i32_w]
                  rfl
                refine one_ (i := 10) (N := some 63) #[true, true, true, true, true, true, true, true, true, true, true, true, true, true, true, false, false, false, false, false, false, false, false, false, false, false, false, false, false, false, false, false, false, false, false, false, false, false, false, false, false, false, false, false, false, false] rfl rfl (one_of HT_.out (by kernel_rfl)) (by decide) (fun K hK => ?_)
                refine goes_ Try.func19 (by kernel_rfl) rfl #[.pointer (some ⟨gw, 0, none⟩)] (by rfl) rfl rfl (by (try simp only [List.map_toArray, List.map_cons, List.map_nil]); first | done | rfl | (simp only [List.length_drop, List.length_take]; rfl)) ?_
                refine (gen_Used gw l0 u1 _ _ w5 w _ g5 HIb.out HBb.out rfl).mono ?_
                rintro e wc ⟨rfl, hIc, hBc, hKc⟩
                have HIc := Aside0.mk hIc
                have HBc := Aside0.mk hBc
                have HGc := Aside0.mk (hKc.blk HGb.out (by omega) (by simp))
                clear hIc hBc hKc
                obtain ⟨ad4, e4, hx4⟩ := Kd.at_int (Kd.C_below HR1.out HBc.out) (i2 : Int) p1 q1
                cases e4
                simp only [Int.toNat_natCast] at hx4
                have HS_ := show _ ∧ _ ∧ _ from ⟨hx4, ref_cell0 HGc.out, ref_cell1 HGc.out⟩
                clear hx4
                refine ⟨_, rfl, ?_⟩
                refine hK.out _ _ HS_ (fun hHeld => ?_)
                clear hK K
                refine norm_ (a' := ?_) ?_ ?_
                rotate_left
                · show Act.put _ (some 63) _ = _
                  simp only [Act.put, List.setIfInBounds_toArray, List.set_cons_zero, List.set_cons_succ, i64_w, i32_w]
                  rfl
                refine pure_ (i := 15) (N := some 68) (v := ?_) (a' := ?_) #[true, true, true, true, true, true, true, true, true, true, true, true, true, true, true, true, false, false, false, false, false, false, false, false, false, false, false, false, false, false, false, false, false, false, false, false, false, false, false, false, false, false, false, false, false, false] rfl rfl (any_of HT_.out (by kernel_rfl)) (fun _ _ _ h => h) (Or.inl ⟨by rfl, ?_⟩) ?_ ?_
                rotate_left
                · intro w'
                  go_simp
                  with_reducible rfl
                rotate_left
                · simp only [Act.put, List.setIfInBounds_toArray, List.set_cons_zero, List.set_cons_succ, i64_w, i32_w]
                  rfl
                refine pure_ (i := 16) (N := some 69) (v := ?_) (a' := ?_) #[true, true, true, true, true, true, true, true, true, true, true, true, true, true, true, true, true, false, false, false, false, false, false, false, false, false, false, false, false, false, false, false, false, false, false, false, false, false, false, false, false, false, false, false, false, false] rfl rfl (any_of HT_.out (by kernel_rfl)) (fun _ _ _ h => h) (Or.inl ⟨by rfl, ?_⟩) ?_ ?_
                rotate_left
                · intro w'
                  go_simp
                  with_reducible rfl
                rotate_left
                · simp only [Act.put, List.setIfInBounds_toArray, List.set_cons_zero, List.set_cons_succ, i64_w, i32_w]
                  rfl
                refine pure_ (i := 17) (N := some 70) (v := ?_) (a' := ?_) #[true, true, true, true, true, true, true, true, true, true, true, true, true, true, true, true, true, true, false, false, false, false, false, false, false, false, false, false, false, false, false, false, false, false, false, false, false, false, false, false, false, false, false, false, false, false] rfl rfl (any_of HT_.out (by kernel_rfl)) (fun _ _ _ h => h) (Or.inl ⟨by rfl, ?_⟩) ?_ ?_
                rotate_left
                · intro w'
                  go_simp
                  with_reducible rfl
                rotate_left
                · simp only [Act.put, List.setIfInBounds_toArray, List.set_cons_zero, List.set_cons_succ, i64_w, i32_w]
                  rfl
                refine pure_ (i := 18) (N := some 71) (v := ?_) (a' := ?_) #[true, true, true, true, true, true, true, true, true, true, true, true, true, true, true, true, true, true, true, false, false, false, false, false, false, false, false, false, false, false, false, false, false, false, false, false, false, false, false, false, false, false, false, false, false, false] rfl rfl (any_of HT_.out (by kernel_rfl)) (fun _ _ _ h => h) (Or.inl ⟨by rfl, ?_⟩) ?_ ?_
                rotate_left
                · intro w'
                  go_simp
                  with_reducible rfl
                rotate_left
                · simp only [Act.put, List.setIfInBounds_toArray, List.set_cons_zero, List.set_cons_succ, i64_w, i32_w]
                  rfl
                refine pure_ (i := 20) (N := some 73) (v := ?_) (a' := ?_) #[true, true, true, true, true, true, true, true, true, true, true, true, true, true, true, true, true, true, true, false, true, false, false, false, false, false, false, false, false, false, false, false, false, false, false, false, false, false, false, false, false, false, false, false, false, false] rfl rfl (any_of HT_.out (by kernel_rfl)) (fun _ _ _ h => h) (Or.inl ⟨by rfl, ?_⟩) ?_ ?_
                rotate_left
                · intro w'
                  go_simp
                  with_reducible rfl
                rotate_left
                · simp only [Act.put, List.setIfInBounds_toArray, List.set_cons_zero, List.set_cons_succ, i64_w, i32_w]
                  rfl
                refine pure_ (i := 21) (N := some 74) (v := ?_) (a' := ?_) #[true, true, true, true, true, true, true, true, true, true, true, true, true, true, true, true, true, true, true, false, true, true, false, false, false, false, false, false, false, false, false, false, false, false, false, false, false, false, false, false, false, false, false, false, false, false] rfl rfl (any_of HT_.out (by kernel_rfl)) (fun _ _ _ h => h) (Or.inl ⟨by rfl, ?_⟩) ?_ ?_
                rotate_left
                · intro w'
                  go_simp
                  with_reducible rfl
                rotate_left
                · simp only [Act.put, List.setIfInBounds_toArray, List.set_cons_zero, List.set_cons_succ, i64_w, i32_w]
                  rfl
                refine pure_ (i := 22) (N := some 75) (v := ?_) (a' := ?_) #[true, true, true, true, true, true, true, true, true, true, true, true, true, true, true, true, true, true, true, false, true, true, true, false, false, false, false, false, false, false, false, false, false, false, false, false, false, false, false, false, false, false, false, false, false, false] rfl rfl (any_of HT_.out (by kernel_rfl)) (fun _ _ _ h => h) (Or.inl ⟨by rfl, ?_⟩) ?_ ?_
                rotate_left
                · intro w'
                  go_simp
                  with_reducible rfl
                rotate_left
                · simp only [Act.put, List.setIfInBounds_toArray, List.set_cons_zero, List.set_cons_succ, i64_w, i32_w]
                  rfl
                refine take_ (i := 23) (N := some 76) (v := ?_) (a' := ?_) #[true, true, true, true, true, true, true, true, true, true, true, true, true, true, true, true, true, true, true, false, true, true, true, true, false, false, false, false, false, false, false, false, false, false, false, false, false, false, false, false, false, false, false, false, false, false] rfl rfl (take_ofW HT_.out HW_.out (by kernel_rfl)) (fun _ _ _ h => h) (Or.inl ⟨by rfl, ?_⟩) hHeld ?_ ?_
                rotate_left
                · intro w' s0
                  obtain ⟨s1, s2, s3⟩ := s0
                  go_simp
                  with_reducible rfl
                rotate_left
                · simp only [Act.put, List.setIfInBounds_toArray, List.set_cons_zero, List.set_cons_succ, i64_w, i32_w]
                  rfl
                refine pure_ (i := 24) (N := some 77) (v := ?_) (a' := ?_) #[true, true, true, true, true, true, true, true, true, true, true, true, true, true, true, true, true, true, true, false, true, true, true, true, true, false, false, false, false, false, false, false, false, false, false, false, false, false, false, false, false, false, false, false, false, false] rfl rfl (any_of HT_.out (by kernel_rfl)) (fun _ _ _ h => h) (Or.inl ⟨by rfl, ?_⟩) ?_ ?_
                rotate_left
                · intro w'
                  go_simp
                  with_reducible rfl
                rotate_left
                · simp only [Act.put, List.setIfInBounds_toArray, List.set_cons_zero, List.set_cons_succ, i64_w, i32_w]
                  rfl
                refine one_ (i := 19) (N := some 72) #[true, true, true, true, true, true, true, true, true, true, true, true, true, true, true, true, true, true, true, true, true, true, true, true, true, false, false, false, false, false, false, false, false, false, false, false, false, false, false, false, false, false, false, false, false, false] rfl rfl (one_of HT_.out (by kernel_rfl)) (by decide) (fun K hK => ?_)
                refine goes_ Try.func20 (by kernel_rfl) rfl #[.pointer (some ⟨gw, 0, none⟩)] (by rfl) rfl rfl (by (try simp only [List.map_toArray, List.map_cons, List.map_nil]); first | done | rfl | (simp only [List.length_drop, List.length_take]; rfl)) ?_
                refine (gen_Left gw l0 u1 _ _ w5 w _ g5 HIc.out HBc.out rfl).mono ?_
                rintro e wd ⟨rfl, hId, hBd, hKd⟩
                have HId := Aside0.mk hId
                have HBd := Aside0.mk hBd
                have HGd := Aside0.mk (hKd.blk HGc.out (by omega) (by simp))
                clear hId hBd hKd
                obtain ⟨ad4, e4, hx4⟩ := Kd.at_int (Kd.C_below HR1.out HBd.out) (i2 : Int) p1 q1
                cases e4
                simp only [Int.toNat_natCast] at hx4
                have HS_ := show _ ∧ _ ∧ _ from ⟨hx4, ref_cell0 HGd.out, ref_cell1 HGd.out⟩
                clear hx4
                refine ⟨_, rfl, ?_⟩
                refine hK.out _ _ HS_ (fun hHeld => ?_)
                clear hK K
                refine norm_ (a' := ?_) ?_ ?_
                rotate_left
                · show Act.put _ (some 72) _ = _
                  simp only [Act.put, List.setIfInBounds_toArray, List.set_cons_zero, List.set_cons_succ, i64_w, i32_w]
                  rfl
                refine pure_ (i := 25) (N := some 78) (v := ?_) (a' := ?_) #[true, true, true, true, true, true, true, true, true, true, true, true, true, true, true, true, true, true, true, true, true, true, true, true, true, true, false, false, false, false, false, false, false, false, false, false, false, false, false, false, false, false, false, false, false, false] rfl rfl (any_of HT_.out (by kernel_rfl)) (fun _ _ _ h => h) (Or.inl ⟨by rfl, ?_⟩) ?_ ?_
                rotate_left
                · intro w'
                  go_simp
                  with_reducible rfl
                rotate_left
                · simp only [Act.put, List.setIfInBounds_toArray, List.set_cons_zero, List.set_cons_succ, i64_w, i32_w]
                  rfl
                refine pure_ (i := 26) (N := some 79) (v := ?_) (a' := ?_) #[true, true, true, true, true, true, true, true, true, true, true, true, true, true, true, true, true, true, true, true, true, true, true, true, true, true, true, false, false, false, false, false, false, false, false, false, false, false, false, false, false, false, false, false, false, false] rfl rfl (any_of HT_.out (by kernel_rfl)) (fun _ _ _ h => h) (Or.inl ⟨by rfl, ?_⟩) ?_ ?_
                rotate_left
                · intro w'
                  go_simp
                  with_reducible rfl
                rotate_left
                · simp only [Act.put, List.setIfInBounds_toArray, List.set_cons_zero, List.set_cons_succ, i64_w, i32_w]
                  rfl
                refine pure_ (i := 27) (N := some 80) (v := ?_) (a' := ?_) #[true, true, true, true, true, true, true, true, true, true, true, true, true, true, true, true, true, true, true, true, true, true, true, true, true, true, true, true, false, false, false, false, false, false, false, false, false, false, false, false, false, false, false, false, false, false] rfl rfl (any_of HT_.out (by kernel_rfl)) (fun _ _ _ h => h) (Or.inl ⟨by rfl, ?_⟩) ?_ ?_
                rotate_left
                · intro w'
                  go_simp
                  with_reducible rfl
                rotate_left
                · simp only [Act.put, List.setIfInBounds_toArray, List.set_cons_zero, List.set_cons_succ, i64_w, i32_w]
                  rfl
                refine pure_ (i := 28) (N := some 81) (v := ?_) (a' := ?_) #[true, true, true, true, true, true, true, true, true, true, true, true, true, true, true, true, true, true, true, true, true, true, true, true, true, true, true, true, true, false, false, false, false, false, false, false, false, false, false, false, false, false, false, false, false, false] rfl rfl (any_of HT_.out (by kernel_rfl)) (fun _ _ _ h => h) (Or.inl ⟨by rfl, ?_⟩) ?_ ?_
                rotate_left
                · intro w'
                  go_simp
                  with_reducible rfl
                rotate_left
                · simp only [Act.put, List.setIfInBounds_toArray, List.set_cons_zero, List.set_cons_succ, i64_w, i32_w]
                  rfl
                refine pure_ (i := 29) (N := some 82) (v := ?_) (a' := ?_) #[true, true, true, true, true, true, true, true, true, true, true, true, true, true, true, true, true, true, true, true, true, true, true, true, true, true, true, true, true, true, false, false, false, false, false, false, false, false, false, false, false, false, false, false, false, false] rfl rfl (any_of HT_.out (by kernel_rfl)) (fun _ _ _ h => h) (Or.inl ⟨by rfl, ?_⟩) ?_ ?_
                rotate_left
                · intro w'
                  go_simp
                  with_reducible rfl
                rotate_left
                · simp only [Act.put, List.setIfInBounds_toArray, List.set_cons_zero, List.set_cons_succ, i64_w, i32_w]
                  rfl
                refine pure_ (i := 30) (N := some 83) (v := ?_) (a' := ?_) #[true, true, true, true, true, true, true, true, true, true, true, true, true, true, true, true, true, true, true, true, true, true, true, true, true, true, true, true, true, true, true, false, false, false, false, false, false, false, false, false, false, false, false, false, false, false] rfl rfl (any_of HT_.out (by kernel_rfl)) (fun _ _ _ h => h) (Or.inl ⟨by rfl, ?_⟩) ?_ ?_
                rotate_left
                · intro w'
                  go_simp
                  with_reducible rfl
                rotate_left
                · simp only [Act.put, List.setIfInBounds_toArray, List.set_cons_zero, List.set_cons_succ, i64_w, i32_w]
                  rfl
                refine take_ (i := 31) (N := some 84) (v := ?_) (a' := ?_) #[true, true, true, true, true, true, true, true, true, true, true, true, true, true, true, true, true, true, true, true, true, true, true, true, true, true, true, true, true, true, true, true, false, false, false, false, false, false, false, false, false, false, false, false, false, false] rfl rfl (take_ofW HT_.out HW_.out (by kernel_rfl)) (fun _ _ _ h => h) (Or.inl ⟨by rfl, ?_⟩) hHeld ?_ ?_
                rotate_left
                · intro w' s0
                  obtain ⟨s1, s2, s3⟩ := s0
                  go_simp
                  with_reducible rfl
                rotate_left
                · simp only [Act.put, List.setIfInBounds_toArray, List.set_cons_zero, List.set_cons_succ, i64_w, i32_w]
                  rfl
                refine pure_ (i := 32) (N := some 85) (v := ?_) (a' := ?_) #[true, true, true, true, true, true, true, true, true, true, true, true, true, true, true, true, true, true, true, true, true, true, true, true, true, true, true, true, true, true, true, true, true, false, false, false, false, false, false, false, false, false, false, false, false, false] rfl rfl (any_of HT_.out (by kernel_rfl)) (fun _ _ _ h => h) (Or.inl ⟨by rfl, ?_⟩) ?_ ?_
                rotate_left
                · intro w'
                  go_simp
                  with_reducible rfl
                rotate_left
                · simp only [Act.put, List.setIfInBounds_toArray, List.set_cons_zero, List.set_cons_succ, i64_w, i32_w]
                  rfl
                refine pure_ (i := 33) (N := some 86) (v := ?_) (a' := ?_) #[true, true, true, true, true, true, true, true, true, true, true, true, true, true, true, true, true, true, true, true, true, true, true, true, true, true, true, true, true, true, true, true, true, true, false, false, false, false, false, false, false, false, false, false, false, false] rfl rfl (any_of HT_.out (by kernel_rfl)) (fun _ _ _ h => h) (Or.inl ⟨by rfl, ?_⟩) ?_ ?_
                rotate_left
                · intro w'
                  go_simp
                  with_reducible rfl
                rotate_left
                · simp only [Act.put, List.setIfInBounds_toArray, List.set_cons_zero, List.set_cons_succ, i64_w, i32_w]
                  rfl
                refine pure_ (i := 34) (N := some 87) (v := ?_) (a' := ?_) #[true, true, true, true, true, true, true, true, true, true, true, true, true, true, true, true, true, true, true, true, true, true, true, true, true, true, true, true, true, true, true, true, true, true, true, false, false, false, false, false, false, false, false, false, false, false] rfl rfl (any_of HT_.out (by kernel_rfl)) (fun _ _ _ h => h) (Or.inl ⟨by rfl, ?_⟩) ?_ ?_
                rotate_left
                · intro w'
                  go_simp
                  with_reducible rfl
                rotate_left
                · simp only [Act.put, List.setIfInBounds_toArray, List.set_cons_zero, List.set_cons_succ, i64_w, i32_w]
                  rfl
                refine pure_ (i := 35) (N := some 88) (v := ?_) (a' := ?_) #[true, true, true, true, true, true, true, true, true, true, true, true, true, true, true, true, true, true, true, true, true, true, true, true, true, true, true, true, true, true, true, true, true, true, true, true, false, false, false, false, false, false, false, false, false, false] rfl rfl (any_of HT_.out (by kernel_rfl)) (fun _ _ _ h => h) (Or.inl ⟨by rfl, ?_⟩) ?_ ?_
                rotate_left
                · intro w'
                  go_simp
                  with_reducible rfl
                rotate_left
                · simp only [Act.put, List.setIfInBounds_toArray, List.set_cons_zero, List.set_cons_succ, i64_w, i32_w]
                  rfl
                refine pure_ (i := 36) (N := some 89) (v := ?_) (a' := ?_) #[true, true, true, true, true, true, true, true, true, true, true, true, true, true, true, true, true, true, true, true, true, true, true, true, true, true, true, true, true, true, true, true, true, true, true, true, true, false, false, false, false, false, false, false, false, false] rfl rfl (any_of HT_.out (by kernel_rfl)) (fun _ _ _ h => h) (Or.inl ⟨by rfl, ?_⟩) ?_ ?_
                rotate_left
                · intro w'
                  go_simp
                  with_reducible rfl
                rotate_left
                · simp only [Act.put, List.setIfInBounds_toArray, List.set_cons_zero, List.set_cons_succ, i64_w, i32_w]
                  rfl
                refine pure_ (i := 37) (N := some 90) (v := ?_) (a' := ?_) #[true, true, true, true, true, true, true, true, true, true, true, true, true, true, true, true, true, true, true, true, true, true, true, true, true, true, true, true, true, true, true, true, true, true, true, true, true, true, false, false, false, false, false, false, false, false] rfl rfl (any_of HT_.out (by kernel_rfl)) (fun _ _ _ h => h) (Or.inl ⟨by rfl, ?_⟩) ?_ ?_
                rotate_left
                · intro w'
                  go_simp
                  with_reducible rfl
                rotate_left
                · simp only [Act.put, List.setIfInBounds_toArray, List.set_cons_zero, List.set_cons_succ, i64_w, i32_w]
                  rfl
                refine pure_ (i := 38) (N := some 91) (v := ?_) (a' := ?_) #[true, true, true, true, true, true, true, true, true, true, true, true, true, true, true, true, true, true, true, true, true, true, true, true, true, true, true, true, true, true, true, true, true, true, true, true, true, true, true, false, false, false, false, false, false, false] rfl rfl (any_of HT_.out (by kernel_rfl)) (fun _ _ _ h => h) (Or.inl ⟨by rfl, ?_⟩) ?_ ?_
                rotate_left
                · intro w'
                  go_simp
                  with_reducible rfl
                rotate_left
                · simp only [Act.put, List.setIfInBounds_toArray, List.set_cons_zero, List.set_cons_succ, i64_w, i32_w]
                  rfl
                refine pure_ (i := 39) (N := some 92) (v := ?_) (a' := ?_) #[true, true, true, true, true, true, true, true, true, true, true, true, true, true, true, true, true, true, true, true, true, true, true, true, true, true, true, true, true, true, true, true, true, true, true, true, true, true, true, true, false, false, false, false, false, false] rfl rfl (any_of HT_.out (by kernel_rfl)) (fun _ _ _ h => h) (Or.inl ⟨by rfl, ?_⟩) ?_ ?_
                rotate_left
                · intro w'
                  go_simp
                  with_reducible rfl
                rotate_left
                · simp only [Act.put, List.setIfInBounds_toArray, List.set_cons_zero, List.set_cons_succ, i64_w, i32_w]
                  rfl
                refine pure_ (i := 40) (N := some 93) (v := ?_) (a' := ?_) #[true, true, true, true, true, true, true, true, true, true, true, true, true, true, true, true, true, true, true, true, true, true, true, true, true, true, true, true, true, true, true, true, true, true, true, true, true, true, true, true, true, false, false, false, false, false] rfl rfl (any_of HT_.out (by kernel_rfl)) (fun _ _ _ h => h) (Or.inl ⟨by rfl, ?_⟩) ?_ ?_
                rotate_left
                · intro w'
                  go_simp
                  with_reducible rfl
                rotate_left
                · simp only [Act.put, List.setIfInBounds_toArray, List.set_cons_zero, List.set_cons_succ, i64_w, i32_w]
                  rfl
                refine take_ (i := 41) (N := some 94) (v := ?_) (a' := ?_) #[true, true, true, true, true, true, true, true, true, true, true, true, true, true, true, true, true, true, true, true, true, true, true, true, true, true, true, true, true, true, true, true, true, true, true, true, true, true, true, true, true, true, false, false, false, false] rfl rfl (take_ofW HT_.out HW_.out (by kernel_rfl)) (fun _ _ _ h => h) (Or.inl ⟨by rfl, ?_⟩) hHeld ?_ ?_
                rotate_left
                · intro w' s0
                  obtain ⟨s1, s2, s3⟩ := s0
                  go_simp
                  with_reducible rfl
                rotate_left
                · simp only [Act.put, List.setIfInBounds_toArray, List.set_cons_zero, List.set_cons_succ, i64_w, i32_w]
                  rfl
                refine pure_ (i := 42) (N := some 95) (v := ?_) (a' := ?_) #[true, true, true, true, true, true, true, true, true, true, true, true, true, true, true, true, true, true, true, true, true, true, true, true, true, true, true, true, true, true, true, true, true, true, true, true, true, true, true, true, true, true, true, false, false, false] rfl rfl (any_of HT_.out (by kernel_rfl)) (fun _ _ _ h => h) (Or.inl ⟨by rfl, ?_⟩) ?_ ?_
                rotate_left
                · intro w'
                  go_simp
                  with_reducible rfl
                rotate_left
                · simp only [Act.put, List.setIfInBounds_toArray, List.set_cons_zero, List.set_cons_succ, i64_w, i32_w]
                  rfl
                refine pure_ (i := 43) (N := some 96) (v := ?_) (a' := ?_) #[true, true, true, true, true, true, true, true, true, true, true, true, true, true, true, true, true, true, true, true, true, true, true, true, true, true, true, true, true, true, true, true, true, true, true, true, true, true, true, true, true, true, true, true, false, false] rfl rfl (any_of HT_.out (by kernel_rfl)) (fun _ _ _ h => h) (Or.inl ⟨by rfl, ?_⟩) ?_ ?_
                rotate_left
                · intro w'
                  go_simp
                  with_reducible rfl
                rotate_left
                · simp only [Act.put, List.setIfInBounds_toArray, List.set_cons_zero, List.set_cons_succ, i64_w, i32_w]
                  rfl
                refine pure_ (i := 44) (N := some 97) (v := ?_) (a' := ?_) #[true, true, true, true, true, true, true, true, true, true, true, true, true, true, true, true, true, true, true, true, true, true, true, true, true, true, true, true, true, true, true, true, true, true, true, true, true, true, true, true, true, true, true, true, true, false] rfl rfl (any_of HT_.out (by kernel_rfl)) (fun _ _ _ h => h) (Or.inl ⟨by rfl, ?_⟩) ?_ ?_
                rotate_left
                · intro w'
                  go_simp
                  with_reducible rfl
                rotate_left
                · simp only [Act.put, List.setIfInBounds_toArray, List.set_cons_zero, List.set_cons_succ, i64_w, i32_w]
                  rfl
                refine pure_ (i := 45) (N := some 98) (v := ?_) (a' := ?_) #[true, true, true, true, true, true, true, true, true, true, true, true, true, true, true, true, true, true, true, true, true, true, true, true, true, true, true, true, true, true, true, true, true, true, true, true, true, true, true, true, true, true, true, true, true, true] rfl rfl (any_of HT_.out (by kernel_rfl)) (fun _ _ _ h => h) (Or.inl ⟨by rfl, ?_⟩) ?_ ?_
                rotate_left
                · intro w'
                  go_simp
                  with_reducible rfl
                rotate_left
                · simp only [Act.put, List.setIfInBounds_toArray, List.set_cons_zero, List.set_cons_succ, i64_w, i32_w]
                  rfl
                refine done_ (done_of HT_.out (by kernel_rfl)) ?_
                have HFd : Aside0 (Rf w wd gr l0 u1) := ⟨A2, c2, HGd.out, HCb.out, HRb.out⟩
                go_wp2_with (fail)
                go_roundg k3
                case measure => have := HK2.out; omega
                case rel => exact ⟨i2 + 1, u1, by first | rfl | (rw [wsucc i2 (by omega)]), ⟨by omega⟩, ⟨by have := HK2.out; omega⟩, HBd, HId, HFd⟩
              · have dp : decide (0 < rd l1 (i2 : Int)) = false := decide_eq_false hpos
                have HBq := Aside0.mk (below_drew1 HBa.out)
                have HIq := Aside0.mk (IsS86.drew HIa.out)
                have HFq : Aside0 (Rf w wa.drew gr l0 u) := ⟨HFa.out⟩
                refine start_ (n := 46) (S := fun w' => w'.cell? (ad.add i2) = some (.int .i64 (rd l1 (i2 : Int)))) (ds := []) #[false, false, false, false, false, false, false, false, false, false, false, false, false, false, false, false, false, false, false, false, false, false, false, false, false, false, false, false, false, false, false, false, false, false, false, false, false, false, false, false, false, false, false, false, false, false] (by kernel_rfl) rfl rfl (hx2) (fun hHeld => ?_); refine with_tabW reg13.tab reg13.bits (fun HT_ HW_ => ?_)
                generalize wa.drew = wq at HBq HIq HFq hHeld ⊢
                refine pure_ (i := 0) (N := some 53) (v := ?_) (a' := ?_) #[true, false, false, false, false, false, false, false, false, false, false, false, false, false, false, false, false, false, false, false, false, false, false, false, false, false, false, false, false, false, false, false, false, false, false, false, false, false, false, false, false, false, false, false, false, false] rfl rfl (any_of HT_.out (by kernel_rfl)) (fun _ _ _ h => h) (Or.inl ⟨by rfl, ?_⟩) ?_ ?_
                rotate_left
                · intro w'
                  go_simp
                  with_reducible rfl
                rotate_left
                · simp only [Act.put, List.setIfInBounds_toArray, List.set_cons_zero, List.set_cons_succ, i64_w, i32_w]
                  rfl
                refine pure_ (i := 1) (N := some 54) (v := ?_) (a' := ?_) #[true, true, false, false, false, false, false, false, false, false, false, false, false, false, false, false, false, false, false, false, false, false, false, false, false, false, false, false, false, false, false, false, false, false, false, false, false, false, false, false, false, false, false, false, false, false] rfl rfl (any_of HT_.out (by kernel_rfl)) (fun _ _ _ h => h) (Or.inl ⟨by rfl, ?_⟩) ?_ ?_
                rotate_left
                · intro w'
                  go_simp
                  with_reducible rfl
                rotate_left
                · simp only [Act.put, List.setIfInBounds_toArray, List.set_cons_zero, List.set_cons_succ, i64_w, i32_w]
                  rfl
                refine pure_ (i := 2) (N := some 55) (v := ?_) (a' := ?_) #[true, true, true, false, false, false, false, false, false, false, false, false, false, false, false, false, false, false, false, false, false, false, false, false, false, false, false, false, false, false, false, false, false, false, false, false, false, false, false, false, false, false, false, false, false, false] rfl rfl (any_of HT_.out (by kernel_rfl)) (fun _ _ _ h => h) (Or.inl ⟨by rfl, ?_⟩) ?_ ?_
                rotate_left
                · intro w'
                  go_simp
                  with_reducible rfl
                rotate_left
                · simp only [Act.put, List.setIfInBounds_toArray, List.set_cons_zero, List.set_cons_succ, i64_w, i32_w]
                  rfl
                refine pure_ (i := 3) (N := some 56) (v := ?_) (a' := ?_) #[true, true, true, true, false, false, false, false, false, false, false, false, false, false, false, false, false, false, false, false, false, false, false, false, false, false, false, false, false, false, false, false, false, false, false, false, false, false, false, false, false, false, false, false, false, false] rfl rfl (any_of HT_.out (by kernel_rfl)) (fun _ _ _ h => h) (Or.inl ⟨by rfl, ?_⟩) ?_ ?_
                rotate_left
                · intro w'
                  go_simp
                  with_reducible rfl
                rotate_left
                · simp only [Act.put, List.setIfInBounds_toArray, List.set_cons_zero, List.set_cons_succ, i64_w, i32_w]
                  rfl
                refine pure_ (i := 4) (N := some 57) (v := ?_) (a' := ?_) #[true, true, true, true, true, false, false, false, false, false, false, false, false, false, false, false, false, false, false, false, false, false, false, false, false, false, false, false, false, false, false, false, false, false, false, false, false, false, false, false, false, false, false, false, false, false] rfl rfl (any_of HT_.out (by kernel_rfl)) (fun _ _ _ h => h) (Or.inl ⟨by rfl, ?_⟩) ?_ ?_
                rotate_left
                · intro w'
                  go_simp
                  with_reducible rfl
                rotate_left
                · simp only [Act.put, List.setIfInBounds_toArray, List.set_cons_zero, List.set_cons_succ, i64_w, i32_w]
                  rfl
                refine take_ (i := 5) (N := some 58) (v := ?_) (a' := ?_) #[true, true, true, true, true, true, false, false, false, false, false, false, false, false, false, false, false, false, false, false, false, false, false, false, false, false, false, false, false, false, false, false, false, false, false, false, false, false, false, false, false, false, false, false, false, false] rfl rfl (take_ofW HT_.out HW_.out (by kernel_rfl)) (fun _ _ _ h => h) (Or.inl ⟨by rfl, ?_⟩) hHeld ?_ ?_
                rotate_left
                · intro w' s0
                  go_simp
                  with_reducible rfl
                rotate_left
                · simp only [Act.put, List.setIfInBounds_toArray, List.set_cons_zero, List.set_cons_succ, i64_w, i32_w]
                  rfl
                refine one_ (i := 6) (N := some 59) #[true, true, true, true, true, true, true, false, false, false, false, false, false, false, false, false, false, false, false, false, false, false, false, false, false, false, false, false, false, false, false, false, false, false, false, false, false, false, false, false, false, false, false, false, false, false] rfl rfl (one_of HT_.out (by kernel_rfl)) (by decide) (fun K hK => ?_)
                refine goes_ Try.func18 (by kernel_rfl) rfl #[.pointer (some ⟨gr, 0, none⟩), .int .i64 (rd l1 (i2 : Int))] (by rfl) rfl rfl (by (try simp only [List.map_toArray, List.map_cons, List.map_nil]); first | done | rfl | (simp only [List.length_drop, List.length_take]; rfl)) ?_
                refine (href w _ gr HBq.out g6 HFq.out).mono ?_
                rintro e wb ⟨rfl, hFb, hKb, hBb⟩
                have HFb := Aside0.mk hFb
                have HBb := Aside0.mk hBb
                have HIb := Aside0.mk (HIq.out.frame hKb (by omega))
                clear hFb hBb hKb
                obtain ⟨ad3, e3, hx3⟩ := Kd.at_int (Kd.C_below HR1.out HBb.out) (i2 : Int) p1 q1
                cases e3
                simp only [Int.toNat_natCast] at hx3
                have HS_ := hx3
                refine ⟨_, rfl, ?_⟩
                refine hK.out _ _ HS_ (fun hHeld => ?_)
                clear hK K
                refine norm_ (a' := ?_) ?_ ?_
                rotate_left
                · show Act.put _ (some 59) _ = _
                  simp only [Act.put, List.setIfInBounds_toArray, List.set_cons_zero, List.set_cons_succ, i64_w, i32_w]
                  rfl
                refine pure_ (i := 7) (N := some 60) (v := ?_) (a' := ?_) #[true, true, true, true, true, true, true, true, false, false, false, false, false, false, false, false, false, false, false, false, false, false, false, false, false, false, false, false, false, false, false, false, false, false, false, false, false, false, false, false, false, false, false, false, false, false] rfl rfl (any_of HT_.out (by kernel_rfl)) (fun _ _ _ h => h) (Or.inl ⟨by rfl, ?_⟩) ?_ ?_
                rotate_left
                · intro w'
                  go_simp
                  with_reducible rfl
                rotate_left
                · simp only [Act.put, List.setIfInBounds_toArray, List.set_cons_zero, List.set_cons_succ, i64_w, i32_w]
                  rfl
                refine pure_ (i := 8) (N := some 61) (v := ?_) (a' := ?_) #[true, true, true, true, true, true, true, true, true, false, false, false, false, false, false, false, false, false, false, false, false, false, false, false, false, false, false, false, false, false, false, false, false, false, false, false, false, false, false, false, false, false, false, false, false, false] rfl rfl (any_of HT_.out (by kernel_rfl)) (fun _ _ _ h => h) (Or.inl ⟨by rfl, ?_⟩) ?_ ?_
                rotate_left
                · intro w'
                  go_simp
                  with_reducible rfl
                rotate_left
                · simp only [Act.put, List.setIfInBounds_toArray, List.set_cons_zero, List.set_cons_succ, i64_w, i32_w]
                  rfl
                obtain ⟨A2, c2, hgb, hc2, hr2⟩ := HFb.out
                have HGb := Aside0.mk hgb
                have HCb := Aside0.mk hc2
                have HRb := Aside0.mk hr2
                refine more_ (S2 := fun w' => w'.cell? (ad.add i2) = some (.int .i64 (rd l1 (i2 : Int))) ∧ w'.cell? ⟨gr, 0, none⟩ = some (.slice A2 (l0.length - u1) c2) ∧ w'.cell? ⟨gr, 1, none⟩ = some (.int .i64 (u1 : Int))) (fun _ h => h.1) _ _ _ _ ⟨hHeld, ref_cell0 hgb, ref_cell1 hgb⟩ ?_
                replace hHeld := show _ ∧ _ ∧ _ from ⟨hHeld, ref_cell0 hgb, ref_cell1 hgb⟩
                clear hgb hc2 hr2 hx3
                refine pure_ (i := 9) (N := some 62) (v := ?_) (a' := ?_) #[true, true, true, true, true, true, true, true, true, true, false, false, false, false, false, false, false, false, false, false, false, false, false, false, false, false, false, false, false, false, false, false, false, false, false, false, false, false, false, false, false, false, false, false, false, false] rfl rfl (any_of HT_.out (by kernel_rfl)) (fun _ _ _ h => h) (Or.inl ⟨by rfl, ?_⟩) ?_ ?_
                rotate_left
                · intro w'
                  go_simp
                  with_reducible rfl
                rotate_left
                · simp only [Act.put, List.setIfInBounds_toArray, List.set_cons_zero, List.set_cons_succ, i64_w, i32_w]
                  rfl
                refine pure_ (i := 11) (N := some 64) (v := ?_) (a' := ?_) #[true, true, true, true, true, true, true, true, true, true, false, true, false, false, false, false, false, false, false, false, false, false, false, false, false, false, false, false, false, false, false, false, false, false, false, false, false, false, false, false, false, false, false, false, false, false] rfl rfl (any_of HT_.out (by kernel_rfl)) (fun _ _ _ h => h) (Or.inl ⟨by rfl, ?_⟩) ?_ ?_
                rotate_left
                · intro w'
                  go_simp
                  with_reducible rfl
                rotate_left
                · simp only [Act.put, List.setIfInBounds_toArray, List.set_cons_zero, List.set_cons_succ, i64_w, i32_w]
                  rfl
                refine pure_ (i := 12) (N := some 65) (v := ?_) (a' := ?_) #[true, true, true, true, true, true, true, true, true, true, false, true, true, false, false, false, false, false, false, false, false, false, false, false, false, false, false, false, false, false, false, false, false, false, false, false, false, false, false, false, false, false, false, false, false, false] rfl rfl (any_of HT_.out (by kernel_rfl)) (fun _ _ _ h => h) (Or.inl ⟨by rfl, ?_⟩) ?_ ?_
                rotate_left
                · intro w'
                  go_simp
                  with_reducible rfl
                rotate_left
                · simp only [Act.put, List.setIfInBounds_toArray, List.set_cons_zero, List.set_cons_succ, i64_w, i32_w]
                  rfl
                refine pure_ (i := 13) (N := some 66) (v := ?_) (a' := ?_) #[true, true, true, true, true, true, true, true, true, true, false, true, true, true, false, false, false, false, false, false, false, false, false, false, false, false, false, false, false, false, false, false, false, false, false, false, false, false, false, false, false, false, false, false, false, false] rfl rfl (any_of HT_.out (by kernel_rfl)) (fun _ _ _ h => h) (Or.inl ⟨by rfl, ?_⟩) ?_ ?_
                rotate_left
                · intro w'
                  go_simp
                  with_reducible rfl
                rotate_left
                · simp only [Act.put, List.setIfInBounds_toArray, List.set_cons_zero, List.set_cons_succ, i64_w, i32_w]
                  rfl
                refine take_ (i := 14) (N := some 67) (v := ?_) (a' := ?_) #[true, true, true, true, true, true, true, true, true, true, false, true, true, true, true, false, false, false, false, false, false, false, false, false, false, false, false, false, false, false, false, false, false, false, false, false, false, false, false, false, false, false, false, false, false, false] rfl rfl (take_ofW HT_.out HW_.out (by kernel_rfl)) (fun _ _ _ h => h) (Or.inl ⟨by rfl, ?_⟩) hHeld ?_ ?_
                rotate_left
                · intro w' s0
                  obtain ⟨s1, s2, s3⟩ := s0
                  go_simp
                  with_reducible rfl
                rotate_left
                · simp only [Act.put, List.setIfInBounds_toArray, List.set_cons_zero, List.set_cons_succ, i64_w, i32_w]
                  rfl
                refine one_ (i := 10) (N := some 63) #[true, true, true, true, true, true, true, true, true, true, true, true, true, true, true, false, false, false, false, false, false, false, false, false, false, false, false, false, false, false, false, false, false, false, false, false, false, false, false, false, false, false, false, false, false, false] rfl rfl (one_of HT_.out (by kernel_rfl)) (by decide) (fun K hK => ?_)
                refine goes_ Try.func19 (by kernel_rfl) rfl #[.pointer (some ⟨gw, 0, none⟩)] (by rfl) rfl rfl (by (try simp only [List.map_toArray, List.map_cons, List.map_nil]); first | done | rfl | (simp only [List.length_drop, List.length_take]; rfl)) ?_
                refine (gen_Used gw l0 u1 _ _ w5 w _ g5 HIb.out HBb.out rfl).mono ?_
                rintro e wc ⟨rfl, hIc, hBc, hKc⟩
                have HIc := Aside0.mk hIc
                have HBc := Aside0.mk hBc
                have HGc := Aside0.mk (hKc.blk HGb.out (by omega) (by simp))
                clear hIc hBc hKc
                obtain ⟨ad4, e4, hx4⟩ := Kd.at_int (Kd.C_below HR1.out HBc.out) (i2 : Int) p1 q1
                cases e4
                simp only [Int.toNat_natCast] at hx4
                have HS_ := show _ ∧ _ ∧ _ from ⟨hx4, ref_cell0 HGc.out, ref_cell1 HGc.out⟩
                clear hx4
                refine ⟨_, rfl, ?_⟩
                refine hK.out _ _ HS_ (fun hHeld => ?_)
                clear hK K
                refine norm_ (a' := ?_) ?_ ?_
                rotate_left
                · show Act.put _ (some 63) _ = _
                  simp only [Act.put, List.setIfInBounds_toArray, List.set_cons_zero, List.set_cons_succ, i64_w, i32_w]
                  rfl
                refine pure_ (i := 15) (N := some 68) (v := ?_) (a' := ?_) #[true, true, true, true, true, true, true, true, true, true, true, true, true, true, true, true, false, false, false, false, false, false, false, false, false, false, false, false, false, false, false, false, false, false, false, false, false, false, false, false, false, false, false, false, false, false] rfl rfl (any_of HT_.out (by kernel_rfl)) (fun _ _ _ h => h) (Or.inl ⟨by rfl, ?_⟩) ?_ ?_
                rotate_left
                · intro w'
                  go_simp
                  with_reducible rfl
                rotate_left
                · simp only [Act.put, List.setIfInBounds_toArray, List.set_cons_zero, List.set_cons_succ, i64_w, i32_w]
                  rfl
                refine pure_ (i := 16) (N := some 69) (v := ?_) (a' := ?_) #[true, true, true, true, true, true, true, true, true, true, true, true, true, true, true, true, true, false, false, false, false, false, false, false, false, false, false, false, false, false, false, false, false, false, false, false, false, false, false, false, false, false, false, false, false, false] rfl rfl (any_of HT_.out (by kernel_rfl)) (fun _ _ _ h => h) (Or.inl ⟨by rfl, ?_⟩) ?_ ?_
                rotate_left
                · intro w'
                  go_simp
                  with_reducible rfl
                rotate_left
                · simp only [Act.put, List.setIfInBounds_toArray, List.set_cons_zero, List.set_cons_succ, i64_w, i32_w]
                  rfl
                refine pure_ (i := 17) (N := some 70) (v := ?_) (a' := ?_) #[true, true, true, true, true, true, true, true, true, true, true, true, true, true, true, true, true, true, false, false, false, false, false, false, false, false, false, false, false, false, false, false, false, false, false, false, false, false, false, false, false, false, false, false, false, false] rfl rfl (any_of HT_.out (by kernel_rfl)) (fun _ _ _ h => h) (Or.inl ⟨by rfl, ?_⟩) ?_ ?_
                rotate_left
                · intro w'
                  go_simp
                  with_reducible rfl
                rotate_left
                · simp only [Act.put, List.setIfInBounds_toArray, List.set_cons_zero, List.set_cons_succ, i64_w, i32_w]
                  rfl
                refine pure_ (i := 18) (N := some 71) (v := ?_) (a' := ?_) #[true, true, true, true, true, true, true, true, true, true, true, true, true, true, true, true, true, true, true, false, false, false, false, false, false, false, false, false, false, false, false, false, false, false, false, false, false, false, false, false, false, false, false, false, false, false] rfl rfl (any_of HT_.out (by kernel_rfl)) (fun _ _ _ h => h) (Or.inl ⟨by rfl, ?_⟩) ?_ ?_
                rotate_left
                · intro w'
                  go_simp
                  with_reducible rfl
                rotate_left
                · simp only [Act.put, List.setIfInBounds_toArray, List.set_cons_zero, List.set_cons_succ, i64_w, i32_w]
                  rfl
                refine pure_ (i := 20) (N := some 73) (v := ?_) (a' := ?_) #[true, true, true, true, true, true, true, true, true, true, true, true, true, true, true, true, true, true, true, false, true, false, false, false, false, false, false, false, false, false, false, false, false, false, false, false, false, false, false, false, false, false, false, false, false, false] rfl rfl (any_of HT_.out (by kernel_rfl)) (fun _ _ _ h => h) (Or.inl ⟨by rfl, ?_⟩) ?_ ?_
                rotate_left
                · intro w'
                  go_simp
                  with_reducible rfl
                rotate_left
                · simp only [Act.put, List.setIfInBounds_toArray, List.set_cons_zero, List.set_cons_succ, i64_w, i32_w]
                  rfl
                refine pure_ (i := 21) (N := some 74) (v := ?_) (a' := ?_) #[true, true, true, true, true, true, true, true, true, true, true, true, true, true, true, true, true, true, true, false, true, true, false, false, false, false, false, false, false, false, false, false, false, false, false, false, false, false, false, false, false, false, false, false, false, false] rfl rfl (any_of HT_.out (by kernel_rfl)) (fun _ _ _ h => h) (Or.inl ⟨by rfl, ?_⟩) ?_ ?_
                rotate_left
                · intro w'
                  go_simp
                  with_reducible rfl
                rotate_left
                · simp only [Act.put, List.setIfInBounds_toArray, List.set_cons_zero, List.set_cons_succ, i64_w, i32_w]
                  rfl
                refine pure_ (i := 22) (N := some 75) (v := ?_) (a' := ?_) #[true, true, true, true, true, true, true, true, true, true, true, true, true, true, true, true, true, true, true, false, true, true, true, false, false, false, false, false, false, false, false, false, false, false, false, false, false, false, false, false, false, false, false, false, false, false] rfl rfl (any_of HT_.out (by kernel_rfl)) (fun _ _ _ h => h) (Or.inl ⟨by rfl, ?_⟩) ?_ ?_
                rotate_left
                · intro w'
                  go_simp
                  with_reducible rfl
                rotate_left
                · simp only [Act.put, List.setIfInBounds_toArray, List.set_cons_zero, List.set_cons_succ, i64_w, i32_w]
                  rfl
                refine take_ (i := 23) (N := some 76) (v := ?_) (a' := ?_) #[true, true, true, true, true, true, true, true, true, true, true, true, true, true, true, true, true, true, true, false, true, true, true, true, false, false, false, false, false, false, false, false, false, false, false, false, false, false, false, false, false, false, false, false, false, false] rfl rfl (take_ofW HT_.out HW_.out (by kernel_rfl)) (fun _ _ _ h => h) (Or.inl ⟨by rfl, ?_⟩) hHeld ?_ ?_
                rotate_left
                · intro w' s0
                  obtain ⟨s1, s2, s3⟩ := s0
                  go_simp
                  with_reducible rfl
                rotate_left
                · simp only [Act.put, List.setIfInBounds_toArray, List.set_cons_zero, List.set_cons_succ, i64_w, i32_w]
                  rfl
                refine pure_ (i := 24) (N := some 77) (v := ?_) (a' := ?_) #[true, true, true, true, true, true, true, true, true, true, true, true, true, true, true, true, true, true, true, false, true, true, true, true, true, false, false, false, false, false, false, false, false, false, false, false, false, false, false, false, false, false, false, false, false, false] rfl rfl (any_of HT_.out (by kernel_rfl)) (fun _ _ _ h => h) (Or.inl ⟨by rfl, ?_⟩) ?_ ?_
                rotate_left
                · intro w'
                  go_simp
                  with_reducible rfl
                rotate_left
                · simp only [Act.put, List.setIfInBounds_toArray, List.set_cons_zero, List.set_cons_succ, i64_w, i32_w]
                  rfl
                refine one_ (i := 19) (N := some 72) #[true, true, true, true, true, true, true, true, true, true, true, true, true, true, true, true, true, true, true, true, true, true, true, true, true, false, false, false, false, false, false, false, false, false, false, false, false, false, false, false, false, false, false, false, false, false] rfl rfl (one_of HT_.out (by kernel_rfl)) (by decide) (fun K hK => ?_)
                refine goes_ Try.func20 (by kernel_rfl) rfl #[.pointer (some ⟨gw, 0, none⟩)] (by rfl) rfl rfl (by (try simp only [List.map_toArray, List.map_cons, List.map_nil]); first | done | rfl | (simp only [List.length_drop, List.length_take]; rfl)) ?_
                refine (gen_Left gw l0 u1 _ _ w5 w _ g5 HIc.out HBc.out rfl).mono ?_
                rintro e wd ⟨rfl, hId, hBd, hKd⟩
                have HId := Aside0.mk hId
                have HBd := Aside0.mk hBd
                have HGd := Aside0.mk (hKd.blk HGc.out (by omega) (by simp))
                clear hId hBd hKd
                obtain ⟨ad4, e4, hx4⟩ := Kd.at_int (Kd.C_below HR1.out HBd.out) (i2 : Int) p1 q1
                cases e4
                simp only [Int.toNat_natCast] at hx4
                have HS_ := show _ ∧ _ ∧ _ from ⟨hx4, ref_cell0 HGd.out, ref_cell1 HGd.out⟩
                clear hx4
                refine ⟨_, rfl, ?_⟩
                refine hK.out _ _ HS_ (fun hHeld => ?_)
                clear hK K
                refine norm_ (a' := ?_) ?_ ?_
                rotate_left
                · show Act.put _ (some 72) _ = _
                  simp only [Act.put, List.setIfInBounds_toArray, List.set_cons_zero, List.set_cons_succ, i64_w, i32_w]
                  rfl
                refine pure_ (i := 25) (N := some 78) (v := ?_) (a' := ?_) #[true, true, true, true, true, true, true, true, true, true, true, true, true, true, true, true, true, true, true, true, true, true, true, true, true, true, false, false, false, false, false, false, false, false, false, false, false, false, false, false, false, false, false, false, false, false] rfl rfl (any_of HT_.out (by kernel_rfl)) (fun _ _ _ h => h) (Or.inl ⟨by rfl, ?_⟩) ?_ ?_
                rotate_left
                · intro w'
                  go_simp
                  with_reducible rfl
                rotate_left
                · simp only [Act.put, List.setIfInBounds_toArray, List.set_cons_zero, List.set_cons_succ, i64_w, i32_w]
                  rfl
                refine pure_ (i := 26) (N := some 79) (v := ?_) (a' := ?_) #[true, true, true, true, true, true, true, true, true, true, true, true, true, true, true, true, true, true, true, true, true, true, true, true, true, true, true, false, false, false, false, false, false, false, false, false, false, false, false, false, false, false, false, false, false, false] rfl rfl (any_of HT_.out (by kernel_rfl)) (fun _ _ _ h => h) (Or.inl ⟨by rfl, ?_⟩) ?_ ?_
                rotate_left
                · intro w'
                  go_simp
                  with_reducible rfl
                rotate_left
                · simp only [Act.put, List.setIfInBounds_toArray, List.set_cons_zero, List.set_cons_succ, i64_w, i32_w]
                  rfl
                refine pure_ (i := 27) (N := some 80) (v := ?_) (a' := ?_) #[true, true, true, true, true, true, true, true, true, true, true, true, true, true, true, true, true, true, true, true, true, true, true, true, true, true, true, true, false, false, false, false, false, false, false, false, false, false, false, false, false, false, false, false, false, false] rfl rfl (any_of HT_.out (by kernel_rfl)) (fun _ _ _ h => h) (Or.inl ⟨by rfl, ?_⟩) ?_ ?_
                rotate_left
                · intro w'
                  go_simp
                  with_reducible rfl
                rotate_left
                · simp only [Act.put, List.setIfInBounds_toArray, List.set_cons_zero, List.set_cons_succ, i64_w, i32_w]
                  rfl
                refine pure_ (i := 28) (N := some 81) (v := ?_) (a' := ?_) #[true, true, true, true, true, true, true, true, true, true, true, true, true, true, true, true, true, true, true, true, true, true, true, true, true, true, true, true, true, false, false, false, false, false, false, false, false, false, false, false, false, false, false, false, false, false] rfl rfl (any_of HT_.out (by kernel_rfl)) (fun _ _ _ h => h) (Or.inl ⟨by rfl, ?_⟩) ?_ ?_
                rotate_left
                · intro w'
                  go_simp
                  with_reducible rfl
                rotate_left
                · simp only [Act.put, List.setIfInBounds_toArray, List.set_cons_zero, List.set_cons_succ, i64_w, i32_w]
                  rfl
                refine pure_ (i := 29) (N := some 82) (v := ?_) (a' := ?_) #[true, true, true, true, true, true, true, true, true, true, true, true, true, true, true, true, true, true, true, true, true, true, true, true, true, true, true, true, true, true, false, false, false, false, false, false, false, false, false, false, false, false, false, false, false, false] rfl rfl (any_of HT_.out (by kernel_rfl)) (fun _ _ _ h => h) (Or.inl ⟨by rfl, ?_⟩) ?_ ?_
                rotate_left
                · intro w'
                  go_simp
                  with_reducible rfl
                rotate_left
                · simp only [Act.put, List.setIfInBounds_toArray, List.set_cons_zero, List.set_cons_succ, i64_w, i32_w]
                  rfl
                refine pure_ (i := 30) (N := some 83) (v := ?_) (a' := ?_) #[true, true, true, true, true, true, true, true, true, true, true, true, true, true, true, true, true, true, true, true, true, true, true, true, true, true, true, true, true, true, true, false, false, false, false, false, false, false, false, false, false, false, false, false, false, false] rfl rfl (any_of HT_.out (by kernel_rfl)) (fun _ _ _ h => h) (Or.inl ⟨by rfl, ?_⟩) ?_ ?_
                rotate_left
                · intro w'
                  go_simp
                  with_reducible rfl
                rotate_left
                · simp only [Act.put, List.setIfInBounds_toArray, List.set_cons_zero, List.set_cons_succ, i64_w, i32_w]
                  rfl
                refine take_ (i := 31) (N := some 84) (v := ?_) (a' := ?_) #[true, true, true, true, true, true, true, true, true, true, true, true, true, true, true, true, true, true, true, true, true, true, true, true, true, true, true, true, true, true, true, true, false, false, false, false, false, false, false, false, false, false, false, false, false, false] rfl rfl (take_ofW HT_.out HW_.out (by kernel_rfl)) (fun _ _ _ h => h) (Or.inl ⟨by rfl, ?_⟩) hHeld ?_ ?_
                rotate_left
                · intro w' s0
                  obtain ⟨s1, s2, s3⟩ := s0
                  go_simp
                  with_reducible rfl
                rotate_left
                · simp only [Act.put, List.setIfInBounds_toArray, List.set_cons_zero, List.set_cons_succ, i64_w, i32_w]
                  rfl
                refine pure_ (i := 32) (N := some 85) (v := ?_) (a' := ?_) #[true, true, true, true, true, true, true, true, true, true, true, true, true, true, true, true, true, true, true, true, true, true, true, true, true, true, true, true, true, true, true, true, true, false, false, false, false, false, false, false, false, false, false, false, false, false] rfl rfl (any_of HT_.out (by kernel_rfl)) (fun _ _ _ h => h) (Or.inl ⟨by rfl, ?_⟩) ?_ ?_
                rotate_left
                · intro w'
                  go_simp
                  with_reducible rfl
                rotate_left
                · simp only [Act.put, List.setIfInBounds_toArray, List.set_cons_zero, List.set_cons_succ, i64_w, i32_w]
                  rfl
                refine pure_ (i := 33) (N := some 86) (v := ?_) (a' := ?_) #[true, true, true, true, true, true, true, true, true, true, true, true, true, true, true, true, true, true, true, true, true, true, true, true, true, true, true, true, true, true, true, true, true, true, false, false, false, false, false, false, false, false, false, false, false, false] rfl rfl (any_of HT_.out (by kernel_rfl)) (fun _ _ _ h => h) (Or.inl ⟨by rfl, ?_⟩) ?_ ?_
                rotate_left
                · intro w'
                  go_simp
                  with_reducible rfl
                rotate_left
                · simp only [Act.put, List.setIfInBounds_toArray, List.set_cons_zero, List.set_cons_succ, i64_w, i32_w]
                  rfl
                refine pure_ (i := 34) (N := some 87) (v := undef) (a' := ?_) #[true, true, true, true, true, true, true, true, true, true, true, true, true, true, true, true, true, true, true, true, true, true, true, true, true, true, true, true, true, true, true, true, true, true, true, false, false, false, false, false, false, false, false, false, false, false] rfl rfl (any_of HT_.out (by kernel_rfl)) (fun _ _ _ h => h) (Or.inr ⟨by rfl, rfl⟩) ?_ ?_
                rotate_left
                · simp only [Act.put, List.setIfInBounds_toArray, List.set_cons_zero, List.set_cons_succ, i64_w, i32_w]
                  rfl
                refine pure_ (i := 35) (N := some 88) (v := undef) (a' := ?_) #[true, true, true, true, true, true, true, true, true, true, true, true, true, true, true, true, true, true, true, true, true, true, true, true, true, true, true, true, true, true, true, true, true, true, true, true, false, false, false, false, false, false, false, false, false, false] rfl rfl (any_of HT_.out (by kernel_rfl)) (fun _ _ _ h => h) (Or.inr ⟨by rfl, rfl⟩) ?_ ?_
                rotate_left
                · simp only [Act.put, List.setIfInBounds_toArray, List.set_cons_zero, List.set_cons_succ, i64_w, i32_w]
                  rfl
                refine pure_ (i := 36) (N := some 89) (v := undef) (a' := ?_) #[true, true, true, true, true, true, true, true, true, true, true, true, true, true, true, true, true, true, true, true, true, true, true, true, true, true, true, true, true, true, true, true, true, true, true, true, true, false, false, false, false, false, false, false, false, false] rfl rfl (any_of HT_.out (by kernel_rfl)) (fun _ _ _ h => h) (Or.inr ⟨by rfl, rfl⟩) ?_ ?_
                rotate_left
                · simp only [Act.put, List.setIfInBounds_toArray, List.set_cons_zero, List.set_cons_succ, i64_w, i32_w]
                  rfl
                refine pure_ (i := 37) (N := some 90) (v := undef) (a' := ?_) #[true, true, true, true, true, true, true, true, true, true, true, true, true, true, true, true, true, true, true, true, true, true, true, true, true, true, true, true, true, true, true, true, true, true, true, true, true, true, false, false, false, false, false, false, false, false] rfl rfl (any_of HT_.out (by kernel_rfl)) (fun _ _ _ h => h) (Or.inr ⟨by rfl, rfl⟩) ?_ ?_
                rotate_left
                · simp only [Act.put, List.setIfInBounds_toArray, List.set_cons_zero, List.set_cons_succ, i64_w, i32_w]
                  rfl
                refine pure_ (i := 38) (N := some 91) (v := undef) (a' := ?_) #[true, true, true, true, true, true, true, true, true, true, true, true, true, true, true, true, true, true, true, true, true, true, true, true, true, true, true, true, true, true, true, true, true, true, true, true, true, true, true, false, false, false, false, false, false, false] rfl rfl (any_of HT_.out (by kernel_rfl)) (fun _ _ _ h => h) (Or.inr ⟨by rfl, rfl⟩) ?_ ?_
                rotate_left
                · simp only [Act.put, List.setIfInBounds_toArray, List.set_cons_zero, List.set_cons_succ, i64_w, i32_w]
                  rfl
                refine pure_ (i := 39) (N := some 92) (v := undef) (a' := ?_) #[true, true, true, true, true, true, true, true, true, true, true, true, true, true, true, true, true, true, true, true, true, true, true, true, true, true, true, true, true, true, true, true, true, true, true, true, true, true, true, true, false, false, false, false, false, false] rfl rfl (any_of HT_.out (by kernel_rfl)) (fun _ _ _ h => h) (Or.inr ⟨by rfl, rfl⟩) ?_ ?_
                rotate_left
                · simp only [Act.put, List.setIfInBounds_toArray, List.set_cons_zero, List.set_cons_succ, i64_w, i32_w]
                  rfl
                refine pure_ (i := 40) (N := some 93) (v := undef) (a' := ?_) #[true, true, true, true, true, true, true, true, true, true, true, true, true, true, true, true, true, true, true, true, true, true, true, true, true, true, true, true, true, true, true, true, true, true, true, true, true, true, true, true, true, false, false, false, false, false] rfl rfl (any_of HT_.out (by kernel_rfl)) (fun _ _ _ h => h) (Or.inr ⟨by rfl, rfl⟩) ?_ ?_
                rotate_left
                · simp only [Act.put, List.setIfInBounds_toArray, List.set_cons_zero, List.set_cons_succ, i64_w, i32_w]
                  rfl
                refine pure_ (i := 41) (N := some 94) (v := undef) (a' := ?_) #[true, true, true, true, true, true, true, true, true, true, true, true, true, true, true, true, true, true, true, true, true, true, true, true, true, true, true, true, true, true, true, true, true, true, true, true, true, true, true, true, true, true, false, false, false, false] rfl rfl (any_of HT_.out (by kernel_rfl)) (fun _ _ _ h => h) (Or.inr ⟨by rfl, rfl⟩) ?_ ?_
                rotate_left
                · simp only [Act.put, List.setIfInBounds_toArray, List.set_cons_zero, List.set_cons_succ, i64_w, i32_w]
                  rfl
                refine pure_ (i := 42) (N := some 95) (v := undef) (a' := ?_) #[true, true, true, true, true, true, true, true, true, true, true, true, true, true, true, true, true, true, true, true, true, true, true, true, true, true, true, true, true, true, true, true, true, true, true, true, true, true, true, true, true, true, true, false, false, false] rfl rfl (any_of HT_.out (by kernel_rfl)) (fun _ _ _ h => h) (Or.inr ⟨by rfl, rfl⟩) ?_ ?_
                rotate_left
                · simp only [Act.put, List.setIfInBounds_toArray, List.set_cons_zero, List.set_cons_succ, i64_w, i32_w]
                  rfl
                refine pure_ (i := 43) (N := some 96) (v := undef) (a' := ?_) #[true, true, true, true, true, true, true, true, true, true, true, true, true, true, true, true, true, true, true, true, true, true, true, true, true, true, true, true, true, true, true, true, true, true, true, true, true, true, true, true, true, true, true, true, false, false] rfl rfl (any_of HT_.out (by kernel_rfl)) (fun _ _ _ h => h) (Or.inr ⟨by rfl, rfl⟩) ?_ ?_
                rotate_left
                · simp only [Act.put, List.setIfInBounds_toArray, List.set_cons_zero, List.set_cons_succ, i64_w, i32_w]
                  rfl
                refine pure_ (i := 44) (N := some 97) (v := ?_) (a' := ?_) #[true, true, true, true, true, true, true, true, true, true, true, true, true, true, true, true, true, true, true, true, true, true, true, true, true, true, true, true, true, true, true, true, true, true, true, true, true, true, true, true, true, true, true, true, true, false] rfl rfl (any_of HT_.out (by kernel_rfl)) (fun _ _ _ h => h) (Or.inl ⟨by rfl, ?_⟩) ?_ ?_
                rotate_left
                · intro w'
                  go_simp
                  with_reducible rfl
                rotate_left
                · simp only [Act.put, List.setIfInBounds_toArray, List.set_cons_zero, List.set_cons_succ, i64_w, i32_w]
                  rfl
                refine pure_ (i := 45) (N := some 98) (v := ?_) (a' := ?_) #[true, true, true, true, true, true, true, true, true, true, true, true, true, true, true, true, true, true, true, true, true, true, true, true, true, true, true, true, true, true, true, true, true, true, true, true, true, true, true, true, true, true, true, true, true, true] rfl rfl (any_of HT_.out (by kernel_rfl)) (fun _ _ _ h => h) (Or.inl ⟨by rfl, ?_⟩) ?_ ?_
                rotate_left
                · intro w'
                  go_simp
                  with_reducible rfl
                rotate_left
                · simp only [Act.put, List.setIfInBounds_toArray, List.set_cons_zero, List.set_cons_succ, i64_w, i32_w]
                  rfl
                refine done_ (done_of HT_.out (by kernel_rfl)) ?_
                have HFd : Aside0 (Rf w wd gr l0 u1) := ⟨A2, c2, HGd.out, HCb.out, HRb.out⟩
                go_wp2_with (fail)
                go_roundg k3
                case measure => have := HK2.out; omega
                case rel => exact ⟨i2 + 1, u1, by first | rfl | (rw [wsucc i2 (by omega)]), ⟨by omega⟩, ⟨by have := HK2.out; omega⟩, HBd, HId, HFd⟩
            · have d3 : decide ((i2 : Int) < (l1.length : Int)) = false := decide_eq_false (by omega)
              go_wp2_with (fail)
              go_ret
              exact ⟨rfl, HB2.out⟩
theorem rd_most {l : List Int} (h : ∀ x ∈ l, (Lit.int .i64 x).wf = true) (i : Int) : rd l i ≤ 9223372036854775807 := by
  unfold rd
  rw [List.getD_eq_getElem?_getD]
  cases e : l[i.toNat]? with
  | none => simp
  | some v =>
    have := h v (List.mem_of_getElem? e)
    simp only [Option.getD_some]
    simp [Lit.wf, IntKind.min, IntKind.max, IntKind.signed, IntKind.bits] at this
    omega
set_option maxHeartbeats 2000000 in
set_option maxRecDepth 100000 in
theorem chooses_long (A0 : Option Addr) (c0 : Nat) (l0 : List Int) (A1 : Option Addr) (c1 : Nat) (l1 : List Int) (w : World) (h0 : 60 < l0.length ∨ 60 < l1.length) :
    Calls Try.prog 3 #[.slice A0 l0.length c0, .slice A1 l1.length c1] w fun e w' => e = .returned (.bool true) ∧ Below w.heap.size w w' := by
  obtain ⟨ka, hka⟩ := awake_k
  by_cases h : 60 < l0.length
  · have d0 : decide (60 < (l0.length : Int)) = true := decide_eq_true (by omega)
    clear h0 h
    go_enter Try.func3, Try.ntmps3
    go_wp2_with (fail)
    refine (ballcocklaw21_awake.calls ka true _ hka).mono ?_
    rintro e w1 ⟨rfl, hb1⟩
    go_wp2_with (fail)
    refine (ballcocklaw21_awake.calls ka true _ hka).mono ?_
    rintro e w2 ⟨rfl, hb2⟩
    go_wp2_with (fail)
    go_ret
    exact ⟨rfl, below_step hb1 hb2⟩
  · have d0 : decide (60 < (l0.length : Int)) = false := decide_eq_false (by omega)
    have d1 : decide (60 < (l1.length : Int)) = true := decide_eq_true (by omega)
    clear h0 h
    go_enter Try.func3, Try.ntmps3
    go_wp2_with (fail)
    refine (ballcocklaw21_awake.calls ka true _ hka).mono ?_
    rintro e w1 ⟨rfl, hb1⟩
    go_wp2_with (fail)
    refine (ballcocklaw21_awake.calls ka true _ hka).mono ?_
    rintro e w2 ⟨rfl, hb2⟩
    go_wp2_with (fail)
    go_ret
    exact ⟨rfl, below_step hb1 hb2⟩
theorem chooses_calls (A0 : Option Addr) (c0 : Nat) (l0 : List Int) (A1 : Option Addr) (c1 : Nat) (l1 : List Int) (w : World) (hr0 : Kd.C (Kd.int .i64) w A0 l0.length l0) (hc0 : l0.length ≤ c0) (hr1 : Kd.C (Kd.int .i64) w A1 l1.length l1) (hc1 : l1.length ≤ c1) (hz : ∀ i : Int, rd l1 i ≤ 9223372036854775807) :
    Calls Try.prog 3 #[.slice A0 l0.length c0, .slice A1 l1.length c1] w fun e w' => e = .returned (.bool true) ∧ Below w.heap.size w w' := by
  by_cases h : 60 < l0.length ∨ 60 < l1.length
  · exact chooses_long A0 c0 l0 A1 c1 l1 w h
  · exact chooses_main A0 c0 l0 A1 c1 l1 w hr0 hc0 hr1 hc1 (by omega) (by omega) hz
theorem chooses_walk (a0 : Option Addr) (len0 cap0 : Nat) (z0 : List Int) (a1 : Option Addr) (len1 cap1 : Nat) (z1 : List Int) (w : World) (w0 : (a0 = none ∧ len0 = 0 ∧ cap0 = 0 ∧ z0 = []) ∨ ∃ x, a0 = some x ∧ len0 ≤ cap0 ∧ cap0 ≤ maxLen ∧ z0.length = cap0 ∧ (∀ i, i < z0.length → w.cell? (x.add i) = some (.int .i64 (z0.getD i 0))) ∧ ∀ n ∈ z0, (Lit.int .i64 n).wf = true) (w1 : (a1 = none ∧ len1 = 0 ∧ cap1 = 0 ∧ z1 = []) ∨ ∃ x, a1 = some x ∧ len1 ≤ cap1 ∧ cap1 ≤ maxLen ∧ z1.length = cap1 ∧ (∀ i, i < z1.length → w.cell? (x.add i) = some (.int .i64 (z1.getD i 0))) ∧ ∀ n ∈ z1, (Lit.int .i64 n).wf = true) :
    Calls Try.prog 3 #[.slice a0 len0 cap0, .slice a1 len1 cap1] w fun e w' => e = .returned (.bool true) ∧ Below w.heap.size w w' := by
  obtain ⟨l0, rfl, hr0, hm0, hw0, hc0⟩ := ReadsInt.ofRowC w0
  obtain ⟨l1, rfl, hr1, hm1, hw1, hc1⟩ := ReadsInt.ofRowC w1
  exact chooses_calls _ _ l0 _ _ l1 w (Kd.C_of_reads (d := (0 : Int)) (h1 := fun _ => rfl) hr0) hc0 (Kd.C_of_reads (d := (0 : Int)) (h1 := fun _ => rfl) hr1) hc1 (rd_most hw1)
end Go.Proofs.Ytbnligfjcmmjpaa.PWfWorldApart
