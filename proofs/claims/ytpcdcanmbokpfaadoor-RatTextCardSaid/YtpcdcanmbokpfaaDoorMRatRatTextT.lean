/-
Of a right fraction, the text that rat.Show hands back tells its numbers: the walk of the law RatText and its plain law. The table internal/strconv.uint64pow10 reads as its initialiser lays it (the row lists it).
-/
import Derived.Test.YtpcdcanmbokpfaaDoorMRatShowT
namespace Go.Proofs.YtpcdcanmbokpfaaDoor.PRat
open Go Go.RowKit Go.Proofs.YtpcdcanmbokpfaaDoorW.PrintWords Go.Proofs.YtpcdcanmbokpfaaDoorW.PrintLast Go.Proofs.YtpcdcanmbokpfaaDoorW.PrintMore BallQ
attribute [local go_sem] max2_int min2_int max_two min_two max_three min_three max_four min_four
set_option linter.unusedVariables false
set_option linter.unusedSimpArgs false
def run : List UInt8 → Bool → Int → Int → Bool → Bool → Option (Int × Int × Bool × Bool)
  | [], _, x, y, m, b => some (x, y, m, b)
  | c :: l, f, x, y, m, b => if (c.toNat : Int) = 45 ∧ f = true then run l false x y true b else if (c.toNat : Int) = 47 ∧ b = false then run l false x y m true
    else if 48 ≤ (c.toNat : Int) ∧ (c.toNat : Int) ≤ 57 then (if b = true then run l false x (wrap64 (wrap64 (10 * y) + ((c.toNat : Int) - 48))) m b else run l false (wrap64 (wrap64 (10 * x) + ((c.toNat : Int) - 48))) y m b) else none
theorem run_at {s : ByteArray} {i : Nat} (hi : i < s.size) {f : Bool} {x y : Int} {m b : Bool} {r : Int × Int × Bool × Bool} (h : run (s.data.toList.drop i) f x y m b = some r) :
    (((s[i]'hi).toNat : Int) = 45 ∧ f = true ∧ run (s.data.toList.drop (i + 1)) false x y true b = some r) ∨
    (¬ (((s[i]'hi).toNat : Int) = 45 ∧ f = true) ∧ ((s[i]'hi).toNat : Int) = 47 ∧ b = false ∧ run (s.data.toList.drop (i + 1)) false x y m true = some r) ∨
    (48 ≤ ((s[i]'hi).toNat : Int) ∧ ((s[i]'hi).toNat : Int) ≤ 57 ∧ ((b = true ∧ run (s.data.toList.drop (i + 1)) false x (wrap64 (wrap64 (10 * y) + (((s[i]'hi).toNat : Int) - 48))) m true = some r) ∨ (b = false ∧ run (s.data.toList.drop (i + 1)) false (wrap64 (wrap64 (10 * x) + (((s[i]'hi).toNat : Int) - 48))) y m false = some r))) := by
  have hl : i < s.data.toList.length := by rw [Array.length_toList]; exact hi
  rw [List.drop_eq_getElem_cons hl] at h
  have e : s.data.toList[i] = s[i]'hi := by simp; rfl
  rw [e] at h
  unfold run at h
  split at h
  · rename_i h1; exact .inl ⟨h1.1, h1.2, h⟩
  · rename_i h1
    split at h
    · rename_i h2; exact .inr (.inl ⟨h1, h2.1, h2.2, h⟩)
    · split at h
      · rename_i h3
        refine .inr (.inr ⟨h3.1, h3.2, ?_⟩)
        split at h
        · rename_i h4; subst h4; exact .inl ⟨rfl, h⟩
        · rename_i h4
          have : b = false := by simpa using h4
          subst this
          exact .inr ⟨rfl, h⟩
      · cases h
set_option maxHeartbeats 4000000 in
set_option maxRecDepth 100000 in
theorem text_good (n d : Int) (hn : In64 n) (hd : In64 d) (h : Right n d) (w : World) (ht : Tab w) (s : ByteArray) (hs : tx n d = s) (hsz : s.size ≤ 50) (fx fy : Int) (fm fb : Bool) (hrun : run s.data.toList true 0 0 false false = some (fx, fy, fm, fb)) (hfn : (if fm = true then wrap64 (-fx) else fx) = n) (hfd : (if fb = true then fy else 1) = d) :
    Calls Tryd.prog 3 #[.agg #[.int .i64 n, .int .i64 d]] w fun e w' => e = .returned (.bool true) ∧ Below w.heap.size w w' := by
  obtain ⟨k, hk⟩ := Ev.rounds (right_ev n d hn hd)
  rw [decide_eq_true h] at hk
  have HC := Aside0.mk (fun W => rat_Right.calls k n d true W hk)
  obtain ⟨ka, hka⟩ := Ev.rounds awake_ev
  have HA := Aside0.mk (fun W => ballcocklaw01_awake.calls ka true W hka)
  have HS := Aside0.mk (show_c n d hn hd h)
  rw [hs] at HS
  have HX := Aside0.mk (show (w.alloc (.cells #[.int .i64 n, .int .i64 d] 23 (0, 0))).heap[w.heap.size]? = some (.cells #[.int .i64 n, .int .i64 d] 23 (0, 0)) by simpa using heap_alloc_new w _)
  have HB := Aside0.mk (below_alloc (Below.refl w.heap.size w) (.cells #[.int .i64 n, .int .i64 d] 23 (0, 0)))
  have HT := Aside0.mk ht
  have HZ := Aside0.mk hsz
  have HU := Aside0.mk hrun
  have HF := Aside0.mk (show (if fm = true then wrap64 (-fx) else fx) = n ∧ (if fb = true then fy else 1) = d from ⟨hfn, hfd⟩)
  clear hk ht hn hd hs hka hsz hrun hfn hfd
  go_enter Tryd.func3, Tryd.ntmps3
  go_wp2_with (fail)
  refine (HA.out _).mono ?_
  rintro e W1 ⟨rfl, hb⟩
  replace HX := Aside0.mk (blk_below HX.out hb)
  replace HB := Aside0.mk (below_step HB.out hb)
  clear hb HA
  have k0 := (bl1 HX.out).1
  have k1 := (bl1 HX.out).2
  go_wp2_with (fail)
  refine (HC.out _).mono ?_
  rintro e W2 ⟨rfl, hb⟩
  replace HX := Aside0.mk (blk_below HX.out hb)
  replace HB := Aside0.mk (below_step HB.out hb)
  clear hb HC k0 k1
  have k0 := (bl1 HX.out).1
  have k1 := (bl1 HX.out).2
  go_wp2_with (fail)
  refine (HS.out _ (HT.out.on HB.out)).mono ?_
  rintro e W3 ⟨rfl, hb⟩
  replace HX := Aside0.mk (blk_below HX.out hb)
  replace HB := Aside0.mk (below_step HB.out hb)
  clear hb HS k0 k1
  go_wp2_with (fail)
  obtain ⟨kk, hkk⟩ : ∃ k : Nat, k = s.size + 1 := ⟨_, rfl⟩
  go_loopg [4, 5, 6, 7, 8] kk (fun kq v4 v5 v6 v7 v8 W => ∃ (i : Nat) (x y : Int) (m b : Bool), v4 = .int .i64 x ∧ v5 = .int .i64 y ∧ v6 = .bool m ∧ v7 = .bool b ∧ v8 = .int .i64 (i : Int) ∧ Aside0 (i ≤ s.size ∧ s.size < i + kq) ∧ Aside0 (kq ≤ kk) ∧ Aside0 (run (s.data.toList.drop i) (decide (i = 0)) x y m b = some (fx, fy, fm, fb)) ∧ Aside0 (Below w.heap.size w W) ∧ Aside0 (W.heap[w.heap.size]? = some (.cells #[.int .i64 n, .int .i64 d] 23 (0, 0))))
  case atStart => exact ⟨0, 0, 0, false, false, rfl, rfl, rfl, rfl, rfl, ⟨by omega⟩, ⟨Nat.le_refl _⟩, ⟨by simpa using HU.out⟩, HB, HX⟩
  case round =>
    obtain ⟨i, x, y, m, b, rfl, rfl, rfl, rfl, rfl, HN, HK, HR, HB, HX⟩ := hrel
    cases gk with
    | zero => exact absurd HN.out (by omega)
    | succ k1 =>
      by_cases hi : i < s.size
      · have dn : decide ((i : Int) < (s.size : Int)) = true := decide_eq_true (by omega)
        have dn2 : decide (i < s.size) = true := decide_eq_true (by omega)
        have p0 := eq_true (show 0 ≤ (i : Int) by omega)
        have q0 := eq_true (show (i : Int) < (s.size : Int) by omega)
        have q1 := eq_true (show i < s.size by omega)
        have HH := Aside0.mk hi
        have hc : ∃ c : Int, ((s[i]'hi).toNat : Int) = c := ⟨_, rfl⟩
        have hr := run_at hi HR.out
        obtain ⟨c, hc⟩ := hc
        rw [hc] at hr
        rcases hr with ⟨rfl, h2, h3⟩ | ⟨h1, rfl, rfl, h3⟩ | ⟨h1, h2, h3⟩
        · have RR := Aside0.mk h3
          have hi0 : i = 0 := by simpa using h2
          have hz : ((i : Int) == 0) = true := by simp [hi0]
          clear h2 h3 hi0
          go_wp2_with (fail)
          go_roundg k1
          case measure => have := HK.out; omega
          case rel =>
            have e : decide (i + 1 = 0) = false := by simp
            refine ⟨i + 1, _, _, _, _, rfl, rfl, rfl, rfl, by first | rfl | (rw [wsucc i (by have := HZ.out; have := HH.out; omega)]), ⟨by have := HH.out; have := HN.out; omega⟩, ⟨by have := HK.out; omega⟩, ⟨?_⟩, HB, HX⟩
            rw [e]
            exact RR.out
        · have RR := Aside0.mk h3
          clear h1 h3
          go_wp2_with (fail)
          go_roundg k1
          case measure => have := HK.out; omega
          case rel =>
            have e : decide (i + 1 = 0) = false := by simp
            refine ⟨i + 1, _, _, _, _, rfl, rfl, rfl, rfl, by first | rfl | (rw [wsucc i (by have := HZ.out; have := HH.out; omega)]), ⟨by have := HH.out; have := HN.out; omega⟩, ⟨by have := HK.out; omega⟩, ⟨?_⟩, HB, HX⟩
            rw [e]
            exact RR.out
        · have f1 : (c == 45) = false := by simp; omega
          have f2 : (c == 47) = false := by simp; omega
          have f3 : decide (c < 48) = false := decide_eq_false (by omega)
          have f4 : decide (57 < c) = false := decide_eq_false (by omega)
          have f5 : IntKind.u8.wrap (c - 48) = c - 48 := by simp [IntKind.wrap, IntKind.signed, IntKind.bits]; omega
          have f6 : (c - 48) % 256 = c - 48 := by omega
          have f7 : wrap64 (c - 48) = c - 48 := by unfold wrap64; omega
          have g1 : (c = 45) = False := eq_false (by omega)
          have g2 : (c = 47) = False := eq_false (by omega)
          have g3 : (c < 48) = False := eq_false (by omega)
          have g4 : (57 < c) = False := eq_false (by omega)
          rcases h3 with ⟨rfl, h3⟩ | ⟨rfl, h3⟩
          · have RR := Aside0.mk h3
            clear h1 h2 h3
            go_wp2_with (fail)
            go_roundg k1
            case measure => have := HK.out; omega
            case rel =>
              have e : decide (i + 1 = 0) = false := by simp
              refine ⟨i + 1, _, _, _, _, rfl, rfl, rfl, rfl, by first | rfl | (rw [wsucc i (by have := HZ.out; have := HH.out; omega)]), ⟨by have := HH.out; have := HN.out; omega⟩, ⟨by have := HK.out; omega⟩, ⟨?_⟩, HB, HX⟩
              rw [e]
              exact RR.out
          · have RR := Aside0.mk h3
            clear h1 h2 h3
            go_wp2_with (fail)
            go_roundg k1
            case measure => have := HK.out; omega
            case rel =>
              have e : decide (i + 1 = 0) = false := by simp
              refine ⟨i + 1, _, _, _, _, rfl, rfl, rfl, rfl, by first | rfl | (rw [wsucc i (by have := HZ.out; have := HH.out; omega)]), ⟨by have := HH.out; have := HN.out; omega⟩, ⟨by have := HK.out; omega⟩, ⟨?_⟩, HB, HX⟩
              rw [e]
              exact RR.out
      · have dn : decide ((i : Int) < (s.size : Int)) = false := decide_eq_false (by omega)
        have dn2 : decide (i < s.size) = false := decide_eq_false (by omega)
        have hr := HR.out
        rw [List.drop_eq_nil_of_le (by rw [Array.length_toList]; exact Nat.le_of_not_lt hi)] at hr
        have hr2 : (x, y, m, b) = (fx, fy, fm, fb) := Option.some.inj hr
        obtain ⟨rfl, rfl, rfl, rfl⟩ : x = fx ∧ y = fy ∧ m = fm ∧ b = fb := by simpa using hr2
        obtain ⟨e1, e2⟩ := HF.out
        have k0 := (bl1 HX.out).1
        have k1 := (bl1 HX.out).2
        clear hr hr2
        cases m <;> cases b
        all_goals simp only [if_true, Bool.false_eq_true, if_false] at e1 e2
        all_goals go_wp2_with (fail)
        all_goals go_ret
        all_goals exact ⟨by simp [e1, e2], HB.out⟩
theorem ch (k : Nat) (h : k < 10) : ((UInt8.ofNat (48 + k)).toNat : Int) = 48 + (k : Int) := by
  have : (UInt8.ofNat (48 + k)).toNat = 48 + k := by
    first | exact UInt8.toNat_ofNat_of_lt' (by omega) | (simp; omega) | exact Nat.mod_eq_of_lt (by omega)
  rw [this]; omega
theorem run_dig (k : Nat) (h : k < 10) (l : List UInt8) (f : Bool) (x y : Int) (m b : Bool) : run (UInt8.ofNat (48 + k) :: l) f x y m b = if b = true then run l false x (wrap64 (wrap64 (10 * y) + (k : Int))) m b else run l false (wrap64 (wrap64 (10 * x) + (k : Int))) y m b := by
  rw [run, ch k h, if_neg (fun hh => by have := hh.1; omega), if_neg (fun hh => by have := hh.1; omega), if_pos ⟨by omega, by omega⟩, show (48 + (k : Int) - 48) = (k : Int) by omega]
theorem w10 (a k : Nat) (h : 10 * a + k < 9223372036854775808) : wrap64 (wrap64 (10 * (a : Int)) + (k : Int)) = ((10 * a + k : Nat) : Int) := by
  rw [w64 (x := 10 * (a : Int)) (by omega) (by omega), w64 (by omega) (by omega)]; omega
theorem run_num (u : Nat) : u < 9223372036854775808 → ∀ (l : List UInt8) (f : Bool) (y : Int) (m : Bool), run (Lib.decDigits u ++ l) f 0 y m false = run l false (u : Int) y m false := by
  induction u using Nat.strongRecOn with
  | _ u ih =>
    intro hu l f y m
    by_cases h : u < 10
    · rw [Lib.decDigits, dif_pos h, List.singleton_append, run_dig u h, if_neg (by simp)]
      have := w10 0 u (by omega)
      simp only [Nat.mul_zero, Nat.zero_add] at this
      rw [show ((0 : Nat) : Int) = 0 from rfl] at this
      rw [this]
    · rw [Lib.decDigits, dif_neg h, List.append_assoc, ih (u / 10) (by omega) (by omega), List.singleton_append, run_dig (u % 10) (by omega), if_neg (by simp), w10 (u / 10) (u % 10) (by omega), show 10 * (u / 10) + u % 10 = u by omega]
theorem run_den (u : Nat) : u < 9223372036854775808 → ∀ (l : List UInt8) (f : Bool) (x : Int) (m : Bool), run (Lib.decDigits u ++ l) f x 0 m true = run l false x (u : Int) m true := by
  induction u using Nat.strongRecOn with
  | _ u ih =>
    intro hu l f x m
    by_cases h : u < 10
    · rw [Lib.decDigits, dif_pos h, List.singleton_append, run_dig u h, if_pos rfl]
      have := w10 0 u (by omega)
      simp only [Nat.mul_zero, Nat.zero_add] at this
      rw [show ((0 : Nat) : Int) = 0 from rfl] at this
      rw [this]
    · rw [Lib.decDigits, dif_neg h, List.append_assoc, ih (u / 10) (by omega) (by omega), List.singleton_append, run_dig (u % 10) (by omega), if_pos rfl, w10 (u / 10) (u % 10) (by omega), show 10 * (u / 10) + u % 10 = u by omega]
theorem run_itoa (n : Int) (h0 : -9223372036854775807 ≤ n) (h1 : n ≤ 9223372036854775807) (l : List UInt8) : run (Lib.itoa n ++ l) true 0 0 false false = run l false (n.natAbs : Int) 0 (decide (n < 0)) false := by
  unfold Lib.itoa
  by_cases h : n < 0
  · rw [if_pos h, decide_eq_true h, List.cons_append, run, if_pos ⟨by decide, rfl⟩, run_num _ (by omega)]
  · rw [if_neg h, decide_eq_false h, run_num _ (by omega), show n.toNat = n.natAbs by omega]
theorem run_all (n d : Int) (hn : In64 n) (hd : In64 d) (h : Right n d) : run (tx n d).data.toList true 0 0 false false = some ((n.natAbs : Int), (if d = 1 then 0 else d), decide (n < 0), !decide (d = 1)) := by
  obtain ⟨n0, n1⟩ := hn
  obtain ⟨d0, d1⟩ := hd
  have hm := h.2.1
  have hp := h.1
  unfold tx
  by_cases e : d = 1
  · rw [if_pos e, if_pos e, decide_eq_true e]
    show run (Lib.itoa n) true 0 0 false false = _
    have := run_itoa n (by omega) n1 []
    rw [List.append_nil] at this
    rw [this, run]
    rfl
  · rw [if_neg e, if_neg e, decide_eq_false e]
    have el : ((⟨(Lib.itoa n).toArray⟩ : ByteArray) ++ ⟨#[47]⟩ ++ ⟨(Lib.itoa d).toArray⟩).data.toList = Lib.itoa n ++ (47 :: (Lib.itoa d ++ [])) := by simp
    rw [el, run_itoa n (by omega) n1, run, if_neg (fun hh => by have := hh.2; cases this), if_pos ⟨by decide, rfl⟩]
    have ed : Lib.itoa d = Lib.decDigits d.toNat := by unfold Lib.itoa; rw [if_neg (by omega)]
    rw [ed, run_den _ (by omega), run]
    rw [show ((d.toNat : Nat) : Int) = d by omega]
    rfl
theorem tx_size (n d : Int) (hn : In64 n) (hd : In64 d) : (tx n d).size ≤ 50 := by
  have h1 := Lib.itoa_length_le n hn.1 hn.2
  have h2 := Lib.itoa_length_le d hd.1 hd.2
  unfold tx
  split
  · show (Lib.itoa n).toArray.size ≤ 50
    simp; omega
  · have e : ((⟨(Lib.itoa n).toArray⟩ : ByteArray) ++ ⟨#[47]⟩ ++ ⟨(Lib.itoa d).toArray⟩).size = (Lib.itoa n).length + 1 + (Lib.itoa d).length := by
      simp [ByteArray.size_append]
      rfl
    omega
set_option maxHeartbeats 4000000 in
set_option maxRecDepth 100000 in
theorem text_bad (n d : Int) (hn : In64 n) (hd : In64 d) (h : ¬ Right n d) (w : World) :
    Calls Tryd.prog 3 #[.agg #[.int .i64 n, .int .i64 d]] w fun e w' => e = .returned (.bool true) ∧ Below w.heap.size w w' := by
  obtain ⟨k, hk⟩ := Ev.rounds (right_ev n d hn hd)
  rw [decide_eq_false h] at hk
  have HC := Aside0.mk (fun W => rat_Right.calls k n d false W hk)
  obtain ⟨ka, hka⟩ := Ev.rounds awake_ev
  have HA := Aside0.mk (fun W => ballcocklaw01_awake.calls ka true W hka)
  have HX := Aside0.mk (show (w.alloc (.cells #[.int .i64 n, .int .i64 d] 23 (0, 0))).heap[w.heap.size]? = some (.cells #[.int .i64 n, .int .i64 d] 23 (0, 0)) by simpa using heap_alloc_new w _)
  have HB := Aside0.mk (below_alloc (Below.refl w.heap.size w) (.cells #[.int .i64 n, .int .i64 d] 23 (0, 0)))
  clear hk hn hd hka
  go_enter Tryd.func3, Tryd.ntmps3
  go_wp2_with (fail)
  refine (HA.out _).mono ?_
  rintro e W1 ⟨rfl, hb⟩
  replace HX := Aside0.mk (blk_below HX.out hb)
  replace HB := Aside0.mk (below_step HB.out hb)
  clear hb
  have k0 := (bl1 HX.out).1
  have k1 := (bl1 HX.out).2
  go_wp2_with (fail)
  refine (HC.out _).mono ?_
  rintro e W2 ⟨rfl, hb⟩
  replace HB := Aside0.mk (below_step HB.out hb)
  clear hb HC k0 k1
  go_wp2_with (fail)
  refine (HA.out _).mono ?_
  rintro e W3 ⟨rfl, hb⟩
  replace HB := Aside0.mk (below_step HB.out hb)
  clear hb
  go_wp2_with (fail)
  go_ret
  exact ⟨rfl, HB.out⟩
theorem text_all (n d : Int) (hn : In64 n) (hd : In64 d) (w : World) (ht : Tab w) :
    Calls Tryd.prog 3 #[.agg #[.int .i64 n, .int .i64 d]] w fun e w' => e = .returned (.bool true) ∧ Below w.heap.size w w' := by
  by_cases h : Right n d
  · refine text_good n d hn hd h w ht (tx n d) rfl (tx_size n d hn hd) _ _ _ _ (run_all n d hn hd h) ?_ ?_
    · obtain ⟨n0, n1⟩ := hn
      by_cases hneg : n < 0
      · rw [decide_eq_true hneg, if_pos rfl, w64 (by have := h.2.1; omega) (by omega)]; omega
      · rw [decide_eq_false hneg, if_neg (by simp)]; omega
    · by_cases e : d = 1
      · rw [decide_eq_true e, if_neg (by simp)]; exact e.symm
      · rw [decide_eq_false e, if_pos (by rfl), if_neg e]
  · exact text_bad n d hn hd h w
end Go.Proofs.YtpcdcanmbokpfaaDoor.PRat
