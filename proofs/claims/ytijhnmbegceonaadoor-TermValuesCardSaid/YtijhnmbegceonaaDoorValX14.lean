-- Words and walks, cut to what this law uses (wip/pack.py).
import Derived.Test.YtijhnmbegceonaaDoorProg
import Derived.Below
import Derived.Deep.Draws
import Derived.Deep.AppendLies
import Derived.Maps.AppendAt
import Derived.OwnWalk
import Derived.Laws.BytesArg
import Derived.Laws.MakeOwn
import Derived.Laws.OwnMore
import Derived.Deep.OwnRows
import Derived.Tactics
import Derived.Lib.ConvBytes
import Derived.Laws.Slices
import Derived.WalkKit
import Derived.KernelRfl
import Derived.RowKit3
import Derived.Deep.LoopGhost
import Derived.Deep.QuietTactic
import Derived.BigQuiet
import Derived.WideLaws
import Derived.Deep.DeepCutAuto
import Derived.Deep.CutBlock
import Derived.Deep.RegionHeld3
import Derived.Laws.Rows
import Derived.Lib.AppendStr
import Derived.ArgAppend
import Derived.Laws.IdiomCopy
import Derived.OrdersHeld
import Derived.Laws.BitsLemmas
import Derived.RowKit
import Derived.Lib.SliceRun
import Derived.Test.YtijhnmbegceonaaDoorValX12
import Derived.Test.YtijhnmbegceonaaDoorValX8
import Derived.Test.YtijhnmbegceonaaDoorValX3
import Derived.Test.YtijhnmbegceonaaDoorValX4
import Derived.Test.YtijhnmbegceonaaDoorValX2
import Derived.Test.YtijhnmbegceonaaDoorValX6
import Derived.Test.YtijhnmbegceonaaDoorValX5
namespace Go.Proofs.YtijhnmbegceonaaDoor.PTerm
open Go.RowKit Go.Proofs.YtijhnmbegceonaaDoorW.PrintWords Go.Proofs.YtijhnmbegceonaaDoorW.PrintLast Go.Proofs.YtijhnmbegceonaaDoorW.PrintMore
attribute [local go_sem] zbr zbp zbz zby zbh zbg zbq zbo
set_option linter.unusedVariables false
set_option linter.unusedSimpArgs false
def errW : Option Int → Value
 | none => .nilIface
 | some c => .iface 0 (.int .i64 c)
theorem zas : errW none = .nilIface := rfl
theorem zar (c : Int) : errW (some c) = .iface 0 (.int .i64 c) := rfl
theorem zhz : (Tryd.prog.info? 9).map (fun i => (i.zero, i.size, i.bytes)) = some (some (.string ⟨#[]⟩), 1, 16) := by kernel_rfl
theorem zeu : (Tryd.prog.info? 24).map (fun i => (i.zero, i.size, i.bytes)) = some (some (.agg #[(.int .i64 0), (.int .i64 0)]), 2, 16) := by kernel_rfl
structure S24 where
 f0 : Int
 f1 : Int
def z24 : S24 := ⟨(0 : Int), (0 : Int)⟩
def k24 : Kd S24 := Kd.iso (Kd.pair (Kd.int .i64) (Kd.int .i64)) (fun x : S24 => (x.f0, x.f1))
theorem zgG {w : World} {x : S24} {cs : List Value} (h : k24.K w x cs) : cs = [.int .i64 x.f0, .int .i64 x.f1] := by
 obtain ⟨_, _, rfl, rfl, rfl⟩ := h
 exact rfl
theorem zeP (w : World) (base : Nat) (ok : Nat → Prop) (x : S24)  : k24.M w base ok x [.int .i64 x.f0, .int .i64 x.f1] := ⟨[.int .i64 x.f0], [.int .i64 x.f1], rfl, rfl, rfl⟩
def zaC (xs : List S24) (i : Int) : S24 := xs.getD i.toNat z24
theorem zcw {w : World} {A : Option Addr} {n : Nat} {xs : List S24} (h : Kd.C k24 w A n xs) (i : Int) (h0 : 0 ≤ i) (h1 : i < n) : ∃ ad , A = some ad ∧ w.cell? (ad.add (i.toNat * 2)) = some (.int .i64 (zaC xs i).f0) ∧ w.cell? ⟨(ad.add (i.toNat * 2)).block, (ad.add (i.toNat * 2)).off + 1, none⟩ = some (.int .i64 (zaC xs i).f1) := by
 obtain ⟨ad, c, e, _, hK, hc0⟩ := Kd.zhL h z24 i h0 h1
 have hc : ∀ j u, c[j]? = some u → w.cell? (ad.add (i.toNat * 2 + j)) = some u := hc0
 obtain rfl := zgG hK
 exact ⟨ad, e, hc 0 _ rfl, by rw [← zgm _ _ 1 (by omega)]; exact hc 1 _ rfl⟩
end Go.Proofs.YtijhnmbegceonaaDoor.PTerm
namespace Go.Proofs.YtijhnmbegceonaaDoor.PTerm
open Go.RowKit Go.Proofs.YtijhnmbegceonaaDoorW.PrintWords Go.Proofs.YtijhnmbegceonaaDoorW.PrintLast Go.Proofs.YtijhnmbegceonaaDoorW.PrintMore
attribute [local go_sem] zbr zbp zbz zby zbh zbg zbq zbo
set_option linter.unusedVariables false
set_option linter.unusedSimpArgs false
theorem eqA24 (d : Nat) (w : World) (x0 y0 : Int) (x1 y1 : Int) :
  (Op.equalIn (d + 2) 24 (.agg #[.int .i64 x0, .int .i64 x1]) (.agg #[.int .i64 y0, .int .i64 y1])).run Tryd.prog w = .ok (x0 == y0 && (x1 == y1)) w := by
 refine eqA_of Tryd.underlying24 (by kernel_rfl) ?_
 refine zgI (by rfl) (by go_simp; rfl) (by go_simp; rfl) (by go_simp) ?_
 exact zgH (by rfl) (by go_simp; rfl) (by go_simp; rfl) (by go_simp)
end Go.Proofs.YtijhnmbegceonaaDoor.PTerm
namespace Go.Proofs.YtijhnmbegceonaaDoor.PTerm
open Go.RowKit Go.Proofs.YtijhnmbegceonaaDoorW.PrintWords Go.Proofs.YtijhnmbegceonaaDoorW.PrintLast Go.Proofs.YtijhnmbegceonaaDoorW.PrintMore
attribute [local go_sem] zbr zbp zbz zby zbh zbg zbq zbo
set_option linter.unusedVariables false
set_option linter.unusedSimpArgs false
def zaZ.f (a0_0 : Int) (a0_1 : Int) : Option (Bool) := if BallQ.In64 a0_0 ∧ BallQ.In64 a0_1 then some (decide (BallQ.Right a0_0 a0_1)) else none
theorem zaZ.calls (a0_0 : Int) (a0_1 : Int) (r : Bool) (w : World) (h : zaZ.f a0_0 a0_1 = some r) :
  Calls Tryd.prog 37 #[.agg #[.int .i64 a0_0, .int .i64 a0_1]] w fun e w' => e = .returned (.bool r) ∧ Below w.heap.size w w' := by
 unfold zaZ.f at h
 split at h
 ·rename_i hc
  have e := Option.some.inj h
  subst e
  obtain ⟨k, hk⟩ := Ev.rounds (PRat.zcl a0_0 a0_1 hc.1 hc.2)
  exact PRat.zaZ.calls k a0_0 a0_1 _ w hk
 ·cases h
set_option maxRecDepth 10000 in
theorem zaZ.fld0 (v x y : Value) (w : World) : Sem.run Tryd.prog (Instr.field 26 (Value.agg #[v, x, y]) 0) w = .ok v w := by
 have ha := Tryd.isAgg22
 have hs := Tryd.sizeOf22
 simp [Instr.field, asAgg, go_sem, ha, hs]
def zb9 (l : List (S24)) : Prop := ∀ x ∈ l, BallQ.In64 x.f0 ∧ BallQ.In64 x.f1
instance (l : List (S24)) : Decidable (zb9 l) := List.decidableBAll _ _
def zbT (l : List (S24)) (n d : Int) : Bool := decide (l.length ≤ 8) && (decide (BallQ.Right n d) && l.all (fun x => decide (BallQ.Right x.f0 x.f1)))
theorem za4.rr (n d : Int) (hn : BallQ.In64 n) (hd : BallQ.In64 d) (w : World) : Calls Tryd.prog 37 #[.agg #[.int .i64 n, .int .i64 d]] w fun e w' => e = .returned (.bool (decide (BallQ.Right n d))) ∧ Below w.heap.size w w' :=
 zaZ.calls n d _ w (by unfold zaZ.f; rw [if_pos ⟨hn, hd⟩])
theorem za4.no (n d : Int) (hn : BallQ.In64 n) (hd : BallQ.In64 d) (w : World) : Calls Tryd.prog 39 #[.agg #[.int .i64 n, .int .i64 d]] w fun e w' => e = .returned (.bool (!decide (BallQ.Right n d))) ∧ Below w.heap.size w w' := by
 have HC := Aside0.mk (fun W => za4.rr n d hn hd W)
 have HB := Aside0.mk (zac (Below.refl w.heap.size w) (.cells #[.int .i64 n, .int .i64 d] 24 (0, 0)))
 generalize decide (BallQ.Right n d) = b at HC ⊢
 clear hn hd
 go_enter Tryd.func39, Tryd.ntmps39
 go_wp2_with (fail)
 refine (HC.out _).mono ?_
 rintro e w1 ⟨rfl, hb⟩
 have HB1 := Aside0.mk (zam HB.out hb)
 clear hb
 go_wp2_with (fail)
 go_ret
 exact ⟨rfl, HB1.out⟩
theorem za4.idx (A0 : Option Addr) (c0 : Nat) (l : List (S24)) (w : World) (hr : Kd.C k24 w A0 l.length l) (hc : l.length ≤ c0) (hin : zb9 l) (hl : l.length < 1000000) :
  Calls Tryd.prog 61 #[.slice A0 l.length c0, .func (.func 39) #[] #[]] w fun e w' => ∃ x : Int, e = .returned (.int .i64 x) ∧ Aside0 (decide (0 ≤ x) = !(l.all (fun x => decide (BallQ.Right x.f0 x.f1)))) ∧ Below w.heap.size w w' := by
 have HR := Aside0.mk hr
 have HI := Aside0.mk hin
 have HL := Aside0.mk hl
 have HB := Aside0.mk (Below.refl w.heap.size w)
 clear hr hc hin hl
 go_enter Tryd.func61, Tryd.ntmps61
 go_wp2_with (fail)
 obtain ⟨kk, hkk⟩ : ∃ k : Nat, k = l.length + 1 := ⟨_, rfl⟩
 go_loopg [8] kk (fun kq v8 W => ∃ i : Nat, v8 = .int .i64 (i : Int) ∧ Aside0 (i ≤ l.length ∧ l.length < i + kq) ∧ Aside0 (kq ≤ kk) ∧ Aside0 ((l.take i).all (fun x => decide (BallQ.Right x.f0 x.f1)) = true) ∧ Aside0 (Below w.heap.size w W))
 case atStart => exact ⟨0, rfl, ⟨by omega⟩, ⟨Nat.le_refl _⟩, ⟨by simp⟩, HB⟩
 case round =>
  clear HB
  obtain ⟨i, rfl, HJ, HK, HA, HB⟩ := hrel
  cases gk with
  | zero => exact absurd HJ.out (by omega)
  | succ k1 =>
   by_cases hlt : i < l.length
   ·have d1 : decide ((i : Int) < (l.length : Int)) = true := decide_eq_true (by omega)
    have d2 : decide (i < l.length) = true := decide_eq_true hlt
    have hp : 0 ≤ (i : Int) := by omega
    have hq : (i : Int) < (l.length : Int) := by omega
    obtain ⟨ad, ea, h0, h1⟩ := zcw (Kd.zbd HR.out HB.out) (i : Int) hp hq
    subst ea
    obtain ⟨y, hy⟩ : ∃ y, y = l[i]'hlt := ⟨_, rfl⟩
    have ex : zaC l (i : Int) = y := by unfold zaC; rw [Int.toNat_natCast, List.getD_eq_getElem?_getD, List.getElem?_eq_getElem hlt, hy]; rfl
    have hin : BallQ.In64 y.f0 ∧ BallQ.In64 y.f1 := by rw [hy]; exact HI.out _ (List.getElem_mem hlt)
    rw [ex] at h0 h1
    simp only [Int.toNat_natCast] at h0 h1
    have HC := Aside0.mk (fun W => za4.no y.f0 y.f1 hin.1 hin.2 W)
    have hs : (l.take (i + 1)).all (fun x => decide (BallQ.Right x.f0 x.f1)) = decide (BallQ.Right y.f0 y.f1) := by
     rw [List.take_succ_eq_append_getElem hlt, List.all_append, HA.out, Bool.true_and, hy]
     simp
    have HS := Aside0.mk hs
    have HLt := Aside0.mk hlt
    clear hs ex hin hy hlt
    replace hp := eq_true hp
    replace hq := eq_true hq
    cases hb : decide (BallQ.Right y.f0 y.f1) with
    | true =>
     rw [hb] at HC HS
     clear hb
     go_wp2_with (fail)
     refine (HC.out _).mono ?_
     rintro e w1 ⟨rfl, hbel⟩
     have HB1 := Aside0.mk (zam HB.out hbel)
     clear hbel
     go_wp2_with (fail)
     go_roundg k1
     case measure => have := HK.out; omega
     case rel => exact ⟨i + 1, (by have := HLt.out; have := HL.out; rw [show wrap64 ((i : Int) + 1) = ((i + 1 : Nat) : Int) from by unfold wrap64; omega]), ⟨by have := HJ.out; have := HLt.out; omega⟩, ⟨by have := HK.out; omega⟩, HS, HB1⟩
    | false =>
     rw [hb] at HC HS
     clear hb
     go_wp2_with (fail)
     refine (HC.out _).mono ?_
     rintro e w1 ⟨rfl, hbel⟩
     have HB1 := Aside0.mk (zam HB.out hbel)
     clear hbel
     go_wp2_with (fail)
     go_ret
     refine ⟨_, rfl, ⟨?_⟩, HB1.out⟩
     have h9 : l.all (fun x => decide (BallQ.Right x.f0 x.f1)) = false := by
      cases h8 : l.all (fun x => decide (BallQ.Right x.f0 x.f1)) with
      | false => rfl
      | true =>
       have h7 := HS.out
       rw [List.all_eq_true] at h8
       have h6 : (l.take (i + 1)).all (fun x => decide (BallQ.Right x.f0 x.f1)) = true := by
        rw [List.all_eq_true]; exact fun z hz => h8 z (List.mem_of_mem_take hz)
       rw [h7] at h6; cases h6
     rw [h9, decide_eq_true (by omega)]; rfl
   ·have hi : i = l.length := by have := HJ.out; omega
    subst hi
    go_wp2_with (fail)
    go_ret
    refine ⟨_, rfl, ⟨?_⟩, HB.out⟩
    have h9 := HA.out
    rw [List.take_length] at h9
    rw [h9]; rfl
theorem za4.cont (A0 : Option Addr) (c0 : Nat) (l : List (S24)) (w : World) (hr : Kd.C k24 w A0 l.length l) (hc : l.length ≤ c0) (hin : zb9 l) (hl : l.length < 1000000) :
  Calls Tryd.prog 38 #[.slice A0 l.length c0, .func (.func 39) #[] #[]] w fun e w' => e = .returned (.bool (!(l.all (fun x => decide (BallQ.Right x.f0 x.f1))))) ∧ Below w.heap.size w w' := by
 have HC := Aside0.mk (za4.idx A0 c0 l w hr hc hin hl)
 clear hr hc hin hl
 go_enter Tryd.func38, Tryd.ntmps38
 go_wp2_with (fail)
 refine HC.out.mono ?_
 rintro e w1 ⟨x, rfl, HX, hb⟩
 have HB := Aside0.mk hb
 clear hb
 go_wp2_with (fail)
 go_ret
 exact ⟨by rw [← HX.out]; rfl, HB.out⟩
def za4.f (l0_0 : List (S24)) (a0_1 : Int) (a0_2 : Int) : Option (Bool) := if zb9 l0_0 ∧ l0_0.length < 1000000 ∧ BallQ.In64 a0_1 ∧ BallQ.In64 a0_2 then some (zbT l0_0 a0_1 a0_2) else none
set_option maxHeartbeats 4000000 in
theorem za4.calls (A0_0 : Option Addr) (c0_0 : Nat) (l0_0 : List (S24)) (a0_1 : Int) (a0_2 : Int) (r : Bool) (w : World) (hr0_0 : Kd.C k24 w A0_0 l0_0.length l0_0) (hc0_0 : l0_0.length ≤ c0_0) (h : za4.f l0_0 a0_1 a0_2 = some r) :
  Calls Tryd.prog 18 #[.agg #[.slice A0_0 l0_0.length c0_0, .int .i64 a0_1, .int .i64 a0_2]] w fun e w' => e = .returned (.bool r) ∧ Below w.heap.size w w' := by
 unfold za4.f at h
 split at h
 rotate_left
 ·cases h
 rename_i hh
 obtain ⟨hin, hl, hn, hd⟩ := hh
 have e := Option.some.inj h
 subst e
 have HC := Aside0.mk (fun W (hb : Below w.heap.size w W) => za4.cont A0_0 c0_0 l0_0 W (Kd.zbd hr0_0 hb) hc0_0 hin hl)
 have HR := Aside0.mk (fun W => za4.rr a0_1 a0_2 hn hd W)
 have HB := Aside0.mk (zac (Below.refl w.heap.size w) (.cells #[.slice A0_0 l0_0.length c0_0, .int .i64 a0_1, .int .i64 a0_2] 26 (0, 0)))
 have BK := Aside0.mk (zbO w (.cells #[.slice A0_0 l0_0.length c0_0, .int .i64 a0_1, .int .i64 a0_2] 26 (0, 0)))
 clear hr0_0 hc0_0 hin hn hd h
 unfold zbT
 generalize l0_0.all (fun x => decide (BallQ.Right x.f0 x.f1)) = b2 at HC ⊢
 generalize decide (BallQ.Right a0_1 a0_2) = b1 at HR ⊢
 by_cases h8 : l0_0.length ≤ 8
 rotate_left
 ·have d1 : decide ((l0_0.length : Int) ≤ 8) = false := decide_eq_false (by omega)
  have d2 : decide (l0_0.length ≤ 8) = false := decide_eq_false h8
  clear hl h8
  rw [d2]
  go_enter Tryd.func18, Tryd.ntmps18
  go_wp2_with (fail)
  go_ret
  exact ⟨rfl, HB.out⟩
 have d1 : decide ((l0_0.length : Int) ≤ 8) = true := decide_eq_true (by omega)
 have d2 : decide (l0_0.length ≤ 8) = true := decide_eq_true h8
 clear hl h8
 rw [d2]
 cases b1 with
 | false =>
  go_enter Tryd.func18, Tryd.ntmps18
  go_wp2_with (fail)
  refine (HR.out _).mono ?_
  rintro e w1 ⟨rfl, hb⟩
  have HB1 := Aside0.mk (zam HB.out hb)
  clear hb
  go_wp2_with (fail)
  go_ret
  exact ⟨rfl, HB1.out⟩
 | true =>
  go_enter Tryd.func18, Tryd.ntmps18
  go_wp2_with (fail)
  refine (HR.out _).mono ?_
  rintro e w1 ⟨rfl, hb⟩
  have HB1 := Aside0.mk (zam HB.out hb)
  have BK1 := zaj BK.out hb
  have b0 := (zak BK1 0).trans rfl
  clear hb HB BK BK1
  go_wp2_with (fail)
  refine (HC.out _ HB1.out).mono ?_
  rintro e w2 ⟨rfl, hb⟩
  have HB2 := Aside0.mk (zam HB1.out hb)
  clear hb
  go_wp2_with (fail)
  go_ret
  exact ⟨by simp, HB2.out⟩
def strconv_Itoa.f (a0 : Int) : Option (ByteArray) := if 0 ≤ a0 ∧ a0 < 100 then some ⟨(Lib.decDigits a0.toNat).toArray⟩ else none
theorem strconv_Itoa.calls (a0 : Int) (r : ByteArray) (w : World) (h : strconv_Itoa.f a0 = some r) :
  Calls Tryd.prog 29 #[.int .i64 a0] w fun e w' => e = .returned (.string r) ∧ zaP w w' := by
 unfold strconv_Itoa.f at h
 split at h
 ·rename_i hc
  have e := Option.some.inj h
  subst e
  obtain ⟨h0, h1⟩ := hc
  obtain ⟨m, rfl⟩ := Int.eq_ofNat_of_zero_le h0
  refine (Tryd.strconv_Itoa_small m (by omega) w).mono ?_
  rintro e w' ⟨rfl, rfl⟩
  exact ⟨rfl, zaP.refl _⟩
 ·cases h
def zaU.f (a0 : Int) (a1 : Int) : Option (ByteArray) := if a1 = 10 ∧ 0 ≤ a0 ∧ a0 < 100 then some ⟨(Lib.decDigits a0.toNat).toArray⟩ else none
theorem zaU.calls (a0 : Int) (a1 : Int) (r : ByteArray) (w : World) (h : zaU.f a0 a1 = some r) :
  Calls Tryd.prog 53 #[.int .i64 a0, .int .i64 a1] w fun e w' => e = .returned (.string r) ∧ zaP w w' := by
 unfold zaU.f at h
 split at h
 ·rename_i hc
  have e := Option.some.inj h
  subst e
  obtain ⟨rfl, h0, h1⟩ := hc
  obtain ⟨m, rfl⟩ := Int.eq_ofNat_of_zero_le h0
  refine (Tryd.strconv_FormatInt_10_small m (by omega) w).mono ?_
  rintro e w' ⟨rfl, rfl⟩
  exact ⟨rfl, zaP.refl _⟩
 ·cases h
def zcd.f (a0_0 : Int) (a0_1 : Int) : Option (ByteArray) := (zaZ.f a0_0 a0_1).bind fun t102 => (if t102 = true then (if a0_1 = 1 then ((zaU.f a0_0 10).bind fun t103 => (some t103)) else ((zaU.f a0_0 10).bind fun t104 => (if t104.size + 1 ≤ 9223372036854775807 then ((zaU.f a0_1 10).bind fun t105 => (if (t104 ++ (⟨#[47]⟩ : ByteArray)).size + t105.size ≤ 9223372036854775807 then (some ((t104 ++ (⟨#[47]⟩ : ByteArray)) ++ t105)) else (none))) else (none)))) else (some (⟨#[63]⟩ : ByteArray)))
set_option maxHeartbeats 8000000 in
set_option maxRecDepth 100000 in
theorem zcd.calls (a0_0 : Int) (a0_1 : Int) (r : ByteArray) (w : World) (h : zcd.f a0_0 a0_1 = some r) :
  Calls Tryd.prog 30 #[.agg #[.int .i64 a0_0, .int .i64 a0_1]] w fun e w' => e = .returned (.string r) ∧ Below w.heap.size w w' := by
 have hu24 := Tryd.underlying24
 have HB := Aside0.mk (Below.refl w.heap.size w)
 have H : ((zaZ.f a0_0 a0_1).bind fun t102 => (if t102 = true then (if a0_1 = 1 then ((zaU.f a0_0 10).bind fun t103 => (some t103)) else ((zaU.f a0_0 10).bind fun t104 => (if t104.size + 1 ≤ 9223372036854775807 then ((zaU.f a0_1 10).bind fun t105 => (if (t104 ++ (⟨#[47]⟩ : ByteArray)).size + t105.size ≤ 9223372036854775807 then (some ((t104 ++ (⟨#[47]⟩ : ByteArray)) ++ t105)) else (none))) else (none)))) else (some (⟨#[63]⟩ : ByteArray)))) = some r := h
 clear h
 replace H := Option.bind_eq_some_iff.mp H
 obtain ⟨t102, A20, H⟩ := H
 replace H : (if t102 = true then (if a0_1 = 1 then ((zaU.f a0_0 10).bind fun t103 => (some t103)) else ((zaU.f a0_0 10).bind fun t104 => (if t104.size + 1 ≤ 9223372036854775807 then ((zaU.f a0_1 10).bind fun t105 => (if (t104 ++ (⟨#[47]⟩ : ByteArray)).size + t105.size ≤ 9223372036854775807 then (some ((t104 ++ (⟨#[47]⟩ : ByteArray)) ++ t105)) else (none))) else (none)))) else (some (⟨#[63]⟩ : ByteArray))) = some r := H
 have A2 := Aside0.mk A20
 clear A20
 by_cases c3 : t102 = true
 ·subst c3
  have H1 : (if a0_1 = 1 then ((zaU.f a0_0 10).bind fun t103 => (some t103)) else ((zaU.f a0_0 10).bind fun t104 => (if t104.size + 1 ≤ 9223372036854775807 then ((zaU.f a0_1 10).bind fun t105 => (if (t104 ++ (⟨#[47]⟩ : ByteArray)).size + t105.size ≤ 9223372036854775807 then (some ((t104 ++ (⟨#[47]⟩ : ByteArray)) ++ t105)) else (none))) else (none)))) = some r := by rw [if_pos rfl] at H; exact H
  clear H
  have H := H1
  clear H1
  by_cases c4 : a0_1 = 1
  ·rw [if_pos c4] at H
   have c4b0 : (a0_1 == 1) = true := beq_iff_eq.mpr c4
   have c4b1 : (a0_1 != 1) = false := bne_eq_false_iff_eq.mpr c4
   clear c4
   replace H := Option.bind_eq_some_iff.mp H
   obtain ⟨t103, A50, H⟩ := H
   replace H : (some t103) = some r := H
   have A5 := Aside0.mk A50
   clear A50
   obtain rfl := Option.some.inj H
   go_enter Tryd.func30, Tryd.ntmps30
   go_wp2_with (first | ((with_reducible refine zaK (N := 1) rfl ?_); refine zaI ?hg (N := 1) ?hd (cs := #[.int .i64 a0_0, .int .i64 a0_1]) (t := 24) ?hr ?_; (case hd => rfl); (case hg => rfl); (case hr => first | (go_simp; done) | (go_simp; rfl)); intro gb101 hg w6 hbox hb; have n0_ := Aside0.mk (zam (by repeat (first | (with_reducible first | exact HB.out | apply zac | apply zaa | apply zaf) | exact HB.out)) hb); have n1_ := Aside0.mk (hbox); have n2_ := Aside0.mk ((by rw [hg]; exact (zao (by repeat (first | (with_reducible first | exact HB.out | apply zac | apply zaa | apply zaf) | exact HB.out))) : w.heap.size ≤ gb101)); have n3_ := n2_; clear HB; have HB := n0_; have BK101 := n1_; have GW101 := n2_; have GE101 := n3_; clear n0_ n1_ n2_ n3_; clear hb hbox hg; have hcz7_0 : w6.cell? ⟨gb101, 0, none⟩ = some (.int .i64 a0_0) := (zak BK101.out 0).trans rfl; have hcz7_1 : w6.cell? ⟨gb101, 1, none⟩ = some (.int .i64 a0_1) := (zak BK101.out 1).trans rfl; have hfz7_0 := zah BK101.out 0; have hfz7_1 := zah BK101.out 1) | (go_at_call 37; (with_reducible refine (zaZ.calls a0_0 a0_1 true _ A2.out).mono ?_); rintro e w8 ⟨rfl, hb⟩; have n0_ := Aside0.mk (zaj (g := gb101) (o := .cells #[.int .i64 a0_0, .int .i64 a0_1] 24 (0, 0)) (by (with_reducible repeat (first | apply zae | apply zai | apply zad)); exact BK101.out) hb); have n1_ := Aside0.mk (zam (by repeat (first | (with_reducible first | exact HB.out | apply zac | apply zaa | apply zaf | refine zab ?_ GE101.out) | exact HB.out)) hb); clear BK101; clear HB; have BK101 := n0_; have HB := n1_; clear n0_ n1_; (try clear hb); (try clear hb2); (try clear hk); (try clear hi); have hcz9_0 : w8.cell? ⟨gb101, 0, none⟩ = some (.int .i64 a0_0) := (zak BK101.out 0).trans rfl; have hcz9_1 : w8.cell? ⟨gb101, 1, none⟩ = some (.int .i64 a0_1) := (zak BK101.out 1).trans rfl; have hfz9_0 := zah BK101.out 0; have hfz9_1 := zah BK101.out 1) | (go_at_call 53; (with_reducible refine (zaU.calls a0_0 10 t103 _ A5.out).mono ?_); rintro e w' ⟨rfl, ⟨nd, rfl⟩⟩; (try first | exact ⟨rfl, _, World.drewN_drewN _ _ _⟩ | exact ⟨rfl, _, Eq.trans (World.drewN_drewN _ _ _) (congrArg (World.drewN _) (Nat.add_assoc _ _ _))⟩)))
   repeat (go_quiet (first | ((with_reducible refine zaK (N := 1) rfl ?_); refine zaI ?hg (N := 1) ?hd (cs := #[.int .i64 a0_0, .int .i64 a0_1]) (t := 24) ?hr ?_; (case hd => rfl); (case hg => rfl); (case hr => first | (go_simp; done) | (go_simp; rfl)); intro gb101 hg w6 hbox hb; have n0_ := Aside0.mk (zam (by repeat (first | (with_reducible first | exact HB.out | apply zac | apply zaa | apply zaf) | exact HB.out)) hb); have n1_ := Aside0.mk (hbox); have n2_ := Aside0.mk ((by rw [hg]; exact (zao (by repeat (first | (with_reducible first | exact HB.out | apply zac | apply zaa | apply zaf) | exact HB.out))) : w.heap.size ≤ gb101)); have n3_ := n2_; clear HB; have HB := n0_; have BK101 := n1_; have GW101 := n2_; have GE101 := n3_; clear n0_ n1_ n2_ n3_; clear hb hbox hg; have hcz7_0 : w6.cell? ⟨gb101, 0, none⟩ = some (.int .i64 a0_0) := (zak BK101.out 0).trans rfl; have hcz7_1 : w6.cell? ⟨gb101, 1, none⟩ = some (.int .i64 a0_1) := (zak BK101.out 1).trans rfl; have hfz7_0 := zah BK101.out 0; have hfz7_1 := zah BK101.out 1) | (go_at_call 37; (with_reducible refine (zaZ.calls a0_0 a0_1 true _ A2.out).mono ?_); rintro e w8 ⟨rfl, hb⟩; have n0_ := Aside0.mk (zaj (g := gb101) (o := .cells #[.int .i64 a0_0, .int .i64 a0_1] 24 (0, 0)) (by (with_reducible repeat (first | apply zae | apply zai | apply zad)); exact BK101.out) hb); have n1_ := Aside0.mk (zam (by repeat (first | (with_reducible first | exact HB.out | apply zac | apply zaa | apply zaf | refine zab ?_ GE101.out) | exact HB.out)) hb); clear BK101; clear HB; have BK101 := n0_; have HB := n1_; clear n0_ n1_; (try clear hb); (try clear hb2); (try clear hk); (try clear hi); have hcz9_0 : w8.cell? ⟨gb101, 0, none⟩ = some (.int .i64 a0_0) := (zak BK101.out 0).trans rfl; have hcz9_1 : w8.cell? ⟨gb101, 1, none⟩ = some (.int .i64 a0_1) := (zak BK101.out 1).trans rfl; have hfz9_0 := zah BK101.out 0; have hfz9_1 := zah BK101.out 1) | (go_at_call 53; (with_reducible refine (zaU.calls a0_0 10 t103 _ A5.out).mono ?_); rintro e w' ⟨rfl, ⟨nd, rfl⟩⟩; (try first | exact ⟨rfl, _, World.drewN_drewN _ _ _⟩ | exact ⟨rfl, _, Eq.trans (World.drewN_drewN _ _ _) (congrArg (World.drewN _) (Nat.add_assoc _ _ _))⟩))); try go_wp2_with (first | ((with_reducible refine zaK (N := 1) rfl ?_); refine zaI ?hg (N := 1) ?hd (cs := #[.int .i64 a0_0, .int .i64 a0_1]) (t := 24) ?hr ?_; (case hd => rfl); (case hg => rfl); (case hr => first | (go_simp; done) | (go_simp; rfl)); intro gb101 hg w6 hbox hb; have n0_ := Aside0.mk (zam (by repeat (first | (with_reducible first | exact HB.out | apply zac | apply zaa | apply zaf) | exact HB.out)) hb); have n1_ := Aside0.mk (hbox); have n2_ := Aside0.mk ((by rw [hg]; exact (zao (by repeat (first | (with_reducible first | exact HB.out | apply zac | apply zaa | apply zaf) | exact HB.out))) : w.heap.size ≤ gb101)); have n3_ := n2_; clear HB; have HB := n0_; have BK101 := n1_; have GW101 := n2_; have GE101 := n3_; clear n0_ n1_ n2_ n3_; clear hb hbox hg; have hcz7_0 : w6.cell? ⟨gb101, 0, none⟩ = some (.int .i64 a0_0) := (zak BK101.out 0).trans rfl; have hcz7_1 : w6.cell? ⟨gb101, 1, none⟩ = some (.int .i64 a0_1) := (zak BK101.out 1).trans rfl; have hfz7_0 := zah BK101.out 0; have hfz7_1 := zah BK101.out 1) | (go_at_call 37; (with_reducible refine (zaZ.calls a0_0 a0_1 true _ A2.out).mono ?_); rintro e w8 ⟨rfl, hb⟩; have n0_ := Aside0.mk (zaj (g := gb101) (o := .cells #[.int .i64 a0_0, .int .i64 a0_1] 24 (0, 0)) (by (with_reducible repeat (first | apply zae | apply zai | apply zad)); exact BK101.out) hb); have n1_ := Aside0.mk (zam (by repeat (first | (with_reducible first | exact HB.out | apply zac | apply zaa | apply zaf | refine zab ?_ GE101.out) | exact HB.out)) hb); clear BK101; clear HB; have BK101 := n0_; have HB := n1_; clear n0_ n1_; (try clear hb); (try clear hb2); (try clear hk); (try clear hi); have hcz9_0 : w8.cell? ⟨gb101, 0, none⟩ = some (.int .i64 a0_0) := (zak BK101.out 0).trans rfl; have hcz9_1 : w8.cell? ⟨gb101, 1, none⟩ = some (.int .i64 a0_1) := (zak BK101.out 1).trans rfl; have hfz9_0 := zah BK101.out 0; have hfz9_1 := zah BK101.out 1) | (go_at_call 53; (with_reducible refine (zaU.calls a0_0 10 t103 _ A5.out).mono ?_); rintro e w' ⟨rfl, ⟨nd, rfl⟩⟩; (try first | exact ⟨rfl, _, World.drewN_drewN _ _ _⟩ | exact ⟨rfl, _, Eq.trans (World.drewN_drewN _ _ _) (congrArg (World.drewN _) (Nat.add_assoc _ _ _))⟩))))
   go_ret
   exact ⟨by first | rfl | (simp [zas, zar] <;> rfl) | (simp [*, zas, zar] <;> rfl), by repeat (first | (with_reducible first | exact HB.out | apply zac | apply zaa | apply zaf | refine zab ?_ GE101.out) | exact HB.out)⟩
  ·rw [if_neg c4] at H
   have c4b0 : (a0_1 == 1) = false := beq_eq_false_iff_ne.mpr c4
   have c4b1 : (a0_1 != 1) = true := bne_iff_ne.mpr c4
   replace H := Option.bind_eq_some_iff.mp H
   obtain ⟨t104, A100, H⟩ := H
   replace H : (if t104.size + 1 ≤ 9223372036854775807 then ((zaU.f a0_1 10).bind fun t105 => (if (t104 ++ (⟨#[47]⟩ : ByteArray)).size + t105.size ≤ 9223372036854775807 then (some ((t104 ++ (⟨#[47]⟩ : ByteArray)) ++ t105)) else (none))) else (none)) = some r := H
   have A10 := Aside0.mk A100
   clear A100
   by_cases c11 : t104.size + 1 ≤ 9223372036854775807
   ·rw [if_pos c11] at H
    have c11b0 := eq_true c11
    have c11b1 : decide (t104.size + 1 ≤ 9223372036854775807) = true := decide_eq_true c11
    try have c11b2 : (9223372036854775807 < t104.size + 1) = False := eq_false (Nat.not_lt.2 c11)
    replace H := Option.bind_eq_some_iff.mp H
    obtain ⟨t105, A120, H⟩ := H
    replace H : (if (t104 ++ (⟨#[47]⟩ : ByteArray)).size + t105.size ≤ 9223372036854775807 then (some ((t104 ++ (⟨#[47]⟩ : ByteArray)) ++ t105)) else (none)) = some r := H
    have A12 := Aside0.mk A120
    clear A120
    by_cases c13 : (t104 ++ (⟨#[47]⟩ : ByteArray)).size + t105.size ≤ 9223372036854775807
    ·rw [if_pos c13] at H
     have c13b0 := eq_true c13
     have c13b1 : decide ((t104 ++ (⟨#[47]⟩ : ByteArray)).size + t105.size ≤ 9223372036854775807) = true := decide_eq_true c13
     try have c13b2 : (9223372036854775807 < (t104 ++ (⟨#[47]⟩ : ByteArray)).size + t105.size) = False := eq_false (Nat.not_lt.2 c13)
     obtain rfl := Option.some.inj H
     go_enter Tryd.func30, Tryd.ntmps30
     go_wp2_with (first | ((with_reducible refine zaK (N := 1) rfl ?_); refine zaI ?hg (N := 1) ?hd (cs := #[.int .i64 a0_0, .int .i64 a0_1]) (t := 24) ?hr ?_; (case hd => rfl); (case hg => rfl); (case hr => first | (go_simp; done) | (go_simp; rfl)); intro gb101 hg w14 hbox hb; have n0_ := Aside0.mk (zam (by repeat (first | (with_reducible first | exact HB.out | apply zac | apply zaa | apply zaf) | exact HB.out)) hb); have n1_ := Aside0.mk (hbox); have n2_ := Aside0.mk ((by rw [hg]; exact (zao (by repeat (first | (with_reducible first | exact HB.out | apply zac | apply zaa | apply zaf) | exact HB.out))) : w.heap.size ≤ gb101)); have n3_ := n2_; clear HB; have HB := n0_; have BK101 := n1_; have GW101 := n2_; have GE101 := n3_; clear n0_ n1_ n2_ n3_; clear hb hbox hg; have hcz15_0 : w14.cell? ⟨gb101, 0, none⟩ = some (.int .i64 a0_0) := (zak BK101.out 0).trans rfl; have hcz15_1 : w14.cell? ⟨gb101, 1, none⟩ = some (.int .i64 a0_1) := (zak BK101.out 1).trans rfl; have hfz15_0 := zah BK101.out 0; have hfz15_1 := zah BK101.out 1) | (go_at_call 37; (with_reducible refine (zaZ.calls a0_0 a0_1 true _ A2.out).mono ?_); rintro e w16 ⟨rfl, hb⟩; have n0_ := Aside0.mk (zaj (g := gb101) (o := .cells #[.int .i64 a0_0, .int .i64 a0_1] 24 (0, 0)) (by (with_reducible repeat (first | apply zae | apply zai | apply zad)); exact BK101.out) hb); have n1_ := Aside0.mk (zam (by repeat (first | (with_reducible first | exact HB.out | apply zac | apply zaa | apply zaf | refine zab ?_ GE101.out) | exact HB.out)) hb); clear BK101; clear HB; have BK101 := n0_; have HB := n1_; clear n0_ n1_; (try clear hb); (try clear hb2); (try clear hk); (try clear hi); have hcz17_0 : w16.cell? ⟨gb101, 0, none⟩ = some (.int .i64 a0_0) := (zak BK101.out 0).trans rfl; have hcz17_1 : w16.cell? ⟨gb101, 1, none⟩ = some (.int .i64 a0_1) := (zak BK101.out 1).trans rfl; have hfz17_0 := zah BK101.out 0; have hfz17_1 := zah BK101.out 1) | (go_at_call 53; (with_reducible refine (zaU.calls a0_0 10 t104 _ A10.out).mono ?_); rintro e w' ⟨rfl, ⟨nd, rfl⟩⟩; (try first | exact ⟨rfl, _, World.drewN_drewN _ _ _⟩ | exact ⟨rfl, _, Eq.trans (World.drewN_drewN _ _ _) (congrArg (World.drewN _) (Nat.add_assoc _ _ _))⟩)) | (go_at_call 53; (with_reducible refine (zaU.calls a0_1 10 t105 _ A12.out).mono ?_); rintro e w' ⟨rfl, ⟨nd, rfl⟩⟩; (try first | exact ⟨rfl, _, World.drewN_drewN _ _ _⟩ | exact ⟨rfl, _, Eq.trans (World.drewN_drewN _ _ _) (congrArg (World.drewN _) (Nat.add_assoc _ _ _))⟩)))
     repeat (go_quiet (first | ((with_reducible refine zaK (N := 1) rfl ?_); refine zaI ?hg (N := 1) ?hd (cs := #[.int .i64 a0_0, .int .i64 a0_1]) (t := 24) ?hr ?_; (case hd => rfl); (case hg => rfl); (case hr => first | (go_simp; done) | (go_simp; rfl)); intro gb101 hg w14 hbox hb; have n0_ := Aside0.mk (zam (by repeat (first | (with_reducible first | exact HB.out | apply zac | apply zaa | apply zaf) | exact HB.out)) hb); have n1_ := Aside0.mk (hbox); have n2_ := Aside0.mk ((by rw [hg]; exact (zao (by repeat (first | (with_reducible first | exact HB.out | apply zac | apply zaa | apply zaf) | exact HB.out))) : w.heap.size ≤ gb101)); have n3_ := n2_; clear HB; have HB := n0_; have BK101 := n1_; have GW101 := n2_; have GE101 := n3_; clear n0_ n1_ n2_ n3_; clear hb hbox hg; have hcz15_0 : w14.cell? ⟨gb101, 0, none⟩ = some (.int .i64 a0_0) := (zak BK101.out 0).trans rfl; have hcz15_1 : w14.cell? ⟨gb101, 1, none⟩ = some (.int .i64 a0_1) := (zak BK101.out 1).trans rfl; have hfz15_0 := zah BK101.out 0; have hfz15_1 := zah BK101.out 1) | (go_at_call 37; (with_reducible refine (zaZ.calls a0_0 a0_1 true _ A2.out).mono ?_); rintro e w16 ⟨rfl, hb⟩; have n0_ := Aside0.mk (zaj (g := gb101) (o := .cells #[.int .i64 a0_0, .int .i64 a0_1] 24 (0, 0)) (by (with_reducible repeat (first | apply zae | apply zai | apply zad)); exact BK101.out) hb); have n1_ := Aside0.mk (zam (by repeat (first | (with_reducible first | exact HB.out | apply zac | apply zaa | apply zaf | refine zab ?_ GE101.out) | exact HB.out)) hb); clear BK101; clear HB; have BK101 := n0_; have HB := n1_; clear n0_ n1_; (try clear hb); (try clear hb2); (try clear hk); (try clear hi); have hcz17_0 : w16.cell? ⟨gb101, 0, none⟩ = some (.int .i64 a0_0) := (zak BK101.out 0).trans rfl; have hcz17_1 : w16.cell? ⟨gb101, 1, none⟩ = some (.int .i64 a0_1) := (zak BK101.out 1).trans rfl; have hfz17_0 := zah BK101.out 0; have hfz17_1 := zah BK101.out 1) | (go_at_call 53; (with_reducible refine (zaU.calls a0_0 10 t104 _ A10.out).mono ?_); rintro e w' ⟨rfl, ⟨nd, rfl⟩⟩; (try first | exact ⟨rfl, _, World.drewN_drewN _ _ _⟩ | exact ⟨rfl, _, Eq.trans (World.drewN_drewN _ _ _) (congrArg (World.drewN _) (Nat.add_assoc _ _ _))⟩)) | (go_at_call 53; (with_reducible refine (zaU.calls a0_1 10 t105 _ A12.out).mono ?_); rintro e w' ⟨rfl, ⟨nd, rfl⟩⟩; (try first | exact ⟨rfl, _, World.drewN_drewN _ _ _⟩ | exact ⟨rfl, _, Eq.trans (World.drewN_drewN _ _ _) (congrArg (World.drewN _) (Nat.add_assoc _ _ _))⟩))); try go_wp2_with (first | ((with_reducible refine zaK (N := 1) rfl ?_); refine zaI ?hg (N := 1) ?hd (cs := #[.int .i64 a0_0, .int .i64 a0_1]) (t := 24) ?hr ?_; (case hd => rfl); (case hg => rfl); (case hr => first | (go_simp; done) | (go_simp; rfl)); intro gb101 hg w14 hbox hb; have n0_ := Aside0.mk (zam (by repeat (first | (with_reducible first | exact HB.out | apply zac | apply zaa | apply zaf) | exact HB.out)) hb); have n1_ := Aside0.mk (hbox); have n2_ := Aside0.mk ((by rw [hg]; exact (zao (by repeat (first | (with_reducible first | exact HB.out | apply zac | apply zaa | apply zaf) | exact HB.out))) : w.heap.size ≤ gb101)); have n3_ := n2_; clear HB; have HB := n0_; have BK101 := n1_; have GW101 := n2_; have GE101 := n3_; clear n0_ n1_ n2_ n3_; clear hb hbox hg; have hcz15_0 : w14.cell? ⟨gb101, 0, none⟩ = some (.int .i64 a0_0) := (zak BK101.out 0).trans rfl; have hcz15_1 : w14.cell? ⟨gb101, 1, none⟩ = some (.int .i64 a0_1) := (zak BK101.out 1).trans rfl; have hfz15_0 := zah BK101.out 0; have hfz15_1 := zah BK101.out 1) | (go_at_call 37; (with_reducible refine (zaZ.calls a0_0 a0_1 true _ A2.out).mono ?_); rintro e w16 ⟨rfl, hb⟩; have n0_ := Aside0.mk (zaj (g := gb101) (o := .cells #[.int .i64 a0_0, .int .i64 a0_1] 24 (0, 0)) (by (with_reducible repeat (first | apply zae | apply zai | apply zad)); exact BK101.out) hb); have n1_ := Aside0.mk (zam (by repeat (first | (with_reducible first | exact HB.out | apply zac | apply zaa | apply zaf | refine zab ?_ GE101.out) | exact HB.out)) hb); clear BK101; clear HB; have BK101 := n0_; have HB := n1_; clear n0_ n1_; (try clear hb); (try clear hb2); (try clear hk); (try clear hi); have hcz17_0 : w16.cell? ⟨gb101, 0, none⟩ = some (.int .i64 a0_0) := (zak BK101.out 0).trans rfl; have hcz17_1 : w16.cell? ⟨gb101, 1, none⟩ = some (.int .i64 a0_1) := (zak BK101.out 1).trans rfl; have hfz17_0 := zah BK101.out 0; have hfz17_1 := zah BK101.out 1) | (go_at_call 53; (with_reducible refine (zaU.calls a0_0 10 t104 _ A10.out).mono ?_); rintro e w' ⟨rfl, ⟨nd, rfl⟩⟩; (try first | exact ⟨rfl, _, World.drewN_drewN _ _ _⟩ | exact ⟨rfl, _, Eq.trans (World.drewN_drewN _ _ _) (congrArg (World.drewN _) (Nat.add_assoc _ _ _))⟩)) | (go_at_call 53; (with_reducible refine (zaU.calls a0_1 10 t105 _ A12.out).mono ?_); rintro e w' ⟨rfl, ⟨nd, rfl⟩⟩; (try first | exact ⟨rfl, _, World.drewN_drewN _ _ _⟩ | exact ⟨rfl, _, Eq.trans (World.drewN_drewN _ _ _) (congrArg (World.drewN _) (Nat.add_assoc _ _ _))⟩))))
     go_ret
     exact ⟨by first | rfl | (simp [zas, zar] <;> rfl) | (simp [*, zas, zar] <;> rfl), by repeat (first | (with_reducible first | exact HB.out | apply zac | apply zaa | apply zaf | refine zab ?_ GE101.out) | exact HB.out)⟩
    ·rw [if_neg c13] at H
     exact absurd H (by simp)
   ·rw [if_neg c11] at H
    exact absurd H (by simp)
 ·replace c3 := Bool.eq_false_iff.mpr c3
  subst c3
  have H1 : (some (⟨#[63]⟩ : ByteArray)) = some r := by rw [if_neg (show ¬ (false = true) by decide)] at H; exact H
  clear H
  have H := H1
  clear H1
  obtain rfl := Option.some.inj H
  go_enter Tryd.func30, Tryd.ntmps30
  go_wp2_with (first | ((with_reducible refine zaK (N := 1) rfl ?_); refine zaI ?hg (N := 1) ?hd (cs := #[.int .i64 a0_0, .int .i64 a0_1]) (t := 24) ?hr ?_; (case hd => rfl); (case hg => rfl); (case hr => first | (go_simp; done) | (go_simp; rfl)); intro gb101 hg w18 hbox hb; have n0_ := Aside0.mk (zam (by repeat (first | (with_reducible first | exact HB.out | apply zac | apply zaa | apply zaf) | exact HB.out)) hb); have n1_ := Aside0.mk (hbox); have n2_ := Aside0.mk ((by rw [hg]; exact (zao (by repeat (first | (with_reducible first | exact HB.out | apply zac | apply zaa | apply zaf) | exact HB.out))) : w.heap.size ≤ gb101)); have n3_ := n2_; clear HB; have HB := n0_; have BK101 := n1_; have GW101 := n2_; have GE101 := n3_; clear n0_ n1_ n2_ n3_; clear hb hbox hg; have hcz19_0 : w18.cell? ⟨gb101, 0, none⟩ = some (.int .i64 a0_0) := (zak BK101.out 0).trans rfl; have hcz19_1 : w18.cell? ⟨gb101, 1, none⟩ = some (.int .i64 a0_1) := (zak BK101.out 1).trans rfl; have hfz19_0 := zah BK101.out 0; have hfz19_1 := zah BK101.out 1) | (go_at_call 37; (with_reducible refine (zaZ.calls a0_0 a0_1 false _ A2.out).mono ?_); rintro e w20 ⟨rfl, hb⟩; have n0_ := Aside0.mk (zaj (g := gb101) (o := .cells #[.int .i64 a0_0, .int .i64 a0_1] 24 (0, 0)) (by (with_reducible repeat (first | apply zae | apply zai | apply zad)); exact BK101.out) hb); have n1_ := Aside0.mk (zam (by repeat (first | (with_reducible first | exact HB.out | apply zac | apply zaa | apply zaf | refine zab ?_ GE101.out) | exact HB.out)) hb); clear BK101; clear HB; have BK101 := n0_; have HB := n1_; clear n0_ n1_; (try clear hb); (try clear hb2); (try clear hk); (try clear hi)))
  repeat (go_quiet (first | ((with_reducible refine zaK (N := 1) rfl ?_); refine zaI ?hg (N := 1) ?hd (cs := #[.int .i64 a0_0, .int .i64 a0_1]) (t := 24) ?hr ?_; (case hd => rfl); (case hg => rfl); (case hr => first | (go_simp; done) | (go_simp; rfl)); intro gb101 hg w18 hbox hb; have n0_ := Aside0.mk (zam (by repeat (first | (with_reducible first | exact HB.out | apply zac | apply zaa | apply zaf) | exact HB.out)) hb); have n1_ := Aside0.mk (hbox); have n2_ := Aside0.mk ((by rw [hg]; exact (zao (by repeat (first | (with_reducible first | exact HB.out | apply zac | apply zaa | apply zaf) | exact HB.out))) : w.heap.size ≤ gb101)); have n3_ := n2_; clear HB; have HB := n0_; have BK101 := n1_; have GW101 := n2_; have GE101 := n3_; clear n0_ n1_ n2_ n3_; clear hb hbox hg; have hcz19_0 : w18.cell? ⟨gb101, 0, none⟩ = some (.int .i64 a0_0) := (zak BK101.out 0).trans rfl; have hcz19_1 : w18.cell? ⟨gb101, 1, none⟩ = some (.int .i64 a0_1) := (zak BK101.out 1).trans rfl; have hfz19_0 := zah BK101.out 0; have hfz19_1 := zah BK101.out 1) | (go_at_call 37; (with_reducible refine (zaZ.calls a0_0 a0_1 false _ A2.out).mono ?_); rintro e w20 ⟨rfl, hb⟩; have n0_ := Aside0.mk (zaj (g := gb101) (o := .cells #[.int .i64 a0_0, .int .i64 a0_1] 24 (0, 0)) (by (with_reducible repeat (first | apply zae | apply zai | apply zad)); exact BK101.out) hb); have n1_ := Aside0.mk (zam (by repeat (first | (with_reducible first | exact HB.out | apply zac | apply zaa | apply zaf | refine zab ?_ GE101.out) | exact HB.out)) hb); clear BK101; clear HB; have BK101 := n0_; have HB := n1_; clear n0_ n1_; (try clear hb); (try clear hb2); (try clear hk); (try clear hi))); try go_wp2_with (first | ((with_reducible refine zaK (N := 1) rfl ?_); refine zaI ?hg (N := 1) ?hd (cs := #[.int .i64 a0_0, .int .i64 a0_1]) (t := 24) ?hr ?_; (case hd => rfl); (case hg => rfl); (case hr => first | (go_simp; done) | (go_simp; rfl)); intro gb101 hg w18 hbox hb; have n0_ := Aside0.mk (zam (by repeat (first | (with_reducible first | exact HB.out | apply zac | apply zaa | apply zaf) | exact HB.out)) hb); have n1_ := Aside0.mk (hbox); have n2_ := Aside0.mk ((by rw [hg]; exact (zao (by repeat (first | (with_reducible first | exact HB.out | apply zac | apply zaa | apply zaf) | exact HB.out))) : w.heap.size ≤ gb101)); have n3_ := n2_; clear HB; have HB := n0_; have BK101 := n1_; have GW101 := n2_; have GE101 := n3_; clear n0_ n1_ n2_ n3_; clear hb hbox hg; have hcz19_0 : w18.cell? ⟨gb101, 0, none⟩ = some (.int .i64 a0_0) := (zak BK101.out 0).trans rfl; have hcz19_1 : w18.cell? ⟨gb101, 1, none⟩ = some (.int .i64 a0_1) := (zak BK101.out 1).trans rfl; have hfz19_0 := zah BK101.out 0; have hfz19_1 := zah BK101.out 1) | (go_at_call 37; (with_reducible refine (zaZ.calls a0_0 a0_1 false _ A2.out).mono ?_); rintro e w20 ⟨rfl, hb⟩; have n0_ := Aside0.mk (zaj (g := gb101) (o := .cells #[.int .i64 a0_0, .int .i64 a0_1] 24 (0, 0)) (by (with_reducible repeat (first | apply zae | apply zai | apply zad)); exact BK101.out) hb); have n1_ := Aside0.mk (zam (by repeat (first | (with_reducible first | exact HB.out | apply zac | apply zaa | apply zaf | refine zab ?_ GE101.out) | exact HB.out)) hb); clear BK101; clear HB; have BK101 := n0_; have HB := n1_; clear n0_ n1_; (try clear hb); (try clear hb2); (try clear hk); (try clear hi))))
  go_ret
  exact ⟨by first | rfl | (simp [zas, zar] <;> rfl) | (simp [*, zas, zar] <;> rfl), by repeat (first | (with_reducible first | exact HB.out | apply zac | apply zaa | apply zaf | refine zab ?_ GE101.out) | exact HB.out)⟩
end Go.Proofs.YtijhnmbegceonaaDoor.PTerm
namespace Go.Proofs.YtijhnmbegceonaaDoor.PTerm
open Go.RowKit Go.Proofs.YtijhnmbegceonaaDoorW.PrintWords Go.Proofs.YtijhnmbegceonaaDoorW.PrintLast Go.Proofs.YtijhnmbegceonaaDoorW.PrintMore
attribute [local go_sem] zbr zbp zbz zby zbh zbg zbq zbo
set_option linter.unusedVariables false
set_option linter.unusedSimpArgs false
def strings_Join.f (l0 : List ByteArray) (a1 : ByteArray) : Option (ByteArray) := if l0.length ≤ 140737488355328 ∧ (Lib.join (l0.map (·.data.toList)) a1.data.toList).length ≤ 140737488355328 then some ⟨(Lib.join (l0.map (·.data.toList)) a1.data.toList).toArray⟩ else none
theorem strings_Join.calls (A0 : Option Addr) (c0 : Nat) (l0 : List ByteArray) (a1 : ByteArray) (r : ByteArray) (w : World) (hr0 : Kd.C Kd.string w A0 l0.length l0) (hc0 : l0.length ≤ c0) (h : strings_Join.f l0 a1 = some r) :
  Calls Tryd.prog 31 #[.slice A0 l0.length c0, .string a1] w fun e w' => e = .returned (.string r) ∧ Below w.heap.size w w' := by
 unfold strings_Join.f at h
 split at h
 rotate_left
 ·cases h
 rename_i hc
 have e := Option.some.inj h
 subst e
 have get : ∀ (j : Nat) (x : ByteArray), l0[j]? = some x → ∃ ad, A0 = some ad ∧ w.cell? (ad.add j) = some (.string x) := by
  intro j x hx
  have hj := (List.getElem?_eq_some_iff.1 hx).1
  obtain ⟨ad, c, e1, e2, e3, e4⟩ := Kd.zhL hr0 ByteArray.empty (j : Int) (by omega) (by omega)
  have ec : c = [.string x] := by
   rw [Int.toNat_natCast, List.getD_eq_getElem?_getD, hx] at e3
   exact e3
  have h4 := e4 0 (.string x) (by rw [ec]; rfl)
  rw [Int.toNat_natCast] at h4
  exact ⟨ad, e1, by have e5 : j * Kd.string.sz + 0 = j := Nat.mul_one j; rw [e5] at h4; exact h4⟩
 cases hl : l0 with
 | nil =>
  refine (Tryd.strings_Join_none A0 c0 a1 w).mono ?_
  rintro e w' ⟨rfl, rfl⟩
  exact ⟨rfl, Below.refl _ _⟩
 | cons x r =>
  rw [← hl]
  obtain ⟨ad, e1, e2⟩ := get 0 x (by rw [hl]; rfl)
  obtain ⟨bk, o, sp⟩ := ad
  have hsp : sp = none := by
   cases sp with
   | none => rfl
   | some q =>
    rw [show (Addr.mk bk o (some q)).add 0 = ⟨bk, o, some q⟩ from rfl] at e2
    unfold World.cell? at e2
    split at e2
    ·simp at e2
    ·cases e2
  subst hsp
  subst e1
  refine Tryd.strings_Join bk o c0 l0 a1 w (fun j y hy => ?_) ?_ hc.1 hc0 hc.2
  ·obtain ⟨ad, e5, e6⟩ := get j y hy
   obtain rfl := Option.some.inj e5
   by_cases h0 : j = 0
   ·subst h0; exact e6
   ·have e7 : (Addr.mk bk o none).add j = ⟨bk, o + j, none⟩ := by unfold Addr.add; rw [if_neg h0]
    rw [e7] at e6; exact e6
  ·rw [show (Addr.mk bk o none).add 0 = ⟨bk, o, none⟩ from rfl] at e2
   unfold World.cell? at e2
   cases hb : w.heap[bk]? with
   | none => rw [hb] at e2; cases e2
   | some ob => exact (Array.getElem?_eq_some_iff.1 hb).1
end Go.Proofs.YtijhnmbegceonaaDoor.PTerm
namespace Go.Proofs.YtijhnmbegceonaaDoor.PTerm
open Go.RowKit Go.Proofs.YtijhnmbegceonaaDoorW.PrintWords Go.Proofs.YtijhnmbegceonaaDoorW.PrintLast Go.Proofs.YtijhnmbegceonaaDoorW.PrintMore
attribute [local go_sem] zbr zbp zbz zby zbh zbg zbq zbo
set_option linter.unusedVariables false
set_option linter.unusedSimpArgs false
mutual
def za5.l0 : Nat → List ByteArray → List ByteArray → List (S24) → Int → Int → List (S24) → Int → Int → Option (ByteArray)
 | 0, _, _, _, _, _, _, _, _ => none
 | k + 1, x1, x5, x13, x14, x15, x107000, x107001, x107002 => if x15 < x14 then (if 0 ≤ x15 then (if x15 < (x13.length : Int) then (if ((zaC x13 x15).f0) = 0 then (za5.l0 k x1 x5 x13 x14 (wrap64 (x15 + 1)) x107000 x107001 x107002) else ((strconv_Itoa.f x15).bind fun t110 => (if 1 + t110.size ≤ 9223372036854775807 then (if x15 < (x1.length : Int) then ((zcd.f ((zaC x13 x15).f0) ((zaC x13 x15).f1)).bind fun t112 => (if t112.size + 1 ≤ 9223372036854775807 then (if (t112 ++ (⟨#[42]⟩ : ByteArray)).size + (rdOf ByteArray.empty x1 x15).size ≤ 9223372036854775807 then (if x5.length < 8796093022208 then (za5.l0 k x1 (x5 ++ [(t112 ++ (⟨#[42]⟩ : ByteArray)) ++ (rdOf ByteArray.empty x1 x15)]) x13 x14 (wrap64 (x15 + 1)) x107000 x107001 x107002) else (none)) else (none)) else (none))) else ((zcd.f ((zaC x13 x15).f0) ((zaC x13 x15).f1)).bind fun t116 => (if t116.size + 1 ≤ 9223372036854775807 then (if (t116 ++ (⟨#[42]⟩ : ByteArray)).size + ((⟨#[120]⟩ : ByteArray) ++ t110).size ≤ 9223372036854775807 then (if x5.length < 8796093022208 then (za5.l0 k x1 (x5 ++ [(t116 ++ (⟨#[42]⟩ : ByteArray)) ++ ((⟨#[120]⟩ : ByteArray) ++ t110)]) x13 x14 (wrap64 (x15 + 1)) x107000 x107001 x107002) else (none)) else (none)) else (none)))) else (none)))) else (none)) else (none)) else (if x107001 = 0 then (za5.j1 k x5 ((x5.length : Int) == 0) x107000 x107001 x107002) else (za5.j1 k x5 true x107000 x107001 x107002))
def za5.j1 : Nat → List ByteArray → Bool → List (S24) → Int → Int → Option (ByteArray)
 | 0, _, _, _, _, _ => none
 | k + 1, x5, x51, x107000, x107001, x107002 => if x51 = true then ((zcd.f x107001 x107002).bind fun t120 => (if x5.length < 8796093022208 then ((strings_Join.f (x5 ++ [t120]) (⟨#[32, 43, 32]⟩ : ByteArray)).bind fun t124 => (some t124)) else (none))) else ((strings_Join.f x5 (⟨#[32, 43, 32]⟩ : ByteArray)).bind fun t125 => (some t125))
end
def za5.f (k : Nat) (l0_0 : List (S24)) (a0_1 : Int) (a0_2 : Int) (l1 : List ByteArray) : Option (ByteArray) := (za4.f l0_0 a0_1 a0_2).bind fun t107 => (if t107 = true then (za5.l0 k l1 ([] : List ByteArray) l0_0 (l0_0.length : Int) 0 l0_0 a0_1 a0_2) else (some (⟨#[63]⟩ : ByteArray)))
theorem za5.zgX : ∀ k, (∀ y0 y1 y2 y3 y4 y5 y6 y7, LeO (za5.l0 k y0 y1 y2 y3 y4 y5 y6 y7) (za5.l0 (k + 1) y0 y1 y2 y3 y4 y5 y6 y7)) ∧ (∀ y0 y1 y2 y3 y4, LeO (za5.j1 k y0 y1 y2 y3 y4) (za5.j1 (k + 1) y0 y1 y2 y3 y4))
 | 0 => ⟨fun _ _ _ _ _ _ _ _ r h => by simp [za5.l0] at h, fun _ _ _ _ _ r h => by simp [za5.j1] at h⟩
 | k + 1 => by
  obtain ⟨ih0, ih1⟩ := za5.zgX k
  refine ⟨?_, ?_⟩
  ·intro y0 y1 y2 y3 y4 y5 y6 y7
   unfold za5.l0
   repeat' first
   | (with_reducible exact ih0 _ _ _ _ _ _ _ _)
   | (with_reducible exact ih1 _ _ _ _ _)
   | (with_reducible exact LeO.refl _)
   | (with_reducible exact LeO.none _)
   | (with_reducible refine LeO.ite ?_ ?_)
   | (with_reducible refine LeO.bind ?_ (fun _ => ?_))
   | exact ih0 _ _ _ _ _ _ _ _
   | exact ih1 _ _ _ _ _
   | exact LeO.none _
   | refine LeO.ite ?_ ?_
   | refine LeO.bind ?_ (fun _ => ?_)
  ·intro y0 y1 y2 y3 y4
   unfold za5.j1
   repeat' first
   | (with_reducible exact ih0 _ _ _ _ _ _ _ _)
   | (with_reducible exact ih1 _ _ _ _ _)
   | (with_reducible exact LeO.refl _)
   | (with_reducible exact LeO.none _)
   | (with_reducible refine LeO.ite ?_ ?_)
   | (with_reducible refine LeO.bind ?_ (fun _ => ?_))
   | exact ih0 _ _ _ _ _ _ _ _
   | exact ih1 _ _ _ _ _
   | exact LeO.none _
   | refine LeO.ite ?_ ?_
   | refine LeO.bind ?_ (fun _ => ?_)
theorem za5.mono : ∀ a0 a1 a2 a3 k, LeO (za5.f k a0 a1 a2 a3) (za5.f (k + 1) a0 a1 a2 a3) := by
 intro a0 a1 a2 a3 k
 obtain ⟨ih0, ih1⟩ := za5.zgX k
 unfold za5.f
 repeat' first
   | (with_reducible exact ih0 _ _ _ _ _ _ _ _)
   | (with_reducible exact ih1 _ _ _ _ _)
   | (with_reducible exact LeO.refl _)
   | (with_reducible exact LeO.none _)
   | (with_reducible refine LeO.ite ?_ ?_)
   | (with_reducible refine LeO.bind ?_ (fun _ => ?_))
   | exact ih0 _ _ _ _ _ _ _ _
   | exact ih1 _ _ _ _ _
   | exact LeO.none _
   | refine LeO.ite ?_ ?_
   | refine LeO.bind ?_ (fun _ => ?_)
set_option maxHeartbeats 8000000 in
set_option maxRecDepth 100000 in
theorem za5.calls (k : Nat) (A0_0 : Option Addr) (c0_0 : Nat) (l0_0 : List (S24)) (a0_1 : Int) (a0_2 : Int) (A1 : Option Addr) (c1 : Nat) (l1 : List ByteArray) (r : ByteArray) (w : World) (hr0_0 : Kd.C k24 w A0_0 l0_0.length l0_0) (hc0_0 : l0_0.length ≤ c0_0) (hr1 : Kd.C Kd.string w A1 l1.length l1) (hc1 : l1.length ≤ c1) (h : za5.f k l0_0 a0_1 a0_2 l1 = some r) :
  Calls Tryd.prog 14 #[.agg #[.slice A0_0 l0_0.length c0_0, .int .i64 a0_1, .int .i64 a0_2], .slice A1 l1.length c1] w fun e w' => e = .returned (.string r) ∧ Below w.heap.size w w' := by
 have hu26 := Tryd.underlying26
 have hu24 := Tryd.underlying24
 have HR0_0 := Aside0.mk hr0_0
 have HC0_0 := Aside0.mk hc0_0
 clear hr0_0 hc0_0
 have HR1 := Aside0.mk hr1
 have HC1 := Aside0.mk hc1
 clear hr1 hc1
 have HB := Aside0.mk (Below.refl w.heap.size w)
 have H : ((za4.f l0_0 a0_1 a0_2).bind fun t107 => (if t107 = true then (za5.l0 k l1 ([] : List ByteArray) l0_0 (l0_0.length : Int) 0 l0_0 a0_1 a0_2) else (some (⟨#[63]⟩ : ByteArray)))) = some r := h
 clear h
 replace H := Option.bind_eq_some_iff.mp H
 obtain ⟨t107, A30, H⟩ := H
 replace H : (if t107 = true then (za5.l0 k l1 ([] : List ByteArray) l0_0 (l0_0.length : Int) 0 l0_0 a0_1 a0_2) else (some (⟨#[63]⟩ : ByteArray))) = some r := H
 have A3 := Aside0.mk A30
 clear A30
 by_cases c4 : t107 = true
 ·subst c4
  have H1 : (za5.l0 k l1 ([] : List ByteArray) l0_0 (l0_0.length : Int) 0 l0_0 a0_1 a0_2) = some r := by rw [if_pos rfl] at H; exact H
  clear H
  have H := H1
  clear H1
  have H' := Aside0.mk H
  clear H
  go_enter Tryd.func14, Tryd.ntmps14
  go_wp2_with (first | ((with_reducible refine zaK (N := 2) rfl ?_); (try (refine zbn (by rfl) ?_; dsimp only)); refine zaI ?hg (N := 2) ?hd (cs := #[.slice A0_0 l0_0.length c0_0, .int .i64 a0_1, .int .i64 a0_2]) (t := 26) ?hr ?_; (case hd => rfl); (case hg => rfl); (case hr => first | (go_simp; done) | (go_simp; rfl)); intro gb106 hg w5 hbox hb; have n0_ := Aside0.mk (zam (by repeat (first | (with_reducible first | exact HB.out | apply zac | apply zaa | apply zaf) | exact HB.out)) hb); have n1_ := Aside0.mk (hbox); have n2_ := Aside0.mk ((by rw [hg]; exact (zao (by repeat (first | (with_reducible first | exact HB.out | apply zac | apply zaa | apply zaf) | exact HB.out))) : w.heap.size ≤ gb106)); have n3_ := n2_; clear HB; have HB := n0_; have BK106 := n1_; have GW106 := n2_; have GE106 := n3_; clear n0_ n1_ n2_ n3_; clear hb hbox hg; have hcz6_0 : w5.cell? ⟨gb106, 0, none⟩ = some (.slice A0_0 l0_0.length c0_0) := (zak BK106.out 0).trans rfl; have hcz6_1 : w5.cell? ⟨gb106, 1, none⟩ = some (.int .i64 a0_1) := (zak BK106.out 1).trans rfl; have hcz6_2 : w5.cell? ⟨gb106, 2, none⟩ = some (.int .i64 a0_2) := (zak BK106.out 2).trans rfl; have hfz6_0 := zah BK106.out 0; have hfz6_1 := zah BK106.out 1; have hfz6_2 := zah BK106.out 2) | ((with_reducible refine zat (f := 18) rfl ?_); refine za9 (some 10) rfl rfl Tryd.func18 (by kernel_rfl) rfl #[.agg #[.slice A0_0 l0_0.length c0_0, .int .i64 a0_1, .int .i64 a0_2]] rfl (by (try simp only [List.map_toArray, List.map_cons, List.map_nil]); first | done | rfl | (simp only [List.length_drop, List.length_take]; rfl)) ?_; (with_reducible refine (za4.calls _ _ l0_0 a0_1 a0_2 true _ ?side1 ?side2 A3.out).mono ?_); (case side1 => repeat (first | exact (Kd.zbd HR0_0.out HB.out) | (with_reducible refine Kd.zbe ?_ _) | (with_reducible refine Kd.zbc ?_ _) | (with_reducible refine Kd.zbt ?_))); (case side2 => exact HC0_0.out); rintro e w7 ⟨rfl, hb⟩; refine ⟨_, rfl, ?_⟩; have n0_ := Aside0.mk (zaj (g := gb106) (o := .cells #[.slice A0_0 l0_0.length c0_0, .int .i64 a0_1, .int .i64 a0_2] 26 (0, 0)) (by (with_reducible repeat (first | apply zae | apply zai | apply zad)); exact BK106.out) hb); have n1_ := Aside0.mk (zam (by repeat (first | (with_reducible first | exact HB.out | apply zac | apply zaa | apply zaf | refine zab ?_ GE106.out) | exact HB.out)) hb); clear BK106; clear HB; have BK106 := n0_; have HB := n1_; clear n0_ n1_; (try clear hb); (try clear hb2); (try clear hk); (try clear hi); have hcz8_0 : w7.cell? ⟨gb106, 0, none⟩ = some (.slice A0_0 l0_0.length c0_0) := (zak BK106.out 0).trans rfl; have hcz8_1 : w7.cell? ⟨gb106, 1, none⟩ = some (.int .i64 a0_1) := (zak BK106.out 1).trans rfl; have hcz8_2 : w7.cell? ⟨gb106, 2, none⟩ = some (.int .i64 a0_2) := (zak BK106.out 2).trans rfl; have hfz8_0 := zah BK106.out 0; have hfz8_1 := zah BK106.out 1; have hfz8_2 := zah BK106.out 2))
  go_loopg [5, 15] k (fun kq v5 v15 w' => ∃ (x5_1 : List ByteArray) (x15_1 : Int), v15 = .int .i64 x15_1 ∧ Aside0 (za5.l0 kq l1 x5_1 l0_0 (l0_0.length : Int) x15_1 l0_0 a0_1 a0_2 = some r) ∧ Aside0 (kq ≤ k) ∧ Aside0 (Kd.R Kd.string 9 w' w.heap.size (fun _ => True) v5 x5_1) ∧ Aside0 (w'.heap[gb106]? = some (.cells #[(.slice A0_0 l0_0.length c0_0), .int .i64 a0_1, .int .i64 a0_2] 26 (0, 0))) ∧ Aside0 (Below w.heap.size w w'))
  case atStart => exact ⟨(([] : List ByteArray)), (0), (by first | rfl | (simp; done) | (simp [*]; done)), H', ⟨Nat.le_refl _⟩, ⟨by first | exact Kd.zcL _ _ _ _ _ | exact Kd.zej _ _ _ _ _ | exact Kd.zef _ _ _ _ _ | exact Kd.zei _ _ _ _ _ | exact Kd.zeg _ _ _ _ _⟩, ⟨by (with_reducible repeat (first | apply zae | apply zai | apply zad)); exact BK106.out⟩, ⟨by repeat (first | (with_reducible first | exact HB.out | apply zac | apply zaa | apply zaf | refine zab ?_ GE106.out) | exact HB.out)⟩⟩
  case round =>
   clear H'
   (try clear c1); (try clear p2); (try clear c4); (try clear hcz6_0); (try clear hcz6_1); (try clear hcz6_2); (try clear hcz8_0); (try clear hcz8_1); (try clear hcz8_2); (try clear hfz6_0); (try clear hfz6_1); (try clear hfz6_2); (try clear hfz8_0); (try clear hfz8_1); (try clear hfz8_2)
   obtain ⟨x5_1, x15_1, rfl, HA, HK1, HO_5, BK106, HB⟩ := hrel
   cases gk with
   | zero => exact absurd HA.out (by simp [za5.l0])
   | succ k1 =>
    have H := HA.out
    clear HA
    simp only [za5.l0] at H
    by_cases c9 : x15_1 < (l0_0.length : Int)
    ·rw [if_pos c9] at H
     have c9b0 : decide (x15_1 < (l0_0.length : Int)) = true := decide_eq_true c9
     clear c9
     by_cases c10 : 0 ≤ x15_1
     ·rw [if_pos c10] at H
      have c10b0 : decide (0 ≤ x15_1) = true := decide_eq_true c10
      clear c10
      by_cases c11 : x15_1 < (l0_0.length : Int)
      ·rw [if_pos c11] at H
       have c11b0 : decide (x15_1 < (l0_0.length : Int)) = true := decide_eq_true c11
       clear c11
       by_cases c12 : ((zaC l0_0 x15_1).f0) = 0
       ·rw [if_pos c12] at H
        have c12b0 : (((zaC l0_0 x15_1).f0) == 0) = true := beq_iff_eq.mpr c12
        have c12b1 : (((zaC l0_0 x15_1).f0) != 0) = false := bne_eq_false_iff_eq.mpr c12
        clear c12
        have H' := Aside0.mk H
        clear H
        have p108 : 0 ≤ (x15_1 : Int) := of_decide_eq_true (by first | (with_reducible assumption) | assumption)
        have q108 : x15_1 < (l0_0.length : Int) := of_decide_eq_true (by first | (with_reducible assumption) | assumption)
        obtain ⟨ad108, e108, hx108_0, hx108_1⟩ := zcw HR0_0.out x15_1 p108 q108
        cases e108
        replace hx108_0 := (HB.out.cell (World.block_lt_of_cell? w _ hx108_0)).trans hx108_0
        replace hx108_1 := (HB.out.cell (World.block_lt_of_cell? w _ hx108_1)).trans hx108_1
        replace p108 := eq_true p108
        replace q108 := eq_true q108
        go_wp2_with (first | ((with_reducible refine zaK (N := 7) rfl ?_); (try (refine zbn (by rfl) ?_; dsimp only)); refine zaI ?hg (N := 7) ?hd (cs := #[.int .i64 0, .int .i64 0]) (t := 24) ?hr ?_; (case hd => rfl); (case hg => rfl); (case hr => first | (go_simp; done) | (go_simp; rfl)); intro gb109 hg w13 hbox hb; have n0_ := Aside0.mk (Kd.zbM (by (with_reducible repeat (first | apply Kd.zaw | apply Kd.zax | apply Kd.zaE)); exact HO_5.out) hb); have n1_ := Aside0.mk (zaj (g := gb106) (o := .cells #[.slice (some ad108) l0_0.length c0_0, .int .i64 a0_1, .int .i64 a0_2] 26 (0, 0)) (by (with_reducible repeat (first | apply zae | apply zai | apply zad)); exact BK106.out) hb); have n2_ := Aside0.mk (zam (by repeat (first | (with_reducible first | exact HB.out | apply zac | apply zaa | apply zaf | refine zab ?_ GE106.out) | exact HB.out)) hb); have n3_ := Aside0.mk (hbox); have n4_ := Aside0.mk ((by rw [hg]; exact (zao (by repeat (first | (with_reducible first | exact HB.out | apply zac | apply zaa | apply zaf | refine zab ?_ GE106.out) | exact HB.out))) : w.heap.size ≤ gb109)); have n5_ := n4_; have n6_ := Aside0.mk ((by rw [hg]; exact Nat.ne_of_lt (za3 (g := gb106) (o := .cells #[.slice (some ad108) l0_0.length c0_0, .int .i64 a0_1, .int .i64 a0_2] 26 (0, 0)) (by (with_reducible repeat (first | apply zae | apply zai | apply zad)); exact BK106.out)) : gb106 ≠ gb109)); have n7_ := Aside0.mk n6_.out.symm; clear HO_5; clear BK106; clear HB; have HO_5 := n0_; have BK106 := n1_; have HB := n2_; have BK109 := n3_; have GW109 := n4_; have GE109 := n5_; have NB106_109 := n6_; have NB109_106 := n7_; clear n0_ n1_ n2_ n3_ n4_ n5_ n6_ n7_; clear hb hbox hg; have hnb14 := NB109_106.out; have hnc14 := NB106_109.out; have hcz15_0 : w13.cell? ⟨gb109, 0, none⟩ = some (.int .i64 0) := (zak BK109.out 0).trans rfl; have hcz15_1 : w13.cell? ⟨gb109, 1, none⟩ = some (.int .i64 0) := (zak BK109.out 1).trans rfl; have hfz15_0 := zah BK109.out 0; have hfz15_1 := zah BK109.out 1))
        go_roundg k1
        case measure => have := HK1.out; omega
        case rel => exact ⟨(x5_1), (wrap64 (x15_1 + 1)), (by first | rfl | (simp; done) | (simp [*]; done)), H', ⟨by have := HK1.out; omega⟩, ⟨by (with_reducible repeat (first | apply Kd.zaw | apply Kd.zax | apply Kd.zaE)); exact Kd.zbj (Kd.zbN (p := ⟨gb109, 1, none⟩) (Kd.zbN (p := ⟨gb109, 0, none⟩) (Kd.zb0 HO_5.out BK109.out (by decide)) (fun _ hk => hk.2) (.int .i64 ((zaC l0_0 x15_1).f0))) (fun _ hk => hk.2) (.int .i64 ((zaC l0_0 x15_1).f1))) (fun _ hk => trivial)⟩, ⟨by (repeat (first | (with_reducible first | apply zae | apply zai | apply zad) | refine zaA ?_ NB106_109.out _)); exact BK106.out⟩, ⟨by repeat (first | (with_reducible first | exact HB.out | apply zac | apply zaa | apply zaf | refine zab ?_ GE106.out | refine zab ?_ GE109.out) | exact HB.out)⟩⟩
       ·rw [if_neg c12] at H
        have c12b0 : (((zaC l0_0 x15_1).f0) == 0) = false := beq_eq_false_iff_ne.mpr c12
        have c12b1 : (((zaC l0_0 x15_1).f0) != 0) = true := bne_iff_ne.mpr c12
        replace H := Option.bind_eq_some_iff.mp H
        obtain ⟨t110, A160, H⟩ := H
        replace H : (if 1 + t110.size ≤ 9223372036854775807 then (if x15_1 < (l1.length : Int) then ((zcd.f ((zaC l0_0 x15_1).f0) ((zaC l0_0 x15_1).f1)).bind fun t112 => (if t112.size + 1 ≤ 9223372036854775807 then (if (t112 ++ (⟨#[42]⟩ : ByteArray)).size + (rdOf ByteArray.empty l1 x15_1).size ≤ 9223372036854775807 then (if x5_1.length < 8796093022208 then (za5.l0 k1 l1 (x5_1 ++ [(t112 ++ (⟨#[42]⟩ : ByteArray)) ++ (rdOf ByteArray.empty l1 x15_1)]) l0_0 (l0_0.length : Int) (wrap64 (x15_1 + 1)) l0_0 a0_1 a0_2) else (none)) else (none)) else (none))) else ((zcd.f ((zaC l0_0 x15_1).f0) ((zaC l0_0 x15_1).f1)).bind fun t116 => (if t116.size + 1 ≤ 9223372036854775807 then (if (t116 ++ (⟨#[42]⟩ : ByteArray)).size + ((⟨#[120]⟩ : ByteArray) ++ t110).size ≤ 9223372036854775807 then (if x5_1.length < 8796093022208 then (za5.l0 k1 l1 (x5_1 ++ [(t116 ++ (⟨#[42]⟩ : ByteArray)) ++ ((⟨#[120]⟩ : ByteArray) ++ t110)]) l0_0 (l0_0.length : Int) (wrap64 (x15_1 + 1)) l0_0 a0_1 a0_2) else (none)) else (none)) else (none)))) else (none)) = some r := H
        have A16 := Aside0.mk A160
        clear A160
        by_cases c17 : 1 + t110.size ≤ 9223372036854775807
        ·rw [if_pos c17] at H
         have c17b0 := eq_true c17
         have c17b1 : decide (1 + t110.size ≤ 9223372036854775807) = true := decide_eq_true c17
         try have c17b2 : (9223372036854775807 < 1 + t110.size) = False := eq_false (Nat.not_lt.2 c17)
         by_cases c18 : x15_1 < (l1.length : Int)
         ·rw [if_pos c18] at H
          have c18b0 : decide (x15_1 < (l1.length : Int)) = true := decide_eq_true c18
          clear c18
          replace H := Option.bind_eq_some_iff.mp H
          obtain ⟨t112, A190, H⟩ := H
          replace H : (if t112.size + 1 ≤ 9223372036854775807 then (if (t112 ++ (⟨#[42]⟩ : ByteArray)).size + (rdOf ByteArray.empty l1 x15_1).size ≤ 9223372036854775807 then (if x5_1.length < 8796093022208 then (za5.l0 k1 l1 (x5_1 ++ [(t112 ++ (⟨#[42]⟩ : ByteArray)) ++ (rdOf ByteArray.empty l1 x15_1)]) l0_0 (l0_0.length : Int) (wrap64 (x15_1 + 1)) l0_0 a0_1 a0_2) else (none)) else (none)) else (none)) = some r := H
          have A19 := Aside0.mk A190
          clear A190
          by_cases c20 : t112.size + 1 ≤ 9223372036854775807
          ·rw [if_pos c20] at H
           have c20b0 := eq_true c20
           have c20b1 : decide (t112.size + 1 ≤ 9223372036854775807) = true := decide_eq_true c20
           try have c20b2 : (9223372036854775807 < t112.size + 1) = False := eq_false (Nat.not_lt.2 c20)
           by_cases c21 : (t112 ++ (⟨#[42]⟩ : ByteArray)).size + (rdOf ByteArray.empty l1 x15_1).size ≤ 9223372036854775807
           ·rw [if_pos c21] at H
            have c21b0 := eq_true c21
            have c21b1 : decide ((t112 ++ (⟨#[42]⟩ : ByteArray)).size + (rdOf ByteArray.empty l1 x15_1).size ≤ 9223372036854775807) = true := decide_eq_true c21
            try have c21b2 : (9223372036854775807 < (t112 ++ (⟨#[42]⟩ : ByteArray)).size + (rdOf ByteArray.empty l1 x15_1).size) = False := eq_false (Nat.not_lt.2 c21)
            by_cases c22 : x5_1.length < 8796093022208
            ·rw [if_pos c22] at H
             have LMc22 := Aside0.mk c22
             clear c22
             obtain ⟨y113, hy113⟩ : ∃ y_ : List ByteArray, y_ = (x5_1 ++ [(t112 ++ (⟨#[42]⟩ : ByteArray)) ++ (rdOf ByteArray.empty l1 x15_1)]) := ⟨_, rfl⟩
             replace H : (za5.l0 k1 l1 y113 l0_0 (l0_0.length : Int) (wrap64 (x15_1 + 1)) l0_0 a0_1 a0_2) = some r := by first | (rw [hy113]; with_reducible exact H) | (have H2_ := (Option.bind_some _ _).symm.trans H; rw [hy113]; with_reducible exact H2_) | (have H2_ := (Option.bind_some _ _).symm.trans H; with_reducible exact H2_) | with_reducible exact H | (rw [hy113]; exact H) | exact H
             have Ny113 := Aside0.mk hy113
             clear hy113
             have H' := Aside0.mk H
             clear H
             have p108 : 0 ≤ (x15_1 : Int) := of_decide_eq_true (by first | (with_reducible assumption) | assumption)
             have q108 : x15_1 < (l0_0.length : Int) := of_decide_eq_true (by first | (with_reducible assumption) | assumption)
             obtain ⟨ad108, e108, hx108_0, hx108_1⟩ := zcw HR0_0.out x15_1 p108 q108
             cases e108
             replace hx108_0 := (HB.out.cell (World.block_lt_of_cell? w _ hx108_0)).trans hx108_0
             replace hx108_1 := (HB.out.cell (World.block_lt_of_cell? w _ hx108_1)).trans hx108_1
             replace p108 := eq_true p108
             replace q108 := eq_true q108
             go_wp2_with (first | ((with_reducible refine zaK (N := 7) rfl ?_); (try (refine zbn (by rfl) ?_; dsimp only)); refine zaI ?hg (N := 7) ?hd (cs := #[.int .i64 0, .int .i64 0]) (t := 24) ?hr ?_; (case hd => rfl); (case hg => rfl); (case hr => first | (go_simp; done) | (go_simp; rfl)); intro gb109 hg w23 hbox hb; have n0_ := Aside0.mk (Kd.zbM (by (with_reducible repeat (first | apply Kd.zaw | apply Kd.zax | apply Kd.zaE)); exact HO_5.out) hb); have n1_ := Aside0.mk (zaj (g := gb106) (o := .cells #[.slice (some ad108) l0_0.length c0_0, .int .i64 a0_1, .int .i64 a0_2] 26 (0, 0)) (by (with_reducible repeat (first | apply zae | apply zai | apply zad)); exact BK106.out) hb); have n2_ := Aside0.mk (zam (by repeat (first | (with_reducible first | exact HB.out | apply zac | apply zaa | apply zaf | refine zab ?_ GE106.out) | exact HB.out)) hb); have n3_ := Aside0.mk (hbox); have n4_ := Aside0.mk ((by rw [hg]; exact (zao (by repeat (first | (with_reducible first | exact HB.out | apply zac | apply zaa | apply zaf | refine zab ?_ GE106.out) | exact HB.out))) : w.heap.size ≤ gb109)); have n5_ := n4_; have n6_ := Aside0.mk ((by rw [hg]; exact Nat.ne_of_lt (za3 (g := gb106) (o := .cells #[.slice (some ad108) l0_0.length c0_0, .int .i64 a0_1, .int .i64 a0_2] 26 (0, 0)) (by (with_reducible repeat (first | apply zae | apply zai | apply zad)); exact BK106.out)) : gb106 ≠ gb109)); have n7_ := Aside0.mk n6_.out.symm; clear HO_5; clear BK106; clear HB; have HO_5 := n0_; have BK106 := n1_; have HB := n2_; have BK109 := n3_; have GW109 := n4_; have GE109 := n5_; have NB106_109 := n6_; have NB109_106 := n7_; clear n0_ n1_ n2_ n3_ n4_ n5_ n6_ n7_; clear hb hbox hg; have hnb24 := NB109_106.out; have hnc24 := NB106_109.out; have hcz25_0 : w23.cell? ⟨gb109, 0, none⟩ = some (.int .i64 0) := (zak BK109.out 0).trans rfl; have hcz25_1 : w23.cell? ⟨gb109, 1, none⟩ = some (.int .i64 0) := (zak BK109.out 1).trans rfl; have hfz25_0 := zah BK109.out 0; have hfz25_1 := zah BK109.out 1) | ((with_reducible refine zat (f := 29) rfl ?_); refine za9 (some 24) rfl rfl Tryd.func29 (by kernel_rfl) rfl #[.int .i64 x15_1] rfl (by (try simp only [List.map_toArray, List.map_cons, List.map_nil]); first | done | rfl | (simp only [List.length_drop, List.length_take]; rfl)) ?_; (with_reducible refine (strconv_Itoa.calls x15_1 t110 _ A16.out).mono ?_); rintro e w' ⟨rfl, ⟨nd, rfl⟩⟩; refine ⟨_, rfl, ?_⟩; have p111 : 0 ≤ (x15_1 : Int) := of_decide_eq_true (by first | (with_reducible assumption) | assumption); have q111 : x15_1 < (l1.length : Int) := of_decide_eq_true (by first | (with_reducible assumption) | assumption); obtain ⟨ad111, e111, hx111_0⟩ := Kd.zgi HR1.out x15_1 p111 q111; cases e111; have hn111_0 : ad111.block ≠ gb109 := Nat.ne_of_lt (Nat.lt_of_lt_of_le (by have := World.block_lt_of_cell? _ _ hx111_0; first | rwa [add_block] at this | exact this) GW109.out); have hn111_1 : ad111.block ≠ gb109 := Nat.ne_of_lt (Nat.lt_of_lt_of_le (by have := World.block_lt_of_cell? _ _ hx111_0; first | rwa [add_block] at this | exact this) GW109.out); replace hx111_0 := (HB.out.cell (World.block_lt_of_cell? w _ hx111_0)).trans hx111_0; replace hx111_0 := (cell_far (p := ⟨gb109, 0, none⟩) (by first | (rw [add_block]; exact hn111_0) | (show (Addr.add _ _).block ≠ _; rw [add_block]; exact hn111_0) | exact hn111_0) (.int .i64 ((zaC l0_0 x15_1).f0))).trans hx111_0; replace hx111_0 := (cell_far (p := ⟨gb109, 1, none⟩) (by first | (rw [add_block]; exact hn111_1) | (show (Addr.add _ _).block ≠ _; rw [add_block]; exact hn111_1) | exact hn111_1) (.int .i64 ((zaC l0_0 x15_1).f1))).trans hx111_0; clear hn111_0; clear hn111_1; replace p111 := eq_true p111; replace q111 := eq_true q111) | ((with_reducible refine zat (f := 30) rfl ?_); refine za9 (some 36) rfl rfl Tryd.func30 (by kernel_rfl) rfl #[.agg #[.int .i64 ((zaC l0_0 x15_1).f0), .int .i64 ((zaC l0_0 x15_1).f1)]] rfl (by (try simp only [List.map_toArray, List.map_cons, List.map_nil]); first | done | rfl | (simp only [List.length_drop, List.length_take]; rfl)) ?_; (with_reducible refine (zcd.calls ((zaC l0_0 x15_1).f0) ((zaC l0_0 x15_1).f1) t112 _ A19.out).mono ?_); rintro e w26 ⟨rfl, hb⟩; refine ⟨_, rfl, ?_⟩; have n0_ := Aside0.mk (Kd.zbM (by (with_reducible repeat (first | apply Kd.zaw | apply Kd.zax | apply Kd.zaE)); exact (Kd.zbj (Kd.zbN (p := ⟨gb109, 1, none⟩) (Kd.zbN (p := ⟨gb109, 0, none⟩) (Kd.zb0 HO_5.out BK109.out (by decide)) (fun _ hk => hk.2) (.int .i64 ((zaC l0_0 x15_1).f0))) (fun _ hk => hk.2) (.int .i64 ((zaC l0_0 x15_1).f1))) (fun _ h_ => h_.1))) hb); have n1_ := Aside0.mk (zaj (g := gb106) (o := .cells #[.slice (some ad108) l0_0.length c0_0, .int .i64 a0_1, .int .i64 a0_2] 26 (0, 0)) (by (repeat (first | (with_reducible first | apply zae | apply zai | apply zad) | refine zaA ?_ NB106_109.out _)); exact BK106.out) hb); have n2_ := Aside0.mk (zaj (g := gb109) (o := .cells #[.int .i64 ((zaC l0_0 x15_1).f0), .int .i64 ((zaC l0_0 x15_1).f1)] 24 (0, 0)) (by (with_reducible repeat (first | apply zae | apply zai | apply zad)); refine zay (cs := #[.int .i64 ((zaC l0_0 x15_1).f0), .int .i64 0]) ?_ 1 _ rfl; (with_reducible repeat (first | apply zae | apply zai | apply zad)); refine zay (cs := #[.int .i64 0, .int .i64 0]) ?_ 0 _ rfl; (with_reducible repeat (first | apply zae | apply zai | apply zad)); exact BK109.out) hb); have n3_ := Aside0.mk (zam (by repeat (first | (with_reducible first | exact HB.out | apply zac | apply zaa | apply zaf | refine zab ?_ GE106.out | refine zab ?_ GE109.out) | exact HB.out)) hb); clear HO_5; clear BK106; clear BK109; clear HB; have HO_5 := n0_; have BK106 := n1_; have BK109 := n2_; have HB := n3_; clear n0_ n1_ n2_ n3_; (try clear hb); (try clear hb2); (try clear hk); (try clear hi)) | ((with_reducible refine zbs (b := .append) (xs := #[.tmp 34, .tmp 40]) rfl ?_); (try (refine zbn (by rfl) ?_; dsimp only)); at_builtin; refine Kd.zb7 Kd.string (w0 := w) w.heap.size rfl (.tmp 34) (.tmp 40) 27 9 (.string ⟨#[]⟩) 16 rfl Tryd.underlying27 zhz rfl (by decide) (by omega) u5 x5_1 ((t112 ++ (⟨#[42]⟩ : ByteArray)) ++ (rdOf ByteArray.empty l1 x15_1)) [.string ((t112 ++ (⟨#[42]⟩ : ByteArray)) ++ (rdOf ByteArray.empty l1 x15_1))] (fun _ => True) (fun _ => False) rfl rfl ?aP (fun _ hk => hk.elim) ?aF ?aO ?aB ?aS ?aL ?_; (case aP => exact rfl); (case aB => exact (by repeat (first | (with_reducible first | exact HB.out | apply zac | apply zaa | apply zaf | refine zab ?_ GE106.out | refine zab ?_ GE109.out) | exact HB.out))); (case aF => exact (fun _ _ => trivial)); (case aO => exact (by (with_reducible repeat (first | apply Kd.zaw | apply Kd.zax | apply Kd.zaE)); exact HO_5.out)); (case aS => exact (zao (by repeat (first | (with_reducible first | exact HB.out | apply zac | apply zaa | apply zaf | refine zab ?_ GE106.out | refine zab ?_ GE109.out) | exact HB.out)))); (case aL => have := LMc22.out; omega); intro v114 w27 ho hb hg hat; rw [← Ny113.out] at ho; have n0_ := Aside0.mk (zcr (g := gb106) (o := .cells #[.slice (some ad108) l0_0.length c0_0, .int .i64 a0_1, .int .i64 a0_2] 26 (0, 0)) (by (with_reducible repeat (first | apply zae | apply zai | apply zad)); exact BK106.out) hg (Kd.R_ne HO_5.out BK106.out (by decide))); have n1_ := Aside0.mk (zcr (g := gb109) (o := .cells #[.int .i64 ((zaC l0_0 x15_1).f0), .int .i64 ((zaC l0_0 x15_1).f1)] 24 (0, 0)) (by (with_reducible repeat (first | apply zae | apply zai | apply zad)); exact BK109.out) hg (Kd.R_ne HO_5.out BK109.out (by decide))); have n2_ := Aside0.mk (hb); have n3_ := Aside0.mk (ho); clear BK106; clear BK109; clear HB; clear HO_5; have BK106 := n0_; have BK109 := n1_; have HB := n2_; have HO115 := n3_; clear n0_ n1_ n2_ n3_; clear ho hb hg hat))
             go_roundg k1
             case measure => have := HK1.out; omega
             case rel => exact ⟨(y113), (wrap64 (x15_1 + 1)), (by first | rfl | (simp; done) | (simp [*]; done)), H', ⟨by have := HK1.out; omega⟩, ⟨by (with_reducible repeat (first | apply Kd.zaw | apply Kd.zax | apply Kd.zaE)); exact HO115.out⟩, ⟨by (with_reducible repeat (first | apply zae | apply zai | apply zad)); exact BK106.out⟩, ⟨by repeat (first | (with_reducible first | exact HB.out | apply zac | apply zaa | apply zaf | refine zab ?_ GE106.out | refine zab ?_ GE109.out) | exact HB.out)⟩⟩
            ·rw [if_neg c22] at H
             exact absurd H (by simp)
           ·rw [if_neg c21] at H
            exact absurd H (by simp)
          ·rw [if_neg c20] at H
           exact absurd H (by simp)
         ·rw [if_neg c18] at H
          have c18b0 : decide (x15_1 < (l1.length : Int)) = false := decide_eq_false c18
          clear c18
          replace H := Option.bind_eq_some_iff.mp H
          obtain ⟨t116, A280, H⟩ := H
          replace H : (if t116.size + 1 ≤ 9223372036854775807 then (if (t116 ++ (⟨#[42]⟩ : ByteArray)).size + ((⟨#[120]⟩ : ByteArray) ++ t110).size ≤ 9223372036854775807 then (if x5_1.length < 8796093022208 then (za5.l0 k1 l1 (x5_1 ++ [(t116 ++ (⟨#[42]⟩ : ByteArray)) ++ ((⟨#[120]⟩ : ByteArray) ++ t110)]) l0_0 (l0_0.length : Int) (wrap64 (x15_1 + 1)) l0_0 a0_1 a0_2) else (none)) else (none)) else (none)) = some r := H
          have A28 := Aside0.mk A280
          clear A280
          by_cases c29 : t116.size + 1 ≤ 9223372036854775807
          ·rw [if_pos c29] at H
           have c29b0 := eq_true c29
           have c29b1 : decide (t116.size + 1 ≤ 9223372036854775807) = true := decide_eq_true c29
           try have c29b2 : (9223372036854775807 < t116.size + 1) = False := eq_false (Nat.not_lt.2 c29)
           by_cases c30 : (t116 ++ (⟨#[42]⟩ : ByteArray)).size + ((⟨#[120]⟩ : ByteArray) ++ t110).size ≤ 9223372036854775807
           ·rw [if_pos c30] at H
            have c30b0 := eq_true c30
            have c30b1 : decide ((t116 ++ (⟨#[42]⟩ : ByteArray)).size + ((⟨#[120]⟩ : ByteArray) ++ t110).size ≤ 9223372036854775807) = true := decide_eq_true c30
            try have c30b2 : (9223372036854775807 < (t116 ++ (⟨#[42]⟩ : ByteArray)).size + ((⟨#[120]⟩ : ByteArray) ++ t110).size) = False := eq_false (Nat.not_lt.2 c30)
            by_cases c31 : x5_1.length < 8796093022208
            ·rw [if_pos c31] at H
             have LMc31 := Aside0.mk c31
             clear c31
             obtain ⟨y117, hy117⟩ : ∃ y_ : List ByteArray, y_ = (x5_1 ++ [(t116 ++ (⟨#[42]⟩ : ByteArray)) ++ ((⟨#[120]⟩ : ByteArray) ++ t110)]) := ⟨_, rfl⟩
             replace H : (za5.l0 k1 l1 y117 l0_0 (l0_0.length : Int) (wrap64 (x15_1 + 1)) l0_0 a0_1 a0_2) = some r := by first | (rw [hy117]; with_reducible exact H) | (have H2_ := (Option.bind_some _ _).symm.trans H; rw [hy117]; with_reducible exact H2_) | (have H2_ := (Option.bind_some _ _).symm.trans H; with_reducible exact H2_) | with_reducible exact H | (rw [hy117]; exact H) | exact H
             have Ny117 := Aside0.mk hy117
             clear hy117
             have H' := Aside0.mk H
             clear H
             have p108 : 0 ≤ (x15_1 : Int) := of_decide_eq_true (by first | (with_reducible assumption) | assumption)
             have q108 : x15_1 < (l0_0.length : Int) := of_decide_eq_true (by first | (with_reducible assumption) | assumption)
             obtain ⟨ad108, e108, hx108_0, hx108_1⟩ := zcw HR0_0.out x15_1 p108 q108
             cases e108
             replace hx108_0 := (HB.out.cell (World.block_lt_of_cell? w _ hx108_0)).trans hx108_0
             replace hx108_1 := (HB.out.cell (World.block_lt_of_cell? w _ hx108_1)).trans hx108_1
             replace p108 := eq_true p108
             replace q108 := eq_true q108
             go_wp2_with (first | ((with_reducible refine zaK (N := 7) rfl ?_); (try (refine zbn (by rfl) ?_; dsimp only)); refine zaI ?hg (N := 7) ?hd (cs := #[.int .i64 0, .int .i64 0]) (t := 24) ?hr ?_; (case hd => rfl); (case hg => rfl); (case hr => first | (go_simp; done) | (go_simp; rfl)); intro gb109 hg w32 hbox hb; have n0_ := Aside0.mk (Kd.zbM (by (with_reducible repeat (first | apply Kd.zaw | apply Kd.zax | apply Kd.zaE)); exact HO_5.out) hb); have n1_ := Aside0.mk (zaj (g := gb106) (o := .cells #[.slice (some ad108) l0_0.length c0_0, .int .i64 a0_1, .int .i64 a0_2] 26 (0, 0)) (by (with_reducible repeat (first | apply zae | apply zai | apply zad)); exact BK106.out) hb); have n2_ := Aside0.mk (zam (by repeat (first | (with_reducible first | exact HB.out | apply zac | apply zaa | apply zaf | refine zab ?_ GE106.out) | exact HB.out)) hb); have n3_ := Aside0.mk (hbox); have n4_ := Aside0.mk ((by rw [hg]; exact (zao (by repeat (first | (with_reducible first | exact HB.out | apply zac | apply zaa | apply zaf | refine zab ?_ GE106.out) | exact HB.out))) : w.heap.size ≤ gb109)); have n5_ := n4_; have n6_ := Aside0.mk ((by rw [hg]; exact Nat.ne_of_lt (za3 (g := gb106) (o := .cells #[.slice (some ad108) l0_0.length c0_0, .int .i64 a0_1, .int .i64 a0_2] 26 (0, 0)) (by (with_reducible repeat (first | apply zae | apply zai | apply zad)); exact BK106.out)) : gb106 ≠ gb109)); have n7_ := Aside0.mk n6_.out.symm; clear HO_5; clear BK106; clear HB; have HO_5 := n0_; have BK106 := n1_; have HB := n2_; have BK109 := n3_; have GW109 := n4_; have GE109 := n5_; have NB106_109 := n6_; have NB109_106 := n7_; clear n0_ n1_ n2_ n3_ n4_ n5_ n6_ n7_; clear hb hbox hg; have hnb33 := NB109_106.out; have hnc33 := NB106_109.out; have hcz34_0 : w32.cell? ⟨gb109, 0, none⟩ = some (.int .i64 0) := (zak BK109.out 0).trans rfl; have hcz34_1 : w32.cell? ⟨gb109, 1, none⟩ = some (.int .i64 0) := (zak BK109.out 1).trans rfl; have hfz34_0 := zah BK109.out 0; have hfz34_1 := zah BK109.out 1) | ((with_reducible refine zat (f := 29) rfl ?_); refine za9 (some 24) rfl rfl Tryd.func29 (by kernel_rfl) rfl #[.int .i64 x15_1] rfl (by (try simp only [List.map_toArray, List.map_cons, List.map_nil]); first | done | rfl | (simp only [List.length_drop, List.length_take]; rfl)) ?_; (with_reducible refine (strconv_Itoa.calls x15_1 t110 _ A16.out).mono ?_); rintro e w' ⟨rfl, ⟨nd, rfl⟩⟩; refine ⟨_, rfl, ?_⟩) | ((with_reducible refine zat (f := 30) rfl ?_); refine za9 (some 36) rfl rfl Tryd.func30 (by kernel_rfl) rfl #[.agg #[.int .i64 ((zaC l0_0 x15_1).f0), .int .i64 ((zaC l0_0 x15_1).f1)]] rfl (by (try simp only [List.map_toArray, List.map_cons, List.map_nil]); first | done | rfl | (simp only [List.length_drop, List.length_take]; rfl)) ?_; (with_reducible refine (zcd.calls ((zaC l0_0 x15_1).f0) ((zaC l0_0 x15_1).f1) t116 _ A28.out).mono ?_); rintro e w35 ⟨rfl, hb⟩; refine ⟨_, rfl, ?_⟩; have n0_ := Aside0.mk (Kd.zbM (by (with_reducible repeat (first | apply Kd.zaw | apply Kd.zax | apply Kd.zaE)); exact (Kd.zbj (Kd.zbN (p := ⟨gb109, 1, none⟩) (Kd.zbN (p := ⟨gb109, 0, none⟩) (Kd.zb0 HO_5.out BK109.out (by decide)) (fun _ hk => hk.2) (.int .i64 ((zaC l0_0 x15_1).f0))) (fun _ hk => hk.2) (.int .i64 ((zaC l0_0 x15_1).f1))) (fun _ h_ => h_.1))) hb); have n1_ := Aside0.mk (zaj (g := gb106) (o := .cells #[.slice (some ad108) l0_0.length c0_0, .int .i64 a0_1, .int .i64 a0_2] 26 (0, 0)) (by (repeat (first | (with_reducible first | apply zae | apply zai | apply zad) | refine zaA ?_ NB106_109.out _)); exact BK106.out) hb); have n2_ := Aside0.mk (zaj (g := gb109) (o := .cells #[.int .i64 ((zaC l0_0 x15_1).f0), .int .i64 ((zaC l0_0 x15_1).f1)] 24 (0, 0)) (by (with_reducible repeat (first | apply zae | apply zai | apply zad)); refine zay (cs := #[.int .i64 ((zaC l0_0 x15_1).f0), .int .i64 0]) ?_ 1 _ rfl; (with_reducible repeat (first | apply zae | apply zai | apply zad)); refine zay (cs := #[.int .i64 0, .int .i64 0]) ?_ 0 _ rfl; (with_reducible repeat (first | apply zae | apply zai | apply zad)); exact BK109.out) hb); have n3_ := Aside0.mk (zam (by repeat (first | (with_reducible first | exact HB.out | apply zac | apply zaa | apply zaf | refine zab ?_ GE106.out | refine zab ?_ GE109.out) | exact HB.out)) hb); clear HO_5; clear BK106; clear BK109; clear HB; have HO_5 := n0_; have BK106 := n1_; have BK109 := n2_; have HB := n3_; clear n0_ n1_ n2_ n3_; (try clear hb); (try clear hb2); (try clear hk); (try clear hi)) | ((with_reducible refine zbs (b := .append) (xs := #[.tmp 34, .tmp 40]) rfl ?_); (try (refine zbn (by rfl) ?_; dsimp only)); at_builtin; refine Kd.zb7 Kd.string (w0 := w) w.heap.size rfl (.tmp 34) (.tmp 40) 27 9 (.string ⟨#[]⟩) 16 rfl Tryd.underlying27 zhz rfl (by decide) (by omega) u5 x5_1 ((t116 ++ (⟨#[42]⟩ : ByteArray)) ++ ((⟨#[120]⟩ : ByteArray) ++ t110)) [.string ((t116 ++ (⟨#[42]⟩ : ByteArray)) ++ ((⟨#[120]⟩ : ByteArray) ++ t110))] (fun _ => True) (fun _ => False) rfl rfl ?aP (fun _ hk => hk.elim) ?aF ?aO ?aB ?aS ?aL ?_; (case aP => exact rfl); (case aB => exact (by repeat (first | (with_reducible first | exact HB.out | apply zac | apply zaa | apply zaf | refine zab ?_ GE106.out | refine zab ?_ GE109.out) | exact HB.out))); (case aF => exact (fun _ _ => trivial)); (case aO => exact (by (with_reducible repeat (first | apply Kd.zaw | apply Kd.zax | apply Kd.zaE)); exact HO_5.out)); (case aS => exact (zao (by repeat (first | (with_reducible first | exact HB.out | apply zac | apply zaa | apply zaf | refine zab ?_ GE106.out | refine zab ?_ GE109.out) | exact HB.out)))); (case aL => have := LMc31.out; omega); intro v118 w36 ho hb hg hat; rw [← Ny117.out] at ho; have n0_ := Aside0.mk (zcr (g := gb106) (o := .cells #[.slice (some ad108) l0_0.length c0_0, .int .i64 a0_1, .int .i64 a0_2] 26 (0, 0)) (by (with_reducible repeat (first | apply zae | apply zai | apply zad)); exact BK106.out) hg (Kd.R_ne HO_5.out BK106.out (by decide))); have n1_ := Aside0.mk (zcr (g := gb109) (o := .cells #[.int .i64 ((zaC l0_0 x15_1).f0), .int .i64 ((zaC l0_0 x15_1).f1)] 24 (0, 0)) (by (with_reducible repeat (first | apply zae | apply zai | apply zad)); exact BK109.out) hg (Kd.R_ne HO_5.out BK109.out (by decide))); have n2_ := Aside0.mk (hb); have n3_ := Aside0.mk (ho); clear BK106; clear BK109; clear HB; clear HO_5; have BK106 := n0_; have BK109 := n1_; have HB := n2_; have HO119 := n3_; clear n0_ n1_ n2_ n3_; clear ho hb hg hat))
             go_roundg k1
             case measure => have := HK1.out; omega
             case rel => exact ⟨(y117), (wrap64 (x15_1 + 1)), (by first | rfl | (simp; done) | (simp [*]; done)), H', ⟨by have := HK1.out; omega⟩, ⟨by (with_reducible repeat (first | apply Kd.zaw | apply Kd.zax | apply Kd.zaE)); exact HO119.out⟩, ⟨by (with_reducible repeat (first | apply zae | apply zai | apply zad)); exact BK106.out⟩, ⟨by repeat (first | (with_reducible first | exact HB.out | apply zac | apply zaa | apply zaf | refine zab ?_ GE106.out | refine zab ?_ GE109.out) | exact HB.out)⟩⟩
            ·rw [if_neg c31] at H
             exact absurd H (by simp)
           ·rw [if_neg c30] at H
            exact absurd H (by simp)
          ·rw [if_neg c29] at H
           exact absurd H (by simp)
        ·rw [if_neg c17] at H
         exact absurd H (by simp)
      ·rw [if_neg c11] at H
       exact absurd H (by simp)
     ·rw [if_neg c10] at H
      exact absurd H (by simp)
    ·rw [if_neg c9] at H
     have c9b0 : decide (x15_1 < (l0_0.length : Int)) = false := decide_eq_false c9
     clear c9
     have HC37 := Aside0.mk H
     clear H
     go_upto_region 13 with (fail)
     go_cut [51] (fun v51 wc => ∃ (kq : Nat) (x51_36 : Bool), v51 = .bool x51_36 ∧ Aside0 (za5.j1 kq x5_1 x51_36 l0_0 a0_1 a0_2 = some r) ∧ Aside0 (kq ≤ k1) ∧ Aside0 (Kd.R Kd.string 9 wc w.heap.size (fun _ => True) u5 x5_1) ∧ Aside0 (wc.heap[gb106]? = some (.cells #[(.slice A0_0 l0_0.length c0_0), .int .i64 a0_1, .int .i64 a0_2] 26 (0, 0))) ∧ Aside0 (Below w.heap.size w wc))
     case first =>
      have H := HC37.out
      clear HC37
      by_cases c38 : a0_1 = 0
      ·rw [if_pos c38] at H
       have c38b0 : (a0_1 == 0) = true := beq_iff_eq.mpr c38
       have c38b1 : (a0_1 != 0) = false := bne_eq_false_iff_eq.mpr c38
       clear c38
       (first | rw [c38b0] | (simp only [zaL, zaN]; rw [c38b0]) | skip)
       have H' := Aside0.mk H
       clear H
       have hcz39_0 : wr.cell? ⟨gb106, 0, none⟩ = some (.slice A0_0 l0_0.length c0_0) := (zak BK106.out 0).trans rfl
       have hcz39_1 : wr.cell? ⟨gb106, 1, none⟩ = some (.int .i64 a0_1) := (zak BK106.out 1).trans rfl
       have hcz39_2 : wr.cell? ⟨gb106, 2, none⟩ = some (.int .i64 a0_2) := (zak BK106.out 2).trans rfl
       have hfz39_0 := zah BK106.out 0
       have hfz39_1 := zah BK106.out 1
       have hfz39_2 := zah BK106.out 2
       obtain ⟨Ao40, co40, eo40⟩ := Kd.zbx HO_5.out
       subst eo40
       go_wp2
       go_meet
       case rel => exact ⟨_, (((x5_1.length : Int) == 0)), (by first | rfl | (simp; done) | (simp [*]; done)), H', ⟨by have := HK1.out; first | omega | exact Nat.le_refl _⟩, ⟨by (with_reducible repeat (first | apply Kd.zaw | apply Kd.zax | apply Kd.zaE)); exact HO_5.out⟩, ⟨by (with_reducible repeat (first | apply zae | apply zai | apply zad)); exact BK106.out⟩, ⟨by repeat (first | (with_reducible first | exact HB.out | apply zac | apply zaa | apply zaf | refine zab ?_ GE106.out) | exact HB.out)⟩⟩
      ·rw [if_neg c38] at H
       have c38b0 : (a0_1 == 0) = false := beq_eq_false_iff_ne.mpr c38
       have c38b1 : (a0_1 != 0) = true := bne_iff_ne.mpr c38
       (first | rw [c38b0] | (simp only [zaL, zaN]; rw [c38b0]) | skip)
       have H' := Aside0.mk H
       clear H
       have hcz41_0 : wr.cell? ⟨gb106, 0, none⟩ = some (.slice A0_0 l0_0.length c0_0) := (zak BK106.out 0).trans rfl
       have hcz41_1 : wr.cell? ⟨gb106, 1, none⟩ = some (.int .i64 a0_1) := (zak BK106.out 1).trans rfl
       have hcz41_2 : wr.cell? ⟨gb106, 2, none⟩ = some (.int .i64 a0_2) := (zak BK106.out 2).trans rfl
       have hfz41_0 := zah BK106.out 0
       have hfz41_1 := zah BK106.out 1
       have hfz41_2 := zah BK106.out 2
       go_wp2
       go_meet
       case rel => exact ⟨_, (true), (by first | rfl | (simp; done) | (simp [*]; done)), H', ⟨by have := HK1.out; first | omega | exact Nat.le_refl _⟩, ⟨by (with_reducible repeat (first | apply Kd.zaw | apply Kd.zax | apply Kd.zaE)); exact HO_5.out⟩, ⟨by (with_reducible repeat (first | apply zae | apply zai | apply zad)); exact BK106.out⟩, ⟨by repeat (first | (with_reducible first | exact HB.out | apply zac | apply zaa | apply zaf | refine zab ?_ GE106.out) | exact HB.out)⟩⟩
     case rest =>
      clear HC37
      (try clear c1); (try clear p1); (try clear q1); (try clear hx1); (try clear c2); (try clear p2); (try clear c3); (try clear c4); (try clear p6); (try clear c9); (try clear c9b0); (try clear c10); (try clear c10b0); (try clear p10); (try clear q10); (try clear hx10); (try clear c11); (try clear c11b0); (try clear p11); (try clear q11); (try clear hx11); (try clear c12); (try clear c12b0); (try clear c12b1); (try clear c14); (try clear c17); (try clear c17b0); (try clear c17b1); (try clear c17b2); (try clear c18); (try clear c18b0); (try clear c20); (try clear c20b0); (try clear c20b1); (try clear c20b2); (try clear c21); (try clear c21b0); (try clear c21b1); (try clear c21b2); (try clear c22); (try clear c24); (try clear c29); (try clear c29b0); (try clear c29b1); (try clear c29b2); (try clear c30); (try clear c30b0); (try clear c30b1); (try clear c30b2); (try clear c31); (try clear c33); (try clear c38); (try clear c38b0); (try clear c38b1); (try clear hcz15_0); (try clear hcz15_1); (try clear hcz25_0); (try clear hcz25_1); (try clear hcz34_0); (try clear hcz34_1); (try clear hcz39_0); (try clear hcz39_1); (try clear hcz39_2); (try clear hcz41_0); (try clear hcz41_1); (try clear hcz41_2); (try clear hcz6_0); (try clear hcz6_1); (try clear hcz6_2); (try clear hcz8_0); (try clear hcz8_1); (try clear hcz8_2); (try clear hfz15_0); (try clear hfz15_1); (try clear hfz25_0); (try clear hfz25_1); (try clear hfz34_0); (try clear hfz34_1); (try clear hfz39_0); (try clear hfz39_1); (try clear hfz39_2); (try clear hfz41_0); (try clear hfz41_1); (try clear hfz41_2); (try clear hfz6_0); (try clear hfz6_1); (try clear hfz6_2); (try clear hfz8_0); (try clear hfz8_1); (try clear hfz8_2); (try clear hx108_0); (try clear hx108_1); (try clear hx111_0); (try clear p108); (try clear p111); (try clear p2); (try clear q108); (try clear q111)
      obtain ⟨kq, x51_36, rfl, HA, HJ36, HO_5, BK106, HB⟩ := hcut
      cases kq with
      | zero => exact absurd HA.out (by simp [za5.j1])
      | succ kj36 =>
       have H := HA.out
       clear HA
       simp only [za5.j1] at H
       by_cases c42 : x51_36 = true
       ·subst c42
        have H1 : ((zcd.f a0_1 a0_2).bind fun t120 => (if x5_1.length < 8796093022208 then ((strings_Join.f (x5_1 ++ [t120]) (⟨#[32, 43, 32]⟩ : ByteArray)).bind fun t124 => (some t124)) else (none))) = some r := by rw [if_pos rfl] at H; exact H
        clear H
        have H := H1
        clear H1
        replace H := Option.bind_eq_some_iff.mp H
        obtain ⟨t120, A430, H⟩ := H
        replace H : (if x5_1.length < 8796093022208 then ((strings_Join.f (x5_1 ++ [t120]) (⟨#[32, 43, 32]⟩ : ByteArray)).bind fun t124 => (some t124)) else (none)) = some r := H
        have A43 := Aside0.mk A430
        clear A430
        by_cases c44 : x5_1.length < 8796093022208
        ·rw [if_pos c44] at H
         have LMc44 := Aside0.mk c44
         clear c44
         obtain ⟨y121, hy121⟩ : ∃ y_ : List ByteArray, y_ = (x5_1 ++ [t120]) := ⟨_, rfl⟩
         replace H : ((strings_Join.f y121 (⟨#[32, 43, 32]⟩ : ByteArray)).bind fun t124 => (some t124)) = some r := by first | (rw [hy121]; with_reducible exact H) | (have H2_ := (Option.bind_some _ _).symm.trans H; rw [hy121]; with_reducible exact H2_) | (have H2_ := (Option.bind_some _ _).symm.trans H; with_reducible exact H2_) | with_reducible exact H | (rw [hy121]; exact H) | exact H
         have Ny121 := Aside0.mk hy121
         clear hy121
         replace H := Option.bind_eq_some_iff.mp H
         obtain ⟨t124, A450, H⟩ := H
         replace H : (some t124) = some r := H
         have A45 := Aside0.mk A450
         clear A450
         obtain rfl := Option.some.inj H
         have hcz46_0 : wc.cell? ⟨gb106, 0, none⟩ = some (.slice A0_0 l0_0.length c0_0) := (zak BK106.out 0).trans rfl
         have hcz46_1 : wc.cell? ⟨gb106, 1, none⟩ = some (.int .i64 a0_1) := (zak BK106.out 1).trans rfl
         have hcz46_2 : wc.cell? ⟨gb106, 2, none⟩ = some (.int .i64 a0_2) := (zak BK106.out 2).trans rfl
         have hfz46_0 := zah BK106.out 0
         have hfz46_1 := zah BK106.out 1
         have hfz46_2 := zah BK106.out 2
         go_wp2_with (first | ((with_reducible refine zat (f := 30) rfl ?_); refine za9 (some 55) rfl rfl Tryd.func30 (by kernel_rfl) rfl #[.agg #[.int .i64 a0_1, .int .i64 a0_2]] rfl (by (try simp only [List.map_toArray, List.map_cons, List.map_nil]); first | done | rfl | (simp only [List.length_drop, List.length_take]; rfl)) ?_; (with_reducible refine (zcd.calls a0_1 a0_2 t120 _ A43.out).mono ?_); rintro e w47 ⟨rfl, hb⟩; refine ⟨_, rfl, ?_⟩; have n0_ := Aside0.mk (Kd.zbM (by (with_reducible repeat (first | apply Kd.zaw | apply Kd.zax | apply Kd.zaE)); exact HO_5.out) hb); have n1_ := Aside0.mk (zaj (g := gb106) (o := .cells #[.slice A0_0 l0_0.length c0_0, .int .i64 a0_1, .int .i64 a0_2] 26 (0, 0)) (by (with_reducible repeat (first | apply zae | apply zai | apply zad)); exact BK106.out) hb); have n2_ := Aside0.mk (zam (by repeat (first | (with_reducible first | exact HB.out | apply zac | apply zaa | apply zaf | refine zab ?_ GE106.out) | exact HB.out)) hb); clear HO_5; clear BK106; clear HB; have HO_5 := n0_; have BK106 := n1_; have HB := n2_; clear n0_ n1_ n2_; (try clear hb); (try clear hb2); (try clear hk); (try clear hi)) | ((with_reducible refine zbs (b := .append) (xs := #[.tmp 52, .tmp 56]) rfl ?_); (try (refine zbn (by rfl) ?_; dsimp only)); at_builtin; refine Kd.zb7 Kd.string (w0 := w) w.heap.size rfl (.tmp 52) (.tmp 56) 27 9 (.string ⟨#[]⟩) 16 rfl Tryd.underlying27 zhz rfl (by decide) (by omega) u5 x5_1 t120 [.string t120] (fun _ => True) (fun _ => False) rfl rfl ?aP (fun _ hk => hk.elim) ?aF ?aO ?aB ?aS ?aL ?_; (case aP => exact rfl); (case aB => exact (by repeat (first | (with_reducible first | exact HB.out | apply zac | apply zaa | apply zaf | refine zab ?_ GE106.out) | exact HB.out))); (case aF => exact (fun _ _ => trivial)); (case aO => exact (by (with_reducible repeat (first | apply Kd.zaw | apply Kd.zax | apply Kd.zaE)); exact HO_5.out)); (case aS => exact (zao (by repeat (first | (with_reducible first | exact HB.out | apply zac | apply zaa | apply zaf | refine zab ?_ GE106.out) | exact HB.out)))); (case aL => have := LMc44.out; omega); intro v122 w48 ho hb hg hat; rw [← Ny121.out] at ho; have n0_ := Aside0.mk (zcr (g := gb106) (o := .cells #[.slice A0_0 l0_0.length c0_0, .int .i64 a0_1, .int .i64 a0_2] 26 (0, 0)) (by (with_reducible repeat (first | apply zae | apply zai | apply zad)); exact BK106.out) hg (Kd.R_ne HO_5.out BK106.out (by decide))); have n1_ := Aside0.mk (hb); have n2_ := Aside0.mk (ho); clear BK106; clear HB; clear HO_5; have BK106 := n0_; have HB := n1_; have HO123 := n2_; clear n0_ n1_ n2_; clear ho hb hg hat; obtain ⟨Ao49, co49, eo49⟩ := Kd.zbx HO123.out; subst eo49) | ((with_reducible refine zat (f := 31) rfl ?_); refine za9 (some 59) rfl rfl Tryd.func31 (by kernel_rfl) rfl #[.slice Ao49 y121.length co49, .string (⟨#[32, 43, 32]⟩ : ByteArray)] rfl (by (try simp only [List.map_toArray, List.map_cons, List.map_nil]); first | done | rfl | (simp only [List.length_drop, List.length_take]; rfl)) ?_; (with_reducible refine (strings_Join.calls _ _ y121 (⟨#[32, 43, 32]⟩ : ByteArray) t124 _ ?side1 ?side2 A45.out).mono ?_); (case side1 => repeat (first | exact (Kd.zbk HO123.out).2.2 | (with_reducible refine Kd.zbe ?_ _) | (with_reducible refine Kd.zbc ?_ _) | (with_reducible refine Kd.zbt ?_))); (case side2 => exact (Kd.zbk HO123.out).2.1); rintro e w50 ⟨rfl, hb⟩; refine ⟨_, rfl, ?_⟩; have n0_ := Aside0.mk (Kd.zbM (by (with_reducible repeat (first | apply Kd.zaw | apply Kd.zax | apply Kd.zaE)); exact HO123.out) hb); have n1_ := Aside0.mk (zaj (g := gb106) (o := .cells #[.slice A0_0 l0_0.length c0_0, .int .i64 a0_1, .int .i64 a0_2] 26 (0, 0)) (by (with_reducible repeat (first | apply zae | apply zai | apply zad)); exact BK106.out) hb); have n2_ := Aside0.mk (zam (by repeat (first | (with_reducible first | exact HB.out | apply zac | apply zaa | apply zaf | refine zab ?_ GE106.out) | exact HB.out)) hb); clear HO123; clear BK106; clear HB; have HO123 := n0_; have BK106 := n1_; have HB := n2_; clear n0_ n1_ n2_; (try clear hb); (try clear hb2); (try clear hk); (try clear hi)))
         go_ret
         exact ⟨by first | rfl | (simp [zas, zar] <;> rfl) | (simp [*, zas, zar] <;> rfl), by repeat (first | (with_reducible first | exact HB.out | apply zac | apply zaa | apply zaf | refine zab ?_ GE106.out) | exact HB.out)⟩
        ·rw [if_neg c44] at H
         exact absurd H (by simp)
       ·replace c42 := Bool.eq_false_iff.mpr c42
        subst c42
        have H1 : ((strings_Join.f x5_1 (⟨#[32, 43, 32]⟩ : ByteArray)).bind fun t125 => (some t125)) = some r := by rw [if_neg (show ¬ (false = true) by decide)] at H; exact H
        clear H
        have H := H1
        clear H1
        replace H := Option.bind_eq_some_iff.mp H
        obtain ⟨t125, A510, H⟩ := H
        replace H : (some t125) = some r := H
        have A51 := Aside0.mk A510
        clear A510
        obtain rfl := Option.some.inj H
        obtain ⟨Ao52, co52, eo52⟩ := Kd.zbx HO_5.out
        subst eo52
        go_wp2_with (first | ((with_reducible refine zat (f := 31) rfl ?_); refine za9 (some 59) rfl rfl Tryd.func31 (by kernel_rfl) rfl #[.slice Ao52 x5_1.length co52, .string (⟨#[32, 43, 32]⟩ : ByteArray)] rfl (by (try simp only [List.map_toArray, List.map_cons, List.map_nil]); first | done | rfl | (simp only [List.length_drop, List.length_take]; rfl)) ?_; (with_reducible refine (strings_Join.calls _ _ x5_1 (⟨#[32, 43, 32]⟩ : ByteArray) t125 _ ?side1 ?side2 A51.out).mono ?_); (case side1 => repeat (first | exact (Kd.zbk HO_5.out).2.2 | (with_reducible refine Kd.zbe ?_ _) | (with_reducible refine Kd.zbc ?_ _) | (with_reducible refine Kd.zbt ?_))); (case side2 => exact (Kd.zbk HO_5.out).2.1); rintro e w53 ⟨rfl, hb⟩; refine ⟨_, rfl, ?_⟩; have n0_ := Aside0.mk (Kd.zbM (by (with_reducible repeat (first | apply Kd.zaw | apply Kd.zax | apply Kd.zaE)); exact HO_5.out) hb); have n1_ := Aside0.mk (zaj (g := gb106) (o := .cells #[.slice A0_0 l0_0.length c0_0, .int .i64 a0_1, .int .i64 a0_2] 26 (0, 0)) (by (with_reducible repeat (first | apply zae | apply zai | apply zad)); exact BK106.out) hb); have n2_ := Aside0.mk (zam (by repeat (first | (with_reducible first | exact HB.out | apply zac | apply zaa | apply zaf | refine zab ?_ GE106.out) | exact HB.out)) hb); clear HO_5; clear BK106; clear HB; have HO_5 := n0_; have BK106 := n1_; have HB := n2_; clear n0_ n1_ n2_; (try clear hb); (try clear hb2); (try clear hk); (try clear hi)))
        go_ret
        exact ⟨by first | rfl | (simp [zas, zar] <;> rfl) | (simp [*, zas, zar] <;> rfl), by repeat (first | (with_reducible first | exact HB.out | apply zac | apply zaa | apply zaf | refine zab ?_ GE106.out) | exact HB.out)⟩
 ·replace c4 := Bool.eq_false_iff.mpr c4
  subst c4
  have H1 : (some (⟨#[63]⟩ : ByteArray)) = some r := by rw [if_neg (show ¬ (false = true) by decide)] at H; exact H
  clear H
  have H := H1
  clear H1
  obtain rfl := Option.some.inj H
  go_enter Tryd.func14, Tryd.ntmps14
  go_wp2_with (first | ((with_reducible refine zaK (N := 2) rfl ?_); (try (refine zbn (by rfl) ?_; dsimp only)); refine zaI ?hg (N := 2) ?hd (cs := #[.slice A0_0 l0_0.length c0_0, .int .i64 a0_1, .int .i64 a0_2]) (t := 26) ?hr ?_; (case hd => rfl); (case hg => rfl); (case hr => first | (go_simp; done) | (go_simp; rfl)); intro gb106 hg w54 hbox hb; have n0_ := Aside0.mk (zam (by repeat (first | (with_reducible first | exact HB.out | apply zac | apply zaa | apply zaf) | exact HB.out)) hb); have n1_ := Aside0.mk (hbox); have n2_ := Aside0.mk ((by rw [hg]; exact (zao (by repeat (first | (with_reducible first | exact HB.out | apply zac | apply zaa | apply zaf) | exact HB.out))) : w.heap.size ≤ gb106)); have n3_ := n2_; clear HB; have HB := n0_; have BK106 := n1_; have GW106 := n2_; have GE106 := n3_; clear n0_ n1_ n2_ n3_; clear hb hbox hg; have hcz55_0 : w54.cell? ⟨gb106, 0, none⟩ = some (.slice A0_0 l0_0.length c0_0) := (zak BK106.out 0).trans rfl; have hcz55_1 : w54.cell? ⟨gb106, 1, none⟩ = some (.int .i64 a0_1) := (zak BK106.out 1).trans rfl; have hcz55_2 : w54.cell? ⟨gb106, 2, none⟩ = some (.int .i64 a0_2) := (zak BK106.out 2).trans rfl; have hfz55_0 := zah BK106.out 0; have hfz55_1 := zah BK106.out 1; have hfz55_2 := zah BK106.out 2) | ((with_reducible refine zat (f := 18) rfl ?_); refine za9 (some 10) rfl rfl Tryd.func18 (by kernel_rfl) rfl #[.agg #[.slice A0_0 l0_0.length c0_0, .int .i64 a0_1, .int .i64 a0_2]] rfl (by (try simp only [List.map_toArray, List.map_cons, List.map_nil]); first | done | rfl | (simp only [List.length_drop, List.length_take]; rfl)) ?_; (with_reducible refine (za4.calls _ _ l0_0 a0_1 a0_2 false _ ?side1 ?side2 A3.out).mono ?_); (case side1 => repeat (first | exact (Kd.zbd HR0_0.out HB.out) | (with_reducible refine Kd.zbe ?_ _) | (with_reducible refine Kd.zbc ?_ _) | (with_reducible refine Kd.zbt ?_))); (case side2 => exact HC0_0.out); rintro e w56 ⟨rfl, hb⟩; refine ⟨_, rfl, ?_⟩; have n0_ := Aside0.mk (zaj (g := gb106) (o := .cells #[.slice A0_0 l0_0.length c0_0, .int .i64 a0_1, .int .i64 a0_2] 26 (0, 0)) (by (with_reducible repeat (first | apply zae | apply zai | apply zad)); exact BK106.out) hb); have n1_ := Aside0.mk (zam (by repeat (first | (with_reducible first | exact HB.out | apply zac | apply zaa | apply zaf | refine zab ?_ GE106.out) | exact HB.out)) hb); clear BK106; clear HB; have BK106 := n0_; have HB := n1_; clear n0_ n1_; (try clear hb); (try clear hb2); (try clear hk); (try clear hi)))
  go_ret
  exact ⟨by first | rfl | (simp [zas, zar] <;> rfl) | (simp [*, zas, zar] <;> rfl), by repeat (first | (with_reducible first | exact HB.out | apply zac | apply zaa | apply zaf | refine zab ?_ GE106.out) | exact HB.out)⟩
end Go.Proofs.YtijhnmbegceonaaDoor.PTerm
namespace Go.Proofs.YtijhnmbegceonaaDoor.PTerm
open Go.RowKit Go.Proofs.YtijhnmbegceonaaDoorW.PrintWords Go.Proofs.YtijhnmbegceonaaDoorW.PrintLast Go.Proofs.YtijhnmbegceonaaDoorW.PrintMore
attribute [local go_sem] zbr zbp zbz zby zbh zbg zbq zbo
set_option linter.unusedVariables false
set_option linter.unusedSimpArgs false
def za1.f (k : Nat)  : Option (Bool) := (some (([(⟨1, 2⟩ : S24)] : List (S24)) : List (S24))).bind fun y126 => ((za5.f k y126 3 1 ([] : List ByteArray)).bind fun t130 => (if t130.toList = ([49, 47, 50, 42, 120, 48, 32, 43, 32, 51] : List UInt8) then ((za4.f y126 3 1).bind fun t131 => (some t131)) else (some false)))
theorem za1.mono : ∀ k, LeO (za1.f k ) (za1.f (k + 1) ) := by
 intro  k
 unfold za1.f
 repeat' first
   | (with_reducible exact za5.mono _ _ _ _ _)
   | (with_reducible exact LeO.refl _)
   | (with_reducible exact LeO.none _)
   | (with_reducible refine LeO.ite ?_ ?_)
   | (with_reducible refine LeO.bind ?_ (fun _ => ?_))
   | exact za5.mono _ _ _ _ _
   | exact LeO.none _
   | refine LeO.ite ?_ ?_
   | refine LeO.bind ?_ (fun _ => ?_)
set_option maxHeartbeats 8000000 in
set_option maxRecDepth 100000 in
theorem za1.calls (k : Nat)  (r : Bool) (w : World) (h : za1.f k  = some r) :
  Calls Tryd.prog 9 #[] w fun e w' => e = .returned (.bool r) ∧ Below w.heap.size w w' := by
 have hu24 := Tryd.underlying24
 have hu26 := Tryd.underlying26
 have HB := Aside0.mk (Below.refl w.heap.size w)
 have H : ((some (([(⟨1, 2⟩ : S24)] : List (S24)) : List (S24))).bind fun y126 => ((za5.f k y126 3 1 ([] : List ByteArray)).bind fun t130 => (if t130.toList = ([49, 47, 50, 42, 120, 48, 32, 43, 32, 51] : List UInt8) then ((za4.f y126 3 1).bind fun t131 => (some t131)) else (some false)))) = some r := h
 clear h
 obtain ⟨y126, hy126⟩ : ∃ y_ : List (S24), y_ = (([(⟨1, 2⟩ : S24)] : List (S24))) := ⟨_, rfl⟩
 replace H : ((za5.f k y126 3 1 ([] : List ByteArray)).bind fun t130 => (if t130.toList = ([49, 47, 50, 42, 120, 48, 32, 43, 32, 51] : List UInt8) then ((za4.f y126 3 1).bind fun t131 => (some t131)) else (some false))) = some r := by first | (rw [hy126]; with_reducible exact H) | (have H2_ := (Option.bind_some _ _).symm.trans H; rw [hy126]; with_reducible exact H2_) | (have H2_ := (Option.bind_some _ _).symm.trans H; with_reducible exact H2_) | with_reducible exact H | (rw [hy126]; exact H) | exact H
 have Ny126 := Aside0.mk hy126
 clear hy126
 replace H := Option.bind_eq_some_iff.mp H
 obtain ⟨t130, A10, H⟩ := H
 replace H : (if t130.toList = ([49, 47, 50, 42, 120, 48, 32, 43, 32, 51] : List UInt8) then ((za4.f y126 3 1).bind fun t131 => (some t131)) else (some false)) = some r := H
 have A1 := Aside0.mk A10
 clear A10
 by_cases c2 : t130.toList = ([49, 47, 50, 42, 120, 48, 32, 43, 32, 51] : List UInt8)
 ·rw [if_pos c2] at H
  have c2b0 : (t130.toList == ([49, 47, 50, 42, 120, 48, 32, 43, 32, 51] : List UInt8)) = true := beq_iff_eq.mpr c2
  have c2b1 : (t130.toList != ([49, 47, 50, 42, 120, 48, 32, 43, 32, 51] : List UInt8)) = false := bne_eq_false_iff_eq.mpr c2
  clear c2
  replace H := Option.bind_eq_some_iff.mp H
  obtain ⟨t131, A30, H⟩ := H
  replace H : (some t131) = some r := H
  have A3 := Aside0.mk A30
  clear A30
  obtain rfl := Option.some.inj H
  go_enter Tryd.func9, Tryd.ntmps9
  go_wp2_with (first | ((with_reducible refine zaK (N := 3) rfl ?_); refine Kd.zeh k24 _ 24 ?hg (N := 3) ?hd (xs := ([(⟨1, 2⟩ : S24)] : List (S24))) (inner := [.int .i64 1, .int .i64 2]) (ok := fun _ => True) (okp := fun _ => True) ?hr ?hp (fun _ hk => hk) trivial (Below.refl _ _) (Nat.le_refl _) (by simp) ?_; (case hd => rfl); (case hg => rfl); (case hr => first | (go_simp; done) | (go_simp; rfl)); (case hp => exact (Reps.c2 (show Kd.M k24 _ _ _ (⟨1, 2⟩ : S24) [.int .i64 1, .int .i64 2] from (zeP _ _ _ (⟨1, 2⟩ : S24) )) (Reps.none _ _))); intro v127 w4 ho5 hb hg_ hnew_; clear hg_ hnew_; (first | rw [← Ny126.out] at ho5 | (simp only [Int.reduceToNat] at ho5; rw [← Ny126.out] at ho5)); have n0_ := Aside0.mk (Kd.zbF ho5 (zao (by repeat (first | (with_reducible first | exact HB.out | apply zac | apply zaa | apply zaf) | exact HB.out)))); have n1_ := Aside0.mk (zam (by repeat (first | (with_reducible first | exact HB.out | apply zac | apply zaa | apply zaf) | exact HB.out)) hb); clear HB; have HO128 := n0_; have HB := n1_; clear n0_ n1_; clear hb ho5; obtain ⟨Ao6, co6, eo6⟩ := Kd.zbx HO128.out; subst eo6) | ((with_reducible refine zaK (N := 1) rfl ?_); refine zaI ?hg (N := 1) ?hd (cs := #[.slice none 0 0, .int .i64 0, .int .i64 0]) (t := 26) ?hr ?_; (case hd => rfl); (case hg => rfl); (case hr => first | (go_simp; done) | (go_simp; rfl)); intro gb129 hg w7 hbox hb; have n0_ := Aside0.mk (Kd.zbM (by (with_reducible repeat (first | apply Kd.zaw | apply Kd.zax | apply Kd.zaE)); exact HO128.out) hb); have n1_ := Aside0.mk (zam (by repeat (first | (with_reducible first | exact HB.out | apply zac | apply zaa | apply zaf) | exact HB.out)) hb); have n2_ := Aside0.mk (hbox); have n3_ := Aside0.mk ((by rw [hg]; exact (zao (by repeat (first | (with_reducible first | exact HB.out | apply zac | apply zaa | apply zaf) | exact HB.out))) : w.heap.size ≤ gb129)); have n4_ := n3_; clear HO128; clear HB; have HO128 := n0_; have HB := n1_; have BK129 := n2_; have GW129 := n3_; have GE129 := n4_; clear n0_ n1_ n2_ n3_ n4_; clear hb hbox hg; have hcz8_0 : w7.cell? ⟨gb129, 0, none⟩ = some (.slice none 0 0) := (zak BK129.out 0).trans rfl; have hcz8_1 : w7.cell? ⟨gb129, 1, none⟩ = some (.int .i64 0) := (zak BK129.out 1).trans rfl; have hcz8_2 : w7.cell? ⟨gb129, 2, none⟩ = some (.int .i64 0) := (zak BK129.out 2).trans rfl; have hfz8_0 := zah BK129.out 0; have hfz8_1 := zah BK129.out 1; have hfz8_2 := zah BK129.out 2) | ((with_reducible refine zat (f := 14) rfl ?_); refine za9 (some 7) rfl rfl Tryd.func14 (by kernel_rfl) rfl #[.agg #[.slice Ao6 y126.length co6, .int .i64 3, .int .i64 1], .slice none 0 0] rfl (by (try simp only [List.map_toArray, List.map_cons, List.map_nil]); first | done | rfl | (simp only [List.length_drop, List.length_take]; rfl)) ?_; (refine (za5.calls k _ _ y126 3 1 _ _ ([] : List ByteArray) t130 _ ?side1 ?side2 ?side3 ?side4 A1.out).mono ?_); (case side1 => refine (Kd.zbk (e := 24) (base := w.heap.size) (ok := fun k_ => True) (n := y126.length) (c := co6) ?_).2.2; exact (by (with_reducible repeat (first | apply Kd.zaw | apply Kd.zax | apply Kd.zaE)); exact (Kd.zbj (Kd.zbN (p := ⟨gb129, 2, none⟩) (Kd.zbN (p := ⟨gb129, 1, none⟩) (Kd.zbN (p := ⟨gb129, 0, none⟩) (Kd.zb0 HO128.out BK129.out (by decide)) (fun _ hk => hk.2) (.slice Ao6 y126.length co6)) (fun _ hk => hk.2) (.int .i64 3)) (fun _ hk => hk.2) (.int .i64 1)) (fun _ h_ => h_.1)))); (case side2 => exact (Kd.zbk HO128.out).2.1); (case side3 => exact Kd.zhK _ _); (case side4 => exact Nat.le_refl _); rintro e w9 ⟨rfl, hb⟩; refine ⟨_, rfl, ?_⟩; have n0_ := Aside0.mk (Kd.zbM (by (with_reducible repeat (first | apply Kd.zaw | apply Kd.zax | apply Kd.zaE)); exact (Kd.zbj (Kd.zbN (p := ⟨gb129, 2, none⟩) (Kd.zbN (p := ⟨gb129, 1, none⟩) (Kd.zbN (p := ⟨gb129, 0, none⟩) (Kd.zb0 HO128.out BK129.out (by decide)) (fun _ hk => hk.2) (.slice Ao6 y126.length co6)) (fun _ hk => hk.2) (.int .i64 3)) (fun _ hk => hk.2) (.int .i64 1)) (fun _ h_ => h_.1))) hb); have n1_ := Aside0.mk (zaj (g := gb129) (o := .cells #[.slice Ao6 y126.length co6, .int .i64 3, .int .i64 1] 26 (0, 0)) (by (with_reducible repeat (first | apply zae | apply zai | apply zad)); refine zay (cs := #[.slice Ao6 y126.length co6, .int .i64 3, .int .i64 0]) ?_ 2 _ rfl; (with_reducible repeat (first | apply zae | apply zai | apply zad)); refine zay (cs := #[.slice Ao6 y126.length co6, .int .i64 0, .int .i64 0]) ?_ 1 _ rfl; (with_reducible repeat (first | apply zae | apply zai | apply zad)); refine zay (cs := #[.slice none 0 0, .int .i64 0, .int .i64 0]) ?_ 0 _ rfl; (with_reducible repeat (first | apply zae | apply zai | apply zad)); exact BK129.out) hb); have n2_ := Aside0.mk (zam (by repeat (first | (with_reducible first | exact HB.out | apply zac | apply zaa | apply zaf | refine zab ?_ GE129.out) | exact HB.out)) hb); clear HO128; clear BK129; clear HB; have HO128 := n0_; have BK129 := n1_; have HB := n2_; clear n0_ n1_ n2_; (try clear hb); (try clear hb2); (try clear hk); (try clear hi); have hcz10_0 : w9.cell? ⟨gb129, 0, none⟩ = some (.slice Ao6 y126.length co6) := (zak BK129.out 0).trans rfl; have hcz10_1 : w9.cell? ⟨gb129, 1, none⟩ = some (.int .i64 3) := (zak BK129.out 1).trans rfl; have hcz10_2 : w9.cell? ⟨gb129, 2, none⟩ = some (.int .i64 1) := (zak BK129.out 2).trans rfl; have hfz10_0 := zah BK129.out 0; have hfz10_1 := zah BK129.out 1; have hfz10_2 := zah BK129.out 2) | (go_at_call 18; (with_reducible refine (za4.calls _ _ y126 3 1 t131 _ ?side1 ?side2 A3.out).mono ?_); (case side1 => repeat (first | exact (Kd.zbk HO128.out).2.2 | (with_reducible refine Kd.zbe ?_ _) | (with_reducible refine Kd.zbc ?_ _) | (with_reducible refine Kd.zbt ?_))); (case side2 => exact (Kd.zbk HO128.out).2.1); rintro e w11 ⟨rfl, hb⟩; have n0_ := Aside0.mk (Kd.zbM (by (with_reducible repeat (first | apply Kd.zaw | apply Kd.zax | apply Kd.zaE)); exact HO128.out) hb); have n1_ := Aside0.mk (zaj (g := gb129) (o := .cells #[.slice Ao6 y126.length co6, .int .i64 3, .int .i64 1] 26 (0, 0)) (by (with_reducible repeat (first | apply zae | apply zai | apply zad)); exact BK129.out) hb); have n2_ := Aside0.mk (zam (by repeat (first | (with_reducible first | exact HB.out | apply zac | apply zaa | apply zaf | refine zab ?_ GE129.out) | exact HB.out)) hb); clear HO128; clear BK129; clear HB; have HO128 := n0_; have BK129 := n1_; have HB := n2_; clear n0_ n1_ n2_; (try clear hb); (try clear hb2); (try clear hk); (try clear hi)))
  go_ret
  exact ⟨by first | rfl | (simp [zas, zar] <;> rfl) | (simp [*, zas, zar] <;> rfl), by repeat (first | (with_reducible first | exact HB.out | apply zac | apply zaa | apply zaf | refine zab ?_ GE129.out) | exact HB.out)⟩
 ·rw [if_neg c2] at H
  have c2b0 : (t130.toList == ([49, 47, 50, 42, 120, 48, 32, 43, 32, 51] : List UInt8)) = false := beq_eq_false_iff_ne.mpr c2
  have c2b1 : (t130.toList != ([49, 47, 50, 42, 120, 48, 32, 43, 32, 51] : List UInt8)) = true := bne_iff_ne.mpr c2
  obtain rfl := Option.some.inj H
  go_enter Tryd.func9, Tryd.ntmps9
  go_wp2_with (first | ((with_reducible refine zaK (N := 3) rfl ?_); refine Kd.zeh k24 _ 24 ?hg (N := 3) ?hd (xs := ([(⟨1, 2⟩ : S24)] : List (S24))) (inner := [.int .i64 1, .int .i64 2]) (ok := fun _ => True) (okp := fun _ => True) ?hr ?hp (fun _ hk => hk) trivial (Below.refl _ _) (Nat.le_refl _) (by simp) ?_; (case hd => rfl); (case hg => rfl); (case hr => first | (go_simp; done) | (go_simp; rfl)); (case hp => exact (Reps.c2 (show Kd.M k24 _ _ _ (⟨1, 2⟩ : S24) [.int .i64 1, .int .i64 2] from (zeP _ _ _ (⟨1, 2⟩ : S24) )) (Reps.none _ _))); intro v127 w12 ho13 hb hg_ hnew_; clear hg_ hnew_; (first | rw [← Ny126.out] at ho13 | (simp only [Int.reduceToNat] at ho13; rw [← Ny126.out] at ho13)); have n0_ := Aside0.mk (Kd.zbF ho13 (zao (by repeat (first | (with_reducible first | exact HB.out | apply zac | apply zaa | apply zaf) | exact HB.out)))); have n1_ := Aside0.mk (zam (by repeat (first | (with_reducible first | exact HB.out | apply zac | apply zaa | apply zaf) | exact HB.out)) hb); clear HB; have HO128 := n0_; have HB := n1_; clear n0_ n1_; clear hb ho13; obtain ⟨Ao14, co14, eo14⟩ := Kd.zbx HO128.out; subst eo14) | ((with_reducible refine zaK (N := 1) rfl ?_); refine zaI ?hg (N := 1) ?hd (cs := #[.slice none 0 0, .int .i64 0, .int .i64 0]) (t := 26) ?hr ?_; (case hd => rfl); (case hg => rfl); (case hr => first | (go_simp; done) | (go_simp; rfl)); intro gb129 hg w15 hbox hb; have n0_ := Aside0.mk (Kd.zbM (by (with_reducible repeat (first | apply Kd.zaw | apply Kd.zax | apply Kd.zaE)); exact HO128.out) hb); have n1_ := Aside0.mk (zam (by repeat (first | (with_reducible first | exact HB.out | apply zac | apply zaa | apply zaf) | exact HB.out)) hb); have n2_ := Aside0.mk (hbox); have n3_ := Aside0.mk ((by rw [hg]; exact (zao (by repeat (first | (with_reducible first | exact HB.out | apply zac | apply zaa | apply zaf) | exact HB.out))) : w.heap.size ≤ gb129)); have n4_ := n3_; clear HO128; clear HB; have HO128 := n0_; have HB := n1_; have BK129 := n2_; have GW129 := n3_; have GE129 := n4_; clear n0_ n1_ n2_ n3_ n4_; clear hb hbox hg; have hcz16_0 : w15.cell? ⟨gb129, 0, none⟩ = some (.slice none 0 0) := (zak BK129.out 0).trans rfl; have hcz16_1 : w15.cell? ⟨gb129, 1, none⟩ = some (.int .i64 0) := (zak BK129.out 1).trans rfl; have hcz16_2 : w15.cell? ⟨gb129, 2, none⟩ = some (.int .i64 0) := (zak BK129.out 2).trans rfl; have hfz16_0 := zah BK129.out 0; have hfz16_1 := zah BK129.out 1; have hfz16_2 := zah BK129.out 2) | ((with_reducible refine zat (f := 14) rfl ?_); refine za9 (some 7) rfl rfl Tryd.func14 (by kernel_rfl) rfl #[.agg #[.slice Ao14 y126.length co14, .int .i64 3, .int .i64 1], .slice none 0 0] rfl (by (try simp only [List.map_toArray, List.map_cons, List.map_nil]); first | done | rfl | (simp only [List.length_drop, List.length_take]; rfl)) ?_; (refine (za5.calls k _ _ y126 3 1 _ _ ([] : List ByteArray) t130 _ ?side1 ?side2 ?side3 ?side4 A1.out).mono ?_); (case side1 => refine (Kd.zbk (e := 24) (base := w.heap.size) (ok := fun k_ => True) (n := y126.length) (c := co14) ?_).2.2; exact (by (with_reducible repeat (first | apply Kd.zaw | apply Kd.zax | apply Kd.zaE)); exact (Kd.zbj (Kd.zbN (p := ⟨gb129, 2, none⟩) (Kd.zbN (p := ⟨gb129, 1, none⟩) (Kd.zbN (p := ⟨gb129, 0, none⟩) (Kd.zb0 HO128.out BK129.out (by decide)) (fun _ hk => hk.2) (.slice Ao14 y126.length co14)) (fun _ hk => hk.2) (.int .i64 3)) (fun _ hk => hk.2) (.int .i64 1)) (fun _ h_ => h_.1)))); (case side2 => exact (Kd.zbk HO128.out).2.1); (case side3 => exact Kd.zhK _ _); (case side4 => exact Nat.le_refl _); rintro e w17 ⟨rfl, hb⟩; refine ⟨_, rfl, ?_⟩; have n0_ := Aside0.mk (Kd.zbM (by (with_reducible repeat (first | apply Kd.zaw | apply Kd.zax | apply Kd.zaE)); exact (Kd.zbj (Kd.zbN (p := ⟨gb129, 2, none⟩) (Kd.zbN (p := ⟨gb129, 1, none⟩) (Kd.zbN (p := ⟨gb129, 0, none⟩) (Kd.zb0 HO128.out BK129.out (by decide)) (fun _ hk => hk.2) (.slice Ao14 y126.length co14)) (fun _ hk => hk.2) (.int .i64 3)) (fun _ hk => hk.2) (.int .i64 1)) (fun _ h_ => h_.1))) hb); have n1_ := Aside0.mk (zaj (g := gb129) (o := .cells #[.slice Ao14 y126.length co14, .int .i64 3, .int .i64 1] 26 (0, 0)) (by (with_reducible repeat (first | apply zae | apply zai | apply zad)); refine zay (cs := #[.slice Ao14 y126.length co14, .int .i64 3, .int .i64 0]) ?_ 2 _ rfl; (with_reducible repeat (first | apply zae | apply zai | apply zad)); refine zay (cs := #[.slice Ao14 y126.length co14, .int .i64 0, .int .i64 0]) ?_ 1 _ rfl; (with_reducible repeat (first | apply zae | apply zai | apply zad)); refine zay (cs := #[.slice none 0 0, .int .i64 0, .int .i64 0]) ?_ 0 _ rfl; (with_reducible repeat (first | apply zae | apply zai | apply zad)); exact BK129.out) hb); have n2_ := Aside0.mk (zam (by repeat (first | (with_reducible first | exact HB.out | apply zac | apply zaa | apply zaf | refine zab ?_ GE129.out) | exact HB.out)) hb); clear HO128; clear BK129; clear HB; have HO128 := n0_; have BK129 := n1_; have HB := n2_; clear n0_ n1_ n2_; (try clear hb); (try clear hb2); (try clear hk); (try clear hi)))
  go_ret
  exact ⟨by first | rfl | (simp [zas, zar] <;> rfl) | (simp [*, zas, zar] <;> rfl), by repeat (first | (with_reducible first | exact HB.out | apply zac | apply zaa | apply zaf | refine zab ?_ GE129.out) | exact HB.out)⟩
def za0.f (l0_0 : List (S24)) (a0_1 : Int) (a0_2 : Int) : Option (Bool) := some (decide ((l0_0.length : Int) ≤ 12))
set_option maxHeartbeats 8000000 in
set_option maxRecDepth 100000 in
theorem za0.calls (A0_0 : Option Addr) (c0_0 : Nat) (l0_0 : List (S24)) (a0_1 : Int) (a0_2 : Int) (r : Bool) (w : World) (hr0_0 : Kd.C k24 w A0_0 l0_0.length l0_0) (hc0_0 : l0_0.length ≤ c0_0) (h : za0.f l0_0 a0_1 a0_2 = some r) :
  Calls Tryd.prog 10 #[.agg #[.slice A0_0 l0_0.length c0_0, .int .i64 a0_1, .int .i64 a0_2]] w fun e w' => e = .returned (.bool r) ∧ Below w.heap.size w w' := by
 have hu26 := Tryd.underlying26
 have HR0_0 := Aside0.mk hr0_0
 have HC0_0 := Aside0.mk hc0_0
 clear hr0_0 hc0_0
 have HB := Aside0.mk (Below.refl w.heap.size w)
 have H : (some (decide ((l0_0.length : Int) ≤ 12))) = some r := h
 clear h
 obtain rfl := Option.some.inj H
 go_enter Tryd.func10, Tryd.ntmps10
 go_wp2_with (first | ((with_reducible refine zaK (N := 1) rfl ?_); refine zaI ?hg (N := 1) ?hd (cs := #[.slice A0_0 l0_0.length c0_0, .int .i64 a0_1, .int .i64 a0_2]) (t := 26) ?hr ?_; (case hd => rfl); (case hg => rfl); (case hr => first | (go_simp; done) | (go_simp; rfl)); intro gb132 hg w2 hbox hb; have n0_ := Aside0.mk (zam (by repeat (first | (with_reducible first | exact HB.out | apply zac | apply zaa | apply zaf) | exact HB.out)) hb); have n1_ := Aside0.mk (hbox); have n2_ := Aside0.mk ((by rw [hg]; exact (zao (by repeat (first | (with_reducible first | exact HB.out | apply zac | apply zaa | apply zaf) | exact HB.out))) : w.heap.size ≤ gb132)); have n3_ := n2_; clear HB; have HB := n0_; have BK132 := n1_; have GW132 := n2_; have GE132 := n3_; clear n0_ n1_ n2_ n3_; clear hb hbox hg; have hcz3_0 : w2.cell? ⟨gb132, 0, none⟩ = some (.slice A0_0 l0_0.length c0_0) := (zak BK132.out 0).trans rfl; have hcz3_1 : w2.cell? ⟨gb132, 1, none⟩ = some (.int .i64 a0_1) := (zak BK132.out 1).trans rfl; have hcz3_2 : w2.cell? ⟨gb132, 2, none⟩ = some (.int .i64 a0_2) := (zak BK132.out 2).trans rfl; have hfz3_0 := zah BK132.out 0; have hfz3_1 := zah BK132.out 1; have hfz3_2 := zah BK132.out 2))
 go_ret
 exact ⟨by first | rfl | (simp [zas, zar] <;> rfl) | (simp [*, zas, zar] <;> rfl), by repeat (first | (with_reducible first | exact HB.out | apply zac | apply zaa | apply zaf | refine zab ?_ GE132.out) | exact HB.out)⟩
def zaz.f (a0_0 : Int) (a0_1 : Int) : Option (Bool) := if BallQ.In64 a0_0 ∧ BallQ.In64 a0_1 then some (decide (BallQ.Right a0_0 a0_1)) else none
theorem zaz.calls (a0_0 : Int) (a0_1 : Int) (r : Bool) (w : World) (h : zaz.f a0_0 a0_1 = some r) :
  Calls Tryd.prog 27 #[.agg #[.int .i64 a0_0, .int .i64 a0_1]] w fun e w' => e = .returned (.bool r) ∧ Below w.heap.size w w' := by
 unfold zaz.f at h
 split at h
 ·rename_i hc
  have e := Option.some.inj h
  subst e
  obtain ⟨k, hk⟩ := Ev.rounds (PRef.zc5 a0_0 a0_1 hc.1 hc.2)
  exact PRef.zaz.calls k a0_0 a0_1 _ w hk
 ·cases h
def zaX.l0 : Nat → Int → List (S24) → Int → Int → Option (Bool)
 | 0, _, _, _, _ => none
 | k + 1, x3, x134000, x134001, x134002 => if x3 < (x134000.length : Int) then (if 0 ≤ x3 then ((zaz.f ((zaC x134000 x3).f0) ((zaC x134000 x3).f1)).bind fun t136 => (if t136 = true then (zaX.l0 k (wrap64 (x3 + 1)) x134000 x134001 x134002) else (some false))) else (none)) else (if (x134000.length : Int) ≤ 8 then ((zaz.f x134001 x134002).bind fun t134 => (some t134)) else (some false))
def zaX.f (k : Nat) (l0_0 : List (S24)) (a0_1 : Int) (a0_2 : Int) : Option (Bool) := zaX.l0 k 0 l0_0 a0_1 a0_2
set_option maxHeartbeats 8000000 in
set_option maxRecDepth 100000 in
theorem zaX.calls (k : Nat) (A0_0 : Option Addr) (c0_0 : Nat) (l0_0 : List (S24)) (a0_1 : Int) (a0_2 : Int) (r : Bool) (w : World) (hr0_0 : Kd.C k24 w A0_0 l0_0.length l0_0) (hc0_0 : l0_0.length ≤ c0_0) (h : zaX.f k l0_0 a0_1 a0_2 = some r) :
  Calls Tryd.prog 11 #[.agg #[.slice A0_0 l0_0.length c0_0, .int .i64 a0_1, .int .i64 a0_2]] w fun e w' => e = .returned (.bool r) ∧ Below w.heap.size w w' := by
 have hu26 := Tryd.underlying26
 have hu24 := Tryd.underlying24
 have HR0_0 := Aside0.mk hr0_0
 have HC0_0 := Aside0.mk hc0_0
 clear hr0_0 hc0_0
 have HB := Aside0.mk (Below.refl w.heap.size w)
 have H : (zaX.l0 k 0 l0_0 a0_1 a0_2) = some r := h
 clear h
 have H' := Aside0.mk H
 clear H
 go_enter Tryd.func11, Tryd.ntmps11
 go_wp2_with (first | ((with_reducible refine zaK (N := 1) rfl ?_); refine zaI ?hg (N := 1) ?hd (cs := #[.slice A0_0 l0_0.length c0_0, .int .i64 a0_1, .int .i64 a0_2]) (t := 26) ?hr ?_; (case hd => rfl); (case hg => rfl); (case hr => first | (go_simp; done) | (go_simp; rfl)); intro gb133 hg w2 hbox hb; have n0_ := Aside0.mk (zam (by repeat (first | (with_reducible first | exact HB.out | apply zac | apply zaa | apply zaf) | exact HB.out)) hb); have n1_ := Aside0.mk (hbox); have n2_ := Aside0.mk ((by rw [hg]; exact (zao (by repeat (first | (with_reducible first | exact HB.out | apply zac | apply zaa | apply zaf) | exact HB.out))) : w.heap.size ≤ gb133)); have n3_ := n2_; clear HB; have HB := n0_; have BK133 := n1_; have GW133 := n2_; have GE133 := n3_; clear n0_ n1_ n2_ n3_; clear hb hbox hg))
 go_loopg [3] k (fun kq v3 w' => ∃ (x3_1 : Int), v3 = .int .i64 x3_1 ∧ Aside0 (zaX.l0 kq x3_1 l0_0 a0_1 a0_2 = some r) ∧ Aside0 (kq ≤ k) ∧ Aside0 (w'.heap[gb133]? = some (.cells #[(.slice A0_0 l0_0.length c0_0), .int .i64 a0_1, .int .i64 a0_2] 26 (0, 0))) ∧ Aside0 (Below w.heap.size w w'))
 case atStart => exact ⟨(0), (by first | rfl | (simp; done) | (simp [*]; done)), H', ⟨Nat.le_refl _⟩, ⟨by (with_reducible repeat (first | apply zae | apply zai | apply zad)); exact BK133.out⟩, ⟨by repeat (first | (with_reducible first | exact HB.out | apply zac | apply zaa | apply zaf | refine zab ?_ GE133.out) | exact HB.out)⟩⟩
 case round =>
  clear H'
  (try clear c1); (try clear p2)
  obtain ⟨x3_1, rfl, HA, HK1, BK133, HB⟩ := hrel
  cases gk with
  | zero => exact absurd HA.out (by simp [zaX.l0])
  | succ k1 =>
   have H := HA.out
   clear HA
   simp only [zaX.l0] at H
   by_cases c3 : x3_1 < (l0_0.length : Int)
   ·rw [if_pos c3] at H
    have c3b0 : decide (x3_1 < (l0_0.length : Int)) = true := decide_eq_true c3
    clear c3
    by_cases c4 : 0 ≤ x3_1
    ·rw [if_pos c4] at H
     have c4b0 : decide (0 ≤ x3_1) = true := decide_eq_true c4
     clear c4
     replace H := Option.bind_eq_some_iff.mp H
     obtain ⟨t136, A50, H⟩ := H
     replace H : (if t136 = true then (zaX.l0 k1 (wrap64 (x3_1 + 1)) l0_0 a0_1 a0_2) else (some false)) = some r := H
     have A5 := Aside0.mk A50
     clear A50
     by_cases c6 : t136 = true
     ·subst c6
      have H1 : (zaX.l0 k1 (wrap64 (x3_1 + 1)) l0_0 a0_1 a0_2) = some r := by rw [if_pos rfl] at H; exact H
      clear H
      have H := H1
      clear H1
      have H' := Aside0.mk H
      clear H
      have hcz7_0 : wr.cell? ⟨gb133, 0, none⟩ = some (.slice A0_0 l0_0.length c0_0) := (zak BK133.out 0).trans rfl
      have hcz7_1 : wr.cell? ⟨gb133, 1, none⟩ = some (.int .i64 a0_1) := (zak BK133.out 1).trans rfl
      have hcz7_2 : wr.cell? ⟨gb133, 2, none⟩ = some (.int .i64 a0_2) := (zak BK133.out 2).trans rfl
      have hfz7_0 := zah BK133.out 0
      have hfz7_1 := zah BK133.out 1
      have hfz7_2 := zah BK133.out 2
      have p135 : 0 ≤ (x3_1 : Int) := of_decide_eq_true (by first | (with_reducible assumption) | assumption)
      have q135 : x3_1 < (l0_0.length : Int) := of_decide_eq_true (by first | (with_reducible assumption) | assumption)
      obtain ⟨ad135, e135, hx135_0, hx135_1⟩ := zcw HR0_0.out x3_1 p135 q135
      cases e135
      replace hx135_0 := (HB.out.cell (World.block_lt_of_cell? w _ hx135_0)).trans hx135_0
      replace hx135_1 := (HB.out.cell (World.block_lt_of_cell? w _ hx135_1)).trans hx135_1
      replace p135 := eq_true p135
      replace q135 := eq_true q135
      go_wp2_with (first | ((with_reducible refine zat (f := 27) rfl ?_); refine za9 (some 16) rfl rfl Tryd.func27 (by kernel_rfl) rfl #[.agg #[.int .i64 ((zaC l0_0 x3_1).f0), .int .i64 ((zaC l0_0 x3_1).f1)]] rfl (by (try simp only [List.map_toArray, List.map_cons, List.map_nil]); first | done | rfl | (simp only [List.length_drop, List.length_take]; rfl)) ?_; (with_reducible refine (zaz.calls ((zaC l0_0 x3_1).f0) ((zaC l0_0 x3_1).f1) true _ A5.out).mono ?_); rintro e w8 ⟨rfl, hb⟩; refine ⟨_, rfl, ?_⟩; have n0_ := Aside0.mk (zaj (g := gb133) (o := .cells #[.slice (some ad135) l0_0.length c0_0, .int .i64 a0_1, .int .i64 a0_2] 26 (0, 0)) (by (with_reducible repeat (first | apply zae | apply zai | apply zad)); exact BK133.out) hb); have n1_ := Aside0.mk (zam (by repeat (first | (with_reducible first | exact HB.out | apply zac | apply zaa | apply zaf | refine zab ?_ GE133.out) | exact HB.out)) hb); clear BK133; clear HB; have BK133 := n0_; have HB := n1_; clear n0_ n1_; (try clear hb); (try clear hb2); (try clear hk); (try clear hi)))
      go_roundg k1
      case measure => have := HK1.out; omega
      case rel => exact ⟨(wrap64 (x3_1 + 1)), (by first | rfl | (simp; done) | (simp [*]; done)), H', ⟨by have := HK1.out; omega⟩, ⟨by (with_reducible repeat (first | apply zae | apply zai | apply zad)); exact BK133.out⟩, ⟨by repeat (first | (with_reducible first | exact HB.out | apply zac | apply zaa | apply zaf | refine zab ?_ GE133.out) | exact HB.out)⟩⟩
     ·replace c6 := Bool.eq_false_iff.mpr c6
      subst c6
      have H1 : (some false) = some r := by rw [if_neg (show ¬ (false = true) by decide)] at H; exact H
      clear H
      have H := H1
      clear H1
      obtain rfl := Option.some.inj H
      have hcz9_0 : wr.cell? ⟨gb133, 0, none⟩ = some (.slice A0_0 l0_0.length c0_0) := (zak BK133.out 0).trans rfl
      have hcz9_1 : wr.cell? ⟨gb133, 1, none⟩ = some (.int .i64 a0_1) := (zak BK133.out 1).trans rfl
      have hcz9_2 : wr.cell? ⟨gb133, 2, none⟩ = some (.int .i64 a0_2) := (zak BK133.out 2).trans rfl
      have hfz9_0 := zah BK133.out 0
      have hfz9_1 := zah BK133.out 1
      have hfz9_2 := zah BK133.out 2
      have p135 : 0 ≤ (x3_1 : Int) := of_decide_eq_true (by first | (with_reducible assumption) | assumption)
      have q135 : x3_1 < (l0_0.length : Int) := of_decide_eq_true (by first | (with_reducible assumption) | assumption)
      obtain ⟨ad135, e135, hx135_0, hx135_1⟩ := zcw HR0_0.out x3_1 p135 q135
      cases e135
      replace hx135_0 := (HB.out.cell (World.block_lt_of_cell? w _ hx135_0)).trans hx135_0
      replace hx135_1 := (HB.out.cell (World.block_lt_of_cell? w _ hx135_1)).trans hx135_1
      replace p135 := eq_true p135
      replace q135 := eq_true q135
      go_wp2_with (first | ((with_reducible refine zat (f := 27) rfl ?_); refine za9 (some 16) rfl rfl Tryd.func27 (by kernel_rfl) rfl #[.agg #[.int .i64 ((zaC l0_0 x3_1).f0), .int .i64 ((zaC l0_0 x3_1).f1)]] rfl (by (try simp only [List.map_toArray, List.map_cons, List.map_nil]); first | done | rfl | (simp only [List.length_drop, List.length_take]; rfl)) ?_; (with_reducible refine (zaz.calls ((zaC l0_0 x3_1).f0) ((zaC l0_0 x3_1).f1) false _ A5.out).mono ?_); rintro e w10 ⟨rfl, hb⟩; refine ⟨_, rfl, ?_⟩; have n0_ := Aside0.mk (zaj (g := gb133) (o := .cells #[.slice (some ad135) l0_0.length c0_0, .int .i64 a0_1, .int .i64 a0_2] 26 (0, 0)) (by (with_reducible repeat (first | apply zae | apply zai | apply zad)); exact BK133.out) hb); have n1_ := Aside0.mk (zam (by repeat (first | (with_reducible first | exact HB.out | apply zac | apply zaa | apply zaf | refine zab ?_ GE133.out) | exact HB.out)) hb); clear BK133; clear HB; have BK133 := n0_; have HB := n1_; clear n0_ n1_; (try clear hb); (try clear hb2); (try clear hk); (try clear hi)))
      go_ret
      exact ⟨by first | rfl | (simp [zas, zar] <;> rfl) | (simp [*, zas, zar] <;> rfl), by repeat (first | (with_reducible first | exact HB.out | apply zac | apply zaa | apply zaf | refine zab ?_ GE133.out) | exact HB.out)⟩
    ·rw [if_neg c4] at H
     exact absurd H (by simp)
   ·rw [if_neg c3] at H
    have c3b0 : decide (x3_1 < (l0_0.length : Int)) = false := decide_eq_false c3
    clear c3
    by_cases c11 : (l0_0.length : Int) ≤ 8
    ·rw [if_pos c11] at H
     have c11b0 : decide ((l0_0.length : Int) ≤ 8) = true := decide_eq_true c11
     have c11b1 : decide (l0_0.length ≤ 8) = true := decide_eq_true (by omega)
     clear c11
     replace H := Option.bind_eq_some_iff.mp H
     obtain ⟨t134, A120, H⟩ := H
     replace H : (some t134) = some r := H
     have A12 := Aside0.mk A120
     clear A120
     obtain rfl := Option.some.inj H
     have hcz13_0 : wr.cell? ⟨gb133, 0, none⟩ = some (.slice A0_0 l0_0.length c0_0) := (zak BK133.out 0).trans rfl
     have hcz13_1 : wr.cell? ⟨gb133, 1, none⟩ = some (.int .i64 a0_1) := (zak BK133.out 1).trans rfl
     have hcz13_2 : wr.cell? ⟨gb133, 2, none⟩ = some (.int .i64 a0_2) := (zak BK133.out 2).trans rfl
     have hfz13_0 := zah BK133.out 0
     have hfz13_1 := zah BK133.out 1
     have hfz13_2 := zah BK133.out 2
     go_wp2_with (first | (go_at_call 27; (with_reducible refine (zaz.calls a0_1 a0_2 t134 _ A12.out).mono ?_); rintro e w14 ⟨rfl, hb⟩; have n0_ := Aside0.mk (zaj (g := gb133) (o := .cells #[.slice A0_0 l0_0.length c0_0, .int .i64 a0_1, .int .i64 a0_2] 26 (0, 0)) (by (with_reducible repeat (first | apply zae | apply zai | apply zad)); exact BK133.out) hb); have n1_ := Aside0.mk (zam (by repeat (first | (with_reducible first | exact HB.out | apply zac | apply zaa | apply zaf | refine zab ?_ GE133.out) | exact HB.out)) hb); clear BK133; clear HB; have BK133 := n0_; have HB := n1_; clear n0_ n1_; (try clear hb); (try clear hb2); (try clear hk); (try clear hi)))
     go_ret
     exact ⟨by first | rfl | (simp [zas, zar] <;> rfl) | (simp [*, zas, zar] <;> rfl), by repeat (first | (with_reducible first | exact HB.out | apply zac | apply zaa | apply zaf | refine zab ?_ GE133.out) | exact HB.out)⟩
    ·rw [if_neg c11] at H
     have c11b0 : decide ((l0_0.length : Int) ≤ 8) = false := decide_eq_false c11
     have c11b1 : decide (l0_0.length ≤ 8) = false := decide_eq_false (by omega)
     clear c11
     obtain rfl := Option.some.inj H
     have hcz15_0 : wr.cell? ⟨gb133, 0, none⟩ = some (.slice A0_0 l0_0.length c0_0) := (zak BK133.out 0).trans rfl
     have hcz15_1 : wr.cell? ⟨gb133, 1, none⟩ = some (.int .i64 a0_1) := (zak BK133.out 1).trans rfl
     have hcz15_2 : wr.cell? ⟨gb133, 2, none⟩ = some (.int .i64 a0_2) := (zak BK133.out 2).trans rfl
     have hfz15_0 := zah BK133.out 0
     have hfz15_1 := zah BK133.out 1
     have hfz15_2 := zah BK133.out 2
     go_wp2
     go_ret
     exact ⟨by first | rfl | (simp [zas, zar] <;> rfl) | (simp [*, zas, zar] <;> rfl), by repeat (first | (with_reducible first | exact HB.out | apply zac | apply zaa | apply zaf | refine zab ?_ GE133.out) | exact HB.out)⟩
end Go.Proofs.YtijhnmbegceonaaDoor.PTerm
namespace Go.Proofs.YtijhnmbegceonaaDoor.PTerm
open Go.RowKit Go.Proofs.YtijhnmbegceonaaDoorW.PrintWords Go.Proofs.YtijhnmbegceonaaDoorW.PrintLast Go.Proofs.YtijhnmbegceonaaDoorW.PrintMore
attribute [local go_sem] zbr zbp zbz zby zbh zbg zbq zbo
set_option linter.unusedVariables false
set_option linter.unusedSimpArgs false
attribute [local go_sem high] eqA24
theorem zbH.isn (A : Option Addr) (n c : Nat) (w : World) : Sem.run Tryd.prog (binOp .eql 22 (.slice A n c) (.slice none 0 0)) w = .ok (.bool A.isNone) w :=
 Go.Lib.run_eql_slice_nil (P := Tryd.prog) w 22 24 A n c 0 0 Tryd.underlying22
attribute [local go_sem] zbH.isn
def zdC.f (l0 : List (S24)) : Option (List (S24)) := (some (([] : List (S24)) : List (S24))).bind fun y101 => (if y101.length + l0.length < 8796093022208 then (some (y101 ++ l0)) else (none))
set_option maxHeartbeats 8000000 in
set_option maxRecDepth 100000 in
theorem zbH.some_ (A0 : Option Addr) (hz : A0.isNone = false) (c0 : Nat) (l0 : List (S24)) (r : List (S24)) (w : World) (hr0 : Kd.C k24 w A0 l0.length l0) (hc0 : l0.length ≤ c0) (h : zdC.f l0 = some r) :
  Calls Tryd.prog 58 #[.slice A0 l0.length c0] w fun e w' => ∃ v0_ : Value, e = .returned (v0_) ∧ Kd.R k24 24 w' w.heap.size (fun _ => True) v0_ r ∧ Below w.heap.size w w' := by
 have HR0 := Aside0.mk hr0
 have HC0 := Aside0.mk hc0
 clear hr0 hc0
 have HB := Aside0.mk (Below.refl w.heap.size w)
 have H : ((some (([] : List (S24)) : List (S24))).bind fun y101 => (if y101.length + l0.length < 8796093022208 then (some (y101 ++ l0)) else (none))) = some r := h
 clear h
 obtain ⟨y101, hy101⟩ : ∃ y_ : List (S24), y_ = (([] : List (S24))) := ⟨_, rfl⟩
 replace H : (if y101.length + l0.length < 8796093022208 then (some (y101 ++ l0)) else (none)) = some r := by first | (rw [hy101]; with_reducible exact H) | (have H2_ := (Option.bind_some _ _).symm.trans H; rw [hy101]; with_reducible exact H2_) | (have H2_ := (Option.bind_some _ _).symm.trans H; with_reducible exact H2_) | with_reducible exact H | (rw [hy101]; exact H) | exact H
 have Ny101 := Aside0.mk hy101
 clear hy101
 by_cases c2 : y101.length + l0.length < 8796093022208
 ·rw [if_pos c2] at H
  have LMc2 := Aside0.mk c2
  clear c2
  obtain ⟨y104, hy104⟩ : ∃ y_ : List (S24), y_ = (y101 ++ l0) := ⟨_, rfl⟩
  replace H : (some y104) = some r := by first | (rw [hy104]; with_reducible exact H) | (have H2_ := (Option.bind_some _ _).symm.trans H; rw [hy104]; with_reducible exact H2_) | (have H2_ := (Option.bind_some _ _).symm.trans H; with_reducible exact H2_) | with_reducible exact H | (rw [hy104]; exact H) | exact H
  have Ny104 := Aside0.mk hy104
  clear hy104
  obtain rfl := Option.some.inj H
  go_enter Tryd.func58, Tryd.ntmps58
  go_wp2_with (first | ((with_reducible refine zaK (N := 5) rfl ?_); refine Kd.zeh k24 _ 24 ?hg (N := 5) ?hd (xs := ([] : List (S24))) (inner := []) (ok := fun _ => True) (okp := fun _ => True) ?hr ?hp (fun _ hk => hk) trivial (Below.refl _ _) (Nat.le_refl _) (by simp) ?_; (case hd => rfl); (case hg => rfl); (case hr => first | (go_simp; done) | (go_simp; rfl)); (case hp => exact (Reps.none _ _)); intro v102 w3 ho4 hb hg_ hnew_; clear hg_ hnew_; (first | rw [← Ny101.out] at ho4 | (simp only [Int.reduceToNat] at ho4; rw [← Ny101.out] at ho4)); have n0_ := Aside0.mk (Kd.zbF ho4 (zao (by repeat (first | (with_reducible first | exact HB.out | apply zac | apply zaa | apply zaf) | exact HB.out)))); have n1_ := Aside0.mk (zam (by repeat (first | (with_reducible first | exact HB.out | apply zac | apply zaa | apply zaf) | exact HB.out)) hb); clear HB; have HO103 := n0_; have HB := n1_; clear n0_ n1_; clear hb ho4) | ((with_reducible refine zbs (b := .append) (xs := #[.tmp 5, .tmp 6]) rfl ?_); at_builtin; refine Kd.zbV k24 (w0 := w) w.heap.size rfl (.tmp 5) (.tmp 6) 22 24 (.agg #[(.int .i64 0), (.int .i64 0)]) 16 rfl Tryd.underlying22 zeu rfl (by decide) (by omega) v102 y101 l0 _ _ _ (fun _ => True) (fun _ => False) rfl rfl ?aO ?aR (fun _ _ h => h) (fun _ h => h.elim) ?aF ?aB ?aS ?aL ?_; (case aR => repeat (first | exact (Kd.zbd HR0.out HB.out) | (with_reducible refine Kd.zbe ?_ _) | (with_reducible refine Kd.zbc ?_ _) | (with_reducible refine Kd.zbt ?_))); (case aB => exact (by repeat (first | (with_reducible first | exact HB.out | apply zac | apply zaa | apply zaf) | exact HB.out))); (case aF => exact (fun _ _ => trivial)); (case aO => exact (by (with_reducible repeat (first | apply Kd.zaw | apply Kd.zax | apply Kd.zaE)); exact HO103.out)); (case aS => exact (zao (by repeat (first | (with_reducible first | exact HB.out | apply zac | apply zaa | apply zaf) | exact HB.out)))); (case aL => have := LMc2.out; omega); intro v105 w5 ho hb hg hat; rw [← Ny104.out] at ho; have n0_ := Aside0.mk (hb); have n1_ := Aside0.mk (ho); clear HB; clear HO103; have HB := n0_; have HO106 := n1_; clear n0_ n1_; clear ho hb hg hat))
  go_ret
  exact ⟨_, by first | rfl | (simp [zas, zar] <;> rfl) | (simp [*, zas, zar] <;> rfl), by (with_reducible repeat (first | apply Kd.zaw | apply Kd.zax | apply Kd.zaE)); exact HO106.out, by repeat (first | (with_reducible first | exact HB.out | apply zac | apply zaa | apply zaf) | exact HB.out)⟩
 ·rw [if_neg c2] at H
  exact absurd H (by simp)
set_option maxHeartbeats 8000000 in
set_option maxRecDepth 100000 in
theorem zbH.none_ (n c : Nat) (w : World) : Calls Tryd.prog 58 #[.slice none n c] w fun e w' => e = .returned (.slice none 0 0) ∧ Below w.heap.size w w' := by
 go_enter Tryd.func58, Tryd.ntmps58
 go_wp2
 go_ret
 exact ⟨by first | rfl | (simp; done) | (simp [*]; done), by repeat (first | exact Below.refl _ _ | apply zaf)⟩
def zbH.f (l0 : List (S24)) : Option (List (S24)) := if l0.length < 1000000 then some l0 else none
theorem zbH.calls (A0 : Option Addr) (c0 : Nat) (l0 : List (S24)) (r : List (S24)) (w : World) (hr0 : Kd.C k24 w A0 l0.length l0) (hc0 : l0.length ≤ c0) (h : zbH.f l0 = some r) :
  Calls Tryd.prog 58 #[.slice A0 l0.length c0] w fun e w' => ∃ v0_ : Value, e = .returned (v0_) ∧ Kd.R k24 24 w' w.heap.size (fun _ => True) v0_ r ∧ Below w.heap.size w w' := by
 unfold zbH.f at h
 split at h
 rotate_left
 ·cases h
 rename_i hl
 have e := Option.some.inj h
 subst e
 cases hA : A0.isNone with
 | true =>
  have hA' : A0 = none := by simpa using hA
  subst hA'
  have hn : l0 = [] := by
   cases l0 with
   | nil => rfl
   | cons x r => obtain ⟨ad, c, e1, _⟩ := Kd.zhL hr0 ⟨0, 0⟩ 0 (by omega) (by simp); cases e1
  subst hn
  refine (zbH.none_ _ c0 w).mono ?_
  rintro e w' ⟨rfl, hb⟩
  exact ⟨_, rfl, Kd.zcL _ _ _ _ _, hb⟩
 | false => exact zbH.some_ A0 hA c0 l0 l0 w hr0 hc0 (by simp [zdC.f]; omega)
end Go.Proofs.YtijhnmbegceonaaDoor.PTerm
namespace Go.Proofs.YtijhnmbegceonaaDoor.PTerm
open Go.RowKit Go.Proofs.YtijhnmbegceonaaDoorW.PrintWords Go.Proofs.YtijhnmbegceonaaDoorW.PrintLast Go.Proofs.YtijhnmbegceonaaDoorW.PrintMore
attribute [local go_sem] zbr zbp zbz zby zbh zbg zbq zbo
set_option linter.unusedVariables false
set_option linter.unusedSimpArgs false
mutual
def zbl.l0 : Nat → Int → List (S24) → Int → Int → Option ((List (S24)) × Int × Int)
 | 0, _, _, _, _ => none
 | k + 1, x3, x144000, x144001, x144002 => if x3 > 0 then (if 0 ≤ (wrap64 (x3 - 1)) then (if (wrap64 (x3 - 1)) < (x144000.length : Int) then (zbl.j1 k x3 (((zaC x144000 (wrap64 (x3 - 1))).f0) == 0) x144000 x144001 x144002) else (none)) else (none)) else (zbl.j1 k x3 false x144000 x144001 x144002)
def zbl.j1 : Nat → Int → Bool → List (S24) → Int → Int → Option ((List (S24)) × Int × Int)
 | 0, _, _, _, _, _ => none
 | k + 1, x3, x18, x144000, x144001, x144002 => if x18 = true then (zbl.l0 k (wrap64 (x3 - 1)) x144000 x144001 x144002) else (if 0 ≤ x3 then (if x3 ≤ (x144000.length : Int) then ((zbH.f (x144000.take (x3 : Int).toNat)).bind fun t150 => (some (t150, x144001, x144002))) else (none)) else (none))
end
def zbl.f (k : Nat) (l0_0 : List (S24)) (a0_1 : Int) (a0_2 : Int) : Option ((List (S24)) × Int × Int) := zbl.l0 k (l0_0.length : Int) l0_0 a0_1 a0_2
def zbl.T4 : Bool × List (List Nat × List Nat) := (true, [([], []), ([0], [0]), ([], []), ([1, 2], [1, 2]), ([3], [3]), ([], []), ([5], [5]), ([4, 6], [4, 6]), ([7, 4, 0, 1, 2, 3, 4, 5, 6, 7], [7])])
def zbl.B4 : List Nat := [0, 1, 0, 7, 15, 0, 32, 127, 255]
theorem zbl.tab4 : rtab .any (opsOf Tryd.f35 4) = zbl.T4 := by kernel_rfl
theorem zbl.bits4 : zcb zbl.T4.2 zbl.B4 = true := by kernel_rfl
set_option maxHeartbeats 8000000 in
set_option maxRecDepth 100000 in
theorem zbl.calls (k : Nat) (A0_0 : Option Addr) (c0_0 : Nat) (l0_0 : List (S24)) (a0_1 : Int) (a0_2 : Int) (r1 : List (S24)) (r2 : Int) (r3 : Int) (w : World) (hr0_0 : Kd.C k24 w A0_0 l0_0.length l0_0) (hc0_0 : l0_0.length ≤ c0_0) (h : zbl.f k l0_0 a0_1 a0_2 = some (r1, r2, r3)) :
  Calls Tryd.prog 35 #[.agg #[.slice A0_0 l0_0.length c0_0, .int .i64 a0_1, .int .i64 a0_2]] w fun e w' => ∃ v0_ : Value, e = .returned (.agg #[v0_, .int .i64 r2, .int .i64 r3]) ∧ Kd.R k24 24 w' w.heap.size (fun _ => True) v0_ r1 ∧ Below w.heap.size w w' := by
 have hu26 := Tryd.underlying26
 have hu24 := Tryd.underlying24
 have HR0_0 := Aside0.mk hr0_0
 have HC0_0 := Aside0.mk hc0_0
 clear hr0_0 hc0_0
 have HB := Aside0.mk (Below.refl w.heap.size w)
 have H : (zbl.l0 k (l0_0.length : Int) l0_0 a0_1 a0_2) = some (r1, r2, r3) := h
 clear h
 have H' := Aside0.mk H
 clear H
 go_enter Tryd.func35, Tryd.ntmps35
 go_wp2_with (first | ((with_reducible refine zaK (N := 1) rfl ?_); refine zaI ?hg (N := 1) ?hd (cs := #[.slice A0_0 l0_0.length c0_0, .int .i64 a0_1, .int .i64 a0_2]) (t := 26) ?hr ?_; (case hd => rfl); (case hg => rfl); (case hr => first | (go_simp; done) | (go_simp; rfl)); intro gb143 hg w2 hbox hb; have n0_ := Aside0.mk (zam (by repeat (first | (with_reducible first | exact HB.out | apply zac | apply zaa | apply zaf) | exact HB.out)) hb); have n1_ := Aside0.mk (hbox); have n2_ := Aside0.mk ((by rw [hg]; exact (zao (by repeat (first | (with_reducible first | exact HB.out | apply zac | apply zaa | apply zaf) | exact HB.out))) : w.heap.size ≤ gb143)); have n3_ := n2_; clear HB; have HB := n0_; have BK143 := n1_; have GW143 := n2_; have GE143 := n3_; clear n0_ n1_ n2_ n3_; clear hb hbox hg) | ((with_reducible refine zaK (N := 2) rfl ?_); refine zaI ?hg (N := 2) ?hd (cs := #[.slice none 0 0, .int .i64 0, .int .i64 0]) (t := 26) ?hr ?_; (case hd => rfl); (case hg => rfl); (case hr => first | (go_simp; done) | (go_simp; rfl)); intro gb144 hg w3 hbox hb; have n0_ := Aside0.mk (zaj (g := gb143) (o := .cells #[.slice A0_0 l0_0.length c0_0, .int .i64 a0_1, .int .i64 a0_2] 26 (0, 0)) (by (with_reducible repeat (first | apply zae | apply zai | apply zad)); exact BK143.out) hb); have n1_ := Aside0.mk (zam (by repeat (first | (with_reducible first | exact HB.out | apply zac | apply zaa | apply zaf | refine zab ?_ GE143.out) | exact HB.out)) hb); have n2_ := Aside0.mk (hbox); have n3_ := Aside0.mk ((by rw [hg]; exact (zao (by repeat (first | (with_reducible first | exact HB.out | apply zac | apply zaa | apply zaf | refine zab ?_ GE143.out) | exact HB.out))) : w.heap.size ≤ gb144)); have n4_ := n3_; have n5_ := Aside0.mk ((by rw [hg]; exact Nat.ne_of_lt (za3 (g := gb143) (o := .cells #[.slice A0_0 l0_0.length c0_0, .int .i64 a0_1, .int .i64 a0_2] 26 (0, 0)) (by (with_reducible repeat (first | apply zae | apply zai | apply zad)); exact BK143.out)) : gb143 ≠ gb144)); have n6_ := Aside0.mk n5_.out.symm; clear BK143; clear HB; have BK143 := n0_; have HB := n1_; have BK144 := n2_; have GW144 := n3_; have GE144 := n4_; have NB143_144 := n5_; have NB144_143 := n6_; clear n0_ n1_ n2_ n3_ n4_ n5_ n6_; clear hb hbox hg; have hnb4 := NB143_144.out; have hnc4 := NB144_143.out; have hcz5_0 : w3.cell? ⟨gb143, 0, none⟩ = some (.slice A0_0 l0_0.length c0_0) := (zak BK143.out 0).trans rfl; have hcz5_1 : w3.cell? ⟨gb143, 1, none⟩ = some (.int .i64 a0_1) := (zak BK143.out 1).trans rfl; have hcz5_2 : w3.cell? ⟨gb143, 2, none⟩ = some (.int .i64 a0_2) := (zak BK143.out 2).trans rfl; have hfz5_0 := zah BK143.out 0; have hfz5_1 := zah BK143.out 1; have hfz5_2 := zah BK143.out 2))
 go_loopg [3] k (fun kq v3 w' => ∃ (x3_1 : Int), v3 = .int .i64 x3_1 ∧ Aside0 (zbl.l0 kq x3_1 l0_0 a0_1 a0_2 = some (r1, r2, r3)) ∧ Aside0 (kq ≤ k) ∧ Aside0 (w'.heap[gb143]? = some (.cells #[(.slice A0_0 l0_0.length c0_0), .int .i64 a0_1, .int .i64 a0_2] 26 (0, 0))) ∧ Aside0 (w'.heap[gb144]? = some (.cells #[(.slice none 0 0), .int .i64 0, .int .i64 0] 26 (0, 0))) ∧ Aside0 (Below w.heap.size w w'))
 case atStart => exact ⟨((l0_0.length : Int)), (by first | rfl | (simp; done) | (simp [*]; done)), H', ⟨Nat.le_refl _⟩, ⟨by (with_reducible repeat (first | apply zae | apply zai | apply zad)); exact BK143.out⟩, ⟨by (with_reducible repeat (first | apply zae | apply zai | apply zad)); exact BK144.out⟩, ⟨by repeat (first | (with_reducible first | exact HB.out | apply zac | apply zaa | apply zaf | refine zab ?_ GE143.out | refine zab ?_ GE144.out) | exact HB.out)⟩⟩
 case round =>
  clear H'
  (try clear p2); (try clear c3); (try clear c4); (try clear hcz5_0); (try clear hcz5_1); (try clear hcz5_2); (try clear hfz5_0); (try clear hfz5_1); (try clear hfz5_2)
  obtain ⟨x3_1, rfl, HA, HK1, BK143, BK144, HB⟩ := hrel
  cases gk with
  | zero => exact absurd HA.out (by simp [zbl.l0])
  | succ k1 =>
   have H := HA.out
   clear HA
   simp only [zbl.l0] at H
   have HC6 := Aside0.mk H
   clear H
   go_upto_region 2 with (fail)
   go_cut [18] (fun v18 wc => ∃ (kq : Nat) (x18_5 : Bool), v18 = .bool x18_5 ∧ Aside0 (zbl.j1 kq x3_1 x18_5 l0_0 a0_1 a0_2 = some (r1, r2, r3)) ∧ Aside0 (kq ≤ k1) ∧ Aside0 (wc.heap[gb143]? = some (.cells #[(.slice A0_0 l0_0.length c0_0), .int .i64 a0_1, .int .i64 a0_2] 26 (0, 0))) ∧ Aside0 (wc.heap[gb144]? = some (.cells #[(.slice none 0 0), .int .i64 0, .int .i64 0] 26 (0, 0))) ∧ Aside0 (Below w.heap.size w wc))
   case first =>
    have H := HC6.out
    clear HC6
    by_cases c7 : x3_1 > 0
    ·rw [if_pos c7] at H
     have c7b0 : decide (0 < x3_1) = true := decide_eq_true c7
     clear c7
     (first | rw [c7b0] | (simp only [zaL, zaN]; rw [c7b0]) | skip)
     obtain ⟨ji8, hji8⟩ : ∃ j_ : Int, (wrap64 (x3_1 - 1)) = j_ := ⟨_, rfl⟩
     replace H : (if 0 ≤ (ji8) then (if (ji8) < (l0_0.length : Int) then (zbl.j1 k1 x3_1 (((zaC l0_0 (ji8)).f0) == 0) l0_0 a0_1 a0_2) else (none)) else (none)) = some (r1, r2, r3) := by first | (rw [hji8] at H; exact H) | (simp only [hji8] at H ⊢; exact H)
     have hji8w : (IntKind.i64.wrap (x3_1 - 1)) = ji8 := (zaL _).trans hji8
     by_cases c9 : 0 ≤ (ji8)
     ·rw [if_pos c9] at H
      have c9b0 : decide (0 ≤ (ji8)) = true := decide_eq_true c9
      clear c9
      by_cases c10 : (ji8) < (l0_0.length : Int)
      ·rw [if_pos c10] at H
       have c10b0 : decide ((ji8) < (l0_0.length : Int)) = true := decide_eq_true c10
       clear c10
       have H' := Aside0.mk H
       clear H
       have hnb11 := NB143_144.out
       have hnc11 := NB144_143.out
       have hcz12_0 : wr.cell? ⟨gb143, 0, none⟩ = some (.slice A0_0 l0_0.length c0_0) := (zak BK143.out 0).trans rfl
       have hcz12_1 : wr.cell? ⟨gb143, 1, none⟩ = some (.int .i64 a0_1) := (zak BK143.out 1).trans rfl
       have hcz12_2 : wr.cell? ⟨gb143, 2, none⟩ = some (.int .i64 a0_2) := (zak BK143.out 2).trans rfl
       have hfz12_0 := zah BK143.out 0
       have hfz12_1 := zah BK143.out 1
       have hfz12_2 := zah BK143.out 2
       have p145 : 0 ≤ ((ji8) : Int) := of_decide_eq_true (by first | (with_reducible assumption) | assumption)
       have q145 : (ji8) < (l0_0.length : Int) := of_decide_eq_true (by first | (with_reducible assumption) | assumption)
       obtain ⟨ad145, e145, hx145_0, hx145_1⟩ := zcw HR0_0.out (ji8) p145 q145
       cases e145
       replace hx145_0 := (HB.out.cell (World.block_lt_of_cell? w _ hx145_0)).trans hx145_0
       replace hx145_1 := (HB.out.cell (World.block_lt_of_cell? w _ hx145_1)).trans hx145_1
       replace p145 := eq_true p145
       replace q145 := eq_true q145
       go_wp2
       go_meet
       case rel => exact ⟨_, ((((zaC l0_0 (ji8)).f0) == 0)), (by first | rfl | (simp; done) | (simp only [← hji8] <;> (first | rfl | simp)) | (simp [*]; done)), H', ⟨by have := HK1.out; first | omega | exact Nat.le_refl _⟩, ⟨by (with_reducible repeat (first | apply zae | apply zai | apply zad)); exact BK143.out⟩, ⟨by (with_reducible repeat (first | apply zae | apply zai | apply zad)); exact BK144.out⟩, ⟨by repeat (first | (with_reducible first | exact HB.out | apply zac | apply zaa | apply zaf | refine zab ?_ GE143.out | refine zab ?_ GE144.out) | exact HB.out)⟩⟩
      ·rw [if_neg c10] at H
       exact absurd H (by simp)
     ·rw [if_neg c9] at H
      exact absurd H (by simp)
    ·rw [if_neg c7] at H
     have c7b0 : decide (0 < x3_1) = false := decide_eq_false c7
     clear c7
     (first | rw [c7b0] | (simp only [zaL, zaN]; rw [c7b0]) | skip)
     have H' := Aside0.mk H
     clear H
     go_wp2
     go_meet
     case rel => exact ⟨_, (false), (by first | rfl | (simp; done) | (simp [*]; done)), H', ⟨by have := HK1.out; first | omega | exact Nat.le_refl _⟩, ⟨by (with_reducible repeat (first | apply zae | apply zai | apply zad)); exact BK143.out⟩, ⟨by (with_reducible repeat (first | apply zae | apply zai | apply zad)); exact BK144.out⟩, ⟨by repeat (first | (with_reducible first | exact HB.out | apply zac | apply zaa | apply zaf | refine zab ?_ GE143.out | refine zab ?_ GE144.out) | exact HB.out)⟩⟩
   case rest =>
    clear HC6
    (try clear c1); (try clear p1); (try clear q1); (try clear hx1); (try clear p2); (try clear c3); (try clear c4); (try clear p6); (try clear c7); (try clear c7b0); (try clear c9); (try clear c9b0); (try clear c10); (try clear c10b0); (try clear c11); (try clear hcz12_0); (try clear hcz12_1); (try clear hcz12_2); (try clear hcz5_0); (try clear hcz5_1); (try clear hcz5_2); (try clear hfz12_0); (try clear hfz12_1); (try clear hfz12_2); (try clear hfz5_0); (try clear hfz5_1); (try clear hfz5_2); (try clear hx145_0); (try clear hx145_1); (try clear p145); (try clear p2); (try clear q145)
    obtain ⟨kq, x18_5, rfl, HA, HJ5, BK143, BK144, HB⟩ := hcut
    cases kq with
    | zero => exact absurd HA.out (by simp [zbl.j1])
    | succ kj5 =>
     have H := HA.out
     clear HA
     simp only [zbl.j1] at H
     by_cases c13 : x18_5 = true
     ·subst c13
      have H1 : (zbl.l0 kj5 (wrap64 (x3_1 - 1)) l0_0 a0_1 a0_2) = some (r1, r2, r3) := by rw [if_pos rfl] at H; exact H
      clear H
      have H := H1
      clear H1
      have H' := Aside0.mk H
      clear H
      go_wp2
      go_roundg kj5
      case measure => have := HK1.out; have := HJ5.out; omega
      case rel => exact ⟨(wrap64 (x3_1 - 1)), (by first | rfl | (simp; done) | (simp [*]; done)), H', ⟨by have := HK1.out; have := HJ5.out; omega⟩, ⟨by (with_reducible repeat (first | apply zae | apply zai | apply zad)); exact BK143.out⟩, ⟨by (with_reducible repeat (first | apply zae | apply zai | apply zad)); exact BK144.out⟩, ⟨by repeat (first | (with_reducible first | exact HB.out | apply zac | apply zaa | apply zaf | refine zab ?_ GE143.out | refine zab ?_ GE144.out) | exact HB.out)⟩⟩
     ·replace c13 := Bool.eq_false_iff.mpr c13
      subst c13
      have H1 : (if 0 ≤ x3_1 then (if x3_1 ≤ (l0_0.length : Int) then ((zbH.f (l0_0.take (x3_1 : Int).toNat)).bind fun t150 => (some (t150, a0_1, a0_2))) else (none)) else (none)) = some (r1, r2, r3) := by rw [if_neg (show ¬ (false = true) by decide)] at H; exact H
      clear H
      have H := H1
      clear H1
      by_cases c14 : 0 ≤ x3_1
      ·rw [if_pos c14] at H
       have c14b0 := eq_true c14
       have c14b1 : decide (0 ≤ x3_1) = true := decide_eq_true c14
       clear c14
       by_cases c15 : x3_1 ≤ (l0_0.length : Int)
       ·rw [if_pos c15] at H
        have c15b0 := eq_true c15
        have c15b1 : decide (x3_1 ≤ (l0_0.length : Int)) = true := decide_eq_true c15
        clear c15
        obtain ⟨y146, hy146⟩ : ∃ y_ : List (S24), y_ = (l0_0.take (x3_1 : Int).toNat) := ⟨_, rfl⟩
        replace H : ((zbH.f y146).bind fun t150 => (some (t150, a0_1, a0_2))) = some (r1, r2, r3) := by first | (rw [hy146]; with_reducible exact H) | (have H2_ := (Option.bind_some _ _).symm.trans H; rw [hy146]; with_reducible exact H2_) | (have H2_ := (Option.bind_some _ _).symm.trans H; with_reducible exact H2_) | with_reducible exact H | (rw [hy146]; exact H) | exact H
        have Ny146 := Aside0.mk hy146
        clear hy146
        replace H := Option.bind_eq_some_iff.mp H
        obtain ⟨t150, A160, H⟩ := H
        replace H : (some (t150, a0_1, a0_2)) = some (r1, r2, r3) := H
        have A16 := Aside0.mk A160
        clear A160
        simp only [Option.some.injEq, Prod.mk.injEq] at H
        obtain ⟨rfl, rfl, rfl⟩ := H
        try go_wp2
        have n0_ := Aside0.mk (zai BK143.out)
        have n1_ := Aside0.mk (zai BK144.out)
        have n2_ := Aside0.mk (zaf HB.out)
        clear BK143 BK144 HB
        have BK143 := n0_
        have BK144 := n1_
        have HB := n2_
        clear n0_ n1_ n2_
        have q18 : (x3_1 : Int) ≤ ((l0_0.length : Int) : Int) := of_decide_eq_true (by first | (with_reducible assumption) | assumption)
        obtain ⟨i018, hi018, _, hsz18, _⟩ := info_parts zeu
        have hroom18 : l0_0.length ≤ c0_0 := HC0_0.out
        have hC18 : Kd.C k24 _ A0_0 l0_0.length l0_0 := HR0_0.out
        have hcut18 := zeB (P := Tryd.prog) 22 24 .i64 Tryd.underlying22 hi018 A0_0 l0_0.length c0_0 x3_1 (of_decide_eq_true (by first | (with_reducible assumption) | assumption)) q18 hroom18
        have hr18 := Kd.zgr (m := (x3_1 : Int).toNat) hC18 (by omega)
        have hy18 : y146.length = (x3_1 : Int).toNat := (by rw [Ny146.out, List.length_take]; omega)
        rw [← Ny146.out] at hr18
        rw [← hy18] at hcut18
        have HR149 := Aside0.mk hr18
        have HC149 := Aside0.mk (show y146.length ≤ c0_0 from by omega)
        clear hr18 hC18 hroom18 hi018 hsz18
        have KY18 := Aside0.mk hy18
        clear hy18
        replace q18 := eq_true q18
        refine zcP (n := 9) (S := fun w' => w'.cell? ⟨gb143, 0, none⟩ = some (.slice A0_0 l0_0.length c0_0) ∧ w'.cell? ⟨gb143, 1, none⟩ = some (.int .i64 a0_1) ∧ w'.cell? ⟨gb143, 2, none⟩ = some (.int .i64 a0_2)) (ds := []) #[false, false, false, false, false, false, false, false, false] (by kernel_rfl) rfl rfl ⟨(zak BK143.out 0).trans rfl, (zak BK143.out 1).trans rfl, (zak BK143.out 2).trans rfl⟩ (fun hHeld => ?_); refine zb8 zbl.tab4 zbl.bits4 (fun HT_ HW_ => ?_)
        generalize wc.drew = w17 at BK143 BK144 HB HR149 hHeld ⊢
        refine zbB (i := 0) (N := some 21) (v := ?_) (a' := ?_) #[true, false, false, false, false, false, false, false, false] rfl rfl (zbm HT_.out (by kernel_rfl)) (fun _ _ _ h => h) (Or.inl ⟨by rfl, ?_⟩) ?_ ?_
        rotate_left
        ·intro w'
         go_simp
         with_reducible rfl
        rotate_left
        ·simp only [Act.put, List.setIfInBounds_toArray, List.set_cons_zero, List.set_cons_succ, zaL, zaN]
         rfl
        refine zbB (i := 2) (N := some 23) (v := ?_) (a' := ?_) #[true, false, true, false, false, false, false, false, false] rfl rfl (zbm HT_.out (by kernel_rfl)) (fun _ _ _ h => h) (Or.inl ⟨by rfl, ?_⟩) ?_ ?_
        rotate_left
        ·intro w'
         go_simp
         with_reducible rfl
        rotate_left
        ·simp only [Act.put, List.setIfInBounds_toArray, List.set_cons_zero, List.set_cons_succ, zaL, zaN]
         rfl
        refine zbB (i := 5) (N := some 26) (v := ?_) (a' := ?_) #[true, false, true, false, false, true, false, false, false] rfl rfl (zbm HT_.out (by kernel_rfl)) (fun _ _ _ h => h) (Or.inl ⟨by rfl, ?_⟩) ?_ ?_
        rotate_left
        ·intro w'
         go_simp
         with_reducible rfl
        rotate_left
        ·simp only [Act.put, List.setIfInBounds_toArray, List.set_cons_zero, List.set_cons_succ, zaL, zaN]
         rfl
        refine zb4 (i := 1) (N := some 22) (v := ?_) (a' := ?_) #[true, true, true, false, false, true, false, false, false] rfl rfl (zbv HT_.out HW_.out (by kernel_rfl)) (fun _ _ _ h => h) (Or.inl ⟨by rfl, ?_⟩) hHeld ?_ ?_
        rotate_left
        ·rintro w' ⟨s0, s1, s2⟩
         go_simp
         with_reducible rfl
        rotate_left
        ·simp only [Act.put, List.setIfInBounds_toArray, List.set_cons_zero, List.set_cons_succ, zaL, zaN]
         rfl
        refine zbB (i := 3) (N := some 24) (v := ?_) (a' := ?_) #[true, true, true, true, false, true, false, false, false] rfl rfl (zbm HT_.out (by kernel_rfl)) (fun _ _ _ h => h) (Or.inl ⟨by rfl, ?_⟩) ?_ ?_
        rotate_left
        ·intro w'
         go_simp
         with_reducible rfl
        rotate_left
        ·simp only [Act.put, List.setIfInBounds_toArray, List.set_cons_zero, List.set_cons_succ, zaL, zaN]
         rfl
        refine zb4 (i := 6) (N := some 27) (v := ?_) (a' := ?_) #[true, true, true, true, false, true, true, false, false] rfl rfl (zbv HT_.out HW_.out (by kernel_rfl)) (fun _ _ _ h => h) (Or.inl ⟨by rfl, ?_⟩) hHeld ?_ ?_
        rotate_left
        ·rintro w' ⟨s0, s1, s2⟩
         go_simp
         with_reducible rfl
        rotate_left
        ·simp only [Act.put, List.setIfInBounds_toArray, List.set_cons_zero, List.set_cons_succ, zaL, zaN]
         rfl
        refine one_ (i := 4) (N := some 25) #[true, true, true, true, true, true, true, false, false] rfl rfl (zbK HT_.out (by kernel_rfl)) (by decide) (fun K hK => ?_)
        refine zce Tryd.func58 (by kernel_rfl) rfl #[.slice A0_0 y146.length c0_0] (by rfl) rfl rfl (by (try simp only [List.map_toArray, List.map_cons, List.map_nil]); first | done | rfl | (simp only [List.length_drop, List.length_take]; rfl)) ?_
        with_reducible refine (zbH.calls _ _ y146 t150 _ ?side1 ?side2 A16.out).mono ?_
        (case side1 => repeat (first | exact (Kd.zbd HR149.out HB.out) | (with_reducible refine Kd.zbe ?_ _) | (with_reducible refine Kd.zbc ?_ _) | (with_reducible refine Kd.zbt ?_)))
        (case side2 => exact HC149.out)
        rintro e w19 ⟨v151, rfl, ho0, hb⟩
        refine ⟨_, rfl, ?_⟩
        have n0_ := Aside0.mk (Kd.zbF ho0 (zao (by repeat (first | (with_reducible first | exact HB.out | apply zac | apply zaa | apply zaf | refine zab ?_ GE143.out | refine zab ?_ GE144.out) | exact HB.out))))
        have n1_ := Aside0.mk (zaj (g := gb143) (o := .cells #[.slice A0_0 l0_0.length c0_0, .int .i64 a0_1, .int .i64 a0_2] 26 (0, 0)) (by (with_reducible repeat (first | apply zae | apply zai | apply zad)); exact BK143.out) hb)
        have n2_ := Aside0.mk (zaj (g := gb144) (o := .cells #[.slice none 0 0, .int .i64 0, .int .i64 0] 26 (0, 0)) (by (with_reducible repeat (first | apply zae | apply zai | apply zad)); exact BK144.out) hb)
        have n3_ := Aside0.mk (zam (by repeat (first | (with_reducible first | exact HB.out | apply zac | apply zaa | apply zaf | refine zab ?_ GE143.out | refine zab ?_ GE144.out) | exact HB.out)) hb)
        clear BK143 BK144 HB
        have HO152 := n0_
        have BK143 := n1_
        have BK144 := n2_
        have HB := n3_
        clear n0_ n1_ n2_ n3_
        (try clear hb)
        (try clear hb2)
        (try clear hk)
        (try clear hi)
        (try clear ho0)
        obtain ⟨Ao20, co20, eo20⟩ := Kd.zbx HO152.out
        (first | subst eo20 | (injection eo20 with f1_ f2_ f3_; have f4_ := f1_.symm; have f5_ := f3_.symm; clear f1_ f2_ f3_; subst f4_; subst f5_))
        refine hK.out _ _ ⟨(zak BK143.out 0).trans rfl, (zak BK143.out 1).trans rfl, (zak BK143.out 2).trans rfl⟩ (fun hHeld => ?_)
        clear hK K
        refine zbE (a' := ?_) ?_ ?_
        rotate_left
        ·show Act.put _ (some 25) _ = _
         simp only [Act.put, List.setIfInBounds_toArray, List.set_cons_zero, List.set_cons_succ, zaL, zaN]
         rfl
        refine zbB (i := 7) (N := some 28) (v := ?_) (a' := ?_) #[true, true, true, true, true, true, true, true, false] rfl rfl (zbm HT_.out (by kernel_rfl)) (fun _ _ _ h => h) (Or.inl ⟨by rfl, ?_⟩) ?_ ?_
        rotate_left
        ·intro w'
         go_simp
         with_reducible rfl
        rotate_left
        ·simp only [Act.put, List.setIfInBounds_toArray, List.set_cons_zero, List.set_cons_succ, zaL, zaN]
         rfl
        refine one_ (i := 8) (N := none) #[true, true, true, true, true, true, true, true, true] rfl rfl (zbK HT_.out (by kernel_rfl)) (by decide) (fun K hK => ?_)
        have hs21 : w19.cell? ⟨gb144, 0, none⟩ = some (.slice none 0 0) := (zak BK144.out 0).trans rfl
        have hfs21 := zah BK144.out 0
        have hns21_0 := NB143_144.out
        have hms21_0 := NB144_143.out
        have hs22 : w19.cell? ⟨gb144, 1, none⟩ = some (.int .i64 0) := (zak BK144.out 1).trans rfl
        have hfs22 := zah BK144.out 1
        have hns22_0 := NB143_144.out
        have hms22_0 := NB144_143.out
        have hs23 : w19.cell? ⟨gb144, 2, none⟩ = some (.int .i64 0) := (zak BK144.out 2).trans rfl
        have hfs23 := zah BK144.out 2
        have hns23_0 := NB143_144.out
        have hms23_0 := NB144_143.out
        refine zd1 (w1 := ?_) (by rfl) rfl ?_ ?_
        rotate_left
        ·go_simp
         rfl
        refine hK.out _ _ ⟨((cell_far (p := ⟨gb144, _, none⟩) NB143_144.out _).trans (((cell_far (p := ⟨gb144, _, none⟩) NB143_144.out _).trans (((cell_far (p := ⟨gb144, _, none⟩) NB143_144.out _).trans (hHeld.1)))))), ((cell_far (p := ⟨gb144, _, none⟩) NB143_144.out _).trans (((cell_far (p := ⟨gb144, _, none⟩) NB143_144.out _).trans (((cell_far (p := ⟨gb144, _, none⟩) NB143_144.out _).trans (hHeld.2.1)))))), ((cell_far (p := ⟨gb144, _, none⟩) NB143_144.out _).trans (((cell_far (p := ⟨gb144, _, none⟩) NB143_144.out _).trans (((cell_far (p := ⟨gb144, _, none⟩) NB143_144.out _).trans (hHeld.2.2))))))⟩ (fun hHeld => ?_)
        clear hK K
        refine zdK (zcu HT_.out (by kernel_rfl)) ?_
        try go_wp2
        refine bodyPost_ret (results_cell_row rfl _ _ gb144 26 #[.slice Ao20 t150.length co20, .int .i64 a0_1, .int .i64 a0_2] (0, 0) _ rfl (by (with_reducible repeat (first | apply zae | apply zai | apply zad)); refine zay (cs := #[.slice Ao20 t150.length co20, .int .i64 a0_1, .int .i64 0]) ?_ 2 _ rfl; (with_reducible repeat (first | apply zae | apply zai | apply zad)); refine zay (cs := #[.slice Ao20 t150.length co20, .int .i64 0, .int .i64 0]) ?_ 1 _ rfl; (with_reducible repeat (first | apply zae | apply zai | apply zad)); refine zay (cs := #[.slice none 0 0, .int .i64 0, .int .i64 0]) ?_ 0 _ rfl; (with_reducible repeat (first | apply zae | apply zai | apply zad)); exact BK144.out) Tryd.underlying26 rfl (by kernel_rfl)) rfl ?_
        exact ⟨_, by first | rfl | (simp [zas, zar] <;> rfl) | (simp [*, zas, zar] <;> rfl), by (with_reducible repeat (first | apply Kd.zaw | apply Kd.zax | apply Kd.zaE)); exact Kd.zbj (Kd.zbN (p := ⟨gb144, 2, none⟩) (Kd.zbN (p := ⟨gb144, 1, none⟩) (Kd.zbN (p := ⟨gb144, 0, none⟩) (Kd.zb0 HO152.out BK144.out (by decide)) (fun _ hk => hk.2) (.slice Ao20 t150.length co20)) (fun _ hk => hk.2) (.int .i64 a0_1)) (fun _ hk => hk.2) (.int .i64 a0_2)) (fun _ hk => trivial), by repeat (first | (with_reducible first | exact HB.out | apply zac | apply zaa | apply zaf | refine zab ?_ GE143.out | refine zab ?_ GE144.out) | exact HB.out)⟩
       ·rw [if_neg c15] at H
        exact absurd H (by simp)
      ·rw [if_neg c14] at H
       exact absurd H (by simp)
end Go.Proofs.YtijhnmbegceonaaDoor.PTerm
namespace Go.Proofs.YtijhnmbegceonaaDoor.PTerm
open Go.RowKit Go.Proofs.YtijhnmbegceonaaDoorW.PrintWords Go.Proofs.YtijhnmbegceonaaDoorW.PrintLast Go.Proofs.YtijhnmbegceonaaDoorW.PrintMore
attribute [local go_sem] zbr zbp zbz zby zbh zbg zbq zbo
set_option linter.unusedVariables false
set_option linter.unusedSimpArgs false
def zbL.f  : Option (Int × Int) := some (0, 1)
set_option maxHeartbeats 8000000 in
set_option maxRecDepth 100000 in
theorem zbL.calls  (r1 : Int) (r2 : Int) (w : World) (h : zbL.f  = some (r1, r2)) :
  Calls Tryd.prog 36 #[] w fun e w' => e = .returned (.agg #[.int .i64 r1, .int .i64 r2]) ∧ Below w.heap.size w w' := by
 have hu24 := Tryd.underlying24
 have HB := Aside0.mk (Below.refl w.heap.size w)
 have H : (some (0, 1)) = some (r1, r2) := h
 clear h
 simp only [Option.some.injEq, Prod.mk.injEq] at H
 obtain ⟨rfl, rfl⟩ := H
 go_enter Tryd.func36, Tryd.ntmps36
 go_wp2_with (first | ((with_reducible refine zaK (N := 0) rfl ?_); refine zaI ?hg (N := 0) ?hd (cs := #[.int .i64 0, .int .i64 0]) (t := 24) ?hr ?_; (case hd => rfl); (case hg => rfl); (case hr => first | (go_simp; done) | (go_simp; rfl)); intro gb168 hg w1 hbox hb; have n0_ := Aside0.mk (zam (by repeat (first | (with_reducible first | exact HB.out | apply zac | apply zaa | apply zaf) | exact HB.out)) hb); have n1_ := Aside0.mk (hbox); have n2_ := Aside0.mk ((by rw [hg]; exact (zao (by repeat (first | (with_reducible first | exact HB.out | apply zac | apply zaa | apply zaf) | exact HB.out))) : w.heap.size ≤ gb168)); have n3_ := n2_; clear HB; have HB := n0_; have BK168 := n1_; have GW168 := n2_; have GE168 := n3_; clear n0_ n1_ n2_ n3_; clear hb hbox hg; have hcz2_0 : w1.cell? ⟨gb168, 0, none⟩ = some (.int .i64 0) := (zak BK168.out 0).trans rfl; have hcz2_1 : w1.cell? ⟨gb168, 1, none⟩ = some (.int .i64 0) := (zak BK168.out 1).trans rfl; have hfz2_0 := zah BK168.out 0; have hfz2_1 := zah BK168.out 1))
 refine bodyPost_ret (results_cell_row rfl _ _ gb168 24 #[.int .i64 0, .int .i64 1] (0, 0) _ rfl (by (with_reducible repeat (first | apply zae | apply zai | apply zad)); refine zay (cs := #[.int .i64 0, .int .i64 0]) ?_ 1 _ rfl; (with_reducible repeat (first | apply zae | apply zai | apply zad)); refine zay (cs := #[.int .i64 0, .int .i64 0]) ?_ 0 _ rfl; (with_reducible repeat (first | apply zae | apply zai | apply zad)); exact BK168.out) Tryd.underlying24 rfl (by kernel_rfl)) rfl ?_
 exact ⟨by first | rfl | (simp [zas, zar] <;> rfl) | (simp [*, zas, zar] <;> rfl), by repeat (first | (with_reducible first | exact HB.out | apply zac | apply zaa | apply zaf | refine zab ?_ GE168.out) | exact HB.out)⟩
end Go.Proofs.YtijhnmbegceonaaDoor.PTerm
namespace Go.Proofs.YtijhnmbegceonaaDoor.PTerm
open Go.RowKit Go.Proofs.YtijhnmbegceonaaDoorW.PrintWords Go.Proofs.YtijhnmbegceonaaDoorW.PrintLast Go.Proofs.YtijhnmbegceonaaDoorW.PrintMore
attribute [local go_sem] zbr zbp zbz zby zbh zbg zbq zbo
set_option linter.unusedVariables false
set_option linter.unusedSimpArgs false
def zbD.f (a0_0 : Int) (a0_1 : Int) (a1_0 : Int) (a1_1 : Int) : Option (Int × Int × Int) := if (BallQ.In64 a0_0 ∧ BallQ.In64 a0_1) ∧ BallQ.In64 a1_0 ∧ BallQ.In64 a1_1 then some (PRat.addS a0_0 a0_1 a1_0 a1_1) else none
theorem zbD.calls (a0_0 : Int) (a0_1 : Int) (a1_0 : Int) (a1_1 : Int) (r1 : Int) (r2 : Int) (r3 : Int) (w : World) (h : zbD.f a0_0 a0_1 a1_0 a1_1 = some (r1, r2, r3)) :
  Calls Tryd.prog 42 #[.agg #[.int .i64 a0_0, .int .i64 a0_1], .agg #[.int .i64 a1_0, .int .i64 a1_1]] w fun e w' => e = .returned (.tuple #[.agg #[.int .i64 r1, .int .i64 r2], .int .i64 r3]) ∧ Below w.heap.size w w' := by
 unfold zbD.f at h
 split at h
 ·rename_i hc
  have e := Option.some.inj h
  obtain ⟨k, hk⟩ := Ev.rounds (PRat.zeE a0_0 a0_1 a1_0 a1_1 hc.1.1 hc.1.2 hc.2.1 hc.2.2)
  rw [e] at hk
  exact PRat.zbD.calls k a0_0 a0_1 a1_0 a1_1 r1 r2 r3 w hk
 ·cases h
def zcc.j0 : Nat → Int → Bool → List (S24) → Int → Int → Option (Int × Int)
 | 0, _, _, _, _, _ => none
 | k + 1, x1, x13, x200000, x200001, x200002 => if x13 = true then ((zbL.f).bind fun bt201 => (some (bt201.1, bt201.2))) else (if 0 ≤ x1 then (if x1 < (x200000.length : Int) then (some ((zaC x200000 x1).f0, (zaC x200000 x1).f1)) else (none)) else (none))
def zcc.f (k : Nat) (l0_0 : List (S24)) (a0_1 : Int) (a0_2 : Int) (a1 : Int) : Option (Int × Int) := if a1 < 0 then (zcc.j0 k a1 true l0_0 a0_1 a0_2) else (zcc.j0 k a1 (decide (a1 ≥ (l0_0.length : Int))) l0_0 a0_1 a0_2)
set_option maxHeartbeats 8000000 in
set_option maxRecDepth 100000 in
theorem zcc.calls (k : Nat) (A0_0 : Option Addr) (c0_0 : Nat) (l0_0 : List (S24)) (a0_1 : Int) (a0_2 : Int) (a1 : Int) (r1 : Int) (r2 : Int) (w : World) (hr0_0 : Kd.C k24 w A0_0 l0_0.length l0_0) (hc0_0 : l0_0.length ≤ c0_0) (h : zcc.f k l0_0 a0_1 a0_2 a1 = some (r1, r2)) :
  Calls Tryd.prog 22 #[.agg #[.slice A0_0 l0_0.length c0_0, .int .i64 a0_1, .int .i64 a0_2], .int .i64 a1] w fun e w' => e = .returned (.agg #[.int .i64 r1, .int .i64 r2]) ∧ Below w.heap.size w w' := by
 have hu26 := Tryd.underlying26
 have hu24 := Tryd.underlying24
 have HR0_0 := Aside0.mk hr0_0
 have HC0_0 := Aside0.mk hc0_0
 clear hr0_0 hc0_0
 have HB := Aside0.mk (Below.refl w.heap.size w)
 have H : (if a1 < 0 then (zcc.j0 k a1 true l0_0 a0_1 a0_2) else (zcc.j0 k a1 (decide (a1 ≥ (l0_0.length : Int))) l0_0 a0_1 a0_2)) = some (r1, r2) := h
 clear h
 have HC3 := Aside0.mk H
 clear H
 go_enter Tryd.func22, Tryd.ntmps22
 go_upto_region 1 with (first | ((with_reducible refine zaK (N := 2) rfl ?_); (try (refine zbn (by rfl) ?_; dsimp only)); refine zaI ?hg (N := 2) ?hd (cs := #[.slice A0_0 l0_0.length c0_0, .int .i64 a0_1, .int .i64 a0_2]) (t := 26) ?hr ?_; (case hd => rfl); (case hg => rfl); (case hr => first | (go_simp; done) | (go_simp; rfl)); intro gb199 hg w4 hbox hb; have n0_ := Aside0.mk (zam (by repeat (first | (with_reducible first | exact HB.out | apply zac | apply zaa | apply zaf) | exact HB.out)) hb); have n1_ := Aside0.mk (hbox); have n2_ := Aside0.mk ((by rw [hg]; exact (zao (by repeat (first | (with_reducible first | exact HB.out | apply zac | apply zaa | apply zaf) | exact HB.out))) : w.heap.size ≤ gb199)); have n3_ := n2_; clear HB; have HB := n0_; have BK199 := n1_; have GW199 := n2_; have GE199 := n3_; clear n0_ n1_ n2_ n3_; clear hb hbox hg) | ((with_reducible refine zaK (N := 4) rfl ?_); (try (refine zbn (by rfl) ?_; dsimp only)); refine zaI ?hg (N := 4) ?hd (cs := #[.int .i64 0, .int .i64 0]) (t := 24) ?hr ?_; (case hd => rfl); (case hg => rfl); (case hr => first | (go_simp; done) | (go_simp; rfl)); intro gb200 hg w5 hbox hb; have n0_ := Aside0.mk (zaj (g := gb199) (o := .cells #[.slice A0_0 l0_0.length c0_0, .int .i64 a0_1, .int .i64 a0_2] 26 (0, 0)) (by (with_reducible repeat (first | apply zae | apply zai | apply zad)); exact BK199.out) hb); have n1_ := Aside0.mk (zam (by repeat (first | (with_reducible first | exact HB.out | apply zac | apply zaa | apply zaf | refine zab ?_ GE199.out) | exact HB.out)) hb); have n2_ := Aside0.mk (hbox); have n3_ := Aside0.mk ((by rw [hg]; exact (zao (by repeat (first | (with_reducible first | exact HB.out | apply zac | apply zaa | apply zaf | refine zab ?_ GE199.out) | exact HB.out))) : w.heap.size ≤ gb200)); have n4_ := n3_; have n5_ := Aside0.mk ((by rw [hg]; exact Nat.ne_of_lt (za3 (g := gb199) (o := .cells #[.slice A0_0 l0_0.length c0_0, .int .i64 a0_1, .int .i64 a0_2] 26 (0, 0)) (by (with_reducible repeat (first | apply zae | apply zai | apply zad)); exact BK199.out)) : gb199 ≠ gb200)); have n6_ := Aside0.mk n5_.out.symm; clear BK199; clear HB; have BK199 := n0_; have HB := n1_; have BK200 := n2_; have GW200 := n3_; have GE200 := n4_; have NB199_200 := n5_; have NB200_199 := n6_; clear n0_ n1_ n2_ n3_ n4_ n5_ n6_; clear hb hbox hg))
 (try simp only [Act.put, List.setIfInBounds_toArray, List.set_cons_zero, List.set_cons_succ])
 go_cut [13] (fun v13 wc => ∃ (kq : Nat) (x13_2 : Bool), v13 = .bool x13_2 ∧ Aside0 (zcc.j0 kq a1 x13_2 l0_0 a0_1 a0_2 = some (r1, r2)) ∧ Aside0 (kq ≤ k) ∧ Aside0 (wc.heap[gb199]? = some (.cells #[(.slice A0_0 l0_0.length c0_0), .int .i64 a0_1, .int .i64 a0_2] 26 (0, 0))) ∧ Aside0 (wc.heap[gb200]? = some (.cells #[.int .i64 0, .int .i64 0] 24 (0, 0))) ∧ Aside0 (Below w.heap.size w wc))
 case first =>
  have H := HC3.out
  clear HC3
  by_cases c6 : a1 < 0
  ·rw [if_pos c6] at H
   have c6b0 : decide (a1 < 0) = true := decide_eq_true c6
   clear c6
   (first | rw [c6b0] | (simp only [zaL, zaN]; rw [c6b0]) | skip)
   have H' := Aside0.mk H
   clear H
   go_wp2
   go_meet
   case rel => exact ⟨_, (true), (by first | rfl | (simp; done) | (simp [*]; done)), H', ⟨by first | omega | exact Nat.le_refl _⟩, ⟨by (with_reducible repeat (first | apply zae | apply zai | apply zad)); exact BK199.out⟩, ⟨by (with_reducible repeat (first | apply zae | apply zai | apply zad)); exact BK200.out⟩, ⟨by repeat (first | (with_reducible first | exact HB.out | apply zac | apply zaa | apply zaf | refine zab ?_ GE199.out | refine zab ?_ GE200.out) | exact HB.out)⟩⟩
  ·rw [if_neg c6] at H
   have c6b0 : decide (a1 < 0) = false := decide_eq_false c6
   clear c6
   (first | rw [c6b0] | (simp only [zaL, zaN]; rw [c6b0]) | skip)
   have H' := Aside0.mk H
   clear H
   have hnb7 := NB199_200.out
   have hnc7 := NB200_199.out
   have hcz8_0 : w5.cell? ⟨gb199, 0, none⟩ = some (.slice A0_0 l0_0.length c0_0) := (zak BK199.out 0).trans rfl
   have hcz8_1 : w5.cell? ⟨gb199, 1, none⟩ = some (.int .i64 a0_1) := (zak BK199.out 1).trans rfl
   have hcz8_2 : w5.cell? ⟨gb199, 2, none⟩ = some (.int .i64 a0_2) := (zak BK199.out 2).trans rfl
   have hfz8_0 := zah BK199.out 0
   have hfz8_1 := zah BK199.out 1
   have hfz8_2 := zah BK199.out 2
   go_wp2
   go_meet
   case rel => exact ⟨_, (decide (a1 ≥ (l0_0.length : Int))), (by first | rfl | (simp; done) | (simp [*]; done)), H', ⟨by first | omega | exact Nat.le_refl _⟩, ⟨by (with_reducible repeat (first | apply zae | apply zai | apply zad)); exact BK199.out⟩, ⟨by (with_reducible repeat (first | apply zae | apply zai | apply zad)); exact BK200.out⟩, ⟨by repeat (first | (with_reducible first | exact HB.out | apply zac | apply zaa | apply zaf | refine zab ?_ GE199.out | refine zab ?_ GE200.out) | exact HB.out)⟩⟩
 case rest =>
  clear HC3
  (try clear c2); (try clear p2); (try clear c6); (try clear c6b0); (try clear c7); (try clear hcz8_0); (try clear hcz8_1); (try clear hcz8_2); (try clear hfz8_0); (try clear hfz8_1); (try clear hfz8_2)
  obtain ⟨kq, x13_2, rfl, HA, HJ2, BK199, BK200, HB⟩ := hcut
  cases kq with
  | zero => exact absurd HA.out (by simp [zcc.j0])
  | succ kj2 =>
   have H := HA.out
   clear HA
   simp only [zcc.j0] at H
   by_cases c9 : x13_2 = true
   ·subst c9
    have H1 : ((zbL.f).bind fun bt201 => (some (bt201.1, bt201.2))) = some (r1, r2) := by rw [if_pos rfl] at H; exact H
    clear H
    have H := H1
    clear H1
    replace H := Option.bind_eq_some_iff.mp H
    obtain ⟨⟨t201, t202⟩, A100, H⟩ := H
    replace H : (some (t201, t202)) = some (r1, r2) := H
    have A10 := Aside0.mk A100
    clear A100
    simp only [Option.some.injEq, Prod.mk.injEq] at H
    obtain ⟨rfl, rfl⟩ := H
    go_wp2_with (first | ((with_reducible refine zat (f := 36) rfl ?_); refine za9 (some 14) rfl rfl Tryd.func36 (by kernel_rfl) rfl #[] rfl (by (try simp only [List.map_toArray, List.map_cons, List.map_nil]); first | done | rfl | (simp only [List.length_drop, List.length_take]; rfl)) ?_; (with_reducible refine (zbL.calls  t201 t202 _ A10.out).mono ?_); rintro e w11 ⟨rfl, hb⟩; refine ⟨_, rfl, ?_⟩; have n0_ := Aside0.mk (zaj (g := gb199) (o := .cells #[.slice A0_0 l0_0.length c0_0, .int .i64 a0_1, .int .i64 a0_2] 26 (0, 0)) (by (with_reducible repeat (first | apply zae | apply zai | apply zad)); exact BK199.out) hb); have n1_ := Aside0.mk (zaj (g := gb200) (o := .cells #[.int .i64 0, .int .i64 0] 24 (0, 0)) (by (with_reducible repeat (first | apply zae | apply zai | apply zad)); exact BK200.out) hb); have n2_ := Aside0.mk (zam (by repeat (first | (with_reducible first | exact HB.out | apply zac | apply zaa | apply zaf | refine zab ?_ GE199.out | refine zab ?_ GE200.out) | exact HB.out)) hb); clear BK199; clear BK200; clear HB; have BK199 := n0_; have BK200 := n1_; have HB := n2_; clear n0_ n1_ n2_; (try clear hb); (try clear hb2); (try clear hk); (try clear hi); have hnb12 := NB200_199.out; have hnc12 := NB199_200.out; have hcz13_0 : w11.cell? ⟨gb200, 0, none⟩ = some (.int .i64 0) := (zak BK200.out 0).trans rfl; have hcz13_1 : w11.cell? ⟨gb200, 1, none⟩ = some (.int .i64 0) := (zak BK200.out 1).trans rfl; have hfz13_0 := zah BK200.out 0; have hfz13_1 := zah BK200.out 1))
    refine bodyPost_ret (results_cell_row rfl _ _ gb200 24 #[.int .i64 t201, .int .i64 t202] (0, 0) _ rfl (by (with_reducible repeat (first | apply zae | apply zai | apply zad)); refine zay (cs := #[.int .i64 t201, .int .i64 0]) ?_ 1 _ rfl; (with_reducible repeat (first | apply zae | apply zai | apply zad)); refine zay (cs := #[.int .i64 0, .int .i64 0]) ?_ 0 _ rfl; (with_reducible repeat (first | apply zae | apply zai | apply zad)); exact BK200.out) Tryd.underlying24 rfl (by kernel_rfl)) rfl ?_
    exact ⟨by first | rfl | (simp [zas, zar] <;> rfl) | (simp [*, zas, zar] <;> rfl), by repeat (first | (with_reducible first | exact HB.out | apply zac | apply zaa | apply zaf | refine zab ?_ GE199.out | refine zab ?_ GE200.out) | exact HB.out)⟩
   ·replace c9 := Bool.eq_false_iff.mpr c9
    subst c9
    have H1 : (if 0 ≤ a1 then (if a1 < (l0_0.length : Int) then (some ((zaC l0_0 a1).f0, (zaC l0_0 a1).f1)) else (none)) else (none)) = some (r1, r2) := by rw [if_neg (show ¬ (false = true) by decide)] at H; exact H
    clear H
    have H := H1
    clear H1
    by_cases c14 : 0 ≤ a1
    ·rw [if_pos c14] at H
     have c14b0 : decide (0 ≤ a1) = true := decide_eq_true c14
     clear c14
     by_cases c15 : a1 < (l0_0.length : Int)
     ·rw [if_pos c15] at H
      have c15b0 : decide (a1 < (l0_0.length : Int)) = true := decide_eq_true c15
      clear c15
      simp only [Option.some.injEq, Prod.mk.injEq] at H
      obtain ⟨rfl, rfl⟩ := H
      have hnb16 := NB199_200.out
      have hnc16 := NB200_199.out
      have hcz17_0 : wc.cell? ⟨gb199, 0, none⟩ = some (.slice A0_0 l0_0.length c0_0) := (zak BK199.out 0).trans rfl
      have hcz17_1 : wc.cell? ⟨gb199, 1, none⟩ = some (.int .i64 a0_1) := (zak BK199.out 1).trans rfl
      have hcz17_2 : wc.cell? ⟨gb199, 2, none⟩ = some (.int .i64 a0_2) := (zak BK199.out 2).trans rfl
      have hfz17_0 := zah BK199.out 0
      have hfz17_1 := zah BK199.out 1
      have hfz17_2 := zah BK199.out 2
      have p203 : 0 ≤ (a1 : Int) := of_decide_eq_true (by first | (with_reducible assumption) | assumption)
      have q203 : a1 < (l0_0.length : Int) := of_decide_eq_true (by first | (with_reducible assumption) | assumption)
      obtain ⟨ad203, e203, hx203_0, hx203_1⟩ := zcw HR0_0.out a1 p203 q203
      cases e203
      replace hx203_0 := (HB.out.cell (World.block_lt_of_cell? w _ hx203_0)).trans hx203_0
      replace hx203_1 := (HB.out.cell (World.block_lt_of_cell? w _ hx203_1)).trans hx203_1
      replace p203 := eq_true p203
      replace q203 := eq_true q203
      have hcz18_0 : wc.cell? ⟨gb200, 0, none⟩ = some (.int .i64 0) := (zak BK200.out 0).trans rfl
      have hcz18_1 : wc.cell? ⟨gb200, 1, none⟩ = some (.int .i64 0) := (zak BK200.out 1).trans rfl
      have hfz18_0 := zah BK200.out 0
      have hfz18_1 := zah BK200.out 1
      go_wp2
      refine bodyPost_ret (results_cell_row rfl _ _ gb200 24 #[.int .i64 ((zaC l0_0 a1).f0), .int .i64 ((zaC l0_0 a1).f1)] (0, 0) _ rfl (by (with_reducible repeat (first | apply zae | apply zai | apply zad)); refine zay (cs := #[.int .i64 ((zaC l0_0 a1).f0), .int .i64 0]) ?_ 1 _ rfl; (with_reducible repeat (first | apply zae | apply zai | apply zad)); refine zay (cs := #[.int .i64 0, .int .i64 0]) ?_ 0 _ rfl; (with_reducible repeat (first | apply zae | apply zai | apply zad)); exact BK200.out) Tryd.underlying24 rfl (by kernel_rfl)) rfl ?_
      exact ⟨by first | rfl | (simp [zas, zar] <;> rfl) | (simp [*, zas, zar] <;> rfl), by repeat (first | (with_reducible first | exact HB.out | apply zac | apply zaa | apply zaf | refine zab ?_ GE199.out | refine zab ?_ GE200.out) | exact HB.out)⟩
     ·rw [if_neg c15] at H
      exact absurd H (by simp)
    ·rw [if_neg c14] at H
     exact absurd H (by simp)
def zcN.f (k : Nat) (l0_0 : List (S24)) (a0_1 : Int) (a0_2 : Int) (a1 : Int) : Option (Int × Int) := if a1 < 0 then (some (a0_1, a0_2)) else ((zcc.f k l0_0 a0_1 a0_2 a1).bind fun bt206 => (some (bt206.1, bt206.2)))
set_option maxHeartbeats 8000000 in
set_option maxRecDepth 100000 in
theorem zcN.calls (k : Nat) (A0_0 : Option Addr) (c0_0 : Nat) (l0_0 : List (S24)) (a0_1 : Int) (a0_2 : Int) (a1 : Int) (r1 : Int) (r2 : Int) (w : World) (hr0_0 : Kd.C k24 w A0_0 l0_0.length l0_0) (hc0_0 : l0_0.length ≤ c0_0) (h : zcN.f k l0_0 a0_1 a0_2 a1 = some (r1, r2)) :
  Calls Tryd.prog 43 #[.agg #[.slice A0_0 l0_0.length c0_0, .int .i64 a0_1, .int .i64 a0_2], .int .i64 a1] w fun e w' => e = .returned (.agg #[.int .i64 r1, .int .i64 r2]) ∧ Below w.heap.size w w' := by
 have hu26 := Tryd.underlying26
 have hu24 := Tryd.underlying24
 have HR0_0 := Aside0.mk hr0_0
 have HC0_0 := Aside0.mk hc0_0
 clear hr0_0 hc0_0
 have HB := Aside0.mk (Below.refl w.heap.size w)
 have H : (if a1 < 0 then (some (a0_1, a0_2)) else ((zcc.f k l0_0 a0_1 a0_2 a1).bind fun bt206 => (some (bt206.1, bt206.2)))) = some (r1, r2) := h
 clear h
 by_cases c3 : a1 < 0
 ·rw [if_pos c3] at H
  have c3b0 : decide (a1 < 0) = true := decide_eq_true c3
  clear c3
  simp only [Option.some.injEq, Prod.mk.injEq] at H
  obtain ⟨rfl, rfl⟩ := H
  go_enter Tryd.func43, Tryd.ntmps43
  go_wp2_with (first | ((with_reducible refine zaK (N := 2) rfl ?_); refine zaI ?hg (N := 2) ?hd (cs := #[.slice A0_0 l0_0.length c0_0, .int .i64 a0_1, .int .i64 a0_2]) (t := 26) ?hr ?_; (case hd => rfl); (case hg => rfl); (case hr => first | (go_simp; done) | (go_simp; rfl)); intro gb204 hg w4 hbox hb; have n0_ := Aside0.mk (zam (by repeat (first | (with_reducible first | exact HB.out | apply zac | apply zaa | apply zaf) | exact HB.out)) hb); have n1_ := Aside0.mk (hbox); have n2_ := Aside0.mk ((by rw [hg]; exact (zao (by repeat (first | (with_reducible first | exact HB.out | apply zac | apply zaa | apply zaf) | exact HB.out))) : w.heap.size ≤ gb204)); have n3_ := n2_; clear HB; have HB := n0_; have BK204 := n1_; have GW204 := n2_; have GE204 := n3_; clear n0_ n1_ n2_ n3_; clear hb hbox hg) | ((with_reducible refine zaK (N := 4) rfl ?_); refine zaI ?hg (N := 4) ?hd (cs := #[.int .i64 0, .int .i64 0]) (t := 24) ?hr ?_; (case hd => rfl); (case hg => rfl); (case hr => first | (go_simp; done) | (go_simp; rfl)); intro gb205 hg w5 hbox hb; have n0_ := Aside0.mk (zaj (g := gb204) (o := .cells #[.slice A0_0 l0_0.length c0_0, .int .i64 a0_1, .int .i64 a0_2] 26 (0, 0)) (by (with_reducible repeat (first | apply zae | apply zai | apply zad)); exact BK204.out) hb); have n1_ := Aside0.mk (zam (by repeat (first | (with_reducible first | exact HB.out | apply zac | apply zaa | apply zaf | refine zab ?_ GE204.out) | exact HB.out)) hb); have n2_ := Aside0.mk (hbox); have n3_ := Aside0.mk ((by rw [hg]; exact (zao (by repeat (first | (with_reducible first | exact HB.out | apply zac | apply zaa | apply zaf | refine zab ?_ GE204.out) | exact HB.out))) : w.heap.size ≤ gb205)); have n4_ := n3_; have n5_ := Aside0.mk ((by rw [hg]; exact Nat.ne_of_lt (za3 (g := gb204) (o := .cells #[.slice A0_0 l0_0.length c0_0, .int .i64 a0_1, .int .i64 a0_2] 26 (0, 0)) (by (with_reducible repeat (first | apply zae | apply zai | apply zad)); exact BK204.out)) : gb204 ≠ gb205)); have n6_ := Aside0.mk n5_.out.symm; clear BK204; clear HB; have BK204 := n0_; have HB := n1_; have BK205 := n2_; have GW205 := n3_; have GE205 := n4_; have NB204_205 := n5_; have NB205_204 := n6_; clear n0_ n1_ n2_ n3_ n4_ n5_ n6_; clear hb hbox hg; have hnb6 := NB204_205.out; have hnc6 := NB205_204.out; have hcz7_0 : w5.cell? ⟨gb204, 0, none⟩ = some (.slice A0_0 l0_0.length c0_0) := (zak BK204.out 0).trans rfl; have hcz7_1 : w5.cell? ⟨gb204, 1, none⟩ = some (.int .i64 a0_1) := (zak BK204.out 1).trans rfl; have hcz7_2 : w5.cell? ⟨gb204, 2, none⟩ = some (.int .i64 a0_2) := (zak BK204.out 2).trans rfl; have hfz7_0 := zah BK204.out 0; have hfz7_1 := zah BK204.out 1; have hfz7_2 := zah BK204.out 2; have hcz8_0 : w5.cell? ⟨gb205, 0, none⟩ = some (.int .i64 0) := (zak BK205.out 0).trans rfl; have hcz8_1 : w5.cell? ⟨gb205, 1, none⟩ = some (.int .i64 0) := (zak BK205.out 1).trans rfl; have hfz8_0 := zah BK205.out 0; have hfz8_1 := zah BK205.out 1))
  refine bodyPost_ret (results_cell_row rfl _ _ gb205 24 #[.int .i64 a0_1, .int .i64 a0_2] (0, 0) _ rfl (by (with_reducible repeat (first | apply zae | apply zai | apply zad)); refine zay (cs := #[.int .i64 a0_1, .int .i64 0]) ?_ 1 _ rfl; (with_reducible repeat (first | apply zae | apply zai | apply zad)); refine zay (cs := #[.int .i64 0, .int .i64 0]) ?_ 0 _ rfl; (with_reducible repeat (first | apply zae | apply zai | apply zad)); exact BK205.out) Tryd.underlying24 rfl (by kernel_rfl)) rfl ?_
  exact ⟨by first | rfl | (simp [zas, zar] <;> rfl) | (simp [*, zas, zar] <;> rfl), by repeat (first | (with_reducible first | exact HB.out | apply zac | apply zaa | apply zaf | refine zab ?_ GE204.out | refine zab ?_ GE205.out) | exact HB.out)⟩
 ·rw [if_neg c3] at H
  have c3b0 : decide (a1 < 0) = false := decide_eq_false c3
  clear c3
  replace H := Option.bind_eq_some_iff.mp H
  obtain ⟨⟨t206, t207⟩, A90, H⟩ := H
  replace H : (some (t206, t207)) = some (r1, r2) := H
  have A9 := Aside0.mk A90
  clear A90
  simp only [Option.some.injEq, Prod.mk.injEq] at H
  obtain ⟨rfl, rfl⟩ := H
  go_enter Tryd.func43, Tryd.ntmps43
  go_wp2_with (first | ((with_reducible refine zaK (N := 2) rfl ?_); refine zaI ?hg (N := 2) ?hd (cs := #[.slice A0_0 l0_0.length c0_0, .int .i64 a0_1, .int .i64 a0_2]) (t := 26) ?hr ?_; (case hd => rfl); (case hg => rfl); (case hr => first | (go_simp; done) | (go_simp; rfl)); intro gb204 hg w10 hbox hb; have n0_ := Aside0.mk (zam (by repeat (first | (with_reducible first | exact HB.out | apply zac | apply zaa | apply zaf) | exact HB.out)) hb); have n1_ := Aside0.mk (hbox); have n2_ := Aside0.mk ((by rw [hg]; exact (zao (by repeat (first | (with_reducible first | exact HB.out | apply zac | apply zaa | apply zaf) | exact HB.out))) : w.heap.size ≤ gb204)); have n3_ := n2_; clear HB; have HB := n0_; have BK204 := n1_; have GW204 := n2_; have GE204 := n3_; clear n0_ n1_ n2_ n3_; clear hb hbox hg) | ((with_reducible refine zaK (N := 4) rfl ?_); refine zaI ?hg (N := 4) ?hd (cs := #[.int .i64 0, .int .i64 0]) (t := 24) ?hr ?_; (case hd => rfl); (case hg => rfl); (case hr => first | (go_simp; done) | (go_simp; rfl)); intro gb205 hg w11 hbox hb; have n0_ := Aside0.mk (zaj (g := gb204) (o := .cells #[.slice A0_0 l0_0.length c0_0, .int .i64 a0_1, .int .i64 a0_2] 26 (0, 0)) (by (with_reducible repeat (first | apply zae | apply zai | apply zad)); exact BK204.out) hb); have n1_ := Aside0.mk (zam (by repeat (first | (with_reducible first | exact HB.out | apply zac | apply zaa | apply zaf | refine zab ?_ GE204.out) | exact HB.out)) hb); have n2_ := Aside0.mk (hbox); have n3_ := Aside0.mk ((by rw [hg]; exact (zao (by repeat (first | (with_reducible first | exact HB.out | apply zac | apply zaa | apply zaf | refine zab ?_ GE204.out) | exact HB.out))) : w.heap.size ≤ gb205)); have n4_ := n3_; have n5_ := Aside0.mk ((by rw [hg]; exact Nat.ne_of_lt (za3 (g := gb204) (o := .cells #[.slice A0_0 l0_0.length c0_0, .int .i64 a0_1, .int .i64 a0_2] 26 (0, 0)) (by (with_reducible repeat (first | apply zae | apply zai | apply zad)); exact BK204.out)) : gb204 ≠ gb205)); have n6_ := Aside0.mk n5_.out.symm; clear BK204; clear HB; have BK204 := n0_; have HB := n1_; have BK205 := n2_; have GW205 := n3_; have GE205 := n4_; have NB204_205 := n5_; have NB205_204 := n6_; clear n0_ n1_ n2_ n3_ n4_ n5_ n6_; clear hb hbox hg; have hnb12 := NB204_205.out; have hnc12 := NB205_204.out; have hcz13_0 : w11.cell? ⟨gb204, 0, none⟩ = some (.slice A0_0 l0_0.length c0_0) := (zak BK204.out 0).trans rfl; have hcz13_1 : w11.cell? ⟨gb204, 1, none⟩ = some (.int .i64 a0_1) := (zak BK204.out 1).trans rfl; have hcz13_2 : w11.cell? ⟨gb204, 2, none⟩ = some (.int .i64 a0_2) := (zak BK204.out 2).trans rfl; have hfz13_0 := zah BK204.out 0; have hfz13_1 := zah BK204.out 1; have hfz13_2 := zah BK204.out 2) | ((with_reducible refine zat (f := 22) rfl ?_); refine za9 (some 11) rfl rfl Tryd.func22 (by kernel_rfl) rfl #[.agg #[.slice A0_0 l0_0.length c0_0, .int .i64 a0_1, .int .i64 a0_2], .int .i64 a1] rfl (by (try simp only [List.map_toArray, List.map_cons, List.map_nil]); first | done | rfl | (simp only [List.length_drop, List.length_take]; rfl)) ?_; (with_reducible refine (zcc.calls k _ _ l0_0 a0_1 a0_2 a1 t206 t207 _ ?side1 ?side2 A9.out).mono ?_); (case side1 => repeat (first | exact (Kd.zbd HR0_0.out HB.out) | (with_reducible refine Kd.zbe ?_ _) | (with_reducible refine Kd.zbc ?_ _) | (with_reducible refine Kd.zbt ?_))); (case side2 => exact HC0_0.out); rintro e w14 ⟨rfl, hb⟩; refine ⟨_, rfl, ?_⟩; have n0_ := Aside0.mk (zaj (g := gb204) (o := .cells #[.slice A0_0 l0_0.length c0_0, .int .i64 a0_1, .int .i64 a0_2] 26 (0, 0)) (by (with_reducible repeat (first | apply zae | apply zai | apply zad)); exact BK204.out) hb); have n1_ := Aside0.mk (zaj (g := gb205) (o := .cells #[.int .i64 0, .int .i64 0] 24 (0, 0)) (by (with_reducible repeat (first | apply zae | apply zai | apply zad)); exact BK205.out) hb); have n2_ := Aside0.mk (zam (by repeat (first | (with_reducible first | exact HB.out | apply zac | apply zaa | apply zaf | refine zab ?_ GE204.out | refine zab ?_ GE205.out) | exact HB.out)) hb); clear BK204; clear BK205; clear HB; have BK204 := n0_; have BK205 := n1_; have HB := n2_; clear n0_ n1_ n2_; (try clear hb); (try clear hb2); (try clear hk); (try clear hi); have hcz15_0 : w14.cell? ⟨gb205, 0, none⟩ = some (.int .i64 0) := (zak BK205.out 0).trans rfl; have hcz15_1 : w14.cell? ⟨gb205, 1, none⟩ = some (.int .i64 0) := (zak BK205.out 1).trans rfl; have hfz15_0 := zah BK205.out 0; have hfz15_1 := zah BK205.out 1))
  refine bodyPost_ret (results_cell_row rfl _ _ gb205 24 #[.int .i64 t206, .int .i64 t207] (0, 0) _ rfl (by (with_reducible repeat (first | apply zae | apply zai | apply zad)); refine zay (cs := #[.int .i64 t206, .int .i64 0]) ?_ 1 _ rfl; (with_reducible repeat (first | apply zae | apply zai | apply zad)); refine zay (cs := #[.int .i64 0, .int .i64 0]) ?_ 0 _ rfl; (with_reducible repeat (first | apply zae | apply zai | apply zad)); exact BK205.out) Tryd.underlying24 rfl (by kernel_rfl)) rfl ?_
  exact ⟨by first | rfl | (simp [zas, zar] <;> rfl) | (simp [*, zas, zar] <;> rfl), by repeat (first | (with_reducible first | exact HB.out | apply zac | apply zaa | apply zaf | refine zab ?_ GE204.out | refine zab ?_ GE205.out) | exact HB.out)⟩
def zba.f (a0_0 : Int) (a0_1 : Int) (a1_0 : Int) (a1_1 : Int) : Option (Int × Int × Int) := if (BallQ.In64 a0_0 ∧ BallQ.In64 a0_1) ∧ BallQ.In64 a1_0 ∧ BallQ.In64 a1_1 then some (PRat.mulS a0_0 a0_1 a1_0 a1_1) else none
theorem zba.calls (a0_0 : Int) (a0_1 : Int) (a1_0 : Int) (a1_1 : Int) (r1 : Int) (r2 : Int) (r3 : Int) (w : World) (h : zba.f a0_0 a0_1 a1_0 a1_1 = some (r1, r2, r3)) :
  Calls Tryd.prog 45 #[.agg #[.int .i64 a0_0, .int .i64 a0_1], .agg #[.int .i64 a1_0, .int .i64 a1_1]] w fun e w' => e = .returned (.tuple #[.agg #[.int .i64 r1, .int .i64 r2], .int .i64 r3]) ∧ Below w.heap.size w w' := by
 unfold zba.f at h
 split at h
 ·rename_i hc
  have e := Option.some.inj h
  obtain ⟨k, hk⟩ := Ev.rounds (PRat.zfZ a0_0 a0_1 a1_0 a1_1 hc.1.1 hc.1.2 hc.2.1 hc.2.2)
  rw [e] at hk
  exact PRat.zba.calls k a0_0 a0_1 a1_0 a1_1 r1 r2 r3 w hk
 ·cases h
end Go.Proofs.YtijhnmbegceonaaDoor.PTerm
