-- Words and walks, cut to what this law uses (wip/pack.py).
import Derived.Test.YtijhnmbegceonaaDoorValX7
import Derived.Test.YtijhnmbegceonaaDoorValX0
import Derived.Test.YtijhnmbegceonaaDoorValX6
import Derived.Test.YtijhnmbegceonaaDoorValX1
namespace Go.Proofs.YtijhnmbegceonaaDoor.PRef
open Go.RowKit Go.Proofs.YtijhnmbegceonaaDoorW.PrintWords Go.Proofs.YtijhnmbegceonaaDoorW.PrintLast Go.Proofs.YtijhnmbegceonaaDoorW.PrintMore
attribute [local go_sem] zbr zbp zbz zby zbh zbg zbq zbo
set_option linter.unusedVariables false
set_option linter.unusedSimpArgs false
def zaS.j0 : Nat → Int → Int → Bool → List Bool → List Bool → Bool → Option (Int × Int × Int)
 | 0, _, _, _, _, _, _ => none
 | k + 1, x9, x11, x47, x217000, x217001, x217002 => if x47 = true then (some (0, 0, 3)) else (if x217002 = true then (some (wrap64 (-x9), x11, 0)) else (some (x9, x11, 0)))
def zaS.f (k : Nat) (l0_0 : List Bool) (l0_1 : List Bool) (a0_2 : Bool) : Option (Int × Int × Int) := (zaR.f k l0_0 l0_1).bind fun t218 => ((zav.f k l0_0 t218).bind fun bt221 => ((zav.f k l0_1 t218).bind fun bt227 => ((zaD.f k bt221.1).bind fun bt233 => ((zaD.f k bt227.1).bind fun bt235 => (if bt233.2 = true then (zaS.j0 k bt233.1 bt235.1 (!bt235.2) l0_0 l0_1 a0_2) else (zaS.j0 k bt233.1 bt235.1 true l0_0 l0_1 a0_2))))))
set_option maxHeartbeats 8000000 in
set_option maxRecDepth 100000 in
theorem zaS.calls (k : Nat) (A0_0 : Option Addr) (c0_0 : Nat) (l0_0 : List Bool) (A0_1 : Option Addr) (c0_1 : Nat) (l0_1 : List Bool) (a0_2 : Bool) (r1 : Int) (r2 : Int) (r3 : Int) (w : World) (hr0_0 : Kd.C Kd.bool w A0_0 l0_0.length l0_0) (hc0_0 : l0_0.length ≤ c0_0) (hr0_1 : Kd.C Kd.bool w A0_1 l0_1.length l0_1) (hc0_1 : l0_1.length ≤ c0_1) (h : zaS.f k l0_0 l0_1 a0_2 = some (r1, r2, r3)) :
  Calls Tryd.prog 47 #[.agg #[.slice A0_0 l0_0.length c0_0, .slice A0_1 l0_1.length c0_1, .bool a0_2]] w fun e w' => e = .returned (.tuple #[.agg #[.int .i64 r1, .int .i64 r2], .int .i64 r3]) ∧ Below w.heap.size w w' := by
 have hu62 := Tryd.underlying62
 have hu24 := Tryd.underlying24
 have HR0_0 := Aside0.mk hr0_0
 have HC0_0 := Aside0.mk hc0_0
 clear hr0_0 hc0_0
 have HR0_1 := Aside0.mk hr0_1
 have HC0_1 := Aside0.mk hc0_1
 clear hr0_1 hc0_1
 have HB := Aside0.mk (Below.refl w.heap.size w)
 have H : ((zaR.f k l0_0 l0_1).bind fun t218 => ((zav.f k l0_0 t218).bind fun bt221 => ((zav.f k l0_1 t218).bind fun bt227 => ((zaD.f k bt221.1).bind fun bt233 => ((zaD.f k bt227.1).bind fun bt235 => (if bt233.2 = true then (zaS.j0 k bt233.1 bt235.1 (!bt235.2) l0_0 l0_1 a0_2) else (zaS.j0 k bt233.1 bt235.1 true l0_0 l0_1 a0_2))))))) = some (r1, r2, r3) := h
 clear h
 replace H := Option.bind_eq_some_iff.mp H
 obtain ⟨t218, A20, H⟩ := H
 replace H : ((zav.f k l0_0 t218).bind fun bt221 => ((zav.f k l0_1 t218).bind fun bt227 => ((zaD.f k bt221.1).bind fun bt233 => ((zaD.f k bt227.1).bind fun bt235 => (if bt233.2 = true then (zaS.j0 k bt233.1 bt235.1 (!bt235.2) l0_0 l0_1 a0_2) else (zaS.j0 k bt233.1 bt235.1 true l0_0 l0_1 a0_2)))))) = some (r1, r2, r3) := H
 have A2 := Aside0.mk A20
 clear A20
 replace H := Option.bind_eq_some_iff.mp H
 obtain ⟨⟨t221, t222⟩, A30, H⟩ := H
 replace H : ((zav.f k l0_1 t218).bind fun bt227 => ((zaD.f k t221).bind fun bt233 => ((zaD.f k bt227.1).bind fun bt235 => (if bt233.2 = true then (zaS.j0 k bt233.1 bt235.1 (!bt235.2) l0_0 l0_1 a0_2) else (zaS.j0 k bt233.1 bt235.1 true l0_0 l0_1 a0_2))))) = some (r1, r2, r3) := H
 have A3 := Aside0.mk A30
 clear A30
 replace H := Option.bind_eq_some_iff.mp H
 obtain ⟨⟨t227, t228⟩, A40, H⟩ := H
 replace H : ((zaD.f k t221).bind fun bt233 => ((zaD.f k t227).bind fun bt235 => (if bt233.2 = true then (zaS.j0 k bt233.1 bt235.1 (!bt235.2) l0_0 l0_1 a0_2) else (zaS.j0 k bt233.1 bt235.1 true l0_0 l0_1 a0_2)))) = some (r1, r2, r3) := H
 have A4 := Aside0.mk A40
 clear A40
 replace H := Option.bind_eq_some_iff.mp H
 obtain ⟨⟨t233, t234⟩, A50, H⟩ := H
 replace H : ((zaD.f k t227).bind fun bt235 => (if t234 = true then (zaS.j0 k t233 bt235.1 (!bt235.2) l0_0 l0_1 a0_2) else (zaS.j0 k t233 bt235.1 true l0_0 l0_1 a0_2))) = some (r1, r2, r3) := H
 have A5 := Aside0.mk A50
 clear A50
 replace H := Option.bind_eq_some_iff.mp H
 obtain ⟨⟨t235, t236⟩, A60, H⟩ := H
 replace H : (if t234 = true then (zaS.j0 k t233 t235 (!t236) l0_0 l0_1 a0_2) else (zaS.j0 k t233 t235 true l0_0 l0_1 a0_2)) = some (r1, r2, r3) := H
 have A6 := Aside0.mk A60
 clear A60
 have HC7 := Aside0.mk H
 clear H
 go_enter Tryd.func47, Tryd.ntmps47
 go_upto_region 6 with (first | ((with_reducible refine zaK (N := 1) rfl ?_); refine zaI ?hg (N := 1) ?hd (cs := #[.slice A0_0 l0_0.length c0_0, .slice A0_1 l0_1.length c0_1, .bool a0_2]) (t := 62) ?hr ?_; (case hd => rfl); (case hg => rfl); (case hr => first | (go_simp; done) | (go_simp; rfl)); intro gb216 hg w8 hbox hb; have n0_ := Aside0.mk (zam (by repeat (first | (with_reducible first | exact HB.out | apply zac | apply zaa | apply zaf) | exact HB.out)) hb); have n1_ := Aside0.mk (hbox); have n2_ := Aside0.mk ((by rw [hg]; exact (zao (by repeat (first | (with_reducible first | exact HB.out | apply zac | apply zaa | apply zaf) | exact HB.out))) : w.heap.size ≤ gb216)); have n3_ := n2_; clear HB; have HB := n0_; have BK216 := n1_; have GW216 := n2_; have GE216 := n3_; clear n0_ n1_ n2_ n3_; clear hb hbox hg) | ((with_reducible refine zaK (N := 2) rfl ?_); refine zaI ?hg (N := 2) ?hd (cs := #[.int .i64 0, .int .i64 0]) (t := 24) ?hr ?_; (case hd => rfl); (case hg => rfl); (case hr => first | (go_simp; done) | (go_simp; rfl)); intro gb217 hg w9 hbox hb; have n0_ := Aside0.mk (zaj (g := gb216) (o := .cells #[.slice A0_0 l0_0.length c0_0, .slice A0_1 l0_1.length c0_1, .bool a0_2] 62 (0, 0)) (by (with_reducible repeat (first | apply zae | apply zai | apply zad)); exact BK216.out) hb); have n1_ := Aside0.mk (zam (by repeat (first | (with_reducible first | exact HB.out | apply zac | apply zaa | apply zaf | refine zab ?_ GE216.out) | exact HB.out)) hb); have n2_ := Aside0.mk (hbox); have n3_ := Aside0.mk ((by rw [hg]; exact (zao (by repeat (first | (with_reducible first | exact HB.out | apply zac | apply zaa | apply zaf | refine zab ?_ GE216.out) | exact HB.out))) : w.heap.size ≤ gb217)); have n4_ := n3_; have n5_ := Aside0.mk ((by rw [hg]; exact Nat.ne_of_lt (za3 (g := gb216) (o := .cells #[.slice A0_0 l0_0.length c0_0, .slice A0_1 l0_1.length c0_1, .bool a0_2] 62 (0, 0)) (by (with_reducible repeat (first | apply zae | apply zai | apply zad)); exact BK216.out)) : gb216 ≠ gb217)); have n6_ := Aside0.mk n5_.out.symm; clear BK216; clear HB; have BK216 := n0_; have HB := n1_; have BK217 := n2_; have GW217 := n3_; have GE217 := n4_; have NB216_217 := n5_; have NB217_216 := n6_; clear n0_ n1_ n2_ n3_ n4_ n5_ n6_; clear hb hbox hg; have hnb10 := NB216_217.out; have hnc10 := NB217_216.out; have hcz11_0 : w9.cell? ⟨gb216, 0, none⟩ = some (.slice A0_0 l0_0.length c0_0) := (zak BK216.out 0).trans rfl; have hcz11_1 : w9.cell? ⟨gb216, 1, none⟩ = some (.slice A0_1 l0_1.length c0_1) := (zak BK216.out 1).trans rfl; have hcz11_2 : w9.cell? ⟨gb216, 2, none⟩ = some (.bool a0_2) := (zak BK216.out 2).trans rfl; have hfz11_0 := zah BK216.out 0; have hfz11_1 := zah BK216.out 1; have hfz11_2 := zah BK216.out 2) | ((with_reducible refine zat (f := 50) rfl ?_); refine za9 (some 17) rfl rfl Tryd.func50 (by kernel_rfl) rfl #[.slice A0_0 l0_0.length c0_0, .slice A0_1 l0_1.length c0_1] rfl (by (try simp only [List.map_toArray, List.map_cons, List.map_nil]); first | done | rfl | (simp only [List.length_drop, List.length_take]; rfl)) ?_; (with_reducible refine (zaR.calls k (fun k_ => k_ < w.heap.size) _ _ l0_0 (fun k_ => k_ < w.heap.size) _ _ l0_1 t218 _ ?side1 ?side2 A2.out).mono ?_); (case side1 => exact Kd.V_mk HC0_0.out (Kd.zdE (Kd.C_F Kd.zev HR0_0.out) (by repeat (first | (with_reducible first | exact HB.out | apply zac | apply zaa | apply zaf | refine zab ?_ GE216.out | refine zab ?_ GE217.out) | exact HB.out)))); (case side2 => exact Kd.V_mk HC0_1.out (Kd.zdE (Kd.C_F Kd.zev HR0_1.out) (by repeat (first | (with_reducible first | exact HB.out | apply zac | apply zaa | apply zaf | refine zab ?_ GE216.out | refine zab ?_ GE217.out) | exact HB.out)))); rintro e w12 ⟨v219, rfl, ho0, hb⟩; refine ⟨_, rfl, ?_⟩; have n0_ := Aside0.mk (Kd.zgp (Kd.zcQ (ok' := fun k_ => k_ ≠ gb216 ∧ k_ ≠ gb217) ho0 (fun k_ hk_ => ⟨Or.elim hk_ (fun hs_ => Or.elim hs_ (fun hs_ => fun e_ => Nat.not_le.2 hs_ (by rw [e_]; exact GW216.out)) (fun hs_ => fun e_ => Nat.not_le.2 hs_ (by rw [e_]; exact GW216.out))) (fun hn_ => (Kd.zf6 (g := gb216) (o := .cells #[.slice A0_0 l0_0.length c0_0, .slice A0_1 l0_1.length c0_1, .bool a0_2] 62 (0, 0)) (by (with_reducible repeat (first | apply zae | apply zai | apply zad)); exact BK216.out) k_ hn_)), Or.elim hk_ (fun hs_ => Or.elim hs_ (fun hs_ => fun e_ => Nat.not_le.2 hs_ (by rw [e_]; exact GW217.out)) (fun hs_ => fun e_ => Nat.not_le.2 hs_ (by rw [e_]; exact GW217.out))) (fun hn_ => (Kd.zf6 (g := gb217) (o := .cells #[.int .i64 0, .int .i64 0] 24 (0, 0)) (by (with_reducible repeat (first | apply zae | apply zai | apply zad)); exact BK217.out) k_ hn_))⟩)) (zao (by repeat (first | (with_reducible first | exact HB.out | apply zac | apply zaa | apply zaf | refine zab ?_ GE216.out | refine zab ?_ GE217.out) | exact HB.out)))); have n1_ := Aside0.mk (zaj (g := gb216) (o := .cells #[.slice A0_0 l0_0.length c0_0, .slice A0_1 l0_1.length c0_1, .bool a0_2] 62 (0, 0)) (by (with_reducible repeat (first | apply zae | apply zai | apply zad)); exact BK216.out) hb); have n2_ := Aside0.mk (zaj (g := gb217) (o := .cells #[.int .i64 0, .int .i64 0] 24 (0, 0)) (by (with_reducible repeat (first | apply zae | apply zai | apply zad)); exact BK217.out) hb); have n3_ := Aside0.mk (zam (by repeat (first | (with_reducible first | exact HB.out | apply zac | apply zaa | apply zaf | refine zab ?_ GE216.out | refine zab ?_ GE217.out) | exact HB.out)) hb); clear BK216; clear BK217; clear HB; have HO220 := n0_; have BK216 := n1_; have BK217 := n2_; have HB := n3_; clear n0_ n1_ n2_ n3_; (try clear hb); (try clear hb2); (try clear hk); (try clear hi); (try clear ho0); have hcz13_0 : w12.cell? ⟨gb216, 0, none⟩ = some (.slice A0_0 l0_0.length c0_0) := (zak BK216.out 0).trans rfl; have hcz13_1 : w12.cell? ⟨gb216, 1, none⟩ = some (.slice A0_1 l0_1.length c0_1) := (zak BK216.out 1).trans rfl; have hcz13_2 : w12.cell? ⟨gb216, 2, none⟩ = some (.bool a0_2) := (zak BK216.out 2).trans rfl; have hfz13_0 := zah BK216.out 0; have hfz13_1 := zah BK216.out 1; have hfz13_2 := zah BK216.out 2; obtain ⟨Ao14, co14, eo14⟩ := Kd.zdD HO220.out; subst eo14) | ((with_reducible refine zat (f := 67) rfl ?_); refine za9 (some 22) rfl rfl Tryd.func67 (by kernel_rfl) rfl #[.slice A0_0 l0_0.length c0_0, .slice Ao14 t218.length co14] rfl (by (try simp only [List.map_toArray, List.map_cons, List.map_nil]); first | done | rfl | (simp only [List.length_drop, List.length_take]; rfl)) ?_; (with_reducible refine (zav.calls k _ _ l0_0 _ _ t218 t221 t222 _ ?side1 ?side2 ?side3 ?side4 A3.out).mono ?_); (case side1 => repeat (first | exact (Kd.zbd HR0_0.out HB.out) | (with_reducible refine Kd.zbe ?_ _) | (with_reducible refine Kd.zbc ?_ _) | (with_reducible refine Kd.zbt ?_))); (case side2 => exact HC0_0.out); (case side3 => repeat (first | exact (Kd.zct HO220.out).2.2 | (with_reducible refine Kd.zbe ?_ _) | (with_reducible refine Kd.zbc ?_ _) | (with_reducible refine Kd.zbt ?_))); (case side4 => exact (Kd.zct HO220.out).2.1); rintro e w15 ⟨v223, v225, rfl, ho0, ho1, hb⟩; refine ⟨_, rfl, ?_⟩; have n0_ := Aside0.mk (Kd.zcQ (Kd.zdb (Kd.zdb (Kd.zgN (by (with_reducible repeat (first | apply Kd.zcK | apply Kd.zcJ | apply Kd.zdc)); exact HO220.out) hb) (Kd.zbJ ho0)) (Kd.zbJ ho1)) (fun _ h_ => h_.1)); have n1_ := Aside0.mk (Kd.zbF ho0 (zao (by repeat (first | (with_reducible first | exact HB.out | apply zac | apply zaa | apply zaf | refine zab ?_ GE216.out | refine zab ?_ GE217.out) | exact HB.out)))); have n2_ := Aside0.mk (Kd.zbF ho1 (zao (by repeat (first | (with_reducible first | exact HB.out | apply zac | apply zaa | apply zaf | refine zab ?_ GE216.out | refine zab ?_ GE217.out) | exact HB.out)))); have n3_ := Aside0.mk (zaj (g := gb216) (o := .cells #[.slice A0_0 l0_0.length c0_0, .slice A0_1 l0_1.length c0_1, .bool a0_2] 62 (0, 0)) (by (with_reducible repeat (first | apply zae | apply zai | apply zad)); exact BK216.out) hb); have n4_ := Aside0.mk (zaj (g := gb217) (o := .cells #[.int .i64 0, .int .i64 0] 24 (0, 0)) (by (with_reducible repeat (first | apply zae | apply zai | apply zad)); exact BK217.out) hb); have n5_ := Aside0.mk (zam (by repeat (first | (with_reducible first | exact HB.out | apply zac | apply zaa | apply zaf | refine zab ?_ GE216.out | refine zab ?_ GE217.out) | exact HB.out)) hb); clear HO220; clear BK216; clear BK217; clear HB; have HO220 := n0_; have HO224 := n1_; have HO226 := n2_; have BK216 := n3_; have BK217 := n4_; have HB := n5_; clear n0_ n1_ n2_ n3_ n4_ n5_; (try clear hb); (try clear hb2); (try clear hk); (try clear hi); (try clear ho0); (try clear ho1); have hcz16_0 : w15.cell? ⟨gb216, 0, none⟩ = some (.slice A0_0 l0_0.length c0_0) := (zak BK216.out 0).trans rfl; have hcz16_1 : w15.cell? ⟨gb216, 1, none⟩ = some (.slice A0_1 l0_1.length c0_1) := (zak BK216.out 1).trans rfl; have hcz16_2 : w15.cell? ⟨gb216, 2, none⟩ = some (.bool a0_2) := (zak BK216.out 2).trans rfl; have hfz16_0 := zah BK216.out 0; have hfz16_1 := zah BK216.out 1; have hfz16_2 := zah BK216.out 2) | ((with_reducible refine zat (f := 67) rfl ?_); refine za9 (some 29) rfl rfl Tryd.func67 (by kernel_rfl) rfl #[.slice A0_1 l0_1.length c0_1, .slice Ao14 t218.length co14] rfl (by (try simp only [List.map_toArray, List.map_cons, List.map_nil]); first | done | rfl | (simp only [List.length_drop, List.length_take]; rfl)) ?_; (with_reducible refine (zav.calls k _ _ l0_1 _ _ t218 t227 t228 _ ?side1 ?side2 ?side3 ?side4 A4.out).mono ?_); (case side1 => repeat (first | exact (Kd.zbd HR0_1.out HB.out) | (with_reducible refine Kd.zbe ?_ _) | (with_reducible refine Kd.zbc ?_ _) | (with_reducible refine Kd.zbt ?_))); (case side2 => exact HC0_1.out); (case side3 => repeat (first | exact (Kd.zct HO220.out).2.2 | (with_reducible refine Kd.zbe ?_ _) | (with_reducible refine Kd.zbc ?_ _) | (with_reducible refine Kd.zbt ?_))); (case side4 => exact (Kd.zct HO220.out).2.1); rintro e w17 ⟨v229, v231, rfl, ho0, ho1, hb⟩; refine ⟨_, rfl, ?_⟩; have n0_ := Aside0.mk (Kd.zcQ (Kd.zdb (Kd.zdb (Kd.zgN (by (with_reducible repeat (first | apply Kd.zcK | apply Kd.zcJ | apply Kd.zdc)); exact HO220.out) hb) (Kd.zbJ ho0)) (Kd.zbJ ho1)) (fun _ h_ => h_.1)); have n1_ := Aside0.mk (Kd.zbj (Kd.zfh (Kd.zfh (Kd.R_old (by (with_reducible repeat (first | apply Kd.zaw | apply Kd.zax | apply Kd.zaE)); exact HO224.out) hb) (Kd.zbJ ho0)) (Kd.zbJ ho1)) (fun _ h_ => h_.1)); have n2_ := Aside0.mk (Kd.zbj (Kd.zfh (Kd.zfh (Kd.R_old (by (with_reducible repeat (first | apply Kd.zaw | apply Kd.zax | apply Kd.zaE)); exact HO226.out) hb) (Kd.zbJ ho0)) (Kd.zbJ ho1)) (fun _ h_ => h_.1)); have n3_ := Aside0.mk (Kd.zbF (Kd.zbU (Kd.zbU ho0 (Kd.R_lt (by (with_reducible repeat (first | apply Kd.zaw | apply Kd.zax | apply Kd.zaE)); exact HO224.out))) (Kd.R_lt (by (with_reducible repeat (first | apply Kd.zaw | apply Kd.zax | apply Kd.zaE)); exact HO226.out))) (zao (by repeat (first | (with_reducible first | exact HB.out | apply zac | apply zaa | apply zaf | refine zab ?_ GE216.out | refine zab ?_ GE217.out) | exact HB.out)))); have n4_ := Aside0.mk (Kd.zbF (Kd.zbU (Kd.zbU ho1 (Kd.R_lt (by (with_reducible repeat (first | apply Kd.zaw | apply Kd.zax | apply Kd.zaE)); exact HO224.out))) (Kd.R_lt (by (with_reducible repeat (first | apply Kd.zaw | apply Kd.zax | apply Kd.zaE)); exact HO226.out))) (zao (by repeat (first | (with_reducible first | exact HB.out | apply zac | apply zaa | apply zaf | refine zab ?_ GE216.out | refine zab ?_ GE217.out) | exact HB.out)))); have n5_ := Aside0.mk (zaj (g := gb216) (o := .cells #[.slice A0_0 l0_0.length c0_0, .slice A0_1 l0_1.length c0_1, .bool a0_2] 62 (0, 0)) (by (with_reducible repeat (first | apply zae | apply zai | apply zad)); exact BK216.out) hb); have n6_ := Aside0.mk (zaj (g := gb217) (o := .cells #[.int .i64 0, .int .i64 0] 24 (0, 0)) (by (with_reducible repeat (first | apply zae | apply zai | apply zad)); exact BK217.out) hb); have n7_ := Aside0.mk (zam (by repeat (first | (with_reducible first | exact HB.out | apply zac | apply zaa | apply zaf | refine zab ?_ GE216.out | refine zab ?_ GE217.out) | exact HB.out)) hb); clear HO220; clear HO224; clear HO226; clear BK216; clear BK217; clear HB; have HO220 := n0_; have HO224 := n1_; have HO226 := n2_; have HO230 := n3_; have HO232 := n4_; have BK216 := n5_; have BK217 := n6_; have HB := n7_; clear n0_ n1_ n2_ n3_ n4_ n5_ n6_ n7_; (try clear hb); (try clear hb2); (try clear hk); (try clear hi); (try clear ho0); (try clear ho1); obtain ⟨Ao18, co18, eo18⟩ := Kd.zbx HO224.out; subst eo18) | ((with_reducible refine zat (f := 68) rfl ?_); refine za9 (some 34) rfl rfl Tryd.func68 (by kernel_rfl) rfl #[.slice Ao18 t221.length co18] rfl (by (try simp only [List.map_toArray, List.map_cons, List.map_nil]); first | done | rfl | (simp only [List.length_drop, List.length_take]; rfl)) ?_; (with_reducible refine (zaD.calls k _ _ t221 t233 t234 _ ?side1 ?side2 A5.out).mono ?_); (case side1 => repeat (first | exact (Kd.zbk HO224.out).2.2 | (with_reducible refine Kd.zbe ?_ _) | (with_reducible refine Kd.zbc ?_ _) | (with_reducible refine Kd.zbt ?_))); (case side2 => exact (Kd.zbk HO224.out).2.1); rintro e w' ⟨rfl, ⟨nd, rfl⟩⟩; refine ⟨_, rfl, ?_⟩; obtain ⟨Ao19, co19, eo19⟩ := Kd.zbx HO230.out; subst eo19) | ((with_reducible refine zat (f := 68) rfl ?_); refine za9 (some 39) rfl rfl Tryd.func68 (by kernel_rfl) rfl #[.slice Ao19 t227.length co19] rfl (by (try simp only [List.map_toArray, List.map_cons, List.map_nil]); first | done | rfl | (simp only [List.length_drop, List.length_take]; rfl)) ?_; (with_reducible refine (zaD.calls k _ _ t227 t235 t236 _ ?side1 ?side2 A6.out).mono ?_); (case side1 => repeat (first | exact (Kd.zbk HO230.out).2.2 | (with_reducible refine Kd.zbe ?_ _) | (with_reducible refine Kd.zbc ?_ _) | (with_reducible refine Kd.zbt ?_))); (case side2 => exact (Kd.zbk HO230.out).2.1); rintro e w' ⟨rfl, ⟨nd, rfl⟩⟩; refine ⟨_, rfl, ?_⟩))
 (try simp only [Act.put, List.setIfInBounds_toArray, List.set_cons_zero, List.set_cons_succ])
 go_cut [47] (fun v47 wc => ∃ (kq : Nat) (x47_6 : Bool), v47 = .bool x47_6 ∧ Aside0 (zaS.j0 kq t233 t235 x47_6 l0_0 l0_1 a0_2 = some (r1, r2, r3)) ∧ Aside0 (kq ≤ k) ∧ Aside0 (wc.heap[gb216]? = some (.cells #[(.slice A0_0 l0_0.length c0_0), (.slice A0_1 l0_1.length c0_1), .bool a0_2] 62 (0, 0))) ∧ Aside0 (wc.heap[gb217]? = some (.cells #[.int .i64 0, .int .i64 0] 24 (0, 0))) ∧ Aside0 (Below w.heap.size w wc))
 case first =>
  have H := HC7.out
  clear HC7
  by_cases c20 : t234 = true
  ·subst c20
   have H1 : (zaS.j0 k t233 t235 (!t236) l0_0 l0_1 a0_2) = some (r1, r2, r3) := by rw [if_pos rfl] at H; exact H
   clear H
   have H := H1
   clear H1
   have H' := Aside0.mk H
   clear H
   go_wp2
   go_meet
   case rel => exact ⟨_, (!t236), (by first | rfl | (simp; done) | (simp [*]; done)), H', ⟨by first | omega | exact Nat.le_refl _⟩, ⟨by (with_reducible repeat (first | apply zae | apply zai | apply zad)); exact BK216.out⟩, ⟨by (with_reducible repeat (first | apply zae | apply zai | apply zad)); exact BK217.out⟩, ⟨by repeat (first | (with_reducible first | exact HB.out | apply zac | apply zaa | apply zaf | refine zab ?_ GE216.out | refine zab ?_ GE217.out) | exact HB.out)⟩⟩
  ·replace c20 := Bool.eq_false_iff.mpr c20
   subst c20
   have H1 : (zaS.j0 k t233 t235 true l0_0 l0_1 a0_2) = some (r1, r2, r3) := by rw [if_neg (show ¬ (false = true) by decide)] at H; exact H
   clear H
   have H := H1
   clear H1
   have H' := Aside0.mk H
   clear H
   go_wp2
   go_meet
   case rel => exact ⟨_, (true), (by first | rfl | (simp; done) | (simp [*]; done)), H', ⟨by first | omega | exact Nat.le_refl _⟩, ⟨by (with_reducible repeat (first | apply zae | apply zai | apply zad)); exact BK216.out⟩, ⟨by (with_reducible repeat (first | apply zae | apply zai | apply zad)); exact BK217.out⟩, ⟨by repeat (first | (with_reducible first | exact HB.out | apply zac | apply zaa | apply zaf | refine zab ?_ GE216.out | refine zab ?_ GE217.out) | exact HB.out)⟩⟩
 case rest =>
  clear HC7
  (try clear c1); (try clear c2); (try clear p2); (try clear c4); (try clear c5); (try clear c6); (try clear c10); (try clear c20); (try clear hcz11_0); (try clear hcz11_1); (try clear hcz11_2); (try clear hcz13_0); (try clear hcz13_1); (try clear hcz13_2); (try clear hcz16_0); (try clear hcz16_1); (try clear hcz16_2); (try clear hfz11_0); (try clear hfz11_1); (try clear hfz11_2); (try clear hfz13_0); (try clear hfz13_1); (try clear hfz13_2); (try clear hfz16_0); (try clear hfz16_1); (try clear hfz16_2)
  obtain ⟨kq, x47_6, rfl, HA, HJ6, BK216, BK217, HB⟩ := hcut
  cases kq with
  | zero => exact absurd HA.out (by simp [zaS.j0])
  | succ kj6 =>
   have H := HA.out
   clear HA
   simp only [zaS.j0] at H
   by_cases c21 : x47_6 = true
   ·subst c21
    have H1 : (some (0, 0, 3)) = some (r1, r2, r3) := by rw [if_pos rfl] at H; exact H
    clear H
    have H := H1
    clear H1
    simp only [Option.some.injEq, Prod.mk.injEq] at H
    obtain ⟨rfl, rfl, rfl⟩ := H
    have hnb22 := NB217_216.out
    have hnc22 := NB216_217.out
    have hcz23_0 : wc.cell? ⟨gb217, 0, none⟩ = some (.int .i64 0) := (zak BK217.out 0).trans rfl
    have hcz23_1 : wc.cell? ⟨gb217, 1, none⟩ = some (.int .i64 0) := (zak BK217.out 1).trans rfl
    have hfz23_0 := zah BK217.out 0
    have hfz23_1 := zah BK217.out 1
    go_wp2
    refine bodyPost_ret (za7 rfl _ _ gb217 24 #[.int .i64 0, .int .i64 0] (0, 0) _ rfl (by (with_reducible repeat (first | apply zae | apply zai | apply zad)); refine zay (cs := #[.int .i64 0, .int .i64 0]) ?_ 1 _ rfl; (with_reducible repeat (first | apply zae | apply zai | apply zad)); refine zay (cs := #[.int .i64 0, .int .i64 0]) ?_ 0 _ rfl; (with_reducible repeat (first | apply zae | apply zai | apply zad)); exact BK217.out) Tryd.underlying24 rfl (by kernel_rfl)) rfl ?_
    exact ⟨by first | rfl | (simp [zas, zar] <;> rfl) | (simp [*, zas, zar] <;> rfl), by repeat (first | (with_reducible first | exact HB.out | apply zac | apply zaa | apply zaf | refine zab ?_ GE216.out | refine zab ?_ GE217.out) | exact HB.out)⟩
   ·replace c21 := Bool.eq_false_iff.mpr c21
    subst c21
    have H1 : (if a0_2 = true then (some (wrap64 (-t233), t235, 0)) else (some (t233, t235, 0))) = some (r1, r2, r3) := by rw [if_neg (show ¬ (false = true) by decide)] at H; exact H
    clear H
    have H := H1
    clear H1
    by_cases c24 : a0_2 = true
    ·subst c24
     have H1 : (some (wrap64 (-t233), t235, 0)) = some (r1, r2, r3) := by rw [if_pos rfl] at H; exact H
     clear H
     have H := H1
     clear H1
     simp only [Option.some.injEq, Prod.mk.injEq] at H
     obtain ⟨rfl, rfl, rfl⟩ := H
     have hnb25 := NB216_217.out
     have hnc25 := NB217_216.out
     have hcz26_0 : wc.cell? ⟨gb216, 0, none⟩ = some (.slice A0_0 l0_0.length c0_0) := (zak BK216.out 0).trans rfl
     have hcz26_1 : wc.cell? ⟨gb216, 1, none⟩ = some (.slice A0_1 l0_1.length c0_1) := (zak BK216.out 1).trans rfl
     have hcz26_2 : wc.cell? ⟨gb216, 2, none⟩ = some (.bool true) := (zak BK216.out 2).trans rfl
     have hfz26_0 := zah BK216.out 0
     have hfz26_1 := zah BK216.out 1
     have hfz26_2 := zah BK216.out 2
     have hcz27_0 : wc.cell? ⟨gb217, 0, none⟩ = some (.int .i64 0) := (zak BK217.out 0).trans rfl
     have hcz27_1 : wc.cell? ⟨gb217, 1, none⟩ = some (.int .i64 0) := (zak BK217.out 1).trans rfl
     have hfz27_0 := zah BK217.out 0
     have hfz27_1 := zah BK217.out 1
     go_wp2
     refine bodyPost_ret (za7 rfl _ _ gb217 24 #[.int .i64 (wrap64 (-t233)), .int .i64 t235] (0, 0) _ rfl (by (with_reducible repeat (first | apply zae | apply zai | apply zad)); refine zay (cs := #[.int .i64 (wrap64 (-t233)), .int .i64 0]) ?_ 1 _ rfl; (with_reducible repeat (first | apply zae | apply zai | apply zad)); refine zay (cs := #[.int .i64 0, .int .i64 0]) ?_ 0 _ rfl; (with_reducible repeat (first | apply zae | apply zai | apply zad)); exact BK217.out) Tryd.underlying24 rfl (by kernel_rfl)) rfl ?_
     exact ⟨by first | rfl | (simp [zas, zar] <;> rfl) | (simp [*, zas, zar] <;> rfl), by repeat (first | (with_reducible first | exact HB.out | apply zac | apply zaa | apply zaf | refine zab ?_ GE216.out | refine zab ?_ GE217.out) | exact HB.out)⟩
    ·replace c24 := Bool.eq_false_iff.mpr c24
     subst c24
     have H1 : (some (t233, t235, 0)) = some (r1, r2, r3) := by rw [if_neg (show ¬ (false = true) by decide)] at H; exact H
     clear H
     have H := H1
     clear H1
     simp only [Option.some.injEq, Prod.mk.injEq] at H
     obtain ⟨rfl, rfl, rfl⟩ := H
     have hnb28 := NB216_217.out
     have hnc28 := NB217_216.out
     have hcz29_0 : wc.cell? ⟨gb216, 0, none⟩ = some (.slice A0_0 l0_0.length c0_0) := (zak BK216.out 0).trans rfl
     have hcz29_1 : wc.cell? ⟨gb216, 1, none⟩ = some (.slice A0_1 l0_1.length c0_1) := (zak BK216.out 1).trans rfl
     have hcz29_2 : wc.cell? ⟨gb216, 2, none⟩ = some (.bool false) := (zak BK216.out 2).trans rfl
     have hfz29_0 := zah BK216.out 0
     have hfz29_1 := zah BK216.out 1
     have hfz29_2 := zah BK216.out 2
     have hcz30_0 : wc.cell? ⟨gb217, 0, none⟩ = some (.int .i64 0) := (zak BK217.out 0).trans rfl
     have hcz30_1 : wc.cell? ⟨gb217, 1, none⟩ = some (.int .i64 0) := (zak BK217.out 1).trans rfl
     have hfz30_0 := zah BK217.out 0
     have hfz30_1 := zah BK217.out 1
     go_wp2
     refine bodyPost_ret (za7 rfl _ _ gb217 24 #[.int .i64 t233, .int .i64 t235] (0, 0) _ rfl (by (with_reducible repeat (first | apply zae | apply zai | apply zad)); refine zay (cs := #[.int .i64 t233, .int .i64 0]) ?_ 1 _ rfl; (with_reducible repeat (first | apply zae | apply zai | apply zad)); refine zay (cs := #[.int .i64 0, .int .i64 0]) ?_ 0 _ rfl; (with_reducible repeat (first | apply zae | apply zai | apply zad)); exact BK217.out) Tryd.underlying24 rfl (by kernel_rfl)) rfl ?_
     exact ⟨by first | rfl | (simp [zas, zar] <;> rfl) | (simp [*, zas, zar] <;> rfl), by repeat (first | (with_reducible first | exact HB.out | apply zac | apply zaa | apply zaf | refine zab ?_ GE216.out | refine zab ?_ GE217.out) | exact HB.out)⟩
end Go.Proofs.YtijhnmbegceonaaDoor.PRef
namespace Go.Proofs.YtijhnmbegceonaaDoor.PRef
open Go.RowKit Go.Proofs.YtijhnmbegceonaaDoorW.PrintWords Go.Proofs.YtijhnmbegceonaaDoorW.PrintLast Go.Proofs.YtijhnmbegceonaaDoorW.PrintMore
attribute [local go_sem] zbr zbp zbz zby zbh zbg zbq zbo
set_option linter.unusedVariables false
set_option linter.unusedSimpArgs false
def zaQ.l0 : Nat → List Bool → List Bool → List Bool → Int → Option (List Bool)
 | 0, _, _, _, _ => none
 | k + 1, x0, x1, x5, x6 => if x6 ≥ 0 then ((some (([false] : List Bool) : List Bool)).bind fun y237 => (if y237.length + x5.length < 140737488355328 then ((zaF.f k (y237 ++ x5)).bind fun t243 => (if 0 ≤ x6 then (if x6 < (x1.length : Int) then (if rdOf false x1 x6 = true then ((zaq.f k t243 x0).bind fun t247 => (zaQ.l0 k x0 x1 t247 (wrap64 (x6 - 1)))) else (zaQ.l0 k x0 x1 t243 (wrap64 (x6 - 1)))) else (none)) else (none))) else (none))) else (some x5)
def zaQ.f (k : Nat) (l0 : List Bool) (l1 : List Bool) : Option (List Bool) := zaQ.l0 k l0 l1 ([] : List Bool) (wrap64 ((l1.length : Int) - 1))
set_option maxHeartbeats 8000000 in
set_option maxRecDepth 100000 in
theorem zaQ.calls (k : Nat) (A0 : Option Addr) (c0 : Nat) (l0 : List Bool) (A1 : Option Addr) (c1 : Nat) (l1 : List Bool) (r : List Bool) (w : World) (hr0 : Kd.C Kd.bool w A0 l0.length l0) (hc0 : l0.length ≤ c0) (hr1 : Kd.C Kd.bool w A1 l1.length l1) (hc1 : l1.length ≤ c1) (h : zaQ.f k l0 l1 = some r) :
  Calls Tryd.prog 49 #[.slice A0 l0.length c0, .slice A1 l1.length c1] w fun e w' => ∃ v0_ : Value, e = .returned (v0_) ∧ Kd.R Kd.bool 4 w' w.heap.size (fun _ => True) v0_ r ∧ Below w.heap.size w w' := by
 have HR0 := Aside0.mk hr0
 have HC0 := Aside0.mk hc0
 clear hr0 hc0
 have HR1 := Aside0.mk hr1
 have HC1 := Aside0.mk hc1
 clear hr1 hc1
 have HB := Aside0.mk (Below.refl w.heap.size w)
 have H : (zaQ.l0 k l0 l1 ([] : List Bool) (wrap64 ((l1.length : Int) - 1))) = some r := h
 clear h
 have H' := Aside0.mk H
 clear H
 go_enter Tryd.func49, Tryd.ntmps49
 go_wp2
 go_loopg [5, 6] k (fun kq v5 v6 w' => ∃ (x5_1 : List Bool) (x6_1 : Int), v6 = .int .i64 x6_1 ∧ Aside0 (zaQ.l0 kq l0 l1 x5_1 x6_1 = some r) ∧ Aside0 (kq ≤ k) ∧ Aside0 (Kd.R Kd.bool 4 w' w.heap.size (fun _ => True) v5 x5_1) ∧ Aside0 (Below w.heap.size w w'))
 case atStart => exact ⟨(([] : List Bool)), (wrap64 ((l1.length : Int) - 1)), (by first | rfl | (simp; done) | (simp [*]; done)), H', ⟨Nat.le_refl _⟩, ⟨by first | exact Kd.zcL _ _ _ _ _ | exact Kd.zej _ _ _ _ _ | exact Kd.zef _ _ _ _ _ | exact Kd.zei _ _ _ _ _ | exact Kd.zeg _ _ _ _ _⟩, ⟨by repeat (first | (with_reducible first | exact HB.out | apply zac | apply zaa | apply zaf) | exact HB.out)⟩⟩
 case round =>
  clear H'
  (try clear c1); (try clear p2)
  obtain ⟨x5_1, x6_1, rfl, HA, HK1, HO_5, HB⟩ := hrel
  cases gk with
  | zero => exact absurd HA.out (by simp [zaQ.l0])
  | succ k1 =>
   have H := HA.out
   clear HA
   simp only [zaQ.l0] at H
   by_cases c3 : x6_1 ≥ 0
   ·rw [if_pos c3] at H
    have c3b0 : decide (0 ≤ x6_1) = true := decide_eq_true c3
    clear c3
    obtain ⟨y237, hy237⟩ : ∃ y_ : List Bool, y_ = (([false] : List Bool)) := ⟨_, rfl⟩
    replace H : (if y237.length + x5_1.length < 140737488355328 then ((zaF.f k1 (y237 ++ x5_1)).bind fun t243 => (if 0 ≤ x6_1 then (if x6_1 < (l1.length : Int) then (if rdOf false l1 x6_1 = true then ((zaq.f k1 t243 l0).bind fun t247 => (zaQ.l0 k1 l0 l1 t247 (wrap64 (x6_1 - 1)))) else (zaQ.l0 k1 l0 l1 t243 (wrap64 (x6_1 - 1)))) else (none)) else (none))) else (none)) = some r := by first | (rw [hy237]; with_reducible exact H) | (have H2_ := (Option.bind_some _ _).symm.trans H; rw [hy237]; with_reducible exact H2_) | (have H2_ := (Option.bind_some _ _).symm.trans H; with_reducible exact H2_) | with_reducible exact H | (rw [hy237]; exact H) | exact H
    have Ny237 := Aside0.mk hy237
    clear hy237
    by_cases c4 : y237.length + x5_1.length < 140737488355328
    ·rw [if_pos c4] at H
     have LMc4 := Aside0.mk c4
     clear c4
     obtain ⟨y240, hy240⟩ : ∃ y_ : List Bool, y_ = (y237 ++ x5_1) := ⟨_, rfl⟩
     replace H : ((zaF.f k1 y240).bind fun t243 => (if 0 ≤ x6_1 then (if x6_1 < (l1.length : Int) then (if rdOf false l1 x6_1 = true then ((zaq.f k1 t243 l0).bind fun t247 => (zaQ.l0 k1 l0 l1 t247 (wrap64 (x6_1 - 1)))) else (zaQ.l0 k1 l0 l1 t243 (wrap64 (x6_1 - 1)))) else (none)) else (none))) = some r := by first | (rw [hy240]; with_reducible exact H) | (have H2_ := (Option.bind_some _ _).symm.trans H; rw [hy240]; with_reducible exact H2_) | (have H2_ := (Option.bind_some _ _).symm.trans H; with_reducible exact H2_) | with_reducible exact H | (rw [hy240]; exact H) | exact H
     have Ny240 := Aside0.mk hy240
     clear hy240
     replace H := Option.bind_eq_some_iff.mp H
     obtain ⟨t243, A50, H⟩ := H
     replace H : (if 0 ≤ x6_1 then (if x6_1 < (l1.length : Int) then (if rdOf false l1 x6_1 = true then ((zaq.f k1 t243 l0).bind fun t247 => (zaQ.l0 k1 l0 l1 t247 (wrap64 (x6_1 - 1)))) else (zaQ.l0 k1 l0 l1 t243 (wrap64 (x6_1 - 1)))) else (none)) else (none)) = some r := H
     have A5 := Aside0.mk A50
     clear A50
     by_cases c6 : 0 ≤ x6_1
     ·rw [if_pos c6] at H
      have c6b0 : decide (0 ≤ x6_1) = true := decide_eq_true c6
      clear c6
      by_cases c7 : x6_1 < (l1.length : Int)
      ·rw [if_pos c7] at H
       have c7b0 : decide (x6_1 < (l1.length : Int)) = true := decide_eq_true c7
       clear c7
       obtain ⟨bq8, hbq8⟩ : ∃ b_ : Bool, b_ = (rdOf false l1 x6_1) := ⟨_, rfl⟩
       replace H : (if bq8 = true then ((zaq.f k1 t243 l0).bind fun t247 => (zaQ.l0 k1 l0 l1 t247 (wrap64 (x6_1 - 1)))) else (zaQ.l0 k1 l0 l1 t243 (wrap64 (x6_1 - 1)))) = some r := by rw [← hbq8] at H; exact H
       have Nbq8 := Aside0.mk hbq8
       clear hbq8
       by_cases c9 : bq8 = true
       ·subst c9
        have H1 : ((zaq.f k1 t243 l0).bind fun t247 => (zaQ.l0 k1 l0 l1 t247 (wrap64 (x6_1 - 1)))) = some r := by rw [if_pos rfl] at H; exact H
        clear H
        have H := H1
        clear H1
        replace H := Option.bind_eq_some_iff.mp H
        obtain ⟨t247, A100, H⟩ := H
        replace H : (zaQ.l0 k1 l0 l1 t247 (wrap64 (x6_1 - 1))) = some r := H
        have A10 := Aside0.mk A100
        clear A100
        have H' := Aside0.mk H
        clear H
        go_wp2_with (first | ((with_reducible refine zaK (N := 14) rfl ?_); refine Kd.zeh Kd.bool _ 4 ?hg (N := 14) ?hd (xs := ([false] : List Bool)) (inner := [.bool false]) (ok := fun _ => True) (okp := fun _ => True) ?hr ?hp (fun _ hk => hk) trivial (Below.refl _ _) (Nat.le_refl _) (by simp) ?_; (case hd => rfl); (case hg => rfl); (case hr => first | (go_simp; done) | (go_simp; rfl)); (case hp => exact (Reps.one (show Kd.M Kd.bool _ _ _ false [.bool false] from rfl) (Reps.none _ _))); intro v238 w11 ho12 hb hg_ hnew_; clear hg_ hnew_; (first | rw [← Ny237.out] at ho12 | (simp only [Int.reduceToNat] at ho12; rw [← Ny237.out] at ho12)); have n0_ := Aside0.mk (Kd.zbG (by (with_reducible repeat (first | apply Kd.zaw | apply Kd.zax | apply Kd.zaE)); exact HO_5.out) (Kd.zbJ ho12) hb); have n1_ := Aside0.mk (Kd.zbF (Kd.zbU ho12 (Kd.R_lt (by (with_reducible repeat (first | apply Kd.zaw | apply Kd.zax | apply Kd.zaE)); exact HO_5.out))) (zao (by repeat (first | (with_reducible first | exact HB.out | apply zac | apply zaa | apply zaf) | exact HB.out)))); have n2_ := Aside0.mk (zam (by repeat (first | (with_reducible first | exact HB.out | apply zac | apply zaa | apply zaf) | exact HB.out)) hb); clear HO_5; clear HB; have HO_5 := n0_; have HO239 := n1_; have HB := n2_; clear n0_ n1_ n2_; clear hb ho12; obtain ⟨Ao14, co14, eo14⟩ := Kd.zbx HO_5.out; subst eo14) | ((with_reducible refine zbs (b := .append) (xs := #[.tmp 14, .tmp 15]) rfl ?_); at_builtin; refine Kd.zbV Kd.bool (w0 := w) w.heap.size rfl (.tmp 14) (.tmp 15) 60 4 (.bool false) 1 rfl Tryd.underlying60 zcI rfl (by decide) (by omega) v238 y237 x5_1 _ _ _ (fun k_ => some k_ ≠ (.slice Ao14 x5_1.length co14 : Value).ownBlock) (fun _ => False) rfl rfl ?aO ?aR (fun _ _ h => h) (fun _ h => h.elim) ?aF ?aB ?aS ?aL ?_; (case aR => repeat (first | exact (Kd.zbk HO_5.out).2.2 | (with_reducible refine Kd.zbe ?_ _) | (with_reducible refine Kd.zbc ?_ _) | (with_reducible refine Kd.zbt ?_))); (case aB => exact (by repeat (first | (with_reducible first | exact HB.out | apply zac | apply zaa | apply zaf) | exact HB.out))); (case aF => exact (fun k_ hk => Kd.fresh' (Kd.R_lt (by (with_reducible repeat (first | apply Kd.zaw | apply Kd.zax | apply Kd.zaE)); exact HO_5.out)) k_ hk)); (case aO => exact (by (with_reducible repeat (first | apply Kd.zaw | apply Kd.zax | apply Kd.zaE)); exact Kd.zbj HO239.out (fun _ hk => hk.2))); (case aS => exact (zao (by repeat (first | (with_reducible first | exact HB.out | apply zac | apply zaa | apply zaf) | exact HB.out)))); (case aL => have := LMc4.out; omega); intro v241 w13 ho hb hg hat; rw [← Ny240.out] at ho; have n0_ := Aside0.mk (Kd.zch (ok := (fun _ => True)) (by (with_reducible repeat (first | apply Kd.zaw | apply Kd.zax | apply Kd.zaE)); exact HO_5.out) hg hat); have n1_ := Aside0.mk (hb); have n2_ := Aside0.mk (ho); clear HO_5; clear HB; clear HO239; have HO_5 := n0_; have HB := n1_; have HO242 := n2_; clear n0_ n1_ n2_; clear ho hb hg hat; obtain ⟨Ao15, co15, eo15⟩ := Kd.zbx HO242.out; subst eo15) | ((with_reducible refine zat (f := 72) rfl ?_); refine za9 (some 18) rfl rfl Tryd.func72 (by kernel_rfl) rfl #[.slice Ao15 y240.length co15] rfl (by (try simp only [List.map_toArray, List.map_cons, List.map_nil]); first | done | rfl | (simp only [List.length_drop, List.length_take]; rfl)) ?_; (with_reducible refine (zaF.calls k1 (fun k_ => some k_ = (.slice Ao15 y240.length co15 : Value).ownBlock) (.slice Ao15 y240.length co15) y240 t243 w _ ?side1 ?side2 A5.out).mono ?_); (case side1 => repeat (first | (with_reducible first | exact HB.out | apply zac | apply zaa | apply zaf) | exact HB.out)); (case side2 => exact Kd.zcB rfl HO242.out); rintro e w16 ⟨v244, rfl, ho0, hb, hkp⟩; refine ⟨_, rfl, ?_⟩; have n0_ := Aside0.mk (Kd.zbj (ok' := fun k_ => some k_ ≠ (v244 : Value).ownBlock) (Kd.zcR (HO_5.out) hkp (fun k_ hk_ hs_ => (hk_.2) hs_)) (fun k_ hk_ => fun e_ => Or.elim (ho0.1 k_ e_.symm) (fun hs_ => hk_.2.1 hs_) (fun hn_ => Nat.not_le.2 hk_.2.2 hn_))); have n1_ := Aside0.mk (Kd.zbj (ok' := fun k_ => some k_ ≠ (.slice Ao14 x5_1.length co14 : Value).ownBlock) ho0 (fun k_ hk_ => Or.elim hk_ (fun hs_ => fun e_ => (((HO_5.out).1 k_ e_.symm).2) hs_) (fun hn_ => (Kd.fresh' (Kd.R_lt (by (with_reducible repeat (first | apply Kd.zaw | apply Kd.zax | apply Kd.zaE)); exact HO_5.out)) k_ hn_)))); have n2_ := Aside0.mk (hb); clear HO_5; clear HB; clear HO242; have HO_5 := n0_; have HO245 := n1_; have HB := n2_; clear n0_ n1_ n2_; (try clear hb); (try clear hkp); (try clear ho0); have p246 : 0 ≤ (x6_1 : Int) := of_decide_eq_true (by first | (with_reducible assumption) | assumption); have q246 : x6_1 < (l1.length : Int) := of_decide_eq_true (by first | (with_reducible assumption) | assumption); obtain ⟨ad246, e246, hx246_0⟩ := Kd.zcg HR1.out x6_1 p246 q246; (try rw [← Nbq8.out] at hx246_0); cases e246; replace hx246_0 := (HB.out.cell (World.block_lt_of_cell? w _ hx246_0)).trans hx246_0; replace p246 := eq_true p246; replace q246 := eq_true q246; obtain ⟨Ao17, co17, eo17⟩ := Kd.zbx HO245.out; subst eo17) | ((with_reducible refine zat (f := 69) rfl ?_); refine za9 (some 25) rfl rfl Tryd.func69 (by kernel_rfl) rfl #[.slice Ao17 t243.length co17, .slice A0 l0.length c0] rfl (by (try simp only [List.map_toArray, List.map_cons, List.map_nil]); first | done | rfl | (simp only [List.length_drop, List.length_take]; rfl)) ?_; (with_reducible refine (zaq.calls k1 _ _ t243 _ _ l0 t247 _ ?side1 ?side2 ?side3 ?side4 A10.out).mono ?_); (case side1 => repeat (first | exact (Kd.zbk HO245.out).2.2 | (with_reducible refine Kd.zbe ?_ _) | (with_reducible refine Kd.zbc ?_ _) | (with_reducible refine Kd.zbt ?_))); (case side2 => exact (Kd.zbk HO245.out).2.1); (case side3 => repeat (first | exact (Kd.zbd HR0.out HB.out) | (with_reducible refine Kd.zbe ?_ _) | (with_reducible refine Kd.zbc ?_ _) | (with_reducible refine Kd.zbt ?_))); (case side4 => exact HC0.out); rintro e w18 ⟨v248, rfl, ho0, hb⟩; refine ⟨_, rfl, ?_⟩; have n0_ := Aside0.mk (Kd.zbG (by (with_reducible repeat (first | apply Kd.zaw | apply Kd.zax | apply Kd.zaE)); exact HO_5.out) (Kd.zbJ ho0) hb); have n1_ := Aside0.mk (Kd.zbG (by (with_reducible repeat (first | apply Kd.zaw | apply Kd.zax | apply Kd.zaE)); exact HO245.out) (Kd.zbJ ho0) hb); have n2_ := Aside0.mk (Kd.zbF (Kd.zbU (Kd.zbU ho0 (Kd.R_lt (by (with_reducible repeat (first | apply Kd.zaw | apply Kd.zax | apply Kd.zaE)); exact HO_5.out))) (Kd.R_lt (by (with_reducible repeat (first | apply Kd.zaw | apply Kd.zax | apply Kd.zaE)); exact HO245.out))) (zao (by repeat (first | (with_reducible first | exact HB.out | apply zac | apply zaa | apply zaf) | exact HB.out)))); have n3_ := Aside0.mk (zam (by repeat (first | (with_reducible first | exact HB.out | apply zac | apply zaa | apply zaf) | exact HB.out)) hb); clear HO_5; clear HO245; clear HB; have HO_5 := n0_; have HO245 := n1_; have HO249 := n2_; have HB := n3_; clear n0_ n1_ n2_ n3_; (try clear hb); (try clear hb2); (try clear hk); (try clear hi); (try clear ho0)))
        go_roundg k1
        case measure => have := HK1.out; omega
        case rel => exact ⟨(t247), (wrap64 (x6_1 - 1)), (by first | rfl | (simp; done) | (simp [*]; done)), H', ⟨by have := HK1.out; omega⟩, ⟨by (with_reducible repeat (first | apply Kd.zaw | apply Kd.zax | apply Kd.zaE)); exact Kd.zbj HO249.out (fun _ hk => trivial)⟩, ⟨by repeat (first | (with_reducible first | exact HB.out | apply zac | apply zaa | apply zaf) | exact HB.out)⟩⟩
       ·replace c9 := Bool.eq_false_iff.mpr c9
        subst c9
        have H1 : (zaQ.l0 k1 l0 l1 t243 (wrap64 (x6_1 - 1))) = some r := by rw [if_neg (show ¬ (false = true) by decide)] at H; exact H
        clear H
        have H := H1
        clear H1
        have H' := Aside0.mk H
        clear H
        go_wp2_with (first | ((with_reducible refine zaK (N := 14) rfl ?_); refine Kd.zeh Kd.bool _ 4 ?hg (N := 14) ?hd (xs := ([false] : List Bool)) (inner := [.bool false]) (ok := fun _ => True) (okp := fun _ => True) ?hr ?hp (fun _ hk => hk) trivial (Below.refl _ _) (Nat.le_refl _) (by simp) ?_; (case hd => rfl); (case hg => rfl); (case hr => first | (go_simp; done) | (go_simp; rfl)); (case hp => exact (Reps.one (show Kd.M Kd.bool _ _ _ false [.bool false] from rfl) (Reps.none _ _))); intro v238 w19 ho20 hb hg_ hnew_; clear hg_ hnew_; (first | rw [← Ny237.out] at ho20 | (simp only [Int.reduceToNat] at ho20; rw [← Ny237.out] at ho20)); have n0_ := Aside0.mk (Kd.zbG (by (with_reducible repeat (first | apply Kd.zaw | apply Kd.zax | apply Kd.zaE)); exact HO_5.out) (Kd.zbJ ho20) hb); have n1_ := Aside0.mk (Kd.zbF (Kd.zbU ho20 (Kd.R_lt (by (with_reducible repeat (first | apply Kd.zaw | apply Kd.zax | apply Kd.zaE)); exact HO_5.out))) (zao (by repeat (first | (with_reducible first | exact HB.out | apply zac | apply zaa | apply zaf) | exact HB.out)))); have n2_ := Aside0.mk (zam (by repeat (first | (with_reducible first | exact HB.out | apply zac | apply zaa | apply zaf) | exact HB.out)) hb); clear HO_5; clear HB; have HO_5 := n0_; have HO239 := n1_; have HB := n2_; clear n0_ n1_ n2_; clear hb ho20; obtain ⟨Ao22, co22, eo22⟩ := Kd.zbx HO_5.out; subst eo22) | ((with_reducible refine zbs (b := .append) (xs := #[.tmp 14, .tmp 15]) rfl ?_); at_builtin; refine Kd.zbV Kd.bool (w0 := w) w.heap.size rfl (.tmp 14) (.tmp 15) 60 4 (.bool false) 1 rfl Tryd.underlying60 zcI rfl (by decide) (by omega) v238 y237 x5_1 _ _ _ (fun k_ => some k_ ≠ (.slice Ao22 x5_1.length co22 : Value).ownBlock) (fun _ => False) rfl rfl ?aO ?aR (fun _ _ h => h) (fun _ h => h.elim) ?aF ?aB ?aS ?aL ?_; (case aR => repeat (first | exact (Kd.zbk HO_5.out).2.2 | (with_reducible refine Kd.zbe ?_ _) | (with_reducible refine Kd.zbc ?_ _) | (with_reducible refine Kd.zbt ?_))); (case aB => exact (by repeat (first | (with_reducible first | exact HB.out | apply zac | apply zaa | apply zaf) | exact HB.out))); (case aF => exact (fun k_ hk => Kd.fresh' (Kd.R_lt (by (with_reducible repeat (first | apply Kd.zaw | apply Kd.zax | apply Kd.zaE)); exact HO_5.out)) k_ hk)); (case aO => exact (by (with_reducible repeat (first | apply Kd.zaw | apply Kd.zax | apply Kd.zaE)); exact Kd.zbj HO239.out (fun _ hk => hk.2))); (case aS => exact (zao (by repeat (first | (with_reducible first | exact HB.out | apply zac | apply zaa | apply zaf) | exact HB.out)))); (case aL => have := LMc4.out; omega); intro v241 w21 ho hb hg hat; rw [← Ny240.out] at ho; have n0_ := Aside0.mk (Kd.zch (ok := (fun _ => True)) (by (with_reducible repeat (first | apply Kd.zaw | apply Kd.zax | apply Kd.zaE)); exact HO_5.out) hg hat); have n1_ := Aside0.mk (hb); have n2_ := Aside0.mk (ho); clear HO_5; clear HB; clear HO239; have HO_5 := n0_; have HB := n1_; have HO242 := n2_; clear n0_ n1_ n2_; clear ho hb hg hat; obtain ⟨Ao23, co23, eo23⟩ := Kd.zbx HO242.out; subst eo23) | ((with_reducible refine zat (f := 72) rfl ?_); refine za9 (some 18) rfl rfl Tryd.func72 (by kernel_rfl) rfl #[.slice Ao23 y240.length co23] rfl (by (try simp only [List.map_toArray, List.map_cons, List.map_nil]); first | done | rfl | (simp only [List.length_drop, List.length_take]; rfl)) ?_; (with_reducible refine (zaF.calls k1 (fun k_ => some k_ = (.slice Ao23 y240.length co23 : Value).ownBlock) (.slice Ao23 y240.length co23) y240 t243 w _ ?side1 ?side2 A5.out).mono ?_); (case side1 => repeat (first | (with_reducible first | exact HB.out | apply zac | apply zaa | apply zaf) | exact HB.out)); (case side2 => exact Kd.zcB rfl HO242.out); rintro e w24 ⟨v244, rfl, ho0, hb, hkp⟩; refine ⟨_, rfl, ?_⟩; have n0_ := Aside0.mk (Kd.zbj (ok' := fun k_ => some k_ ≠ (v244 : Value).ownBlock) (Kd.zcR (HO_5.out) hkp (fun k_ hk_ hs_ => (hk_.2) hs_)) (fun k_ hk_ => fun e_ => Or.elim (ho0.1 k_ e_.symm) (fun hs_ => hk_.2.1 hs_) (fun hn_ => Nat.not_le.2 hk_.2.2 hn_))); have n1_ := Aside0.mk (Kd.zbj (ok' := fun k_ => some k_ ≠ (.slice Ao22 x5_1.length co22 : Value).ownBlock) ho0 (fun k_ hk_ => Or.elim hk_ (fun hs_ => fun e_ => (((HO_5.out).1 k_ e_.symm).2) hs_) (fun hn_ => (Kd.fresh' (Kd.R_lt (by (with_reducible repeat (first | apply Kd.zaw | apply Kd.zax | apply Kd.zaE)); exact HO_5.out)) k_ hn_)))); have n2_ := Aside0.mk (hb); clear HO_5; clear HB; clear HO242; have HO_5 := n0_; have HO245 := n1_; have HB := n2_; clear n0_ n1_ n2_; (try clear hb); (try clear hkp); (try clear ho0); have p246 : 0 ≤ (x6_1 : Int) := of_decide_eq_true (by first | (with_reducible assumption) | assumption); have q246 : x6_1 < (l1.length : Int) := of_decide_eq_true (by first | (with_reducible assumption) | assumption); obtain ⟨ad246, e246, hx246_0⟩ := Kd.zcg HR1.out x6_1 p246 q246; (try rw [← Nbq8.out] at hx246_0); cases e246; replace hx246_0 := (HB.out.cell (World.block_lt_of_cell? w _ hx246_0)).trans hx246_0; replace p246 := eq_true p246; replace q246 := eq_true q246))
        go_roundg k1
        case measure => have := HK1.out; omega
        case rel => exact ⟨(t243), (wrap64 (x6_1 - 1)), (by first | rfl | (simp; done) | (simp [*]; done)), H', ⟨by have := HK1.out; omega⟩, ⟨by (with_reducible repeat (first | apply Kd.zaw | apply Kd.zax | apply Kd.zaE)); exact Kd.zbj HO245.out (fun _ hk => trivial)⟩, ⟨by repeat (first | (with_reducible first | exact HB.out | apply zac | apply zaa | apply zaf) | exact HB.out)⟩⟩
      ·rw [if_neg c7] at H
       exact absurd H (by simp)
     ·rw [if_neg c6] at H
      exact absurd H (by simp)
    ·rw [if_neg c4] at H
     exact absurd H (by simp)
   ·rw [if_neg c3] at H
    have c3b0 : decide (0 ≤ x6_1) = false := decide_eq_false c3
    clear c3
    obtain rfl := Option.some.inj H
    go_wp2
    go_ret
    exact ⟨_, by first | rfl | (simp [zas, zar] <;> rfl) | (simp [*, zas, zar] <;> rfl), by (with_reducible repeat (first | apply Kd.zaw | apply Kd.zax | apply Kd.zaE)); exact HO_5.out, by repeat (first | (with_reducible first | exact HB.out | apply zac | apply zaa | apply zaf) | exact HB.out)⟩
end Go.Proofs.YtijhnmbegceonaaDoor.PRef
namespace Go.Proofs.YtijhnmbegceonaaDoor.PRef
open Go Go.RowKit Go.Proofs.YtijhnmbegceonaaDoorW.PrintWords Go.Proofs.YtijhnmbegceonaaDoorW.PrintLast Go.Proofs.YtijhnmbegceonaaDoorW.PrintMore BallBits
theorem zdp (l : List Bool) (i : Nat) : rdOf false l (i : Int) = l.getD i false := by simp [rdOf]
theorem zfC (l : List Bool) (hl : l.length ≤ 1000000) (i : Nat) : i ≤ l.length → Ev (fun k => zaF.l0 k l (i : Int)) (bof (nv (l.take i))) := by
 induction i with
 | zero =>
  intro _
  refine Ev.step (fun k => by rw [zaF.l0]) ?_
  refine zaV (by omega) (zaJ (by omega) (zaJ (by omega) ?_))
  exact zbA fun _ => by simp [nv, zca]
 | succ i ih =>
  intro hi
  have hw : wrap64 (((i + 1 : Nat) : Int) - 1) = (i : Int) := by unfold wrap64; omega
  refine Ev.step (fun k => by rw [zaF.l0, hw, zdp]) ?_
  refine zaJ (by omega) (zaJ (by omega) (zaJ (by omega) ?_))
  by_cases hb : l.getD i false = true
  ·refine zaJ hb (zaJ (by omega) (zaJ (by omega) ?_))
   exact zbA fun _ => by rw [zel l i hi hb]; simp
  ·refine zaV hb (zb2 (ih (by omega)) ?_)
   rw [zci l i hi]
   have hb' := Bool.eq_false_iff.mpr hb
   rw [hb']
   simp
theorem zcF (l : List Bool) (hl : l.length ≤ 1000000) : Ev (fun k => zaF.f k l) (bof (nv l)) := by
 have := zfC l hl l.length (Nat.le_refl _)
 rw [List.take_length] at this
 exact this
theorem zfe (l : List Bool) (i : Nat) : zaO.f l (i : Int) = some (l.getD i false) := by
 unfold zaO.f
 rw [zdp]
 by_cases h : i < l.length
 ·rw [if_pos (by omega), if_pos (by omega)]
 ·rw [if_neg (by omega)]
  simp [List.getD_eq_getElem?_getD, List.getElem?_eq_none (by omega : l.length ≤ i)]
theorem zd8 (c : Int) (n : Nat) (h : c = (n : Int)) (hn : n ≤ 3) : ((Int.tmod c 2) == 1) = (n % 2 == 1) ∧ wrap64 (Int.tdiv c 2) = ((n / 2 : Nat) : Int) := by
 subst h
 have : n = 0 ∨ n = 1 ∨ n = 2 ∨ n = 3 := by omega
 unfold wrap64
 rcases this with rfl | rfl | rfl | rfl <;> decide
theorem zgn {p c u v x y q s o t : Nat} (h : c + u + v = q + 2 * s) (h4 : o + p * (c + (u + 2 * x) + (v + 2 * y)) = t) : o + p * q + p * 2 * (s + x + y) = t := by
 rw [← h4]
 have : c + (u + 2 * x) + (v + 2 * y) = q + 2 * (s + x + y) := by omega
 rw [this, Nat.mul_add p q, Nat.mul_assoc, Nat.add_assoc]
theorem zgM (a b : List Bool) (ha : a.length ≤ 100000) (hb : b.length ≤ 100000) (d : Nat) : ∀ (out : List Bool) (c : Nat), c ≤ 1 → max a.length b.length + 1 ≤ out.length + d → out.length ≤ max a.length b.length + 1 → (out.length = max a.length b.length + 1 → c = 0) →
  nv out + 2 ^ out.length * (c + nv (a.drop out.length) + nv (b.drop out.length)) = nv a + nv b → Ev (fun k => zaq.l0 k a b out (c : Int) (out.length : Int)) (bof (nv a + nv b)) := by
 induction d with
 | zero =>
  intro out c hc h1 h2 h3 h4
  have e : out.length = max a.length b.length + 1 := by omega
  have hc0 := h3 e
  subst hc0
  refine Ev.step (fun k => by rw [zaq.l0]) ?_
  refine zaV (by omega) (zaV (by omega) ?_)
  refine Ev.step (fun k => by rw [zaq.j1]) ?_
  refine zaV (by simp) ?_
  refine zcM (zcF out (by omega)) ?_
  rw [← h4, List.drop_eq_nil_of_le (by omega), List.drop_eq_nil_of_le (by omega)]
  simp [nv]
 | succ d ih =>
  intro out c hc h1 h2 h3 h4
  by_cases hend : ¬ out.length < a.length ∧ ¬ out.length < b.length ∧ c = 0
  ·obtain ⟨e1, e2, rfl⟩ := hend
   refine Ev.step (fun k => by rw [zaq.l0]) ?_
   refine zaV (by omega) (zaV (by omega) ?_)
   refine Ev.step (fun k => by rw [zaq.j1]) ?_
   refine zaV (by simp) ?_
   refine zcM (zcF out (by omega)) ?_
   rw [← h4, List.drop_eq_nil_of_le (by omega), List.drop_eq_nil_of_le (by omega)]
   simp [nv]
  ·have hgo : Ev (fun k => zaq.j1 k a b out (c : Int) (out.length : Int) true) (bof (nv a + nv b)) := by
    have hlt : out.length < max a.length b.length + 1 := by
     rcases Nat.lt_or_ge out.length (max a.length b.length + 1) with h | h
     ·exact h
     ·exfalso; apply hend; refine ⟨by omega, by omega, h3 (by omega)⟩
    have da := zfa a out.length
    have db := zfa b out.length
    rw [da, db] at h4
    have H4 := Aside0.mk h4
    clear h4 da db
    have hi := zdd out.length (by omega)
    have key : ∀ n : Nat, n = c + (a.getD out.length false).toNat + (b.getD out.length false).toNat → Ev (fun k => zaq.l0 k a b (out ++ [n % 2 == 1]) ((n / 2 : Nat) : Int) ((out.length + 1 : Nat) : Int)) (bof (nv a + nv b)) := by
     intro n hn
     have ba := Bool.toNat_le (a.getD out.length false)
     have bb := Bool.toNat_le (b.getD out.length false)
     have hnv : nv (out ++ [n % 2 == 1]) = nv out + 2 ^ out.length * (n % 2) := by
      rw [zcH]; rcases Nat.mod_two_eq_zero_or_one n with e | e <;> simp [nv, e]
     have := ih (out ++ [n % 2 == 1]) (n / 2) (by omega) (by simp; omega) (by simp; omega) ?_ ?_
     ·simpa using this
     ·simp only [List.length_append, List.length_singleton]
      intro e
      have ea : a.getD out.length false = false := by
       simp [List.getD_eq_getElem?_getD, List.getElem?_eq_none (by omega : a.length ≤ out.length)]
      have eb : b.getD out.length false = false := by
       simp [List.getD_eq_getElem?_getD, List.getElem?_eq_none (by omega : b.length ≤ out.length)]
      rw [ea, eb] at hn
      simp at hn
      omega
     ·rw [hnv]
      simp only [List.length_append, List.length_singleton, Nat.pow_succ]
      exact zgn (by have := Nat.mod_add_div n 2; omega) H4.out
    refine Ev.step (fun k => by rw [zaq.j1, zfe, zfe, hi]) ?_
    refine zaJ rfl (zbC rfl ?_)
    rw [zdd c (by omega), zdd (c + 1) (by omega)]
    have hL : out.length < 140737488355328 := by omega
    cases hA : a.getD out.length false <;> cases hB : b.getD out.length false <;> rw [hA, hB] at key
    ·refine zaV (by simp) (zbC rfl (zaV (by simp) (zaJ hL ?_)))
     obtain ⟨k1, k2⟩ := zd8 (c : Int) c rfl (by omega)
     rw [k1, k2]; exact key c (by simp)
    ·refine zaV (by simp) (zbC rfl (zaJ rfl (zaJ hL ?_)))
     obtain ⟨k1, k2⟩ := zd8 ((c + 1 : Nat) : Int) (c + 1) rfl (by omega)
     rw [k1, k2]; exact key (c + 1) (by simp)
    ·refine zaJ rfl (zbC rfl (zaV (by simp) (zaJ hL ?_)))
     obtain ⟨k1, k2⟩ := zd8 ((c + 1 : Nat) : Int) (c + 1) rfl (by omega)
     rw [k1, k2]; exact key (c + 1) (by simp)
    ·refine zaJ rfl (zbC rfl (zaJ rfl (zaJ hL ?_)))
     obtain ⟨k1, k2⟩ := zd8 ((c + 2 : Nat) : Int) (c + 2) rfl (by omega)
     rw [k1, k2]; exact key (c + 2) (by simp)
   refine Ev.step (fun k => by rw [zaq.l0]) ?_
   by_cases e1 : out.length < a.length
   ·exact zaJ (by omega) hgo
   ·refine zaV (by omega) ?_
    by_cases e2 : out.length < b.length
    ·exact zaJ (by omega) hgo
    ·refine zaV (by omega) ?_
     have : decide ((c : Int) > 0) = true := decide_eq_true (by omega)
     rw [this]; exact hgo
theorem zeE (a b : List Bool) (ha : a.length ≤ 100000) (hb : b.length ≤ 100000) : Ev (fun k => zaq.f k a b) (bof (nv a + nv b)) := by
 have := zgM a b ha hb (max a.length b.length + 1) [] 0 (by omega) (by simp) (by simp) (by simp) (by simp [nv])
 exact this
theorem zhr (m : Nat) : ∀ (n : Nat), n < 2 ^ m → m ≤ 64 → ∀ out : List Bool, out.length + m ≤ 64 → Ev (fun k => zaW.l0 k (n : Int) out) (out ++ bof n) := by
 induction m with
 | zero =>
  intro n hn _ out _
  have : n = 0 := by simpa using hn
  subst this
  refine Ev.step (fun k => by rw [zaW.l0]) ?_
  refine zaV (by omega) (zbA fun _ => by simp [zca])
 | succ m ih =>
  intro n hn hm out ho
  by_cases h0 : n = 0
  ·subst h0
   refine Ev.step (fun k => by rw [zaW.l0]) ?_
   refine zaV (by omega) (zbA fun _ => by simp [zca])
  ·have hn' : n / 2 < 2 ^ m := by rw [Nat.pow_succ] at hn; omega
   have hb : n < 2 ^ 64 := Nat.lt_of_lt_of_le hn (Nat.pow_le_pow_right (by omega) (by omega))
   have e1 : IntKind.u64.wrap (Int.tdiv (n : Int) 2) = ((n / 2 : Nat) : Int) := by rw [wu64, Int.tdiv_eq_ediv_of_nonneg (by omega)]; omega
   have e2 : ((Int.tmod (n : Int) 2) == 1) = (n % 2 == 1) := by
    rw [Int.tmod_eq_emod_of_nonneg (by omega)]
    rcases Nat.mod_two_eq_zero_or_one n with e | e
    ·have : (n : Int) % 2 = 0 := by omega
     rw [this, e]; rfl
    ·have : (n : Int) % 2 = 1 := by omega
     rw [this, e]; rfl
   refine Ev.step (fun k => by rw [zaW.l0, e1, e2]) ?_
   refine zaJ (by omega) (zaJ (by omega) ?_)
   refine zb2 (ih (n / 2) hn' (by omega) (out ++ [n % 2 == 1]) (by simp; omega)) ?_
   rw [zc1 h0]; simp
theorem zhs (n : Nat) (h : n < 2 ^ 64) : Ev (fun k => zaW.f k (n : Int)) (bof n) := zhr 64 n h (by omega) [] (by simp)
theorem zf1 (a b : List Bool) (hl : a.length = b.length) (ha : a.length ≤ 1000000) (i : Nat) : i ≤ a.length → Ev (fun k => zaY.l0 k a b ((i : Int) - 1)) (decide (nv (a.take i) < nv (b.take i))) := by
 induction i with
 | zero =>
  intro _
  refine Ev.step (fun k => by rw [zaY.l0]) ?_
  refine zaV (by omega) (zbA fun _ => by simp [nv])
 | succ i ih =>
  intro hi
  have e0 : ((i + 1 : Nat) : Int) - 1 = (i : Int) := by omega
  refine Ev.step (fun k => by rw [zaY.l0, e0, zdp, zdp, zdW i (by omega)]) ?_
  refine zaJ (by omega) (zaJ (by omega) (zaJ (by omega) (zaJ (by omega) ?_)))
  have ta := zci a i (by omega)
  have tb := zci b i (by omega)
  have la := zer (a.take i)
  have lb := zer (b.take i)
  rw [List.length_take, Nat.min_eq_left (by omega)] at la lb
  rw [ta, tb]
  have ih := ih (by omega)
  cases hA : a.getD i false <;> cases hB : b.getD i false
  ·refine zaV (by simp) (zb2 ih ?_)
   simp
  ·refine zaJ (by simp) (zbA fun _ => ?_)
   simp; omega
  ·refine zaJ (by simp) (zbA fun _ => ?_)
   simp; omega
  ·refine zaV (by simp) (zb2 ih ?_)
   simp
theorem zf2 (m n : Nat) (hm : (bof m).length ≤ 100000) : Ev (fun k => zaY.f k (bof m) (bof n)) (decide (m < n)) := by
 unfold zaY.f
 by_cases h : (bof m).length = (bof n).length
 ·refine zaJ (by omega) ?_
  rw [zdW _ (by omega)]
  have := zf1 (bof m) (bof n) h (by omega) (bof m).length (Nat.le_refl _)
  rw [List.take_length, h, List.take_length, zbX, zbX] at this
  rw [h]; exact this
 ·refine zaV (by omega) (zbA fun _ => ?_)
  congr 1
  rw [decide_eq_decide]
  constructor
  ·intro h1; exact zcE (by omega)
  ·intro h1
   rcases Nat.lt_or_ge (bof m).length (bof n).length with h2 | h2
   ·omega
   ·have := zcE (a := n) (b := m) (by omega)
    omega
theorem zfI {o p x y u v s w q : Nat} (h4 : o + x = y + w * p) (h : q + v + w = u + 2 * s) : o + p * q + (x + p * v) = y + p * u + s * (p * 2) := by
 have e1 : p * q + p * v + w * p = p * u + s * (p * 2) := by
  have : p * (q + v + w) = p * (u + 2 * s) := by rw [h]
  grind
 omega
theorem bit_of (q : Nat) (h : q ≤ 1) : ((q : Int) == 1) = (q == 1) := by
 have : q = 0 ∨ q = 1 := by omega
 rcases this with rfl | rfl <;> rfl
theorem zgQ (a b out : List Bool) (x : Int) (h0 : -1 ≤ x) (h1 : x ≤ 1) (hL : out.length ≤ 100000) (q s : Nat) (hq : q ≤ 1) (hs : s ≤ 1) (he : (q : Int) + (b.getD out.length false).toNat = x + 2 * s) {r : List Bool}
  (H : Ev (fun k => zau.l0 k a b (out ++ [q == 1]) (s : Int) ((out.length + 1 : Nat) : Int)) r) : Ev (fun k => zau.j1 k a b out (out.length : Int) x) r := by
 refine Ev.step (fun k => by rw [zau.j1, zfe, zdd out.length (by omega)]) ?_
 refine zbC rfl ?_
 rw [← bit_of q hq] at H
 cases hB : b.getD out.length false <;> rw [hB] at he <;> simp at he
 ·refine zaV (by simp) ?_
  by_cases hx : x < 0
  ·obtain rfl : s = 1 := by omega
   refine zaJ hx (zaJ (by omega) ?_)
   have : wrap64 (x + 2) = (q : Int) := by unfold wrap64; omega
   rw [this]; exact H
  ·obtain rfl : s = 0 := by omega
   refine zaV hx (zaJ (by omega) ?_)
   have : x = (q : Int) := by omega
   rw [this]; exact H
 ·have e : wrap64 (x - 1) = x - 1 := by unfold wrap64; omega
  rw [e]
  refine zaJ (by simp) ?_
  by_cases hx : x - 1 < 0
  ·obtain rfl : s = 1 := by omega
   refine zaJ hx (zaJ (by omega) ?_)
   have : wrap64 (x - 1 + 2) = (q : Int) := by unfold wrap64; omega
   rw [this]; exact H
  ·obtain rfl : s = 0 := by omega
   refine zaV hx (zaJ (by omega) ?_)
   have : x - 1 = (q : Int) := by omega
   rw [this]; exact H
theorem zgu (a b : List Bool) (ha : a.length ≤ 100000) (hle : nv b ≤ nv a) (d : Nat) : ∀ (out : List Bool) (w : Nat), w ≤ 1 → out.length + d = a.length →
  nv out + nv (b.take out.length) = nv (a.take out.length) + w * 2 ^ out.length → Ev (fun k => zau.l0 k a b out (w : Int) (out.length : Int)) (bof (nv a - nv b)) := by
 induction d with
 | zero =>
  intro out w hw hd h4
  have hd : out.length = a.length := by omega
  refine Ev.step (fun k => by rw [zau.l0]) ?_
  refine zaV (by omega) ?_
  refine zcM (zcF out (by omega)) ?_
  rw [hd, List.take_length] at h4
  have lo := zer out
  rw [hd] at lo
  have sp := zgC b a.length
  have la := zer a
  have hbt : nv (b.take a.length) = nv b := by
   rcases Nat.lt_or_ge a.length b.length with h | h
   ·rw [Nat.min_eq_left (by omega)] at sp
    rcases Nat.eq_zero_or_pos (nv (b.drop a.length)) with e | e
    ·rw [e] at sp; simpa using sp.symm
    ·have : 2 ^ a.length * 1 ≤ 2 ^ a.length * nv (b.drop a.length) := Nat.mul_le_mul_left _ e
     omega
   ·rw [List.take_of_length_le h]
  rw [hbt] at h4
  have : w = 0 := by
   rcases Nat.eq_zero_or_pos w with e | e
   ·exact e
   ·have : w = 1 := by omega
    subst this; omega
  subst this
  have : nv out = nv a - nv b := by omega
  rw [this]
 | succ d ih =>
  intro out w hw hd h4
  have H4 := Aside0.mk h4
  clear h4
  have key : ∀ (q s : Nat), s ≤ 1 → q ≤ 1 → q + (b.getD out.length false).toNat + w = (a.getD out.length false).toNat + 2 * s → Ev (fun k => zau.l0 k a b (out ++ [q == 1]) (s : Int) ((out.length + 1 : Nat) : Int)) (bof (nv a - nv b)) := by
   intro q s hs hq he
   have hnv : nv (out ++ [q == 1]) = nv out + 2 ^ out.length * q := by
    rw [zcH]
    have : q = 0 ∨ q = 1 := by omega
    rcases this with e | e <;> simp [nv, e]
   have := ih (out ++ [q == 1]) s hs (by simp; omega) ?_
   ·simpa using this
   ·rw [hnv]
    simp only [List.length_append, List.length_singleton]
    rw [zci a _ (by omega), Nat.pow_succ]
    have hb2 : nv (b.take (out.length + 1)) = nv (b.take out.length) + 2 ^ out.length * (b.getD out.length false).toNat := by
     by_cases h : out.length < b.length
     ·exact zci b _ h
     ·rw [List.take_of_length_le (by omega), List.take_of_length_le (by omega)]
      simp [List.getD_eq_getElem?_getD, List.getElem?_eq_none (by omega : b.length ≤ out.length)]
    rw [hb2]
    exact zfI H4.out he
  have hw2 : wrap64 (-(w : Int)) = -(w : Int) := by unfold wrap64; omega
  have hw3 : wrap64 (-(w : Int) + 1) = -(w : Int) + 1 := by unfold wrap64; omega
  refine Ev.step (fun k => by rw [zau.l0, zfe, hw2, hw3]) ?_
  refine zaJ (by omega) (zbC rfl ?_)
  obtain ⟨q, s, hs, hq, he⟩ : ∃ q s : Nat, s ≤ 1 ∧ q ≤ 1 ∧ q + (b.getD out.length false).toNat + w = (a.getD out.length false).toNat + 2 * s := by
   have := Bool.toNat_le (a.getD out.length false)
   have := Bool.toNat_le (b.getD out.length false)
   generalize (a.getD out.length false).toNat = u at *
   generalize (b.getD out.length false).toNat = v at *
   by_cases h : u < v + w
   ·exact ⟨u + 2 - v - w, 1, by omega, by omega, by omega⟩
   ·exact ⟨u - v - w, 0, by omega, by omega, by omega⟩
  have K := key q s hs hq he
  cases hA : a.getD out.length false <;> rw [hA] at he <;> simp only [Bool.toNat_false, Bool.toNat_true] at he
  ·exact zaV (by simp) (zgQ a b out _ (by omega) (by omega) (by omega) q s hq hs (by omega) K)
  ·exact zaJ rfl (zgQ a b out _ (by omega) (by omega) (by omega) q s hq hs (by omega) K)
theorem zgR (a b : List Bool) (ha : a.length ≤ 100000) (hle : nv b ≤ nv a) : Ev (fun k => zau.f k a b) (bof (nv a - nv b)) :=
 zgu a b ha hle a.length [] 0 (by omega) (by simp) (by simp [nv])
theorem zeV (m : Nat) (x : List Bool) (L : Nat) (hL : (bof m).length ≤ L) : (bof (m * nv x)).length ≤ L + x.length := by
 apply zbI
 have h1 : m < 2 ^ L := zbZ hL
 have h2 := zer x
 rw [Nat.pow_add]
 calc m * nv x ≤ m * 2 ^ x.length := Nat.mul_le_mul_left _ (by omega)
  _ < 2 ^ L * 2 ^ x.length := Nat.mul_lt_mul_of_pos_right h1 (Nat.pow_pos (by omega))
theorem zc2 (x : List Bool) : (bof (nv x)).length ≤ x.length := zbI (zer x)
theorem zgE (a b : List Bool) (ha : a.length ≤ 10000) (hb : b.length ≤ 10000) (i : Nat) : i ≤ b.length → Ev (fun k => zaQ.l0 k a b (bof (nv a * nv (b.drop i))) ((i : Int) - 1)) (bof (nv a * nv b)) := by
 induction i with
 | zero =>
  intro _
  refine Ev.step (fun k => by rw [zaQ.l0]) ?_
  exact zaV (by omega) (zbA fun _ => by simp)
 | succ i ih =>
  intro hi
  have e0 : ((i + 1 : Nat) : Int) - 1 = (i : Int) := by omega
  have hlen : (bof (nv a * nv (b.drop (i + 1)))).length ≤ 20000 := by
   have := zeV (nv a) (b.drop (i + 1)) a.length (zc2 a)
   simp at this; omega
  refine Ev.step (fun k => by rw [zaQ.l0, e0, zdp, zdW i (by omega)]) ?_
  refine zaJ (by omega) (zbC rfl (zaJ (by simp; omega) ?_))
  have ht := zcF ([false] ++ bof (nv a * nv (b.drop (i + 1)))) (by simp; omega)
  have e1 : nv ([false] ++ bof (nv a * nv (b.drop (i + 1)))) = 2 * (nv a * nv (b.drop (i + 1))) := by simp [nv, zbX]
  rw [e1] at ht
  refine Ev.bind ht (zaJ (by omega) (zaJ (by omega) ?_))
  have ih := ih (by omega)
  rw [zd6 b i (by omega)] at ih
  cases hB : b.getD i false <;> rw [hB] at ih
  ·refine zaV (by simp) ?_
   have e2 : nv a * (false.toNat + 2 * nv (b.drop (i + 1))) = 2 * (nv a * nv (b.drop (i + 1))) := by simp; grind
   rw [e2] at ih
   exact ih
  ·refine zaJ rfl ?_
   have hlen2 : (bof (2 * (nv a * nv (b.drop (i + 1))))).length ≤ 100000 := by
    have := zc2 ([false] ++ bof (nv a * nv (b.drop (i + 1))))
    rw [e1] at this
    simp at this; omega
   have hadd := zeE (bof (2 * (nv a * nv (b.drop (i + 1))))) a hlen2 (by omega)
   rw [zbX] at hadd
   have e2 : nv a * (true.toNat + 2 * nv (b.drop (i + 1))) = 2 * (nv a * nv (b.drop (i + 1))) + nv a := by simp; grind
   rw [e2] at ih
   exact Ev.bind hadd ih
theorem zfZ (a b : List Bool) (ha : a.length ≤ 10000) (hb : b.length ≤ 10000) : Ev (fun k => zaQ.f k a b) (bof (nv a * nv b)) := by
 have := zgE a b ha hb b.length (Nat.le_refl _)
 rw [List.drop_length] at this
 unfold zaQ.f
 rw [zdW _ (by omega)]
 simp only [nv, Nat.mul_zero, zca] at this
 exact this
theorem zgJ {A A' u m : Nat} (hA : A = u + 2 * A') (hu : u ≤ 1) (_hm : 0 < m) : (u + 2 * (A' % m) < m → A / m = 2 * (A' / m) ∧ A % m = u + 2 * (A' % m)) ∧ (¬ u + 2 * (A' % m) < m → A / m = 2 * (A' / m) + 1 ∧ A % m = u + 2 * (A' % m) - m) := by
 have h1 := Nat.mod_add_div A' m
 have h2 := Nat.mod_lt A' _hm
 generalize A' % m = R at *
 generalize A' / m = Q at *
 have h3 : u + 2 * R + m * (2 * Q) = A := by rw [hA, ← h1]; grind
 constructor
 ·intro h
  exact (Nat.div_mod_unique _hm).2 ⟨h3, h⟩
 ·intro h
  refine (Nat.div_mod_unique _hm).2 ⟨?_, by omega⟩
  rw [Nat.mul_add]; omega
theorem zeR (a : List Bool) (m : Nat) (hm : 0 < m) (ha : a.length ≤ 10000) (hb : (bof m).length ≤ 10000) (i : Nat) : i ≤ a.length → ∀ q : List Bool, q.length + i = a.length → nv q = nv (a.drop i) / m →
  Ev (fun k => zav.l0 k a (bof m) q (bof (nv (a.drop i) % m)) ((i : Int) - 1)) (bof (nv a / m), bof (nv a % m)) := by
 induction i with
 | zero =>
  intro _ q hq hn
  refine Ev.step (fun k => by rw [zav.l0]) ?_
  refine zaV (by omega) (zcM (zcF q (by omega)) ?_)
  rw [hn]; simp
 | succ i ih =>
  intro hi q hq hn
  have e0 : ((i + 1 : Nat) : Int) - 1 = (i : Int) := by omega
  have hA := zd6 a i (by omega)
  have hu := Bool.toNat_le (a.getD i false)
  obtain ⟨d1, d2⟩ := zgJ hA hu hm
  have hR := Nat.mod_lt (nv (a.drop (i + 1))) hm
  have hlen := Nat.le_trans (zbI (Nat.lt_trans hR (zbZ (Nat.le_refl _)))) hb
  refine Ev.step (fun k => by rw [zav.l0, e0, zdp, zdW i (by omega)]) ?_
  refine zaJ (by omega) (zaJ (by omega) (zaJ (by omega) (zbC rfl (zaJ (by simp; omega) ?_))))
  have ht := zcF ([a.getD i false] ++ bof (nv (a.drop (i + 1)) % m)) (by simp; omega)
  have e1 : nv ([a.getD i false] ++ bof (nv (a.drop (i + 1)) % m)) = (a.getD i false).toNat + 2 * (nv (a.drop (i + 1)) % m) := by simp only [List.singleton_append, nv, zbX]
  have hl2 := zc2 ([a.getD i false] ++ bof (nv (a.drop (i + 1)) % m))
  rw [e1] at ht hl2
  have hl3 : (bof ((a.getD i false).toNat + 2 * (nv (a.drop (i + 1)) % m))).length ≤ 10001 := by simp at hl2 ⊢; omega
  refine Ev.bind ht (Ev.bind (zf2 _ m (by omega)) ?_)
  by_cases hlt : (a.getD i false).toNat + 2 * (nv (a.drop (i + 1)) % m) < m
  ·obtain ⟨q1, q2⟩ := d1 hlt
   rw [decide_eq_true hlt]
   refine zaJ rfl (zbC rfl (zaJ (by simp; omega) ?_))
   have := ih (by omega) ([!true] ++ q) (by simp; omega) (by simp [nv, hn, q1])
   rw [q2] at this
   exact this
  ·obtain ⟨q1, q2⟩ := d2 hlt
   rw [decide_eq_false hlt]
   refine zaV (by simp) ?_
   have hs := zgR (bof ((a.getD i false).toNat + 2 * (nv (a.drop (i + 1)) % m))) (bof m) (by omega) (by rw [zbX, zbX]; omega)
   rw [zbX, zbX] at hs
   refine Ev.bind hs (zbC rfl (zaJ (by simp; omega) ?_))
   have := ih (by omega) ([!false] ++ q) (by simp; omega) (by simp [nv, hn, q1]; omega)
   rw [q2] at this
   exact this
theorem zdw (a : List Bool) (m : Nat) (hm : 0 < m) (ha : a.length ≤ 10000) (hb : (bof m).length ≤ 10000) : Ev (fun k => zav.f k a (bof m)) (bof (nv a / m), bof (nv a % m)) := by
 unfold zav.f
 have h0 : (bof m).length ≠ 0 := by
  intro h; have := zdS.1 (List.length_eq_zero_iff.1 h); omega
 refine zaV (by omega) ?_
 rw [zdW _ (by omega)]
 have := zeR a m hm ha hb a.length (Nat.le_refl _) [] (by simp) (by simp [nv])
 rw [List.drop_length] at this
 simp only [nv, Nat.zero_mod, zca] at this
 exact this
end Go.Proofs.YtijhnmbegceonaaDoor.PRef
namespace Go.Proofs.YtijhnmbegceonaaDoor.PRef
open Go Go.RowKit Go.Proofs.YtijhnmbegceonaaDoorW.PrintWords Go.Proofs.YtijhnmbegceonaaDoorW.PrintLast Go.Proofs.YtijhnmbegceonaaDoorW.PrintMore BallBits
theorem zcz (a : Int) (h0 : -9223372036854775808 ≤ a) (h1 : a ≤ 9223372036854775807) : Ev (fun k => za6.f k a) (bof a.natAbs) := by
 unfold za6.f
 by_cases h : a < 0
 ·refine zaJ h ?_
  have e1 : wrap64 (a + 1) = a + 1 := by unfold wrap64; omega
  have e2 : wrap64 (-(a + 1)) = -(a + 1) := by unfold wrap64; omega
  have e3 : IntKind.u64.wrap (-(a + 1)) = ((a.natAbs - 1 : Nat) : Int) := by rw [wu64]; omega
  rw [e1, e2, e3]
  refine Ev.bind (zhs (a.natAbs - 1) (by omega)) (Ev.bind (zhs 1 (by omega)) ?_)
  have := zeE (bof (a.natAbs - 1)) (bof 1) (Nat.le_trans (zbI (m := 64) (by omega)) (by omega)) (Nat.le_trans (zbI (m := 64) (by omega)) (by omega))
  rw [zbX, zbX] at this
  refine Ev.bind this (zbA fun _ => ?_)
  congr 2; omega
 ·refine zaV h ?_
  have e3 : IntKind.u64.wrap a = ((a.natAbs : Nat) : Int) := by rw [wu64]; omega
  rw [e3]
  exact Ev.bind (zhs _ (by omega)) (Ev.now _)
def Sz (n : Nat) : Prop := (bof n).length ≤ 2000
theorem len_le (L : Nat) {m n : Nat} (h : (bof n).length ≤ L) (hm : m ≤ n) : (bof m).length ≤ L := zbI (Nat.lt_of_le_of_lt hm (zbZ h))
theorem Sz.le {m n : Nat} (h : Sz n) (hm : m ≤ n) : Sz m := len_le 2000 h hm
theorem sz64 {n : Nat} (h : n < 18446744073709551616) : Sz n := Nat.le_trans (zbI (m := 64) h) (by omega)
theorem zcj : ∀ (b a : Nat), Sz a → Sz b → Ev (fun k => zaR.f k (bof a) (bof b)) (bof (Nat.gcd a b)) := by
 intro b
 induction b using Nat.strongRecOn with
 | _ b ih =>
  intro a ha hb
  unfold zaR.f
  refine Ev.step (fun k => by rw [zaR.l0]) ?_
  by_cases h : b = 0
  ·subst h
   rw [Nat.gcd_zero_right]
   exact zaV (by rw [zca]; simp) (Ev.now _)
  ·have hp : 0 < b := by omega
   have hl : (bof b).length ≠ 0 := fun h0 => h (zdS.1 (List.length_eq_zero_iff.1 h0))
   refine zaJ (by omega) ?_
   have hd := zdw (bof a) b hp (by unfold Sz at ha; omega) (by unfold Sz at hb; omega)
   rw [zbX] at hd
   refine Ev.bind hd ?_
   have hlt := Nat.mod_lt a hp
   have := ih (a % b) hlt b hb (Sz.le hb (Nat.le_of_lt hlt))
   unfold zaR.f at this
   rw [show Nat.gcd a b = Nat.gcd b (a % b) by rw [Nat.gcd_comm a b, Nat.gcd_rec, Nat.gcd_comm]]
   exact this
theorem zfm (l : List Bool) (hl : l.length ≤ 63) (i : Nat) : i ≤ l.length → Ev (fun k => zaD.l0 k l ((nv (l.drop i) : Nat) : Int) ((i : Int) - 1)) (((nv l : Nat) : Int), true) := by
 induction i with
 | zero =>
  intro _
  refine Ev.step (fun k => by rw [zaD.l0]) ?_
  exact zaV (by omega) (zbA fun _ => by simp)
 | succ i ih =>
  intro hi
  have e0 : ((i + 1 : Nat) : Int) - 1 = (i : Int) := by omega
  refine Ev.step (fun k => by rw [zaD.l0, e0, zdp, zdW i (by omega)]) ?_
  refine zaJ (by omega) (zaJ (by omega) (zaJ (by omega) ?_))
  have ih := ih (by omega)
  have hb : nv (l.drop i) < 9223372036854775808 := by
   have h1 := zer (l.drop i)
   have h2 : 2 ^ (l.drop i).length ≤ 2 ^ 63 := Nat.pow_le_pow_right (by omega) (by simp; omega)
   omega
  rw [zd6 l i (by omega)] at ih hb
  cases hB : l.getD i false <;> rw [hB] at ih hb
  ·refine zaV (by simp) ?_
   simp only [Bool.toNat_false] at ih hb
   rw [w64 (by omega) (by omega)]
   rw [show ((0 + 2 * nv (l.drop (i + 1)) : Nat) : Int) = 2 * ((nv (l.drop (i + 1)) : Nat) : Int) by omega] at ih
   exact ih
  ·refine zaJ rfl ?_
   simp only [Bool.toNat_true] at ih hb
   rw [w64 (x := 2 * _) (by omega) (by omega), w64 (by omega) (by omega)]
   rw [show ((1 + 2 * nv (l.drop (i + 1)) : Nat) : Int) = 2 * ((nv (l.drop (i + 1)) : Nat) : Int) + 1 by omega] at ih
   exact ih
theorem ze0 (n : Nat) (_hs : Sz n) : Ev (fun k => zaD.f k (bof n)) (if n < 9223372036854775808 then ((n : Int), true) else (0, false)) := by
 unfold zaD.f
 by_cases h : n < 9223372036854775808
 ·rw [if_pos h]
  have hl : (bof n).length ≤ 63 := zbI (m := 63) h
  refine zaV (by omega) ?_
  rw [zdW _ (by omega)]
  have := zfm (bof n) hl (bof n).length (Nat.le_refl _)
  rw [List.drop_length, zbX] at this
  exact this
 ·rw [if_neg h]
  have hl : ¬ (bof n).length ≤ 63 := fun h0 => h (zbZ (m := 63) h0)
  exact zaJ (by omega) (Ev.now _)
theorem to_j0 (k : Nat) (x y : Int) (a b : List Bool) (m : Bool) : zaS.j0 (k + 1) x y true a b m = some (0, 0, 3) := by
 rw [zaS.j0, if_pos rfl]
theorem to_ev (n d : Nat) (hn : Sz n) (hd : Sz d) (h0 : 0 < d) (m : Bool) : Ev (fun k => zaS.f k (bof n) (bof d) m) (BallQ.put (n / Nat.gcd n d) (d / Nat.gcd n d) m) := by
 have hg : 0 < Nat.gcd n d := Nat.gcd_pos_of_pos_right _ h0
 have hgs : Sz (Nat.gcd n d) := Sz.le hd (Nat.le_of_dvd h0 (Nat.gcd_dvd_right n d))
 unfold zaS.f
 refine Ev.bind (zcj d n hn hd) ?_
 have h1 := zdw (bof n) (Nat.gcd n d) hg (by unfold Sz at hn; omega) (by unfold Sz at hgs; omega)
 have h2 := zdw (bof d) (Nat.gcd n d) hg (by unfold Sz at hd; omega) (by unfold Sz at hgs; omega)
 rw [zbX] at h1 h2
 refine Ev.bind h1 (Ev.bind h2 (Ev.bind (ze0 (n / Nat.gcd n d) (Sz.le hn (Nat.div_le_self _ _))) (Ev.bind (ze0 (d / Nat.gcd n d) (Sz.le hd (Nat.div_le_self _ _))) ?_)))
 generalize n / Nat.gcd n d = x
 generalize d / Nat.gcd n d = y
 unfold BallQ.put
 by_cases hx : x < 9223372036854775808
 ·by_cases hy : y < 9223372036854775808
  ·rw [if_pos hx, if_pos hy, if_pos ⟨hx, hy⟩]
   refine zaJ rfl ?_
   refine Ev.step (fun k => by rw [zaS.j0]) (zaV (by simp) ?_)
   cases m
   ·exact zaV (by simp) (Ev.now _)
   ·refine zaJ rfl ?_
    dsimp only
    rw [w64 (by omega) (by omega)]
    exact Ev.now _
  ·rw [if_pos hx, if_neg hy, if_neg (show ¬ (x < 9223372036854775808 ∧ y < 9223372036854775808) from fun h => hy h.2)]
   refine zaJ rfl ?_
   exact Ev.step (fun k => to_j0 k _ _ _ _ _) (Ev.now _)
 ·rw [if_neg hx, if_neg (show ¬ (x < 9223372036854775808 ∧ y < 9223372036854775808) from fun h => hx h.1)]
  refine zaV (by simp) ?_
  exact Ev.step (fun k => to_j0 k _ _ _ _ _) (Ev.now _)
theorem zc5 (n d : Int) (hn : BallQ.In64 n) (hd : BallQ.In64 d) : Ev (fun k => zaz.f k n d) (decide (BallQ.Right n d)) := by
 obtain ⟨n0, n1⟩ := hn
 obtain ⟨d0, d1⟩ := hd
 unfold zaz.f
 by_cases h : d ≤ 0
 ·rw [decide_eq_false (fun hr => by have := hr.1; omega)]
  exact zaJ h (Ev.step (fun k => by rw [zaz.j0]) (zaJ rfl (Ev.now _)))
 ·refine zaV h ?_
  by_cases h1 : n = -9223372036854775808
  ·rw [decide_eq_false (fun hr => hr.2.1 h1)]
   exact Ev.step (fun k => by rw [zaz.j0]) (zaJ (beq_iff_eq.2 h1) (Ev.now _))
  ·refine Ev.step (fun k => by rw [zaz.j0]) (zaV (by simpa using h1) ?_)
   refine Ev.bind (zcz n n0 n1) (Ev.bind (zcz d d0 d1) (Ev.bind (zcj d.natAbs n.natAbs (sz64 (by omega)) (sz64 (by omega))) (zbA fun _ => ?_)))
   congr 1
   have e : (bof (Nat.gcd n.natAbs d.natAbs)).length = 1 ↔ Nat.gcd n.natAbs d.natAbs = 1 := by
    have hg : 0 < Nat.gcd n.natAbs d.natAbs := Nat.gcd_pos_of_pos_right _ (by omega)
    constructor
    ·intro h
     have := zbZ (n := Nat.gcd n.natAbs d.natAbs) (m := 1) (by omega)
     omega
    ·intro h
     rw [h, zc1 (by omega), zca]
     rfl
   rw [Bool.eq_iff_iff, beq_iff_eq, decide_eq_true_iff]
   unfold BallQ.Right
   constructor
   ·intro hh; exact ⟨by omega, h1, e.1 (by omega)⟩
   ·intro hh; have := e.2 hh.2.2; omega
end Go.Proofs.YtijhnmbegceonaaDoor.PRef
namespace Go.Proofs.YtijhnmbegceonaaDoor.PRef
open Go Go.RowKit Go.Proofs.YtijhnmbegceonaaDoorW.PrintWords Go.Proofs.YtijhnmbegceonaaDoorW.PrintLast Go.Proofs.YtijhnmbegceonaaDoorW.PrintMore BallBits
attribute [local go_sem] zbr zbp zbz zby zbh zbg zbq zbo
set_option linter.unusedVariables false
set_option linter.unusedSimpArgs false
def NB (w : World) (v : Value) (n : Nat) : Prop := ∃ A c, v = .slice A (bof n).length c ∧ (bof n).length ≤ c ∧ Kd.C Kd.bool w A (bof n).length (bof n) ∧ ∀ g, v.ownBlock = some g → ∃ cs, w.heap[g]? = some (.cells cs 4 (0, 0))
theorem NB.below {w w' : World} {v : Value} {n : Nat} (h : NB w v n) (hb : Below w.heap.size w w') : NB w' v n := by
 obtain ⟨A, c, rfl, h1, h2, h3⟩ := h
 refine ⟨A, c, rfl, h1, Kd.zbd h2 hb, fun g hg => ?_⟩
 obtain ⟨cs, h⟩ := h3 g hg
 exact ⟨cs, zaj h hb⟩
theorem zdr {w : World} {s : Nat} {P : Nat → Prop} {v : Value} {n : Nat} (h : Kd.R Kd.bool 4 w s P v (bof n)) : NB w v n := by
 obtain ⟨A, c, rfl⟩ := Kd.zbx h
 refine ⟨A, c, rfl, (Kd.zbk h).2.1, (Kd.zbk h).2.2, fun g hg => ?_⟩
 obtain ⟨_, _, _, q, hq, cells, hc⟩ := (Kd.zck h).1 g hg
 have : q = 4 := by
  have hq' : q ∈ ([4] : List Nat) := hq
  simpa using hq'
 subst this
 exact ⟨cells, hc⟩
theorem NB.ne {w : World} {v : Value} {n g t : Nat} {cs : Array Value} (h : NB w v n) (hg : w.heap[g]? = some (.cells cs t (0, 0))) (ht : t ≠ 4) : v.ownBlock ≠ some g := by
 obtain ⟨_, _, _, _, _, h3⟩ := h
 intro e
 obtain ⟨cs', hc⟩ := h3 g e
 rw [hc] at hg
 injection hg with hg
 injection hg with _ hg
 exact ht hg.symm
theorem NB.set {w : World} {v : Value} {n g : Nat} (h : NB w v n) (hn : v.ownBlock ≠ some g) (i : Nat) (u : Value) : NB (w.setCell ⟨g, i, none⟩ u) v n := by
 obtain ⟨A, c, rfl, h1, h2, h3⟩ := h
 refine ⟨A, c, rfl, h1, Kd.C_keep false h2 ((zbP.refl w g none).set_ i u) (fun ad ha _ hb => hn (by subst ha; rw [← hb]; rfl)), fun k hk => ?_⟩
 obtain ⟨cs, hc⟩ := h3 k hk
 exact ⟨cs, zaA hc (fun hkg => hn (by rw [hk]; exact congrArg some hkg)) u⟩
theorem NB.form {w : World} {v : Value} {n : Nat} (h : NB w v n) : ∃ A L c, v = .slice A L c := by
 obtain ⟨A, c, rfl, _⟩ := h
 exact ⟨A, _, c, rfl⟩
theorem add_c {a b : Nat} (ha : Sz a) (hb : Sz b) {w : World} {u v : Value} (hu : NB w u a) (hv : NB w v b) :
  Calls Tryd.prog 69 #[u, v] w fun e w' => ∃ x, e = .returned x ∧ NB w' x (a + b) ∧ Below w.heap.size w w' := by
 obtain ⟨A0, c0, rfl, h0, r0, _⟩ := hu
 obtain ⟨A1, c1, rfl, h1, r1, _⟩ := hv
 have := zeE (bof a) (bof b) (by unfold Sz at ha; omega) (by unfold Sz at hb; omega)
 rw [zbX, zbX] at this
 obtain ⟨k, hk⟩ := Ev.rounds this
 refine (zaq.calls k A0 c0 (bof a) A1 c1 (bof b) _ w r0 h0 r1 h1 hk).mono ?_
 rintro e w' ⟨x, rfl, hR, hB⟩
 exact ⟨x, rfl, zdr hR, hB⟩
theorem sub_c {a b : Nat} (ha : Sz a) (hle : b ≤ a) {w : World} {u v : Value} (hu : NB w u a) (hv : NB w v b) :
  Calls Tryd.prog 71 #[u, v] w fun e w' => ∃ x, e = .returned x ∧ NB w' x (a - b) ∧ Below w.heap.size w w' := by
 obtain ⟨A0, c0, rfl, h0, r0, _⟩ := hu
 obtain ⟨A1, c1, rfl, h1, r1, _⟩ := hv
 have := zgR (bof a) (bof b) (by unfold Sz at ha; omega) (by rw [zbX, zbX]; exact hle)
 rw [zbX, zbX] at this
 obtain ⟨k, hk⟩ := Ev.rounds this
 refine (zau.calls k A0 c0 (bof a) A1 c1 (bof b) _ w r0 h0 r1 h1 hk).mono ?_
 rintro e w' ⟨x, rfl, hR, hB⟩
 exact ⟨x, rfl, zdr hR, hB⟩
theorem zeM {a b : Nat} (ha : Sz a) (hb : Sz b) {w : World} {u v : Value} (hu : NB w u a) (hv : NB w v b) :
  Calls Tryd.prog 49 #[u, v] w fun e w' => ∃ x, e = .returned x ∧ NB w' x (a * b) ∧ Below w.heap.size w w' := by
 obtain ⟨A0, c0, rfl, h0, r0, _⟩ := hu
 obtain ⟨A1, c1, rfl, h1, r1, _⟩ := hv
 have := zfZ (bof a) (bof b) (by unfold Sz at ha; omega) (by unfold Sz at hb; omega)
 rw [zbX, zbX] at this
 obtain ⟨k, hk⟩ := Ev.rounds this
 refine (zaQ.calls k A0 c0 (bof a) A1 c1 (bof b) _ w r0 h0 r1 h1 hk).mono ?_
 rintro e w' ⟨x, rfl, hR, hB⟩
 exact ⟨x, rfl, zdr hR, hB⟩
theorem less_c {a b : Nat} (ha : Sz a) {w : World} {u v : Value} (hu : NB w u a) (hv : NB w v b) :
  Calls Tryd.prog 70 #[u, v] w fun e w' => e = .returned (.bool (decide (a < b))) ∧ Below w.heap.size w w' := by
 obtain ⟨A0, c0, rfl, h0, r0, _⟩ := hu
 obtain ⟨A1, c1, rfl, h1, r1, _⟩ := hv
 obtain ⟨k, hk⟩ := Ev.rounds (zf2 a b (by unfold Sz at ha; omega))
 refine (zaY.calls k A0 c0 (bof a) A1 c1 (bof b) _ w r0 h0 r1 h1 hk).mono ?_
 rintro e w' ⟨rfl, hD⟩
 exact ⟨rfl, hD.below⟩
theorem to_c {n d : Nat} (hn : Sz n) (hd : Sz d) (h0 : 0 < d) (m : Bool) {w : World} {u v : Value} (hu : NB w u n) (hv : NB w v d) :
  Calls Tryd.prog 47 #[.agg #[u, v, .bool m]] w fun e w' => e = .returned (.tuple #[.agg #[.int .i64 (BallQ.put (n / Nat.gcd n d) (d / Nat.gcd n d) m).1, .int .i64 (BallQ.put (n / Nat.gcd n d) (d / Nat.gcd n d) m).2.1], .int .i64 (BallQ.put (n / Nat.gcd n d) (d / Nat.gcd n d) m).2.2]) ∧ Below w.heap.size w w' := by
 obtain ⟨A0, c0, rfl, h0', r0, _⟩ := hu
 obtain ⟨A1, c1, rfl, h1', r1, _⟩ := hv
 obtain ⟨k, hk⟩ := Ev.rounds (to_ev n d hn hd h0 m)
 exact zaS.calls k A0 c0 (bof n) A1 c1 (bof d) m _ _ _ w r0 h0' r1 h1' hk
theorem zd3 (n d : Int) (hn : BallQ.In64 n) (hd : BallQ.In64 d) (w : World) :
  Calls Tryd.prog 27 #[.agg #[.int .i64 n, .int .i64 d]] w fun e w' => e = .returned (.bool (decide (BallQ.Right n d))) ∧ Below w.heap.size w w' := by
 obtain ⟨k, hk⟩ := Ev.rounds (zc5 n d hn hd)
 exact zaz.calls k n d _ w hk
theorem zc7 (n d : Int) (hn : BallQ.In64 n) (hd : BallQ.In64 d) (w : World) :
  Calls Tryd.prog 46 #[.agg #[.int .i64 n, .int .i64 d]] w fun e w' => ∃ x y, e = .returned (.agg #[x, y, .bool (decide (n < 0))]) ∧ NB w' x n.natAbs ∧ NB w' y d.natAbs ∧ Below w.heap.size w w' := by
 have hf : Ev (fun k => zbi.f k n d) (bof n.natAbs, bof d.natAbs, decide (n < 0)) := by
  unfold zbi.f
  exact Ev.bind (zcz n hn.1 hn.2) (Ev.bind (zcz d hd.1 hd.2) (Ev.now _))
 obtain ⟨k, hk⟩ := Ev.rounds hf
 refine (zbi.calls k n d _ _ _ w hk).mono ?_
 rintro e w' ⟨x, y, rfl, hX, hY, hB⟩
 exact ⟨x, y, rfl, zdr hX, zdr hY, hB⟩
end Go.Proofs.YtijhnmbegceonaaDoor.PRef
namespace Go.Proofs.YtijhnmbegceonaaDoor.PRef
open Go Go.RowKit Go.Proofs.YtijhnmbegceonaaDoorW.PrintWords Go.Proofs.YtijhnmbegceonaaDoorW.PrintLast Go.Proofs.YtijhnmbegceonaaDoorW.PrintMore BallBits
attribute [local go_sem] zbr zbp zbz zby zbh zbg zbq zbo
set_option linter.unusedVariables false
set_option linter.unusedSimpArgs false
theorem cutw {P : Program} {code : Code} {Q : Exit → Act → World → Prop} {a : Act} {w : World} (F : World → Prop) (hF : F w) (h : ∀ w', F w' → code.wp P Q a w') : code.wp P Q a w := h w hF
theorem three (w : World) (a b c : Obj) : (((w.alloc a).alloc b).alloc c).heap[w.heap.size]? = some a ∧ (((w.alloc a).alloc b).alloc c).heap[w.heap.size + 1]? = some b ∧ (((w.alloc a).alloc b).alloc c).heap[w.heap.size + 1 + 1]? = some c := by
 have e1 : (w.alloc a).heap.size = w.heap.size + 1 := by show (w.heap.push a).size = _; simp
 have e2 : ((w.alloc a).alloc b).heap.size = w.heap.size + 1 + 1 := by show ((w.alloc a).heap.push b).size = _; simp [e1]
 refine ⟨?_, ?_, ?_⟩
 ·exact zad (zad (by simpa using heap_alloc_new w a) b) c
 ·rw [← e1]; exact zad (by simpa using heap_alloc_new (w.alloc a) b) c
 ·rw [← e2]; simpa using heap_alloc_new ((w.alloc a).alloc b) c
theorem cl0 {W : World} {g : Nat} {t : TypeId} {a b c : Value} (h : W.heap[g]? = some (.cells #[a, b, c] t (0, 0))) : W.cell? ⟨g, 0, none⟩ = some a ∧ W.cell? ⟨g, 1, none⟩ = some b ∧ W.cell? ⟨g, 2, none⟩ = some c := ⟨(zak h 0).trans rfl, (zak h 1).trans rfl, (zak h 2).trans rfl⟩
theorem cl2 {W : World} {g : Nat} {t : TypeId} {a b : Value} (h : W.heap[g]? = some (.cells #[a, b] t (0, 0))) : W.cell? ⟨g, 0, none⟩ = some a ∧ W.cell? ⟨g, 1, none⟩ = some b := ⟨(zak h 0).trans rfl, (zak h 1).trans rfl⟩
def zen.T : Bool × List (List Nat × List Nat) := (true, [([], []), ([0], [0]), ([], []), ([2], [2]), ([1, 3], [1, 3]), ([], []), ([5], [5]), ([], []), ([7], [7]), ([6, 8, 4], [6, 8]), ([4, 9, 0, 1, 2, 3, 4], [4]), ([9, 10, 0, 1, 2, 3, 4, 5, 6, 7, 8, 9, 10], [9])])
def zen.B : List Nat := [0, 1, 0, 4, 15, 0, 32, 0, 128, 511, 1023, 2047]
theorem zen.tab : rtab .any (opsOf Tryd.f48 1) = zen.T := by kernel_rfl
theorem zen.bits : zcb zen.T.2 zen.B = true := by kernel_rfl
def sgn (m : Bool) (n : Nat) : Int := if m then -(n : Int) else (n : Int)
def sumN (a b c d : Nat) (m1 m2 : Bool) : Nat := if m1 == m2 then a * d + c * b else if a * d < c * b then c * b - a * d else a * d - c * b
def sumM (a b c d : Nat) (m1 m2 : Bool) : Bool := if m1 == m2 then m1 else if a * d < c * b then m2 else m1
set_option maxHeartbeats 4000000 in
set_option maxRecDepth 100000 in
theorem sum_c (a b c d : Nat) (m1 m2 : Bool) (w : World) (va vb vc vd : Value) (ha : NB w va a) (hb : NB w vb b) (hc : NB w vc c) (hd : NB w vd d) (sa : Sz a) (sb : Sz b) (sc : Sz c) (sd : Sz d) (sad : Sz (a * d)) (scb : Sz (c * b)) :
  Calls Tryd.prog 48 #[.agg #[va, vb, .bool m1], .agg #[vc, vd, .bool m2]] w fun e w' => ∃ x y, e = .returned (.agg #[x, y, .bool (sumM a b c d m1 m2)]) ∧ NB w' x (sumN a b c d m1 m2) ∧ NB w' y (b * d) ∧ Below w.heap.size w w' := by
 have Na := Aside0.mk ha
 have Nb := Aside0.mk hb
 have Nc := Aside0.mk hc
 have Nd := Aside0.mk hd
 obtain ⟨Aa, La, na, rfl⟩ := NB.form ha
 obtain ⟨Ab, Lb, nb, rfl⟩ := NB.form hb
 obtain ⟨Ac, Lc, nc, rfl⟩ := NB.form hc
 obtain ⟨Ad, Ld, nd, rfl⟩ := NB.form hd
 have SZ := Aside0.mk (show Sz a ∧ Sz b ∧ Sz c ∧ Sz d ∧ Sz (a * d) ∧ Sz (c * b) from ⟨sa, sb, sc, sd, sad, scb⟩)
 clear ha hb hc hd sa sb sc sd sad scb
 go_enter Tryd.func48, Tryd.ntmps48
 go_wp2_with (fail)
 have T3 := three w (.cells #[.slice Aa La na, .slice Ab Lb nb, .bool m1] 62 (0, 0)) (.cells #[.slice Ac Lc nc, .slice Ad Ld nd, .bool m2] 62 (0, 0)) (.cells #[.slice none 0 0, .slice none 0 0, .bool false] 62 (0, 0))
 have B3 := zac (zac (zac (Below.refl w.heap.size w) (.cells #[.slice Aa La na, .slice Ab Lb nb, .bool m1] 62 (0, 0))) (.cells #[.slice Ac Lc nc, .slice Ad Ld nd, .bool m2] 62 (0, 0))) (.cells #[.slice none 0 0, .slice none 0 0, .bool false] 62 (0, 0))
 refine cutw (F := fun W => (W.heap[w.heap.size]? = some (.cells #[.slice Aa La na, .slice Ab Lb nb, .bool m1] 62 (0, 0)) ∧ W.heap[w.heap.size + 1]? = some (.cells #[.slice Ac Lc nc, .slice Ad Ld nd, .bool m2] 62 (0, 0)) ∧ W.heap[w.heap.size + 1 + 1]? = some (.cells #[.slice none 0 0, .slice none 0 0, .bool false] 62 (0, 0))) ∧ Below w.heap.size w W) ⟨T3, B3⟩ ?_
 clear T3 B3
 rintro W ⟨⟨hX, hY, hZ⟩, hB⟩
 have HX := Aside0.mk hX
 have HY := Aside0.mk hY
 have HZ := Aside0.mk hZ
 have HB := Aside0.mk hB
 have qa := (cl0 hX).1
 have qb := (cl0 hX).2.1
 have qc := (cl0 hY).1
 have qd := (cl0 hY).2.1
 clear hX hY hZ hB
 have HBq := Aside0.mk (zaf HB.out)
 have HXq := Aside0.mk (zai HX.out)
 have HYq := Aside0.mk (zai HY.out)
 have HZq := Aside0.mk (zai HZ.out)
 refine zcP (n := 12) (S := fun w' => w'.cell? ⟨w.heap.size, 0, none⟩ = some (.slice Aa La na) ∧ w'.cell? ⟨w.heap.size, 1, none⟩ = some (.slice Ab Lb nb) ∧ w'.cell? ⟨w.heap.size + 1, 0, none⟩ = some (.slice Ac Lc nc) ∧ w'.cell? ⟨w.heap.size + 1, 1, none⟩ = some (.slice Ad Ld nd)) (ds := []) #[false, false, false, false, false, false, false, false, false, false, false, false] (by kernel_rfl) rfl rfl (⟨qa, qb, qc, qd⟩) (fun hHeld => ?_); refine zb8 zen.tab zen.bits (fun HT_ HW_ => ?_)
 clear qa qb qc qd HX HY HZ HB
 generalize W.drew = W1 at HBq HXq HYq HZq hHeld ⊢
 refine zbB (i := 0) (N := some 8) (v := ?_) (a' := ?_) #[true, false, false, false, false, false, false, false, false, false, false, false] rfl rfl (zbm HT_.out (by kernel_rfl)) (fun _ _ _ h => h) (Or.inl ⟨by rfl, ?_⟩) ?_ ?_
 rotate_left
 ·intro w'
  go_simp
  with_reducible rfl
 rotate_left
 ·simp only [Act.put, List.setIfInBounds_toArray, List.set_cons_zero, List.set_cons_succ, zaL, zaN]
  rfl
 refine zbB (i := 2) (N := some 10) (v := ?_) (a' := ?_) #[true, false, true, false, false, false, false, false, false, false, false, false] rfl rfl (zbm HT_.out (by kernel_rfl)) (fun _ _ _ h => h) (Or.inl ⟨by rfl, ?_⟩) ?_ ?_
 rotate_left
 ·intro w'
  go_simp
  with_reducible rfl
 rotate_left
 ·simp only [Act.put, List.setIfInBounds_toArray, List.set_cons_zero, List.set_cons_succ, zaL, zaN]
  rfl
 refine zbB (i := 5) (N := some 13) (v := ?_) (a' := ?_) #[true, false, true, false, false, true, false, false, false, false, false, false] rfl rfl (zbm HT_.out (by kernel_rfl)) (fun _ _ _ h => h) (Or.inl ⟨by rfl, ?_⟩) ?_ ?_
 rotate_left
 ·intro w'
  go_simp
  with_reducible rfl
 rotate_left
 ·simp only [Act.put, List.setIfInBounds_toArray, List.set_cons_zero, List.set_cons_succ, zaL, zaN]
  rfl
 refine zbB (i := 7) (N := some 15) (v := ?_) (a' := ?_) #[true, false, true, false, false, true, false, true, false, false, false, false] rfl rfl (zbm HT_.out (by kernel_rfl)) (fun _ _ _ h => h) (Or.inl ⟨by rfl, ?_⟩) ?_ ?_
 rotate_left
 ·intro w'
  go_simp
  with_reducible rfl
 rotate_left
 ·simp only [Act.put, List.setIfInBounds_toArray, List.set_cons_zero, List.set_cons_succ, zaL, zaN]
  rfl
 refine zb4 (i := 1) (N := some 9) (v := ?_) (a' := ?_) #[true, true, true, false, false, true, false, true, false, false, false, false] rfl rfl (zbv HT_.out HW_.out (by kernel_rfl)) (fun _ _ _ h => h) (Or.inl ⟨by rfl, ?_⟩) hHeld ?_ ?_
 rotate_left
 ·intro w' s0
  obtain ⟨s1, s2, s3, s4⟩ := s0
  go_simp
  with_reducible rfl
 rotate_left
 ·simp only [Act.put, List.setIfInBounds_toArray, List.set_cons_zero, List.set_cons_succ, zaL, zaN]
  rfl
 refine zb4 (i := 3) (N := some 11) (v := ?_) (a' := ?_) #[true, true, true, true, false, true, false, true, false, false, false, false] rfl rfl (zbv HT_.out HW_.out (by kernel_rfl)) (fun _ _ _ h => h) (Or.inl ⟨by rfl, ?_⟩) hHeld ?_ ?_
 rotate_left
 ·intro w' s0
  obtain ⟨s1, s2, s3, s4⟩ := s0
  go_simp
  with_reducible rfl
 rotate_left
 ·simp only [Act.put, List.setIfInBounds_toArray, List.set_cons_zero, List.set_cons_succ, zaL, zaN]
  rfl
 refine zb4 (i := 6) (N := some 14) (v := ?_) (a' := ?_) #[true, true, true, true, false, true, true, true, false, false, false, false] rfl rfl (zbv HT_.out HW_.out (by kernel_rfl)) (fun _ _ _ h => h) (Or.inl ⟨by rfl, ?_⟩) hHeld ?_ ?_
 rotate_left
 ·intro w' s0
  obtain ⟨s1, s2, s3, s4⟩ := s0
  go_simp
  with_reducible rfl
 rotate_left
 ·simp only [Act.put, List.setIfInBounds_toArray, List.set_cons_zero, List.set_cons_succ, zaL, zaN]
  rfl
 refine zb4 (i := 8) (N := some 16) (v := ?_) (a' := ?_) #[true, true, true, true, false, true, true, true, true, false, false, false] rfl rfl (zbv HT_.out HW_.out (by kernel_rfl)) (fun _ _ _ h => h) (Or.inl ⟨by rfl, ?_⟩) hHeld ?_ ?_
 rotate_left
 ·intro w' s0
  obtain ⟨s1, s2, s3, s4⟩ := s0
  go_simp
  with_reducible rfl
 rotate_left
 ·simp only [Act.put, List.setIfInBounds_toArray, List.set_cons_zero, List.set_cons_succ, zaL, zaN]
  rfl
 refine one_ (i := 4) (N := some 12) #[true, true, true, true, true, true, true, true, true, false, false, false] rfl rfl (zbK HT_.out (by kernel_rfl)) (by decide) (fun K hK => ?_)
 refine zce Tryd.func49 (by kernel_rfl) rfl #[.slice Aa La na, .slice Ad Ld nd] (by rfl) rfl rfl (by (try simp only [List.map_toArray, List.map_cons, List.map_nil]); first | done | rfl | (simp only [List.length_drop, List.length_take]; rfl)) ?_
 refine (zeM SZ.out.1 SZ.out.2.2.2.1 (Na.out.below HBq.out) (Nd.out.below HBq.out)).mono ?_
 rintro e W2 ⟨x, rfl, hx, hb⟩
 have NX := Aside0.mk hx
 obtain ⟨Ax, Lx, nx, rfl⟩ := NB.form hx
 clear hx
 have hbb := hb
 have HX2 := Aside0.mk (zaj HXq.out hb)
 have HY2 := Aside0.mk (zaj HYq.out hb)
 have HZ2 := Aside0.mk (zaj HZq.out hb)
 have HB2 := Aside0.mk (zam HBq.out hb)
 have HS_ : W2.cell? ⟨w.heap.size, 0, none⟩ = some (.slice Aa La na) ∧ W2.cell? ⟨w.heap.size, 1, none⟩ = some (.slice Ab Lb nb) ∧ W2.cell? ⟨w.heap.size + 1, 0, none⟩ = some (.slice Ac Lc nc) ∧ W2.cell? ⟨w.heap.size + 1, 1, none⟩ = some (.slice Ad Ld nd) := ⟨(cl0 HX2.out).1, (cl0 HX2.out).2.1, (cl0 HY2.out).1, (cl0 HY2.out).2.1⟩
 clear hbb hb
 refine ⟨_, rfl, ?_⟩
 refine hK.out _ _ HS_ (fun hHeld => ?_)
 clear hK K
 refine zbE (a' := ?_) ?_ ?_
 rotate_left
 ·show Act.put _ (some 12) _ = _
  simp only [Act.put, List.setIfInBounds_toArray, List.set_cons_zero, List.set_cons_succ, zaL, zaN]
  rfl
 refine one_ (i := 9) (N := some 17) #[true, true, true, true, true, true, true, true, true, true, false, false] rfl rfl (zbK HT_.out (by kernel_rfl)) (by decide) (fun K hK => ?_)
 refine zce Tryd.func49 (by kernel_rfl) rfl #[.slice Ac Lc nc, .slice Ab Lb nb] (by rfl) rfl rfl (by (try simp only [List.map_toArray, List.map_cons, List.map_nil]); first | done | rfl | (simp only [List.length_drop, List.length_take]; rfl)) ?_
 refine (zeM SZ.out.2.2.1 SZ.out.2.1 (Nc.out.below HB2.out) (Nb.out.below HB2.out)).mono ?_
 rintro e W3 ⟨y, rfl, hy, hb⟩
 have NY := Aside0.mk hy
 obtain ⟨Ay, Ly, ny, rfl⟩ := NB.form hy
 have NX3 := Aside0.mk (NX.out.below hb)
 clear hy
 have hbb := hb
 have HX3 := Aside0.mk (zaj HX2.out hb)
 have HY3 := Aside0.mk (zaj HY2.out hb)
 have HZ3 := Aside0.mk (zaj HZ2.out hb)
 have HB3 := Aside0.mk (zam HB2.out hb)
 have HS_ : W3.cell? ⟨w.heap.size, 0, none⟩ = some (.slice Aa La na) ∧ W3.cell? ⟨w.heap.size, 1, none⟩ = some (.slice Ab Lb nb) ∧ W3.cell? ⟨w.heap.size + 1, 0, none⟩ = some (.slice Ac Lc nc) ∧ W3.cell? ⟨w.heap.size + 1, 1, none⟩ = some (.slice Ad Ld nd) := ⟨(cl0 HX3.out).1, (cl0 HX3.out).2.1, (cl0 HY3.out).1, (cl0 HY3.out).2.1⟩
 clear hbb hb
 refine ⟨_, rfl, ?_⟩
 refine hK.out _ _ HS_ (fun hHeld => ?_)
 clear hK K
 refine zbE (a' := ?_) ?_ ?_
 rotate_left
 ·show Act.put _ (some 17) _ = _
  simp only [Act.put, List.setIfInBounds_toArray, List.set_cons_zero, List.set_cons_succ, zaL, zaN]
  rfl
 refine zbB (i := 10) (N := some 5) (v := ?_) (a' := ?_) #[true, true, true, true, true, true, true, true, true, true, true, false] rfl rfl (zbm HT_.out (by kernel_rfl)) (fun _ _ _ h => h) (Or.inl ⟨by rfl, ?_⟩) ?_ ?_
 rotate_left
 ·intro w'
  go_simp
  with_reducible rfl
 rotate_left
 ·simp only [Act.put, List.setIfInBounds_toArray, List.set_cons_zero, List.set_cons_succ, zaL, zaN]
  rfl
 refine zbB (i := 11) (N := some 6) (v := ?_) (a' := ?_) #[true, true, true, true, true, true, true, true, true, true, true, true] rfl rfl (zbm HT_.out (by kernel_rfl)) (fun _ _ _ h => h) (Or.inl ⟨by rfl, ?_⟩) ?_ ?_
 rotate_left
 ·intro w'
  go_simp
  with_reducible rfl
 rotate_left
 ·simp only [Act.put, List.setIfInBounds_toArray, List.set_cons_zero, List.set_cons_succ, zaL, zaN]
  rfl
 refine zdK (zcu HT_.out (by kernel_rfl)) ?_
 have qb := (cl0 HX3.out).2.1
 have qd := (cl0 HY3.out).2.1
 go_wp2_with (fail)
 refine (zeM SZ.out.2.1 SZ.out.2.2.2.1 (Nb.out.below HB3.out) (Nd.out.below HB3.out)).mono ?_
 rintro e W4 ⟨z, rfl, hz, hb⟩
 have NZ4 := Aside0.mk hz
 obtain ⟨Az, Lz, cz, rfl⟩ := NB.form hz
 have NX4 := Aside0.mk (NX3.out.below hb)
 have NY4 := Aside0.mk (NY.out.below hb)
 have HX4 := Aside0.mk (zaj HX3.out hb)
 have HY4 := Aside0.mk (zaj HY3.out hb)
 have HZ4 := Aside0.mk (zaj HZ3.out hb)
 have HB4 := Aside0.mk (zam HB3.out hb)
 clear hz hb qb qd hHeld
 go_upto_region 3 with (fail)
 obtain ⟨g4, hg4⟩ : ∃ g4 : Nat, W4.heap.size = g4 := ⟨_, rfl⟩
 have HG5 := zbO W4 (.cells #[.slice none 0 0, .slice Az Lz cz, .bool false] 62 (0, 0))
 have E4 := Aside0.mk (show w.heap.size < g4 ∧ w.heap.size + 1 < g4 ∧ w.heap.size + 1 + 1 < g4 from hg4 ▸ ⟨za3 HX4.out, za3 HY4.out, za3 HZ4.out⟩)
 have BW := Aside0.mk (zac (Below.refl W4.heap.size W4) (.cells #[.slice none 0 0, .slice Az Lz cz, .bool false] 62 (0, 0)))
 rw [hg4] at HG5 ⊢
 refine cutw (F := fun W => (W.heap[w.heap.size]? = some (.cells #[.slice Aa La na, .slice Ab Lb nb, .bool m1] 62 (0, 0)) ∧ W.heap[w.heap.size + 1]? = some (.cells #[.slice Ac Lc nc, .slice Ad Ld nd, .bool m2] 62 (0, 0)) ∧ W.heap[w.heap.size + 1 + 1]? = some (.cells #[.slice none 0 0, .slice none 0 0, .bool false] 62 (0, 0)) ∧ W.heap[g4]? = some (.cells #[.slice none 0 0, .slice Az Lz cz, .bool false] 62 (0, 0)) ∧ Below w.heap.size w W) ∧ NB W (.slice Ax Lx nx) (a * d) ∧ NB W (.slice Ay Ly ny) (c * b) ∧ NB W (.slice Az Lz cz) (b * d)) ⟨⟨zad HX4.out _, zad HY4.out _, zad HZ4.out _, HG5, zac HB4.out _⟩, NX4.out.below BW.out, NY4.out.below BW.out, NZ4.out.below BW.out⟩ ?_
 clear HG5 BW HX4 HY4 HZ4 HB4 NX4 NY4 NZ4 hg4 HX3 HY3 HZ3 HB3 HX2 HY2 HZ2 HB2 HXq HYq HZq HBq NX NX3 NY
 have hE4 := E4.out
 obtain ⟨g1, hg1⟩ : ∃ g1 : Nat, w.heap.size = g1 := ⟨_, rfl⟩
 obtain ⟨g2, hg2⟩ : ∃ g2 : Nat, w.heap.size + 1 = g2 := ⟨_, rfl⟩
 obtain ⟨g3, hg3⟩ : ∃ g3 : Nat, w.heap.size + 1 + 1 = g3 := ⟨_, rfl⟩
 have GE := Aside0.mk (show w.heap.size ≤ g3 ∧ w.heap.size ≤ g4 by omega)
 have NE := Aside0.mk (show g1 ≠ g2 ∧ g1 ≠ g3 ∧ g1 ≠ g4 ∧ g2 ≠ g3 ∧ g2 ≠ g4 ∧ g3 ≠ g4 by omega)
 rw [hg3, hg2]
 clear hE4 E4
 rintro W5 ⟨⟨hX, hY, hZ, hG, hB⟩, nx', ny', nz'⟩
 rw [hg1] at hX ⊢
 have HX := Aside0.mk hX
 have HY := Aside0.mk hY
 have HZ := Aside0.mk hZ
 have HG := Aside0.mk hG
 have HB := Aside0.mk hB
 have NX := Aside0.mk nx'
 have NY := Aside0.mk ny'
 have NZ := Aside0.mk nz'
 have q1 := (cl0 hX).2.2
 have q2 := (cl0 hY).2.2
 clear hX hY hZ hG hB nx' ny' nz' hg1 hg2 hg3
 by_cases hm : m1 = m2
 ·subst hm
  have hmm : (m1 == m1) = true := by simp
  have E1' := Aside0.mk (show sumN a b c d m1 m1 = a * d + c * b by simp [sumN])
  have E2' := Aside0.mk (show sumM a b c d m1 m1 = m1 by simp [sumM])
  go_wp2_with (fail)
  refine (add_c SZ.out.2.2.2.2.1 SZ.out.2.2.2.2.2 NX.out NY.out).mono ?_
  rintro e W6 ⟨v, rfl, hv, hb⟩
  have NV := Aside0.mk hv
  obtain ⟨Av, Lv, cv, rfl⟩ := NB.form hv
  have NZ6 := Aside0.mk (NZ.out.below hb)
  have HX6 := Aside0.mk (zaj HX.out hb)
  have HY6 := Aside0.mk (zaj HY.out hb)
  have HZ6 := Aside0.mk (zaj HZ.out hb)
  have HG6 := Aside0.mk (zaj HG.out hb)
  have HB6 := Aside0.mk (zam HB.out hb)
  clear hv hb q1 q2 HX HY HZ HG HB NX NY NZ
  have kX0 := (cl0 HX6.out).1
  have fX0 := zah HX6.out 0
  have kX1 := (cl0 HX6.out).2.1
  have fX1 := zah HX6.out 1
  have kX2 := (cl0 HX6.out).2.2
  have fX2 := zah HX6.out 2
  have kY0 := (cl0 HY6.out).1
  have fY0 := zah HY6.out 0
  have kY1 := (cl0 HY6.out).2.1
  have fY1 := zah HY6.out 1
  have kY2 := (cl0 HY6.out).2.2
  have fY2 := zah HY6.out 2
  have kZ0 := (cl0 HZ6.out).1
  have fZ0 := zah HZ6.out 0
  have kZ1 := (cl0 HZ6.out).2.1
  have fZ1 := zah HZ6.out 1
  have kZ2 := (cl0 HZ6.out).2.2
  have fZ2 := zah HZ6.out 2
  have kG0 := (cl0 HG6.out).1
  have fG0 := zah HG6.out 0
  have kG1 := (cl0 HG6.out).2.1
  have fG1 := zah HG6.out 1
  have kG2 := (cl0 HG6.out).2.2
  have fG2 := zah HG6.out 2
  obtain ⟨n12, n13, n14, n23, n24, n34⟩ := NE.out
  have n21 := Ne.symm n12
  have n31 := Ne.symm n13
  have n41 := Ne.symm n14
  have n32 := Ne.symm n23
  have n42 := Ne.symm n24
  have n43 := Ne.symm n34
  go_wp2_with (fail)
  refine bodyPost_ret (results_cell_row rfl _ _ g3 62 #[.slice Av Lv cv, .slice Az Lz cz, .bool m1] (0, 0) _ rfl (zay (cs := #[.slice Av Lv cv, .slice Az Lz cz, .bool false]) (zay (cs := #[.slice Av Lv cv, .slice none 0 0, .bool false]) (zay (cs := #[.slice none 0 0, .slice none 0 0, .bool false]) (zaA (zaA HZ6.out n34 _) n34 _) 0 _ rfl) 1 _ rfl) 2 _ rfl) Tryd.underlying62 rfl (by kernel_rfl)) rfl ?_
  have o1 := NV.out.ne HG6.out (by decide)
  have o2 := NV.out.ne HZ6.out (by decide)
  have o3 := NZ6.out.ne HG6.out (by decide)
  have o4 := NZ6.out.ne HZ6.out (by decide)
  skip
  exact ⟨_, _, by rw [E2'.out], by rw [E1'.out]; exact ((((NV.out.set o1 _ _).set o1 _ _).set o2 _ _).set o2 _ _).set o2 _ _, ((((NZ6.out.set o3 _ _).set o3 _ _).set o4 _ _).set o4 _ _).set o4 _ _, zab (zab (zab (zab (zab HB6.out GE.out.2) GE.out.2) GE.out.1) GE.out.1) GE.out.1⟩
 ·have hmm : (m1 == m2) = false := by simpa using hm
  go_wp2_with (fail)
  refine (less_c SZ.out.2.2.2.2.1 NX.out NY.out).mono ?_
  rintro e W9 ⟨rfl, hb⟩
  replace HX := Aside0.mk (zaj HX.out hb)
  replace HY := Aside0.mk (zaj HY.out hb)
  replace HZ := Aside0.mk (zaj HZ.out hb)
  replace HG := Aside0.mk (zaj HG.out hb)
  replace HB := Aside0.mk (zam HB.out hb)
  replace NX := Aside0.mk (NX.out.below hb)
  replace NY := Aside0.mk (NY.out.below hb)
  replace NZ := Aside0.mk (NZ.out.below hb)
  clear hb q1 q2
  have q1 := True.intro
  have q2 := True.intro
  by_cases hl : a * d < c * b
  ·have E1' := Aside0.mk (show sumN a b c d m1 m2 = c * b - a * d by simp [sumN, hmm, hl])
   have E2' := Aside0.mk (show sumM a b c d m1 m2 = m2 by simp [sumM, hmm, hl])
   have hl' : decide (a * d < c * b) = true := decide_eq_true hl
   rw [hl']
   clear hl'
   go_wp2_with (fail)
   refine (sub_c SZ.out.2.2.2.2.2 (Nat.le_of_lt hl) NY.out NX.out).mono ?_
   rintro e W6 ⟨v, rfl, hv, hb⟩
   have NV := Aside0.mk hv
   obtain ⟨Av, Lv, cv, rfl⟩ := NB.form hv
   have NZ6 := Aside0.mk (NZ.out.below hb)
   have HX6 := Aside0.mk (zaj HX.out hb)
   have HY6 := Aside0.mk (zaj HY.out hb)
   have HZ6 := Aside0.mk (zaj HZ.out hb)
   have HG6 := Aside0.mk (zaj HG.out hb)
   have HB6 := Aside0.mk (zam HB.out hb)
   clear hv hb q1 q2 HX HY HZ HG HB NX NY NZ
   have kX0 := (cl0 HX6.out).1
   have fX0 := zah HX6.out 0
   have kX1 := (cl0 HX6.out).2.1
   have fX1 := zah HX6.out 1
   have kX2 := (cl0 HX6.out).2.2
   have fX2 := zah HX6.out 2
   have kY0 := (cl0 HY6.out).1
   have fY0 := zah HY6.out 0
   have kY1 := (cl0 HY6.out).2.1
   have fY1 := zah HY6.out 1
   have kY2 := (cl0 HY6.out).2.2
   have fY2 := zah HY6.out 2
   have kZ0 := (cl0 HZ6.out).1
   have fZ0 := zah HZ6.out 0
   have kZ1 := (cl0 HZ6.out).2.1
   have fZ1 := zah HZ6.out 1
   have kZ2 := (cl0 HZ6.out).2.2
   have fZ2 := zah HZ6.out 2
   have kG0 := (cl0 HG6.out).1
   have fG0 := zah HG6.out 0
   have kG1 := (cl0 HG6.out).2.1
   have fG1 := zah HG6.out 1
   have kG2 := (cl0 HG6.out).2.2
   have fG2 := zah HG6.out 2
   obtain ⟨n12, n13, n14, n23, n24, n34⟩ := NE.out
   have n21 := Ne.symm n12
   have n31 := Ne.symm n13
   have n41 := Ne.symm n14
   have n32 := Ne.symm n23
   have n42 := Ne.symm n24
   have n43 := Ne.symm n34
   go_wp2_with (fail)
   refine bodyPost_ret (results_cell_row rfl _ _ g3 62 #[.slice Av Lv cv, .slice Az Lz cz, .bool m2] (0, 0) _ rfl (zay (cs := #[.slice Av Lv cv, .slice Az Lz cz, .bool false]) (zay (cs := #[.slice Av Lv cv, .slice none 0 0, .bool false]) (zay (cs := #[.slice none 0 0, .slice none 0 0, .bool false]) (zaA (zaA HZ6.out n34 _) n34 _) 0 _ rfl) 1 _ rfl) 2 _ rfl) Tryd.underlying62 rfl (by kernel_rfl)) rfl ?_
   have o1 := NV.out.ne HG6.out (by decide)
   have o2 := NV.out.ne HZ6.out (by decide)
   have o3 := NZ6.out.ne HG6.out (by decide)
   have o4 := NZ6.out.ne HZ6.out (by decide)
   skip
   exact ⟨_, _, by rw [E2'.out], by rw [E1'.out]; exact ((((NV.out.set o1 _ _).set o1 _ _).set o2 _ _).set o2 _ _).set o2 _ _, ((((NZ6.out.set o3 _ _).set o3 _ _).set o4 _ _).set o4 _ _).set o4 _ _, zab (zab (zab (zab (zab HB6.out GE.out.2) GE.out.2) GE.out.1) GE.out.1) GE.out.1⟩
  ·have E1' := Aside0.mk (show sumN a b c d m1 m2 = a * d - c * b by simp [sumN, hmm, hl])
   have E2' := Aside0.mk (show sumM a b c d m1 m2 = m1 by simp [sumM, hmm, hl])
   have hl' : decide (a * d < c * b) = false := decide_eq_false hl
   rw [hl']
   clear hl'
   go_wp2_with (fail)
   refine (sub_c SZ.out.2.2.2.2.1 (Nat.le_of_not_lt hl) NX.out NY.out).mono ?_
   rintro e W6 ⟨v, rfl, hv, hb⟩
   have NV := Aside0.mk hv
   obtain ⟨Av, Lv, cv, rfl⟩ := NB.form hv
   have NZ6 := Aside0.mk (NZ.out.below hb)
   have HX6 := Aside0.mk (zaj HX.out hb)
   have HY6 := Aside0.mk (zaj HY.out hb)
   have HZ6 := Aside0.mk (zaj HZ.out hb)
   have HG6 := Aside0.mk (zaj HG.out hb)
   have HB6 := Aside0.mk (zam HB.out hb)
   clear hv hb q1 q2 HX HY HZ HG HB NX NY NZ
   have kX0 := (cl0 HX6.out).1
   have fX0 := zah HX6.out 0
   have kX1 := (cl0 HX6.out).2.1
   have fX1 := zah HX6.out 1
   have kX2 := (cl0 HX6.out).2.2
   have fX2 := zah HX6.out 2
   have kY0 := (cl0 HY6.out).1
   have fY0 := zah HY6.out 0
   have kY1 := (cl0 HY6.out).2.1
   have fY1 := zah HY6.out 1
   have kY2 := (cl0 HY6.out).2.2
   have fY2 := zah HY6.out 2
   have kZ0 := (cl0 HZ6.out).1
   have fZ0 := zah HZ6.out 0
   have kZ1 := (cl0 HZ6.out).2.1
   have fZ1 := zah HZ6.out 1
   have kZ2 := (cl0 HZ6.out).2.2
   have fZ2 := zah HZ6.out 2
   have kG0 := (cl0 HG6.out).1
   have fG0 := zah HG6.out 0
   have kG1 := (cl0 HG6.out).2.1
   have fG1 := zah HG6.out 1
   have kG2 := (cl0 HG6.out).2.2
   have fG2 := zah HG6.out 2
   obtain ⟨n12, n13, n14, n23, n24, n34⟩ := NE.out
   have n21 := Ne.symm n12
   have n31 := Ne.symm n13
   have n41 := Ne.symm n14
   have n32 := Ne.symm n23
   have n42 := Ne.symm n24
   have n43 := Ne.symm n34
   go_wp2_with (fail)
   refine bodyPost_ret (results_cell_row rfl _ _ g3 62 #[.slice Av Lv cv, .slice Az Lz cz, .bool m1] (0, 0) _ rfl (zay (cs := #[.slice Av Lv cv, .slice Az Lz cz, .bool false]) (zay (cs := #[.slice Av Lv cv, .slice none 0 0, .bool false]) (zay (cs := #[.slice none 0 0, .slice none 0 0, .bool false]) (zaA (zaA HZ6.out n34 _) n34 _) 0 _ rfl) 1 _ rfl) 2 _ rfl) Tryd.underlying62 rfl (by kernel_rfl)) rfl ?_
   have o1 := NV.out.ne HG6.out (by decide)
   have o2 := NV.out.ne HZ6.out (by decide)
   have o3 := NZ6.out.ne HG6.out (by decide)
   have o4 := NZ6.out.ne HZ6.out (by decide)
   skip
   exact ⟨_, _, by rw [E2'.out], by rw [E1'.out]; exact ((((NV.out.set o1 _ _).set o1 _ _).set o2 _ _).set o2 _ _).set o2 _ _, ((((NZ6.out.set o3 _ _).set o3 _ _).set o4 _ _).set o4 _ _).set o4 _ _, zab (zab (zab (zab (zab HB6.out GE.out.2) GE.out.2) GE.out.1) GE.out.1) GE.out.1⟩
end Go.Proofs.YtijhnmbegceonaaDoor.PRef
namespace Go.Proofs.YtijhnmbegceonaaDoor.PRef
open Go Go.RowKit Go.Proofs.YtijhnmbegceonaaDoorW.PrintWords Go.Proofs.YtijhnmbegceonaaDoorW.PrintLast Go.Proofs.YtijhnmbegceonaaDoorW.PrintMore BallBits
attribute [local go_sem] zbr zbp zbz zby zbh zbg zbq zbo
set_option linter.unusedVariables false
set_option linter.unusedSimpArgs false
def zey.T : Bool × List (List Nat × List Nat) := (true, [([], []), ([0], [0]), ([], []), ([2, 1], [2]), ([], []), ([], []), ([4, 1, 3, 0, 1, 4, 5], [1, 4]), ([5, 3, 6, 0, 1, 2, 3, 4, 5, 6], [3, 5])])
def zey.B : List Nat := [0, 1, 0, 7, 0, 0, 63, 127]
theorem zey.tab : rtab .any (opsOf Tryd.f26 3) = zey.T := by kernel_rfl
theorem zey.bits : zcb zey.T.2 zey.B = true := by kernel_rfl
def zc9.T : Bool × List (List Nat × List Nat) := (true, [([], []), ([0], [0]), ([], []), ([2], [2]), ([1, 3], [1, 3]), ([], []), ([5], [5]), ([], []), ([7], [7]), ([6, 8, 4], [6, 8]), ([], []), ([10], [10]), ([], []), ([12], [12]), ([11, 13], [11, 13]), ([4, 9, 14], [4, 9, 14]), ([15, 9], [15]), ([16], [16]), ([16], [16]), ([17, 16, 0, 1, 2, 3, 4, 5, 6, 7, 8, 9, 10, 11, 12, 13, 14, 15, 16, 17, 18], [17]), ([18, 19, 0, 1, 2, 3, 4, 5, 6, 7, 8, 9, 10, 11, 12, 13, 14, 15, 16, 17, 18, 19], [18])])
def zc9.B : List Nat := [0, 1, 0, 4, 15, 0, 32, 0, 128, 511, 0, 1024, 0, 4096, 15360, 32767, 65535, 131071, 131071, 524287, 1048575]
theorem zc9.tab : rtab .any (opsOf Tryd.f26 11) = zc9.T := by kernel_rfl
theorem zc9.bits : zcb zc9.T.2 zc9.B = true := by kernel_rfl
def zc8.T : Bool × List (List Nat × List Nat) := (true, [([], []), ([0], [0]), ([], []), ([2], [2]), ([1, 3], [1, 3]), ([], []), ([5], [5]), ([], []), ([7], [7]), ([6, 8, 4], [6, 8]), ([], []), ([10], [10]), ([], []), ([12], [12]), ([11, 13], [11, 13]), ([4, 9, 14], [4, 9, 14]), ([15, 9], [15]), ([16], [16]), ([16], [16]), ([17, 16, 0, 1, 2, 3, 4, 5, 6, 7, 8, 9, 10, 11, 12, 13, 14, 15, 16, 17, 18], [17]), ([18, 19, 0, 1, 2, 3, 4, 5, 6, 7, 8, 9, 10, 11, 12, 13, 14, 15, 16, 17, 18, 19], [18])])
def zc8.B : List Nat := [0, 1, 0, 4, 15, 0, 32, 0, 128, 511, 0, 1024, 0, 4096, 15360, 32767, 65535, 131071, 131071, 524287, 1048575]
theorem zc8.tab : rtab .any (opsOf Tryd.f26 12) = zc8.T := by kernel_rfl
theorem zc8.bits : zcb zc8.T.2 zc8.B = true := by kernel_rfl
def good (op : Nat) (n1 d1 n2 d2 : Int) : Int × Int × Int :=
 let a := n1.natAbs; let b := d1.natAbs; let c := n2.natAbs; let d := d2.natAbs
 let f := fun (n m : Nat) (s : Bool) => BallQ.put (n / Nat.gcd n m) (m / Nat.gcd n m) s
 match op with
 | 0 => f (sumN a b c d (decide (n1 < 0)) (decide (n2 < 0))) (b * d) (sumM a b c d (decide (n1 < 0)) (decide (n2 < 0)))
 | 1 => f (sumN a b c d (decide (n1 < 0)) (!decide (n2 < 0))) (b * d) (sumM a b c d (decide (n1 < 0)) (!decide (n2 < 0)))
 | 2 => f (a * c) (b * d) (decide (n1 < 0) != decide (n2 < 0))
 | _ => f (a * d) (b * c) (decide (n1 < 0) != decide (n2 < 0))
theorem sz65 {n : Nat} (h : n ≤ 9223372036854775808) : Sz n := sz64 (by omega)
theorem szm {a b : Nat} (ha : a ≤ 9223372036854775808) (hb : b ≤ 9223372036854775808) : a * b ≤ 85070591730234615865843651857942052864 := Nat.le_trans (Nat.mul_le_mul ha hb) (by decide)
theorem sz129 {n : Nat} (h : n < 680564733841876926926749214863536422912) : Sz n := Nat.le_trans (zbI (m := 129) h) (by omega)
theorem zhf (a b c d : Nat) (m1 m2 : Bool) : sumN a b c d m1 m2 ≤ a * d + c * b := by
 unfold sumN
 split
 ·exact Nat.le_refl _
 ·split
  ·exact Nat.le_trans (Nat.sub_le _ _) (Nat.le_add_left _ _)
  ·exact Nat.le_trans (Nat.sub_le _ _) (Nat.le_add_right _ _)
def Sizes (a b c d : Nat) (n2 : Int) : Prop := Sz a ∧ Sz b ∧ Sz c ∧ Sz d ∧ Sz (a * d) ∧ Sz (c * b) ∧ Sz (b * d) ∧ 0 < b * d ∧ Sz (a * c) ∧ (n2 ≠ 0 → 0 < b * c)
theorem sizes {n1 d1 n2 d2 : Int} (hi : BallQ.In64 n1 ∧ BallQ.In64 d1 ∧ BallQ.In64 n2 ∧ BallQ.In64 d2) (hr : BallQ.Right n1 d1 ∧ BallQ.Right n2 d2) : Sizes n1.natAbs d1.natAbs n2.natAbs d2.natAbs n2 := by
 obtain ⟨⟨a0, a1⟩, ⟨b0, b1⟩, ⟨c0, c1⟩, ⟨e0, e1⟩⟩ := hi
 have ha : n1.natAbs ≤ 9223372036854775808 := by omega
 have hb : d1.natAbs ≤ 9223372036854775808 := by omega
 have hc : n2.natAbs ≤ 9223372036854775808 := by omega
 have hd : d2.natAbs ≤ 9223372036854775808 := by omega
 have pb : 0 < d1.natAbs := by have := hr.1.1; omega
 have pd : 0 < d2.natAbs := by have := hr.2.1; omega
 have lt : ∀ {x : Nat}, x ≤ 85070591730234615865843651857942052864 → Sz x := fun h => sz129 (Nat.lt_of_le_of_lt h (by decide))
 exact ⟨sz65 ha, sz65 hb, sz65 hc, sz65 hd, lt (szm ha hd), lt (szm hc hb), lt (szm hb hd), Nat.mul_pos pb pd, lt (szm ha hc), fun h => Nat.mul_pos pb (by omega)⟩
theorem zfH {n1 d1 n2 d2 : Int} (hi : BallQ.In64 n1 ∧ BallQ.In64 d1 ∧ BallQ.In64 n2 ∧ BallQ.In64 d2) (m1 m2 : Bool) : Sz (sumN n1.natAbs d1.natAbs n2.natAbs d2.natAbs m1 m2) := by
 obtain ⟨⟨a0, a1⟩, ⟨b0, b1⟩, ⟨c0, c1⟩, ⟨e0, e1⟩⟩ := hi
 have h1 := szm (a := n1.natAbs) (b := d2.natAbs) (by omega) (by omega)
 have h2 := szm (a := n2.natAbs) (b := d1.natAbs) (by omega) (by omega)
 have h3 := zhf n1.natAbs d1.natAbs n2.natAbs d2.natAbs m1 m2
 exact sz129 (Nat.lt_of_le_of_lt (Nat.le_trans h3 (Nat.add_le_add h1 h2)) (by decide))
set_option maxHeartbeats 4000000 in
set_option maxRecDepth 100000 in
theorem zg0 (op : Int) (n1 d1 n2 d2 : Int) (w : World) (hi : BallQ.In64 n1 ∧ BallQ.In64 d1 ∧ BallQ.In64 n2 ∧ BallQ.In64 d2) (hbad : ¬ BallQ.Right n1 d1 ∨ ¬ BallQ.Right n2 d2 ∨ (op = 3 ∧ n2 = 0)) :
  Calls Tryd.prog 26 #[.int .i64 op, .agg #[.int .i64 n1, .int .i64 d1], .agg #[.int .i64 n2, .int .i64 d2]] w fun e w' => e = .returned (.tuple #[.agg #[.int .i64 0, .int .i64 0], .int .i64 2]) ∧ Below w.heap.size w w' := by
 have HI := Aside0.mk hi
 clear hi
 go_enter Tryd.func26, Tryd.ntmps26
 go_wp2_with (fail)
 have T3 := three w (.cells #[.int .i64 n1, .int .i64 d1] 24 (0, 0)) (.cells #[.int .i64 n2, .int .i64 d2] 24 (0, 0)) (.cells #[.int .i64 0, .int .i64 0] 24 (0, 0))
 have B3 := zac (zac (zac (Below.refl w.heap.size w) (.cells #[.int .i64 n1, .int .i64 d1] 24 (0, 0))) (.cells #[.int .i64 n2, .int .i64 d2] 24 (0, 0))) (.cells #[.int .i64 0, .int .i64 0] 24 (0, 0))
 refine (zd3 n1 d1 HI.out.1 HI.out.2.1 _).mono ?_
 rintro e W1 ⟨rfl, hb⟩
 have HX := Aside0.mk (zaj T3.1 hb)
 have HY := Aside0.mk (zaj T3.2.1 hb)
 have HZ := Aside0.mk (zaj T3.2.2 hb)
 have HB := Aside0.mk (zam B3 hb)
 clear T3 B3 hb
 obtain ⟨g1, hg1⟩ : ∃ g1 : Nat, w.heap.size = g1 := ⟨_, rfl⟩
 obtain ⟨g2, hg2⟩ : ∃ g2 : Nat, w.heap.size + 1 = g2 := ⟨_, rfl⟩
 obtain ⟨g3, hg3⟩ : ∃ g3 : Nat, w.heap.size + 1 + 1 = g3 := ⟨_, rfl⟩
 have GE := Aside0.mk (show w.heap.size ≤ g3 by omega)
 have NE := Aside0.mk (show g1 ≠ g2 ∧ g1 ≠ g3 ∧ g2 ≠ g3 by omega)
 have E := Aside0.mk hg1
 rw [hg3] at HZ
 rw [hg2] at HY
 rw [hg1] at HX
 rw [hg3, hg2, hg1]
 clear hg1 hg2 hg3
 have kX0 := (cl2 HX.out).1
 have fX0 := zah HX.out 0
 have kX1 := (cl2 HX.out).2
 have fX1 := zah HX.out 1
 have kY0 := (cl2 HY.out).1
 have fY0 := zah HY.out 0
 have kY1 := (cl2 HY.out).2
 have fY1 := zah HY.out 1
 have kZ0 := (cl2 HZ.out).1
 have fZ0 := zah HZ.out 0
 have kZ1 := (cl2 HZ.out).2
 have fZ1 := zah HZ.out 1
 obtain ⟨n12, n13, n23⟩ := NE.out
 have n21 := Ne.symm n12
 have n31 := Ne.symm n13
 have n32 := Ne.symm n23
 by_cases h1 : BallQ.Right n1 d1
 ·have d1' : decide (BallQ.Right n1 d1) = true := decide_eq_true h1
  rw [d1']
  go_wp2_with (fail)
  refine (zd3 n2 d2 HI.out.2.2.1 HI.out.2.2.2 _).mono ?_
  rintro e W2 ⟨rfl, hb⟩
  have HX2 := Aside0.mk (zaj HX.out hb)
  have HY2 := Aside0.mk (zaj HY.out hb)
  have HZ2 := Aside0.mk (zaj HZ.out hb)
  have HB2 := Aside0.mk (zam HB.out hb)
  clear hb kX0 fX0 kX1 fX1 kY0 fY0 kY1 fY1 kZ0 fZ0 kZ1 fZ1 HX HY HZ HB
  have kX0 := (cl2 HX2.out).1
  have fX0 := zah HX2.out 0
  have kX1 := (cl2 HX2.out).2
  have fX1 := zah HX2.out 1
  have kY0 := (cl2 HY2.out).1
  have fY0 := zah HY2.out 0
  have kY1 := (cl2 HY2.out).2
  have fY1 := zah HY2.out 1
  have kZ0 := (cl2 HZ2.out).1
  have fZ0 := zah HZ2.out 0
  have kZ1 := (cl2 HZ2.out).2
  have fZ1 := zah HZ2.out 1
  by_cases h2 : BallQ.Right n2 d2
  ·have d2' : decide (BallQ.Right n2 d2) = true := decide_eq_true h2
   rw [d2']
   have h3 : op = 3 ∧ n2 = 0 := by
    rcases hbad with h | h | h
    ·exact absurd h1 h
    ·exact absurd h2 h
    ·exact h
   obtain ⟨rfl, rfl⟩ := h3
   skip
   go_wp2_with (fail)
   refine bodyPost_ret (za7 rfl _ _ g3 24 #[.int .i64 0, .int .i64 0] (0, 0) _ rfl (zay (cs := #[.int .i64 0, .int .i64 0]) (zay (cs := #[.int .i64 0, .int .i64 0]) HZ2.out 0 _ rfl) 1 _ rfl) Tryd.underlying24 rfl (by kernel_rfl)) rfl ?_
   exact ⟨rfl, zab (zab HB2.out GE.out) GE.out⟩
  ·have d2' : decide (BallQ.Right n2 d2) = false := decide_eq_false h2
   rw [d2']
   skip
   go_wp2_with (fail)
   refine bodyPost_ret (za7 rfl _ _ g3 24 #[.int .i64 0, .int .i64 0] (0, 0) _ rfl (zay (cs := #[.int .i64 0, .int .i64 0]) (zay (cs := #[.int .i64 0, .int .i64 0]) HZ2.out 0 _ rfl) 1 _ rfl) Tryd.underlying24 rfl (by kernel_rfl)) rfl ?_
   exact ⟨rfl, zab (zab HB2.out GE.out) GE.out⟩
 ·have d1' : decide (BallQ.Right n1 d1) = false := decide_eq_false h1
  rw [d1']
  skip
  go_wp2_with (fail)
  refine bodyPost_ret (za7 rfl _ _ g3 24 #[.int .i64 0, .int .i64 0] (0, 0) _ rfl (zay (cs := #[.int .i64 0, .int .i64 0]) (zay (cs := #[.int .i64 0, .int .i64 0]) HZ.out 0 _ rfl) 1 _ rfl) Tryd.underlying24 rfl (by kernel_rfl)) rfl ?_
  exact ⟨rfl, zab (zab HB.out GE.out) GE.out⟩
set_option maxHeartbeats 8000000 in
set_option maxRecDepth 100000 in
theorem zga (op : Nat) (n1 d1 n2 d2 : Int) (w : World) (hi : BallQ.In64 n1 ∧ BallQ.In64 d1 ∧ BallQ.In64 n2 ∧ BallQ.In64 d2) (h1 : BallQ.Right n1 d1) (h2 : BallQ.Right n2 d2) (h3 : op = 3 → n2 ≠ 0) (ho : op = 0 ∨ op = 1 ∨ op = 2 ∨ op = 3) :
  Calls Tryd.prog 26 #[.int .i64 (op : Int), .agg #[.int .i64 n1, .int .i64 d1], .agg #[.int .i64 n2, .int .i64 d2]] w fun e w' => e = .returned (.tuple #[.agg #[.int .i64 (good op n1 d1 n2 d2).1, .int .i64 (good op n1 d1 n2 d2).2.1], .int .i64 (good op n1 d1 n2 d2).2.2]) ∧ Below w.heap.size w w' := by
 have HI := Aside0.mk hi
 have HR := Aside0.mk (show BallQ.Right n1 d1 ∧ BallQ.Right n2 d2 from ⟨h1, h2⟩)
 have HO := Aside0.mk (show (op = 3 → n2 ≠ 0) ∧ (op = 0 ∨ op = 1 ∨ op = 2 ∨ op = 3) from ⟨h3, ho⟩)
 clear hi h1 h2 h3 ho
 go_enter Tryd.func26, Tryd.ntmps26
 go_upto_region 1 with (fail)
 have T3 := three w (.cells #[.int .i64 n1, .int .i64 d1] 24 (0, 0)) (.cells #[.int .i64 n2, .int .i64 d2] 24 (0, 0)) (.cells #[.int .i64 0, .int .i64 0] 24 (0, 0))
 have B3 := zac (zac (zac (Below.refl w.heap.size w) (.cells #[.int .i64 n1, .int .i64 d1] 24 (0, 0))) (.cells #[.int .i64 n2, .int .i64 d2] 24 (0, 0))) (.cells #[.int .i64 0, .int .i64 0] 24 (0, 0))
 refine cutw (F := fun W => (W.heap[w.heap.size]? = some (.cells #[.int .i64 n1, .int .i64 d1] 24 (0, 0))) ∧ (W.heap[w.heap.size + 1]? = some (.cells #[.int .i64 n2, .int .i64 d2] 24 (0, 0))) ∧ (W.heap[w.heap.size + 1 + 1]? = some (.cells #[.int .i64 0, .int .i64 0] 24 (0, 0))) ∧ Below w.heap.size w W) ⟨T3.1, T3.2.1, T3.2.2, B3⟩ ?_
 clear T3 B3
 rintro W0 ⟨hX, hY, hZ, hB⟩
 obtain ⟨g1, hg1⟩ : ∃ g1 : Nat, w.heap.size = g1 := ⟨_, rfl⟩
 obtain ⟨g2, hg2⟩ : ∃ g2 : Nat, w.heap.size + 1 = g2 := ⟨_, rfl⟩
 obtain ⟨g3, hg3⟩ : ∃ g3 : Nat, w.heap.size + 1 + 1 = g3 := ⟨_, rfl⟩
 have GE := Aside0.mk (show w.heap.size ≤ g3 by omega)
 have NE := Aside0.mk (show g1 ≠ g2 ∧ g1 ≠ g3 ∧ g2 ≠ g3 by omega)
 rw [hg3] at hZ
 rw [hg2] at hY
 rw [hg1] at hX
 rw [hg3, hg2, hg1]
 have HX := Aside0.mk hX
 have HY := Aside0.mk hY
 have HZ := Aside0.mk hZ
 have HB := Aside0.mk hB
 clear hg1 hg2 hg3 hX hY hZ hB
 go_cut [26] (fun v26 W => v26 = .bool false ∧ Aside0 (W.heap[g1]? = some (.cells #[.int .i64 n1, .int .i64 d1] 24 (0, 0))) ∧ Aside0 (W.heap[g2]? = some (.cells #[.int .i64 n2, .int .i64 d2] 24 (0, 0))) ∧ Aside0 (W.heap[g3]? = some (.cells #[.int .i64 0, .int .i64 0] 24 (0, 0))) ∧ Aside0 (Below w.heap.size w W))
 case first =>
  have kX0 := (cl2 HX.out).1
  have fX0 := zah HX.out 0
  have kX1 := (cl2 HX.out).2
  have fX1 := zah HX.out 1
  have kY0 := (cl2 HY.out).1
  have fY0 := zah HY.out 0
  have kY1 := (cl2 HY.out).2
  have fY1 := zah HY.out 1
  have kZ0 := (cl2 HZ.out).1
  have fZ0 := zah HZ.out 0
  have kZ1 := (cl2 HZ.out).2
  have fZ1 := zah HZ.out 1
  obtain ⟨n12, n13, n23⟩ := NE.out
  have n21 := Ne.symm n12
  have n31 := Ne.symm n13
  have n32 := Ne.symm n23
  go_wp2_with (fail)
  refine (zd3 n1 d1 HI.out.1 HI.out.2.1 _).mono ?_
  rintro e W1 ⟨rfl, hb⟩
  rw [decide_eq_true HR.out.1]
  clear kX0 fX0 kX1 fX1 kY0 fY0 kY1 fY1 kZ0 fZ0 kZ1 fZ1
  replace HX := Aside0.mk (zaj HX.out hb)
  replace HY := Aside0.mk (zaj HY.out hb)
  replace HZ := Aside0.mk (zaj HZ.out hb)
  replace HB := Aside0.mk (zam HB.out hb)
  clear hb
  have kX0 := (cl2 HX.out).1
  have fX0 := zah HX.out 0
  have kX1 := (cl2 HX.out).2
  have fX1 := zah HX.out 1
  have kY0 := (cl2 HY.out).1
  have fY0 := zah HY.out 0
  have kY1 := (cl2 HY.out).2
  have fY1 := zah HY.out 1
  have kZ0 := (cl2 HZ.out).1
  have fZ0 := zah HZ.out 0
  have kZ1 := (cl2 HZ.out).2
  have fZ1 := zah HZ.out 1
  go_wp2_with (fail)
  refine (zd3 n2 d2 HI.out.2.2.1 HI.out.2.2.2 _).mono ?_
  rintro e W2 ⟨rfl, hb⟩
  rw [decide_eq_true HR.out.2]
  clear kX0 fX0 kX1 fX1 kY0 fY0 kY1 fY1 kZ0 fZ0 kZ1 fZ1
  replace HX := Aside0.mk (zaj HX.out hb)
  replace HY := Aside0.mk (zaj HY.out hb)
  replace HZ := Aside0.mk (zaj HZ.out hb)
  replace HB := Aside0.mk (zam HB.out hb)
  clear hb
  have kX0 := (cl2 HX.out).1
  have fX0 := zah HX.out 0
  have kX1 := (cl2 HX.out).2
  have fX1 := zah HX.out 1
  have kY0 := (cl2 HY.out).1
  have fY0 := zah HY.out 0
  have kY1 := (cl2 HY.out).2
  have fY1 := zah HY.out 1
  have kZ0 := (cl2 HZ.out).1
  have fZ0 := zah HZ.out 0
  have kZ1 := (cl2 HZ.out).2
  have fZ1 := zah HZ.out 1
  by_cases ho3 : op = 3
  ·have hn2 : (n2 == 0) = false := by simpa using HO.out.1 ho3
   subst ho3
   go_wp2_with (fail)
   go_meet
   case rel => exact ⟨rfl, HX, HY, HZ, HB⟩
  ·have q4 : ((op : Int) == 3) = false := by simp; omega
   go_wp2_with (fail)
   go_meet
   case rel => exact ⟨rfl, HX, HY, HZ, HB⟩
 case rest =>
  obtain ⟨rfl, HX, HY, HZ, HB⟩ := hcut
  go_wp2_with (fail)
  have HBq := Aside0.mk (zaf HB.out)
  have HXq := Aside0.mk (zai HX.out)
  have HYq := Aside0.mk (zai HY.out)
  have HZq := Aside0.mk (zai HZ.out)
  have sX := cl2 HX.out
  have sY := cl2 HY.out
  clear HX HY HZ HB
  refine zcP (n := 8) (S := fun w' => (w'.cell? ⟨g1, 0, none⟩ = some (.int .i64 n1) ∧ w'.cell? ⟨g1, 1, none⟩ = some (.int .i64 d1)) ∧ (w'.cell? ⟨g2, 0, none⟩ = some (.int .i64 n2) ∧ w'.cell? ⟨g2, 1, none⟩ = some (.int .i64 d2))) (ds := []) #[false, false, false, false, false, false, false, false] (by kernel_rfl) rfl rfl (⟨sX, sY⟩) (fun hHeld => ?_); refine zb8 zey.tab zey.bits (fun HT_ HW_ => ?_)
  clear sX sY
  generalize wc.drew = W at HBq HXq HYq HZq hHeld ⊢
  have hX := HXq.out
  have hY := HYq.out
  have hZ := HZq.out
  have hB := HBq.out
  refine zb4 (i := 0) (N := some 28) (v := ?_) (a' := ?_) #[true, false, false, false, false, false, false, false] rfl rfl (zbv HT_.out HW_.out (by kernel_rfl)) (fun _ _ _ h => h) (Or.inl ⟨by rfl, ?_⟩) hHeld ?_ ?_
  rotate_left
  ·intro w' s0
   obtain ⟨⟨s1, s2⟩, s3, s4⟩ := s0
   go_simp
   with_reducible rfl
  rotate_left
  ·simp only [Act.put, List.setIfInBounds_toArray, List.set_cons_zero, List.set_cons_succ, zaL, zaN]
   rfl
  refine zb4 (i := 2) (N := some 30) (v := ?_) (a' := ?_) #[true, false, true, false, false, false, false, false] rfl rfl (zbv HT_.out HW_.out (by kernel_rfl)) (fun _ _ _ h => h) (Or.inl ⟨by rfl, ?_⟩) hHeld ?_ ?_
  rotate_left
  ·intro w' s0
   obtain ⟨⟨s1, s2⟩, s3, s4⟩ := s0
   go_simp
   with_reducible rfl
  rotate_left
  ·simp only [Act.put, List.setIfInBounds_toArray, List.set_cons_zero, List.set_cons_succ, zaL, zaN]
   rfl
  refine zc0 (σ := Value × Value × Value × Value × Nat × Nat) 2 #[true, true, true, true, true, true, false, false] (fun s => [(29, .agg #[s.1, s.2.1, .bool (decide (n1 < 0))]), (31, .agg #[s.2.2.1, s.2.2.2.1, .bool (decide (n2 < 0))]), (8, .pointer (some ⟨s.2.2.2.2.1, 0, none⟩)), (9, .pointer (some ⟨s.2.2.2.2.2, 0, none⟩))]) (fun s W' => (((W'.heap[g1]? = some (.cells #[.int .i64 n1, .int .i64 d1] 24 (0, 0)))) ∧ ((W'.heap[g2]? = some (.cells #[.int .i64 n2, .int .i64 d2] 24 (0, 0)))) ∧ ((W'.heap[g3]? = some (.cells #[.int .i64 0, .int .i64 0] 24 (0, 0)))) ∧ Below w.heap.size w W') ∧ (NB W' s.1 n1.natAbs ∧ NB W' s.2.1 d1.natAbs) ∧ (NB W' s.2.2.1 n2.natAbs ∧ NB W' s.2.2.2.1 d2.natAbs) ∧ (W'.heap[s.2.2.2.2.1]? = some (.cells #[.slice none 0 0, .slice none 0 0, .bool false] 62 (0, 0)) ∧ w.heap.size ≤ s.2.2.2.2.1) ∧ (W'.heap[s.2.2.2.2.2]? = some (.cells #[.slice none 0 0, .slice none 0 0, .bool false] 62 (0, 0)) ∧ w.heap.size ≤ s.2.2.2.2.2) ∧ s.2.2.2.2.1 ≠ s.2.2.2.2.2) ?_ ?_
  rotate_left
  ·intro hN1345
   refine zc0 (σ := Value × Value × Nat × Nat) 3 #[true, true, true, false, true, true, false, false] (fun s => [(29, .agg #[s.1, s.2.1, .bool (decide (n1 < 0))]), (8, .pointer (some ⟨s.2.2.1, 0, none⟩)), (9, .pointer (some ⟨s.2.2.2, 0, none⟩))]) (fun s W' => (((W'.heap[g1]? = some (.cells #[.int .i64 n1, .int .i64 d1] 24 (0, 0)))) ∧ ((W'.heap[g2]? = some (.cells #[.int .i64 n2, .int .i64 d2] 24 (0, 0)))) ∧ ((W'.heap[g3]? = some (.cells #[.int .i64 0, .int .i64 0] 24 (0, 0)))) ∧ Below w.heap.size w W') ∧ (NB W' s.1 n1.natAbs ∧ NB W' s.2.1 d1.natAbs) ∧ (W'.heap[s.2.2.1]? = some (.cells #[.slice none 0 0, .slice none 0 0, .bool false] 62 (0, 0)) ∧ w.heap.size ≤ s.2.2.1) ∧ (W'.heap[s.2.2.2]? = some (.cells #[.slice none 0 0, .slice none 0 0, .bool false] 62 (0, 0)) ∧ w.heap.size ≤ s.2.2.2) ∧ s.2.2.1 ≠ s.2.2.2) ?_ ?_
   rotate_left
   ·intro hN145
    refine zc0 (σ := Value × Value × Value × Value × Nat) 3 #[true, true, true, true, true, false, false, false] (fun s => [(29, .agg #[s.1, s.2.1, .bool (decide (n1 < 0))]), (31, .agg #[s.2.2.1, s.2.2.2.1, .bool (decide (n2 < 0))]), (8, .pointer (some ⟨s.2.2.2.2, 0, none⟩))]) (fun s W' => (((W'.heap[g1]? = some (.cells #[.int .i64 n1, .int .i64 d1] 24 (0, 0)))) ∧ ((W'.heap[g2]? = some (.cells #[.int .i64 n2, .int .i64 d2] 24 (0, 0)))) ∧ ((W'.heap[g3]? = some (.cells #[.int .i64 0, .int .i64 0] 24 (0, 0)))) ∧ Below w.heap.size w W') ∧ (NB W' s.1 n1.natAbs ∧ NB W' s.2.1 d1.natAbs) ∧ (NB W' s.2.2.1 n2.natAbs ∧ NB W' s.2.2.2.1 d2.natAbs) ∧ (W'.heap[s.2.2.2.2]? = some (.cells #[.slice none 0 0, .slice none 0 0, .bool false] 62 (0, 0)) ∧ w.heap.size ≤ s.2.2.2.2) ∧ True) ?_ ?_
    rotate_left
    ·intro hN134
     refine zc0 (σ := Value × Value × Value × Value × Nat) 3 #[true, true, true, true, false, true, false, false] (fun s => [(29, .agg #[s.1, s.2.1, .bool (decide (n1 < 0))]), (31, .agg #[s.2.2.1, s.2.2.2.1, .bool (decide (n2 < 0))]), (9, .pointer (some ⟨s.2.2.2.2, 0, none⟩))]) (fun s W' => (((W'.heap[g1]? = some (.cells #[.int .i64 n1, .int .i64 d1] 24 (0, 0)))) ∧ ((W'.heap[g2]? = some (.cells #[.int .i64 n2, .int .i64 d2] 24 (0, 0)))) ∧ ((W'.heap[g3]? = some (.cells #[.int .i64 0, .int .i64 0] 24 (0, 0)))) ∧ Below w.heap.size w W') ∧ (NB W' s.1 n1.natAbs ∧ NB W' s.2.1 d1.natAbs) ∧ (NB W' s.2.2.1 n2.natAbs ∧ NB W' s.2.2.2.1 d2.natAbs) ∧ (W'.heap[s.2.2.2.2]? = some (.cells #[.slice none 0 0, .slice none 0 0, .bool false] 62 (0, 0)) ∧ w.heap.size ≤ s.2.2.2.2) ∧ True) ?_ ?_
     rotate_left
     ·intro hN135
      refine zc0 (σ := Nat × Nat) 4 #[true, false, true, false, true, true, false, false] (fun s => [(8, .pointer (some ⟨s.1, 0, none⟩)), (9, .pointer (some ⟨s.2, 0, none⟩))]) (fun s W' => (((W'.heap[g1]? = some (.cells #[.int .i64 n1, .int .i64 d1] 24 (0, 0)))) ∧ ((W'.heap[g2]? = some (.cells #[.int .i64 n2, .int .i64 d2] 24 (0, 0)))) ∧ ((W'.heap[g3]? = some (.cells #[.int .i64 0, .int .i64 0] 24 (0, 0)))) ∧ Below w.heap.size w W') ∧ (W'.heap[s.1]? = some (.cells #[.slice none 0 0, .slice none 0 0, .bool false] 62 (0, 0)) ∧ w.heap.size ≤ s.1) ∧ (W'.heap[s.2]? = some (.cells #[.slice none 0 0, .slice none 0 0, .bool false] 62 (0, 0)) ∧ w.heap.size ≤ s.2) ∧ s.1 ≠ s.2) ?_ ?_
      rotate_left
      ·intro hN45
       refine zc0 (σ := Value × Value × Nat) 4 #[true, true, true, false, true, false, false, false] (fun s => [(29, .agg #[s.1, s.2.1, .bool (decide (n1 < 0))]), (8, .pointer (some ⟨s.2.2, 0, none⟩))]) (fun s W' => (((W'.heap[g1]? = some (.cells #[.int .i64 n1, .int .i64 d1] 24 (0, 0)))) ∧ ((W'.heap[g2]? = some (.cells #[.int .i64 n2, .int .i64 d2] 24 (0, 0)))) ∧ ((W'.heap[g3]? = some (.cells #[.int .i64 0, .int .i64 0] 24 (0, 0)))) ∧ Below w.heap.size w W') ∧ (NB W' s.1 n1.natAbs ∧ NB W' s.2.1 d1.natAbs) ∧ (W'.heap[s.2.2]? = some (.cells #[.slice none 0 0, .slice none 0 0, .bool false] 62 (0, 0)) ∧ w.heap.size ≤ s.2.2) ∧ True) ?_ ?_
       rotate_left
       ·intro hN14
        refine zc0 (σ := Value × Value × Nat) 4 #[true, true, true, false, false, true, false, false] (fun s => [(29, .agg #[s.1, s.2.1, .bool (decide (n1 < 0))]), (9, .pointer (some ⟨s.2.2, 0, none⟩))]) (fun s W' => (((W'.heap[g1]? = some (.cells #[.int .i64 n1, .int .i64 d1] 24 (0, 0)))) ∧ ((W'.heap[g2]? = some (.cells #[.int .i64 n2, .int .i64 d2] 24 (0, 0)))) ∧ ((W'.heap[g3]? = some (.cells #[.int .i64 0, .int .i64 0] 24 (0, 0)))) ∧ Below w.heap.size w W') ∧ (NB W' s.1 n1.natAbs ∧ NB W' s.2.1 d1.natAbs) ∧ (W'.heap[s.2.2]? = some (.cells #[.slice none 0 0, .slice none 0 0, .bool false] 62 (0, 0)) ∧ w.heap.size ≤ s.2.2) ∧ True) ?_ ?_
        rotate_left
        ·intro hN15
         refine zc0 (σ := Value × Value × Value × Value) 4 #[true, true, true, true, false, false, false, false] (fun s => [(29, .agg #[s.1, s.2.1, .bool (decide (n1 < 0))]), (31, .agg #[s.2.2.1, s.2.2.2, .bool (decide (n2 < 0))])]) (fun s W' => (((W'.heap[g1]? = some (.cells #[.int .i64 n1, .int .i64 d1] 24 (0, 0)))) ∧ ((W'.heap[g2]? = some (.cells #[.int .i64 n2, .int .i64 d2] 24 (0, 0)))) ∧ ((W'.heap[g3]? = some (.cells #[.int .i64 0, .int .i64 0] 24 (0, 0)))) ∧ Below w.heap.size w W') ∧ (NB W' s.1 n1.natAbs ∧ NB W' s.2.1 d1.natAbs) ∧ (NB W' s.2.2.1 n2.natAbs ∧ NB W' s.2.2.2 d2.natAbs) ∧ True) ?_ ?_
         rotate_left
         ·intro hN13
          refine zc0 (σ := Nat) 5 #[true, false, true, false, true, false, false, false] (fun s => [(8, .pointer (some ⟨s, 0, none⟩))]) (fun s W' => (((W'.heap[g1]? = some (.cells #[.int .i64 n1, .int .i64 d1] 24 (0, 0)))) ∧ ((W'.heap[g2]? = some (.cells #[.int .i64 n2, .int .i64 d2] 24 (0, 0)))) ∧ ((W'.heap[g3]? = some (.cells #[.int .i64 0, .int .i64 0] 24 (0, 0)))) ∧ Below w.heap.size w W') ∧ (W'.heap[s]? = some (.cells #[.slice none 0 0, .slice none 0 0, .bool false] 62 (0, 0)) ∧ w.heap.size ≤ s) ∧ True) ?_ ?_
          rotate_left
          ·intro hN4
           refine zc0 (σ := Nat) 5 #[true, false, true, false, false, true, false, false] (fun s => [(9, .pointer (some ⟨s, 0, none⟩))]) (fun s W' => (((W'.heap[g1]? = some (.cells #[.int .i64 n1, .int .i64 d1] 24 (0, 0)))) ∧ ((W'.heap[g2]? = some (.cells #[.int .i64 n2, .int .i64 d2] 24 (0, 0)))) ∧ ((W'.heap[g3]? = some (.cells #[.int .i64 0, .int .i64 0] 24 (0, 0)))) ∧ Below w.heap.size w W') ∧ (W'.heap[s]? = some (.cells #[.slice none 0 0, .slice none 0 0, .bool false] 62 (0, 0)) ∧ w.heap.size ≤ s) ∧ True) ?_ ?_
           rotate_left
           ·intro hN5
            refine zc0 (σ := Value × Value) 5 #[true, true, true, false, false, false, false, false] (fun s => [(29, .agg #[s.1, s.2, .bool (decide (n1 < 0))])]) (fun s W' => (((W'.heap[g1]? = some (.cells #[.int .i64 n1, .int .i64 d1] 24 (0, 0)))) ∧ ((W'.heap[g2]? = some (.cells #[.int .i64 n2, .int .i64 d2] 24 (0, 0)))) ∧ ((W'.heap[g3]? = some (.cells #[.int .i64 0, .int .i64 0] 24 (0, 0)))) ∧ Below w.heap.size w W') ∧ (NB W' s.1 n1.natAbs ∧ NB W' s.2 d1.natAbs) ∧ True) ?_ ?_
            rotate_left
            ·intro hN1
             refine zgP (i := 1) (j := 4) (k := 5) (Ni := some 29) (Nj := some 8) (Nk := some 9) #[true, true, true, false, false, false, false, false] #[true, false, true, false, true, false, false, false] #[true, false, true, false, false, true, false, false] rfl rfl rfl rfl rfl rfl (ze1 HT_.out (by kernel_rfl)) (by decide) (by decide) (by decide) (fun K hK => ?_) (fun K hK => ?_) (fun K hK => ?_)
             ·skip
              refine zce Tryd.func46 (by kernel_rfl) rfl #[.agg #[.int .i64 n1, .int .i64 d1]] (by rfl) rfl rfl (by (try simp only [List.map_toArray, List.map_cons, List.map_nil]); first | done | rfl) ?_
              refine (zc7 n1 d1 HI.out.1 HI.out.2.1 _).mono ?_
              rintro e W' ⟨x1, y1, rfl, hx1, hy1, hb⟩
              refine ⟨_, rfl, ?_⟩
              have kX := zaj hX hb
              have kY := zaj hY hb
              refine hK.out _ _ ⟨cl2 kX, cl2 kY⟩ (fun hHeld => ?_)
              clear hK K
              refine zbE (a' := zbb _ _) ?_ (hN1 ⟨x1, y1⟩ _ ⟨⟨kX, kY, zaj hZ hb, zam hB hb⟩, ⟨hx1, hy1⟩, trivial⟩)
              first | (simp only [zbb, Act.put, List.setIfInBounds_toArray, List.set_cons_zero, List.set_cons_succ, zaL, zaN]; done) | (simp only [zbb, Act.put, List.setIfInBounds_toArray, List.set_cons_zero, List.set_cons_succ, zaL, zaN]; rfl)
             ·skip
              have hb := zac (Below.refl W.heap.size W) (.cells #[.slice none 0 0, .slice none 0 0, .bool false] 62 (0, 0))
              have h8 := zbO W (.cells #[.slice none 0 0, .slice none 0 0, .bool false] 62 (0, 0))
              have l8 : w.heap.size ≤ W.heap.size := hB.size
              refine zcC (v := .pointer (some ⟨W.heap.size, 0, none⟩)) (w1 := W.alloc (.cells #[.slice none 0 0, .slice none 0 0, .bool false] 62 (0, 0))) (by rfl) rfl (by first | (go_simp; done) | (go_simp; rfl)) ?_
              have kX := zaj hX hb
              have kY := zaj hY hb
              refine hK.out _ _ ⟨cl2 kX, cl2 kY⟩ (fun hHeld => ?_)
              clear hK K
              refine zbE (a' := zbb _ _) ?_ (hN4 W.heap.size _ ⟨⟨kX, kY, zaj hZ hb, zam hB hb⟩, ⟨h8, l8⟩, trivial⟩)
              first | (simp only [zbb, Act.put, List.setIfInBounds_toArray, List.set_cons_zero, List.set_cons_succ, zaL, zaN]; done) | (simp only [zbb, Act.put, List.setIfInBounds_toArray, List.set_cons_zero, List.set_cons_succ, zaL, zaN]; rfl)
             ·skip
              have hb := zac (Below.refl W.heap.size W) (.cells #[.slice none 0 0, .slice none 0 0, .bool false] 62 (0, 0))
              have h9 := zbO W (.cells #[.slice none 0 0, .slice none 0 0, .bool false] 62 (0, 0))
              have l9 : w.heap.size ≤ W.heap.size := hB.size
              refine zcC (v := .pointer (some ⟨W.heap.size, 0, none⟩)) (w1 := W.alloc (.cells #[.slice none 0 0, .slice none 0 0, .bool false] 62 (0, 0))) (by rfl) rfl (by first | (go_simp; done) | (go_simp; rfl)) ?_
              have kX := zaj hX hb
              have kY := zaj hY hb
              refine hK.out _ _ ⟨cl2 kX, cl2 kY⟩ (fun hHeld => ?_)
              clear hK K
              refine zbE (a' := zbb _ _) ?_ (hN5 W.heap.size _ ⟨⟨kX, kY, zaj hZ hb, zam hB hb⟩, ⟨h9, l9⟩, trivial⟩)
              first | (simp only [zbb, Act.put, List.setIfInBounds_toArray, List.set_cons_zero, List.set_cons_succ, zaL, zaN]; done) | (simp only [zbb, Act.put, List.setIfInBounds_toArray, List.set_cons_zero, List.set_cons_succ, zaL, zaN]; rfl)
            ·clear hX hY hZ hB hHeld
             clear HXq HYq HZq HBq W
             rintro ⟨x1, y1⟩ W ⟨⟨hX, hY, hZ, hB⟩, ⟨hx1, hy1⟩, _⟩
             refine zbE (a' := ?_) ?_ ?_
             rotate_left
             ·simp only [zbb, Act.put, List.setIfInBounds_toArray, List.set_cons_zero, List.set_cons_succ, zaL, zaN]
              rfl
             refine zgP (i := 3) (j := 4) (k := 5) (Ni := some 31) (Nj := some 8) (Nk := some 9) #[true, true, true, true, false, false, false, false] #[true, true, true, false, true, false, false, false] #[true, true, true, false, false, true, false, false] rfl rfl rfl rfl rfl rfl (ze1 HT_.out (by kernel_rfl)) (by decide) (by decide) (by decide) (fun K hK => ?_) (fun K hK => ?_) (fun K hK => ?_)
             ·skip
              refine zce Tryd.func46 (by kernel_rfl) rfl #[.agg #[.int .i64 n2, .int .i64 d2]] (by rfl) rfl rfl (by (try simp only [List.map_toArray, List.map_cons, List.map_nil]); first | done | rfl) ?_
              refine (zc7 n2 d2 HI.out.2.2.1 HI.out.2.2.2 _).mono ?_
              rintro e W' ⟨x2, y2, rfl, hx2, hy2, hb⟩
              refine ⟨_, rfl, ?_⟩
              have kX := zaj hX hb
              have kY := zaj hY hb
              refine hK.out _ _ ⟨cl2 kX, cl2 kY⟩ (fun hHeld => ?_)
              clear hK K
              refine zbE (a' := zbb _ _) ?_ (hN13 ⟨x1, y1, x2, y2⟩ _ ⟨⟨kX, kY, zaj hZ hb, zam hB hb⟩, ⟨hx1.below hb, hy1.below hb⟩, ⟨hx2, hy2⟩, trivial⟩)
              first | (simp only [zbb, Act.put, List.setIfInBounds_toArray, List.set_cons_zero, List.set_cons_succ, zaL, zaN]; done) | (simp only [zbb, Act.put, List.setIfInBounds_toArray, List.set_cons_zero, List.set_cons_succ, zaL, zaN]; rfl)
             ·skip
              have hb := zac (Below.refl W.heap.size W) (.cells #[.slice none 0 0, .slice none 0 0, .bool false] 62 (0, 0))
              have h8 := zbO W (.cells #[.slice none 0 0, .slice none 0 0, .bool false] 62 (0, 0))
              have l8 : w.heap.size ≤ W.heap.size := hB.size
              refine zcC (v := .pointer (some ⟨W.heap.size, 0, none⟩)) (w1 := W.alloc (.cells #[.slice none 0 0, .slice none 0 0, .bool false] 62 (0, 0))) (by rfl) rfl (by first | (go_simp; done) | (go_simp; rfl)) ?_
              have kX := zaj hX hb
              have kY := zaj hY hb
              refine hK.out _ _ ⟨cl2 kX, cl2 kY⟩ (fun hHeld => ?_)
              clear hK K
              refine zbE (a' := zbb _ _) ?_ (hN14 ⟨x1, y1, W.heap.size⟩ _ ⟨⟨kX, kY, zaj hZ hb, zam hB hb⟩, ⟨hx1.below hb, hy1.below hb⟩, ⟨h8, l8⟩, trivial⟩)
              first | (simp only [zbb, Act.put, List.setIfInBounds_toArray, List.set_cons_zero, List.set_cons_succ, zaL, zaN]; done) | (simp only [zbb, Act.put, List.setIfInBounds_toArray, List.set_cons_zero, List.set_cons_succ, zaL, zaN]; rfl)
             ·skip
              have hb := zac (Below.refl W.heap.size W) (.cells #[.slice none 0 0, .slice none 0 0, .bool false] 62 (0, 0))
              have h9 := zbO W (.cells #[.slice none 0 0, .slice none 0 0, .bool false] 62 (0, 0))
              have l9 : w.heap.size ≤ W.heap.size := hB.size
              refine zcC (v := .pointer (some ⟨W.heap.size, 0, none⟩)) (w1 := W.alloc (.cells #[.slice none 0 0, .slice none 0 0, .bool false] 62 (0, 0))) (by rfl) rfl (by first | (go_simp; done) | (go_simp; rfl)) ?_
              have kX := zaj hX hb
              have kY := zaj hY hb
              refine hK.out _ _ ⟨cl2 kX, cl2 kY⟩ (fun hHeld => ?_)
              clear hK K
              refine zbE (a' := zbb _ _) ?_ (hN15 ⟨x1, y1, W.heap.size⟩ _ ⟨⟨kX, kY, zaj hZ hb, zam hB hb⟩, ⟨hx1.below hb, hy1.below hb⟩, ⟨h9, l9⟩, trivial⟩)
              first | (simp only [zbb, Act.put, List.setIfInBounds_toArray, List.set_cons_zero, List.set_cons_succ, zaL, zaN]; done) | (simp only [zbb, Act.put, List.setIfInBounds_toArray, List.set_cons_zero, List.set_cons_succ, zaL, zaN]; rfl)
           ·clear hX hY hZ hB hHeld
            clear HXq HYq HZq HBq W
            rintro p9 W ⟨⟨hX, hY, hZ, hB⟩, ⟨h9, l9⟩, _⟩
            refine zbE (a' := ?_) ?_ ?_
            rotate_left
            ·simp only [zbb, Act.put, List.setIfInBounds_toArray, List.set_cons_zero, List.set_cons_succ, zaL, zaN]
             rfl
            refine two_ (i := 1) (j := 4) (Ni := some 29) (Nj := some 8) #[true, true, true, false, false, true, false, false] #[true, false, true, false, true, true, false, false] rfl rfl rfl rfl (zdj HT_.out (by kernel_rfl)) (by decide) (by decide) (fun K hK => ?_) (fun K hK => ?_)
            ·skip
             refine zce Tryd.func46 (by kernel_rfl) rfl #[.agg #[.int .i64 n1, .int .i64 d1]] (by rfl) rfl rfl (by (try simp only [List.map_toArray, List.map_cons, List.map_nil]); first | done | rfl) ?_
             refine (zc7 n1 d1 HI.out.1 HI.out.2.1 _).mono ?_
             rintro e W' ⟨x1, y1, rfl, hx1, hy1, hb⟩
             refine ⟨_, rfl, ?_⟩
             have kX := zaj hX hb
             have kY := zaj hY hb
             refine hK.out _ _ ⟨cl2 kX, cl2 kY⟩ (fun hHeld => ?_)
             clear hK K
             refine zbE (a' := zbb _ _) ?_ (hN15 ⟨x1, y1, p9⟩ _ ⟨⟨kX, kY, zaj hZ hb, zam hB hb⟩, ⟨hx1, hy1⟩, ⟨zaj h9 hb, l9⟩, trivial⟩)
             first | (simp only [zbb, Act.put, List.setIfInBounds_toArray, List.set_cons_zero, List.set_cons_succ, zaL, zaN]; done) | (simp only [zbb, Act.put, List.setIfInBounds_toArray, List.set_cons_zero, List.set_cons_succ, zaL, zaN]; rfl)
            ·skip
             have hb := zac (Below.refl W.heap.size W) (.cells #[.slice none 0 0, .slice none 0 0, .bool false] 62 (0, 0))
             have h8 := zbO W (.cells #[.slice none 0 0, .slice none 0 0, .bool false] 62 (0, 0))
             have l8 : w.heap.size ≤ W.heap.size := hB.size
             refine zcC (v := .pointer (some ⟨W.heap.size, 0, none⟩)) (w1 := W.alloc (.cells #[.slice none 0 0, .slice none 0 0, .bool false] 62 (0, 0))) (by rfl) rfl (by first | (go_simp; done) | (go_simp; rfl)) ?_
             have hl : p9 < W.heap.size := za3 h9
             have kX := zaj hX hb
             have kY := zaj hY hb
             refine hK.out _ _ ⟨cl2 kX, cl2 kY⟩ (fun hHeld => ?_)
             clear hK K
             refine zbE (a' := zbb _ _) ?_ (hN45 ⟨W.heap.size, p9⟩ _ ⟨⟨kX, kY, zaj hZ hb, zam hB hb⟩, ⟨h8, l8⟩, ⟨zaj h9 hb, l9⟩, Nat.ne_of_gt hl⟩)
             first | (simp only [zbb, Act.put, List.setIfInBounds_toArray, List.set_cons_zero, List.set_cons_succ, zaL, zaN]; done) | (simp only [zbb, Act.put, List.setIfInBounds_toArray, List.set_cons_zero, List.set_cons_succ, zaL, zaN]; rfl)
          ·clear hX hY hZ hB hHeld
           clear HXq HYq HZq HBq W
           rintro p8 W ⟨⟨hX, hY, hZ, hB⟩, ⟨h8, l8⟩, _⟩
           refine zbE (a' := ?_) ?_ ?_
           rotate_left
           ·simp only [zbb, Act.put, List.setIfInBounds_toArray, List.set_cons_zero, List.set_cons_succ, zaL, zaN]
            rfl
           refine two_ (i := 1) (j := 5) (Ni := some 29) (Nj := some 9) #[true, true, true, false, true, false, false, false] #[true, false, true, false, true, true, false, false] rfl rfl rfl rfl (zdj HT_.out (by kernel_rfl)) (by decide) (by decide) (fun K hK => ?_) (fun K hK => ?_)
           ·skip
            refine zce Tryd.func46 (by kernel_rfl) rfl #[.agg #[.int .i64 n1, .int .i64 d1]] (by rfl) rfl rfl (by (try simp only [List.map_toArray, List.map_cons, List.map_nil]); first | done | rfl) ?_
            refine (zc7 n1 d1 HI.out.1 HI.out.2.1 _).mono ?_
            rintro e W' ⟨x1, y1, rfl, hx1, hy1, hb⟩
            refine ⟨_, rfl, ?_⟩
            have kX := zaj hX hb
            have kY := zaj hY hb
            refine hK.out _ _ ⟨cl2 kX, cl2 kY⟩ (fun hHeld => ?_)
            clear hK K
            refine zbE (a' := zbb _ _) ?_ (hN14 ⟨x1, y1, p8⟩ _ ⟨⟨kX, kY, zaj hZ hb, zam hB hb⟩, ⟨hx1, hy1⟩, ⟨zaj h8 hb, l8⟩, trivial⟩)
            first | (simp only [zbb, Act.put, List.setIfInBounds_toArray, List.set_cons_zero, List.set_cons_succ, zaL, zaN]; done) | (simp only [zbb, Act.put, List.setIfInBounds_toArray, List.set_cons_zero, List.set_cons_succ, zaL, zaN]; rfl)
           ·skip
            have hb := zac (Below.refl W.heap.size W) (.cells #[.slice none 0 0, .slice none 0 0, .bool false] 62 (0, 0))
            have h9 := zbO W (.cells #[.slice none 0 0, .slice none 0 0, .bool false] 62 (0, 0))
            have l9 : w.heap.size ≤ W.heap.size := hB.size
            refine zcC (v := .pointer (some ⟨W.heap.size, 0, none⟩)) (w1 := W.alloc (.cells #[.slice none 0 0, .slice none 0 0, .bool false] 62 (0, 0))) (by rfl) rfl (by first | (go_simp; done) | (go_simp; rfl)) ?_
            have hl : p8 < W.heap.size := za3 h8
            have kX := zaj hX hb
            have kY := zaj hY hb
            refine hK.out _ _ ⟨cl2 kX, cl2 kY⟩ (fun hHeld => ?_)
            clear hK K
            refine zbE (a' := zbb _ _) ?_ (hN45 ⟨p8, W.heap.size⟩ _ ⟨⟨kX, kY, zaj hZ hb, zam hB hb⟩, ⟨zaj h8 hb, l8⟩, ⟨h9, l9⟩, Nat.ne_of_lt hl⟩)
            first | (simp only [zbb, Act.put, List.setIfInBounds_toArray, List.set_cons_zero, List.set_cons_succ, zaL, zaN]; done) | (simp only [zbb, Act.put, List.setIfInBounds_toArray, List.set_cons_zero, List.set_cons_succ, zaL, zaN]; rfl)
         ·clear hX hY hZ hB hHeld
          clear HXq HYq HZq HBq W
          rintro ⟨x1, y1, x2, y2⟩ W ⟨⟨hX, hY, hZ, hB⟩, ⟨hx1, hy1⟩, ⟨hx2, hy2⟩, _⟩
          refine zbE (a' := ?_) ?_ ?_
          rotate_left
          ·simp only [zbb, Act.put, List.setIfInBounds_toArray, List.set_cons_zero, List.set_cons_succ, zaL, zaN]
           rfl
          refine two_ (i := 4) (j := 5) (Ni := some 8) (Nj := some 9) #[true, true, true, true, true, false, false, false] #[true, true, true, true, false, true, false, false] rfl rfl rfl rfl (zdj HT_.out (by kernel_rfl)) (by decide) (by decide) (fun K hK => ?_) (fun K hK => ?_)
          ·skip
           have hb := zac (Below.refl W.heap.size W) (.cells #[.slice none 0 0, .slice none 0 0, .bool false] 62 (0, 0))
           have h8 := zbO W (.cells #[.slice none 0 0, .slice none 0 0, .bool false] 62 (0, 0))
           have l8 : w.heap.size ≤ W.heap.size := hB.size
           refine zcC (v := .pointer (some ⟨W.heap.size, 0, none⟩)) (w1 := W.alloc (.cells #[.slice none 0 0, .slice none 0 0, .bool false] 62 (0, 0))) (by rfl) rfl (by first | (go_simp; done) | (go_simp; rfl)) ?_
           have kX := zaj hX hb
           have kY := zaj hY hb
           refine hK.out _ _ ⟨cl2 kX, cl2 kY⟩ (fun hHeld => ?_)
           clear hK K
           refine zbE (a' := zbb _ _) ?_ (hN134 ⟨x1, y1, x2, y2, W.heap.size⟩ _ ⟨⟨kX, kY, zaj hZ hb, zam hB hb⟩, ⟨hx1.below hb, hy1.below hb⟩, ⟨hx2.below hb, hy2.below hb⟩, ⟨h8, l8⟩, trivial⟩)
           first | (simp only [zbb, Act.put, List.setIfInBounds_toArray, List.set_cons_zero, List.set_cons_succ, zaL, zaN]; done) | (simp only [zbb, Act.put, List.setIfInBounds_toArray, List.set_cons_zero, List.set_cons_succ, zaL, zaN]; rfl)
          ·skip
           have hb := zac (Below.refl W.heap.size W) (.cells #[.slice none 0 0, .slice none 0 0, .bool false] 62 (0, 0))
           have h9 := zbO W (.cells #[.slice none 0 0, .slice none 0 0, .bool false] 62 (0, 0))
           have l9 : w.heap.size ≤ W.heap.size := hB.size
           refine zcC (v := .pointer (some ⟨W.heap.size, 0, none⟩)) (w1 := W.alloc (.cells #[.slice none 0 0, .slice none 0 0, .bool false] 62 (0, 0))) (by rfl) rfl (by first | (go_simp; done) | (go_simp; rfl)) ?_
           have kX := zaj hX hb
           have kY := zaj hY hb
           refine hK.out _ _ ⟨cl2 kX, cl2 kY⟩ (fun hHeld => ?_)
           clear hK K
           refine zbE (a' := zbb _ _) ?_ (hN135 ⟨x1, y1, x2, y2, W.heap.size⟩ _ ⟨⟨kX, kY, zaj hZ hb, zam hB hb⟩, ⟨hx1.below hb, hy1.below hb⟩, ⟨hx2.below hb, hy2.below hb⟩, ⟨h9, l9⟩, trivial⟩)
           first | (simp only [zbb, Act.put, List.setIfInBounds_toArray, List.set_cons_zero, List.set_cons_succ, zaL, zaN]; done) | (simp only [zbb, Act.put, List.setIfInBounds_toArray, List.set_cons_zero, List.set_cons_succ, zaL, zaN]; rfl)
        ·clear hX hY hZ hB hHeld
         clear HXq HYq HZq HBq W
         rintro ⟨x1, y1, p9⟩ W ⟨⟨hX, hY, hZ, hB⟩, ⟨hx1, hy1⟩, ⟨h9, l9⟩, _⟩
         refine zbE (a' := ?_) ?_ ?_
         rotate_left
         ·simp only [zbb, Act.put, List.setIfInBounds_toArray, List.set_cons_zero, List.set_cons_succ, zaL, zaN]
          rfl
         refine two_ (i := 3) (j := 4) (Ni := some 31) (Nj := some 8) #[true, true, true, true, false, true, false, false] #[true, true, true, false, true, true, false, false] rfl rfl rfl rfl (zdj HT_.out (by kernel_rfl)) (by decide) (by decide) (fun K hK => ?_) (fun K hK => ?_)
         ·skip
          refine zce Tryd.func46 (by kernel_rfl) rfl #[.agg #[.int .i64 n2, .int .i64 d2]] (by rfl) rfl rfl (by (try simp only [List.map_toArray, List.map_cons, List.map_nil]); first | done | rfl) ?_
          refine (zc7 n2 d2 HI.out.2.2.1 HI.out.2.2.2 _).mono ?_
          rintro e W' ⟨x2, y2, rfl, hx2, hy2, hb⟩
          refine ⟨_, rfl, ?_⟩
          have kX := zaj hX hb
          have kY := zaj hY hb
          refine hK.out _ _ ⟨cl2 kX, cl2 kY⟩ (fun hHeld => ?_)
          clear hK K
          refine zbE (a' := zbb _ _) ?_ (hN135 ⟨x1, y1, x2, y2, p9⟩ _ ⟨⟨kX, kY, zaj hZ hb, zam hB hb⟩, ⟨hx1.below hb, hy1.below hb⟩, ⟨hx2, hy2⟩, ⟨zaj h9 hb, l9⟩, trivial⟩)
          first | (simp only [zbb, Act.put, List.setIfInBounds_toArray, List.set_cons_zero, List.set_cons_succ, zaL, zaN]; done) | (simp only [zbb, Act.put, List.setIfInBounds_toArray, List.set_cons_zero, List.set_cons_succ, zaL, zaN]; rfl)
         ·skip
          have hb := zac (Below.refl W.heap.size W) (.cells #[.slice none 0 0, .slice none 0 0, .bool false] 62 (0, 0))
          have h8 := zbO W (.cells #[.slice none 0 0, .slice none 0 0, .bool false] 62 (0, 0))
          have l8 : w.heap.size ≤ W.heap.size := hB.size
          refine zcC (v := .pointer (some ⟨W.heap.size, 0, none⟩)) (w1 := W.alloc (.cells #[.slice none 0 0, .slice none 0 0, .bool false] 62 (0, 0))) (by rfl) rfl (by first | (go_simp; done) | (go_simp; rfl)) ?_
          have hl : p9 < W.heap.size := za3 h9
          have kX := zaj hX hb
          have kY := zaj hY hb
          refine hK.out _ _ ⟨cl2 kX, cl2 kY⟩ (fun hHeld => ?_)
          clear hK K
          refine zbE (a' := zbb _ _) ?_ (hN145 ⟨x1, y1, W.heap.size, p9⟩ _ ⟨⟨kX, kY, zaj hZ hb, zam hB hb⟩, ⟨hx1.below hb, hy1.below hb⟩, ⟨h8, l8⟩, ⟨zaj h9 hb, l9⟩, Nat.ne_of_gt hl⟩)
          first | (simp only [zbb, Act.put, List.setIfInBounds_toArray, List.set_cons_zero, List.set_cons_succ, zaL, zaN]; done) | (simp only [zbb, Act.put, List.setIfInBounds_toArray, List.set_cons_zero, List.set_cons_succ, zaL, zaN]; rfl)
       ·clear hX hY hZ hB hHeld
        clear HXq HYq HZq HBq W
        rintro ⟨x1, y1, p8⟩ W ⟨⟨hX, hY, hZ, hB⟩, ⟨hx1, hy1⟩, ⟨h8, l8⟩, _⟩
        refine zbE (a' := ?_) ?_ ?_
        rotate_left
        ·simp only [zbb, Act.put, List.setIfInBounds_toArray, List.set_cons_zero, List.set_cons_succ, zaL, zaN]
         rfl
        refine two_ (i := 3) (j := 5) (Ni := some 31) (Nj := some 9) #[true, true, true, true, true, false, false, false] #[true, true, true, false, true, true, false, false] rfl rfl rfl rfl (zdj HT_.out (by kernel_rfl)) (by decide) (by decide) (fun K hK => ?_) (fun K hK => ?_)
        ·skip
         refine zce Tryd.func46 (by kernel_rfl) rfl #[.agg #[.int .i64 n2, .int .i64 d2]] (by rfl) rfl rfl (by (try simp only [List.map_toArray, List.map_cons, List.map_nil]); first | done | rfl) ?_
         refine (zc7 n2 d2 HI.out.2.2.1 HI.out.2.2.2 _).mono ?_
         rintro e W' ⟨x2, y2, rfl, hx2, hy2, hb⟩
         refine ⟨_, rfl, ?_⟩
         have kX := zaj hX hb
         have kY := zaj hY hb
         refine hK.out _ _ ⟨cl2 kX, cl2 kY⟩ (fun hHeld => ?_)
         clear hK K
         refine zbE (a' := zbb _ _) ?_ (hN134 ⟨x1, y1, x2, y2, p8⟩ _ ⟨⟨kX, kY, zaj hZ hb, zam hB hb⟩, ⟨hx1.below hb, hy1.below hb⟩, ⟨hx2, hy2⟩, ⟨zaj h8 hb, l8⟩, trivial⟩)
         first | (simp only [zbb, Act.put, List.setIfInBounds_toArray, List.set_cons_zero, List.set_cons_succ, zaL, zaN]; done) | (simp only [zbb, Act.put, List.setIfInBounds_toArray, List.set_cons_zero, List.set_cons_succ, zaL, zaN]; rfl)
        ·skip
         have hb := zac (Below.refl W.heap.size W) (.cells #[.slice none 0 0, .slice none 0 0, .bool false] 62 (0, 0))
         have h9 := zbO W (.cells #[.slice none 0 0, .slice none 0 0, .bool false] 62 (0, 0))
         have l9 : w.heap.size ≤ W.heap.size := hB.size
         refine zcC (v := .pointer (some ⟨W.heap.size, 0, none⟩)) (w1 := W.alloc (.cells #[.slice none 0 0, .slice none 0 0, .bool false] 62 (0, 0))) (by rfl) rfl (by first | (go_simp; done) | (go_simp; rfl)) ?_
         have hl : p8 < W.heap.size := za3 h8
         have kX := zaj hX hb
         have kY := zaj hY hb
         refine hK.out _ _ ⟨cl2 kX, cl2 kY⟩ (fun hHeld => ?_)
         clear hK K
         refine zbE (a' := zbb _ _) ?_ (hN145 ⟨x1, y1, p8, W.heap.size⟩ _ ⟨⟨kX, kY, zaj hZ hb, zam hB hb⟩, ⟨hx1.below hb, hy1.below hb⟩, ⟨zaj h8 hb, l8⟩, ⟨h9, l9⟩, Nat.ne_of_lt hl⟩)
         first | (simp only [zbb, Act.put, List.setIfInBounds_toArray, List.set_cons_zero, List.set_cons_succ, zaL, zaN]; done) | (simp only [zbb, Act.put, List.setIfInBounds_toArray, List.set_cons_zero, List.set_cons_succ, zaL, zaN]; rfl)
      ·clear hX hY hZ hB hHeld
       clear HXq HYq HZq HBq W
       rintro ⟨p8, p9⟩ W ⟨⟨hX, hY, hZ, hB⟩, ⟨h8, l8⟩, ⟨h9, l9⟩, h89⟩
       refine zbE (a' := ?_) ?_ ?_
       rotate_left
       ·simp only [zbb, Act.put, List.setIfInBounds_toArray, List.set_cons_zero, List.set_cons_succ, zaL, zaN]
        rfl
       refine one_ (i := 1) (N := some 29) #[true, true, true, false, true, true, false, false] rfl rfl (zbK HT_.out (by kernel_rfl)) (by decide) (fun K hK => ?_)
       refine zce Tryd.func46 (by kernel_rfl) rfl #[.agg #[.int .i64 n1, .int .i64 d1]] (by rfl) rfl rfl (by (try simp only [List.map_toArray, List.map_cons, List.map_nil]); first | done | rfl) ?_
       refine (zc7 n1 d1 HI.out.1 HI.out.2.1 _).mono ?_
       rintro e W' ⟨x1, y1, rfl, hx1, hy1, hb⟩
       refine ⟨_, rfl, ?_⟩
       have kX := zaj hX hb
       have kY := zaj hY hb
       refine hK.out _ _ ⟨cl2 kX, cl2 kY⟩ (fun hHeld => ?_)
       clear hK K
       refine zbE (a' := zbb _ _) ?_ (hN145 ⟨x1, y1, p8, p9⟩ _ ⟨⟨kX, kY, zaj hZ hb, zam hB hb⟩, ⟨hx1, hy1⟩, ⟨zaj h8 hb, l8⟩, ⟨zaj h9 hb, l9⟩, h89⟩)
       first | (simp only [zbb, Act.put, List.setIfInBounds_toArray, List.set_cons_zero, List.set_cons_succ, zaL, zaN]; done) | (simp only [zbb, Act.put, List.setIfInBounds_toArray, List.set_cons_zero, List.set_cons_succ, zaL, zaN]; rfl)
     ·clear hX hY hZ hB hHeld
      clear HXq HYq HZq HBq W
      rintro ⟨x1, y1, x2, y2, p9⟩ W ⟨⟨hX, hY, hZ, hB⟩, ⟨hx1, hy1⟩, ⟨hx2, hy2⟩, ⟨h9, l9⟩, _⟩
      refine zbE (a' := ?_) ?_ ?_
      rotate_left
      ·simp only [zbb, Act.put, List.setIfInBounds_toArray, List.set_cons_zero, List.set_cons_succ, zaL, zaN]
       rfl
      refine one_ (i := 4) (N := some 8) #[true, true, true, true, true, true, false, false] rfl rfl (zbK HT_.out (by kernel_rfl)) (by decide) (fun K hK => ?_)
      have hb := zac (Below.refl W.heap.size W) (.cells #[.slice none 0 0, .slice none 0 0, .bool false] 62 (0, 0))
      have h8 := zbO W (.cells #[.slice none 0 0, .slice none 0 0, .bool false] 62 (0, 0))
      have l8 : w.heap.size ≤ W.heap.size := hB.size
      refine zcC (v := .pointer (some ⟨W.heap.size, 0, none⟩)) (w1 := W.alloc (.cells #[.slice none 0 0, .slice none 0 0, .bool false] 62 (0, 0))) (by rfl) rfl (by first | (go_simp; done) | (go_simp; rfl)) ?_
      have hl : p9 < W.heap.size := za3 h9
      have kX := zaj hX hb
      have kY := zaj hY hb
      refine hK.out _ _ ⟨cl2 kX, cl2 kY⟩ (fun hHeld => ?_)
      clear hK K
      refine zbE (a' := zbb _ _) ?_ (hN1345 ⟨x1, y1, x2, y2, W.heap.size, p9⟩ _ ⟨⟨kX, kY, zaj hZ hb, zam hB hb⟩, ⟨hx1.below hb, hy1.below hb⟩, ⟨hx2.below hb, hy2.below hb⟩, ⟨h8, l8⟩, ⟨zaj h9 hb, l9⟩, Nat.ne_of_gt hl⟩)
      first | (simp only [zbb, Act.put, List.setIfInBounds_toArray, List.set_cons_zero, List.set_cons_succ, zaL, zaN]; done) | (simp only [zbb, Act.put, List.setIfInBounds_toArray, List.set_cons_zero, List.set_cons_succ, zaL, zaN]; rfl)
    ·clear hX hY hZ hB hHeld
     clear HXq HYq HZq HBq W
     rintro ⟨x1, y1, x2, y2, p8⟩ W ⟨⟨hX, hY, hZ, hB⟩, ⟨hx1, hy1⟩, ⟨hx2, hy2⟩, ⟨h8, l8⟩, _⟩
     refine zbE (a' := ?_) ?_ ?_
     rotate_left
     ·simp only [zbb, Act.put, List.setIfInBounds_toArray, List.set_cons_zero, List.set_cons_succ, zaL, zaN]
      rfl
     refine one_ (i := 5) (N := some 9) #[true, true, true, true, true, true, false, false] rfl rfl (zbK HT_.out (by kernel_rfl)) (by decide) (fun K hK => ?_)
     have hb := zac (Below.refl W.heap.size W) (.cells #[.slice none 0 0, .slice none 0 0, .bool false] 62 (0, 0))
     have h9 := zbO W (.cells #[.slice none 0 0, .slice none 0 0, .bool false] 62 (0, 0))
     have l9 : w.heap.size ≤ W.heap.size := hB.size
     refine zcC (v := .pointer (some ⟨W.heap.size, 0, none⟩)) (w1 := W.alloc (.cells #[.slice none 0 0, .slice none 0 0, .bool false] 62 (0, 0))) (by rfl) rfl (by first | (go_simp; done) | (go_simp; rfl)) ?_
     have hl : p8 < W.heap.size := za3 h8
     have kX := zaj hX hb
     have kY := zaj hY hb
     refine hK.out _ _ ⟨cl2 kX, cl2 kY⟩ (fun hHeld => ?_)
     clear hK K
     refine zbE (a' := zbb _ _) ?_ (hN1345 ⟨x1, y1, x2, y2, p8, W.heap.size⟩ _ ⟨⟨kX, kY, zaj hZ hb, zam hB hb⟩, ⟨hx1.below hb, hy1.below hb⟩, ⟨hx2.below hb, hy2.below hb⟩, ⟨zaj h8 hb, l8⟩, ⟨h9, l9⟩, Nat.ne_of_lt hl⟩)
     first | (simp only [zbb, Act.put, List.setIfInBounds_toArray, List.set_cons_zero, List.set_cons_succ, zaL, zaN]; done) | (simp only [zbb, Act.put, List.setIfInBounds_toArray, List.set_cons_zero, List.set_cons_succ, zaL, zaN]; rfl)
   ·clear hX hY hZ hB hHeld
    clear HXq HYq HZq HBq W
    rintro ⟨x1, y1, p8, p9⟩ W ⟨⟨hX, hY, hZ, hB⟩, ⟨hx1, hy1⟩, ⟨h8, l8⟩, ⟨h9, l9⟩, h89⟩
    refine zbE (a' := ?_) ?_ ?_
    rotate_left
    ·simp only [zbb, Act.put, List.setIfInBounds_toArray, List.set_cons_zero, List.set_cons_succ, zaL, zaN]
     rfl
    refine one_ (i := 3) (N := some 31) #[true, true, true, true, true, true, false, false] rfl rfl (zbK HT_.out (by kernel_rfl)) (by decide) (fun K hK => ?_)
    refine zce Tryd.func46 (by kernel_rfl) rfl #[.agg #[.int .i64 n2, .int .i64 d2]] (by rfl) rfl rfl (by (try simp only [List.map_toArray, List.map_cons, List.map_nil]); first | done | rfl) ?_
    refine (zc7 n2 d2 HI.out.2.2.1 HI.out.2.2.2 _).mono ?_
    rintro e W' ⟨x2, y2, rfl, hx2, hy2, hb⟩
    refine ⟨_, rfl, ?_⟩
    have kX := zaj hX hb
    have kY := zaj hY hb
    refine hK.out _ _ ⟨cl2 kX, cl2 kY⟩ (fun hHeld => ?_)
    clear hK K
    refine zbE (a' := zbb _ _) ?_ (hN1345 ⟨x1, y1, x2, y2, p8, p9⟩ _ ⟨⟨kX, kY, zaj hZ hb, zam hB hb⟩, ⟨hx1.below hb, hy1.below hb⟩, ⟨hx2, hy2⟩, ⟨zaj h8 hb, l8⟩, ⟨zaj h9 hb, l9⟩, h89⟩)
    first | (simp only [zbb, Act.put, List.setIfInBounds_toArray, List.set_cons_zero, List.set_cons_succ, zaL, zaN]; done) | (simp only [zbb, Act.put, List.setIfInBounds_toArray, List.set_cons_zero, List.set_cons_succ, zaL, zaN]; rfl)
  clear hX hY hZ hB hHeld HXq HYq HZq HBq W
  rintro ⟨x1, y1, x2, y2, p8, p9⟩ W ⟨⟨hX, hY, hZ, hB⟩, ⟨hx1, hy1⟩, ⟨hx2, hy2⟩, ⟨h8, l8⟩, ⟨h9, l9⟩, h89⟩
  refine zbE (a' := ?_) ?_ ?_
  rotate_left
  ·simp only [zbb, Act.put, List.setIfInBounds_toArray, List.set_cons_zero, List.set_cons_succ, zaL, zaN]
   rfl
  obtain ⟨Ax1, Lx1, cx1, rfl⟩ := NB.form hx1
  obtain ⟨Ay1, Ly1, cy1, rfl⟩ := NB.form hy1
  obtain ⟨Ax2, Lx2, cx2, rfl⟩ := NB.form hx2
  obtain ⟨Ay2, Ly2, cy2, rfl⟩ := NB.form hy2
  replace h8 := show W.heap[p8]? = some (.cells #[.slice none 0 0, .slice none 0 0, .bool false] 62 (0, 0)) from h8
  replace h9 := show W.heap[p9]? = some (.cells #[.slice none 0 0, .slice none 0 0, .bool false] 62 (0, 0)) from h9
  replace h89 : p8 ≠ p9 := h89
  replace l8 : w.heap.size ≤ p8 := l8
  replace l9 : w.heap.size ≤ p9 := l9
  have e18 := zdT hX h8 (by decide)
  have e28 := zdT hY h8 (by decide)
  have e38 := zdT hZ h8 (by decide)
  have e19 := zdT hX h9 (by decide)
  have e29 := zdT hY h9 (by decide)
  have e39 := zdT hZ h9 (by decide)
  have k0 := (cl0 h8).1
  have k1 := (cl0 h8).2.1
  have k2 := (cl0 h8).2.2
  have f0 := zah h8 0
  have f1 := zah h8 1
  have f2 := zah h8 2
  refine one_ (i := 6) (N := none) #[true, true, true, true, true, true, true, false] rfl rfl (zbK HT_.out (by kernel_rfl)) (by decide) (fun K hK => ?_)
  refine zd1 (w1 := ((W.setCell ⟨p8, 0, none⟩ (.slice Ax1 Lx1 cx1)).setCell ⟨p8, 1, none⟩ (.slice Ay1 Ly1 cy1)).setCell ⟨p8, 2, none⟩ (.bool (decide (n1 < 0)))) (by rfl) rfl (by first | (go_simp; done) | (go_simp; rfl)) ?_
  clear k0 k1 k2 f0 f1 f2
  have o1 := hx1.ne h8 (by decide)
  have o2 := hy1.ne h8 (by decide)
  have o3 := hx2.ne h8 (by decide)
  have o4 := hy2.ne h8 (by decide)
  have u1 := hx1.ne h9 (by decide)
  have u2 := hy1.ne h9 (by decide)
  have u3 := hx2.ne h9 (by decide)
  have u4 := hy2.ne h9 (by decide)
  replace hx1 := ((hx1.set o1 0 (.slice Ax1 Lx1 cx1)).set o1 1 (.slice Ay1 Ly1 cy1)).set o1 2 (.bool (decide (n1 < 0)))
  replace hy1 := ((hy1.set o2 0 (.slice Ax1 Lx1 cx1)).set o2 1 (.slice Ay1 Ly1 cy1)).set o2 2 (.bool (decide (n1 < 0)))
  replace hx2 := ((hx2.set o3 0 (.slice Ax1 Lx1 cx1)).set o3 1 (.slice Ay1 Ly1 cy1)).set o3 2 (.bool (decide (n1 < 0)))
  replace hy2 := ((hy2.set o4 0 (.slice Ax1 Lx1 cx1)).set o4 1 (.slice Ay1 Ly1 cy1)).set o4 2 (.bool (decide (n1 < 0)))
  replace hX := zaA (p := ⟨p8, 2, none⟩) (zaA (p := ⟨p8, 1, none⟩) (zaA (p := ⟨p8, 0, none⟩) hX e18 (.slice Ax1 Lx1 cx1)) e18 (.slice Ay1 Ly1 cy1)) e18 (.bool (decide (n1 < 0)))
  replace hY := zaA (p := ⟨p8, 2, none⟩) (zaA (p := ⟨p8, 1, none⟩) (zaA (p := ⟨p8, 0, none⟩) hY e28 (.slice Ax1 Lx1 cx1)) e28 (.slice Ay1 Ly1 cy1)) e28 (.bool (decide (n1 < 0)))
  replace hZ := zaA (p := ⟨p8, 2, none⟩) (zaA (p := ⟨p8, 1, none⟩) (zaA (p := ⟨p8, 0, none⟩) hZ e38 (.slice Ax1 Lx1 cx1)) e38 (.slice Ay1 Ly1 cy1)) e38 (.bool (decide (n1 < 0)))
  replace h9 := zaA (p := ⟨p8, 2, none⟩) (zaA (p := ⟨p8, 1, none⟩) (zaA (p := ⟨p8, 0, none⟩) h9 (Ne.symm h89) (.slice Ax1 Lx1 cx1)) (Ne.symm h89) (.slice Ay1 Ly1 cy1)) (Ne.symm h89) (.bool (decide (n1 < 0)))
  replace h8 := zay (cs' := #[(.slice Ax1 Lx1 cx1), (.slice Ay1 Ly1 cy1), (.bool (decide (n1 < 0)))]) (zay (cs' := #[(.slice Ax1 Lx1 cx1), (.slice Ay1 Ly1 cy1), .bool false]) (zay (cs' := #[(.slice Ax1 Lx1 cx1), .slice none 0 0, .bool false]) h8 0 (.slice Ax1 Lx1 cx1) rfl) 1 (.slice Ay1 Ly1 cy1) rfl) 2 (.bool (decide (n1 < 0))) rfl
  replace hB := zab (j := 2) (v := (.bool (decide (n1 < 0)))) (zab (j := 1) (v := (.slice Ay1 Ly1 cy1)) (zab (j := 0) (v := (.slice Ax1 Lx1 cx1)) hB l8) l8) l8
  refine hK.out _ _ ⟨cl2 hX, cl2 hY⟩ (fun hHeld => ?_)
  clear hK K o1 o2 o3 o4
  refine zbE (a' := ?_) ?_ ?_
  rotate_left
  ·rfl
  generalize ((W.setCell ⟨p8, 0, none⟩ (.slice Ax1 Lx1 cx1)).setCell ⟨p8, 1, none⟩ (.slice Ay1 Ly1 cy1)).setCell ⟨p8, 2, none⟩ (.bool (decide (n1 < 0))) = W at hx1 hy1 hx2 hy2 hX hY hZ h9 h8 hB hHeld ⊢
  have k0 := (cl0 h9).1
  have k1 := (cl0 h9).2.1
  have k2 := (cl0 h9).2.2
  have f0 := zah h9 0
  have f1 := zah h9 1
  have f2 := zah h9 2
  refine one_ (i := 7) (N := none) #[true, true, true, true, true, true, true, true] rfl rfl (zbK HT_.out (by kernel_rfl)) (by decide) (fun K hK => ?_)
  refine zd1 (w1 := ((W.setCell ⟨p9, 0, none⟩ (.slice Ax2 Lx2 cx2)).setCell ⟨p9, 1, none⟩ (.slice Ay2 Ly2 cy2)).setCell ⟨p9, 2, none⟩ (.bool (decide (n2 < 0)))) (by rfl) rfl (by first | (go_simp; done) | (go_simp; rfl)) ?_
  clear k0 k1 k2 f0 f1 f2
  replace hx1 := ((hx1.set u1 0 (.slice Ax2 Lx2 cx2)).set u1 1 (.slice Ay2 Ly2 cy2)).set u1 2 (.bool (decide (n2 < 0)))
  replace hy1 := ((hy1.set u2 0 (.slice Ax2 Lx2 cx2)).set u2 1 (.slice Ay2 Ly2 cy2)).set u2 2 (.bool (decide (n2 < 0)))
  replace hx2 := ((hx2.set u3 0 (.slice Ax2 Lx2 cx2)).set u3 1 (.slice Ay2 Ly2 cy2)).set u3 2 (.bool (decide (n2 < 0)))
  replace hy2 := ((hy2.set u4 0 (.slice Ax2 Lx2 cx2)).set u4 1 (.slice Ay2 Ly2 cy2)).set u4 2 (.bool (decide (n2 < 0)))
  replace hX := zaA (p := ⟨p9, 2, none⟩) (zaA (p := ⟨p9, 1, none⟩) (zaA (p := ⟨p9, 0, none⟩) hX e19 (.slice Ax2 Lx2 cx2)) e19 (.slice Ay2 Ly2 cy2)) e19 (.bool (decide (n2 < 0)))
  replace hY := zaA (p := ⟨p9, 2, none⟩) (zaA (p := ⟨p9, 1, none⟩) (zaA (p := ⟨p9, 0, none⟩) hY e29 (.slice Ax2 Lx2 cx2)) e29 (.slice Ay2 Ly2 cy2)) e29 (.bool (decide (n2 < 0)))
  replace hZ := zaA (p := ⟨p9, 2, none⟩) (zaA (p := ⟨p9, 1, none⟩) (zaA (p := ⟨p9, 0, none⟩) hZ e39 (.slice Ax2 Lx2 cx2)) e39 (.slice Ay2 Ly2 cy2)) e39 (.bool (decide (n2 < 0)))
  replace h8 := zaA (p := ⟨p9, 2, none⟩) (zaA (p := ⟨p9, 1, none⟩) (zaA (p := ⟨p9, 0, none⟩) h8 h89 (.slice Ax2 Lx2 cx2)) h89 (.slice Ay2 Ly2 cy2)) h89 (.bool (decide (n2 < 0)))
  replace h9 := zay (cs' := #[(.slice Ax2 Lx2 cx2), (.slice Ay2 Ly2 cy2), (.bool (decide (n2 < 0)))]) (zay (cs' := #[(.slice Ax2 Lx2 cx2), (.slice Ay2 Ly2 cy2), .bool false]) (zay (cs' := #[(.slice Ax2 Lx2 cx2), .slice none 0 0, .bool false]) h9 0 (.slice Ax2 Lx2 cx2) rfl) 1 (.slice Ay2 Ly2 cy2) rfl) 2 (.bool (decide (n2 < 0))) rfl
  replace hB := zab (j := 2) (v := (.bool (decide (n2 < 0)))) (zab (j := 1) (v := (.slice Ay2 Ly2 cy2)) (zab (j := 0) (v := (.slice Ax2 Lx2 cx2)) hB l9) l9) l9
  refine hK.out _ _ ⟨cl2 hX, cl2 hY⟩ (fun hHeld => ?_)
  clear hK K u1 u2 u3 u4
  refine zbE (a' := ?_) ?_ ?_
  rotate_left
  ·rfl
  obtain ⟨s1, hs1⟩ : ∃ s, decide (n1 < 0) = s := ⟨_, rfl⟩
  obtain ⟨s2, hs2⟩ : ∃ s, decide (n2 < 0) = s := ⟨_, rfl⟩
  generalize ((W.setCell ⟨p9, 0, none⟩ (.slice Ax2 Lx2 cx2)).setCell ⟨p9, 1, none⟩ (.slice Ay2 Ly2 cy2)).setCell ⟨p9, 2, none⟩ (.bool (decide (n2 < 0))) = W at hx1 hy1 hx2 hy2 hX hY hZ h9 h8 hB hHeld ⊢
  rw [hs1] at h8
  rw [hs2] at h9
  refine zdK (zcu HT_.out (by kernel_rfl)) ?_
  clear HT_ HW_ hHeld hX hY e18 e28 e19 e29
  have GD : good op n1 d1 n2 d2 = good op n1 d1 n2 d2 := rfl
  have HZ := Aside0.mk hZ
  have HB := Aside0.mk hB
  have H8 := Aside0.mk h8
  have H9 := Aside0.mk h9
  have HN := Aside0.mk (show NB W (.slice Ax1 Lx1 cx1) n1.natAbs ∧ NB W (.slice Ay1 Ly1 cy1) d1.natAbs ∧ NB W (.slice Ax2 Lx2 cx2) n2.natAbs ∧ NB W (.slice Ay2 Ly2 cy2) d2.natAbs from ⟨hx1, hy1, hx2, hy2⟩)
  have ND := Aside0.mk (show g3 ≠ p8 ∧ g3 ≠ p9 ∧ p8 ≠ p9 from ⟨e38, e39, h89⟩)
  have LE := Aside0.mk (show w.heap.size ≤ p8 ∧ w.heap.size ≤ p9 from ⟨l8, l9⟩)
  have HS := Aside0.mk (show decide (n1 < 0) = s1 ∧ decide (n2 < 0) = s2 from ⟨hs1, hs2⟩)
  clear GD hZ hB h8 h9 hx1 hy1 hx2 hy2 e38 e39 h89 l8 l9 hs1 hs2
  have SZ := sizes HI.out HR.out
  rcases HO.out.2 with h | h | h | h
  ·subst h
   have HG : good 0 n1 d1 n2 d2 = BallQ.put (sumN n1.natAbs d1.natAbs n2.natAbs d2.natAbs s1 s2 / Nat.gcd (sumN n1.natAbs d1.natAbs n2.natAbs d2.natAbs s1 s2) (d1.natAbs * d2.natAbs)) (d1.natAbs * d2.natAbs / Nat.gcd (sumN n1.natAbs d1.natAbs n2.natAbs d2.natAbs s1 s2) (d1.natAbs * d2.natAbs)) (sumM n1.natAbs d1.natAbs n2.natAbs d2.natAbs s1 s2) := by rw [← HS.out.1, ← HS.out.2]; rfl
   have k80 := (cl0 H8.out).1
   have f80 := zah H8.out 0
   have k81 := (cl0 H8.out).2.1
   have f81 := zah H8.out 1
   have k82 := (cl0 H8.out).2.2
   have f82 := zah H8.out 2
   have k90 := (cl0 H9.out).1
   have f90 := zah H9.out 0
   have k91 := (cl0 H9.out).2.1
   have f91 := zah H9.out 1
   have k92 := (cl0 H9.out).2.2
   have f92 := zah H9.out 2
   have kZ0 := (cl2 HZ.out).1
   have fZ0 := zah HZ.out 0
   have kZ1 := (cl2 HZ.out).2
   have fZ1 := zah HZ.out 1
   obtain ⟨n38, n39, n89⟩ := ND.out
   have n83 := Ne.symm n38
   have n93 := Ne.symm n39
   have n98 := Ne.symm n89
   go_wp2_with (fail)
   refine (sum_c n1.natAbs d1.natAbs n2.natAbs d2.natAbs s1 s2 _ _ _ _ _ HN.out.1 HN.out.2.1 HN.out.2.2.1 HN.out.2.2.2 SZ.1 SZ.2.1 SZ.2.2.1 SZ.2.2.2.1 SZ.2.2.2.2.1 SZ.2.2.2.2.2.1).mono ?_
   rintro e W2 ⟨xs, ys, rfl, hxs, hys, hb⟩
   clear k80 f80 k90 f90 k81 f81 k91 f91 k82 f82 k92 f92 kZ0 fZ0 kZ1 fZ1
   replace HZ := Aside0.mk (zaj HZ.out hb)
   replace HB := Aside0.mk (zam HB.out hb)
   clear hb HN H8 H9
   go_wp2_with (fail)
   refine (to_c (zfH HI.out _ _) SZ.2.2.2.2.2.2.1 SZ.2.2.2.2.2.2.2.1 _ hxs hys).mono ?_
   rw [← HG]
   rintro e W3 ⟨rfl, hb⟩
   clear hxs hys HG
   replace HZ := Aside0.mk (zaj HZ.out hb)
   replace HB := Aside0.mk (zam HB.out hb)
   clear hb
   have kZ0 := (cl2 HZ.out).1
   have kZ1 := (cl2 HZ.out).2
   have fZ0 := zah HZ.out 0
   have fZ1 := zah HZ.out 1
   go_wp2_with (fail)
   refine bodyPost_ret (za7 rfl _ _ g3 24 #[.int .i64 (good 0 n1 d1 n2 d2).1, .int .i64 (good 0 n1 d1 n2 d2).2.1] (0, 0) _ rfl (zay (cs := #[.int .i64 (good 0 n1 d1 n2 d2).1, .int .i64 0]) (zay (cs := #[.int .i64 0, .int .i64 0]) HZ.out 0 _ rfl) 1 _ rfl) Tryd.underlying24 rfl (by kernel_rfl)) rfl ?_
   exact ⟨rfl, zab (zab HB.out GE.out) GE.out⟩
  ·subst h
   have HG : good 1 n1 d1 n2 d2 = BallQ.put (sumN n1.natAbs d1.natAbs n2.natAbs d2.natAbs s1 (!s2) / Nat.gcd (sumN n1.natAbs d1.natAbs n2.natAbs d2.natAbs s1 (!s2)) (d1.natAbs * d2.natAbs)) (d1.natAbs * d2.natAbs / Nat.gcd (sumN n1.natAbs d1.natAbs n2.natAbs d2.natAbs s1 (!s2)) (d1.natAbs * d2.natAbs)) (sumM n1.natAbs d1.natAbs n2.natAbs d2.natAbs s1 (!s2)) := by rw [← HS.out.1, ← HS.out.2]; rfl
   have k80 := (cl0 H8.out).1
   have f80 := zah H8.out 0
   have k81 := (cl0 H8.out).2.1
   have f81 := zah H8.out 1
   have k82 := (cl0 H8.out).2.2
   have f82 := zah H8.out 2
   have k90 := (cl0 H9.out).1
   have f90 := zah H9.out 0
   have k91 := (cl0 H9.out).2.1
   have f91 := zah H9.out 1
   have k92 := (cl0 H9.out).2.2
   have f92 := zah H9.out 2
   have kZ0 := (cl2 HZ.out).1
   have fZ0 := zah HZ.out 0
   have kZ1 := (cl2 HZ.out).2
   have fZ1 := zah HZ.out 1
   obtain ⟨n38, n39, n89⟩ := ND.out
   have n83 := Ne.symm n38
   have n93 := Ne.symm n39
   have n98 := Ne.symm n89
   go_wp2_with (fail)
   have o1 := HN.out.1.ne H9.out (by decide)
   have o2 := HN.out.2.1.ne H9.out (by decide)
   have o3 := HN.out.2.2.1.ne H9.out (by decide)
   have o4 := HN.out.2.2.2.ne H9.out (by decide)
   refine (sum_c n1.natAbs d1.natAbs n2.natAbs d2.natAbs s1 (!s2) _ _ _ _ _ (HN.out.1.set o1 _ _) (HN.out.2.1.set o2 _ _) (HN.out.2.2.1.set o3 _ _) (HN.out.2.2.2.set o4 _ _) SZ.1 SZ.2.1 SZ.2.2.1 SZ.2.2.2.1 SZ.2.2.2.2.1 SZ.2.2.2.2.2.1).mono ?_
   rintro e W2 ⟨xs, ys, rfl, hxs, hys, hb⟩
   replace HZ := Aside0.mk (zaA (p := ⟨p9, 2, none⟩) HZ.out n39 (.bool (!s2)))
   replace HB := Aside0.mk (zab (j := 2) (v := .bool (!s2)) HB.out LE.out.2)
   clear k80 f80 k90 f90 k81 f81 k91 f91 k82 f82 k92 f92 kZ0 fZ0 kZ1 fZ1
   replace HZ := Aside0.mk (zaj HZ.out hb)
   replace HB := Aside0.mk (zam HB.out hb)
   clear hb HN H8 H9
   go_wp2_with (fail)
   refine (to_c (zfH HI.out _ _) SZ.2.2.2.2.2.2.1 SZ.2.2.2.2.2.2.2.1 _ hxs hys).mono ?_
   rw [← HG]
   rintro e W3 ⟨rfl, hb⟩
   clear hxs hys HG
   replace HZ := Aside0.mk (zaj HZ.out hb)
   replace HB := Aside0.mk (zam HB.out hb)
   clear hb
   have kZ0 := (cl2 HZ.out).1
   have kZ1 := (cl2 HZ.out).2
   have fZ0 := zah HZ.out 0
   have fZ1 := zah HZ.out 1
   go_wp2_with (fail)
   refine bodyPost_ret (za7 rfl _ _ g3 24 #[.int .i64 (good 1 n1 d1 n2 d2).1, .int .i64 (good 1 n1 d1 n2 d2).2.1] (0, 0) _ rfl (zay (cs := #[.int .i64 (good 1 n1 d1 n2 d2).1, .int .i64 0]) (zay (cs := #[.int .i64 0, .int .i64 0]) HZ.out 0 _ rfl) 1 _ rfl) Tryd.underlying24 rfl (by kernel_rfl)) rfl ?_
   exact ⟨rfl, zab (zab HB.out GE.out) GE.out⟩
  ·subst h
   have HG : good 2 n1 d1 n2 d2 = BallQ.put (n1.natAbs * n2.natAbs / Nat.gcd (n1.natAbs * n2.natAbs) (d1.natAbs * d2.natAbs)) (d1.natAbs * d2.natAbs / Nat.gcd (n1.natAbs * n2.natAbs) (d1.natAbs * d2.natAbs)) (s1 != s2) := by rw [← HS.out.1, ← HS.out.2]; rfl
   go_wp2_with (fail)
   have H8q := Aside0.mk (zai H8.out)
   have H9q := Aside0.mk (zai H9.out)
   have HZq := Aside0.mk (zai HZ.out)
   have HBq := Aside0.mk (zaf HB.out)
   have dq := zaf (Below.refl W.heap.size W)
   have HNq := Aside0.mk (show NB W.drew (.slice Ax1 Lx1 cx1) n1.natAbs ∧ NB W.drew (.slice Ay1 Ly1 cy1) d1.natAbs ∧ NB W.drew (.slice Ax2 Lx2 cx2) n2.natAbs ∧ NB W.drew (.slice Ay2 Ly2 cy2) d2.natAbs from ⟨HN.out.1.below dq, HN.out.2.1.below dq, HN.out.2.2.1.below dq, HN.out.2.2.2.below dq⟩)
   clear dq HN
   refine zcP (n := 21) (S := fun w' => (w'.cell? ⟨p8, 0, none⟩ = some (.slice Ax1 Lx1 cx1) ∧ w'.cell? ⟨p8, 1, none⟩ = some (.slice Ay1 Ly1 cy1) ∧ w'.cell? ⟨p8, 2, none⟩ = some (.bool s1)) ∧ (w'.cell? ⟨p9, 0, none⟩ = some (.slice Ax2 Lx2 cx2) ∧ w'.cell? ⟨p9, 1, none⟩ = some (.slice Ay2 Ly2 cy2) ∧ w'.cell? ⟨p9, 2, none⟩ = some (.bool s2))) (ds := []) #[false, false, false, false, false, false, false, false, false, false, false, false, false, false, false, false, false, false, false, false, false] (by kernel_rfl) rfl rfl (⟨cl0 H8q.out, cl0 H9q.out⟩) (fun hHeld => ?_); refine zb8 zc9.tab zc9.bits (fun HT_ HW_ => ?_)
   clear H8 H9 HZ HB
   generalize W.drew = W1 at H8q H9q HZq HBq HNq hHeld ⊢
   refine zbB (i := 0) (N := some 55) (v := ?_) (a' := ?_) #[true, false, false, false, false, false, false, false, false, false, false, false, false, false, false, false, false, false, false, false, false] rfl rfl (zbm HT_.out (by kernel_rfl)) (fun _ _ _ h => h) (Or.inl ⟨by rfl, ?_⟩) ?_ ?_
   rotate_left
   ·intro w'
    go_simp
    with_reducible rfl
   rotate_left
   ·simp only [Act.put, List.setIfInBounds_toArray, List.set_cons_zero, List.set_cons_succ, zaL, zaN]
    rfl
   refine zbB (i := 2) (N := some 57) (v := ?_) (a' := ?_) #[true, false, true, false, false, false, false, false, false, false, false, false, false, false, false, false, false, false, false, false, false] rfl rfl (zbm HT_.out (by kernel_rfl)) (fun _ _ _ h => h) (Or.inl ⟨by rfl, ?_⟩) ?_ ?_
   rotate_left
   ·intro w'
    go_simp
    with_reducible rfl
   rotate_left
   ·simp only [Act.put, List.setIfInBounds_toArray, List.set_cons_zero, List.set_cons_succ, zaL, zaN]
    rfl
   refine zbB (i := 5) (N := some 60) (v := ?_) (a' := ?_) #[true, false, true, false, false, true, false, false, false, false, false, false, false, false, false, false, false, false, false, false, false] rfl rfl (zbm HT_.out (by kernel_rfl)) (fun _ _ _ h => h) (Or.inl ⟨by rfl, ?_⟩) ?_ ?_
   rotate_left
   ·intro w'
    go_simp
    with_reducible rfl
   rotate_left
   ·simp only [Act.put, List.setIfInBounds_toArray, List.set_cons_zero, List.set_cons_succ, zaL, zaN]
    rfl
   refine zbB (i := 7) (N := some 62) (v := ?_) (a' := ?_) #[true, false, true, false, false, true, false, true, false, false, false, false, false, false, false, false, false, false, false, false, false] rfl rfl (zbm HT_.out (by kernel_rfl)) (fun _ _ _ h => h) (Or.inl ⟨by rfl, ?_⟩) ?_ ?_
   rotate_left
   ·intro w'
    go_simp
    with_reducible rfl
   rotate_left
   ·simp only [Act.put, List.setIfInBounds_toArray, List.set_cons_zero, List.set_cons_succ, zaL, zaN]
    rfl
   refine zbB (i := 10) (N := some 65) (v := ?_) (a' := ?_) #[true, false, true, false, false, true, false, true, false, false, true, false, false, false, false, false, false, false, false, false, false] rfl rfl (zbm HT_.out (by kernel_rfl)) (fun _ _ _ h => h) (Or.inl ⟨by rfl, ?_⟩) ?_ ?_
   rotate_left
   ·intro w'
    go_simp
    with_reducible rfl
   rotate_left
   ·simp only [Act.put, List.setIfInBounds_toArray, List.set_cons_zero, List.set_cons_succ, zaL, zaN]
    rfl
   refine zbB (i := 12) (N := some 67) (v := ?_) (a' := ?_) #[true, false, true, false, false, true, false, true, false, false, true, false, true, false, false, false, false, false, false, false, false] rfl rfl (zbm HT_.out (by kernel_rfl)) (fun _ _ _ h => h) (Or.inl ⟨by rfl, ?_⟩) ?_ ?_
   rotate_left
   ·intro w'
    go_simp
    with_reducible rfl
   rotate_left
   ·simp only [Act.put, List.setIfInBounds_toArray, List.set_cons_zero, List.set_cons_succ, zaL, zaN]
    rfl
   refine zb4 (i := 1) (N := some 56) (v := ?_) (a' := ?_) #[true, true, true, false, false, true, false, true, false, false, true, false, true, false, false, false, false, false, false, false, false] rfl rfl (zbv HT_.out HW_.out (by kernel_rfl)) (fun _ _ _ h => h) (Or.inl ⟨by rfl, ?_⟩) hHeld ?_ ?_
   rotate_left
   ·intro w' s0
    obtain ⟨⟨s11, s12, s13⟩, s14, s15, s16⟩ := s0
    go_simp
    with_reducible rfl
   rotate_left
   ·simp only [Act.put, List.setIfInBounds_toArray, List.set_cons_zero, List.set_cons_succ, zaL, zaN]
    rfl
   refine zb4 (i := 3) (N := some 58) (v := ?_) (a' := ?_) #[true, true, true, true, false, true, false, true, false, false, true, false, true, false, false, false, false, false, false, false, false] rfl rfl (zbv HT_.out HW_.out (by kernel_rfl)) (fun _ _ _ h => h) (Or.inl ⟨by rfl, ?_⟩) hHeld ?_ ?_
   rotate_left
   ·intro w' s0
    obtain ⟨⟨s11, s12, s13⟩, s14, s15, s16⟩ := s0
    go_simp
    with_reducible rfl
   rotate_left
   ·simp only [Act.put, List.setIfInBounds_toArray, List.set_cons_zero, List.set_cons_succ, zaL, zaN]
    rfl
   refine zb4 (i := 6) (N := some 61) (v := ?_) (a' := ?_) #[true, true, true, true, false, true, true, true, false, false, true, false, true, false, false, false, false, false, false, false, false] rfl rfl (zbv HT_.out HW_.out (by kernel_rfl)) (fun _ _ _ h => h) (Or.inl ⟨by rfl, ?_⟩) hHeld ?_ ?_
   rotate_left
   ·intro w' s0
    obtain ⟨⟨s11, s12, s13⟩, s14, s15, s16⟩ := s0
    go_simp
    with_reducible rfl
   rotate_left
   ·simp only [Act.put, List.setIfInBounds_toArray, List.set_cons_zero, List.set_cons_succ, zaL, zaN]
    rfl
   refine zb4 (i := 8) (N := some 63) (v := ?_) (a' := ?_) #[true, true, true, true, false, true, true, true, true, false, true, false, true, false, false, false, false, false, false, false, false] rfl rfl (zbv HT_.out HW_.out (by kernel_rfl)) (fun _ _ _ h => h) (Or.inl ⟨by rfl, ?_⟩) hHeld ?_ ?_
   rotate_left
   ·intro w' s0
    obtain ⟨⟨s11, s12, s13⟩, s14, s15, s16⟩ := s0
    go_simp
    with_reducible rfl
   rotate_left
   ·simp only [Act.put, List.setIfInBounds_toArray, List.set_cons_zero, List.set_cons_succ, zaL, zaN]
    rfl
   refine zb4 (i := 11) (N := some 66) (v := ?_) (a' := ?_) #[true, true, true, true, false, true, true, true, true, false, true, true, true, false, false, false, false, false, false, false, false] rfl rfl (zbv HT_.out HW_.out (by kernel_rfl)) (fun _ _ _ h => h) (Or.inl ⟨by rfl, ?_⟩) hHeld ?_ ?_
   rotate_left
   ·intro w' s0
    obtain ⟨⟨s11, s12, s13⟩, s14, s15, s16⟩ := s0
    go_simp
    with_reducible rfl
   rotate_left
   ·simp only [Act.put, List.setIfInBounds_toArray, List.set_cons_zero, List.set_cons_succ, zaL, zaN]
    rfl
   refine zb4 (i := 13) (N := some 68) (v := ?_) (a' := ?_) #[true, true, true, true, false, true, true, true, true, false, true, true, true, true, false, false, false, false, false, false, false] rfl rfl (zbv HT_.out HW_.out (by kernel_rfl)) (fun _ _ _ h => h) (Or.inl ⟨by rfl, ?_⟩) hHeld ?_ ?_
   rotate_left
   ·intro w' s0
    obtain ⟨⟨s11, s12, s13⟩, s14, s15, s16⟩ := s0
    go_simp
    with_reducible rfl
   rotate_left
   ·simp only [Act.put, List.setIfInBounds_toArray, List.set_cons_zero, List.set_cons_succ, zaL, zaN]
    rfl
   refine zbB (i := 14) (N := some 69) (v := ?_) (a' := ?_) #[true, true, true, true, false, true, true, true, true, false, true, true, true, true, true, false, false, false, false, false, false] rfl rfl (zbm HT_.out (by kernel_rfl)) (fun _ _ _ h => h) (Or.inl ⟨by rfl, ?_⟩) ?_ ?_
   rotate_left
   ·intro w'
    go_simp
    with_reducible rfl
   rotate_left
   ·simp only [Act.put, List.setIfInBounds_toArray, List.set_cons_zero, List.set_cons_succ, zaL, zaN]
    rfl
   refine one_ (i := 4) (N := some 59) #[true, true, true, true, true, true, true, true, true, false, true, true, true, true, true, false, false, false, false, false, false] rfl rfl (zbK HT_.out (by kernel_rfl)) (by decide) (fun K hK => ?_)
   refine zce Tryd.func49 (by kernel_rfl) rfl #[(.slice Ax1 Lx1 cx1), (.slice Ax2 Lx2 cx2)] (by rfl) rfl rfl (by (try simp only [List.map_toArray, List.map_cons, List.map_nil]); first | done | rfl | (simp only [List.length_drop, List.length_take]; rfl)) ?_
   refine (zeM SZ.1 SZ.2.2.1 HNq.out.1 HNq.out.2.2.1).mono ?_
   rintro e W2 ⟨x, rfl, hx, hb⟩
   have H8r := Aside0.mk (zaj H8q.out hb)
   have H9r := Aside0.mk (zaj H9q.out hb)
   have HZr := Aside0.mk (zaj HZq.out hb)
   have HBr := Aside0.mk (zam HBq.out hb)
   have HS_ := show _ ∧ _ from ⟨cl0 H8r.out, cl0 H9r.out⟩
   have hN2 := hx
   refine ⟨_, rfl, ?_⟩
   refine hK.out _ _ HS_ (fun hHeld => ?_)
   clear hK K
   refine zbE (a' := ?_) ?_ ?_
   rotate_left
   ·show Act.put _ (some 59) _ = _
    simp only [Act.put, List.setIfInBounds_toArray, List.set_cons_zero, List.set_cons_succ, zaL, zaN]
    rfl
   have HM := Aside0.mk hN2
   have H2 := Aside0.mk hb
   skip
   refine one_ (i := 9) (N := some 64) #[true, true, true, true, true, true, true, true, true, true, true, true, true, true, true, false, false, false, false, false, false] rfl rfl (zbK HT_.out (by kernel_rfl)) (by decide) (fun K hK => ?_)
   refine zce Tryd.func49 (by kernel_rfl) rfl #[(.slice Ay1 Ly1 cy1), (.slice Ay2 Ly2 cy2)] (by rfl) rfl rfl (by (try simp only [List.map_toArray, List.map_cons, List.map_nil]); first | done | rfl | (simp only [List.length_drop, List.length_take]; rfl)) ?_
   refine (zeM SZ.2.1 SZ.2.2.2.1 (HNq.out.2.1.below hb) (HNq.out.2.2.2.below hb)).mono ?_
   rintro e W3 ⟨y, rfl, hy, hb3⟩
   have hxy := hx.below hb3
   have H8s := Aside0.mk (zaj H8r.out hb3)
   have H9s := Aside0.mk (zaj H9r.out hb3)
   have HZs := Aside0.mk (zaj HZr.out hb3)
   have HBs := Aside0.mk (zam HBr.out hb3)
   have HS_ := show _ ∧ _ from ⟨cl0 H8s.out, cl0 H9s.out⟩
   refine ⟨_, rfl, ?_⟩
   refine hK.out _ _ HS_ (fun hHeld => ?_)
   clear hK K
   refine zbE (a' := ?_) ?_ ?_
   rotate_left
   ·show Act.put _ (some 64) _ = _
    simp only [Act.put, List.setIfInBounds_toArray, List.set_cons_zero, List.set_cons_succ, zaL, zaN]
    rfl
   obtain ⟨Ax, Lx, cx, rfl⟩ := NB.form hxy
   obtain ⟨Ay, Ly, cy, rfl⟩ := NB.form hy
   refine zbB (i := 15) (N := some 70) (v := ?_) (a' := ?_) #[true, true, true, true, true, true, true, true, true, true, true, true, true, true, true, true, false, false, false, false, false] rfl rfl (zbm HT_.out (by kernel_rfl)) (fun _ _ _ h => h) (Or.inl ⟨by rfl, ?_⟩) ?_ ?_
   rotate_left
   ·intro w'
    go_simp
    with_reducible rfl
   rotate_left
   ·simp only [Act.put, List.setIfInBounds_toArray, List.set_cons_zero, List.set_cons_succ, zaL, zaN]
    rfl
   refine one_ (i := 16) (N := some 71) #[true, true, true, true, true, true, true, true, true, true, true, true, true, true, true, true, true, false, false, false, false] rfl rfl (zbK HT_.out (by kernel_rfl)) (by decide) (fun K hK => ?_)
   refine zce Tryd.func47 (by kernel_rfl) rfl #[.agg #[.slice Ax Lx cx, .slice Ay Ly cy, .bool (s1 != s2)]] (by rfl) rfl rfl (by (try simp only [List.map_toArray, List.map_cons, List.map_nil]); first | done | rfl | (simp only [List.length_drop, List.length_take]; rfl)) ?_
   refine (to_c SZ.2.2.2.2.2.2.2.2.1 SZ.2.2.2.2.2.2.1 SZ.2.2.2.2.2.2.2.1 _ hxy hy).mono ?_
   rw [← HG]
   rintro e W4 ⟨rfl, hb4⟩
   clear HG
   have H8t := Aside0.mk (zaj H8s.out hb4)
   have H9t := Aside0.mk (zaj H9s.out hb4)
   have HZt := Aside0.mk (zaj HZs.out hb4)
   have HBt := Aside0.mk (zam HBs.out hb4)
   have HS_ := show _ ∧ _ from ⟨cl0 H8t.out, cl0 H9t.out⟩
   refine ⟨_, rfl, ?_⟩
   refine hK.out _ _ HS_ (fun hHeld => ?_)
   clear hK K
   refine zbE (a' := ?_) ?_ ?_
   rotate_left
   ·show Act.put _ (some 71) _ = _
    simp only [Act.put, List.setIfInBounds_toArray, List.set_cons_zero, List.set_cons_succ, zaL, zaN]
    rfl
   refine zbB (i := 17) (N := some 72) (v := ?_) (a' := ?_) #[true, true, true, true, true, true, true, true, true, true, true, true, true, true, true, true, true, true, false, false, false] rfl rfl (zbm HT_.out (by kernel_rfl)) (fun _ _ _ h => h) (Or.inl ⟨by rfl, ?_⟩) ?_ ?_
   rotate_left
   ·intro w'
    go_simp
    with_reducible rfl
   rotate_left
   ·simp only [Act.put, List.setIfInBounds_toArray, List.set_cons_zero, List.set_cons_succ, zaL, zaN]
    rfl
   refine zbB (i := 18) (N := some 73) (v := ?_) (a' := ?_) #[true, true, true, true, true, true, true, true, true, true, true, true, true, true, true, true, true, true, true, false, false] rfl rfl (zbm HT_.out (by kernel_rfl)) (fun _ _ _ h => h) (Or.inl ⟨by rfl, ?_⟩) ?_ ?_
   rotate_left
   ·intro w'
    go_simp
    with_reducible rfl
   rotate_left
   ·simp only [Act.put, List.setIfInBounds_toArray, List.set_cons_zero, List.set_cons_succ, zaL, zaN]
    rfl
   have kZ0 := (cl2 HZt.out).1
   have kZ1 := (cl2 HZt.out).2
   have fZ0 := zah HZt.out 0
   have fZ1 := zah HZt.out 1
   refine one_ (i := 19) (N := none) #[true, true, true, true, true, true, true, true, true, true, true, true, true, true, true, true, true, true, true, true, false] rfl rfl (zbK HT_.out (by kernel_rfl)) (by decide) (fun K hK => ?_)
   refine zd1 (w1 := (W4.setCell ⟨g3, 0, none⟩ (.int .i64 (good 2 n1 d1 n2 d2).1)).setCell ⟨g3, 1, none⟩ (.int .i64 (good 2 n1 d1 n2 d2).2.1)) (by rfl) rfl (by first | (go_simp; done) | (go_simp; rfl)) ?_
   refine hK.out _ _ ⟨cl0 (zaA (p := ⟨g3, 1, none⟩) (zaA (p := ⟨g3, 0, none⟩) H8t.out (Ne.symm ND.out.1) _) (Ne.symm ND.out.1) _), cl0 (zaA (p := ⟨g3, 1, none⟩) (zaA (p := ⟨g3, 0, none⟩) H9t.out (Ne.symm ND.out.2.1) _) (Ne.symm ND.out.2.1) _)⟩ (fun hHeld => ?_)
   clear hK K kZ0 kZ1 fZ0 fZ1
   refine zbE (a' := ?_) ?_ ?_
   rotate_left
   ·rfl
   refine zbB (i := 20) (N := some 7) (v := ?_) (a' := ?_) #[true, true, true, true, true, true, true, true, true, true, true, true, true, true, true, true, true, true, true, true, true] rfl rfl (zbm HT_.out (by kernel_rfl)) (fun _ _ _ h => h) (Or.inl ⟨by rfl, ?_⟩) ?_ ?_
   rotate_left
   ·intro w'
    go_simp
    with_reducible rfl
   rotate_left
   ·simp only [Act.put, List.setIfInBounds_toArray, List.set_cons_zero, List.set_cons_succ, zaL, zaN]
    rfl
   refine zdK (zcu HT_.out (by kernel_rfl)) ?_
   go_wp2_with (fail)
   refine bodyPost_ret (za7 rfl _ _ g3 24 #[.int .i64 (good 2 n1 d1 n2 d2).1, .int .i64 (good 2 n1 d1 n2 d2).2.1] (0, 0) _ rfl (zay (cs := #[.int .i64 (good 2 n1 d1 n2 d2).1, .int .i64 0]) (zay (cs := #[.int .i64 0, .int .i64 0]) HZt.out 0 _ rfl) 1 _ rfl) Tryd.underlying24 rfl (by kernel_rfl)) rfl ?_
   exact ⟨rfl, zab (zab HBt.out GE.out) GE.out⟩
  ·subst h
   have HG : good 3 n1 d1 n2 d2 = BallQ.put (n1.natAbs * d2.natAbs / Nat.gcd (n1.natAbs * d2.natAbs) (d1.natAbs * n2.natAbs)) (d1.natAbs * n2.natAbs / Nat.gcd (n1.natAbs * d2.natAbs) (d1.natAbs * n2.natAbs)) (s1 != s2) := by rw [← HS.out.1, ← HS.out.2]; rfl
   have hn3 := HO.out.1 rfl
   go_wp2_with (fail)
   have H8q := Aside0.mk (zai H8.out)
   have H9q := Aside0.mk (zai H9.out)
   have HZq := Aside0.mk (zai HZ.out)
   have HBq := Aside0.mk (zaf HB.out)
   have dq := zaf (Below.refl W.heap.size W)
   have HNq := Aside0.mk (show NB W.drew (.slice Ax1 Lx1 cx1) n1.natAbs ∧ NB W.drew (.slice Ay1 Ly1 cy1) d1.natAbs ∧ NB W.drew (.slice Ax2 Lx2 cx2) n2.natAbs ∧ NB W.drew (.slice Ay2 Ly2 cy2) d2.natAbs from ⟨HN.out.1.below dq, HN.out.2.1.below dq, HN.out.2.2.1.below dq, HN.out.2.2.2.below dq⟩)
   clear dq HN
   refine zcP (n := 21) (S := fun w' => (w'.cell? ⟨p8, 0, none⟩ = some (.slice Ax1 Lx1 cx1) ∧ w'.cell? ⟨p8, 1, none⟩ = some (.slice Ay1 Ly1 cy1) ∧ w'.cell? ⟨p8, 2, none⟩ = some (.bool s1)) ∧ (w'.cell? ⟨p9, 0, none⟩ = some (.slice Ax2 Lx2 cx2) ∧ w'.cell? ⟨p9, 1, none⟩ = some (.slice Ay2 Ly2 cy2) ∧ w'.cell? ⟨p9, 2, none⟩ = some (.bool s2))) (ds := []) #[false, false, false, false, false, false, false, false, false, false, false, false, false, false, false, false, false, false, false, false, false] (by kernel_rfl) rfl rfl (⟨cl0 H8q.out, cl0 H9q.out⟩) (fun hHeld => ?_); refine zb8 zc8.tab zc8.bits (fun HT_ HW_ => ?_)
   clear H8 H9 HZ HB
   generalize W.drew = W1 at H8q H9q HZq HBq HNq hHeld ⊢
   refine zbB (i := 0) (N := some 74) (v := ?_) (a' := ?_) #[true, false, false, false, false, false, false, false, false, false, false, false, false, false, false, false, false, false, false, false, false] rfl rfl (zbm HT_.out (by kernel_rfl)) (fun _ _ _ h => h) (Or.inl ⟨by rfl, ?_⟩) ?_ ?_
   rotate_left
   ·intro w'
    go_simp
    with_reducible rfl
   rotate_left
   ·simp only [Act.put, List.setIfInBounds_toArray, List.set_cons_zero, List.set_cons_succ, zaL, zaN]
    rfl
   refine zbB (i := 2) (N := some 76) (v := ?_) (a' := ?_) #[true, false, true, false, false, false, false, false, false, false, false, false, false, false, false, false, false, false, false, false, false] rfl rfl (zbm HT_.out (by kernel_rfl)) (fun _ _ _ h => h) (Or.inl ⟨by rfl, ?_⟩) ?_ ?_
   rotate_left
   ·intro w'
    go_simp
    with_reducible rfl
   rotate_left
   ·simp only [Act.put, List.setIfInBounds_toArray, List.set_cons_zero, List.set_cons_succ, zaL, zaN]
    rfl
   refine zbB (i := 5) (N := some 79) (v := ?_) (a' := ?_) #[true, false, true, false, false, true, false, false, false, false, false, false, false, false, false, false, false, false, false, false, false] rfl rfl (zbm HT_.out (by kernel_rfl)) (fun _ _ _ h => h) (Or.inl ⟨by rfl, ?_⟩) ?_ ?_
   rotate_left
   ·intro w'
    go_simp
    with_reducible rfl
   rotate_left
   ·simp only [Act.put, List.setIfInBounds_toArray, List.set_cons_zero, List.set_cons_succ, zaL, zaN]
    rfl
   refine zbB (i := 7) (N := some 81) (v := ?_) (a' := ?_) #[true, false, true, false, false, true, false, true, false, false, false, false, false, false, false, false, false, false, false, false, false] rfl rfl (zbm HT_.out (by kernel_rfl)) (fun _ _ _ h => h) (Or.inl ⟨by rfl, ?_⟩) ?_ ?_
   rotate_left
   ·intro w'
    go_simp
    with_reducible rfl
   rotate_left
   ·simp only [Act.put, List.setIfInBounds_toArray, List.set_cons_zero, List.set_cons_succ, zaL, zaN]
    rfl
   refine zbB (i := 10) (N := some 84) (v := ?_) (a' := ?_) #[true, false, true, false, false, true, false, true, false, false, true, false, false, false, false, false, false, false, false, false, false] rfl rfl (zbm HT_.out (by kernel_rfl)) (fun _ _ _ h => h) (Or.inl ⟨by rfl, ?_⟩) ?_ ?_
   rotate_left
   ·intro w'
    go_simp
    with_reducible rfl
   rotate_left
   ·simp only [Act.put, List.setIfInBounds_toArray, List.set_cons_zero, List.set_cons_succ, zaL, zaN]
    rfl
   refine zbB (i := 12) (N := some 86) (v := ?_) (a' := ?_) #[true, false, true, false, false, true, false, true, false, false, true, false, true, false, false, false, false, false, false, false, false] rfl rfl (zbm HT_.out (by kernel_rfl)) (fun _ _ _ h => h) (Or.inl ⟨by rfl, ?_⟩) ?_ ?_
   rotate_left
   ·intro w'
    go_simp
    with_reducible rfl
   rotate_left
   ·simp only [Act.put, List.setIfInBounds_toArray, List.set_cons_zero, List.set_cons_succ, zaL, zaN]
    rfl
   refine zb4 (i := 1) (N := some 75) (v := ?_) (a' := ?_) #[true, true, true, false, false, true, false, true, false, false, true, false, true, false, false, false, false, false, false, false, false] rfl rfl (zbv HT_.out HW_.out (by kernel_rfl)) (fun _ _ _ h => h) (Or.inl ⟨by rfl, ?_⟩) hHeld ?_ ?_
   rotate_left
   ·intro w' s0
    obtain ⟨⟨s11, s12, s13⟩, s14, s15, s16⟩ := s0
    go_simp
    with_reducible rfl
   rotate_left
   ·simp only [Act.put, List.setIfInBounds_toArray, List.set_cons_zero, List.set_cons_succ, zaL, zaN]
    rfl
   refine zb4 (i := 3) (N := some 77) (v := ?_) (a' := ?_) #[true, true, true, true, false, true, false, true, false, false, true, false, true, false, false, false, false, false, false, false, false] rfl rfl (zbv HT_.out HW_.out (by kernel_rfl)) (fun _ _ _ h => h) (Or.inl ⟨by rfl, ?_⟩) hHeld ?_ ?_
   rotate_left
   ·intro w' s0
    obtain ⟨⟨s11, s12, s13⟩, s14, s15, s16⟩ := s0
    go_simp
    with_reducible rfl
   rotate_left
   ·simp only [Act.put, List.setIfInBounds_toArray, List.set_cons_zero, List.set_cons_succ, zaL, zaN]
    rfl
   refine zb4 (i := 6) (N := some 80) (v := ?_) (a' := ?_) #[true, true, true, true, false, true, true, true, false, false, true, false, true, false, false, false, false, false, false, false, false] rfl rfl (zbv HT_.out HW_.out (by kernel_rfl)) (fun _ _ _ h => h) (Or.inl ⟨by rfl, ?_⟩) hHeld ?_ ?_
   rotate_left
   ·intro w' s0
    obtain ⟨⟨s11, s12, s13⟩, s14, s15, s16⟩ := s0
    go_simp
    with_reducible rfl
   rotate_left
   ·simp only [Act.put, List.setIfInBounds_toArray, List.set_cons_zero, List.set_cons_succ, zaL, zaN]
    rfl
   refine zb4 (i := 8) (N := some 82) (v := ?_) (a' := ?_) #[true, true, true, true, false, true, true, true, true, false, true, false, true, false, false, false, false, false, false, false, false] rfl rfl (zbv HT_.out HW_.out (by kernel_rfl)) (fun _ _ _ h => h) (Or.inl ⟨by rfl, ?_⟩) hHeld ?_ ?_
   rotate_left
   ·intro w' s0
    obtain ⟨⟨s11, s12, s13⟩, s14, s15, s16⟩ := s0
    go_simp
    with_reducible rfl
   rotate_left
   ·simp only [Act.put, List.setIfInBounds_toArray, List.set_cons_zero, List.set_cons_succ, zaL, zaN]
    rfl
   refine zb4 (i := 11) (N := some 85) (v := ?_) (a' := ?_) #[true, true, true, true, false, true, true, true, true, false, true, true, true, false, false, false, false, false, false, false, false] rfl rfl (zbv HT_.out HW_.out (by kernel_rfl)) (fun _ _ _ h => h) (Or.inl ⟨by rfl, ?_⟩) hHeld ?_ ?_
   rotate_left
   ·intro w' s0
    obtain ⟨⟨s11, s12, s13⟩, s14, s15, s16⟩ := s0
    go_simp
    with_reducible rfl
   rotate_left
   ·simp only [Act.put, List.setIfInBounds_toArray, List.set_cons_zero, List.set_cons_succ, zaL, zaN]
    rfl
   refine zb4 (i := 13) (N := some 87) (v := ?_) (a' := ?_) #[true, true, true, true, false, true, true, true, true, false, true, true, true, true, false, false, false, false, false, false, false] rfl rfl (zbv HT_.out HW_.out (by kernel_rfl)) (fun _ _ _ h => h) (Or.inl ⟨by rfl, ?_⟩) hHeld ?_ ?_
   rotate_left
   ·intro w' s0
    obtain ⟨⟨s11, s12, s13⟩, s14, s15, s16⟩ := s0
    go_simp
    with_reducible rfl
   rotate_left
   ·simp only [Act.put, List.setIfInBounds_toArray, List.set_cons_zero, List.set_cons_succ, zaL, zaN]
    rfl
   refine zbB (i := 14) (N := some 88) (v := ?_) (a' := ?_) #[true, true, true, true, false, true, true, true, true, false, true, true, true, true, true, false, false, false, false, false, false] rfl rfl (zbm HT_.out (by kernel_rfl)) (fun _ _ _ h => h) (Or.inl ⟨by rfl, ?_⟩) ?_ ?_
   rotate_left
   ·intro w'
    go_simp
    with_reducible rfl
   rotate_left
   ·simp only [Act.put, List.setIfInBounds_toArray, List.set_cons_zero, List.set_cons_succ, zaL, zaN]
    rfl
   refine one_ (i := 4) (N := some 78) #[true, true, true, true, true, true, true, true, true, false, true, true, true, true, true, false, false, false, false, false, false] rfl rfl (zbK HT_.out (by kernel_rfl)) (by decide) (fun K hK => ?_)
   refine zce Tryd.func49 (by kernel_rfl) rfl #[(.slice Ax1 Lx1 cx1), (.slice Ay2 Ly2 cy2)] (by rfl) rfl rfl (by (try simp only [List.map_toArray, List.map_cons, List.map_nil]); first | done | rfl | (simp only [List.length_drop, List.length_take]; rfl)) ?_
   refine (zeM SZ.1 SZ.2.2.2.1 HNq.out.1 HNq.out.2.2.2).mono ?_
   rintro e W2 ⟨x, rfl, hx, hb⟩
   have H8r := Aside0.mk (zaj H8q.out hb)
   have H9r := Aside0.mk (zaj H9q.out hb)
   have HZr := Aside0.mk (zaj HZq.out hb)
   have HBr := Aside0.mk (zam HBq.out hb)
   have HS_ := show _ ∧ _ from ⟨cl0 H8r.out, cl0 H9r.out⟩
   have hN2 := hx
   refine ⟨_, rfl, ?_⟩
   refine hK.out _ _ HS_ (fun hHeld => ?_)
   clear hK K
   refine zbE (a' := ?_) ?_ ?_
   rotate_left
   ·show Act.put _ (some 78) _ = _
    simp only [Act.put, List.setIfInBounds_toArray, List.set_cons_zero, List.set_cons_succ, zaL, zaN]
    rfl
   have HM := Aside0.mk hN2
   have H2 := Aside0.mk hb
   skip
   refine one_ (i := 9) (N := some 83) #[true, true, true, true, true, true, true, true, true, true, true, true, true, true, true, false, false, false, false, false, false] rfl rfl (zbK HT_.out (by kernel_rfl)) (by decide) (fun K hK => ?_)
   refine zce Tryd.func49 (by kernel_rfl) rfl #[(.slice Ay1 Ly1 cy1), (.slice Ax2 Lx2 cx2)] (by rfl) rfl rfl (by (try simp only [List.map_toArray, List.map_cons, List.map_nil]); first | done | rfl | (simp only [List.length_drop, List.length_take]; rfl)) ?_
   refine (zeM SZ.2.1 SZ.2.2.1 (HNq.out.2.1.below hb) (HNq.out.2.2.1.below hb)).mono ?_
   rintro e W3 ⟨y, rfl, hy, hb3⟩
   have hxy := hx.below hb3
   have H8s := Aside0.mk (zaj H8r.out hb3)
   have H9s := Aside0.mk (zaj H9r.out hb3)
   have HZs := Aside0.mk (zaj HZr.out hb3)
   have HBs := Aside0.mk (zam HBr.out hb3)
   have HS_ := show _ ∧ _ from ⟨cl0 H8s.out, cl0 H9s.out⟩
   refine ⟨_, rfl, ?_⟩
   refine hK.out _ _ HS_ (fun hHeld => ?_)
   clear hK K
   refine zbE (a' := ?_) ?_ ?_
   rotate_left
   ·show Act.put _ (some 83) _ = _
    simp only [Act.put, List.setIfInBounds_toArray, List.set_cons_zero, List.set_cons_succ, zaL, zaN]
    rfl
   obtain ⟨Ax, Lx, cx, rfl⟩ := NB.form hxy
   obtain ⟨Ay, Ly, cy, rfl⟩ := NB.form hy
   refine zbB (i := 15) (N := some 89) (v := ?_) (a' := ?_) #[true, true, true, true, true, true, true, true, true, true, true, true, true, true, true, true, false, false, false, false, false] rfl rfl (zbm HT_.out (by kernel_rfl)) (fun _ _ _ h => h) (Or.inl ⟨by rfl, ?_⟩) ?_ ?_
   rotate_left
   ·intro w'
    go_simp
    with_reducible rfl
   rotate_left
   ·simp only [Act.put, List.setIfInBounds_toArray, List.set_cons_zero, List.set_cons_succ, zaL, zaN]
    rfl
   refine one_ (i := 16) (N := some 90) #[true, true, true, true, true, true, true, true, true, true, true, true, true, true, true, true, true, false, false, false, false] rfl rfl (zbK HT_.out (by kernel_rfl)) (by decide) (fun K hK => ?_)
   refine zce Tryd.func47 (by kernel_rfl) rfl #[.agg #[.slice Ax Lx cx, .slice Ay Ly cy, .bool (s1 != s2)]] (by rfl) rfl rfl (by (try simp only [List.map_toArray, List.map_cons, List.map_nil]); first | done | rfl | (simp only [List.length_drop, List.length_take]; rfl)) ?_
   refine (to_c SZ.2.2.2.2.1 (by rw [Nat.mul_comm]; exact SZ.2.2.2.2.2.1) (SZ.2.2.2.2.2.2.2.2.2 hn3) _ hxy hy).mono ?_
   rw [← HG]
   rintro e W4 ⟨rfl, hb4⟩
   clear HG
   have H8t := Aside0.mk (zaj H8s.out hb4)
   have H9t := Aside0.mk (zaj H9s.out hb4)
   have HZt := Aside0.mk (zaj HZs.out hb4)
   have HBt := Aside0.mk (zam HBs.out hb4)
   have HS_ := show _ ∧ _ from ⟨cl0 H8t.out, cl0 H9t.out⟩
   refine ⟨_, rfl, ?_⟩
   refine hK.out _ _ HS_ (fun hHeld => ?_)
   clear hK K
   refine zbE (a' := ?_) ?_ ?_
   rotate_left
   ·show Act.put _ (some 90) _ = _
    simp only [Act.put, List.setIfInBounds_toArray, List.set_cons_zero, List.set_cons_succ, zaL, zaN]
    rfl
   refine zbB (i := 17) (N := some 91) (v := ?_) (a' := ?_) #[true, true, true, true, true, true, true, true, true, true, true, true, true, true, true, true, true, true, false, false, false] rfl rfl (zbm HT_.out (by kernel_rfl)) (fun _ _ _ h => h) (Or.inl ⟨by rfl, ?_⟩) ?_ ?_
   rotate_left
   ·intro w'
    go_simp
    with_reducible rfl
   rotate_left
   ·simp only [Act.put, List.setIfInBounds_toArray, List.set_cons_zero, List.set_cons_succ, zaL, zaN]
    rfl
   refine zbB (i := 18) (N := some 92) (v := ?_) (a' := ?_) #[true, true, true, true, true, true, true, true, true, true, true, true, true, true, true, true, true, true, true, false, false] rfl rfl (zbm HT_.out (by kernel_rfl)) (fun _ _ _ h => h) (Or.inl ⟨by rfl, ?_⟩) ?_ ?_
   rotate_left
   ·intro w'
    go_simp
    with_reducible rfl
   rotate_left
   ·simp only [Act.put, List.setIfInBounds_toArray, List.set_cons_zero, List.set_cons_succ, zaL, zaN]
    rfl
   have kZ0 := (cl2 HZt.out).1
   have kZ1 := (cl2 HZt.out).2
   have fZ0 := zah HZt.out 0
   have fZ1 := zah HZt.out 1
   refine one_ (i := 19) (N := none) #[true, true, true, true, true, true, true, true, true, true, true, true, true, true, true, true, true, true, true, true, false] rfl rfl (zbK HT_.out (by kernel_rfl)) (by decide) (fun K hK => ?_)
   refine zd1 (w1 := (W4.setCell ⟨g3, 0, none⟩ (.int .i64 (good 3 n1 d1 n2 d2).1)).setCell ⟨g3, 1, none⟩ (.int .i64 (good 3 n1 d1 n2 d2).2.1)) (by rfl) rfl (by first | (go_simp; done) | (go_simp; rfl)) ?_
   refine hK.out _ _ ⟨cl0 (zaA (p := ⟨g3, 1, none⟩) (zaA (p := ⟨g3, 0, none⟩) H8t.out (Ne.symm ND.out.1) _) (Ne.symm ND.out.1) _), cl0 (zaA (p := ⟨g3, 1, none⟩) (zaA (p := ⟨g3, 0, none⟩) H9t.out (Ne.symm ND.out.2.1) _) (Ne.symm ND.out.2.1) _)⟩ (fun hHeld => ?_)
   clear hK K kZ0 kZ1 fZ0 fZ1
   refine zbE (a' := ?_) ?_ ?_
   rotate_left
   ·rfl
   refine zbB (i := 20) (N := some 7) (v := ?_) (a' := ?_) #[true, true, true, true, true, true, true, true, true, true, true, true, true, true, true, true, true, true, true, true, true] rfl rfl (zbm HT_.out (by kernel_rfl)) (fun _ _ _ h => h) (Or.inl ⟨by rfl, ?_⟩) ?_ ?_
   rotate_left
   ·intro w'
    go_simp
    with_reducible rfl
   rotate_left
   ·simp only [Act.put, List.setIfInBounds_toArray, List.set_cons_zero, List.set_cons_succ, zaL, zaN]
    rfl
   refine zdK (zcu HT_.out (by kernel_rfl)) ?_
   go_wp2_with (fail)
   refine bodyPost_ret (za7 rfl _ _ g3 24 #[.int .i64 (good 3 n1 d1 n2 d2).1, .int .i64 (good 3 n1 d1 n2 d2).2.1] (0, 0) _ rfl (zay (cs := #[.int .i64 (good 3 n1 d1 n2 d2).1, .int .i64 0]) (zay (cs := #[.int .i64 0, .int .i64 0]) HZt.out 0 _ rfl) 1 _ rfl) Tryd.underlying24 rfl (by kernel_rfl)) rfl ?_
   exact ⟨rfl, zab (zab HBt.out GE.out) GE.out⟩
end Go.Proofs.YtijhnmbegceonaaDoor.PRef
