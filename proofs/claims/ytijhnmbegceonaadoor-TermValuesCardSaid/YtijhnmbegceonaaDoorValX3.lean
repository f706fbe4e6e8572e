-- Words and walks, cut to what this law uses (wip/pack.py).
import Derived.Shelf.Strings.Builder1
import Derived.Shelf.Strings.Builder2
import Derived.Shelf.Strings.OnBuilder
import Derived.Shelf.Small.Bits
import Derived.Shelf.Strconv.Itoa0
import Derived.Shelf.Strconv.Itoa1
import Derived.Shelf.LaysM
import Derived.Shelf.Strconv.Itoa2
import Derived.Shelf.Strconv.Itoa3
import Derived.Shelf.Strconv.Itoa4
import Derived.Shelf.Bits.Mul64
import Derived.Test.YtijhnmbegceonaaDoorProg
namespace Go.Proofs
open Go.Shelf
def Tryd.zdt : Go.Shelf.Ren := ⟨fun | 156 => 31 | 165 => 54 | 166 => 55 | 169 => 56 | 240 => 75 | 241 => 76 | 276 => 86 | 277 => 87 | n => n, fun | 31 => 27 | 9 => 9 | 3 => 3 | 4 => 4 | 0 => 0 | 20 => 20 | 72 => 72 | 76 => 76 | 70 => 69 | 37 => 70 | 75 => 75 | 127 => 100 | 164 => 109 | 5 => 5 | 80 => 78 | n => n, fun | n => n⟩
theorem Tryd.zf4 : Go.Proofs.Lays.n156 Tryd.prog Tryd.zdt := {
 mixed := by kernel_rfl
 f156 := Tryd.func31.trans (congrArg some (by kernel_rfl))
 f165 := Tryd.func54.trans (congrArg some (by kernel_rfl))
 f166 := Tryd.func55.trans (congrArg some (by kernel_rfl))
 f169 := Tryd.func56.trans (congrArg some (by kernel_rfl))
 f240 := Tryd.func75.trans (congrArg some (by kernel_rfl))
 f241 := Tryd.func76.trans (congrArg some (by kernel_rfl))
 f276 := Tryd.func86.trans (congrArg some (by kernel_rfl))
 f277 := Tryd.func87.trans (congrArg some (by kernel_rfl))
 t0 := Tryd.underlying0
 a0 := Tryd.isAgg0
 z0 := Tryd.sizeOf0
 v0 := Tryd.zeroValue0
 t3 := Tryd.underlying3
 a3 := Tryd.isAgg3
 z3 := Tryd.sizeOf3
 v3 := Tryd.zeroValue3
 t4 := Tryd.underlying4
 a4 := Tryd.isAgg4
 z4 := Tryd.sizeOf4
 v4 := Tryd.zeroValue4
 t9 := Tryd.underlying9
 a9 := Tryd.isAgg9
 z9 := Tryd.sizeOf9
 v9 := Tryd.zeroValue9
 t20 := Tryd.underlying20
 a20 := Tryd.isAgg20
 z20 := Tryd.sizeOf20
 v20 := Tryd.zeroValue20
 t31 := Tryd.underlying27
 a31 := Tryd.isAgg27
 z31 := Tryd.sizeOf27
 v31 := Tryd.zeroValue27
 t37 := Tryd.underlying70
 a37 := Tryd.isAgg70
 z37 := Tryd.sizeOf70
 v37 := Tryd.zeroValue70
 t70 := Tryd.underlying69
 a70 := Tryd.isAgg69
 z70 := Tryd.sizeOf69
 v70 := Tryd.zeroValue69
 t72 := Tryd.underlying72
 a72 := Tryd.isAgg72
 z72 := Tryd.sizeOf72
 v72 := Tryd.zeroValue72
 t75 := Tryd.underlying75
 a75 := Tryd.isAgg75
 z75 := Tryd.sizeOf75
 v75 := Tryd.zeroValue75
 t76 := Tryd.underlying76
 a76 := Tryd.isAgg76
 z76 := Tryd.sizeOf76
 v76 := Tryd.zeroValue76
 t127 := Tryd.underlying100
 a127 := Tryd.isAgg100
 z127 := Tryd.sizeOf100
 v127 := Tryd.zeroValue100
 t164 := Tryd.underlying109
 a164 := Tryd.isAgg109
 z164 := Tryd.sizeOf109
 v164 := Tryd.zeroValue109 }
theorem Tryd.zcx : Builder.Extra Tryd.prog Tryd.zdt := {
 sizeBuilder := by kernel_rfl
 liesBuilder := by kernel_rfl
 t5 := Tryd.underlying5
 a5 := Tryd.isAgg5
 z5 := Tryd.sizeOf5
 v5 := Tryd.zeroValue5
 infoByte := by kernel_rfl
 cellsByte := by kernel_rfl
 sizeByte := by kernel_rfl
 neB5 := by decide }
open Go.RowKit in
theorem Tryd.strings_Join_none (a : Option Addr) (c : Nat) (sep : ByteArray) (w : World) :
  Calls Tryd.prog 31 #[.slice a 0 c, .string sep] w fun e w' => e = .returned (.string ⟨#[]⟩) ∧ w' = w := Any.strings_Join_none Tryd.zf4 Tryd.zcx a c sep w
open Go.RowKit in
theorem Tryd.strings_Join (bk o c : Nat) (xs : List ByteArray) (sep : ByteArray) (w : World) (hcells : ∀ (j : Nat) x, xs[j]? = some x → w.cell? ⟨bk, o + j, none⟩ = some (.string x)) (hbk : bk < w.heap.size) (hN : xs.length ≤ 140737488355328) (hcap : xs.length ≤ c) (hlen : (Lib.join (xs.map (·.data.toList)) sep.data.toList).length ≤ 140737488355328) :
  Calls Tryd.prog 31 #[.slice (some ⟨bk, o, none⟩) xs.length c, .string sep] w fun e w' => e = .returned (.string ⟨(Lib.join (xs.map (·.data.toList)) sep.data.toList).toArray⟩) ∧ Below w.heap.size w w' := Any.strings_Join Tryd.zf4 Tryd.zcx bk o c xs sep w hcells hbk hN hcap hlen
def Tryd.zeO : Go.Shelf.Ren := ⟨fun | 171 => 29 | 243 => 52 | 246 => 74 | 283 => 82 | 284 => 83 | 285 => 84 | 286 => 85 | 129 => 88 | 317 => 89 | 318 => 90 | 319 => 91 | 320 => 92 | 337 => 93 | 338 => 94 | n => n, fun | 3 => 3 | 9 => 9 | 2 => 2 | 4 => 4 | 171 => 105 | 0 => 0 | 53 => 81 | 37 => 70 | 5 => 5 | 173 => 107 | 212 => 114 | 51 => 115 | 20 => 20 | 213 => 116 | 46 => 102 | 232 => 120 | 233 => 121 | n => n, fun | 17 => 2 | 18 => 4 | 19 => 5 | n => n⟩
theorem Tryd.zhx : Go.Proofs.Lays.n171 Tryd.prog Tryd.zeO := {
 mixed := by kernel_rfl
 f129 := Tryd.func88.trans (congrArg some (by kernel_rfl))
 f171 := Tryd.func29.trans (congrArg some (by kernel_rfl))
 f243 := Tryd.func52.trans (congrArg some (by kernel_rfl))
 f246 := Tryd.func74.trans (congrArg some (by kernel_rfl))
 f283 := Tryd.func82.trans (congrArg some (by kernel_rfl))
 f284 := Tryd.func83.trans (congrArg some (by kernel_rfl))
 f285 := Tryd.func84.trans (congrArg some (by kernel_rfl))
 f286 := Tryd.func85.trans (congrArg some (by kernel_rfl))
 f317 := Tryd.func89.trans (congrArg some (by kernel_rfl))
 f318 := Tryd.func90.trans (congrArg some (by kernel_rfl))
 f319 := Tryd.func91.trans (congrArg some (by kernel_rfl))
 f320 := Tryd.func92.trans (congrArg some (by kernel_rfl))
 f337 := Tryd.func93.trans (congrArg some (by kernel_rfl))
 f338 := Tryd.func94.trans (congrArg some (by kernel_rfl))
 t0 := Tryd.underlying0
 a0 := Tryd.isAgg0
 z0 := Tryd.sizeOf0
 v0 := Tryd.zeroValue0
 t2 := Tryd.underlying2
 a2 := Tryd.isAgg2
 z2 := Tryd.sizeOf2
 v2 := Tryd.zeroValue2
 t3 := Tryd.underlying3
 a3 := Tryd.isAgg3
 z3 := Tryd.sizeOf3
 v3 := Tryd.zeroValue3
 t4 := Tryd.underlying4
 a4 := Tryd.isAgg4
 z4 := Tryd.sizeOf4
 v4 := Tryd.zeroValue4
 t5 := Tryd.underlying5
 a5 := Tryd.isAgg5
 z5 := Tryd.sizeOf5
 v5 := Tryd.zeroValue5
 t9 := Tryd.underlying9
 a9 := Tryd.isAgg9
 z9 := Tryd.sizeOf9
 v9 := Tryd.zeroValue9
 t20 := Tryd.underlying20
 a20 := Tryd.isAgg20
 z20 := Tryd.sizeOf20
 v20 := Tryd.zeroValue20
 t37 := Tryd.underlying70
 a37 := Tryd.isAgg70
 z37 := Tryd.sizeOf70
 v37 := Tryd.zeroValue70
 t46 := Tryd.underlying102
 a46 := Tryd.isAgg102
 z46 := Tryd.sizeOf102
 v46 := Tryd.zeroValue102
 t51 := Tryd.underlying115
 a51 := Tryd.isAgg115
 z51 := Tryd.sizeOf115
 v51 := Tryd.zeroValue115
 t53 := Tryd.underlying81
 a53 := Tryd.isAgg81
 z53 := Tryd.sizeOf81
 v53 := Tryd.zeroValue81
 t171 := Tryd.underlying105
 a171 := Tryd.isAgg105
 z171 := Tryd.sizeOf105
 v171 := Tryd.zeroValue105
 t173 := Tryd.underlying107
 a173 := Tryd.isAgg107
 z173 := Tryd.sizeOf107
 v173 := Tryd.zeroValue107
 t212 := Tryd.underlying114
 a212 := Tryd.isAgg114
 z212 := Tryd.sizeOf114
 v212 := Tryd.zeroValue114
 t213 := Tryd.underlying116
 a213 := Tryd.isAgg116
 z213 := Tryd.sizeOf116
 t232 := Tryd.underlying120
 a232 := Tryd.isAgg120
 z232 := Tryd.sizeOf120
 v232 := Tryd.zeroValue120
 t233 := Tryd.underlying121
 a233 := Tryd.isAgg121
 z233 := Tryd.sizeOf121
 v233 := Tryd.zeroValue121
 g17 := by kernel_rfl
 g18 := by kernel_rfl
 g19 := by kernel_rfl }
open Go.RowKit Go.Sort Go.Lib in
theorem Tryd.strconv_Itoa_small (i : Nat) (hi : i < 100) (w : World) :
  Calls Tryd.prog 29 #[.int .i64 i] w fun e w' => e = .returned (.string ⟨(Lib.decDigits i).toArray⟩) ∧ w' = w := Any.strconv_Itoa_small Tryd.zhx i hi w
def Tryd.zeN : Go.Shelf.Ren := ⟨fun | 173 => 53 | 246 => 74 | 283 => 82 | 284 => 83 | 285 => 84 | 286 => 85 | 129 => 88 | 317 => 89 | 318 => 90 | 319 => 91 | 320 => 92 | 337 => 93 | 338 => 94 | n => n, fun | 2 => 2 | 3 => 3 | 9 => 9 | 4 => 4 | 171 => 105 | 0 => 0 | 53 => 81 | 37 => 70 | 5 => 5 | 173 => 107 | 212 => 114 | 51 => 115 | 20 => 20 | 213 => 116 | 46 => 102 | 232 => 120 | 233 => 121 | n => n, fun | 17 => 2 | 18 => 4 | 19 => 5 | n => n⟩
theorem Tryd.zhw : Go.Proofs.Lays.n173 Tryd.prog Tryd.zeN := {
 mixed := by kernel_rfl
 f129 := Tryd.func88.trans (congrArg some (by kernel_rfl))
 f173 := Tryd.func53.trans (congrArg some (by kernel_rfl))
 f246 := Tryd.func74.trans (congrArg some (by kernel_rfl))
 f283 := Tryd.func82.trans (congrArg some (by kernel_rfl))
 f284 := Tryd.func83.trans (congrArg some (by kernel_rfl))
 f285 := Tryd.func84.trans (congrArg some (by kernel_rfl))
 f286 := Tryd.func85.trans (congrArg some (by kernel_rfl))
 f317 := Tryd.func89.trans (congrArg some (by kernel_rfl))
 f318 := Tryd.func90.trans (congrArg some (by kernel_rfl))
 f319 := Tryd.func91.trans (congrArg some (by kernel_rfl))
 f320 := Tryd.func92.trans (congrArg some (by kernel_rfl))
 f337 := Tryd.func93.trans (congrArg some (by kernel_rfl))
 f338 := Tryd.func94.trans (congrArg some (by kernel_rfl))
 t0 := Tryd.underlying0
 a0 := Tryd.isAgg0
 z0 := Tryd.sizeOf0
 v0 := Tryd.zeroValue0
 t2 := Tryd.underlying2
 a2 := Tryd.isAgg2
 z2 := Tryd.sizeOf2
 v2 := Tryd.zeroValue2
 t3 := Tryd.underlying3
 a3 := Tryd.isAgg3
 z3 := Tryd.sizeOf3
 v3 := Tryd.zeroValue3
 t4 := Tryd.underlying4
 a4 := Tryd.isAgg4
 z4 := Tryd.sizeOf4
 v4 := Tryd.zeroValue4
 t5 := Tryd.underlying5
 a5 := Tryd.isAgg5
 z5 := Tryd.sizeOf5
 v5 := Tryd.zeroValue5
 t9 := Tryd.underlying9
 a9 := Tryd.isAgg9
 z9 := Tryd.sizeOf9
 v9 := Tryd.zeroValue9
 t20 := Tryd.underlying20
 a20 := Tryd.isAgg20
 z20 := Tryd.sizeOf20
 v20 := Tryd.zeroValue20
 t37 := Tryd.underlying70
 a37 := Tryd.isAgg70
 z37 := Tryd.sizeOf70
 v37 := Tryd.zeroValue70
 t46 := Tryd.underlying102
 a46 := Tryd.isAgg102
 z46 := Tryd.sizeOf102
 v46 := Tryd.zeroValue102
 t51 := Tryd.underlying115
 a51 := Tryd.isAgg115
 z51 := Tryd.sizeOf115
 v51 := Tryd.zeroValue115
 t53 := Tryd.underlying81
 a53 := Tryd.isAgg81
 z53 := Tryd.sizeOf81
 v53 := Tryd.zeroValue81
 t171 := Tryd.underlying105
 a171 := Tryd.isAgg105
 z171 := Tryd.sizeOf105
 v171 := Tryd.zeroValue105
 t173 := Tryd.underlying107
 a173 := Tryd.isAgg107
 z173 := Tryd.sizeOf107
 v173 := Tryd.zeroValue107
 t212 := Tryd.underlying114
 a212 := Tryd.isAgg114
 z212 := Tryd.sizeOf114
 v212 := Tryd.zeroValue114
 t213 := Tryd.underlying116
 a213 := Tryd.isAgg116
 z213 := Tryd.sizeOf116
 t232 := Tryd.underlying120
 a232 := Tryd.isAgg120
 z232 := Tryd.sizeOf120
 v232 := Tryd.zeroValue120
 t233 := Tryd.underlying121
 a233 := Tryd.isAgg121
 z233 := Tryd.sizeOf121
 v233 := Tryd.zeroValue121
 g17 := by kernel_rfl
 g18 := by kernel_rfl
 g19 := by kernel_rfl }
open Go.RowKit Go.Sort Go.Lib in
theorem Tryd.strconv_FormatInt_10_small (i : Nat) (hi : i < 100) (w : World) :
  Calls Tryd.prog 53 #[.int .i64 i, .int .i64 10] w fun e w' => e = .returned (.string ⟨(Lib.decDigits i).toArray⟩) ∧ w' = w := Any.strconv_FormatInt_10_small Tryd.zhw i hi w
end Go.Proofs
