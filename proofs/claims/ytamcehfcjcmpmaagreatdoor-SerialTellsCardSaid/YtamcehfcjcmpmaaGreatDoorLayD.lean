/- strconv.AppendInt at base 10, laid at this program. SEAT-BOUND: gen.py takes XLayD@ALIAS, where there is one. -/
import Derived.Test.YtamcehfcjcmpmaaGreatDoorRows
import Derived.Test.YtamcehfcjcmpmaaGreatDoorMem
import Derived.Shelf.Strconv.AppendIntPublic10
/- strconv.AppendInt at base 10, as the shelf has it, laid at this program. SEAT-BOUND: the numbers are those of the door seat; for another seat print them anew by tpl/XLayT and mk_lay.py. -/
namespace Go.Proofs.YtamcehfcjcmpmaaGreatDoor
open Go.Shelf Go.RowKit

def laysAI_ren : Ren :=
{
  f := fun x =>
    match x with
    | 176 => 46
    | 249 => 56
    | 288 => 74
    | 283 => 87
    | 284 => 88
    | 285 => 89
    | 286 => 90
    | 129 => 97
    | 317 => 96
    | 318 => 98
    | 319 => 99
    | 320 => 100
    | 337 => 103
    | 338 => 104
    | n => n,
  t := fun x =>
    match x with
    | 37 => 91
    | 2 => 2
    | 3 => 3
    | 53 => 48
    | 4 => 4
    | 9 => 9
    | 171 => 123
    | 0 => 0
    | 173 => 126
    | 212 => 132
    | 51 => 133
    | 5 => 5
    | 20 => 20
    | 213 => 134
    | 46 => 67
    | 232 => 138
    | 233 => 139
    | n => n,
  g := fun x =>
    match x with
    | 17 => 0
    | 18 => 2
    | 19 => 3
    | n => n }
theorem laysAI : LaysM.n176 Tryz.prog laysAI_ren where
  mixed := by kernel_rfl
  f129 := Tryz.func97.trans (congrArg some (by kernel_rfl))
  f176 := Tryz.func46.trans (congrArg some (by kernel_rfl))
  f249 := Tryz.func56.trans (congrArg some (by kernel_rfl))
  f283 := Tryz.func87.trans (congrArg some (by kernel_rfl))
  f284 := Tryz.func88.trans (congrArg some (by kernel_rfl))
  f285 := Tryz.func89.trans (congrArg some (by kernel_rfl))
  f286 := Tryz.func90.trans (congrArg some (by kernel_rfl))
  f288 := Tryz.func74.trans (congrArg some (by kernel_rfl))
  f317 := Tryz.func96.trans (congrArg some (by kernel_rfl))
  f318 := Tryz.func98.trans (congrArg some (by kernel_rfl))
  f319 := Tryz.func99.trans (congrArg some (by kernel_rfl))
  f320 := Tryz.func100.trans (congrArg some (by kernel_rfl))
  f337 := Tryz.func103.trans (congrArg some (by kernel_rfl))
  f338 := Tryz.func104.trans (congrArg some (by kernel_rfl))
  t0 := Tryz.underlying0
  a0 := Tryz.isAgg0
  z0 := Tryz.sizeOf0
  v0 := Tryz.zeroValue0
  t2 := Tryz.underlying2
  a2 := Tryz.isAgg2
  z2 := Tryz.sizeOf2
  v2 := Tryz.zeroValue2
  t3 := Tryz.underlying3
  a3 := Tryz.isAgg3
  z3 := Tryz.sizeOf3
  v3 := Tryz.zeroValue3
  t4 := Tryz.underlying4
  a4 := Tryz.isAgg4
  z4 := Tryz.sizeOf4
  v4 := Tryz.zeroValue4
  t5 := Tryz.underlying5
  a5 := Tryz.isAgg5
  z5 := Tryz.sizeOf5
  v5 := Tryz.zeroValue5
  t9 := Tryz.underlying9
  a9 := Tryz.isAgg9
  z9 := Tryz.sizeOf9
  v9 := Tryz.zeroValue9
  t20 := Tryz.underlying20
  a20 := Tryz.isAgg20
  z20 := Tryz.sizeOf20
  v20 := Tryz.zeroValue20
  t37 := Tryz.underlying91
  a37 := Tryz.isAgg91
  z37 := Tryz.sizeOf91
  v37 := Tryz.zeroValue91
  t46 := Tryz.underlying67
  a46 := Tryz.isAgg67
  z46 := Tryz.sizeOf67
  v46 := Tryz.zeroValue67
  t51 := Tryz.underlying133
  a51 := Tryz.isAgg133
  z51 := Tryz.sizeOf133
  v51 := Tryz.zeroValue133
  t53 := Tryz.underlying48
  a53 := Tryz.isAgg48
  z53 := Tryz.sizeOf48
  v53 := Tryz.zeroValue48
  t171 := Tryz.underlying123
  a171 := Tryz.isAgg123
  z171 := Tryz.sizeOf123
  v171 := Tryz.zeroValue123
  t173 := Tryz.underlying126
  a173 := Tryz.isAgg126
  z173 := Tryz.sizeOf126
  v173 := Tryz.zeroValue126
  t212 := Tryz.underlying132
  a212 := Tryz.isAgg132
  z212 := Tryz.sizeOf132
  v212 := Tryz.zeroValue132
  t213 := Tryz.underlying134
  a213 := Tryz.isAgg134
  z213 := Tryz.sizeOf134
  t232 := Tryz.underlying138
  a232 := Tryz.isAgg138
  z232 := Tryz.sizeOf138
  v232 := Tryz.zeroValue138
  t233 := Tryz.underlying139
  a233 := Tryz.isAgg139
  z233 := Tryz.sizeOf139
  v233 := Tryz.zeroValue139
  g17 := by kernel_rfl
  g18 := by kernel_rfl
  g19 := by kernel_rfl
  i0 := by kernel_rfl
  i2 := by kernel_rfl
  i3 := by kernel_rfl
  i4 := by kernel_rfl
  i5 := by kernel_rfl
  i9 := by kernel_rfl
  i20 := by kernel_rfl
  i37 := by kernel_rfl
  i46 := by kernel_rfl
  i51 := by kernel_rfl
  i53 := by kernel_rfl
  i171 := by kernel_rfl
  i173 := by kernel_rfl
  i212 := by kernel_rfl
  i232 := by kernel_rfl
  i233 := by kernel_rfl
  m17 := by kernel_rfl
  m18 := by kernel_rfl
  m19 := by kernel_rfl
theorem appendInt_any (B n : Nat) (i : Int) (h0 : -9223372036854775808 ≤ i) (h1 : i ≤ 9223372036854775807) (sv : Value) (xs : List Value) (w : World) (hown : w.ownsRow B 5 1 sv n xs) (hBw : B ≤ w.heap.size) (hlim : n + 21 ≤ 140737488355328)
    (htab : Lib.TabBelow Tryz.prog B w "internal/strconv.uint64pow10" .u64 Lib.pow10Tab) :
    Calls Tryz.prog 46 #[sv, .int .i64 i, .int .i64 10] w fun e w' => ∃ v', e = .returned v' ∧ w'.ownsRow B 5 1 v' (n + (Lib.itoa i).length) (xs ++ Lib.byteCells (Lib.itoa i)) ∧ Below B w w' ∧ Lib.OthersKept 5 none w w' :=
  Any.strconv_AppendInt_10 laysAI B n i h0 h1 sv xs w hown hBw hlim htab
end Go.Proofs.YtamcehfcjcmpmaaGreatDoor
