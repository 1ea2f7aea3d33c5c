/-
  The library's functions of this seat, laid by the shelf's contracts.
-/
import Derived.Test.YtkadlfadmjhahaaPlaysP3
import Derived.Shelf.SlSortCmp.WholeK
import Derived.Shelf.SlicesG.Cmp
import Derived.Test.YtkadlfadmjhahaaProg
namespace Go.Proofs.Ytkadlfadmjhahaa
open Go.RowKit Go.Sort Go.Shelf
set_option maxRecDepth 100000

def Try.sortFL_ren : Go.Shelf.Ren := ⟨fun | 6 => 34 | 15 => 45 | 14 => 44 | 28 => 58 | 29 => 59 | 20 => 50 | 21 => 51 | 22 => 52 | 23 => 53 | 24 => 54 | 25 => 55 | 26 => 56 | 27 => 57 | 46 => 62 | 47 => 63 | 48 => 64 | 49 => 65 | 50 => 66 | 57 => 68 | n => n, fun | 22 => 34 | 24 => 29 | 25 => 63 | 3 => 3 | 39 => 69 | 0 => 0 | 53 => 83 | 55 => 47 | 4 => 4 | 46 => 77 | 45 => 76 | 50 => 73 | 5 => 5 | 9 => 9 | 66 => 85 | 70 => 89 | 76 => 91 | 77 => 92 | n => n, fun | n => n⟩
theorem Try.sortFL : Go.Proofs.SlLaysF0.n6 Try.prog Try.sortFL_ren := {
  mixed := by kernel_rfl
  f6 := ⟨Try.f34.name, by decide +kernel, Try.func34.trans (congrArg some (by kernel_rfl))⟩
  f14 := ⟨Try.f44.name, by decide +kernel, Try.func44.trans (congrArg some (by kernel_rfl))⟩
  f15 := Try.func45.trans (congrArg some (by kernel_rfl))
  f20 := ⟨Try.f50.name, by decide +kernel, Try.func50.trans (congrArg some (by kernel_rfl))⟩
  f21 := ⟨Try.f51.name, by decide +kernel, Try.func51.trans (congrArg some (by kernel_rfl))⟩
  f22 := ⟨Try.f52.name, by decide +kernel, Try.func52.trans (congrArg some (by kernel_rfl))⟩
  f23 := ⟨Try.f53.name, by decide +kernel, Try.func53.trans (congrArg some (by kernel_rfl))⟩
  f24 := ⟨Try.f54.name, by decide +kernel, Try.func54.trans (congrArg some (by kernel_rfl))⟩
  f25 := ⟨Try.f55.name, by decide +kernel, Try.func55.trans (congrArg some (by kernel_rfl))⟩
  f26 := ⟨Try.f56.name, by decide +kernel, Try.func56.trans (congrArg some (by kernel_rfl))⟩
  f27 := ⟨Try.f57.name, by decide +kernel, Try.func57.trans (congrArg some (by kernel_rfl))⟩
  f28 := Try.func58.trans (congrArg some (by kernel_rfl))
  f29 := Try.func59.trans (congrArg some (by kernel_rfl))
  f46 := ⟨Try.f62.name, by decide +kernel, Try.func62.trans (congrArg some (by kernel_rfl))⟩
  f47 := Try.func63.trans (congrArg some (by kernel_rfl))
  f48 := Try.func64.trans (congrArg some (by kernel_rfl))
  f49 := ⟨Try.f65.name, by decide +kernel, Try.func65.trans (congrArg some (by kernel_rfl))⟩
  f50 := ⟨Try.f66.name, by decide +kernel, Try.func66.trans (congrArg some (by kernel_rfl))⟩
  f57 := ⟨Try.f68.name, by decide +kernel, Try.func68.trans (congrArg some (by kernel_rfl))⟩
  t0 := Try.underlying0
  a0 := Try.isAgg0
  z0 := Try.sizeOf0
  v0 := Try.zeroValue0
  t3 := Try.underlying3
  a3 := Try.isAgg3
  z3 := Try.sizeOf3
  v3 := Try.zeroValue3
  t4 := Try.underlying4
  a4 := Try.isAgg4
  z4 := Try.sizeOf4
  v4 := Try.zeroValue4
  t5 := Try.underlying5
  a5 := Try.isAgg5
  z5 := Try.sizeOf5
  v5 := Try.zeroValue5
  t9 := Try.underlying9
  a9 := Try.isAgg9
  z9 := Try.sizeOf9
  v9 := Try.zeroValue9
  t22 := Try.underlying34
  a22 := Try.isAgg34
  z22 := Try.sizeOf34
  v22 := Try.zeroValue34
  t25 := Try.underlying63
  a25 := Try.isAgg63
  z25 := Try.sizeOf63
  v25 := Try.zeroValue63
  t39 := Try.underlying69
  a39 := Try.isAgg69
  z39 := Try.sizeOf69
  v39 := Try.zeroValue69
  t45 := Try.underlying76
  a45 := Try.isAgg76
  z45 := Try.sizeOf76
  v45 := Try.zeroValue76
  t46 := Try.underlying77
  a46 := Try.isAgg77
  z46 := Try.sizeOf77
  v46 := Try.zeroValue77
  t50 := Try.underlying73
  a50 := Try.isAgg73
  z50 := Try.sizeOf73
  v50 := Try.zeroValue73
  t53 := Try.underlying83
  a53 := Try.isAgg83
  z53 := Try.sizeOf83
  v53 := Try.zeroValue83
  t55 := Try.underlying47
  a55 := Try.isAgg47
  z55 := Try.sizeOf47
  v55 := Try.zeroValue47
  t66 := Try.underlying85
  a66 := Try.isAgg85
  z66 := Try.sizeOf85
  v66 := Try.zeroValue85
  t70 := Try.underlying89
  a70 := Try.isAgg89
  z70 := Try.sizeOf89
  v70 := Try.zeroValue89
  t76 := Try.underlying91
  a76 := Try.isAgg91
  z76 := Try.sizeOf91
  v76 := Try.zeroValue91
  t77 := Try.underlying92
  a77 := Try.isAgg92
  z77 := Try.sizeOf92
  v77 := Try.zeroValue92 }

def Try.cmpL_ren : Go.Shelf.Ren := ⟨fun | 5 => 36 | 7 => 46 | n => n, fun | 22 => 3 | 3 => 3 | 4 => 4 | n => n, fun | n => n⟩
theorem Try.cmpL : Go.Proofs.SlLaysC2.n5 Try.prog Try.cmpL_ren := {
  mixed := by kernel_rfl
  f5 := ⟨Try.f36.name, by decide +kernel, Try.func36.trans (congrArg some (by kernel_rfl))⟩
  f7 := ⟨Try.f46.name, by decide +kernel, Try.func46.trans (congrArg some (by kernel_rfl))⟩
  t3 := Try.underlying3
  a3 := Try.isAgg3
  z3 := Try.sizeOf3
  v3 := Try.zeroValue3
  t4 := Try.underlying4
  a4 := Try.isAgg4
  z4 := Try.sizeOf4
  v4 := Try.zeroValue4
  t22 := Try.underlying3
  a22 := Try.isAgg3
  z22 := Try.sizeOf3
  v22 := Try.zeroValue3 }

end Go.Proofs.Ytkadlfadmjhahaa

