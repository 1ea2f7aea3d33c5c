/-
  The library's functions of this seat, laid by the shelf's contracts.
-/
import Derived.Test.YthabfkcmhffjoaaSpecOneAllP3
import Derived.Shelf.SlIterI.Nil
import Derived.Shelf.SortM.Plain
import Derived.Shelf.SortM.SortNone
import Derived.Test.YthabfkcmhffjoaaProg
namespace Go.Proofs.Ythabfkcmhffjoaa
open Go.RowKit Go.Maps Go.Sort Go.Shelf
set_option maxRecDepth 100000

def Try.keysL_ren : Go.Shelf.Ren := ⟨fun | 7 => 33 | 10 => 36 | n => n, fun | 23 => 43 | 26 => 3 | 3 => 3 | 28 => 57 | 0 => 0 | 27 => 56 | 33 => 61 | 4 => 4 | n => n, fun | n => n⟩
theorem Try.keysL : Go.Proofs.SlLaysZI.n7 Try.prog Try.keysL_ren := {
  mixed := by kernel_rfl
  f7 := ⟨Try.f33.name, by decide +kernel, Try.func33.trans (congrArg some (by kernel_rfl))⟩
  f10 := ⟨Try.f36.name, by decide +kernel, Try.func36.trans (congrArg some (by kernel_rfl))⟩
  t0 := Try.underlying0
  a0 := Try.isAgg0
  z0 := Try.sizeOf0
  v0 := Try.zeroValue0
  t4 := Try.underlying4
  a4 := Try.isAgg4
  z4 := Try.sizeOf4
  v4 := Try.zeroValue4
  t23 := Try.underlying43
  a23 := Try.isAgg43
  z23 := Try.sizeOf43
  v23 := Try.zeroValue43
  t26 := Try.underlying3
  a26 := Try.isAgg3
  z26 := Try.sizeOf3
  v26 := Try.zeroValue3
  t27 := Try.underlying56
  a27 := Try.isAgg56
  z27 := Try.sizeOf56
  v27 := Try.zeroValue56
  t28 := Try.underlying57
  a28 := Try.isAgg57
  z28 := Try.sizeOf57
  v28 := Try.zeroValue57
  t33 := Try.underlying61
  a33 := Try.isAgg61
  z33 := Try.sizeOf61
  v33 := Try.zeroValue61 }

def Try.sortedL_ren : Go.Shelf.Ren := ⟨fun | 6 => 32 | 8 => 34 | 9 => 35 | 11 => 37 | 13 => 39 | 12 => 38 | 23 => 49 | 24 => 50 | 14 => 40 | 15 => 41 | 16 => 42 | 17 => 43 | 18 => 44 | 19 => 45 | 20 => 46 | 21 => 47 | 22 => 48 | 25 => 51 | 26 => 52 | 27 => 53 | 28 => 54 | 29 => 55 | 30 => 56 | 31 => 57 | n => n, fun | 26 => 3 | 28 => 57 | 24 => 31 | 0 => 0 | 3 => 3 | 37 => 65 | 48 => 75 | 50 => 77 | 4 => 4 | 40 => 68 | 39 => 67 | 45 => 59 | 5 => 5 | 9 => 9 | 51 => 78 | 55 => 82 | 57 => 84 | 58 => 85 | 33 => 61 | n => n, fun | n => n⟩
theorem Try.sortedL : Go.Proofs.SlLaysZI.n6 Try.prog Try.sortedL_ren := {
  mixed := by kernel_rfl
  f6 := ⟨Try.f32.name, by decide +kernel, Try.func32.trans (congrArg some (by kernel_rfl))⟩
  f8 := ⟨Try.f34.name, by decide +kernel, Try.func34.trans (congrArg some (by kernel_rfl))⟩
  f11 := ⟨Try.f37.name, by decide +kernel, Try.func37.trans (congrArg some (by kernel_rfl))⟩
  t0 := Try.underlying0
  a0 := Try.isAgg0
  z0 := Try.sizeOf0
  v0 := Try.zeroValue0
  t24 := Try.underlying31
  a24 := Try.isAgg31
  z24 := Try.sizeOf31
  v24 := Try.zeroValue31
  t26 := Try.underlying3
  a26 := Try.isAgg3
  z26 := Try.sizeOf3
  v26 := Try.zeroValue3
  t28 := Try.underlying57
  a28 := Try.isAgg57
  z28 := Try.sizeOf57
  v28 := Try.zeroValue57
  i26 := by kernel_rfl }

def Try.sortL_ren : Go.Shelf.Ren := ⟨fun | 5 => 35 | 8 => 39 | 7 => 38 | 19 => 49 | 20 => 50 | 10 => 40 | 11 => 41 | 12 => 42 | 13 => 43 | 14 => 44 | 15 => 45 | 16 => 46 | 17 => 47 | 18 => 48 | 30 => 51 | 31 => 52 | 32 => 53 | 33 => 54 | 34 => 55 | 35 => 56 | 40 => 57 | n => n, fun | 23 => 31 | 25 => 3 | 3 => 3 | 32 => 65 | 22 => 31 | 0 => 0 | 44 => 75 | 46 => 77 | 4 => 4 | 36 => 68 | 35 => 67 | 41 => 59 | 5 => 5 | 9 => 9 | 53 => 78 | 57 => 82 | 63 => 84 | 64 => 85 | n => n, fun | n => n⟩
theorem Try.sortL : Go.Proofs.SlLaysM.n5 Try.prog Try.sortL_ren := {
  mixed := by kernel_rfl
  f5 := ⟨Try.f35.name, by decide +kernel, Try.func35.trans (congrArg some (by kernel_rfl))⟩
  f7 := ⟨Try.f38.name, by decide +kernel, Try.func38.trans (congrArg some (by kernel_rfl))⟩
  f8 := Try.func39.trans (congrArg some (by kernel_rfl))
  f10 := ⟨Try.f40.name, by decide +kernel, Try.func40.trans (congrArg some (by kernel_rfl))⟩
  f11 := ⟨Try.f41.name, by decide +kernel, Try.func41.trans (congrArg some (by kernel_rfl))⟩
  f12 := ⟨Try.f42.name, by decide +kernel, Try.func42.trans (congrArg some (by kernel_rfl))⟩
  f13 := ⟨Try.f43.name, by decide +kernel, Try.func43.trans (congrArg some (by kernel_rfl))⟩
  f14 := ⟨Try.f44.name, by decide +kernel, Try.func44.trans (congrArg some (by kernel_rfl))⟩
  f15 := ⟨Try.f45.name, by decide +kernel, Try.func45.trans (congrArg some (by kernel_rfl))⟩
  f16 := ⟨Try.f46.name, by decide +kernel, Try.func46.trans (congrArg some (by kernel_rfl))⟩
  f17 := ⟨Try.f47.name, by decide +kernel, Try.func47.trans (congrArg some (by kernel_rfl))⟩
  f18 := ⟨Try.f48.name, by decide +kernel, Try.func48.trans (congrArg some (by kernel_rfl))⟩
  f19 := Try.func49.trans (congrArg some (by kernel_rfl))
  f20 := Try.func50.trans (congrArg some (by kernel_rfl))
  f30 := ⟨Try.f51.name, by decide +kernel, Try.func51.trans (congrArg some (by kernel_rfl))⟩
  f31 := Try.func52.trans (congrArg some (by kernel_rfl))
  f32 := Try.func53.trans (congrArg some (by kernel_rfl))
  f33 := ⟨Try.f54.name, by decide +kernel, Try.func54.trans (congrArg some (by kernel_rfl))⟩
  f34 := ⟨Try.f55.name, by decide +kernel, Try.func55.trans (congrArg some (by kernel_rfl))⟩
  f35 := ⟨Try.f56.name, by decide +kernel, Try.func56.trans (congrArg some (by kernel_rfl))⟩
  f40 := ⟨Try.f57.name, by decide +kernel, Try.func57.trans (congrArg some (by kernel_rfl))⟩
  t0 := Try.underlying0
  a0 := Try.isAgg0
  z0 := Try.sizeOf0
  v0 := Try.zeroValue0
  t3 := Try.underlying3
  a3 := Try.isAgg3
  z3 := Try.sizeOf3
  v3 := Try.zeroValue3
  t4 := Try.underlying4
  a4 := Try.isAgg4
  z4 := Try.sizeOf4
  v4 := Try.zeroValue4
  t5 := Try.underlying5
  a5 := Try.isAgg5
  z5 := Try.sizeOf5
  v5 := Try.zeroValue5
  t9 := Try.underlying9
  a9 := Try.isAgg9
  z9 := Try.sizeOf9
  v9 := Try.zeroValue9
  t22 := Try.underlying31
  a22 := Try.isAgg31
  z22 := Try.sizeOf31
  v22 := Try.zeroValue31
  t23 := Try.underlying31
  a23 := Try.isAgg31
  z23 := Try.sizeOf31
  v23 := Try.zeroValue31
  t25 := Try.underlying3
  a25 := Try.isAgg3
  z25 := Try.sizeOf3
  v25 := Try.zeroValue3
  t32 := Try.underlying65
  a32 := Try.isAgg65
  z32 := Try.sizeOf65
  v32 := Try.zeroValue65
  t35 := Try.underlying67
  a35 := Try.isAgg67
  z35 := Try.sizeOf67
  v35 := Try.zeroValue67
  t36 := Try.underlying68
  a36 := Try.isAgg68
  z36 := Try.sizeOf68
  v36 := Try.zeroValue68
  t41 := Try.underlying59
  a41 := Try.isAgg59
  z41 := Try.sizeOf59
  v41 := Try.zeroValue59
  t44 := Try.underlying75
  a44 := Try.isAgg75
  z44 := Try.sizeOf75
  v44 := Try.zeroValue75
  t46 := Try.underlying77
  a46 := Try.isAgg77
  z46 := Try.sizeOf77
  v46 := Try.zeroValue77
  t53 := Try.underlying78
  a53 := Try.isAgg78
  z53 := Try.sizeOf78
  v53 := Try.zeroValue78
  t57 := Try.underlying82
  a57 := Try.isAgg82
  z57 := Try.sizeOf82
  v57 := Try.zeroValue82
  t63 := Try.underlying84
  a63 := Try.isAgg84
  z63 := Try.sizeOf84
  v63 := Try.zeroValue84
  t64 := Try.underlying85
  a64 := Try.isAgg85
  z64 := Try.sizeOf85
  v64 := Try.zeroValue85 }


theorem Try.sortsL (m : Nat) : AnyZI.SortsIn Try.prog Try.sortedL_ren Fence.wide m :=
  ⟨fun blk off cap ss W hH hblk hsz => callsIn_wide.2 (AnyM.slices_Sort_int Try.sortL blk off cap ss W hH hblk hsz),
   fun p cap W => callsIn_wide.2 (AnyM.slices_Sort_int_none Try.sortL p cap W)⟩
end Go.Proofs.Ythabfkcmhffjoaa

