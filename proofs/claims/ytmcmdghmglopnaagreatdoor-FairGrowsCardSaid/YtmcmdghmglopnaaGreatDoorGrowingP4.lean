/-
  The table of types of this seat, out of its translation, and that the program has these types.
-/
import Derived.Test.YtmcmdghmglopnaaGreatDoorGrowingP3
import Derived.Test.YtmcmdghmglopnaaGreatDoorRows
namespace Go.Proofs.YtmcmdghmglopnaaGreatDoor
namespace Sx
open Go

def ifaceOf (P : Program) (t : Nat) : Array (String × TypeId) := match P.underlying t with | some (.interface ms) => ms | _ => #[]
def funcOf (P : Program) (t : Nat) : Array TypeId × Array TypeId × Bool := match P.underlying t with | some (.func a b c) => (a, b, c) | _ => (#[], #[], false)
theorem names_ok {P : Program} {t : Nat} (h : P.underlying t = some (.struct (P.fieldsOf t))) (k : ((P.fieldsOf t).toList.all fun f => !(f.name == "_")) = true) :
    ∀ fields, P.underlying t = some (.struct fields) → ∀ f ∈ fields.toList, f.name ≠ "_" := by
  intro fields hf f hm
  rw [h] at hf; cases hf
  have := List.all_eq_true.1 k f hm
  simpa using this

def RowsMet (P : Program) : Nat → List (Option TyRow) → Prop
  | _, [] => True
  | k, none :: l => RowsMet P (k + 1) l
  | k, some R :: l => R.met P k ∧ RowsMet P (k + 1) l
theorem rowsMet_get {P : Program} : ∀ (l : List (Option TyRow)) (k t : Nat) (R : TyRow), RowsMet P k l → l[t]?.join = some R → R.met P (k + t)
  | [], _, _, _, _, h => by simp at h
  | none :: l, k, t, R, hm, h => by
    cases t with
    | zero => simp at h
    | succ t => have := rowsMet_get l (k + 1) t R hm (by simpa using h); rwa [show k + 1 + t = k + (t + 1) by omega] at this
  | some R' :: l, k, t, R, hm, h => by
    cases t with
    | zero => simp at h; subst h; exact hm.1
    | succ t => have := rowsMet_get l (k + 1) t R hm.2 (by simpa using h); rwa [show k + 1 + t = k + (t + 1) by omega] at this

-- func()
def ty1 : TyRow := ⟨.func, 1, 8, [.nilF], false, false, [], false⟩
theorem ty1_met : ty1.met Tryz.prog 1 := ⟨⟨(funcOf Tryz.prog 1).1, (funcOf Tryz.prog 1).2.1, (funcOf Tryz.prog 1).2.2, by kernel_rfl⟩, ⟨(Tryz.prog.info? 1).getD default, .nilFunc, by kernel_rfl, by kernel_rfl, by kernel_rfl, by kernel_rfl, rfl, relL_cellAV _ [.nilFunc], relL_cellAV _ [.nilFunc]⟩, (fun h => by cases h), (fun q hq => by cases hq)⟩
-- int64
def ty2 : TyRow := ⟨.int .i64, 1, 8, [.lit .i64 0], false, false, [], false⟩
theorem ty2_met : ty2.met Tryz.prog 2 := ⟨(show Tryz.prog.underlying 2 = some (.int .i64) by kernel_rfl), ⟨(Tryz.prog.info? 2).getD default, (.int .i64 0), by kernel_rfl, by kernel_rfl, by kernel_rfl, by kernel_rfl, rfl, relL_cellAV _ [(.int .i64 0)], relL_cellAV _ [(.int .i64 0)]⟩, (fun h => by cases h), (fun q hq => by cases hq)⟩
-- int
def ty3 : TyRow := ⟨.int .i64, 1, 8, [.lit .i64 0], false, false, [], false⟩
theorem ty3_met : ty3.met Tryz.prog 3 := ⟨(show Tryz.prog.underlying 3 = some (.int .i64) by kernel_rfl), ⟨(Tryz.prog.info? 3).getD default, (.int .i64 0), by kernel_rfl, by kernel_rfl, by kernel_rfl, by kernel_rfl, rfl, relL_cellAV _ [(.int .i64 0)], relL_cellAV _ [(.int .i64 0)]⟩, (fun h => by cases h), (fun q hq => by cases hq)⟩
-- bool
def ty4 : TyRow := ⟨.bool, 1, 1, [.ff], false, false, [], false⟩
theorem ty4_met : ty4.met Tryz.prog 4 := ⟨(show Tryz.prog.underlying 4 = some (.bool) by kernel_rfl), ⟨(Tryz.prog.info? 4).getD default, (.bool false), by kernel_rfl, by kernel_rfl, by kernel_rfl, by kernel_rfl, rfl, relL_cellAV _ [(.bool false)], relL_cellAV _ [(.bool false)]⟩, (fun h => by cases h), (fun q hq => by cases hq)⟩
-- uint8
def ty5 : TyRow := ⟨.int .u8, 1, 1, [.lit .u8 0], false, false, [], false⟩
theorem ty5_met : ty5.met Tryz.prog 5 := ⟨(show Tryz.prog.underlying 5 = some (.int .u8) by kernel_rfl), ⟨(Tryz.prog.info? 5).getD default, (.int .u8 0), by kernel_rfl, by kernel_rfl, by kernel_rfl, by kernel_rfl, rfl, relL_cellAV _ [(.int .u8 0)], relL_cellAV _ [(.int .u8 0)]⟩, (fun h => by cases h), (fun q hq => by cases hq)⟩
-- abi.BoundsErrorCode
def ty6 : TyRow := ⟨.int .u8, 1, 1, [.lit .u8 0], false, false, [], false⟩
theorem ty6_met : ty6.met Tryz.prog 6 := ⟨(show Tryz.prog.underlying 6 = some (.int .u8) by kernel_rfl), ⟨(Tryz.prog.info? 6).getD default, (.int .u8 0), by kernel_rfl, by kernel_rfl, by kernel_rfl, by kernel_rfl, rfl, relL_cellAV _ [(.int .u8 0)], relL_cellAV _ [(.int .u8 0)]⟩, (fun h => by cases h), (fun q hq => by cases hq)⟩
-- struct { x int64; y int; signed bool; code abi.BoundsErrorCode }
def ty7 : TyRow := ⟨.struct [(0, 2), (1, 3), (2, 4), (3, 6)], 4, 24, [.lit .i64 0, .lit .i64 0, .ff, .lit .u8 0], true, false, [], false⟩
theorem ty7_met : ty7.met Tryz.prog 7 := ⟨⟨Tryz.prog.fieldsOf 7, by kernel_rfl, by kernel_rfl⟩, ⟨(Tryz.prog.info? 7).getD default, (.agg #[(.int .i64 0), (.int .i64 0), (.bool false), (.int .u8 0)]), by kernel_rfl, by kernel_rfl, by kernel_rfl, by kernel_rfl, rfl, ⟨[(.int .i64 0), (.int .i64 0), (.bool false), (.int .u8 0)], relL_cellAV _ [(.int .i64 0), (.int .i64 0), (.bool false), (.int .u8 0)], rfl⟩, relL_cellAV _ [(.int .i64 0), (.int .i64 0), (.bool false), (.int .u8 0)]⟩, fun _ => ⟨by kernel_rfl, by kernel_rfl, names_ok (by kernel_rfl) (by kernel_rfl)⟩, (fun q hq => by cases hq)⟩
-- runtime.boundsError
def ty8 : TyRow := ⟨.struct [(0, 2), (1, 3), (2, 4), (3, 6)], 4, 24, [.lit .i64 0, .lit .i64 0, .ff, .lit .u8 0], true, false, [], false⟩
theorem ty8_met : ty8.met Tryz.prog 8 := ⟨⟨Tryz.prog.fieldsOf 8, by kernel_rfl, by kernel_rfl⟩, ⟨(Tryz.prog.info? 8).getD default, (.agg #[(.int .i64 0), (.int .i64 0), (.bool false), (.int .u8 0)]), by kernel_rfl, by kernel_rfl, by kernel_rfl, by kernel_rfl, rfl, ⟨[(.int .i64 0), (.int .i64 0), (.bool false), (.int .u8 0)], relL_cellAV _ [(.int .i64 0), (.int .i64 0), (.bool false), (.int .u8 0)], rfl⟩, relL_cellAV _ [(.int .i64 0), (.int .i64 0), (.bool false), (.int .u8 0)]⟩, fun _ => ⟨by kernel_rfl, by kernel_rfl, names_ok (by kernel_rfl) (by kernel_rfl)⟩, (fun q hq => by cases hq)⟩
-- string
def ty9 : TyRow := ⟨.str, 1, 16, [.raw (.string (ByteArray.mk #[]))], false, false, [], false⟩
theorem ty9_met : ty9.met Tryz.prog 9 := ⟨(show Tryz.prog.underlying 9 = some (.string) by kernel_rfl), ⟨(Tryz.prog.info? 9).getD default, (.string (ByteArray.mk #[])), by kernel_rfl, by kernel_rfl, by kernel_rfl, by kernel_rfl, rfl, relL_cellAV _ [(.string (ByteArray.mk #[]))], relL_cellAV _ [(.string (ByteArray.mk #[]))]⟩, (fun h => by cases h), (fun q hq => by cases hq)⟩
-- runtime.errorString
def ty10 : TyRow := ⟨.str, 1, 16, [.raw (.string (ByteArray.mk #[]))], false, false, [], false⟩
theorem ty10_met : ty10.met Tryz.prog 10 := ⟨(show Tryz.prog.underlying 10 = some (.string) by kernel_rfl), ⟨(Tryz.prog.info? 10).getD default, (.string (ByteArray.mk #[])), by kernel_rfl, by kernel_rfl, by kernel_rfl, by kernel_rfl, rfl, relL_cellAV _ [(.string (ByteArray.mk #[]))], relL_cellAV _ [(.string (ByteArray.mk #[]))]⟩, (fun h => by cases h), (fun q hq => by cases hq)⟩
-- runtime.plainError
def ty11 : TyRow := ⟨.str, 1, 16, [.raw (.string (ByteArray.mk #[]))], false, false, [], false⟩
theorem ty11_met : ty11.met Tryz.prog 11 := ⟨(show Tryz.prog.underlying 11 = some (.string) by kernel_rfl), ⟨(Tryz.prog.info? 11).getD default, (.string (ByteArray.mk #[])), by kernel_rfl, by kernel_rfl, by kernel_rfl, by kernel_rfl, rfl, relL_cellAV _ [(.string (ByteArray.mk #[]))], relL_cellAV _ [(.string (ByteArray.mk #[]))]⟩, (fun h => by cases h), (fun q hq => by cases hq)⟩
-- uintptr
def ty12 : TyRow := ⟨.int .u64, 1, 8, [.lit .u64 0], false, false, [], false⟩
theorem ty12_met : ty12.met Tryz.prog 12 := ⟨(show Tryz.prog.underlying 12 = some (.int .u64) by kernel_rfl), ⟨(Tryz.prog.info? 12).getD default, (.int .u64 0), by kernel_rfl, by kernel_rfl, by kernel_rfl, by kernel_rfl, rfl, relL_cellAV _ [(.int .u64 0)], relL_cellAV _ [(.int .u64 0)]⟩, (fun h => by cases h), (fun q hq => by cases hq)⟩
-- struct { msg string; addr uintptr }
def ty13 : TyRow := ⟨.struct [(0, 9), (1, 12)], 2, 24, [.raw (.string (ByteArray.mk #[])), .lit .u64 0], false, false, [], false⟩
theorem ty13_met : ty13.met Tryz.prog 13 := ⟨⟨Tryz.prog.fieldsOf 13, by kernel_rfl, by kernel_rfl⟩, ⟨(Tryz.prog.info? 13).getD default, (.agg #[(.string (ByteArray.mk #[])), (.int .u64 0)]), by kernel_rfl, by kernel_rfl, by kernel_rfl, by kernel_rfl, rfl, ⟨[(.string (ByteArray.mk #[])), (.int .u64 0)], relL_cellAV _ [(.string (ByteArray.mk #[])), (.int .u64 0)], rfl⟩, relL_cellAV _ [(.string (ByteArray.mk #[])), (.int .u64 0)]⟩, (fun h => by cases h), (fun q hq => by cases hq)⟩
-- runtime.errorAddressString
def ty14 : TyRow := ⟨.struct [(0, 9), (1, 12)], 2, 24, [.raw (.string (ByteArray.mk #[])), .lit .u64 0], false, false, [], false⟩
theorem ty14_met : ty14.met Tryz.prog 14 := ⟨⟨Tryz.prog.fieldsOf 14, by kernel_rfl, by kernel_rfl⟩, ⟨(Tryz.prog.info? 14).getD default, (.agg #[(.string (ByteArray.mk #[])), (.int .u64 0)]), by kernel_rfl, by kernel_rfl, by kernel_rfl, by kernel_rfl, rfl, ⟨[(.string (ByteArray.mk #[])), (.int .u64 0)], relL_cellAV _ [(.string (ByteArray.mk #[])), (.int .u64 0)], rfl⟩, relL_cellAV _ [(.string (ByteArray.mk #[])), (.int .u64 0)]⟩, (fun h => by cases h), (fun q hq => by cases hq)⟩
-- *runtime.TypeAssertionError
def ty15 : TyRow := ⟨.ptr 342, 1, 8, [.nilP], false, false, [], false⟩
theorem ty15_met : ty15.met Tryz.prog 15 := ⟨(show Tryz.prog.underlying 15 = some (.pointer 342) by kernel_rfl), ⟨(Tryz.prog.info? 15).getD default, (.pointer none), by kernel_rfl, by kernel_rfl, by kernel_rfl, by kernel_rfl, rfl, relL_cellAV _ [(.pointer none)], relL_cellAV _ [(.pointer none)]⟩, (fun h => by cases h), (fun q hq => by cases hq)⟩
-- *runtime.PanicNilError
def ty16 : TyRow := ⟨.ptr 345, 1, 8, [.nilP], false, false, [], false⟩
theorem ty16_met : ty16.met Tryz.prog 16 := ⟨(show Tryz.prog.underlying 16 = some (.pointer 345) by kernel_rfl), ⟨(Tryz.prog.info? 16).getD default, (.pointer none), by kernel_rfl, by kernel_rfl, by kernel_rfl, by kernel_rfl, rfl, relL_cellAV _ [(.pointer none)], relL_cellAV _ [(.pointer none)]⟩, (fun h => by cases h), (fun q hq => by cases hq)⟩
-- *abi.Type
def ty17 : TyRow := ⟨.ptr 354, 1, 8, [.nilP], false, false, [], false⟩
theorem ty17_met : ty17.met Tryz.prog 17 := ⟨(show Tryz.prog.underlying 17 = some (.pointer 354) by kernel_rfl), ⟨(Tryz.prog.info? 17).getD default, (.pointer none), by kernel_rfl, by kernel_rfl, by kernel_rfl, by kernel_rfl, rfl, relL_cellAV _ [(.pointer none)], relL_cellAV _ [(.pointer none)]⟩, (fun h => by cases h), (fun q hq => by cases hq)⟩
-- struct { typ *abi.Type }
def ty18 : TyRow := ⟨.struct [(0, 17)], 1, 8, [.nilP], false, false, [], false⟩
theorem ty18_met : ty18.met Tryz.prog 18 := ⟨⟨Tryz.prog.fieldsOf 18, by kernel_rfl, by kernel_rfl⟩, ⟨(Tryz.prog.info? 18).getD default, (.agg #[(.pointer none)]), by kernel_rfl, by kernel_rfl, by kernel_rfl, by kernel_rfl, rfl, ⟨[(.pointer none)], relL_cellAV _ [(.pointer none)], rfl⟩, relL_cellAV _ [(.pointer none)]⟩, (fun h => by cases h), (fun q hq => by cases hq)⟩
-- maps.unhashableTypeError
def ty19 : TyRow := ⟨.struct [(0, 17)], 1, 8, [.nilP], false, false, [], false⟩
theorem ty19_met : ty19.met Tryz.prog 19 := ⟨⟨Tryz.prog.fieldsOf 19, by kernel_rfl, by kernel_rfl⟩, ⟨(Tryz.prog.info? 19).getD default, (.agg #[(.pointer none)]), by kernel_rfl, by kernel_rfl, by kernel_rfl, by kernel_rfl, rfl, ⟨[(.pointer none)], relL_cellAV _ [(.pointer none)], rfl⟩, relL_cellAV _ [(.pointer none)]⟩, (fun h => by cases h), (fun q hq => by cases hq)⟩
-- interface {}
def ty20 : TyRow := ⟨.iface, 1, 16, [.nilI], false, false, [], false⟩
theorem ty20_met : ty20.met Tryz.prog 20 := ⟨⟨ifaceOf Tryz.prog 20, by kernel_rfl⟩, ⟨(Tryz.prog.info? 20).getD default, .nilIface, by kernel_rfl, by kernel_rfl, by kernel_rfl, by kernel_rfl, rfl, relL_cellAV _ [.nilIface], relL_cellAV _ [.nilIface]⟩, (fun h => by cases h), (fun q hq => by cases hq)⟩
-- int32
def ty21 : TyRow := ⟨.int .i32, 1, 4, [.lit .i32 0], false, false, [], false⟩
theorem ty21_met : ty21.met Tryz.prog 21 := ⟨(show Tryz.prog.underlying 21 = some (.int .i32) by kernel_rfl), ⟨(Tryz.prog.info? 21).getD default, (.int .i32 0), by kernel_rfl, by kernel_rfl, by kernel_rfl, by kernel_rfl, rfl, relL_cellAV _ [(.int .i32 0)], relL_cellAV _ [(.int .i32 0)]⟩, (fun h => by cases h), (fun q hq => by cases hq)⟩
-- []int
def ty22 : TyRow := ⟨.slice 3, 1, 24, [.nilS], false, false, [], false⟩
theorem ty22_met : ty22.met Tryz.prog 22 := ⟨(show Tryz.prog.underlying 22 = some (.slice 3) by kernel_rfl), ⟨(Tryz.prog.info? 22).getD default, (.slice none 0 0), by kernel_rfl, by kernel_rfl, by kernel_rfl, by kernel_rfl, rfl, relL_cellAV _ [(.slice none 0 0)], relL_cellAV _ [(.slice none 0 0)]⟩, (fun h => by cases h), (fun q hq => by cases hq)⟩
-- [][]api.Op
def ty23 : TyRow := ⟨.slice 37, 1, 24, [.nilS], false, false, [], false⟩
theorem ty23_met : ty23.met Tryz.prog 23 := ⟨(show Tryz.prog.underlying 23 = some (.slice 37) by kernel_rfl), ⟨(Tryz.prog.info? 23).getD default, (.slice none 0 0), by kernel_rfl, by kernel_rfl, by kernel_rfl, by kernel_rfl, rfl, relL_cellAV _ [(.slice none 0 0)], relL_cellAV _ [(.slice none 0 0)]⟩, (fun h => by cases h), (fun q hq => by cases hq)⟩
-- func() bool
def ty24 : TyRow := ⟨.func, 1, 8, [.nilF], false, false, [], false⟩
theorem ty24_met : ty24.met Tryz.prog 24 := ⟨⟨(funcOf Tryz.prog 24).1, (funcOf Tryz.prog 24).2.1, (funcOf Tryz.prog 24).2.2, by kernel_rfl⟩, ⟨(Tryz.prog.info? 24).getD default, .nilFunc, by kernel_rfl, by kernel_rfl, by kernel_rfl, by kernel_rfl, rfl, relL_cellAV _ [.nilFunc], relL_cellAV _ [.nilFunc]⟩, (fun h => by cases h), (fun q hq => by cases hq)⟩
-- func([]int, []int) bool
def ty25 : TyRow := ⟨.func, 1, 8, [.nilF], false, false, [], false⟩
theorem ty25_met : ty25.met Tryz.prog 25 := ⟨⟨(funcOf Tryz.prog 25).1, (funcOf Tryz.prog 25).2.1, (funcOf Tryz.prog 25).2.2, by kernel_rfl⟩, ⟨(Tryz.prog.info? 25).getD default, .nilFunc, by kernel_rfl, by kernel_rfl, by kernel_rfl, by kernel_rfl, rfl, relL_cellAV _ [.nilFunc], relL_cellAV _ [.nilFunc]⟩, (fun h => by cases h), (fun q hq => by cases hq)⟩
-- func(int, []int) []int
def ty26 : TyRow := ⟨.func, 1, 8, [.nilF], false, false, [], false⟩
theorem ty26_met : ty26.met Tryz.prog 26 := ⟨⟨(funcOf Tryz.prog 26).1, (funcOf Tryz.prog 26).2.1, (funcOf Tryz.prog 26).2.2, by kernel_rfl⟩, ⟨(Tryz.prog.info? 26).getD default, .nilFunc, by kernel_rfl, by kernel_rfl, by kernel_rfl, by kernel_rfl, rfl, relL_cellAV _ [.nilFunc], relL_cellAV _ [.nilFunc]⟩, (fun h => by cases h), (fun q hq => by cases hq)⟩
-- func([][]api.Op) int
def ty27 : TyRow := ⟨.func, 1, 8, [.nilF], false, false, [], false⟩
theorem ty27_met : ty27.met Tryz.prog 27 := ⟨⟨(funcOf Tryz.prog 27).1, (funcOf Tryz.prog 27).2.1, (funcOf Tryz.prog 27).2.2, by kernel_rfl⟩, ⟨(Tryz.prog.info? 27).getD default, .nilFunc, by kernel_rfl, by kernel_rfl, by kernel_rfl, by kernel_rfl, rfl, relL_cellAV _ [.nilFunc], relL_cellAV _ [.nilFunc]⟩, (fun h => by cases h), (fun q hq => by cases hq)⟩
-- func([][]api.Op, []int) int
def ty28 : TyRow := ⟨.func, 1, 8, [.nilF], false, false, [], false⟩
theorem ty28_met : ty28.met Tryz.prog 28 := ⟨⟨(funcOf Tryz.prog 28).1, (funcOf Tryz.prog 28).2.1, (funcOf Tryz.prog 28).2.2, by kernel_rfl⟩, ⟨(Tryz.prog.info? 28).getD default, .nilFunc, by kernel_rfl, by kernel_rfl, by kernel_rfl, by kernel_rfl, rfl, relL_cellAV _ [.nilFunc], relL_cellAV _ [.nilFunc]⟩, (fun h => by cases h), (fun q hq => by cases hq)⟩
-- func([]int, int) int
def ty29 : TyRow := ⟨.func, 1, 8, [.nilF], false, false, [], false⟩
theorem ty29_met : ty29.met Tryz.prog 29 := ⟨⟨(funcOf Tryz.prog 29).1, (funcOf Tryz.prog 29).2.1, (funcOf Tryz.prog 29).2.2, by kernel_rfl⟩, ⟨(Tryz.prog.info? 29).getD default, .nilFunc, by kernel_rfl, by kernel_rfl, by kernel_rfl, by kernel_rfl, rfl, relL_cellAV _ [.nilFunc], relL_cellAV _ [.nilFunc]⟩, (fun h => by cases h), (fun q hq => by cases hq)⟩
-- func(int, []int, [][]api.Op, []int) bool
def ty30 : TyRow := ⟨.func, 1, 8, [.nilF], false, false, [], false⟩
theorem ty30_met : ty30.met Tryz.prog 30 := ⟨⟨(funcOf Tryz.prog 30).1, (funcOf Tryz.prog 30).2.1, (funcOf Tryz.prog 30).2.2, by kernel_rfl⟩, ⟨(Tryz.prog.info? 30).getD default, .nilFunc, by kernel_rfl, by kernel_rfl, by kernel_rfl, by kernel_rfl, rfl, relL_cellAV _ [.nilFunc], relL_cellAV _ [.nilFunc]⟩, (fun h => by cases h), (fun q hq => by cases hq)⟩
-- struct { Capacity int; Seed int; Shards int; Stripes int; Ring int; Writes int }
def ty31 : TyRow := ⟨.struct [(0, 3), (1, 3), (2, 3), (3, 3), (4, 3), (5, 3)], 6, 48, [.lit .i64 0, .lit .i64 0, .lit .i64 0, .lit .i64 0, .lit .i64 0, .lit .i64 0], true, false, [], false⟩
theorem ty31_met : ty31.met Tryz.prog 31 := ⟨⟨Tryz.prog.fieldsOf 31, by kernel_rfl, by kernel_rfl⟩, ⟨(Tryz.prog.info? 31).getD default, (.agg #[(.int .i64 0), (.int .i64 0), (.int .i64 0), (.int .i64 0), (.int .i64 0), (.int .i64 0)]), by kernel_rfl, by kernel_rfl, by kernel_rfl, by kernel_rfl, rfl, ⟨[(.int .i64 0), (.int .i64 0), (.int .i64 0), (.int .i64 0), (.int .i64 0), (.int .i64 0)], relL_cellAV _ [(.int .i64 0), (.int .i64 0), (.int .i64 0), (.int .i64 0), (.int .i64 0), (.int .i64 0)], rfl⟩, relL_cellAV _ [(.int .i64 0), (.int .i64 0), (.int .i64 0), (.int .i64 0), (.int .i64 0), (.int .i64 0)]⟩, fun _ => ⟨by kernel_rfl, by kernel_rfl, names_ok (by kernel_rfl) (by kernel_rfl)⟩, (fun q hq => by cases hq)⟩
-- api.Config
def ty32 : TyRow := ⟨.struct [(0, 3), (1, 3), (2, 3), (3, 3), (4, 3), (5, 3)], 6, 48, [.lit .i64 0, .lit .i64 0, .lit .i64 0, .lit .i64 0, .lit .i64 0, .lit .i64 0], true, false, [], false⟩
theorem ty32_met : ty32.met Tryz.prog 32 := ⟨⟨Tryz.prog.fieldsOf 32, by kernel_rfl, by kernel_rfl⟩, ⟨(Tryz.prog.info? 32).getD default, (.agg #[(.int .i64 0), (.int .i64 0), (.int .i64 0), (.int .i64 0), (.int .i64 0), (.int .i64 0)]), by kernel_rfl, by kernel_rfl, by kernel_rfl, by kernel_rfl, rfl, ⟨[(.int .i64 0), (.int .i64 0), (.int .i64 0), (.int .i64 0), (.int .i64 0), (.int .i64 0)], relL_cellAV _ [(.int .i64 0), (.int .i64 0), (.int .i64 0), (.int .i64 0), (.int .i64 0), (.int .i64 0)], rfl⟩, relL_cellAV _ [(.int .i64 0), (.int .i64 0), (.int .i64 0), (.int .i64 0), (.int .i64 0), (.int .i64 0)]⟩, fun _ => ⟨by kernel_rfl, by kernel_rfl, names_ok (by kernel_rfl) (by kernel_rfl)⟩, (fun q hq => by cases hq)⟩
-- func(api.Config, [][]api.Op) bool
def ty33 : TyRow := ⟨.func, 1, 8, [.nilF], false, false, [], false⟩
theorem ty33_met : ty33.met Tryz.prog 33 := ⟨⟨(funcOf Tryz.prog 33).1, (funcOf Tryz.prog 33).2.1, (funcOf Tryz.prog 33).2.2, by kernel_rfl⟩, ⟨(Tryz.prog.info? 33).getD default, .nilFunc, by kernel_rfl, by kernel_rfl, by kernel_rfl, by kernel_rfl, rfl, relL_cellAV _ [.nilFunc], relL_cellAV _ [.nilFunc]⟩, (fun h => by cases h), (fun q hq => by cases hq)⟩
-- func(api.Config, [][]api.Op, []int) (int, bool)
def ty35 : TyRow := ⟨.func, 1, 8, [.nilF], false, false, [], false⟩
theorem ty35_met : ty35.met Tryz.prog 35 := ⟨⟨(funcOf Tryz.prog 35).1, (funcOf Tryz.prog 35).2.1, (funcOf Tryz.prog 35).2.2, by kernel_rfl⟩, ⟨(Tryz.prog.info? 35).getD default, .nilFunc, by kernel_rfl, by kernel_rfl, by kernel_rfl, by kernel_rfl, rfl, relL_cellAV _ [.nilFunc], relL_cellAV _ [.nilFunc]⟩, (fun h => by cases h), (fun q hq => by cases hq)⟩
-- func(api.Config, [][]api.Op, []int) bool
def ty36 : TyRow := ⟨.func, 1, 8, [.nilF], false, false, [], false⟩
theorem ty36_met : ty36.met Tryz.prog 36 := ⟨⟨(funcOf Tryz.prog 36).1, (funcOf Tryz.prog 36).2.1, (funcOf Tryz.prog 36).2.2, by kernel_rfl⟩, ⟨(Tryz.prog.info? 36).getD default, .nilFunc, by kernel_rfl, by kernel_rfl, by kernel_rfl, by kernel_rfl, rfl, relL_cellAV _ [.nilFunc], relL_cellAV _ [.nilFunc]⟩, (fun h => by cases h), (fun q hq => by cases hq)⟩
-- []api.Op
def ty37 : TyRow := ⟨.slice 39, 1, 24, [.nilS], false, false, [], false⟩
theorem ty37_met : ty37.met Tryz.prog 37 := ⟨(show Tryz.prog.underlying 37 = some (.slice 39) by kernel_rfl), ⟨(Tryz.prog.info? 37).getD default, (.slice none 0 0), by kernel_rfl, by kernel_rfl, by kernel_rfl, by kernel_rfl, rfl, relL_cellAV _ [(.slice none 0 0)], relL_cellAV _ [(.slice none 0 0)]⟩, (fun h => by cases h), (fun q hq => by cases hq)⟩
-- struct { Do int; Key int; Value int; Weight int }
def ty38 : TyRow := ⟨.struct [(0, 3), (1, 3), (2, 3), (3, 3)], 4, 32, [.lit .i64 0, .lit .i64 0, .lit .i64 0, .lit .i64 0], true, false, [], false⟩
theorem ty38_met : ty38.met Tryz.prog 38 := ⟨⟨Tryz.prog.fieldsOf 38, by kernel_rfl, by kernel_rfl⟩, ⟨(Tryz.prog.info? 38).getD default, (.agg #[(.int .i64 0), (.int .i64 0), (.int .i64 0), (.int .i64 0)]), by kernel_rfl, by kernel_rfl, by kernel_rfl, by kernel_rfl, rfl, ⟨[(.int .i64 0), (.int .i64 0), (.int .i64 0), (.int .i64 0)], relL_cellAV _ [(.int .i64 0), (.int .i64 0), (.int .i64 0), (.int .i64 0)], rfl⟩, relL_cellAV _ [(.int .i64 0), (.int .i64 0), (.int .i64 0), (.int .i64 0)]⟩, fun _ => ⟨by kernel_rfl, by kernel_rfl, names_ok (by kernel_rfl) (by kernel_rfl)⟩, (fun q hq => by cases hq)⟩
-- api.Op
def ty39 : TyRow := ⟨.struct [(0, 3), (1, 3), (2, 3), (3, 3)], 4, 32, [.lit .i64 0, .lit .i64 0, .lit .i64 0, .lit .i64 0], true, false, [], false⟩
theorem ty39_met : ty39.met Tryz.prog 39 := ⟨⟨Tryz.prog.fieldsOf 39, by kernel_rfl, by kernel_rfl⟩, ⟨(Tryz.prog.info? 39).getD default, (.agg #[(.int .i64 0), (.int .i64 0), (.int .i64 0), (.int .i64 0)]), by kernel_rfl, by kernel_rfl, by kernel_rfl, by kernel_rfl, rfl, ⟨[(.int .i64 0), (.int .i64 0), (.int .i64 0), (.int .i64 0)], relL_cellAV _ [(.int .i64 0), (.int .i64 0), (.int .i64 0), (.int .i64 0)], rfl⟩, relL_cellAV _ [(.int .i64 0), (.int .i64 0), (.int .i64 0), (.int .i64 0)]⟩, fun _ => ⟨by kernel_rfl, by kernel_rfl, names_ok (by kernel_rfl) (by kernel_rfl)⟩, (fun q hq => by cases hq)⟩
-- func([][]api.Op, []int) bool
def ty40 : TyRow := ⟨.func, 1, 8, [.nilF], false, false, [], false⟩
theorem ty40_met : ty40.met Tryz.prog 40 := ⟨⟨(funcOf Tryz.prog 40).1, (funcOf Tryz.prog 40).2.1, (funcOf Tryz.prog 40).2.2, by kernel_rfl⟩, ⟨(Tryz.prog.info? 40).getD default, .nilFunc, by kernel_rfl, by kernel_rfl, by kernel_rfl, by kernel_rfl, rfl, relL_cellAV _ [.nilFunc], relL_cellAV _ [.nilFunc]⟩, (fun h => by cases h), (fun q hq => by cases hq)⟩
-- func([]int, int) []int
def ty41 : TyRow := ⟨.func, 1, 8, [.nilF], false, false, [], false⟩
theorem ty41_met : ty41.met Tryz.prog 41 := ⟨⟨(funcOf Tryz.prog 41).1, (funcOf Tryz.prog 41).2.1, (funcOf Tryz.prog 41).2.2, by kernel_rfl⟩, ⟨(Tryz.prog.info? 41).getD default, .nilFunc, by kernel_rfl, by kernel_rfl, by kernel_rfl, by kernel_rfl, rfl, relL_cellAV _ [.nilFunc], relL_cellAV _ [.nilFunc]⟩, (fun h => by cases h), (fun q hq => by cases hq)⟩
-- func([]int, int, int) bool
def ty42 : TyRow := ⟨.func, 1, 8, [.nilF], false, false, [], false⟩
theorem ty42_met : ty42.met Tryz.prog 42 := ⟨⟨(funcOf Tryz.prog 42).1, (funcOf Tryz.prog 42).2.1, (funcOf Tryz.prog 42).2.2, by kernel_rfl⟩, ⟨(Tryz.prog.info? 42).getD default, .nilFunc, by kernel_rfl, by kernel_rfl, by kernel_rfl, by kernel_rfl, rfl, relL_cellAV _ [.nilFunc], relL_cellAV _ [.nilFunc]⟩, (fun h => by cases h), (fun q hq => by cases hq)⟩
-- func(int, []int, int) bool
def ty43 : TyRow := ⟨.func, 1, 8, [.nilF], false, false, [], false⟩
theorem ty43_met : ty43.met Tryz.prog 43 := ⟨⟨(funcOf Tryz.prog 43).1, (funcOf Tryz.prog 43).2.1, (funcOf Tryz.prog 43).2.2, by kernel_rfl⟩, ⟨(Tryz.prog.info? 43).getD default, .nilFunc, by kernel_rfl, by kernel_rfl, by kernel_rfl, by kernel_rfl, rfl, relL_cellAV _ [.nilFunc], relL_cellAV _ [.nilFunc]⟩, (fun h => by cases h), (fun q hq => by cases hq)⟩
-- func(func(int) bool)
def ty44 : TyRow := ⟨.func, 1, 8, [.nilF], false, false, [], false⟩
theorem ty44_met : ty44.met Tryz.prog 44 := ⟨⟨(funcOf Tryz.prog 44).1, (funcOf Tryz.prog 44).2.1, (funcOf Tryz.prog 44).2.2, by kernel_rfl⟩, ⟨(Tryz.prog.info? 44).getD default, .nilFunc, by kernel_rfl, by kernel_rfl, by kernel_rfl, by kernel_rfl, rfl, relL_cellAV _ [.nilFunc], relL_cellAV _ [.nilFunc]⟩, (fun h => by cases h), (fun q hq => by cases hq)⟩
-- iter.Seq[int]
def ty45 : TyRow := ⟨.func, 1, 8, [.nilF], false, false, [], false⟩
theorem ty45_met : ty45.met Tryz.prog 45 := ⟨⟨(funcOf Tryz.prog 45).1, (funcOf Tryz.prog 45).2.1, (funcOf Tryz.prog 45).2.2, by kernel_rfl⟩, ⟨(Tryz.prog.info? 45).getD default, .nilFunc, by kernel_rfl, by kernel_rfl, by kernel_rfl, by kernel_rfl, rfl, relL_cellAV _ [.nilFunc], relL_cellAV _ [.nilFunc]⟩, (fun h => by cases h), (fun q hq => by cases hq)⟩
-- func(int, int) iter.Seq[int]
def ty46 : TyRow := ⟨.func, 1, 8, [.nilF], false, false, [], false⟩
theorem ty46_met : ty46.met Tryz.prog 46 := ⟨⟨(funcOf Tryz.prog 46).1, (funcOf Tryz.prog 46).2.1, (funcOf Tryz.prog 46).2.2, by kernel_rfl⟩, ⟨(Tryz.prog.info? 46).getD default, .nilFunc, by kernel_rfl, by kernel_rfl, by kernel_rfl, by kernel_rfl, rfl, relL_cellAV _ [.nilFunc], relL_cellAV _ [.nilFunc]⟩, (fun h => by cases h), (fun q hq => by cases hq)⟩
-- *conc.Machine
def ty47 : TyRow := ⟨.ptr 74, 1, 8, [.nilP], false, false, [], false⟩
theorem ty47_met : ty47.met Tryz.prog 47 := ⟨(show Tryz.prog.underlying 47 = some (.pointer 74) by kernel_rfl), ⟨(Tryz.prog.info? 47).getD default, (.pointer none), by kernel_rfl, by kernel_rfl, by kernel_rfl, by kernel_rfl, rfl, relL_cellAV _ [(.pointer none)], relL_cellAV _ [(.pointer none)]⟩, (fun h => by cases h), (fun q hq => by cases hq)⟩
-- func(api.Config, [][]api.Op) *conc.Machine
def ty48 : TyRow := ⟨.func, 1, 8, [.nilF], false, false, [], false⟩
theorem ty48_met : ty48.met Tryz.prog 48 := ⟨⟨(funcOf Tryz.prog 48).1, (funcOf Tryz.prog 48).2.1, (funcOf Tryz.prog 48).2.2, by kernel_rfl⟩, ⟨(Tryz.prog.info? 48).getD default, .nilFunc, by kernel_rfl, by kernel_rfl, by kernel_rfl, by kernel_rfl, rfl, relL_cellAV _ [.nilFunc], relL_cellAV _ [.nilFunc]⟩, (fun h => by cases h), (fun q hq => by cases hq)⟩
-- func([]bool, bool) bool
def ty49 : TyRow := ⟨.func, 1, 8, [.nilF], false, false, [], false⟩
theorem ty49_met : ty49.met Tryz.prog 49 := ⟨⟨(funcOf Tryz.prog 49).1, (funcOf Tryz.prog 49).2.1, (funcOf Tryz.prog 49).2.2, by kernel_rfl⟩, ⟨(Tryz.prog.info? 49).getD default, .nilFunc, by kernel_rfl, by kernel_rfl, by kernel_rfl, by kernel_rfl, rfl, relL_cellAV _ [.nilFunc], relL_cellAV _ [.nilFunc]⟩, (fun h => by cases h), (fun q hq => by cases hq)⟩
-- []bool
def ty50 : TyRow := ⟨.slice 4, 1, 24, [.nilS], false, false, [], false⟩
theorem ty50_met : ty50.met Tryz.prog 50 := ⟨(show Tryz.prog.underlying 50 = some (.slice 4) by kernel_rfl), ⟨(Tryz.prog.info? 50).getD default, (.slice none 0 0), by kernel_rfl, by kernel_rfl, by kernel_rfl, by kernel_rfl, rfl, relL_cellAV _ [(.slice none 0 0)], relL_cellAV _ [(.slice none 0 0)]⟩, (fun h => by cases h), (fun q hq => by cases hq)⟩
-- func() []bool
def ty51 : TyRow := ⟨.func, 1, 8, [.nilF], false, false, [], false⟩
theorem ty51_met : ty51.met Tryz.prog 51 := ⟨⟨(funcOf Tryz.prog 51).1, (funcOf Tryz.prog 51).2.1, (funcOf Tryz.prog 51).2.2, by kernel_rfl⟩, ⟨(Tryz.prog.info? 51).getD default, .nilFunc, by kernel_rfl, by kernel_rfl, by kernel_rfl, by kernel_rfl, rfl, relL_cellAV _ [.nilFunc], relL_cellAV _ [.nilFunc]⟩, (fun h => by cases h), (fun q hq => by cases hq)⟩
-- *pantryref22.Machine
def ty52 : TyRow := ⟨.ptr 96, 1, 8, [.nilP], false, false, [], false⟩
theorem ty52_met : ty52.met Tryz.prog 52 := ⟨(show Tryz.prog.underlying 52 = some (.pointer 96) by kernel_rfl), ⟨(Tryz.prog.info? 52).getD default, (.pointer none), by kernel_rfl, by kernel_rfl, by kernel_rfl, by kernel_rfl, rfl, relL_cellAV _ [(.pointer none)], relL_cellAV _ [(.pointer none)]⟩, (fun h => by cases h), (fun q hq => by cases hq)⟩
-- func(api.Config, [][]api.Op) *pantryref22.Machine
def ty53 : TyRow := ⟨.func, 1, 8, [.nilF], false, false, [], false⟩
theorem ty53_met : ty53.met Tryz.prog 53 := ⟨⟨(funcOf Tryz.prog 53).1, (funcOf Tryz.prog 53).2.1, (funcOf Tryz.prog 53).2.2, by kernel_rfl⟩, ⟨(Tryz.prog.info? 53).getD default, .nilFunc, by kernel_rfl, by kernel_rfl, by kernel_rfl, by kernel_rfl, rfl, relL_cellAV _ [.nilFunc], relL_cellAV _ [.nilFunc]⟩, (fun h => by cases h), (fun q hq => by cases hq)⟩
-- func(int) bool
def ty54 : TyRow := ⟨.func, 1, 8, [.nilF], false, false, [], false⟩
theorem ty54_met : ty54.met Tryz.prog 54 := ⟨⟨(funcOf Tryz.prog 54).1, (funcOf Tryz.prog 54).2.1, (funcOf Tryz.prog 54).2.2, by kernel_rfl⟩, ⟨(Tryz.prog.info? 54).getD default, .nilFunc, by kernel_rfl, by kernel_rfl, by kernel_rfl, by kernel_rfl, rfl, relL_cellAV _ [.nilFunc], relL_cellAV _ [.nilFunc]⟩, (fun h => by cases h), (fun q hq => by cases hq)⟩
-- *conc.parts
def ty55 : TyRow := ⟨.ptr 69, 1, 8, [.nilP], false, false, [], false⟩
theorem ty55_met : ty55.met Tryz.prog 55 := ⟨(show Tryz.prog.underlying 55 = some (.pointer 69) by kernel_rfl), ⟨(Tryz.prog.info? 55).getD default, (.pointer none), by kernel_rfl, by kernel_rfl, by kernel_rfl, by kernel_rfl, rfl, relL_cellAV _ [(.pointer none)], relL_cellAV _ [(.pointer none)]⟩, (fun h => by cases h), (fun q hq => by cases hq)⟩
-- *shards.Map
def ty56 : TyRow := ⟨.ptr 106, 1, 8, [.nilP], false, false, [], false⟩
theorem ty56_met : ty56.met Tryz.prog 56 := ⟨(show Tryz.prog.underlying 56 = some (.pointer 106) by kernel_rfl), ⟨(Tryz.prog.info? 56).getD default, (.pointer none), by kernel_rfl, by kernel_rfl, by kernel_rfl, by kernel_rfl, rfl, relL_cellAV _ [(.pointer none)], relL_cellAV _ [(.pointer none)]⟩, (fun h => by cases h), (fun q hq => by cases hq)⟩
-- func(int, int) *shards.Map
def ty57 : TyRow := ⟨.func, 1, 8, [.nilF], false, false, [], false⟩
theorem ty57_met : ty57.met Tryz.prog 57 := ⟨⟨(funcOf Tryz.prog 57).1, (funcOf Tryz.prog 57).2.1, (funcOf Tryz.prog 57).2.2, by kernel_rfl⟩, ⟨(Tryz.prog.info? 57).getD default, .nilFunc, by kernel_rfl, by kernel_rfl, by kernel_rfl, by kernel_rfl, rfl, relL_cellAV _ [.nilFunc], relL_cellAV _ [.nilFunc]⟩, (fun h => by cases h), (fun q hq => by cases hq)⟩
-- *policy.Policy
def ty58 : TyRow := ⟨.ptr 121, 1, 8, [.nilP], false, false, [], false⟩
theorem ty58_met : ty58.met Tryz.prog 58 := ⟨(show Tryz.prog.underlying 58 = some (.pointer 121) by kernel_rfl), ⟨(Tryz.prog.info? 58).getD default, (.pointer none), by kernel_rfl, by kernel_rfl, by kernel_rfl, by kernel_rfl, rfl, relL_cellAV _ [(.pointer none)], relL_cellAV _ [(.pointer none)]⟩, (fun h => by cases h), (fun q hq => by cases hq)⟩
-- func(int, int) *policy.Policy
def ty59 : TyRow := ⟨.func, 1, 8, [.nilF], false, false, [], false⟩
theorem ty59_met : ty59.met Tryz.prog 59 := ⟨⟨(funcOf Tryz.prog 59).1, (funcOf Tryz.prog 59).2.1, (funcOf Tryz.prog 59).2.2, by kernel_rfl⟩, ⟨(Tryz.prog.info? 59).getD default, .nilFunc, by kernel_rfl, by kernel_rfl, by kernel_rfl, by kernel_rfl, rfl, relL_cellAV _ [.nilFunc], relL_cellAV _ [.nilFunc]⟩, (fun h => by cases h), (fun q hq => by cases hq)⟩
-- *stripes.Stripes
def ty60 : TyRow := ⟨.ptr 124, 1, 8, [.nilP], false, false, [], false⟩
theorem ty60_met : ty60.met Tryz.prog 60 := ⟨(show Tryz.prog.underlying 60 = some (.pointer 124) by kernel_rfl), ⟨(Tryz.prog.info? 60).getD default, (.pointer none), by kernel_rfl, by kernel_rfl, by kernel_rfl, by kernel_rfl, rfl, relL_cellAV _ [(.pointer none)], relL_cellAV _ [(.pointer none)]⟩, (fun h => by cases h), (fun q hq => by cases hq)⟩
-- func(int, int, int) *stripes.Stripes
def ty61 : TyRow := ⟨.func, 1, 8, [.nilF], false, false, [], false⟩
theorem ty61_met : ty61.met Tryz.prog 61 := ⟨⟨(funcOf Tryz.prog 61).1, (funcOf Tryz.prog 61).2.1, (funcOf Tryz.prog 61).2.2, by kernel_rfl⟩, ⟨(Tryz.prog.info? 61).getD default, .nilFunc, by kernel_rfl, by kernel_rfl, by kernel_rfl, by kernel_rfl, rfl, relL_cellAV _ [.nilFunc], relL_cellAV _ [.nilFunc]⟩, (fun h => by cases h), (fun q hq => by cases hq)⟩
-- *writes.Buffer
def ty62 : TyRow := ⟨.ptr 129, 1, 8, [.nilP], false, false, [], false⟩
theorem ty62_met : ty62.met Tryz.prog 62 := ⟨(show Tryz.prog.underlying 62 = some (.pointer 129) by kernel_rfl), ⟨(Tryz.prog.info? 62).getD default, (.pointer none), by kernel_rfl, by kernel_rfl, by kernel_rfl, by kernel_rfl, rfl, relL_cellAV _ [(.pointer none)], relL_cellAV _ [(.pointer none)]⟩, (fun h => by cases h), (fun q hq => by cases hq)⟩
-- func(int) *writes.Buffer
def ty63 : TyRow := ⟨.func, 1, 8, [.nilF], false, false, [], false⟩
theorem ty63_met : ty63.met Tryz.prog 63 := ⟨⟨(funcOf Tryz.prog 63).1, (funcOf Tryz.prog 63).2.1, (funcOf Tryz.prog 63).2.2, by kernel_rfl⟩, ⟨(Tryz.prog.info? 63).getD default, .nilFunc, by kernel_rfl, by kernel_rfl, by kernel_rfl, by kernel_rfl, rfl, relL_cellAV _ [.nilFunc], relL_cellAV _ [.nilFunc]⟩, (fun h => by cases h), (fun q hq => by cases hq)⟩
-- map[int]int
def ty64 : TyRow := ⟨.map 3 3, 1, 8, [.nilM], false, false, [], false⟩
theorem ty64_met : ty64.met Tryz.prog 64 := ⟨(show Tryz.prog.underlying 64 = some (.map 3 3) by kernel_rfl), ⟨(Tryz.prog.info? 64).getD default, (.map none), by kernel_rfl, by kernel_rfl, by kernel_rfl, by kernel_rfl, rfl, relL_cellAV _ [(.map none)], relL_cellAV _ [(.map none)]⟩, (fun h => by cases h), (fun q hq => by cases hq)⟩
-- *cells.Cells
def ty65 : TyRow := ⟨.ptr 134, 1, 8, [.nilP], false, false, [], false⟩
theorem ty65_met : ty65.met Tryz.prog 65 := ⟨(show Tryz.prog.underlying 65 = some (.pointer 134) by kernel_rfl), ⟨(Tryz.prog.info? 65).getD default, (.pointer none), by kernel_rfl, by kernel_rfl, by kernel_rfl, by kernel_rfl, rfl, relL_cellAV _ [(.pointer none)], relL_cellAV _ [(.pointer none)]⟩, (fun h => by cases h), (fun q hq => by cases hq)⟩
-- []api.Record
def ty66 : TyRow := ⟨.slice 230, 1, 24, [.nilS], false, false, [], false⟩
theorem ty66_met : ty66.met Tryz.prog 66 := ⟨(show Tryz.prog.underlying 66 = some (.slice 230) by kernel_rfl), ⟨(Tryz.prog.info? 66).getD default, (.slice none 0 0), by kernel_rfl, by kernel_rfl, by kernel_rfl, by kernel_rfl, rfl, relL_cellAV _ [(.slice none 0 0)], relL_cellAV _ [(.slice none 0 0)]⟩, (fun h => by cases h), (fun q hq => by cases hq)⟩
-- []api.Event
def ty67 : TyRow := ⟨.slice 224, 1, 24, [.nilS], false, false, [], false⟩
theorem ty67_met : ty67.met Tryz.prog 67 := ⟨(show Tryz.prog.underlying 67 = some (.slice 224) by kernel_rfl), ⟨(Tryz.prog.info? 67).getD default, (.slice none 0 0), by kernel_rfl, by kernel_rfl, by kernel_rfl, by kernel_rfl, rfl, relL_cellAV _ [(.slice none 0 0)], relL_cellAV _ [(.slice none 0 0)]⟩, (fun h => by cases h), (fun q hq => by cases hq)⟩
-- struct { capacity int; entries *shards.Map; policy *policy.Policy; reads *stripes.Stripes; writes *w
def ty68 : TyRow := ⟨.struct [(0, 3), (1, 56), (2, 58), (3, 60), (4, 62), (5, 65), (6, 64), (7, 66), (8, 67)], 9, 104, [.lit .i64 0, .nilP, .nilP, .nilP, .nilP, .nilP, .nilM, .nilS, .nilS], false, false, [], false⟩
theorem ty68_met : ty68.met Tryz.prog 68 := ⟨⟨Tryz.prog.fieldsOf 68, by kernel_rfl, by kernel_rfl⟩, ⟨(Tryz.prog.info? 68).getD default, (.agg #[(.int .i64 0), (.pointer none), (.pointer none), (.pointer none), (.pointer none), (.pointer none), (.map none), (.slice none 0 0), (.slice none 0 0)]), by kernel_rfl, by kernel_rfl, by kernel_rfl, by kernel_rfl, rfl, ⟨[(.int .i64 0), (.pointer none), (.pointer none), (.pointer none), (.pointer none), (.pointer none), (.map none), (.slice none 0 0), (.slice none 0 0)], relL_cellAV _ [(.int .i64 0), (.pointer none), (.pointer none), (.pointer none), (.pointer none), (.pointer none), (.map none), (.slice none 0 0), (.slice none 0 0)], rfl⟩, relL_cellAV _ [(.int .i64 0), (.pointer none), (.pointer none), (.pointer none), (.pointer none), (.pointer none), (.map none), (.slice none 0 0), (.slice none 0 0)]⟩, (fun h => by cases h), (fun q hq => by cases hq)⟩
-- conc.parts
def ty69 : TyRow := ⟨.struct [(0, 3), (1, 56), (2, 58), (3, 60), (4, 62), (5, 65), (6, 64), (7, 66), (8, 67)], 9, 104, [.lit .i64 0, .nilP, .nilP, .nilP, .nilP, .nilP, .nilM, .nilS, .nilS], false, false, [], false⟩
theorem ty69_met : ty69.met Tryz.prog 69 := ⟨⟨Tryz.prog.fieldsOf 69, by kernel_rfl, by kernel_rfl⟩, ⟨(Tryz.prog.info? 69).getD default, (.agg #[(.int .i64 0), (.pointer none), (.pointer none), (.pointer none), (.pointer none), (.pointer none), (.map none), (.slice none 0 0), (.slice none 0 0)]), by kernel_rfl, by kernel_rfl, by kernel_rfl, by kernel_rfl, rfl, ⟨[(.int .i64 0), (.pointer none), (.pointer none), (.pointer none), (.pointer none), (.pointer none), (.map none), (.slice none 0 0), (.slice none 0 0)], relL_cellAV _ [(.int .i64 0), (.pointer none), (.pointer none), (.pointer none), (.pointer none), (.pointer none), (.map none), (.slice none 0 0), (.slice none 0 0)], rfl⟩, relL_cellAV _ [(.int .i64 0), (.pointer none), (.pointer none), (.pointer none), (.pointer none), (.pointer none), (.map none), (.slice none 0 0), (.slice none 0 0)]⟩, (fun h => by cases h), (fun q hq => by cases hq)⟩
-- func(int, int) *cells.Cells
def ty70 : TyRow := ⟨.func, 1, 8, [.nilF], false, false, [], false⟩
theorem ty70_met : ty70.met Tryz.prog 70 := ⟨⟨(funcOf Tryz.prog 70).1, (funcOf Tryz.prog 70).2.1, (funcOf Tryz.prog 70).2.2, by kernel_rfl⟩, ⟨(Tryz.prog.info? 70).getD default, .nilFunc, by kernel_rfl, by kernel_rfl, by kernel_rfl, by kernel_rfl, rfl, relL_cellAV _ [.nilFunc], relL_cellAV _ [.nilFunc]⟩, (fun h => by cases h), (fun q hq => by cases hq)⟩
-- func() int
def ty71 : TyRow := ⟨.func, 1, 8, [.nilF], false, false, [], false⟩
theorem ty71_met : ty71.met Tryz.prog 71 := ⟨⟨(funcOf Tryz.prog 71).1, (funcOf Tryz.prog 71).2.1, (funcOf Tryz.prog 71).2.2, by kernel_rfl⟩, ⟨(Tryz.prog.info? 71).getD default, .nilFunc, by kernel_rfl, by kernel_rfl, by kernel_rfl, by kernel_rfl, rfl, relL_cellAV _ [.nilFunc], relL_cellAV _ [.nilFunc]⟩, (fun h => by cases h), (fun q hq => by cases hq)⟩
-- []*conc.thread
def ty72 : TyRow := ⟨.slice 76, 1, 24, [.nilS], false, false, [], false⟩
theorem ty72_met : ty72.met Tryz.prog 72 := ⟨(show Tryz.prog.underlying 72 = some (.slice 76) by kernel_rfl), ⟨(Tryz.prog.info? 72).getD default, (.slice none 0 0), by kernel_rfl, by kernel_rfl, by kernel_rfl, by kernel_rfl, rfl, relL_cellAV _ [(.slice none 0 0)], relL_cellAV _ [(.slice none 0 0)]⟩, (fun h => by cases h), (fun q hq => by cases hq)⟩
-- struct { *conc.parts; threads []*conc.thread }
def ty73 : TyRow := ⟨.struct [(0, 55), (1, 72)], 2, 32, [.nilP, .nilS], false, false, [], false⟩
theorem ty73_met : ty73.met Tryz.prog 73 := ⟨⟨Tryz.prog.fieldsOf 73, by kernel_rfl, by kernel_rfl⟩, ⟨(Tryz.prog.info? 73).getD default, (.agg #[(.pointer none), (.slice none 0 0)]), by kernel_rfl, by kernel_rfl, by kernel_rfl, by kernel_rfl, rfl, ⟨[(.pointer none), (.slice none 0 0)], relL_cellAV _ [(.pointer none), (.slice none 0 0)], rfl⟩, relL_cellAV _ [(.pointer none), (.slice none 0 0)]⟩, (fun h => by cases h), (fun q hq => by cases hq)⟩
-- conc.Machine
def ty74 : TyRow := ⟨.struct [(0, 55), (1, 72)], 2, 32, [.nilP, .nilS], false, false, [], false⟩
theorem ty74_met : ty74.met Tryz.prog 74 := ⟨⟨Tryz.prog.fieldsOf 74, by kernel_rfl, by kernel_rfl⟩, ⟨(Tryz.prog.info? 74).getD default, (.agg #[(.pointer none), (.slice none 0 0)]), by kernel_rfl, by kernel_rfl, by kernel_rfl, by kernel_rfl, rfl, ⟨[(.pointer none), (.slice none 0 0)], relL_cellAV _ [(.pointer none), (.slice none 0 0)], rfl⟩, relL_cellAV _ [(.pointer none), (.slice none 0 0)]⟩, (fun h => by cases h), (fun q hq => by cases hq)⟩
-- func([]api.Op) []api.Op
def ty75 : TyRow := ⟨.func, 1, 8, [.nilF], false, false, [], false⟩
theorem ty75_met : ty75.met Tryz.prog 75 := ⟨⟨(funcOf Tryz.prog 75).1, (funcOf Tryz.prog 75).2.1, (funcOf Tryz.prog 75).2.2, by kernel_rfl⟩, ⟨(Tryz.prog.info? 75).getD default, .nilFunc, by kernel_rfl, by kernel_rfl, by kernel_rfl, by kernel_rfl, rfl, relL_cellAV _ [.nilFunc], relL_cellAV _ [.nilFunc]⟩, (fun h => by cases h), (fun q hq => by cases hq)⟩
-- *conc.thread
def ty76 : TyRow := ⟨.ptr 81, 1, 8, [.nilP], false, false, [], false⟩
theorem ty76_met : ty76.met Tryz.prog 76 := ⟨(show Tryz.prog.underlying 76 = some (.pointer 81) by kernel_rfl), ⟨(Tryz.prog.info? 76).getD default, (.pointer none), by kernel_rfl, by kernel_rfl, by kernel_rfl, by kernel_rfl, rfl, relL_cellAV _ [(.pointer none)], relL_cellAV _ [(.pointer none)]⟩, (fun h => by cases h), (fun q hq => by cases hq)⟩
-- struct { Do int; Key int; Value int; Hit bool }
def ty77 : TyRow := ⟨.struct [(0, 3), (1, 3), (2, 3), (3, 4)], 4, 32, [.lit .i64 0, .lit .i64 0, .lit .i64 0, .ff], true, false, [], false⟩
theorem ty77_met : ty77.met Tryz.prog 77 := ⟨⟨Tryz.prog.fieldsOf 77, by kernel_rfl, by kernel_rfl⟩, ⟨(Tryz.prog.info? 77).getD default, (.agg #[(.int .i64 0), (.int .i64 0), (.int .i64 0), (.bool false)]), by kernel_rfl, by kernel_rfl, by kernel_rfl, by kernel_rfl, rfl, ⟨[(.int .i64 0), (.int .i64 0), (.int .i64 0), (.bool false)], relL_cellAV _ [(.int .i64 0), (.int .i64 0), (.int .i64 0), (.bool false)], rfl⟩, relL_cellAV _ [(.int .i64 0), (.int .i64 0), (.int .i64 0), (.bool false)]⟩, fun _ => ⟨by kernel_rfl, by kernel_rfl, names_ok (by kernel_rfl) (by kernel_rfl)⟩, (fun q hq => by cases hq)⟩
-- api.Commit
def ty78 : TyRow := ⟨.struct [(0, 3), (1, 3), (2, 3), (3, 4)], 4, 32, [.lit .i64 0, .lit .i64 0, .lit .i64 0, .ff], true, false, [], false⟩
theorem ty78_met : ty78.met Tryz.prog 78 := ⟨⟨Tryz.prog.fieldsOf 78, by kernel_rfl, by kernel_rfl⟩, ⟨(Tryz.prog.info? 78).getD default, (.agg #[(.int .i64 0), (.int .i64 0), (.int .i64 0), (.bool false)]), by kernel_rfl, by kernel_rfl, by kernel_rfl, by kernel_rfl, rfl, ⟨[(.int .i64 0), (.int .i64 0), (.int .i64 0), (.bool false)], relL_cellAV _ [(.int .i64 0), (.int .i64 0), (.int .i64 0), (.bool false)], rfl⟩, relL_cellAV _ [(.int .i64 0), (.int .i64 0), (.int .i64 0), (.bool false)]⟩, fun _ => ⟨by kernel_rfl, by kernel_rfl, names_ok (by kernel_rfl) (by kernel_rfl)⟩, (fun q hq => by cases hq)⟩
-- api.Errno
def ty79 : TyRow := ⟨.int .i64, 1, 8, [.lit .i64 0], false, false, [], false⟩
theorem ty79_met : ty79.met Tryz.prog 79 := ⟨(show Tryz.prog.underlying 79 = some (.int .i64) by kernel_rfl), ⟨(Tryz.prog.info? 79).getD default, (.int .i64 0), by kernel_rfl, by kernel_rfl, by kernel_rfl, by kernel_rfl, rfl, relL_cellAV _ [(.int .i64 0)], relL_cellAV _ [(.int .i64 0)]⟩, (fun h => by cases h), (fun q hq => by cases hq)⟩
-- struct { *conc.parts; number int; program []api.Op; op int; phase int; commit api.Commit; err api.Er
def ty80 : TyRow := ⟨.struct [(0, 55), (1, 3), (2, 37), (3, 3), (4, 3), (5, 78), (9, 79), (10, 3), (11, 3), (12, 22)], 13, 136, [.nilP, .lit .i64 0, .nilS, .lit .i64 0, .lit .i64 0, .lit .i64 0, .lit .i64 0, .lit .i64 0, .ff, .lit .i64 0, .lit .i64 0, .lit .i64 0, .nilS], false, false, [], false⟩
theorem ty80_met : ty80.met Tryz.prog 80 := ⟨⟨Tryz.prog.fieldsOf 80, by kernel_rfl, by kernel_rfl⟩, ⟨(Tryz.prog.info? 80).getD default, (.agg #[(.pointer none), (.int .i64 0), (.slice none 0 0), (.int .i64 0), (.int .i64 0), (.int .i64 0), (.int .i64 0), (.int .i64 0), (.bool false), (.int .i64 0), (.int .i64 0), (.int .i64 0), (.slice none 0 0)]), by kernel_rfl, by kernel_rfl, by kernel_rfl, by kernel_rfl, rfl, ⟨[(.pointer none), (.int .i64 0), (.slice none 0 0), (.int .i64 0), (.int .i64 0), (.int .i64 0), (.int .i64 0), (.int .i64 0), (.bool false), (.int .i64 0), (.int .i64 0), (.int .i64 0), (.slice none 0 0)], relL_cellAV _ [(.pointer none), (.int .i64 0), (.slice none 0 0), (.int .i64 0), (.int .i64 0), (.int .i64 0), (.int .i64 0), (.int .i64 0), (.bool false), (.int .i64 0), (.int .i64 0), (.int .i64 0), (.slice none 0 0)], rfl⟩, relL_cellAV _ [(.pointer none), (.int .i64 0), (.slice none 0 0), (.int .i64 0), (.int .i64 0), (.int .i64 0), (.int .i64 0), (.int .i64 0), (.bool false), (.int .i64 0), (.int .i64 0), (.int .i64 0), (.slice none 0 0)]⟩, (fun h => by cases h), (fun q hq => by cases hq)⟩
-- conc.thread
def ty81 : TyRow := ⟨.struct [(0, 55), (1, 3), (2, 37), (3, 3), (4, 3), (5, 78), (9, 79), (10, 3), (11, 3), (12, 22)], 13, 136, [.nilP, .lit .i64 0, .nilS, .lit .i64 0, .lit .i64 0, .lit .i64 0, .lit .i64 0, .lit .i64 0, .ff, .lit .i64 0, .lit .i64 0, .lit .i64 0, .nilS], false, false, [], false⟩
theorem ty81_met : ty81.met Tryz.prog 81 := ⟨⟨Tryz.prog.fieldsOf 81, by kernel_rfl, by kernel_rfl⟩, ⟨(Tryz.prog.info? 81).getD default, (.agg #[(.pointer none), (.int .i64 0), (.slice none 0 0), (.int .i64 0), (.int .i64 0), (.int .i64 0), (.int .i64 0), (.int .i64 0), (.bool false), (.int .i64 0), (.int .i64 0), (.int .i64 0), (.slice none 0 0)]), by kernel_rfl, by kernel_rfl, by kernel_rfl, by kernel_rfl, rfl, ⟨[(.pointer none), (.int .i64 0), (.slice none 0 0), (.int .i64 0), (.int .i64 0), (.int .i64 0), (.int .i64 0), (.int .i64 0), (.bool false), (.int .i64 0), (.int .i64 0), (.int .i64 0), (.slice none 0 0)], relL_cellAV _ [(.pointer none), (.int .i64 0), (.slice none 0 0), (.int .i64 0), (.int .i64 0), (.int .i64 0), (.int .i64 0), (.int .i64 0), (.bool false), (.int .i64 0), (.int .i64 0), (.int .i64 0), (.slice none 0 0)], rfl⟩, relL_cellAV _ [(.pointer none), (.int .i64 0), (.slice none 0 0), (.int .i64 0), (.int .i64 0), (.int .i64 0), (.int .i64 0), (.int .i64 0), (.bool false), (.int .i64 0), (.int .i64 0), (.int .i64 0), (.slice none 0 0)]⟩, (fun h => by cases h), (fun q hq => by cases hq)⟩
-- func(int, []bool) int
def ty82 : TyRow := ⟨.func, 1, 8, [.nilF], false, false, [], false⟩
theorem ty82_met : ty82.met Tryz.prog 82 := ⟨⟨(funcOf Tryz.prog 82).1, (funcOf Tryz.prog 82).2.1, (funcOf Tryz.prog 82).2.2, by kernel_rfl⟩, ⟨(Tryz.prog.info? 82).getD default, .nilFunc, by kernel_rfl, by kernel_rfl, by kernel_rfl, by kernel_rfl, rfl, relL_cellAV _ [.nilFunc], relL_cellAV _ [.nilFunc]⟩, (fun h => by cases h), (fun q hq => by cases hq)⟩
-- func([]bool, bool) int
def ty83 : TyRow := ⟨.func, 1, 8, [.nilF], false, false, [], false⟩
theorem ty83_met : ty83.met Tryz.prog 83 := ⟨⟨(funcOf Tryz.prog 83).1, (funcOf Tryz.prog 83).2.1, (funcOf Tryz.prog 83).2.2, by kernel_rfl⟩, ⟨(Tryz.prog.info? 83).getD default, .nilFunc, by kernel_rfl, by kernel_rfl, by kernel_rfl, by kernel_rfl, rfl, relL_cellAV _ [.nilFunc], relL_cellAV _ [.nilFunc]⟩, (fun h => by cases h), (fun q hq => by cases hq)⟩
-- *pantryref16.Map
def ty84 : TyRow := ⟨.ptr 100, 1, 8, [.nilP], false, false, [], false⟩
theorem ty84_met : ty84.met Tryz.prog 84 := ⟨(show Tryz.prog.underlying 84 = some (.pointer 100) by kernel_rfl), ⟨(Tryz.prog.info? 84).getD default, (.pointer none), by kernel_rfl, by kernel_rfl, by kernel_rfl, by kernel_rfl, rfl, relL_cellAV _ [(.pointer none)], relL_cellAV _ [(.pointer none)]⟩, (fun h => by cases h), (fun q hq => by cases hq)⟩
-- func(int, int) *pantryref16.Map
def ty85 : TyRow := ⟨.func, 1, 8, [.nilF], false, false, [], false⟩
theorem ty85_met : ty85.met Tryz.prog 85 := ⟨⟨(funcOf Tryz.prog 85).1, (funcOf Tryz.prog 85).2.1, (funcOf Tryz.prog 85).2.2, by kernel_rfl⟩, ⟨(Tryz.prog.info? 85).getD default, .nilFunc, by kernel_rfl, by kernel_rfl, by kernel_rfl, by kernel_rfl, rfl, relL_cellAV _ [.nilFunc], relL_cellAV _ [.nilFunc]⟩, (fun h => by cases h), (fun q hq => by cases hq)⟩
-- *pantryref11.Policy
def ty86 : TyRow := ⟨.ptr 140, 1, 8, [.nilP], false, false, [], false⟩
theorem ty86_met : ty86.met Tryz.prog 86 := ⟨(show Tryz.prog.underlying 86 = some (.pointer 140) by kernel_rfl), ⟨(Tryz.prog.info? 86).getD default, (.pointer none), by kernel_rfl, by kernel_rfl, by kernel_rfl, by kernel_rfl, rfl, relL_cellAV _ [(.pointer none)], relL_cellAV _ [(.pointer none)]⟩, (fun h => by cases h), (fun q hq => by cases hq)⟩
-- func(int, int) *pantryref11.Policy
def ty87 : TyRow := ⟨.func, 1, 8, [.nilF], false, false, [], false⟩
theorem ty87_met : ty87.met Tryz.prog 87 := ⟨⟨(funcOf Tryz.prog 87).1, (funcOf Tryz.prog 87).2.1, (funcOf Tryz.prog 87).2.2, by kernel_rfl⟩, ⟨(Tryz.prog.info? 87).getD default, .nilFunc, by kernel_rfl, by kernel_rfl, by kernel_rfl, by kernel_rfl, rfl, relL_cellAV _ [.nilFunc], relL_cellAV _ [.nilFunc]⟩, (fun h => by cases h), (fun q hq => by cases hq)⟩
-- *pantryref13.Stripes
def ty88 : TyRow := ⟨.ptr 143, 1, 8, [.nilP], false, false, [], false⟩
theorem ty88_met : ty88.met Tryz.prog 88 := ⟨(show Tryz.prog.underlying 88 = some (.pointer 143) by kernel_rfl), ⟨(Tryz.prog.info? 88).getD default, (.pointer none), by kernel_rfl, by kernel_rfl, by kernel_rfl, by kernel_rfl, rfl, relL_cellAV _ [(.pointer none)], relL_cellAV _ [(.pointer none)]⟩, (fun h => by cases h), (fun q hq => by cases hq)⟩
-- func(int, int, int) *pantryref13.Stripes
def ty89 : TyRow := ⟨.func, 1, 8, [.nilF], false, false, [], false⟩
theorem ty89_met : ty89.met Tryz.prog 89 := ⟨⟨(funcOf Tryz.prog 89).1, (funcOf Tryz.prog 89).2.1, (funcOf Tryz.prog 89).2.2, by kernel_rfl⟩, ⟨(Tryz.prog.info? 89).getD default, .nilFunc, by kernel_rfl, by kernel_rfl, by kernel_rfl, by kernel_rfl, rfl, relL_cellAV _ [.nilFunc], relL_cellAV _ [.nilFunc]⟩, (fun h => by cases h), (fun q hq => by cases hq)⟩
-- *pantryref14.Buffer
def ty90 : TyRow := ⟨.ptr 147, 1, 8, [.nilP], false, false, [], false⟩
theorem ty90_met : ty90.met Tryz.prog 90 := ⟨(show Tryz.prog.underlying 90 = some (.pointer 147) by kernel_rfl), ⟨(Tryz.prog.info? 90).getD default, (.pointer none), by kernel_rfl, by kernel_rfl, by kernel_rfl, by kernel_rfl, rfl, relL_cellAV _ [(.pointer none)], relL_cellAV _ [(.pointer none)]⟩, (fun h => by cases h), (fun q hq => by cases hq)⟩
-- func(int) *pantryref14.Buffer
def ty91 : TyRow := ⟨.func, 1, 8, [.nilF], false, false, [], false⟩
theorem ty91_met : ty91.met Tryz.prog 91 := ⟨⟨(funcOf Tryz.prog 91).1, (funcOf Tryz.prog 91).2.1, (funcOf Tryz.prog 91).2.2, by kernel_rfl⟩, ⟨(Tryz.prog.info? 91).getD default, .nilFunc, by kernel_rfl, by kernel_rfl, by kernel_rfl, by kernel_rfl, rfl, relL_cellAV _ [.nilFunc], relL_cellAV _ [.nilFunc]⟩, (fun h => by cases h), (fun q hq => by cases hq)⟩
-- *pantryref19.Cells
def ty92 : TyRow := ⟨.ptr 149, 1, 8, [.nilP], false, false, [], false⟩
theorem ty92_met : ty92.met Tryz.prog 92 := ⟨(show Tryz.prog.underlying 92 = some (.pointer 149) by kernel_rfl), ⟨(Tryz.prog.info? 92).getD default, (.pointer none), by kernel_rfl, by kernel_rfl, by kernel_rfl, by kernel_rfl, rfl, relL_cellAV _ [(.pointer none)], relL_cellAV _ [(.pointer none)]⟩, (fun h => by cases h), (fun q hq => by cases hq)⟩
-- []pantryref22.thread
def ty93 : TyRow := ⟨.slice 102, 1, 24, [.nilS], false, false, [], false⟩
theorem ty93_met : ty93.met Tryz.prog 93 := ⟨(show Tryz.prog.underlying 93 = some (.slice 102) by kernel_rfl), ⟨(Tryz.prog.info? 93).getD default, (.slice none 0 0), by kernel_rfl, by kernel_rfl, by kernel_rfl, by kernel_rfl, rfl, relL_cellAV _ [(.slice none 0 0)], relL_cellAV _ [(.slice none 0 0)]⟩, (fun h => by cases h), (fun q hq => by cases hq)⟩
-- [][2]int
def ty94 : TyRow := ⟨.slice 221, 1, 24, [.nilS], false, false, [], false⟩
theorem ty94_met : ty94.met Tryz.prog 94 := ⟨(show Tryz.prog.underlying 94 = some (.slice 221) by kernel_rfl), ⟨(Tryz.prog.info? 94).getD default, (.slice none 0 0), by kernel_rfl, by kernel_rfl, by kernel_rfl, by kernel_rfl, rfl, relL_cellAV _ [(.slice none 0 0)], relL_cellAV _ [(.slice none 0 0)]⟩, (fun h => by cases h), (fun q hq => by cases hq)⟩
-- struct { C int; M *pantryref16.Map; P *pantryref11.Policy; S *pantryref13.Stripes; W *pantryref14.Bu
def ty95 : TyRow := ⟨.struct [(0, 3), (1, 84), (2, 86), (3, 88), (4, 90), (5, 92), (6, 93), (7, 66), (8, 67), (9, 94)], 10, 144, [.lit .i64 0, .nilP, .nilP, .nilP, .nilP, .nilP, .nilS, .nilS, .nilS, .nilS], false, false, [], false⟩
theorem ty95_met : ty95.met Tryz.prog 95 := ⟨⟨Tryz.prog.fieldsOf 95, by kernel_rfl, by kernel_rfl⟩, ⟨(Tryz.prog.info? 95).getD default, (.agg #[(.int .i64 0), (.pointer none), (.pointer none), (.pointer none), (.pointer none), (.pointer none), (.slice none 0 0), (.slice none 0 0), (.slice none 0 0), (.slice none 0 0)]), by kernel_rfl, by kernel_rfl, by kernel_rfl, by kernel_rfl, rfl, ⟨[(.int .i64 0), (.pointer none), (.pointer none), (.pointer none), (.pointer none), (.pointer none), (.slice none 0 0), (.slice none 0 0), (.slice none 0 0), (.slice none 0 0)], relL_cellAV _ [(.int .i64 0), (.pointer none), (.pointer none), (.pointer none), (.pointer none), (.pointer none), (.slice none 0 0), (.slice none 0 0), (.slice none 0 0), (.slice none 0 0)], rfl⟩, relL_cellAV _ [(.int .i64 0), (.pointer none), (.pointer none), (.pointer none), (.pointer none), (.pointer none), (.slice none 0 0), (.slice none 0 0), (.slice none 0 0), (.slice none 0 0)]⟩, (fun h => by cases h), (fun q hq => by cases hq)⟩
-- pantryref22.Machine
def ty96 : TyRow := ⟨.struct [(0, 3), (1, 84), (2, 86), (3, 88), (4, 90), (5, 92), (6, 93), (7, 66), (8, 67), (9, 94)], 10, 144, [.lit .i64 0, .nilP, .nilP, .nilP, .nilP, .nilP, .nilS, .nilS, .nilS, .nilS], false, false, [], false⟩
theorem ty96_met : ty96.met Tryz.prog 96 := ⟨⟨Tryz.prog.fieldsOf 96, by kernel_rfl, by kernel_rfl⟩, ⟨(Tryz.prog.info? 96).getD default, (.agg #[(.int .i64 0), (.pointer none), (.pointer none), (.pointer none), (.pointer none), (.pointer none), (.slice none 0 0), (.slice none 0 0), (.slice none 0 0), (.slice none 0 0)]), by kernel_rfl, by kernel_rfl, by kernel_rfl, by kernel_rfl, rfl, ⟨[(.int .i64 0), (.pointer none), (.pointer none), (.pointer none), (.pointer none), (.pointer none), (.slice none 0 0), (.slice none 0 0), (.slice none 0 0), (.slice none 0 0)], relL_cellAV _ [(.int .i64 0), (.pointer none), (.pointer none), (.pointer none), (.pointer none), (.pointer none), (.slice none 0 0), (.slice none 0 0), (.slice none 0 0), (.slice none 0 0)], rfl⟩, relL_cellAV _ [(.int .i64 0), (.pointer none), (.pointer none), (.pointer none), (.pointer none), (.pointer none), (.slice none 0 0), (.slice none 0 0), (.slice none 0 0), (.slice none 0 0)]⟩, (fun h => by cases h), (fun q hq => by cases hq)⟩
-- func(int, int) *pantryref19.Cells
def ty97 : TyRow := ⟨.func, 1, 8, [.nilF], false, false, [], false⟩
theorem ty97_met : ty97.met Tryz.prog 97 := ⟨⟨(funcOf Tryz.prog 97).1, (funcOf Tryz.prog 97).2.1, (funcOf Tryz.prog 97).2.2, by kernel_rfl⟩, ⟨(Tryz.prog.info? 97).getD default, .nilFunc, by kernel_rfl, by kernel_rfl, by kernel_rfl, by kernel_rfl, rfl, relL_cellAV _ [.nilFunc], relL_cellAV _ [.nilFunc]⟩, (fun h => by cases h), (fun q hq => by cases hq)⟩
-- []api.Entry
def ty98 : TyRow := ⟨.slice 217, 1, 24, [.nilS], false, false, [], false⟩
theorem ty98_met : ty98.met Tryz.prog 98 := ⟨(show Tryz.prog.underlying 98 = some (.slice 217) by kernel_rfl), ⟨(Tryz.prog.info? 98).getD default, (.slice none 0 0), by kernel_rfl, by kernel_rfl, by kernel_rfl, by kernel_rfl, rfl, relL_cellAV _ [(.slice none 0 0)], relL_cellAV _ [(.slice none 0 0)]⟩, (fun h => by cases h), (fun q hq => by cases hq)⟩
-- struct { N int; Seed int; L []api.Entry; States []int }
def ty99 : TyRow := ⟨.struct [(0, 3), (1, 3), (2, 98), (3, 22)], 4, 64, [.lit .i64 0, .lit .i64 0, .nilS, .nilS], false, false, [], false⟩
theorem ty99_met : ty99.met Tryz.prog 99 := ⟨⟨Tryz.prog.fieldsOf 99, by kernel_rfl, by kernel_rfl⟩, ⟨(Tryz.prog.info? 99).getD default, (.agg #[(.int .i64 0), (.int .i64 0), (.slice none 0 0), (.slice none 0 0)]), by kernel_rfl, by kernel_rfl, by kernel_rfl, by kernel_rfl, rfl, ⟨[(.int .i64 0), (.int .i64 0), (.slice none 0 0), (.slice none 0 0)], relL_cellAV _ [(.int .i64 0), (.int .i64 0), (.slice none 0 0), (.slice none 0 0)], rfl⟩, relL_cellAV _ [(.int .i64 0), (.int .i64 0), (.slice none 0 0), (.slice none 0 0)]⟩, (fun h => by cases h), (fun q hq => by cases hq)⟩
-- pantryref16.Map
def ty100 : TyRow := ⟨.struct [(0, 3), (1, 3), (2, 98), (3, 22)], 4, 64, [.lit .i64 0, .lit .i64 0, .nilS, .nilS], false, false, [], false⟩
theorem ty100_met : ty100.met Tryz.prog 100 := ⟨⟨Tryz.prog.fieldsOf 100, by kernel_rfl, by kernel_rfl⟩, ⟨(Tryz.prog.info? 100).getD default, (.agg #[(.int .i64 0), (.int .i64 0), (.slice none 0 0), (.slice none 0 0)]), by kernel_rfl, by kernel_rfl, by kernel_rfl, by kernel_rfl, rfl, ⟨[(.int .i64 0), (.int .i64 0), (.slice none 0 0), (.slice none 0 0)], relL_cellAV _ [(.int .i64 0), (.int .i64 0), (.slice none 0 0), (.slice none 0 0)], rfl⟩, relL_cellAV _ [(.int .i64 0), (.int .i64 0), (.slice none 0 0), (.slice none 0 0)]⟩, (fun h => by cases h), (fun q hq => by cases hq)⟩
-- struct { prog []api.Op; at int; phase int; c api.Commit; err api.Errno; node int; back int; gone []i
def ty101 : TyRow := ⟨.struct [(0, 37), (1, 3), (2, 3), (3, 78), (7, 79), (8, 3), (9, 3), (10, 22)], 11, 120, [.nilS, .lit .i64 0, .lit .i64 0, .lit .i64 0, .lit .i64 0, .lit .i64 0, .ff, .lit .i64 0, .lit .i64 0, .lit .i64 0, .nilS], false, false, [], false⟩
theorem ty101_met : ty101.met Tryz.prog 101 := ⟨⟨Tryz.prog.fieldsOf 101, by kernel_rfl, by kernel_rfl⟩, ⟨(Tryz.prog.info? 101).getD default, (.agg #[(.slice none 0 0), (.int .i64 0), (.int .i64 0), (.int .i64 0), (.int .i64 0), (.int .i64 0), (.bool false), (.int .i64 0), (.int .i64 0), (.int .i64 0), (.slice none 0 0)]), by kernel_rfl, by kernel_rfl, by kernel_rfl, by kernel_rfl, rfl, ⟨[(.slice none 0 0), (.int .i64 0), (.int .i64 0), (.int .i64 0), (.int .i64 0), (.int .i64 0), (.bool false), (.int .i64 0), (.int .i64 0), (.int .i64 0), (.slice none 0 0)], relL_cellAV _ [(.slice none 0 0), (.int .i64 0), (.int .i64 0), (.int .i64 0), (.int .i64 0), (.int .i64 0), (.bool false), (.int .i64 0), (.int .i64 0), (.int .i64 0), (.slice none 0 0)], rfl⟩, relL_cellAV _ [(.slice none 0 0), (.int .i64 0), (.int .i64 0), (.int .i64 0), (.int .i64 0), (.int .i64 0), (.bool false), (.int .i64 0), (.int .i64 0), (.int .i64 0), (.slice none 0 0)]⟩, (fun h => by cases h), (fun q hq => by cases hq)⟩
-- pantryref22.thread
def ty102 : TyRow := ⟨.struct [(0, 37), (1, 3), (2, 3), (3, 78), (7, 79), (8, 3), (9, 3), (10, 22)], 11, 120, [.nilS, .lit .i64 0, .lit .i64 0, .lit .i64 0, .lit .i64 0, .lit .i64 0, .ff, .lit .i64 0, .lit .i64 0, .lit .i64 0, .nilS], false, false, [], false⟩
theorem ty102_met : ty102.met Tryz.prog 102 := ⟨⟨Tryz.prog.fieldsOf 102, by kernel_rfl, by kernel_rfl⟩, ⟨(Tryz.prog.info? 102).getD default, (.agg #[(.slice none 0 0), (.int .i64 0), (.int .i64 0), (.int .i64 0), (.int .i64 0), (.int .i64 0), (.bool false), (.int .i64 0), (.int .i64 0), (.int .i64 0), (.slice none 0 0)]), by kernel_rfl, by kernel_rfl, by kernel_rfl, by kernel_rfl, rfl, ⟨[(.slice none 0 0), (.int .i64 0), (.int .i64 0), (.int .i64 0), (.int .i64 0), (.int .i64 0), (.bool false), (.int .i64 0), (.int .i64 0), (.int .i64 0), (.slice none 0 0)], relL_cellAV _ [(.slice none 0 0), (.int .i64 0), (.int .i64 0), (.int .i64 0), (.int .i64 0), (.int .i64 0), (.bool false), (.int .i64 0), (.int .i64 0), (.int .i64 0), (.slice none 0 0)], rfl⟩, relL_cellAV _ [(.slice none 0 0), (.int .i64 0), (.int .i64 0), (.int .i64 0), (.int .i64 0), (.int .i64 0), (.bool false), (.int .i64 0), (.int .i64 0), (.int .i64 0), (.slice none 0 0)]⟩, (fun h => by cases h), (fun q hq => by cases hq)⟩
-- map[int]bool
def ty103 : TyRow := ⟨.map 3 4, 1, 8, [.nilM], false, false, [], false⟩
theorem ty103_met : ty103.met Tryz.prog 103 := ⟨(show Tryz.prog.underlying 103 = some (.map 3 4) by kernel_rfl), ⟨(Tryz.prog.info? 103).getD default, (.map none), by kernel_rfl, by kernel_rfl, by kernel_rfl, by kernel_rfl, rfl, relL_cellAV _ [(.map none)], relL_cellAV _ [(.map none)]⟩, (fun h => by cases h), (fun q hq => by cases hq)⟩
-- []*table.Table
def ty104 : TyRow := ⟨.slice 108, 1, 24, [.nilS], false, false, [], false⟩
theorem ty104_met : ty104.met Tryz.prog 104 := ⟨(show Tryz.prog.underlying 104 = some (.slice 108) by kernel_rfl), ⟨(Tryz.prog.info? 104).getD default, (.slice none 0 0), by kernel_rfl, by kernel_rfl, by kernel_rfl, by kernel_rfl, rfl, relL_cellAV _ [(.slice none 0 0)], relL_cellAV _ [(.slice none 0 0)]⟩, (fun h => by cases h), (fun q hq => by cases hq)⟩
-- struct { seed int; tables []*table.Table; given int; keys map[int]int; gone map[int]bool; weight int
def ty105 : TyRow := ⟨.struct [(0, 3), (1, 104), (2, 3), (3, 64), (4, 103), (5, 3)], 6, 64, [.lit .i64 0, .nilS, .lit .i64 0, .nilM, .nilM, .lit .i64 0], false, false, [], false⟩
theorem ty105_met : ty105.met Tryz.prog 105 := ⟨⟨Tryz.prog.fieldsOf 105, by kernel_rfl, by kernel_rfl⟩, ⟨(Tryz.prog.info? 105).getD default, (.agg #[(.int .i64 0), (.slice none 0 0), (.int .i64 0), (.map none), (.map none), (.int .i64 0)]), by kernel_rfl, by kernel_rfl, by kernel_rfl, by kernel_rfl, rfl, ⟨[(.int .i64 0), (.slice none 0 0), (.int .i64 0), (.map none), (.map none), (.int .i64 0)], relL_cellAV _ [(.int .i64 0), (.slice none 0 0), (.int .i64 0), (.map none), (.map none), (.int .i64 0)], rfl⟩, relL_cellAV _ [(.int .i64 0), (.slice none 0 0), (.int .i64 0), (.map none), (.map none), (.int .i64 0)]⟩, (fun h => by cases h), (fun q hq => by cases hq)⟩
-- shards.Map
def ty106 : TyRow := ⟨.struct [(0, 3), (1, 104), (2, 3), (3, 64), (4, 103), (5, 3)], 6, 64, [.lit .i64 0, .nilS, .lit .i64 0, .nilM, .nilM, .lit .i64 0], false, false, [], false⟩
theorem ty106_met : ty106.met Tryz.prog 106 := ⟨⟨Tryz.prog.fieldsOf 106, by kernel_rfl, by kernel_rfl⟩, ⟨(Tryz.prog.info? 106).getD default, (.agg #[(.int .i64 0), (.slice none 0 0), (.int .i64 0), (.map none), (.map none), (.int .i64 0)]), by kernel_rfl, by kernel_rfl, by kernel_rfl, by kernel_rfl, rfl, ⟨[(.int .i64 0), (.slice none 0 0), (.int .i64 0), (.map none), (.map none), (.int .i64 0)], relL_cellAV _ [(.int .i64 0), (.slice none 0 0), (.int .i64 0), (.map none), (.map none), (.int .i64 0)], rfl⟩, relL_cellAV _ [(.int .i64 0), (.slice none 0 0), (.int .i64 0), (.map none), (.map none), (.int .i64 0)]⟩, (fun h => by cases h), (fun q hq => by cases hq)⟩
-- func(int, int, int) int
def ty107 : TyRow := ⟨.func, 1, 8, [.nilF], false, false, [], false⟩
theorem ty107_met : ty107.met Tryz.prog 107 := ⟨⟨(funcOf Tryz.prog 107).1, (funcOf Tryz.prog 107).2.1, (funcOf Tryz.prog 107).2.2, by kernel_rfl⟩, ⟨(Tryz.prog.info? 107).getD default, .nilFunc, by kernel_rfl, by kernel_rfl, by kernel_rfl, by kernel_rfl, rfl, relL_cellAV _ [.nilFunc], relL_cellAV _ [.nilFunc]⟩, (fun h => by cases h), (fun q hq => by cases hq)⟩
-- *table.Table
def ty108 : TyRow := ⟨.ptr 165, 1, 8, [.nilP], false, false, [], false⟩
theorem ty108_met : ty108.met Tryz.prog 108 := ⟨(show Tryz.prog.underlying 108 = some (.pointer 165) by kernel_rfl), ⟨(Tryz.prog.info? 108).getD default, (.pointer none), by kernel_rfl, by kernel_rfl, by kernel_rfl, by kernel_rfl, rfl, relL_cellAV _ [(.pointer none)], relL_cellAV _ [(.pointer none)]⟩, (fun h => by cases h), (fun q hq => by cases hq)⟩
-- func(int) *table.Table
def ty109 : TyRow := ⟨.func, 1, 8, [.nilF], false, false, [], false⟩
theorem ty109_met : ty109.met Tryz.prog 109 := ⟨⟨(funcOf Tryz.prog 109).1, (funcOf Tryz.prog 109).2.1, (funcOf Tryz.prog 109).2.2, by kernel_rfl⟩, ⟨(Tryz.prog.info? 109).getD default, .nilFunc, by kernel_rfl, by kernel_rfl, by kernel_rfl, by kernel_rfl, rfl, relL_cellAV _ [.nilFunc], relL_cellAV _ [.nilFunc]⟩, (fun h => by cases h), (fun q hq => by cases hq)⟩
-- *filter.Filter
def ty110 : TyRow := ⟨.ptr 177, 1, 8, [.nilP], false, false, [], false⟩
theorem ty110_met : ty110.met Tryz.prog 110 := ⟨(show Tryz.prog.underlying 110 = some (.pointer 177) by kernel_rfl), ⟨(Tryz.prog.info? 110).getD default, (.pointer none), by kernel_rfl, by kernel_rfl, by kernel_rfl, by kernel_rfl, rfl, relL_cellAV _ [(.pointer none)], relL_cellAV _ [(.pointer none)]⟩, (fun h => by cases h), (fun q hq => by cases hq)⟩
-- func(int, int) *filter.Filter
def ty111 : TyRow := ⟨.func, 1, 8, [.nilF], false, false, [], false⟩
theorem ty111_met : ty111.met Tryz.prog 111 := ⟨⟨(funcOf Tryz.prog 111).1, (funcOf Tryz.prog 111).2.1, (funcOf Tryz.prog 111).2.2, by kernel_rfl⟩, ⟨(Tryz.prog.info? 111).getD default, .nilFunc, by kernel_rfl, by kernel_rfl, by kernel_rfl, by kernel_rfl, rfl, relL_cellAV _ [.nilFunc], relL_cellAV _ [.nilFunc]⟩, (fun h => by cases h), (fun q hq => by cases hq)⟩
-- *deque.Lists
def ty112 : TyRow := ⟨.ptr 181, 1, 8, [.nilP], false, false, [], false⟩
theorem ty112_met : ty112.met Tryz.prog 112 := ⟨(show Tryz.prog.underlying 112 = some (.pointer 181) by kernel_rfl), ⟨(Tryz.prog.info? 112).getD default, (.pointer none), by kernel_rfl, by kernel_rfl, by kernel_rfl, by kernel_rfl, rfl, relL_cellAV _ [(.pointer none)], relL_cellAV _ [(.pointer none)]⟩, (fun h => by cases h), (fun q hq => by cases hq)⟩
-- func(int) *deque.Lists
def ty113 : TyRow := ⟨.func, 1, 8, [.nilF], false, false, [], false⟩
theorem ty113_met : ty113.met Tryz.prog 113 := ⟨⟨(funcOf Tryz.prog 113).1, (funcOf Tryz.prog 113).2.1, (funcOf Tryz.prog 113).2.2, by kernel_rfl⟩, ⟨(Tryz.prog.info? 113).getD default, .nilFunc, by kernel_rfl, by kernel_rfl, by kernel_rfl, by kernel_rfl, rfl, relL_cellAV _ [.nilFunc], relL_cellAV _ [.nilFunc]⟩, (fun h => by cases h), (fun q hq => by cases hq)⟩
-- struct { Capacity int; Window int; Protected int }
def ty114 : TyRow := ⟨.struct [(0, 3), (1, 3), (2, 3)], 3, 24, [.lit .i64 0, .lit .i64 0, .lit .i64 0], true, false, [], false⟩
theorem ty114_met : ty114.met Tryz.prog 114 := ⟨⟨Tryz.prog.fieldsOf 114, by kernel_rfl, by kernel_rfl⟩, ⟨(Tryz.prog.info? 114).getD default, (.agg #[(.int .i64 0), (.int .i64 0), (.int .i64 0)]), by kernel_rfl, by kernel_rfl, by kernel_rfl, by kernel_rfl, rfl, ⟨[(.int .i64 0), (.int .i64 0), (.int .i64 0)], relL_cellAV _ [(.int .i64 0), (.int .i64 0), (.int .i64 0)], rfl⟩, relL_cellAV _ [(.int .i64 0), (.int .i64 0), (.int .i64 0)]⟩, fun _ => ⟨by kernel_rfl, by kernel_rfl, names_ok (by kernel_rfl) (by kernel_rfl)⟩, (fun q hq => by cases hq)⟩
-- api.Quota
def ty115 : TyRow := ⟨.struct [(0, 3), (1, 3), (2, 3)], 3, 24, [.lit .i64 0, .lit .i64 0, .lit .i64 0], true, false, [], false⟩
theorem ty115_met : ty115.met Tryz.prog 115 := ⟨⟨Tryz.prog.fieldsOf 115, by kernel_rfl, by kernel_rfl⟩, ⟨(Tryz.prog.info? 115).getD default, (.agg #[(.int .i64 0), (.int .i64 0), (.int .i64 0)]), by kernel_rfl, by kernel_rfl, by kernel_rfl, by kernel_rfl, rfl, ⟨[(.int .i64 0), (.int .i64 0), (.int .i64 0)], relL_cellAV _ [(.int .i64 0), (.int .i64 0), (.int .i64 0)], rfl⟩, relL_cellAV _ [(.int .i64 0), (.int .i64 0), (.int .i64 0)]⟩, fun _ => ⟨by kernel_rfl, by kernel_rfl, names_ok (by kernel_rfl) (by kernel_rfl)⟩, (fun q hq => by cases hq)⟩
-- func(int) api.Quota
def ty116 : TyRow := ⟨.func, 1, 8, [.nilF], false, false, [], false⟩
theorem ty116_met : ty116.met Tryz.prog 116 := ⟨⟨(funcOf Tryz.prog 116).1, (funcOf Tryz.prog 116).2.1, (funcOf Tryz.prog 116).2.2, by kernel_rfl⟩, ⟨(Tryz.prog.info? 116).getD default, .nilFunc, by kernel_rfl, by kernel_rfl, by kernel_rfl, by kernel_rfl, rfl, relL_cellAV _ [.nilFunc], relL_cellAV _ [.nilFunc]⟩, (fun h => by cases h), (fun q hq => by cases hq)⟩
-- struct { Hits int; Misses int; Last int; Step int }
def ty117 : TyRow := ⟨.struct [(0, 3), (1, 3), (2, 3), (3, 3)], 4, 32, [.lit .i64 0, .lit .i64 0, .lit .i64 0, .lit .i64 0], true, false, [], false⟩
theorem ty117_met : ty117.met Tryz.prog 117 := ⟨⟨Tryz.prog.fieldsOf 117, by kernel_rfl, by kernel_rfl⟩, ⟨(Tryz.prog.info? 117).getD default, (.agg #[(.int .i64 0), (.int .i64 0), (.int .i64 0), (.int .i64 0)]), by kernel_rfl, by kernel_rfl, by kernel_rfl, by kernel_rfl, rfl, ⟨[(.int .i64 0), (.int .i64 0), (.int .i64 0), (.int .i64 0)], relL_cellAV _ [(.int .i64 0), (.int .i64 0), (.int .i64 0), (.int .i64 0)], rfl⟩, relL_cellAV _ [(.int .i64 0), (.int .i64 0), (.int .i64 0), (.int .i64 0)]⟩, fun _ => ⟨by kernel_rfl, by kernel_rfl, names_ok (by kernel_rfl) (by kernel_rfl)⟩, (fun q hq => by cases hq)⟩
-- api.Climb
def ty118 : TyRow := ⟨.struct [(0, 3), (1, 3), (2, 3), (3, 3)], 4, 32, [.lit .i64 0, .lit .i64 0, .lit .i64 0, .lit .i64 0], true, false, [], false⟩
theorem ty118_met : ty118.met Tryz.prog 118 := ⟨⟨Tryz.prog.fieldsOf 118, by kernel_rfl, by kernel_rfl⟩, ⟨(Tryz.prog.info? 118).getD default, (.agg #[(.int .i64 0), (.int .i64 0), (.int .i64 0), (.int .i64 0)]), by kernel_rfl, by kernel_rfl, by kernel_rfl, by kernel_rfl, rfl, ⟨[(.int .i64 0), (.int .i64 0), (.int .i64 0), (.int .i64 0)], relL_cellAV _ [(.int .i64 0), (.int .i64 0), (.int .i64 0), (.int .i64 0)], rfl⟩, relL_cellAV _ [(.int .i64 0), (.int .i64 0), (.int .i64 0), (.int .i64 0)]⟩, fun _ => ⟨by kernel_rfl, by kernel_rfl, names_ok (by kernel_rfl) (by kernel_rfl)⟩, (fun q hq => by cases hq)⟩
-- func(int) api.Climb
def ty119 : TyRow := ⟨.func, 1, 8, [.nilF], false, false, [], false⟩
theorem ty119_met : ty119.met Tryz.prog 119 := ⟨⟨(funcOf Tryz.prog 119).1, (funcOf Tryz.prog 119).2.1, (funcOf Tryz.prog 119).2.2, by kernel_rfl⟩, ⟨(Tryz.prog.info? 119).getD default, .nilFunc, by kernel_rfl, by kernel_rfl, by kernel_rfl, by kernel_rfl, rfl, relL_cellAV _ [.nilFunc], relL_cellAV _ [.nilFunc]⟩, (fun h => by cases h), (fun q hq => by cases hq)⟩
-- struct { capacity int; period int; often *filter.Filter; rows *deque.Lists; keys map[int]int; quota 
def ty120 : TyRow := ⟨.struct [(0, 3), (1, 3), (2, 110), (3, 112), (4, 64), (5, 115), (8, 118)], 12, 96, [.lit .i64 0, .lit .i64 0, .nilP, .nilP, .nilM, .lit .i64 0, .lit .i64 0, .lit .i64 0, .lit .i64 0, .lit .i64 0, .lit .i64 0, .lit .i64 0], false, false, [], false⟩
theorem ty120_met : ty120.met Tryz.prog 120 := ⟨⟨Tryz.prog.fieldsOf 120, by kernel_rfl, by kernel_rfl⟩, ⟨(Tryz.prog.info? 120).getD default, (.agg #[(.int .i64 0), (.int .i64 0), (.pointer none), (.pointer none), (.map none), (.int .i64 0), (.int .i64 0), (.int .i64 0), (.int .i64 0), (.int .i64 0), (.int .i64 0), (.int .i64 0)]), by kernel_rfl, by kernel_rfl, by kernel_rfl, by kernel_rfl, rfl, ⟨[(.int .i64 0), (.int .i64 0), (.pointer none), (.pointer none), (.map none), (.int .i64 0), (.int .i64 0), (.int .i64 0), (.int .i64 0), (.int .i64 0), (.int .i64 0), (.int .i64 0)], relL_cellAV _ [(.int .i64 0), (.int .i64 0), (.pointer none), (.pointer none), (.map none), (.int .i64 0), (.int .i64 0), (.int .i64 0), (.int .i64 0), (.int .i64 0), (.int .i64 0), (.int .i64 0)], rfl⟩, relL_cellAV _ [(.int .i64 0), (.int .i64 0), (.pointer none), (.pointer none), (.map none), (.int .i64 0), (.int .i64 0), (.int .i64 0), (.int .i64 0), (.int .i64 0), (.int .i64 0), (.int .i64 0)]⟩, (fun h => by cases h), (fun q hq => by cases hq)⟩
-- policy.Policy
def ty121 : TyRow := ⟨.struct [(0, 3), (1, 3), (2, 110), (3, 112), (4, 64), (5, 115), (8, 118)], 12, 96, [.lit .i64 0, .lit .i64 0, .nilP, .nilP, .nilM, .lit .i64 0, .lit .i64 0, .lit .i64 0, .lit .i64 0, .lit .i64 0, .lit .i64 0, .lit .i64 0], false, false, [], false⟩
theorem ty121_met : ty121.met Tryz.prog 121 := ⟨⟨Tryz.prog.fieldsOf 121, by kernel_rfl, by kernel_rfl⟩, ⟨(Tryz.prog.info? 121).getD default, (.agg #[(.int .i64 0), (.int .i64 0), (.pointer none), (.pointer none), (.map none), (.int .i64 0), (.int .i64 0), (.int .i64 0), (.int .i64 0), (.int .i64 0), (.int .i64 0), (.int .i64 0)]), by kernel_rfl, by kernel_rfl, by kernel_rfl, by kernel_rfl, rfl, ⟨[(.int .i64 0), (.int .i64 0), (.pointer none), (.pointer none), (.map none), (.int .i64 0), (.int .i64 0), (.int .i64 0), (.int .i64 0), (.int .i64 0), (.int .i64 0), (.int .i64 0)], relL_cellAV _ [(.int .i64 0), (.int .i64 0), (.pointer none), (.pointer none), (.map none), (.int .i64 0), (.int .i64 0), (.int .i64 0), (.int .i64 0), (.int .i64 0), (.int .i64 0), (.int .i64 0)], rfl⟩, relL_cellAV _ [(.int .i64 0), (.int .i64 0), (.pointer none), (.pointer none), (.map none), (.int .i64 0), (.int .i64 0), (.int .i64 0), (.int .i64 0), (.int .i64 0), (.int .i64 0), (.int .i64 0)]⟩, (fun h => by cases h), (fun q hq => by cases hq)⟩
-- []stripes.keeper
def ty122 : TyRow := ⟨.slice 253, 1, 24, [.nilS], false, false, [], false⟩
theorem ty122_met : ty122.met Tryz.prog 122 := ⟨(show Tryz.prog.underlying 122 = some (.slice 253) by kernel_rfl), ⟨(Tryz.prog.info? 122).getD default, (.slice none 0 0), by kernel_rfl, by kernel_rfl, by kernel_rfl, by kernel_rfl, rfl, relL_cellAV _ [(.slice none 0 0)], relL_cellAV _ [(.slice none 0 0)]⟩, (fun h => by cases h), (fun q hq => by cases hq)⟩
-- struct { rings []stripes.keeper; seed int }
def ty123 : TyRow := ⟨.struct [(0, 122), (1, 3)], 2, 32, [.nilS, .lit .i64 0], false, false, [], false⟩
theorem ty123_met : ty123.met Tryz.prog 123 := ⟨⟨Tryz.prog.fieldsOf 123, by kernel_rfl, by kernel_rfl⟩, ⟨(Tryz.prog.info? 123).getD default, (.agg #[(.slice none 0 0), (.int .i64 0)]), by kernel_rfl, by kernel_rfl, by kernel_rfl, by kernel_rfl, rfl, ⟨[(.slice none 0 0), (.int .i64 0)], relL_cellAV _ [(.slice none 0 0), (.int .i64 0)], rfl⟩, relL_cellAV _ [(.slice none 0 0), (.int .i64 0)]⟩, (fun h => by cases h), (fun q hq => by cases hq)⟩
-- stripes.Stripes
def ty124 : TyRow := ⟨.struct [(0, 122), (1, 3)], 2, 32, [.nilS, .lit .i64 0], false, false, [], false⟩
theorem ty124_met : ty124.met Tryz.prog 124 := ⟨⟨Tryz.prog.fieldsOf 124, by kernel_rfl, by kernel_rfl⟩, ⟨(Tryz.prog.info? 124).getD default, (.agg #[(.slice none 0 0), (.int .i64 0)]), by kernel_rfl, by kernel_rfl, by kernel_rfl, by kernel_rfl, rfl, ⟨[(.slice none 0 0), (.int .i64 0)], relL_cellAV _ [(.slice none 0 0), (.int .i64 0)], rfl⟩, relL_cellAV _ [(.slice none 0 0), (.int .i64 0)]⟩, (fun h => by cases h), (fun q hq => by cases hq)⟩
-- *ring.Ring
def ty125 : TyRow := ⟨.ptr 192, 1, 8, [.nilP], false, false, [("Offer", 320), ("Take", 321), ("Drain", 347), ("Len", 319), ("Lost", 348)], false⟩
theorem ty125_met : ty125.met Tryz.prog 125 := ⟨(show Tryz.prog.underlying 125 = some (.pointer 192) by kernel_rfl), ⟨(Tryz.prog.info? 125).getD default, (.pointer none), by kernel_rfl, by kernel_rfl, by kernel_rfl, by kernel_rfl, rfl, relL_cellAV _ [(.pointer none)], relL_cellAV _ [(.pointer none)]⟩, (fun h => by cases h), (fun q hq v w => by
    simp only [ty125, List.mem_cons, List.not_mem_nil, or_false] at hq
    rcases hq with rfl | rfl | rfl | rfl | rfl <;> kernel_rfl)⟩
-- func(int) *ring.Ring
def ty126 : TyRow := ⟨.func, 1, 8, [.nilF], false, false, [], false⟩
theorem ty126_met : ty126.met Tryz.prog 126 := ⟨⟨(funcOf Tryz.prog 126).1, (funcOf Tryz.prog 126).2.1, (funcOf Tryz.prog 126).2.2, by kernel_rfl⟩, ⟨(Tryz.prog.info? 126).getD default, .nilFunc, by kernel_rfl, by kernel_rfl, by kernel_rfl, by kernel_rfl, rfl, relL_cellAV _ [.nilFunc], relL_cellAV _ [.nilFunc]⟩, (fun h => by cases h), (fun q hq => by cases hq)⟩
-- map[int]api.Event
def ty127 : TyRow := ⟨.map 3 224, 1, 8, [.nilM], false, false, [], false⟩
theorem ty127_met : ty127.met Tryz.prog 127 := ⟨(show Tryz.prog.underlying 127 = some (.map 3 224) by kernel_rfl), ⟨(Tryz.prog.info? 127).getD default, (.map none), by kernel_rfl, by kernel_rfl, by kernel_rfl, by kernel_rfl, rfl, relL_cellAV _ [(.map none)], relL_cellAV _ [(.map none)]⟩, (fun h => by cases h), (fun q hq => by cases hq)⟩
-- struct { size int; events map[int]api.Event; first int; reserved int; weight int }
def ty128 : TyRow := ⟨.struct [(0, 3), (1, 127), (2, 3), (3, 3), (4, 3)], 5, 40, [.lit .i64 0, .nilM, .lit .i64 0, .lit .i64 0, .lit .i64 0], false, false, [], false⟩
theorem ty128_met : ty128.met Tryz.prog 128 := ⟨⟨Tryz.prog.fieldsOf 128, by kernel_rfl, by kernel_rfl⟩, ⟨(Tryz.prog.info? 128).getD default, (.agg #[(.int .i64 0), (.map none), (.int .i64 0), (.int .i64 0), (.int .i64 0)]), by kernel_rfl, by kernel_rfl, by kernel_rfl, by kernel_rfl, rfl, ⟨[(.int .i64 0), (.map none), (.int .i64 0), (.int .i64 0), (.int .i64 0)], relL_cellAV _ [(.int .i64 0), (.map none), (.int .i64 0), (.int .i64 0), (.int .i64 0)], rfl⟩, relL_cellAV _ [(.int .i64 0), (.map none), (.int .i64 0), (.int .i64 0), (.int .i64 0)]⟩, (fun h => by cases h), (fun q hq => by cases hq)⟩
-- writes.Buffer
def ty129 : TyRow := ⟨.struct [(0, 3), (1, 127), (2, 3), (3, 3), (4, 3)], 5, 40, [.lit .i64 0, .nilM, .lit .i64 0, .lit .i64 0, .lit .i64 0], false, false, [], false⟩
theorem ty129_met : ty129.met Tryz.prog 129 := ⟨⟨Tryz.prog.fieldsOf 129, by kernel_rfl, by kernel_rfl⟩, ⟨(Tryz.prog.info? 129).getD default, (.agg #[(.int .i64 0), (.map none), (.int .i64 0), (.int .i64 0), (.int .i64 0)]), by kernel_rfl, by kernel_rfl, by kernel_rfl, by kernel_rfl, rfl, ⟨[(.int .i64 0), (.map none), (.int .i64 0), (.int .i64 0), (.int .i64 0)], relL_cellAV _ [(.int .i64 0), (.map none), (.int .i64 0), (.int .i64 0), (.int .i64 0)], rfl⟩, relL_cellAV _ [(.int .i64 0), (.map none), (.int .i64 0), (.int .i64 0), (.int .i64 0)]⟩, (fun h => by cases h), (fun q hq => by cases hq)⟩
-- func(int) int
def ty130 : TyRow := ⟨.func, 1, 8, [.nilF], false, false, [], false⟩
theorem ty130_met : ty130.met Tryz.prog 130 := ⟨⟨(funcOf Tryz.prog 130).1, (funcOf Tryz.prog 130).2.1, (funcOf Tryz.prog 130).2.2, by kernel_rfl⟩, ⟨(Tryz.prog.info? 130).getD default, .nilFunc, by kernel_rfl, by kernel_rfl, by kernel_rfl, by kernel_rfl, rfl, relL_cellAV _ [.nilFunc], relL_cellAV _ [.nilFunc]⟩, (fun h => by cases h), (fun q hq => by cases hq)⟩
-- []cells.holder
def ty131 : TyRow := ⟨.slice 282, 1, 24, [.nilS], false, false, [], false⟩
theorem ty131_met : ty131.met Tryz.prog 131 := ⟨(show Tryz.prog.underlying 131 = some (.slice 282) by kernel_rfl), ⟨(Tryz.prog.info? 131).getD default, (.slice none 0 0), by kernel_rfl, by kernel_rfl, by kernel_rfl, by kernel_rfl, rfl, relL_cellAV _ [(.slice none 0 0)], relL_cellAV _ [(.slice none 0 0)]⟩, (fun h => by cases h), (fun q hq => by cases hq)⟩
-- []api.Deed
def ty132 : TyRow := ⟨.slice 257, 1, 24, [.nilS], false, false, [], false⟩
theorem ty132_met : ty132.met Tryz.prog 132 := ⟨(show Tryz.prog.underlying 132 = some (.slice 257) by kernel_rfl), ⟨(Tryz.prog.info? 132).getD default, (.slice none 0 0), by kernel_rfl, by kernel_rfl, by kernel_rfl, by kernel_rfl, rfl, relL_cellAV _ [(.slice none 0 0)], relL_cellAV _ [(.slice none 0 0)]⟩, (fun h => by cases h), (fun q hq => by cases hq)⟩
-- struct { words []int; locks []cells.holder; log []api.Deed }
def ty133 : TyRow := ⟨.struct [(0, 22), (1, 131), (2, 132)], 3, 72, [.nilS, .nilS, .nilS], false, false, [], false⟩
theorem ty133_met : ty133.met Tryz.prog 133 := ⟨⟨Tryz.prog.fieldsOf 133, by kernel_rfl, by kernel_rfl⟩, ⟨(Tryz.prog.info? 133).getD default, (.agg #[(.slice none 0 0), (.slice none 0 0), (.slice none 0 0)]), by kernel_rfl, by kernel_rfl, by kernel_rfl, by kernel_rfl, rfl, ⟨[(.slice none 0 0), (.slice none 0 0), (.slice none 0 0)], relL_cellAV _ [(.slice none 0 0), (.slice none 0 0), (.slice none 0 0)], rfl⟩, relL_cellAV _ [(.slice none 0 0), (.slice none 0 0), (.slice none 0 0)]⟩, (fun h => by cases h), (fun q hq => by cases hq)⟩
-- cells.Cells
def ty134 : TyRow := ⟨.struct [(0, 22), (1, 131), (2, 132)], 3, 72, [.nilS, .nilS, .nilS], false, false, [], false⟩
theorem ty134_met : ty134.met Tryz.prog 134 := ⟨⟨Tryz.prog.fieldsOf 134, by kernel_rfl, by kernel_rfl⟩, ⟨(Tryz.prog.info? 134).getD default, (.agg #[(.slice none 0 0), (.slice none 0 0), (.slice none 0 0)]), by kernel_rfl, by kernel_rfl, by kernel_rfl, by kernel_rfl, rfl, ⟨[(.slice none 0 0), (.slice none 0 0), (.slice none 0 0)], relL_cellAV _ [(.slice none 0 0), (.slice none 0 0), (.slice none 0 0)], rfl⟩, relL_cellAV _ [(.slice none 0 0), (.slice none 0 0), (.slice none 0 0)]⟩, (fun h => by cases h), (fun q hq => by cases hq)⟩
-- *pantryref05.Filter
def ty135 : TyRow := ⟨.ptr 206, 1, 8, [.nilP], false, false, [], false⟩
theorem ty135_met : ty135.met Tryz.prog 135 := ⟨(show Tryz.prog.underlying 135 = some (.pointer 206) by kernel_rfl), ⟨(Tryz.prog.info? 135).getD default, (.pointer none), by kernel_rfl, by kernel_rfl, by kernel_rfl, by kernel_rfl, rfl, relL_cellAV _ [(.pointer none)], relL_cellAV _ [(.pointer none)]⟩, (fun h => by cases h), (fun q hq => by cases hq)⟩
-- func(int, int) *pantryref05.Filter
def ty136 : TyRow := ⟨.func, 1, 8, [.nilF], false, false, [], false⟩
theorem ty136_met : ty136.met Tryz.prog 136 := ⟨⟨(funcOf Tryz.prog 136).1, (funcOf Tryz.prog 136).2.1, (funcOf Tryz.prog 136).2.2, by kernel_rfl⟩, ⟨(Tryz.prog.info? 136).getD default, .nilFunc, by kernel_rfl, by kernel_rfl, by kernel_rfl, by kernel_rfl, rfl, relL_cellAV _ [.nilFunc], relL_cellAV _ [.nilFunc]⟩, (fun h => by cases h), (fun q hq => by cases hq)⟩
-- *pantryref07.Lists
def ty137 : TyRow := ⟨.ptr 209, 1, 8, [.nilP], false, false, [], false⟩
theorem ty137_met : ty137.met Tryz.prog 137 := ⟨(show Tryz.prog.underlying 137 = some (.pointer 209) by kernel_rfl), ⟨(Tryz.prog.info? 137).getD default, (.pointer none), by kernel_rfl, by kernel_rfl, by kernel_rfl, by kernel_rfl, rfl, relL_cellAV _ [(.pointer none)], relL_cellAV _ [(.pointer none)]⟩, (fun h => by cases h), (fun q hq => by cases hq)⟩
-- func(int) *pantryref07.Lists
def ty138 : TyRow := ⟨.func, 1, 8, [.nilF], false, false, [], false⟩
theorem ty138_met : ty138.met Tryz.prog 138 := ⟨⟨(funcOf Tryz.prog 138).1, (funcOf Tryz.prog 138).2.1, (funcOf Tryz.prog 138).2.2, by kernel_rfl⟩, ⟨(Tryz.prog.info? 138).getD default, .nilFunc, by kernel_rfl, by kernel_rfl, by kernel_rfl, by kernel_rfl, rfl, relL_cellAV _ [.nilFunc], relL_cellAV _ [.nilFunc]⟩, (fun h => by cases h), (fun q hq => by cases hq)⟩
-- struct { C int; F *pantryref05.Filter; R *pantryref07.Lists; Keys [][2]int; Q api.Quota; Cl api.Clim
def ty139 : TyRow := ⟨.struct [(0, 3), (1, 135), (2, 137), (3, 94), (4, 115), (7, 118), (11, 3)], 12, 112, [.lit .i64 0, .nilP, .nilP, .nilS, .lit .i64 0, .lit .i64 0, .lit .i64 0, .lit .i64 0, .lit .i64 0, .lit .i64 0, .lit .i64 0, .lit .i64 0], false, false, [], false⟩
theorem ty139_met : ty139.met Tryz.prog 139 := ⟨⟨Tryz.prog.fieldsOf 139, by kernel_rfl, by kernel_rfl⟩, ⟨(Tryz.prog.info? 139).getD default, (.agg #[(.int .i64 0), (.pointer none), (.pointer none), (.slice none 0 0), (.int .i64 0), (.int .i64 0), (.int .i64 0), (.int .i64 0), (.int .i64 0), (.int .i64 0), (.int .i64 0), (.int .i64 0)]), by kernel_rfl, by kernel_rfl, by kernel_rfl, by kernel_rfl, rfl, ⟨[(.int .i64 0), (.pointer none), (.pointer none), (.slice none 0 0), (.int .i64 0), (.int .i64 0), (.int .i64 0), (.int .i64 0), (.int .i64 0), (.int .i64 0), (.int .i64 0), (.int .i64 0)], relL_cellAV _ [(.int .i64 0), (.pointer none), (.pointer none), (.slice none 0 0), (.int .i64 0), (.int .i64 0), (.int .i64 0), (.int .i64 0), (.int .i64 0), (.int .i64 0), (.int .i64 0), (.int .i64 0)], rfl⟩, relL_cellAV _ [(.int .i64 0), (.pointer none), (.pointer none), (.slice none 0 0), (.int .i64 0), (.int .i64 0), (.int .i64 0), (.int .i64 0), (.int .i64 0), (.int .i64 0), (.int .i64 0), (.int .i64 0)]⟩, (fun h => by cases h), (fun q hq => by cases hq)⟩
-- pantryref11.Policy
def ty140 : TyRow := ⟨.struct [(0, 3), (1, 135), (2, 137), (3, 94), (4, 115), (7, 118), (11, 3)], 12, 112, [.lit .i64 0, .nilP, .nilP, .nilS, .lit .i64 0, .lit .i64 0, .lit .i64 0, .lit .i64 0, .lit .i64 0, .lit .i64 0, .lit .i64 0, .lit .i64 0], false, false, [], false⟩
theorem ty140_met : ty140.met Tryz.prog 140 := ⟨⟨Tryz.prog.fieldsOf 140, by kernel_rfl, by kernel_rfl⟩, ⟨(Tryz.prog.info? 140).getD default, (.agg #[(.int .i64 0), (.pointer none), (.pointer none), (.slice none 0 0), (.int .i64 0), (.int .i64 0), (.int .i64 0), (.int .i64 0), (.int .i64 0), (.int .i64 0), (.int .i64 0), (.int .i64 0)]), by kernel_rfl, by kernel_rfl, by kernel_rfl, by kernel_rfl, rfl, ⟨[(.int .i64 0), (.pointer none), (.pointer none), (.slice none 0 0), (.int .i64 0), (.int .i64 0), (.int .i64 0), (.int .i64 0), (.int .i64 0), (.int .i64 0), (.int .i64 0), (.int .i64 0)], relL_cellAV _ [(.int .i64 0), (.pointer none), (.pointer none), (.slice none 0 0), (.int .i64 0), (.int .i64 0), (.int .i64 0), (.int .i64 0), (.int .i64 0), (.int .i64 0), (.int .i64 0), (.int .i64 0)], rfl⟩, relL_cellAV _ [(.int .i64 0), (.pointer none), (.pointer none), (.slice none 0 0), (.int .i64 0), (.int .i64 0), (.int .i64 0), (.int .i64 0), (.int .i64 0), (.int .i64 0), (.int .i64 0), (.int .i64 0)]⟩, (fun h => by cases h), (fun q hq => by cases hq)⟩
-- []*pantryref12.Ring
def ty141 : TyRow := ⟨.slice 144, 1, 24, [.nilS], false, false, [], false⟩
theorem ty141_met : ty141.met Tryz.prog 141 := ⟨(show Tryz.prog.underlying 141 = some (.slice 144) by kernel_rfl), ⟨(Tryz.prog.info? 141).getD default, (.slice none 0 0), by kernel_rfl, by kernel_rfl, by kernel_rfl, by kernel_rfl, rfl, relL_cellAV _ [(.slice none 0 0)], relL_cellAV _ [(.slice none 0 0)]⟩, (fun h => by cases h), (fun q hq => by cases hq)⟩
-- struct { R []*pantryref12.Ring; Seed int }
def ty142 : TyRow := ⟨.struct [(0, 141), (1, 3)], 2, 32, [.nilS, .lit .i64 0], false, false, [], false⟩
theorem ty142_met : ty142.met Tryz.prog 142 := ⟨⟨Tryz.prog.fieldsOf 142, by kernel_rfl, by kernel_rfl⟩, ⟨(Tryz.prog.info? 142).getD default, (.agg #[(.slice none 0 0), (.int .i64 0)]), by kernel_rfl, by kernel_rfl, by kernel_rfl, by kernel_rfl, rfl, ⟨[(.slice none 0 0), (.int .i64 0)], relL_cellAV _ [(.slice none 0 0), (.int .i64 0)], rfl⟩, relL_cellAV _ [(.slice none 0 0), (.int .i64 0)]⟩, (fun h => by cases h), (fun q hq => by cases hq)⟩
-- pantryref13.Stripes
def ty143 : TyRow := ⟨.struct [(0, 141), (1, 3)], 2, 32, [.nilS, .lit .i64 0], false, false, [], false⟩
theorem ty143_met : ty143.met Tryz.prog 143 := ⟨⟨Tryz.prog.fieldsOf 143, by kernel_rfl, by kernel_rfl⟩, ⟨(Tryz.prog.info? 143).getD default, (.agg #[(.slice none 0 0), (.int .i64 0)]), by kernel_rfl, by kernel_rfl, by kernel_rfl, by kernel_rfl, rfl, ⟨[(.slice none 0 0), (.int .i64 0)], relL_cellAV _ [(.slice none 0 0), (.int .i64 0)], rfl⟩, relL_cellAV _ [(.slice none 0 0), (.int .i64 0)]⟩, (fun h => by cases h), (fun q hq => by cases hq)⟩
-- *pantryref12.Ring
def ty144 : TyRow := ⟨.ptr 211, 1, 8, [.nilP], false, false, [], false⟩
theorem ty144_met : ty144.met Tryz.prog 144 := ⟨(show Tryz.prog.underlying 144 = some (.pointer 211) by kernel_rfl), ⟨(Tryz.prog.info? 144).getD default, (.pointer none), by kernel_rfl, by kernel_rfl, by kernel_rfl, by kernel_rfl, rfl, relL_cellAV _ [(.pointer none)], relL_cellAV _ [(.pointer none)]⟩, (fun h => by cases h), (fun q hq => by cases hq)⟩
-- func(int) *pantryref12.Ring
def ty145 : TyRow := ⟨.func, 1, 8, [.nilF], false, false, [], false⟩
theorem ty145_met : ty145.met Tryz.prog 145 := ⟨⟨(funcOf Tryz.prog 145).1, (funcOf Tryz.prog 145).2.1, (funcOf Tryz.prog 145).2.2, by kernel_rfl⟩, ⟨(Tryz.prog.info? 145).getD default, .nilFunc, by kernel_rfl, by kernel_rfl, by kernel_rfl, by kernel_rfl, rfl, relL_cellAV _ [.nilFunc], relL_cellAV _ [.nilFunc]⟩, (fun h => by cases h), (fun q hq => by cases hq)⟩
-- struct { N int; L []api.Event; R int }
def ty146 : TyRow := ⟨.struct [(0, 3), (1, 67), (2, 3)], 3, 40, [.lit .i64 0, .nilS, .lit .i64 0], false, false, [], false⟩
theorem ty146_met : ty146.met Tryz.prog 146 := ⟨⟨Tryz.prog.fieldsOf 146, by kernel_rfl, by kernel_rfl⟩, ⟨(Tryz.prog.info? 146).getD default, (.agg #[(.int .i64 0), (.slice none 0 0), (.int .i64 0)]), by kernel_rfl, by kernel_rfl, by kernel_rfl, by kernel_rfl, rfl, ⟨[(.int .i64 0), (.slice none 0 0), (.int .i64 0)], relL_cellAV _ [(.int .i64 0), (.slice none 0 0), (.int .i64 0)], rfl⟩, relL_cellAV _ [(.int .i64 0), (.slice none 0 0), (.int .i64 0)]⟩, (fun h => by cases h), (fun q hq => by cases hq)⟩
-- pantryref14.Buffer
def ty147 : TyRow := ⟨.struct [(0, 3), (1, 67), (2, 3)], 3, 40, [.lit .i64 0, .nilS, .lit .i64 0], false, false, [], false⟩
theorem ty147_met : ty147.met Tryz.prog 147 := ⟨⟨Tryz.prog.fieldsOf 147, by kernel_rfl, by kernel_rfl⟩, ⟨(Tryz.prog.info? 147).getD default, (.agg #[(.int .i64 0), (.slice none 0 0), (.int .i64 0)]), by kernel_rfl, by kernel_rfl, by kernel_rfl, by kernel_rfl, rfl, ⟨[(.int .i64 0), (.slice none 0 0), (.int .i64 0)], relL_cellAV _ [(.int .i64 0), (.slice none 0 0), (.int .i64 0)], rfl⟩, relL_cellAV _ [(.int .i64 0), (.slice none 0 0), (.int .i64 0)]⟩, (fun h => by cases h), (fun q hq => by cases hq)⟩
-- struct { W []int; H []bool; T []int; L []api.Deed }
def ty148 : TyRow := ⟨.struct [(0, 22), (1, 50), (2, 22), (3, 132)], 4, 96, [.nilS, .nilS, .nilS, .nilS], false, false, [], false⟩
theorem ty148_met : ty148.met Tryz.prog 148 := ⟨⟨Tryz.prog.fieldsOf 148, by kernel_rfl, by kernel_rfl⟩, ⟨(Tryz.prog.info? 148).getD default, (.agg #[(.slice none 0 0), (.slice none 0 0), (.slice none 0 0), (.slice none 0 0)]), by kernel_rfl, by kernel_rfl, by kernel_rfl, by kernel_rfl, rfl, ⟨[(.slice none 0 0), (.slice none 0 0), (.slice none 0 0), (.slice none 0 0)], relL_cellAV _ [(.slice none 0 0), (.slice none 0 0), (.slice none 0 0), (.slice none 0 0)], rfl⟩, relL_cellAV _ [(.slice none 0 0), (.slice none 0 0), (.slice none 0 0), (.slice none 0 0)]⟩, (fun h => by cases h), (fun q hq => by cases hq)⟩
-- pantryref19.Cells
def ty149 : TyRow := ⟨.struct [(0, 22), (1, 50), (2, 22), (3, 132)], 4, 96, [.nilS, .nilS, .nilS, .nilS], false, false, [], false⟩
theorem ty149_met : ty149.met Tryz.prog 149 := ⟨⟨Tryz.prog.fieldsOf 149, by kernel_rfl, by kernel_rfl⟩, ⟨(Tryz.prog.info? 149).getD default, (.agg #[(.slice none 0 0), (.slice none 0 0), (.slice none 0 0), (.slice none 0 0)]), by kernel_rfl, by kernel_rfl, by kernel_rfl, by kernel_rfl, rfl, ⟨[(.slice none 0 0), (.slice none 0 0), (.slice none 0 0), (.slice none 0 0)], relL_cellAV _ [(.slice none 0 0), (.slice none 0 0), (.slice none 0 0), (.slice none 0 0)], rfl⟩, relL_cellAV _ [(.slice none 0 0), (.slice none 0 0), (.slice none 0 0), (.slice none 0 0)]⟩, (fun h => by cases h), (fun q hq => by cases hq)⟩
-- *pantryref22.thread
def ty150 : TyRow := ⟨.ptr 102, 1, 8, [.nilP], false, false, [], false⟩
theorem ty150_met : ty150.met Tryz.prog 150 := ⟨(show Tryz.prog.underlying 150 = some (.pointer 102) by kernel_rfl), ⟨(Tryz.prog.info? 150).getD default, (.pointer none), by kernel_rfl, by kernel_rfl, by kernel_rfl, by kernel_rfl, rfl, relL_cellAV _ [(.pointer none)], relL_cellAV _ [(.pointer none)]⟩, (fun h => by cases h), (fun q hq => by cases hq)⟩
-- func(int, *pantryref22.thread) bool
def ty151 : TyRow := ⟨.func, 1, 8, [.nilF], false, false, [], false⟩
theorem ty151_met : ty151.met Tryz.prog 151 := ⟨⟨(funcOf Tryz.prog 151).1, (funcOf Tryz.prog 151).2.1, (funcOf Tryz.prog 151).2.2, by kernel_rfl⟩, ⟨(Tryz.prog.info? 151).getD default, .nilFunc, by kernel_rfl, by kernel_rfl, by kernel_rfl, by kernel_rfl, rfl, relL_cellAV _ [.nilFunc], relL_cellAV _ [.nilFunc]⟩, (fun h => by cases h), (fun q hq => by cases hq)⟩
-- func(int, int) (bool, api.Errno)
def ty153 : TyRow := ⟨.func, 1, 8, [.nilF], false, false, [], false⟩
theorem ty153_met : ty153.met Tryz.prog 153 := ⟨⟨(funcOf Tryz.prog 153).1, (funcOf Tryz.prog 153).2.1, (funcOf Tryz.prog 153).2.2, by kernel_rfl⟩, ⟨(Tryz.prog.info? 153).getD default, .nilFunc, by kernel_rfl, by kernel_rfl, by kernel_rfl, by kernel_rfl, rfl, relL_cellAV _ [.nilFunc], relL_cellAV _ [.nilFunc]⟩, (fun h => by cases h), (fun q hq => by cases hq)⟩
-- func(int, *pantryref22.thread, int)
def ty154 : TyRow := ⟨.func, 1, 8, [.nilF], false, false, [], false⟩
theorem ty154_met : ty154.met Tryz.prog 154 := ⟨⟨(funcOf Tryz.prog 154).1, (funcOf Tryz.prog 154).2.1, (funcOf Tryz.prog 154).2.2, by kernel_rfl⟩, ⟨(Tryz.prog.info? 154).getD default, .nilFunc, by kernel_rfl, by kernel_rfl, by kernel_rfl, by kernel_rfl, rfl, relL_cellAV _ [.nilFunc], relL_cellAV _ [.nilFunc]⟩, (fun h => by cases h), (fun q hq => by cases hq)⟩
-- func(int, int) api.Errno
def ty155 : TyRow := ⟨.func, 1, 8, [.nilF], false, false, [], false⟩
theorem ty155_met : ty155.met Tryz.prog 155 := ⟨⟨(funcOf Tryz.prog 155).1, (funcOf Tryz.prog 155).2.1, (funcOf Tryz.prog 155).2.2, by kernel_rfl⟩, ⟨(Tryz.prog.info? 155).getD default, .nilFunc, by kernel_rfl, by kernel_rfl, by kernel_rfl, by kernel_rfl, rfl, relL_cellAV _ [.nilFunc], relL_cellAV _ [.nilFunc]⟩, (fun h => by cases h), (fun q hq => by cases hq)⟩
-- func(int, *pantryref22.thread)
def ty156 : TyRow := ⟨.func, 1, 8, [.nilF], false, false, [], false⟩
theorem ty156_met : ty156.met Tryz.prog 156 := ⟨⟨(funcOf Tryz.prog 156).1, (funcOf Tryz.prog 156).2.1, (funcOf Tryz.prog 156).2.2, by kernel_rfl⟩, ⟨(Tryz.prog.info? 156).getD default, .nilFunc, by kernel_rfl, by kernel_rfl, by kernel_rfl, by kernel_rfl, rfl, relL_cellAV _ [.nilFunc], relL_cellAV _ [.nilFunc]⟩, (fun h => by cases h), (fun q hq => by cases hq)⟩
-- func(int, int) bool
def ty157 : TyRow := ⟨.func, 1, 8, [.nilF], false, false, [], false⟩
theorem ty157_met : ty157.met Tryz.prog 157 := ⟨⟨(funcOf Tryz.prog 157).1, (funcOf Tryz.prog 157).2.1, (funcOf Tryz.prog 157).2.2, by kernel_rfl⟩, ⟨(Tryz.prog.info? 157).getD default, .nilFunc, by kernel_rfl, by kernel_rfl, by kernel_rfl, by kernel_rfl, rfl, relL_cellAV _ [.nilFunc], relL_cellAV _ [.nilFunc]⟩, (fun h => by cases h), (fun q hq => by cases hq)⟩
-- func(int, api.Status)
def ty158 : TyRow := ⟨.func, 1, 8, [.nilF], false, false, [], false⟩
theorem ty158_met : ty158.met Tryz.prog 158 := ⟨⟨(funcOf Tryz.prog 158).1, (funcOf Tryz.prog 158).2.1, (funcOf Tryz.prog 158).2.2, by kernel_rfl⟩, ⟨(Tryz.prog.info? 158).getD default, .nilFunc, by kernel_rfl, by kernel_rfl, by kernel_rfl, by kernel_rfl, rfl, relL_cellAV _ [.nilFunc], relL_cellAV _ [.nilFunc]⟩, (fun h => by cases h), (fun q hq => by cases hq)⟩
-- api.Status
def ty159 : TyRow := ⟨.int .i64, 1, 8, [.lit .i64 0], false, false, [], false⟩
theorem ty159_met : ty159.met Tryz.prog 159 := ⟨(show Tryz.prog.underlying 159 = some (.int .i64) by kernel_rfl), ⟨(Tryz.prog.info? 159).getD default, (.int .i64 0), by kernel_rfl, by kernel_rfl, by kernel_rfl, by kernel_rfl, rfl, relL_cellAV _ [(.int .i64 0)], relL_cellAV _ [(.int .i64 0)]⟩, (fun h => by cases h), (fun q hq => by cases hq)⟩
-- func(api.Status) api.Status
def ty160 : TyRow := ⟨.func, 1, 8, [.nilF], false, false, [], false⟩
theorem ty160_met : ty160.met Tryz.prog 160 := ⟨⟨(funcOf Tryz.prog 160).1, (funcOf Tryz.prog 160).2.1, (funcOf Tryz.prog 160).2.2, by kernel_rfl⟩, ⟨(Tryz.prog.info? 160).getD default, .nilFunc, by kernel_rfl, by kernel_rfl, by kernel_rfl, by kernel_rfl, rfl, relL_cellAV _ [.nilFunc], relL_cellAV _ [.nilFunc]⟩, (fun h => by cases h), (fun q hq => by cases hq)⟩
-- func() api.Status
def ty161 : TyRow := ⟨.func, 1, 8, [.nilF], false, false, [], false⟩
theorem ty161_met : ty161.met Tryz.prog 161 := ⟨⟨(funcOf Tryz.prog 161).1, (funcOf Tryz.prog 161).2.1, (funcOf Tryz.prog 161).2.2, by kernel_rfl⟩, ⟨(Tryz.prog.info? 161).getD default, .nilFunc, by kernel_rfl, by kernel_rfl, by kernel_rfl, by kernel_rfl, rfl, relL_cellAV _ [.nilFunc], relL_cellAV _ [.nilFunc]⟩, (fun h => by cases h), (fun q hq => by cases hq)⟩
-- func(int, int, int, api.Commit, api.Errno)
def ty162 : TyRow := ⟨.func, 1, 8, [.nilF], false, false, [], false⟩
theorem ty162_met : ty162.met Tryz.prog 162 := ⟨⟨(funcOf Tryz.prog 162).1, (funcOf Tryz.prog 162).2.1, (funcOf Tryz.prog 162).2.2, by kernel_rfl⟩, ⟨(Tryz.prog.info? 162).getD default, .nilFunc, by kernel_rfl, by kernel_rfl, by kernel_rfl, by kernel_rfl, rfl, relL_cellAV _ [.nilFunc], relL_cellAV _ [.nilFunc]⟩, (fun h => by cases h), (fun q hq => by cases hq)⟩
-- []*table.link
def ty163 : TyRow := ⟨.slice 320, 1, 24, [.nilS], false, false, [], false⟩
theorem ty163_met : ty163.met Tryz.prog 163 := ⟨(show Tryz.prog.underlying 163 = some (.slice 320) by kernel_rfl), ⟨(Tryz.prog.info? 163).getD default, (.slice none 0 0), by kernel_rfl, by kernel_rfl, by kernel_rfl, by kernel_rfl, rfl, relL_cellAV _ [(.slice none 0 0)], relL_cellAV _ [(.slice none 0 0)]⟩, (fun h => by cases h), (fun q hq => by cases hq)⟩
-- struct { seed int; buckets []*table.link; old []*table.link; moved int; length int }
def ty164 : TyRow := ⟨.struct [(0, 3), (1, 163), (2, 163), (3, 3), (4, 3)], 5, 72, [.lit .i64 0, .nilS, .nilS, .lit .i64 0, .lit .i64 0], false, false, [], false⟩
theorem ty164_met : ty164.met Tryz.prog 164 := ⟨⟨Tryz.prog.fieldsOf 164, by kernel_rfl, by kernel_rfl⟩, ⟨(Tryz.prog.info? 164).getD default, (.agg #[(.int .i64 0), (.slice none 0 0), (.slice none 0 0), (.int .i64 0), (.int .i64 0)]), by kernel_rfl, by kernel_rfl, by kernel_rfl, by kernel_rfl, rfl, ⟨[(.int .i64 0), (.slice none 0 0), (.slice none 0 0), (.int .i64 0), (.int .i64 0)], relL_cellAV _ [(.int .i64 0), (.slice none 0 0), (.slice none 0 0), (.int .i64 0), (.int .i64 0)], rfl⟩, relL_cellAV _ [(.int .i64 0), (.slice none 0 0), (.slice none 0 0), (.int .i64 0), (.int .i64 0)]⟩, (fun h => by cases h), (fun q hq => by cases hq)⟩
-- table.Table
def ty165 : TyRow := ⟨.struct [(0, 3), (1, 163), (2, 163), (3, 3), (4, 3)], 5, 72, [.lit .i64 0, .nilS, .nilS, .lit .i64 0, .lit .i64 0], false, false, [], false⟩
theorem ty165_met : ty165.met Tryz.prog 165 := ⟨⟨Tryz.prog.fieldsOf 165, by kernel_rfl, by kernel_rfl⟩, ⟨(Tryz.prog.info? 165).getD default, (.agg #[(.int .i64 0), (.slice none 0 0), (.slice none 0 0), (.int .i64 0), (.int .i64 0)]), by kernel_rfl, by kernel_rfl, by kernel_rfl, by kernel_rfl, rfl, ⟨[(.int .i64 0), (.slice none 0 0), (.slice none 0 0), (.int .i64 0), (.int .i64 0)], relL_cellAV _ [(.int .i64 0), (.slice none 0 0), (.slice none 0 0), (.int .i64 0), (.int .i64 0)], rfl⟩, relL_cellAV _ [(.int .i64 0), (.slice none 0 0), (.slice none 0 0), (.int .i64 0), (.int .i64 0)]⟩, (fun h => by cases h), (fun q hq => by cases hq)⟩
-- *sketch.Sketch
def ty166 : TyRow := ⟨.ptr 240, 1, 8, [.nilP], false, false, [], false⟩
theorem ty166_met : ty166.met Tryz.prog 166 := ⟨(show Tryz.prog.underlying 166 = some (.pointer 240) by kernel_rfl), ⟨(Tryz.prog.info? 166).getD default, (.pointer none), by kernel_rfl, by kernel_rfl, by kernel_rfl, by kernel_rfl, rfl, relL_cellAV _ [(.pointer none)], relL_cellAV _ [(.pointer none)]⟩, (fun h => by cases h), (fun q hq => by cases hq)⟩
-- func(int, int) *sketch.Sketch
def ty167 : TyRow := ⟨.func, 1, 8, [.nilF], false, false, [], false⟩
theorem ty167_met : ty167.met Tryz.prog 167 := ⟨⟨(funcOf Tryz.prog 167).1, (funcOf Tryz.prog 167).2.1, (funcOf Tryz.prog 167).2.2, by kernel_rfl⟩, ⟨(Tryz.prog.info? 167).getD default, .nilFunc, by kernel_rfl, by kernel_rfl, by kernel_rfl, by kernel_rfl, rfl, relL_cellAV _ [.nilFunc], relL_cellAV _ [.nilFunc]⟩, (fun h => by cases h), (fun q hq => by cases hq)⟩
-- *filter.counts
def ty168 : TyRow := ⟨.ptr 170, 1, 8, [.nilP], false, false, [], false⟩
theorem ty168_met : ty168.met Tryz.prog 168 := ⟨(show Tryz.prog.underlying 168 = some (.pointer 170) by kernel_rfl), ⟨(Tryz.prog.info? 168).getD default, (.pointer none), by kernel_rfl, by kernel_rfl, by kernel_rfl, by kernel_rfl, rfl, relL_cellAV _ [(.pointer none)], relL_cellAV _ [(.pointer none)]⟩, (fun h => by cases h), (fun q hq => by cases hq)⟩
-- struct { *sketch.Sketch }
def ty169 : TyRow := ⟨.struct [(0, 166)], 1, 8, [.nilP], false, false, [], false⟩
theorem ty169_met : ty169.met Tryz.prog 169 := ⟨⟨Tryz.prog.fieldsOf 169, by kernel_rfl, by kernel_rfl⟩, ⟨(Tryz.prog.info? 169).getD default, (.agg #[(.pointer none)]), by kernel_rfl, by kernel_rfl, by kernel_rfl, by kernel_rfl, rfl, ⟨[(.pointer none)], relL_cellAV _ [(.pointer none)], rfl⟩, relL_cellAV _ [(.pointer none)]⟩, (fun h => by cases h), (fun q hq => by cases hq)⟩
-- filter.counts
def ty170 : TyRow := ⟨.struct [(0, 166)], 1, 8, [.nilP], false, false, [], false⟩
theorem ty170_met : ty170.met Tryz.prog 170 := ⟨⟨Tryz.prog.fieldsOf 170, by kernel_rfl, by kernel_rfl⟩, ⟨(Tryz.prog.info? 170).getD default, (.agg #[(.pointer none)]), by kernel_rfl, by kernel_rfl, by kernel_rfl, by kernel_rfl, rfl, ⟨[(.pointer none)], relL_cellAV _ [(.pointer none)], rfl⟩, relL_cellAV _ [(.pointer none)]⟩, (fun h => by cases h), (fun q hq => by cases hq)⟩
-- *filter.doors
def ty171 : TyRow := ⟨.ptr 175, 1, 8, [.nilP], false, false, [], false⟩
theorem ty171_met : ty171.met Tryz.prog 171 := ⟨(show Tryz.prog.underlying 171 = some (.pointer 175) by kernel_rfl), ⟨(Tryz.prog.info? 171).getD default, (.pointer none), by kernel_rfl, by kernel_rfl, by kernel_rfl, by kernel_rfl, rfl, relL_cellAV _ [(.pointer none)], relL_cellAV _ [(.pointer none)]⟩, (fun h => by cases h), (fun q hq => by cases hq)⟩
-- *door.Door
def ty172 : TyRow := ⟨.ptr 242, 1, 8, [.nilP], false, false, [], false⟩
theorem ty172_met : ty172.met Tryz.prog 172 := ⟨(show Tryz.prog.underlying 172 = some (.pointer 242) by kernel_rfl), ⟨(Tryz.prog.info? 172).getD default, (.pointer none), by kernel_rfl, by kernel_rfl, by kernel_rfl, by kernel_rfl, rfl, relL_cellAV _ [(.pointer none)], relL_cellAV _ [(.pointer none)]⟩, (fun h => by cases h), (fun q hq => by cases hq)⟩
-- func(int, int) *door.Door
def ty173 : TyRow := ⟨.func, 1, 8, [.nilF], false, false, [], false⟩
theorem ty173_met : ty173.met Tryz.prog 173 := ⟨⟨(funcOf Tryz.prog 173).1, (funcOf Tryz.prog 173).2.1, (funcOf Tryz.prog 173).2.2, by kernel_rfl⟩, ⟨(Tryz.prog.info? 173).getD default, .nilFunc, by kernel_rfl, by kernel_rfl, by kernel_rfl, by kernel_rfl, rfl, relL_cellAV _ [.nilFunc], relL_cellAV _ [.nilFunc]⟩, (fun h => by cases h), (fun q hq => by cases hq)⟩
-- struct { *door.Door }
def ty174 : TyRow := ⟨.struct [(0, 172)], 1, 8, [.nilP], false, false, [], false⟩
theorem ty174_met : ty174.met Tryz.prog 174 := ⟨⟨Tryz.prog.fieldsOf 174, by kernel_rfl, by kernel_rfl⟩, ⟨(Tryz.prog.info? 174).getD default, (.agg #[(.pointer none)]), by kernel_rfl, by kernel_rfl, by kernel_rfl, by kernel_rfl, rfl, ⟨[(.pointer none)], relL_cellAV _ [(.pointer none)], rfl⟩, relL_cellAV _ [(.pointer none)]⟩, (fun h => by cases h), (fun q hq => by cases hq)⟩
-- filter.doors
def ty175 : TyRow := ⟨.struct [(0, 172)], 1, 8, [.nilP], false, false, [], false⟩
theorem ty175_met : ty175.met Tryz.prog 175 := ⟨⟨Tryz.prog.fieldsOf 175, by kernel_rfl, by kernel_rfl⟩, ⟨(Tryz.prog.info? 175).getD default, (.agg #[(.pointer none)]), by kernel_rfl, by kernel_rfl, by kernel_rfl, by kernel_rfl, rfl, ⟨[(.pointer none)], relL_cellAV _ [(.pointer none)], rfl⟩, relL_cellAV _ [(.pointer none)]⟩, (fun h => by cases h), (fun q hq => by cases hq)⟩
-- struct { *filter.counts; *filter.doors; ages int }
def ty176 : TyRow := ⟨.struct [(0, 168), (1, 171), (2, 3)], 3, 24, [.nilP, .nilP, .lit .i64 0], false, false, [], false⟩
theorem ty176_met : ty176.met Tryz.prog 176 := ⟨⟨Tryz.prog.fieldsOf 176, by kernel_rfl, by kernel_rfl⟩, ⟨(Tryz.prog.info? 176).getD default, (.agg #[(.pointer none), (.pointer none), (.int .i64 0)]), by kernel_rfl, by kernel_rfl, by kernel_rfl, by kernel_rfl, rfl, ⟨[(.pointer none), (.pointer none), (.int .i64 0)], relL_cellAV _ [(.pointer none), (.pointer none), (.int .i64 0)], rfl⟩, relL_cellAV _ [(.pointer none), (.pointer none), (.int .i64 0)]⟩, (fun h => by cases h), (fun q hq => by cases hq)⟩
-- filter.Filter
def ty177 : TyRow := ⟨.struct [(0, 168), (1, 171), (2, 3)], 3, 24, [.nilP, .nilP, .lit .i64 0], false, false, [], false⟩
theorem ty177_met : ty177.met Tryz.prog 177 := ⟨⟨Tryz.prog.fieldsOf 177, by kernel_rfl, by kernel_rfl⟩, ⟨(Tryz.prog.info? 177).getD default, (.agg #[(.pointer none), (.pointer none), (.int .i64 0)]), by kernel_rfl, by kernel_rfl, by kernel_rfl, by kernel_rfl, rfl, ⟨[(.pointer none), (.pointer none), (.int .i64 0)], relL_cellAV _ [(.pointer none), (.pointer none), (.int .i64 0)], rfl⟩, relL_cellAV _ [(.pointer none), (.pointer none), (.int .i64 0)]⟩, (fun h => by cases h), (fun q hq => by cases hq)⟩
-- map[int]*deque.element
def ty178 : TyRow := ⟨.map 3 183, 1, 8, [.nilM], false, false, [], false⟩
theorem ty178_met : ty178.met Tryz.prog 178 := ⟨(show Tryz.prog.underlying 178 = some (.map 3 183) by kernel_rfl), ⟨(Tryz.prog.info? 178).getD default, (.map none), by kernel_rfl, by kernel_rfl, by kernel_rfl, by kernel_rfl, rfl, relL_cellAV _ [(.map none)], relL_cellAV _ [(.map none)]⟩, (fun h => by cases h), (fun q hq => by cases hq)⟩
-- []*deque.list
def ty179 : TyRow := ⟨.slice 182, 1, 24, [.nilS], false, false, [], false⟩
theorem ty179_met : ty179.met Tryz.prog 179 := ⟨(show Tryz.prog.underlying 179 = some (.slice 182) by kernel_rfl), ⟨(Tryz.prog.info? 179).getD default, (.slice none 0 0), by kernel_rfl, by kernel_rfl, by kernel_rfl, by kernel_rfl, rfl, relL_cellAV _ [(.slice none 0 0)], relL_cellAV _ [(.slice none 0 0)]⟩, (fun h => by cases h), (fun q hq => by cases hq)⟩
-- struct { rows []*deque.list; of map[int]*deque.element }
def ty180 : TyRow := ⟨.struct [(0, 179), (1, 178)], 2, 32, [.nilS, .nilM], false, false, [], false⟩
theorem ty180_met : ty180.met Tryz.prog 180 := ⟨⟨Tryz.prog.fieldsOf 180, by kernel_rfl, by kernel_rfl⟩, ⟨(Tryz.prog.info? 180).getD default, (.agg #[(.slice none 0 0), (.map none)]), by kernel_rfl, by kernel_rfl, by kernel_rfl, by kernel_rfl, rfl, ⟨[(.slice none 0 0), (.map none)], relL_cellAV _ [(.slice none 0 0), (.map none)], rfl⟩, relL_cellAV _ [(.slice none 0 0), (.map none)]⟩, (fun h => by cases h), (fun q hq => by cases hq)⟩
-- deque.Lists
def ty181 : TyRow := ⟨.struct [(0, 179), (1, 178)], 2, 32, [.nilS, .nilM], false, false, [], false⟩
theorem ty181_met : ty181.met Tryz.prog 181 := ⟨⟨Tryz.prog.fieldsOf 181, by kernel_rfl, by kernel_rfl⟩, ⟨(Tryz.prog.info? 181).getD default, (.agg #[(.slice none 0 0), (.map none)]), by kernel_rfl, by kernel_rfl, by kernel_rfl, by kernel_rfl, rfl, ⟨[(.slice none 0 0), (.map none)], relL_cellAV _ [(.slice none 0 0), (.map none)], rfl⟩, relL_cellAV _ [(.slice none 0 0), (.map none)]⟩, (fun h => by cases h), (fun q hq => by cases hq)⟩
-- *deque.list
def ty182 : TyRow := ⟨.ptr 187, 1, 8, [.nilP], false, false, [], false⟩
theorem ty182_met : ty182.met Tryz.prog 182 := ⟨(show Tryz.prog.underlying 182 = some (.pointer 187) by kernel_rfl), ⟨(Tryz.prog.info? 182).getD default, (.pointer none), by kernel_rfl, by kernel_rfl, by kernel_rfl, by kernel_rfl, rfl, relL_cellAV _ [(.pointer none)], relL_cellAV _ [(.pointer none)]⟩, (fun h => by cases h), (fun q hq => by cases hq)⟩
-- *deque.element
def ty183 : TyRow := ⟨.ptr 185, 1, 8, [.nilP], false, false, [], false⟩
theorem ty183_met : ty183.met Tryz.prog 183 := ⟨(show Tryz.prog.underlying 183 = some (.pointer 185) by kernel_rfl), ⟨(Tryz.prog.info? 183).getD default, (.pointer none), by kernel_rfl, by kernel_rfl, by kernel_rfl, by kernel_rfl, rfl, relL_cellAV _ [(.pointer none)], relL_cellAV _ [(.pointer none)]⟩, (fun h => by cases h), (fun q hq => by cases hq)⟩
-- struct { id int; weight int; list *deque.list; prev *deque.element; next *deque.element }
def ty184 : TyRow := ⟨.struct [(0, 3), (1, 3), (2, 182), (3, 183), (4, 183)], 5, 40, [.lit .i64 0, .lit .i64 0, .nilP, .nilP, .nilP], false, false, [], false⟩
theorem ty184_met : ty184.met Tryz.prog 184 := ⟨⟨Tryz.prog.fieldsOf 184, by kernel_rfl, by kernel_rfl⟩, ⟨(Tryz.prog.info? 184).getD default, (.agg #[(.int .i64 0), (.int .i64 0), (.pointer none), (.pointer none), (.pointer none)]), by kernel_rfl, by kernel_rfl, by kernel_rfl, by kernel_rfl, rfl, ⟨[(.int .i64 0), (.int .i64 0), (.pointer none), (.pointer none), (.pointer none)], relL_cellAV _ [(.int .i64 0), (.int .i64 0), (.pointer none), (.pointer none), (.pointer none)], rfl⟩, relL_cellAV _ [(.int .i64 0), (.int .i64 0), (.pointer none), (.pointer none), (.pointer none)]⟩, (fun h => by cases h), (fun q hq => by cases hq)⟩
-- deque.element
def ty185 : TyRow := ⟨.struct [(0, 3), (1, 3), (2, 182), (3, 183), (4, 183)], 5, 40, [.lit .i64 0, .lit .i64 0, .nilP, .nilP, .nilP], false, false, [], false⟩
theorem ty185_met : ty185.met Tryz.prog 185 := ⟨⟨Tryz.prog.fieldsOf 185, by kernel_rfl, by kernel_rfl⟩, ⟨(Tryz.prog.info? 185).getD default, (.agg #[(.int .i64 0), (.int .i64 0), (.pointer none), (.pointer none), (.pointer none)]), by kernel_rfl, by kernel_rfl, by kernel_rfl, by kernel_rfl, rfl, ⟨[(.int .i64 0), (.int .i64 0), (.pointer none), (.pointer none), (.pointer none)], relL_cellAV _ [(.int .i64 0), (.int .i64 0), (.pointer none), (.pointer none), (.pointer none)], rfl⟩, relL_cellAV _ [(.int .i64 0), (.int .i64 0), (.pointer none), (.pointer none), (.pointer none)]⟩, (fun h => by cases h), (fun q hq => by cases hq)⟩
-- struct { ends deque.element; number int; weight int; length int }
def ty186 : TyRow := ⟨.struct [(0, 185), (5, 3), (6, 3), (7, 3)], 8, 64, [.lit .i64 0, .lit .i64 0, .nilP, .nilP, .nilP, .lit .i64 0, .lit .i64 0, .lit .i64 0], false, false, [], false⟩
theorem ty186_met : ty186.met Tryz.prog 186 := ⟨⟨Tryz.prog.fieldsOf 186, by kernel_rfl, by kernel_rfl⟩, ⟨(Tryz.prog.info? 186).getD default, (.agg #[(.int .i64 0), (.int .i64 0), (.pointer none), (.pointer none), (.pointer none), (.int .i64 0), (.int .i64 0), (.int .i64 0)]), by kernel_rfl, by kernel_rfl, by kernel_rfl, by kernel_rfl, rfl, ⟨[(.int .i64 0), (.int .i64 0), (.pointer none), (.pointer none), (.pointer none), (.int .i64 0), (.int .i64 0), (.int .i64 0)], relL_cellAV _ [(.int .i64 0), (.int .i64 0), (.pointer none), (.pointer none), (.pointer none), (.int .i64 0), (.int .i64 0), (.int .i64 0)], rfl⟩, relL_cellAV _ [(.int .i64 0), (.int .i64 0), (.pointer none), (.pointer none), (.pointer none), (.int .i64 0), (.int .i64 0), (.int .i64 0)]⟩, (fun h => by cases h), (fun q hq => by cases hq)⟩
-- deque.list
def ty187 : TyRow := ⟨.struct [(0, 185), (5, 3), (6, 3), (7, 3)], 8, 64, [.lit .i64 0, .lit .i64 0, .nilP, .nilP, .nilP, .lit .i64 0, .lit .i64 0, .lit .i64 0], false, false, [], false⟩
theorem ty187_met : ty187.met Tryz.prog 187 := ⟨⟨Tryz.prog.fieldsOf 187, by kernel_rfl, by kernel_rfl⟩, ⟨(Tryz.prog.info? 187).getD default, (.agg #[(.int .i64 0), (.int .i64 0), (.pointer none), (.pointer none), (.pointer none), (.int .i64 0), (.int .i64 0), (.int .i64 0)]), by kernel_rfl, by kernel_rfl, by kernel_rfl, by kernel_rfl, rfl, ⟨[(.int .i64 0), (.int .i64 0), (.pointer none), (.pointer none), (.pointer none), (.int .i64 0), (.int .i64 0), (.int .i64 0)], relL_cellAV _ [(.int .i64 0), (.int .i64 0), (.pointer none), (.pointer none), (.pointer none), (.int .i64 0), (.int .i64 0), (.int .i64 0)], rfl⟩, relL_cellAV _ [(.int .i64 0), (.int .i64 0), (.pointer none), (.pointer none), (.pointer none), (.int .i64 0), (.int .i64 0), (.int .i64 0)]⟩, (fun h => by cases h), (fun q hq => by cases hq)⟩
-- func(int) (int, int)
def ty189 : TyRow := ⟨.func, 1, 8, [.nilF], false, false, [], false⟩
theorem ty189_met : ty189.met Tryz.prog 189 := ⟨⟨(funcOf Tryz.prog 189).1, (funcOf Tryz.prog 189).2.1, (funcOf Tryz.prog 189).2.2, by kernel_rfl⟩, ⟨(Tryz.prog.info? 189).getD default, .nilFunc, by kernel_rfl, by kernel_rfl, by kernel_rfl, by kernel_rfl, rfl, relL_cellAV _ [.nilFunc], relL_cellAV _ [.nilFunc]⟩, (fun h => by cases h), (fun q hq => by cases hq)⟩
-- func(int, int) api.Quota
def ty190 : TyRow := ⟨.func, 1, 8, [.nilF], false, false, [], false⟩
theorem ty190_met : ty190.met Tryz.prog 190 := ⟨⟨(funcOf Tryz.prog 190).1, (funcOf Tryz.prog 190).2.1, (funcOf Tryz.prog 190).2.2, by kernel_rfl⟩, ⟨(Tryz.prog.info? 190).getD default, .nilFunc, by kernel_rfl, by kernel_rfl, by kernel_rfl, by kernel_rfl, rfl, relL_cellAV _ [.nilFunc], relL_cellAV _ [.nilFunc]⟩, (fun h => by cases h), (fun q hq => by cases hq)⟩
-- struct { cells []int; at int; length int; lost int }
def ty191 : TyRow := ⟨.struct [(0, 22), (1, 3), (2, 3), (3, 3)], 4, 48, [.nilS, .lit .i64 0, .lit .i64 0, .lit .i64 0], false, false, [], false⟩
theorem ty191_met : ty191.met Tryz.prog 191 := ⟨⟨Tryz.prog.fieldsOf 191, by kernel_rfl, by kernel_rfl⟩, ⟨(Tryz.prog.info? 191).getD default, (.agg #[(.slice none 0 0), (.int .i64 0), (.int .i64 0), (.int .i64 0)]), by kernel_rfl, by kernel_rfl, by kernel_rfl, by kernel_rfl, rfl, ⟨[(.slice none 0 0), (.int .i64 0), (.int .i64 0), (.int .i64 0)], relL_cellAV _ [(.slice none 0 0), (.int .i64 0), (.int .i64 0), (.int .i64 0)], rfl⟩, relL_cellAV _ [(.slice none 0 0), (.int .i64 0), (.int .i64 0), (.int .i64 0)]⟩, (fun h => by cases h), (fun q hq => by cases hq)⟩
-- ring.Ring
def ty192 : TyRow := ⟨.struct [(0, 22), (1, 3), (2, 3), (3, 3)], 4, 48, [.nilS, .lit .i64 0, .lit .i64 0, .lit .i64 0], false, false, [], false⟩
theorem ty192_met : ty192.met Tryz.prog 192 := ⟨⟨Tryz.prog.fieldsOf 192, by kernel_rfl, by kernel_rfl⟩, ⟨(Tryz.prog.info? 192).getD default, (.agg #[(.slice none 0 0), (.int .i64 0), (.int .i64 0), (.int .i64 0)]), by kernel_rfl, by kernel_rfl, by kernel_rfl, by kernel_rfl, rfl, ⟨[(.slice none 0 0), (.int .i64 0), (.int .i64 0), (.int .i64 0)], relL_cellAV _ [(.slice none 0 0), (.int .i64 0), (.int .i64 0), (.int .i64 0)], rfl⟩, relL_cellAV _ [(.slice none 0 0), (.int .i64 0), (.int .i64 0), (.int .i64 0)]⟩, (fun h => by cases h), (fun q hq => by cases hq)⟩
-- func(error, error) bool
def ty193 : TyRow := ⟨.func, 1, 8, [.nilF], false, false, [], false⟩
theorem ty193_met : ty193.met Tryz.prog 193 := ⟨⟨(funcOf Tryz.prog 193).1, (funcOf Tryz.prog 193).2.1, (funcOf Tryz.prog 193).2.2, by kernel_rfl⟩, ⟨(Tryz.prog.info? 193).getD default, .nilFunc, by kernel_rfl, by kernel_rfl, by kernel_rfl, by kernel_rfl, rfl, relL_cellAV _ [.nilFunc], relL_cellAV _ [.nilFunc]⟩, (fun h => by cases h), (fun q hq => by cases hq)⟩
-- interface { Error() string }
def ty194 : TyRow := ⟨.iface, 1, 16, [.nilI], false, false, [], false⟩
theorem ty194_met : ty194.met Tryz.prog 194 := ⟨⟨ifaceOf Tryz.prog 194, by kernel_rfl⟩, ⟨(Tryz.prog.info? 194).getD default, .nilIface, by kernel_rfl, by kernel_rfl, by kernel_rfl, by kernel_rfl, rfl, relL_cellAV _ [.nilIface], relL_cellAV _ [.nilIface]⟩, (fun h => by cases h), (fun q hq => by cases hq)⟩
-- error
def ty195 : TyRow := ⟨.iface, 1, 16, [.nilI], false, false, [], false⟩
theorem ty195_met : ty195.met Tryz.prog 195 := ⟨⟨ifaceOf Tryz.prog 195, by kernel_rfl⟩, ⟨(Tryz.prog.info? 195).getD default, .nilIface, by kernel_rfl, by kernel_rfl, by kernel_rfl, by kernel_rfl, rfl, relL_cellAV _ [.nilIface], relL_cellAV _ [.nilIface]⟩, (fun h => by cases h), (fun q hq => by cases hq)⟩
-- func() error
def ty196 : TyRow := ⟨.func, 1, 8, [.nilF], false, false, [], false⟩
theorem ty196_met : ty196.met Tryz.prog 196 := ⟨⟨(funcOf Tryz.prog 196).1, (funcOf Tryz.prog 196).2.1, (funcOf Tryz.prog 196).2.2, by kernel_rfl⟩, ⟨(Tryz.prog.info? 196).getD default, .nilFunc, by kernel_rfl, by kernel_rfl, by kernel_rfl, by kernel_rfl, rfl, relL_cellAV _ [.nilFunc], relL_cellAV _ [.nilFunc]⟩, (fun h => by cases h), (fun q hq => by cases hq)⟩
-- func(api.Status)
def ty197 : TyRow := ⟨.func, 1, 8, [.nilF], false, false, [], false⟩
theorem ty197_met : ty197.met Tryz.prog 197 := ⟨⟨(funcOf Tryz.prog 197).1, (funcOf Tryz.prog 197).2.1, (funcOf Tryz.prog 197).2.2, by kernel_rfl⟩, ⟨(Tryz.prog.info? 197).getD default, .nilFunc, by kernel_rfl, by kernel_rfl, by kernel_rfl, by kernel_rfl, rfl, relL_cellAV _ [.nilFunc], relL_cellAV _ [.nilFunc]⟩, (fun h => by cases h), (fun q hq => by cases hq)⟩
-- *pantryref03.Sketch
def ty198 : TyRow := ⟨.ptr 204, 1, 8, [.nilP], false, false, [], false⟩
theorem ty198_met : ty198.met Tryz.prog 198 := ⟨(show Tryz.prog.underlying 198 = some (.pointer 204) by kernel_rfl), ⟨(Tryz.prog.info? 198).getD default, (.pointer none), by kernel_rfl, by kernel_rfl, by kernel_rfl, by kernel_rfl, rfl, relL_cellAV _ [(.pointer none)], relL_cellAV _ [(.pointer none)]⟩, (fun h => by cases h), (fun q hq => by cases hq)⟩
-- func(int, int) *pantryref03.Sketch
def ty199 : TyRow := ⟨.func, 1, 8, [.nilF], false, false, [], false⟩
theorem ty199_met : ty199.met Tryz.prog 199 := ⟨⟨(funcOf Tryz.prog 199).1, (funcOf Tryz.prog 199).2.1, (funcOf Tryz.prog 199).2.2, by kernel_rfl⟩, ⟨(Tryz.prog.info? 199).getD default, .nilFunc, by kernel_rfl, by kernel_rfl, by kernel_rfl, by kernel_rfl, rfl, relL_cellAV _ [.nilFunc], relL_cellAV _ [.nilFunc]⟩, (fun h => by cases h), (fun q hq => by cases hq)⟩
-- *pantryref04.Door
def ty200 : TyRow := ⟨.ptr 255, 1, 8, [.nilP], false, false, [], false⟩
theorem ty200_met : ty200.met Tryz.prog 200 := ⟨(show Tryz.prog.underlying 200 = some (.pointer 255) by kernel_rfl), ⟨(Tryz.prog.info? 200).getD default, (.pointer none), by kernel_rfl, by kernel_rfl, by kernel_rfl, by kernel_rfl, rfl, relL_cellAV _ [(.pointer none)], relL_cellAV _ [(.pointer none)]⟩, (fun h => by cases h), (fun q hq => by cases hq)⟩
-- func(int, int) *pantryref04.Door
def ty201 : TyRow := ⟨.func, 1, 8, [.nilF], false, false, [], false⟩
theorem ty201_met : ty201.met Tryz.prog 201 := ⟨⟨(funcOf Tryz.prog 201).1, (funcOf Tryz.prog 201).2.1, (funcOf Tryz.prog 201).2.2, by kernel_rfl⟩, ⟨(Tryz.prog.info? 201).getD default, .nilFunc, by kernel_rfl, by kernel_rfl, by kernel_rfl, by kernel_rfl, rfl, relL_cellAV _ [.nilFunc], relL_cellAV _ [.nilFunc]⟩, (fun h => by cases h), (fun q hq => by cases hq)⟩
-- [4][]int
def ty202 : TyRow := ⟨.array 4 22, 4, 96, [.nilS, .nilS, .nilS, .nilS], false, false, [], false⟩
theorem ty202_met : ty202.met Tryz.prog 202 := ⟨(show Tryz.prog.underlying 202 = some (.array 4 22) by kernel_rfl), ⟨(Tryz.prog.info? 202).getD default, (.agg #[(.slice none 0 0), (.slice none 0 0), (.slice none 0 0), (.slice none 0 0)]), by kernel_rfl, by kernel_rfl, by kernel_rfl, by kernel_rfl, rfl, ⟨[(.slice none 0 0), (.slice none 0 0), (.slice none 0 0), (.slice none 0 0)], relL_cellAV _ [(.slice none 0 0), (.slice none 0 0), (.slice none 0 0), (.slice none 0 0)], rfl⟩, relL_cellAV _ [(.slice none 0 0), (.slice none 0 0), (.slice none 0 0), (.slice none 0 0)]⟩, (fun h => by cases h), (fun q hq => by cases hq)⟩
-- struct { W int; Seed int; N int; R [4][]int }
def ty203 : TyRow := ⟨.struct [(0, 3), (1, 3), (2, 3), (3, 202)], 7, 120, [.lit .i64 0, .lit .i64 0, .lit .i64 0, .nilS, .nilS, .nilS, .nilS], false, false, [], false⟩
theorem ty203_met : ty203.met Tryz.prog 203 := ⟨⟨Tryz.prog.fieldsOf 203, by kernel_rfl, by kernel_rfl⟩, ⟨(Tryz.prog.info? 203).getD default, (.agg #[(.int .i64 0), (.int .i64 0), (.int .i64 0), (.slice none 0 0), (.slice none 0 0), (.slice none 0 0), (.slice none 0 0)]), by kernel_rfl, by kernel_rfl, by kernel_rfl, by kernel_rfl, rfl, ⟨[(.int .i64 0), (.int .i64 0), (.int .i64 0), (.slice none 0 0), (.slice none 0 0), (.slice none 0 0), (.slice none 0 0)], relL_cellAV _ [(.int .i64 0), (.int .i64 0), (.int .i64 0), (.slice none 0 0), (.slice none 0 0), (.slice none 0 0), (.slice none 0 0)], rfl⟩, relL_cellAV _ [(.int .i64 0), (.int .i64 0), (.int .i64 0), (.slice none 0 0), (.slice none 0 0), (.slice none 0 0), (.slice none 0 0)]⟩, (fun h => by cases h), (fun q hq => by cases hq)⟩
-- pantryref03.Sketch
def ty204 : TyRow := ⟨.struct [(0, 3), (1, 3), (2, 3), (3, 202)], 7, 120, [.lit .i64 0, .lit .i64 0, .lit .i64 0, .nilS, .nilS, .nilS, .nilS], false, false, [], false⟩
theorem ty204_met : ty204.met Tryz.prog 204 := ⟨⟨Tryz.prog.fieldsOf 204, by kernel_rfl, by kernel_rfl⟩, ⟨(Tryz.prog.info? 204).getD default, (.agg #[(.int .i64 0), (.int .i64 0), (.int .i64 0), (.slice none 0 0), (.slice none 0 0), (.slice none 0 0), (.slice none 0 0)]), by kernel_rfl, by kernel_rfl, by kernel_rfl, by kernel_rfl, rfl, ⟨[(.int .i64 0), (.int .i64 0), (.int .i64 0), (.slice none 0 0), (.slice none 0 0), (.slice none 0 0), (.slice none 0 0)], relL_cellAV _ [(.int .i64 0), (.int .i64 0), (.int .i64 0), (.slice none 0 0), (.slice none 0 0), (.slice none 0 0), (.slice none 0 0)], rfl⟩, relL_cellAV _ [(.int .i64 0), (.int .i64 0), (.int .i64 0), (.slice none 0 0), (.slice none 0 0), (.slice none 0 0), (.slice none 0 0)]⟩, (fun h => by cases h), (fun q hq => by cases hq)⟩
-- struct { S *pantryref03.Sketch; D *pantryref04.Door; N int }
def ty205 : TyRow := ⟨.struct [(0, 198), (1, 200), (2, 3)], 3, 24, [.nilP, .nilP, .lit .i64 0], false, false, [], false⟩
theorem ty205_met : ty205.met Tryz.prog 205 := ⟨⟨Tryz.prog.fieldsOf 205, by kernel_rfl, by kernel_rfl⟩, ⟨(Tryz.prog.info? 205).getD default, (.agg #[(.pointer none), (.pointer none), (.int .i64 0)]), by kernel_rfl, by kernel_rfl, by kernel_rfl, by kernel_rfl, rfl, ⟨[(.pointer none), (.pointer none), (.int .i64 0)], relL_cellAV _ [(.pointer none), (.pointer none), (.int .i64 0)], rfl⟩, relL_cellAV _ [(.pointer none), (.pointer none), (.int .i64 0)]⟩, (fun h => by cases h), (fun q hq => by cases hq)⟩
-- pantryref05.Filter
def ty206 : TyRow := ⟨.struct [(0, 198), (1, 200), (2, 3)], 3, 24, [.nilP, .nilP, .lit .i64 0], false, false, [], false⟩
theorem ty206_met : ty206.met Tryz.prog 206 := ⟨⟨Tryz.prog.fieldsOf 206, by kernel_rfl, by kernel_rfl⟩, ⟨(Tryz.prog.info? 206).getD default, (.agg #[(.pointer none), (.pointer none), (.int .i64 0)]), by kernel_rfl, by kernel_rfl, by kernel_rfl, by kernel_rfl, rfl, ⟨[(.pointer none), (.pointer none), (.int .i64 0)], relL_cellAV _ [(.pointer none), (.pointer none), (.int .i64 0)], rfl⟩, relL_cellAV _ [(.pointer none), (.pointer none), (.int .i64 0)]⟩, (fun h => by cases h), (fun q hq => by cases hq)⟩
-- [][]pantryref07.item
def ty207 : TyRow := ⟨.slice 306, 1, 24, [.nilS], false, false, [], false⟩
theorem ty207_met : ty207.met Tryz.prog 207 := ⟨(show Tryz.prog.underlying 207 = some (.slice 306) by kernel_rfl), ⟨(Tryz.prog.info? 207).getD default, (.slice none 0 0), by kernel_rfl, by kernel_rfl, by kernel_rfl, by kernel_rfl, rfl, relL_cellAV _ [(.slice none 0 0)], relL_cellAV _ [(.slice none 0 0)]⟩, (fun h => by cases h), (fun q hq => by cases hq)⟩
-- struct { L [][]pantryref07.item }
def ty208 : TyRow := ⟨.struct [(0, 207)], 1, 24, [.nilS], false, false, [], false⟩
theorem ty208_met : ty208.met Tryz.prog 208 := ⟨⟨Tryz.prog.fieldsOf 208, by kernel_rfl, by kernel_rfl⟩, ⟨(Tryz.prog.info? 208).getD default, (.agg #[(.slice none 0 0)]), by kernel_rfl, by kernel_rfl, by kernel_rfl, by kernel_rfl, rfl, ⟨[(.slice none 0 0)], relL_cellAV _ [(.slice none 0 0)], rfl⟩, relL_cellAV _ [(.slice none 0 0)]⟩, (fun h => by cases h), (fun q hq => by cases hq)⟩
-- pantryref07.Lists
def ty209 : TyRow := ⟨.struct [(0, 207)], 1, 24, [.nilS], false, false, [], false⟩
theorem ty209_met : ty209.met Tryz.prog 209 := ⟨⟨Tryz.prog.fieldsOf 209, by kernel_rfl, by kernel_rfl⟩, ⟨(Tryz.prog.info? 209).getD default, (.agg #[(.slice none 0 0)]), by kernel_rfl, by kernel_rfl, by kernel_rfl, by kernel_rfl, rfl, ⟨[(.slice none 0 0)], relL_cellAV _ [(.slice none 0 0)], rfl⟩, relL_cellAV _ [(.slice none 0 0)]⟩, (fun h => by cases h), (fun q hq => by cases hq)⟩
-- struct { N int; L []int; Gone int }
def ty210 : TyRow := ⟨.struct [(0, 3), (1, 22), (2, 3)], 3, 40, [.lit .i64 0, .nilS, .lit .i64 0], false, false, [], false⟩
theorem ty210_met : ty210.met Tryz.prog 210 := ⟨⟨Tryz.prog.fieldsOf 210, by kernel_rfl, by kernel_rfl⟩, ⟨(Tryz.prog.info? 210).getD default, (.agg #[(.int .i64 0), (.slice none 0 0), (.int .i64 0)]), by kernel_rfl, by kernel_rfl, by kernel_rfl, by kernel_rfl, rfl, ⟨[(.int .i64 0), (.slice none 0 0), (.int .i64 0)], relL_cellAV _ [(.int .i64 0), (.slice none 0 0), (.int .i64 0)], rfl⟩, relL_cellAV _ [(.int .i64 0), (.slice none 0 0), (.int .i64 0)]⟩, (fun h => by cases h), (fun q hq => by cases hq)⟩
-- pantryref12.Ring
def ty211 : TyRow := ⟨.struct [(0, 3), (1, 22), (2, 3)], 3, 40, [.lit .i64 0, .nilS, .lit .i64 0], false, false, [], false⟩
theorem ty211_met : ty211.met Tryz.prog 211 := ⟨⟨Tryz.prog.fieldsOf 211, by kernel_rfl, by kernel_rfl⟩, ⟨(Tryz.prog.info? 211).getD default, (.agg #[(.int .i64 0), (.slice none 0 0), (.int .i64 0)]), by kernel_rfl, by kernel_rfl, by kernel_rfl, by kernel_rfl, rfl, ⟨[(.int .i64 0), (.slice none 0 0), (.int .i64 0)], relL_cellAV _ [(.int .i64 0), (.slice none 0 0), (.int .i64 0)], rfl⟩, relL_cellAV _ [(.int .i64 0), (.slice none 0 0), (.int .i64 0)]⟩, (fun h => by cases h), (fun q hq => by cases hq)⟩
-- func(int, int, int, int, int)
def ty212 : TyRow := ⟨.func, 1, 8, [.nilF], false, false, [], false⟩
theorem ty212_met : ty212.met Tryz.prog 212 := ⟨⟨(funcOf Tryz.prog 212).1, (funcOf Tryz.prog 212).2.1, (funcOf Tryz.prog 212).2.2, by kernel_rfl⟩, ⟨(Tryz.prog.info? 212).getD default, .nilFunc, by kernel_rfl, by kernel_rfl, by kernel_rfl, by kernel_rfl, rfl, relL_cellAV _ [.nilFunc], relL_cellAV _ [.nilFunc]⟩, (fun h => by cases h), (fun q hq => by cases hq)⟩
-- func(uint64, int, int) int
def ty213 : TyRow := ⟨.func, 1, 8, [.nilF], false, false, [], false⟩
theorem ty213_met : ty213.met Tryz.prog 213 := ⟨⟨(funcOf Tryz.prog 213).1, (funcOf Tryz.prog 213).2.1, (funcOf Tryz.prog 213).2.2, by kernel_rfl⟩, ⟨(Tryz.prog.info? 213).getD default, .nilFunc, by kernel_rfl, by kernel_rfl, by kernel_rfl, by kernel_rfl, rfl, relL_cellAV _ [.nilFunc], relL_cellAV _ [.nilFunc]⟩, (fun h => by cases h), (fun q hq => by cases hq)⟩
-- uint64
def ty214 : TyRow := ⟨.int .u64, 1, 8, [.lit .u64 0], false, false, [], false⟩
theorem ty214_met : ty214.met Tryz.prog 214 := ⟨(show Tryz.prog.underlying 214 = some (.int .u64) by kernel_rfl), ⟨(Tryz.prog.info? 214).getD default, (.int .u64 0), by kernel_rfl, by kernel_rfl, by kernel_rfl, by kernel_rfl, rfl, relL_cellAV _ [(.int .u64 0)], relL_cellAV _ [(.int .u64 0)]⟩, (fun h => by cases h), (fun q hq => by cases hq)⟩
-- func(int, int) uint64
def ty215 : TyRow := ⟨.func, 1, 8, [.nilF], false, false, [], false⟩
theorem ty215_met : ty215.met Tryz.prog 215 := ⟨⟨(funcOf Tryz.prog 215).1, (funcOf Tryz.prog 215).2.1, (funcOf Tryz.prog 215).2.2, by kernel_rfl⟩, ⟨(Tryz.prog.info? 215).getD default, .nilFunc, by kernel_rfl, by kernel_rfl, by kernel_rfl, by kernel_rfl, rfl, relL_cellAV _ [.nilFunc], relL_cellAV _ [.nilFunc]⟩, (fun h => by cases h), (fun q hq => by cases hq)⟩
-- struct { Key int; Value int; Weight int; Node int }
def ty216 : TyRow := ⟨.struct [(0, 3), (1, 3), (2, 3), (3, 3)], 4, 32, [.lit .i64 0, .lit .i64 0, .lit .i64 0, .lit .i64 0], true, false, [], false⟩
theorem ty216_met : ty216.met Tryz.prog 216 := ⟨⟨Tryz.prog.fieldsOf 216, by kernel_rfl, by kernel_rfl⟩, ⟨(Tryz.prog.info? 216).getD default, (.agg #[(.int .i64 0), (.int .i64 0), (.int .i64 0), (.int .i64 0)]), by kernel_rfl, by kernel_rfl, by kernel_rfl, by kernel_rfl, rfl, ⟨[(.int .i64 0), (.int .i64 0), (.int .i64 0), (.int .i64 0)], relL_cellAV _ [(.int .i64 0), (.int .i64 0), (.int .i64 0), (.int .i64 0)], rfl⟩, relL_cellAV _ [(.int .i64 0), (.int .i64 0), (.int .i64 0), (.int .i64 0)]⟩, fun _ => ⟨by kernel_rfl, by kernel_rfl, names_ok (by kernel_rfl) (by kernel_rfl)⟩, (fun q hq => by cases hq)⟩
-- api.Entry
def ty217 : TyRow := ⟨.struct [(0, 3), (1, 3), (2, 3), (3, 3)], 4, 32, [.lit .i64 0, .lit .i64 0, .lit .i64 0, .lit .i64 0], true, false, [], false⟩
theorem ty217_met : ty217.met Tryz.prog 217 := ⟨⟨Tryz.prog.fieldsOf 217, by kernel_rfl, by kernel_rfl⟩, ⟨(Tryz.prog.info? 217).getD default, (.agg #[(.int .i64 0), (.int .i64 0), (.int .i64 0), (.int .i64 0)]), by kernel_rfl, by kernel_rfl, by kernel_rfl, by kernel_rfl, rfl, ⟨[(.int .i64 0), (.int .i64 0), (.int .i64 0), (.int .i64 0)], relL_cellAV _ [(.int .i64 0), (.int .i64 0), (.int .i64 0), (.int .i64 0)], rfl⟩, relL_cellAV _ [(.int .i64 0), (.int .i64 0), (.int .i64 0), (.int .i64 0)]⟩, fun _ => ⟨by kernel_rfl, by kernel_rfl, names_ok (by kernel_rfl) (by kernel_rfl)⟩, (fun q hq => by cases hq)⟩
-- func(int) (api.Entry, bool)
def ty219 : TyRow := ⟨.func, 1, 8, [.nilF], false, false, [], false⟩
theorem ty219_met : ty219.met Tryz.prog 219 := ⟨⟨(funcOf Tryz.prog 219).1, (funcOf Tryz.prog 219).2.1, (funcOf Tryz.prog 219).2.2, by kernel_rfl⟩, ⟨(Tryz.prog.info? 219).getD default, .nilFunc, by kernel_rfl, by kernel_rfl, by kernel_rfl, by kernel_rfl, rfl, relL_cellAV _ [.nilFunc], relL_cellAV _ [.nilFunc]⟩, (fun h => by cases h), (fun q hq => by cases hq)⟩
-- func(int, int, int) (api.Entry, bool)
def ty220 : TyRow := ⟨.func, 1, 8, [.nilF], false, false, [], false⟩
theorem ty220_met : ty220.met Tryz.prog 220 := ⟨⟨(funcOf Tryz.prog 220).1, (funcOf Tryz.prog 220).2.1, (funcOf Tryz.prog 220).2.2, by kernel_rfl⟩, ⟨(Tryz.prog.info? 220).getD default, .nilFunc, by kernel_rfl, by kernel_rfl, by kernel_rfl, by kernel_rfl, rfl, relL_cellAV _ [.nilFunc], relL_cellAV _ [.nilFunc]⟩, (fun h => by cases h), (fun q hq => by cases hq)⟩
-- [2]int
def ty221 : TyRow := ⟨.array 2 3, 2, 16, [.lit .i64 0, .lit .i64 0], true, false, [], false⟩
theorem ty221_met : ty221.met Tryz.prog 221 := ⟨(show Tryz.prog.underlying 221 = some (.array 2 3) by kernel_rfl), ⟨(Tryz.prog.info? 221).getD default, (.agg #[(.int .i64 0), (.int .i64 0)]), by kernel_rfl, by kernel_rfl, by kernel_rfl, by kernel_rfl, rfl, ⟨[(.int .i64 0), (.int .i64 0)], relL_cellAV _ [(.int .i64 0), (.int .i64 0)], rfl⟩, relL_cellAV _ [(.int .i64 0), (.int .i64 0)]⟩, (fun _ => ⟨by kernel_rfl, by kernel_rfl, fun fields hf => by rw [(show Tryz.prog.underlying 221 = some (.array 2 3) by kernel_rfl)] at hf; cases hf⟩), (fun q hq => by cases hq)⟩
-- func(api.Event) api.Errno
def ty222 : TyRow := ⟨.func, 1, 8, [.nilF], false, false, [], false⟩
theorem ty222_met : ty222.met Tryz.prog 222 := ⟨⟨(funcOf Tryz.prog 222).1, (funcOf Tryz.prog 222).2.1, (funcOf Tryz.prog 222).2.2, by kernel_rfl⟩, ⟨(Tryz.prog.info? 222).getD default, .nilFunc, by kernel_rfl, by kernel_rfl, by kernel_rfl, by kernel_rfl, rfl, relL_cellAV _ [.nilFunc], relL_cellAV _ [.nilFunc]⟩, (fun h => by cases h), (fun q hq => by cases hq)⟩
-- struct { Do int; Node int; Key int; Weight int }
def ty223 : TyRow := ⟨.struct [(0, 3), (1, 3), (2, 3), (3, 3)], 4, 32, [.lit .i64 0, .lit .i64 0, .lit .i64 0, .lit .i64 0], true, false, [], false⟩
theorem ty223_met : ty223.met Tryz.prog 223 := ⟨⟨Tryz.prog.fieldsOf 223, by kernel_rfl, by kernel_rfl⟩, ⟨(Tryz.prog.info? 223).getD default, (.agg #[(.int .i64 0), (.int .i64 0), (.int .i64 0), (.int .i64 0)]), by kernel_rfl, by kernel_rfl, by kernel_rfl, by kernel_rfl, rfl, ⟨[(.int .i64 0), (.int .i64 0), (.int .i64 0), (.int .i64 0)], relL_cellAV _ [(.int .i64 0), (.int .i64 0), (.int .i64 0), (.int .i64 0)], rfl⟩, relL_cellAV _ [(.int .i64 0), (.int .i64 0), (.int .i64 0), (.int .i64 0)]⟩, fun _ => ⟨by kernel_rfl, by kernel_rfl, names_ok (by kernel_rfl) (by kernel_rfl)⟩, (fun q hq => by cases hq)⟩
-- api.Event
def ty224 : TyRow := ⟨.struct [(0, 3), (1, 3), (2, 3), (3, 3)], 4, 32, [.lit .i64 0, .lit .i64 0, .lit .i64 0, .lit .i64 0], true, false, [], false⟩
theorem ty224_met : ty224.met Tryz.prog 224 := ⟨⟨Tryz.prog.fieldsOf 224, by kernel_rfl, by kernel_rfl⟩, ⟨(Tryz.prog.info? 224).getD default, (.agg #[(.int .i64 0), (.int .i64 0), (.int .i64 0), (.int .i64 0)]), by kernel_rfl, by kernel_rfl, by kernel_rfl, by kernel_rfl, rfl, ⟨[(.int .i64 0), (.int .i64 0), (.int .i64 0), (.int .i64 0)], relL_cellAV _ [(.int .i64 0), (.int .i64 0), (.int .i64 0), (.int .i64 0)], rfl⟩, relL_cellAV _ [(.int .i64 0), (.int .i64 0), (.int .i64 0), (.int .i64 0)]⟩, fun _ => ⟨by kernel_rfl, by kernel_rfl, names_ok (by kernel_rfl) (by kernel_rfl)⟩, (fun q hq => by cases hq)⟩
-- func() api.Errno
def ty225 : TyRow := ⟨.func, 1, 8, [.nilF], false, false, [], false⟩
theorem ty225_met : ty225.met Tryz.prog 225 := ⟨⟨(funcOf Tryz.prog 225).1, (funcOf Tryz.prog 225).2.1, (funcOf Tryz.prog 225).2.2, by kernel_rfl⟩, ⟨(Tryz.prog.info? 225).getD default, .nilFunc, by kernel_rfl, by kernel_rfl, by kernel_rfl, by kernel_rfl, rfl, relL_cellAV _ [.nilFunc], relL_cellAV _ [.nilFunc]⟩, (fun h => by cases h), (fun q hq => by cases hq)⟩
-- func(int, int) (int, api.Errno)
def ty227 : TyRow := ⟨.func, 1, 8, [.nilF], false, false, [], false⟩
theorem ty227_met : ty227.met Tryz.prog 227 := ⟨⟨(funcOf Tryz.prog 227).1, (funcOf Tryz.prog 227).2.1, (funcOf Tryz.prog 227).2.2, by kernel_rfl⟩, ⟨(Tryz.prog.info? 227).getD default, .nilFunc, by kernel_rfl, by kernel_rfl, by kernel_rfl, by kernel_rfl, rfl, relL_cellAV _ [.nilFunc], relL_cellAV _ [.nilFunc]⟩, (fun h => by cases h), (fun q hq => by cases hq)⟩
-- func(int, int, int) api.Errno
def ty228 : TyRow := ⟨.func, 1, 8, [.nilF], false, false, [], false⟩
theorem ty228_met : ty228.met Tryz.prog 228 := ⟨⟨(funcOf Tryz.prog 228).1, (funcOf Tryz.prog 228).2.1, (funcOf Tryz.prog 228).2.2, by kernel_rfl⟩, ⟨(Tryz.prog.info? 228).getD default, .nilFunc, by kernel_rfl, by kernel_rfl, by kernel_rfl, by kernel_rfl, rfl, relL_cellAV _ [.nilFunc], relL_cellAV _ [.nilFunc]⟩, (fun h => by cases h), (fun q hq => by cases hq)⟩
-- struct { Thread int; Op int; What int; Commit api.Commit; Err api.Errno }
def ty229 : TyRow := ⟨.struct [(0, 3), (1, 3), (2, 3), (3, 78), (7, 79)], 8, 64, [.lit .i64 0, .lit .i64 0, .lit .i64 0, .lit .i64 0, .lit .i64 0, .lit .i64 0, .ff, .lit .i64 0], true, false, [], false⟩
theorem ty229_met : ty229.met Tryz.prog 229 := ⟨⟨Tryz.prog.fieldsOf 229, by kernel_rfl, by kernel_rfl⟩, ⟨(Tryz.prog.info? 229).getD default, (.agg #[(.int .i64 0), (.int .i64 0), (.int .i64 0), (.int .i64 0), (.int .i64 0), (.int .i64 0), (.bool false), (.int .i64 0)]), by kernel_rfl, by kernel_rfl, by kernel_rfl, by kernel_rfl, rfl, ⟨[(.int .i64 0), (.int .i64 0), (.int .i64 0), (.int .i64 0), (.int .i64 0), (.int .i64 0), (.bool false), (.int .i64 0)], relL_cellAV _ [(.int .i64 0), (.int .i64 0), (.int .i64 0), (.int .i64 0), (.int .i64 0), (.int .i64 0), (.bool false), (.int .i64 0)], rfl⟩, relL_cellAV _ [(.int .i64 0), (.int .i64 0), (.int .i64 0), (.int .i64 0), (.int .i64 0), (.int .i64 0), (.bool false), (.int .i64 0)]⟩, fun _ => ⟨by kernel_rfl, by kernel_rfl, names_ok (by kernel_rfl) (by kernel_rfl)⟩, (fun q hq => by cases hq)⟩
-- api.Record
def ty230 : TyRow := ⟨.struct [(0, 3), (1, 3), (2, 3), (3, 78), (7, 79)], 8, 64, [.lit .i64 0, .lit .i64 0, .lit .i64 0, .lit .i64 0, .lit .i64 0, .lit .i64 0, .ff, .lit .i64 0], true, false, [], false⟩
theorem ty230_met : ty230.met Tryz.prog 230 := ⟨⟨Tryz.prog.fieldsOf 230, by kernel_rfl, by kernel_rfl⟩, ⟨(Tryz.prog.info? 230).getD default, (.agg #[(.int .i64 0), (.int .i64 0), (.int .i64 0), (.int .i64 0), (.int .i64 0), (.int .i64 0), (.bool false), (.int .i64 0)]), by kernel_rfl, by kernel_rfl, by kernel_rfl, by kernel_rfl, rfl, ⟨[(.int .i64 0), (.int .i64 0), (.int .i64 0), (.int .i64 0), (.int .i64 0), (.int .i64 0), (.bool false), (.int .i64 0)], relL_cellAV _ [(.int .i64 0), (.int .i64 0), (.int .i64 0), (.int .i64 0), (.int .i64 0), (.int .i64 0), (.bool false), (.int .i64 0)], rfl⟩, relL_cellAV _ [(.int .i64 0), (.int .i64 0), (.int .i64 0), (.int .i64 0), (.int .i64 0), (.int .i64 0), (.bool false), (.int .i64 0)]⟩, fun _ => ⟨by kernel_rfl, by kernel_rfl, names_ok (by kernel_rfl) (by kernel_rfl)⟩, (fun q hq => by cases hq)⟩
-- func() (int, bool)
def ty231 : TyRow := ⟨.func, 1, 8, [.nilF], false, false, [], false⟩
theorem ty231_met : ty231.met Tryz.prog 231 := ⟨⟨(funcOf Tryz.prog 231).1, (funcOf Tryz.prog 231).2.1, (funcOf Tryz.prog 231).2.2, by kernel_rfl⟩, ⟨(Tryz.prog.info? 231).getD default, .nilFunc, by kernel_rfl, by kernel_rfl, by kernel_rfl, by kernel_rfl, rfl, relL_cellAV _ [.nilFunc], relL_cellAV _ [.nilFunc]⟩, (fun h => by cases h), (fun q hq => by cases hq)⟩
-- func(api.Event) []int
def ty232 : TyRow := ⟨.func, 1, 8, [.nilF], false, false, [], false⟩
theorem ty232_met : ty232.met Tryz.prog 232 := ⟨⟨(funcOf Tryz.prog 232).1, (funcOf Tryz.prog 232).2.1, (funcOf Tryz.prog 232).2.2, by kernel_rfl⟩, ⟨(Tryz.prog.info? 232).getD default, .nilFunc, by kernel_rfl, by kernel_rfl, by kernel_rfl, by kernel_rfl, rfl, relL_cellAV _ [.nilFunc], relL_cellAV _ [.nilFunc]⟩, (fun h => by cases h), (fun q hq => by cases hq)⟩
-- func() (api.Event, bool)
def ty234 : TyRow := ⟨.func, 1, 8, [.nilF], false, false, [], false⟩
theorem ty234_met : ty234.met Tryz.prog 234 := ⟨⟨(funcOf Tryz.prog 234).1, (funcOf Tryz.prog 234).2.1, (funcOf Tryz.prog 234).2.2, by kernel_rfl⟩, ⟨(Tryz.prog.info? 234).getD default, .nilFunc, by kernel_rfl, by kernel_rfl, by kernel_rfl, by kernel_rfl, rfl, relL_cellAV _ [.nilFunc], relL_cellAV _ [.nilFunc]⟩, (fun h => by cases h), (fun q hq => by cases hq)⟩
-- func(int) api.Errno
def ty235 : TyRow := ⟨.func, 1, 8, [.nilF], false, false, [], false⟩
theorem ty235_met : ty235.met Tryz.prog 235 := ⟨⟨(funcOf Tryz.prog 235).1, (funcOf Tryz.prog 235).2.1, (funcOf Tryz.prog 235).2.2, by kernel_rfl⟩, ⟨(Tryz.prog.info? 235).getD default, .nilFunc, by kernel_rfl, by kernel_rfl, by kernel_rfl, by kernel_rfl, rfl, relL_cellAV _ [.nilFunc], relL_cellAV _ [.nilFunc]⟩, (fun h => by cases h), (fun q hq => by cases hq)⟩
-- func(api.Status, bool) api.Status
def ty236 : TyRow := ⟨.func, 1, 8, [.nilF], false, false, [], false⟩
theorem ty236_met : ty236.met Tryz.prog 236 := ⟨⟨(funcOf Tryz.prog 236).1, (funcOf Tryz.prog 236).2.1, (funcOf Tryz.prog 236).2.2, by kernel_rfl⟩, ⟨(Tryz.prog.info? 236).getD default, .nilFunc, by kernel_rfl, by kernel_rfl, by kernel_rfl, by kernel_rfl, rfl, relL_cellAV _ [.nilFunc], relL_cellAV _ [.nilFunc]⟩, (fun h => by cases h), (fun q hq => by cases hq)⟩
-- []uint64
def ty237 : TyRow := ⟨.slice 214, 1, 24, [.nilS], false, false, [], false⟩
theorem ty237_met : ty237.met Tryz.prog 237 := ⟨(show Tryz.prog.underlying 237 = some (.slice 214) by kernel_rfl), ⟨(Tryz.prog.info? 237).getD default, (.slice none 0 0), by kernel_rfl, by kernel_rfl, by kernel_rfl, by kernel_rfl, rfl, relL_cellAV _ [(.slice none 0 0)], relL_cellAV _ [(.slice none 0 0)]⟩, (fun h => by cases h), (fun q hq => by cases hq)⟩
-- [4][]uint64
def ty238 : TyRow := ⟨.array 4 237, 4, 96, [.nilS, .nilS, .nilS, .nilS], false, false, [], false⟩
theorem ty238_met : ty238.met Tryz.prog 238 := ⟨(show Tryz.prog.underlying 238 = some (.array 4 237) by kernel_rfl), ⟨(Tryz.prog.info? 238).getD default, (.agg #[(.slice none 0 0), (.slice none 0 0), (.slice none 0 0), (.slice none 0 0)]), by kernel_rfl, by kernel_rfl, by kernel_rfl, by kernel_rfl, rfl, ⟨[(.slice none 0 0), (.slice none 0 0), (.slice none 0 0), (.slice none 0 0)], relL_cellAV _ [(.slice none 0 0), (.slice none 0 0), (.slice none 0 0), (.slice none 0 0)], rfl⟩, relL_cellAV _ [(.slice none 0 0), (.slice none 0 0), (.slice none 0 0), (.slice none 0 0)]⟩, (fun h => by cases h), (fun q hq => by cases hq)⟩
-- struct { width int; seed int; samples int; rows [4][]uint64 }
def ty239 : TyRow := ⟨.struct [(0, 3), (1, 3), (2, 3), (3, 238)], 7, 120, [.lit .i64 0, .lit .i64 0, .lit .i64 0, .nilS, .nilS, .nilS, .nilS], false, false, [], false⟩
theorem ty239_met : ty239.met Tryz.prog 239 := ⟨⟨Tryz.prog.fieldsOf 239, by kernel_rfl, by kernel_rfl⟩, ⟨(Tryz.prog.info? 239).getD default, (.agg #[(.int .i64 0), (.int .i64 0), (.int .i64 0), (.slice none 0 0), (.slice none 0 0), (.slice none 0 0), (.slice none 0 0)]), by kernel_rfl, by kernel_rfl, by kernel_rfl, by kernel_rfl, rfl, ⟨[(.int .i64 0), (.int .i64 0), (.int .i64 0), (.slice none 0 0), (.slice none 0 0), (.slice none 0 0), (.slice none 0 0)], relL_cellAV _ [(.int .i64 0), (.int .i64 0), (.int .i64 0), (.slice none 0 0), (.slice none 0 0), (.slice none 0 0), (.slice none 0 0)], rfl⟩, relL_cellAV _ [(.int .i64 0), (.int .i64 0), (.int .i64 0), (.slice none 0 0), (.slice none 0 0), (.slice none 0 0), (.slice none 0 0)]⟩, (fun h => by cases h), (fun q hq => by cases hq)⟩
-- sketch.Sketch
def ty240 : TyRow := ⟨.struct [(0, 3), (1, 3), (2, 3), (3, 238)], 7, 120, [.lit .i64 0, .lit .i64 0, .lit .i64 0, .nilS, .nilS, .nilS, .nilS], false, false, [], false⟩
theorem ty240_met : ty240.met Tryz.prog 240 := ⟨⟨Tryz.prog.fieldsOf 240, by kernel_rfl, by kernel_rfl⟩, ⟨(Tryz.prog.info? 240).getD default, (.agg #[(.int .i64 0), (.int .i64 0), (.int .i64 0), (.slice none 0 0), (.slice none 0 0), (.slice none 0 0), (.slice none 0 0)]), by kernel_rfl, by kernel_rfl, by kernel_rfl, by kernel_rfl, rfl, ⟨[(.int .i64 0), (.int .i64 0), (.int .i64 0), (.slice none 0 0), (.slice none 0 0), (.slice none 0 0), (.slice none 0 0)], relL_cellAV _ [(.int .i64 0), (.int .i64 0), (.int .i64 0), (.slice none 0 0), (.slice none 0 0), (.slice none 0 0), (.slice none 0 0)], rfl⟩, relL_cellAV _ [(.int .i64 0), (.int .i64 0), (.int .i64 0), (.slice none 0 0), (.slice none 0 0), (.slice none 0 0), (.slice none 0 0)]⟩, (fun h => by cases h), (fun q hq => by cases hq)⟩
-- struct { seed int; words []uint64 }
def ty241 : TyRow := ⟨.struct [(0, 3), (1, 237)], 2, 32, [.lit .i64 0, .nilS], false, false, [], false⟩
theorem ty241_met : ty241.met Tryz.prog 241 := ⟨⟨Tryz.prog.fieldsOf 241, by kernel_rfl, by kernel_rfl⟩, ⟨(Tryz.prog.info? 241).getD default, (.agg #[(.int .i64 0), (.slice none 0 0)]), by kernel_rfl, by kernel_rfl, by kernel_rfl, by kernel_rfl, rfl, ⟨[(.int .i64 0), (.slice none 0 0)], relL_cellAV _ [(.int .i64 0), (.slice none 0 0)], rfl⟩, relL_cellAV _ [(.int .i64 0), (.slice none 0 0)]⟩, (fun h => by cases h), (fun q hq => by cases hq)⟩
-- door.Door
def ty242 : TyRow := ⟨.struct [(0, 3), (1, 237)], 2, 32, [.lit .i64 0, .nilS], false, false, [], false⟩
theorem ty242_met : ty242.met Tryz.prog 242 := ⟨⟨Tryz.prog.fieldsOf 242, by kernel_rfl, by kernel_rfl⟩, ⟨(Tryz.prog.info? 242).getD default, (.agg #[(.int .i64 0), (.slice none 0 0)]), by kernel_rfl, by kernel_rfl, by kernel_rfl, by kernel_rfl, rfl, ⟨[(.int .i64 0), (.slice none 0 0)], relL_cellAV _ [(.int .i64 0), (.slice none 0 0)], rfl⟩, relL_cellAV _ [(.int .i64 0), (.slice none 0 0)]⟩, (fun h => by cases h), (fun q hq => by cases hq)⟩
-- func(error) api.Errno
def ty243 : TyRow := ⟨.func, 1, 8, [.nilF], false, false, [], false⟩
theorem ty243_met : ty243.met Tryz.prog 243 := ⟨⟨(funcOf Tryz.prog 243).1, (funcOf Tryz.prog 243).2.1, (funcOf Tryz.prog 243).2.2, by kernel_rfl⟩, ⟨(Tryz.prog.info? 243).getD default, .nilFunc, by kernel_rfl, by kernel_rfl, by kernel_rfl, by kernel_rfl, rfl, relL_cellAV _ [.nilFunc], relL_cellAV _ [.nilFunc]⟩, (fun h => by cases h), (fun q hq => by cases hq)⟩
-- func(int, int, int) error
def ty244 : TyRow := ⟨.func, 1, 8, [.nilF], false, false, [], false⟩
theorem ty244_met : ty244.met Tryz.prog 244 := ⟨⟨(funcOf Tryz.prog 244).1, (funcOf Tryz.prog 244).2.1, (funcOf Tryz.prog 244).2.2, by kernel_rfl⟩, ⟨(Tryz.prog.info? 244).getD default, .nilFunc, by kernel_rfl, by kernel_rfl, by kernel_rfl, by kernel_rfl, rfl, relL_cellAV _ [.nilFunc], relL_cellAV _ [.nilFunc]⟩, (fun h => by cases h), (fun q hq => by cases hq)⟩
-- func(int, int, api.Commit, api.Errno)
def ty245 : TyRow := ⟨.func, 1, 8, [.nilF], false, false, [], false⟩
theorem ty245_met : ty245.met Tryz.prog 245 := ⟨⟨(funcOf Tryz.prog 245).1, (funcOf Tryz.prog 245).2.1, (funcOf Tryz.prog 245).2.2, by kernel_rfl⟩, ⟨(Tryz.prog.info? 245).getD default, .nilFunc, by kernel_rfl, by kernel_rfl, by kernel_rfl, by kernel_rfl, rfl, relL_cellAV _ [.nilFunc], relL_cellAV _ [.nilFunc]⟩, (fun h => by cases h), (fun q hq => by cases hq)⟩
-- interface { AssignableTo(reflectlite.Type) bool; Comparable() bool; Elem() reflectlite.Type; Impleme
def ty246 : TyRow := ⟨.iface, 1, 16, [.nilI], false, false, [], false⟩
theorem ty246_met : ty246.met Tryz.prog 246 := ⟨⟨ifaceOf Tryz.prog 246, by kernel_rfl⟩, ⟨(Tryz.prog.info? 246).getD default, .nilIface, by kernel_rfl, by kernel_rfl, by kernel_rfl, by kernel_rfl, rfl, relL_cellAV _ [.nilIface], relL_cellAV _ [.nilIface]⟩, (fun h => by cases h), (fun q hq => by cases hq)⟩
-- reflectlite.Type
def ty247 : TyRow := ⟨.iface, 1, 16, [.nilI], false, false, [], false⟩
theorem ty247_met : ty247.met Tryz.prog 247 := ⟨⟨ifaceOf Tryz.prog 247, by kernel_rfl⟩, ⟨(Tryz.prog.info? 247).getD default, .nilIface, by kernel_rfl, by kernel_rfl, by kernel_rfl, by kernel_rfl, rfl, relL_cellAV _ [.nilIface], relL_cellAV _ [.nilIface]⟩, (fun h => by cases h), (fun q hq => by cases hq)⟩
-- func(interface {}) reflectlite.Type
def ty248 : TyRow := ⟨.func, 1, 8, [.nilF], false, false, [], false⟩
theorem ty248_met : ty248.met Tryz.prog 248 := ⟨⟨(funcOf Tryz.prog 248).1, (funcOf Tryz.prog 248).2.1, (funcOf Tryz.prog 248).2.2, by kernel_rfl⟩, ⟨(Tryz.prog.info? 248).getD default, .nilFunc, by kernel_rfl, by kernel_rfl, by kernel_rfl, by kernel_rfl, rfl, relL_cellAV _ [.nilFunc], relL_cellAV _ [.nilFunc]⟩, (fun h => by cases h), (fun q hq => by cases hq)⟩
-- func(error, error, bool) bool
def ty249 : TyRow := ⟨.func, 1, 8, [.nilF], false, false, [], false⟩
theorem ty249_met : ty249.met Tryz.prog 249 := ⟨⟨(funcOf Tryz.prog 249).1, (funcOf Tryz.prog 249).2.1, (funcOf Tryz.prog 249).2.2, by kernel_rfl⟩, ⟨(Tryz.prog.info? 249).getD default, .nilFunc, by kernel_rfl, by kernel_rfl, by kernel_rfl, by kernel_rfl, rfl, relL_cellAV _ [.nilFunc], relL_cellAV _ [.nilFunc]⟩, (fun h => by cases h), (fun q hq => by cases hq)⟩
-- func(api.Errno, int, int) error
def ty250 : TyRow := ⟨.func, 1, 8, [.nilF], false, false, [], false⟩
theorem ty250_met : ty250.met Tryz.prog 250 := ⟨⟨(funcOf Tryz.prog 250).1, (funcOf Tryz.prog 250).2.1, (funcOf Tryz.prog 250).2.2, by kernel_rfl⟩, ⟨(Tryz.prog.info? 250).getD default, .nilFunc, by kernel_rfl, by kernel_rfl, by kernel_rfl, by kernel_rfl, rfl, relL_cellAV _ [.nilFunc], relL_cellAV _ [.nilFunc]⟩, (fun h => by cases h), (fun q hq => by cases hq)⟩
-- func(api.Op)
def ty251 : TyRow := ⟨.func, 1, 8, [.nilF], false, false, [], false⟩
theorem ty251_met : ty251.met Tryz.prog 251 := ⟨⟨(funcOf Tryz.prog 251).1, (funcOf Tryz.prog 251).2.1, (funcOf Tryz.prog 251).2.2, by kernel_rfl⟩, ⟨(Tryz.prog.info? 251).getD default, .nilFunc, by kernel_rfl, by kernel_rfl, by kernel_rfl, by kernel_rfl, rfl, relL_cellAV _ [.nilFunc], relL_cellAV _ [.nilFunc]⟩, (fun h => by cases h), (fun q hq => by cases hq)⟩
-- interface { Drain() []int; Len() int; Lost() int; Offer(int) bool; Take() (int, bool) }
def ty252 : TyRow := ⟨.iface, 1, 16, [.nilI], false, false, [], false⟩
theorem ty252_met : ty252.met Tryz.prog 252 := ⟨⟨ifaceOf Tryz.prog 252, by kernel_rfl⟩, ⟨(Tryz.prog.info? 252).getD default, .nilIface, by kernel_rfl, by kernel_rfl, by kernel_rfl, by kernel_rfl, rfl, relL_cellAV _ [.nilIface], relL_cellAV _ [.nilIface]⟩, (fun h => by cases h), (fun q hq => by cases hq)⟩
-- stripes.keeper
def ty253 : TyRow := ⟨.iface, 1, 16, [.nilI], false, false, [], false⟩
theorem ty253_met : ty253.met Tryz.prog 253 := ⟨⟨ifaceOf Tryz.prog 253, by kernel_rfl⟩, ⟨(Tryz.prog.info? 253).getD default, .nilIface, by kernel_rfl, by kernel_rfl, by kernel_rfl, by kernel_rfl, rfl, relL_cellAV _ [.nilIface], relL_cellAV _ [.nilIface]⟩, (fun h => by cases h), (fun q hq => by cases hq)⟩
-- struct { Seed int; Bits []bool }
def ty254 : TyRow := ⟨.struct [(0, 3), (1, 50)], 2, 32, [.lit .i64 0, .nilS], false, false, [], false⟩
theorem ty254_met : ty254.met Tryz.prog 254 := ⟨⟨Tryz.prog.fieldsOf 254, by kernel_rfl, by kernel_rfl⟩, ⟨(Tryz.prog.info? 254).getD default, (.agg #[(.int .i64 0), (.slice none 0 0)]), by kernel_rfl, by kernel_rfl, by kernel_rfl, by kernel_rfl, rfl, ⟨[(.int .i64 0), (.slice none 0 0)], relL_cellAV _ [(.int .i64 0), (.slice none 0 0)], rfl⟩, relL_cellAV _ [(.int .i64 0), (.slice none 0 0)]⟩, (fun h => by cases h), (fun q hq => by cases hq)⟩
-- pantryref04.Door
def ty255 : TyRow := ⟨.struct [(0, 3), (1, 50)], 2, 32, [.lit .i64 0, .nilS], false, false, [], false⟩
theorem ty255_met : ty255.met Tryz.prog 255 := ⟨⟨Tryz.prog.fieldsOf 255, by kernel_rfl, by kernel_rfl⟩, ⟨(Tryz.prog.info? 255).getD default, (.agg #[(.int .i64 0), (.slice none 0 0)]), by kernel_rfl, by kernel_rfl, by kernel_rfl, by kernel_rfl, rfl, ⟨[(.int .i64 0), (.slice none 0 0)], relL_cellAV _ [(.int .i64 0), (.slice none 0 0)], rfl⟩, relL_cellAV _ [(.int .i64 0), (.slice none 0 0)]⟩, (fun h => by cases h), (fun q hq => by cases hq)⟩
-- struct { Thread int; Do int; Cell int; Before int; After int }
def ty256 : TyRow := ⟨.struct [(0, 3), (1, 3), (2, 3), (3, 3), (4, 3)], 5, 40, [.lit .i64 0, .lit .i64 0, .lit .i64 0, .lit .i64 0, .lit .i64 0], true, false, [], false⟩
theorem ty256_met : ty256.met Tryz.prog 256 := ⟨⟨Tryz.prog.fieldsOf 256, by kernel_rfl, by kernel_rfl⟩, ⟨(Tryz.prog.info? 256).getD default, (.agg #[(.int .i64 0), (.int .i64 0), (.int .i64 0), (.int .i64 0), (.int .i64 0)]), by kernel_rfl, by kernel_rfl, by kernel_rfl, by kernel_rfl, rfl, ⟨[(.int .i64 0), (.int .i64 0), (.int .i64 0), (.int .i64 0), (.int .i64 0)], relL_cellAV _ [(.int .i64 0), (.int .i64 0), (.int .i64 0), (.int .i64 0), (.int .i64 0)], rfl⟩, relL_cellAV _ [(.int .i64 0), (.int .i64 0), (.int .i64 0), (.int .i64 0), (.int .i64 0)]⟩, fun _ => ⟨by kernel_rfl, by kernel_rfl, names_ok (by kernel_rfl) (by kernel_rfl)⟩, (fun q hq => by cases hq)⟩
-- api.Deed
def ty257 : TyRow := ⟨.struct [(0, 3), (1, 3), (2, 3), (3, 3), (4, 3)], 5, 40, [.lit .i64 0, .lit .i64 0, .lit .i64 0, .lit .i64 0, .lit .i64 0], true, false, [], false⟩
theorem ty257_met : ty257.met Tryz.prog 257 := ⟨⟨Tryz.prog.fieldsOf 257, by kernel_rfl, by kernel_rfl⟩, ⟨(Tryz.prog.info? 257).getD default, (.agg #[(.int .i64 0), (.int .i64 0), (.int .i64 0), (.int .i64 0), (.int .i64 0)]), by kernel_rfl, by kernel_rfl, by kernel_rfl, by kernel_rfl, rfl, ⟨[(.int .i64 0), (.int .i64 0), (.int .i64 0), (.int .i64 0), (.int .i64 0)], relL_cellAV _ [(.int .i64 0), (.int .i64 0), (.int .i64 0), (.int .i64 0), (.int .i64 0)], rfl⟩, relL_cellAV _ [(.int .i64 0), (.int .i64 0), (.int .i64 0), (.int .i64 0), (.int .i64 0)]⟩, fun _ => ⟨by kernel_rfl, by kernel_rfl, names_ok (by kernel_rfl) (by kernel_rfl)⟩, (fun q hq => by cases hq)⟩
-- func(uint64, int) uint64
def ty258 : TyRow := ⟨.func, 1, 8, [.nilF], false, false, [], false⟩
theorem ty258_met : ty258.met Tryz.prog 258 := ⟨⟨(funcOf Tryz.prog 258).1, (funcOf Tryz.prog 258).2.1, (funcOf Tryz.prog 258).2.2, by kernel_rfl⟩, ⟨(Tryz.prog.info? 258).getD default, .nilFunc, by kernel_rfl, by kernel_rfl, by kernel_rfl, by kernel_rfl, rfl, relL_cellAV _ [.nilFunc], relL_cellAV _ [.nilFunc]⟩, (fun h => by cases h), (fun q hq => by cases hq)⟩
-- uint
def ty259 : TyRow := ⟨.int .u64, 1, 8, [.lit .u64 0], false, false, [], false⟩
theorem ty259_met : ty259.met Tryz.prog 259 := ⟨(show Tryz.prog.underlying 259 = some (.int .u64) by kernel_rfl), ⟨(Tryz.prog.info? 259).getD default, (.int .u64 0), by kernel_rfl, by kernel_rfl, by kernel_rfl, by kernel_rfl, rfl, relL_cellAV _ [(.int .u64 0)], relL_cellAV _ [(.int .u64 0)]⟩, (fun h => by cases h), (fun q hq => by cases hq)⟩
-- func(int, int) api.Entry
def ty260 : TyRow := ⟨.func, 1, 8, [.nilF], false, false, [], false⟩
theorem ty260_met : ty260.met Tryz.prog 260 := ⟨⟨(funcOf Tryz.prog 260).1, (funcOf Tryz.prog 260).2.1, (funcOf Tryz.prog 260).2.2, by kernel_rfl⟩, ⟨(Tryz.prog.info? 260).getD default, .nilFunc, by kernel_rfl, by kernel_rfl, by kernel_rfl, by kernel_rfl, rfl, relL_cellAV _ [.nilFunc], relL_cellAV _ [.nilFunc]⟩, (fun h => by cases h), (fun q hq => by cases hq)⟩
-- func(api.Event) ([]int, api.Errno)
def ty262 : TyRow := ⟨.func, 1, 8, [.nilF], false, false, [], false⟩
theorem ty262_met : ty262.met Tryz.prog 262 := ⟨⟨(funcOf Tryz.prog 262).1, (funcOf Tryz.prog 262).2.1, (funcOf Tryz.prog 262).2.2, by kernel_rfl⟩, ⟨(Tryz.prog.info? 262).getD default, .nilFunc, by kernel_rfl, by kernel_rfl, by kernel_rfl, by kernel_rfl, rfl, relL_cellAV _ [.nilFunc], relL_cellAV _ [.nilFunc]⟩, (fun h => by cases h), (fun q hq => by cases hq)⟩
-- func(error, interface {}) bool
def ty263 : TyRow := ⟨.func, 1, 8, [.nilF], false, false, [], false⟩
theorem ty263_met : ty263.met Tryz.prog 263 := ⟨⟨(funcOf Tryz.prog 263).1, (funcOf Tryz.prog 263).2.1, (funcOf Tryz.prog 263).2.2, by kernel_rfl⟩, ⟨(Tryz.prog.info? 263).getD default, .nilFunc, by kernel_rfl, by kernel_rfl, by kernel_rfl, by kernel_rfl, rfl, relL_cellAV _ [.nilFunc], relL_cellAV _ [.nilFunc]⟩, (fun h => by cases h), (fun q hq => by cases hq)⟩
-- *api.Errno
def ty264 : TyRow := ⟨.ptr 79, 1, 8, [.nilP], false, false, [], false⟩
theorem ty264_met : ty264.met Tryz.prog 264 := ⟨(show Tryz.prog.underlying 264 = some (.pointer 79) by kernel_rfl), ⟨(Tryz.prog.info? 264).getD default, (.pointer none), by kernel_rfl, by kernel_rfl, by kernel_rfl, by kernel_rfl, rfl, relL_cellAV _ [(.pointer none)], relL_cellAV _ [(.pointer none)]⟩, (fun h => by cases h), (fun q hq => by cases hq)⟩
-- struct { *abi.Type }
def ty265 : TyRow := ⟨.struct [(0, 17)], 1, 8, [.nilP], false, false, [], false⟩
theorem ty265_met : ty265.met Tryz.prog 265 := ⟨⟨Tryz.prog.fieldsOf 265, by kernel_rfl, by kernel_rfl⟩, ⟨(Tryz.prog.info? 265).getD default, (.agg #[(.pointer none)]), by kernel_rfl, by kernel_rfl, by kernel_rfl, by kernel_rfl, rfl, ⟨[(.pointer none)], relL_cellAV _ [(.pointer none)], rfl⟩, relL_cellAV _ [(.pointer none)]⟩, (fun h => by cases h), (fun q hq => by cases hq)⟩
-- reflectlite.rtype
def ty266 : TyRow := ⟨.struct [(0, 17)], 1, 8, [.nilP], false, false, [], false⟩
theorem ty266_met : ty266.met Tryz.prog 266 := ⟨⟨Tryz.prog.fieldsOf 266, by kernel_rfl, by kernel_rfl⟩, ⟨(Tryz.prog.info? 266).getD default, (.agg #[(.pointer none)]), by kernel_rfl, by kernel_rfl, by kernel_rfl, by kernel_rfl, rfl, ⟨[(.pointer none)], relL_cellAV _ [(.pointer none)], rfl⟩, relL_cellAV _ [(.pointer none)]⟩, (fun h => by cases h), (fun q hq => by cases hq)⟩
-- *reflectlite.ValueError
def ty267 : TyRow := ⟨.ptr 359, 1, 8, [.nilP], false, false, [], false⟩
theorem ty267_met : ty267.met Tryz.prog 267 := ⟨(show Tryz.prog.underlying 267 = some (.pointer 359) by kernel_rfl), ⟨(Tryz.prog.info? 267).getD default, (.pointer none), by kernel_rfl, by kernel_rfl, by kernel_rfl, by kernel_rfl, rfl, relL_cellAV _ [(.pointer none)], relL_cellAV _ [(.pointer none)]⟩, (fun h => by cases h), (fun q hq => by cases hq)⟩
-- interface { Is(error) bool }
def ty268 : TyRow := ⟨.iface, 1, 16, [.nilI], false, false, [], false⟩
theorem ty268_met : ty268.met Tryz.prog 268 := ⟨⟨ifaceOf Tryz.prog 268, by kernel_rfl⟩, ⟨(Tryz.prog.info? 268).getD default, .nilIface, by kernel_rfl, by kernel_rfl, by kernel_rfl, by kernel_rfl, rfl, relL_cellAV _ [.nilIface], relL_cellAV _ [.nilIface]⟩, (fun h => by cases h), (fun q hq => by cases hq)⟩
-- func(error) bool
def ty270 : TyRow := ⟨.func, 1, 8, [.nilF], false, false, [], false⟩
theorem ty270_met : ty270.met Tryz.prog 270 := ⟨⟨(funcOf Tryz.prog 270).1, (funcOf Tryz.prog 270).2.1, (funcOf Tryz.prog 270).2.2, by kernel_rfl⟩, ⟨(Tryz.prog.info? 270).getD default, .nilFunc, by kernel_rfl, by kernel_rfl, by kernel_rfl, by kernel_rfl, rfl, relL_cellAV _ [.nilFunc], relL_cellAV _ [.nilFunc]⟩, (fun h => by cases h), (fun q hq => by cases hq)⟩
-- interface { Unwrap() error }
def ty271 : TyRow := ⟨.iface, 1, 16, [.nilI], false, false, [], false⟩
theorem ty271_met : ty271.met Tryz.prog 271 := ⟨⟨ifaceOf Tryz.prog 271, by kernel_rfl⟩, ⟨(Tryz.prog.info? 271).getD default, .nilIface, by kernel_rfl, by kernel_rfl, by kernel_rfl, by kernel_rfl, rfl, relL_cellAV _ [.nilIface], relL_cellAV _ [.nilIface]⟩, (fun h => by cases h), (fun q hq => by cases hq)⟩
-- interface { Unwrap() []error }
def ty272 : TyRow := ⟨.iface, 1, 16, [.nilI], false, false, [], false⟩
theorem ty272_met : ty272.met Tryz.prog 272 := ⟨⟨ifaceOf Tryz.prog 272, by kernel_rfl⟩, ⟨(Tryz.prog.info? 272).getD default, .nilIface, by kernel_rfl, by kernel_rfl, by kernel_rfl, by kernel_rfl, rfl, relL_cellAV _ [.nilIface], relL_cellAV _ [.nilIface]⟩, (fun h => by cases h), (fun q hq => by cases hq)⟩
-- []error
def ty273 : TyRow := ⟨.slice 195, 1, 24, [.nilS], false, false, [], false⟩
theorem ty273_met : ty273.met Tryz.prog 273 := ⟨(show Tryz.prog.underlying 273 = some (.slice 195) by kernel_rfl), ⟨(Tryz.prog.info? 273).getD default, (.slice none 0 0), by kernel_rfl, by kernel_rfl, by kernel_rfl, by kernel_rfl, rfl, relL_cellAV _ [(.slice none 0 0)], relL_cellAV _ [(.slice none 0 0)]⟩, (fun h => by cases h), (fun q hq => by cases hq)⟩
-- func() []error
def ty274 : TyRow := ⟨.func, 1, 8, [.nilF], false, false, [], false⟩
theorem ty274_met : ty274.met Tryz.prog 274 := ⟨⟨(funcOf Tryz.prog 274).1, (funcOf Tryz.prog 274).2.1, (funcOf Tryz.prog 274).2.2, by kernel_rfl⟩, ⟨(Tryz.prog.info? 274).getD default, .nilFunc, by kernel_rfl, by kernel_rfl, by kernel_rfl, by kernel_rfl, rfl, relL_cellAV _ [.nilFunc], relL_cellAV _ [.nilFunc]⟩, (fun h => by cases h), (fun q hq => by cases hq)⟩
-- *api.Fault
def ty275 : TyRow := ⟨.ptr 277, 1, 8, [.nilP], false, false, [], false⟩
theorem ty275_met : ty275.met Tryz.prog 275 := ⟨(show Tryz.prog.underlying 275 = some (.pointer 277) by kernel_rfl), ⟨(Tryz.prog.info? 275).getD default, (.pointer none), by kernel_rfl, by kernel_rfl, by kernel_rfl, by kernel_rfl, rfl, relL_cellAV _ [(.pointer none)], relL_cellAV _ [(.pointer none)]⟩, (fun h => by cases h), (fun q hq => by cases hq)⟩
-- struct { Err api.Errno; Key int; Much int }
def ty276 : TyRow := ⟨.struct [(0, 79), (1, 3), (2, 3)], 3, 24, [.lit .i64 0, .lit .i64 0, .lit .i64 0], true, false, [], false⟩
theorem ty276_met : ty276.met Tryz.prog 276 := ⟨⟨Tryz.prog.fieldsOf 276, by kernel_rfl, by kernel_rfl⟩, ⟨(Tryz.prog.info? 276).getD default, (.agg #[(.int .i64 0), (.int .i64 0), (.int .i64 0)]), by kernel_rfl, by kernel_rfl, by kernel_rfl, by kernel_rfl, rfl, ⟨[(.int .i64 0), (.int .i64 0), (.int .i64 0)], relL_cellAV _ [(.int .i64 0), (.int .i64 0), (.int .i64 0)], rfl⟩, relL_cellAV _ [(.int .i64 0), (.int .i64 0), (.int .i64 0)]⟩, fun _ => ⟨by kernel_rfl, by kernel_rfl, names_ok (by kernel_rfl) (by kernel_rfl)⟩, (fun q hq => by cases hq)⟩
-- api.Fault
def ty277 : TyRow := ⟨.struct [(0, 79), (1, 3), (2, 3)], 3, 24, [.lit .i64 0, .lit .i64 0, .lit .i64 0], true, false, [], false⟩
theorem ty277_met : ty277.met Tryz.prog 277 := ⟨⟨Tryz.prog.fieldsOf 277, by kernel_rfl, by kernel_rfl⟩, ⟨(Tryz.prog.info? 277).getD default, (.agg #[(.int .i64 0), (.int .i64 0), (.int .i64 0)]), by kernel_rfl, by kernel_rfl, by kernel_rfl, by kernel_rfl, rfl, ⟨[(.int .i64 0), (.int .i64 0), (.int .i64 0)], relL_cellAV _ [(.int .i64 0), (.int .i64 0), (.int .i64 0)], rfl⟩, relL_cellAV _ [(.int .i64 0), (.int .i64 0), (.int .i64 0)]⟩, fun _ => ⟨by kernel_rfl, by kernel_rfl, names_ok (by kernel_rfl) (by kernel_rfl)⟩, (fun q hq => by cases hq)⟩
-- func(int, int, int) (bool, api.Errno)
def ty278 : TyRow := ⟨.func, 1, 8, [.nilF], false, false, [], false⟩
theorem ty278_met : ty278.met Tryz.prog 278 := ⟨⟨(funcOf Tryz.prog 278).1, (funcOf Tryz.prog 278).2.1, (funcOf Tryz.prog 278).2.2, by kernel_rfl⟩, ⟨(Tryz.prog.info? 278).getD default, .nilFunc, by kernel_rfl, by kernel_rfl, by kernel_rfl, by kernel_rfl, rfl, relL_cellAV _ [.nilFunc], relL_cellAV _ [.nilFunc]⟩, (fun h => by cases h), (fun q hq => by cases hq)⟩
-- *cells.holder
def ty279 : TyRow := ⟨.ptr 282, 1, 8, [.nilP], false, false, [], false⟩
theorem ty279_met : ty279.met Tryz.prog 279 := ⟨(show Tryz.prog.underlying 279 = some (.pointer 282) by kernel_rfl), ⟨(Tryz.prog.info? 279).getD default, (.pointer none), by kernel_rfl, by kernel_rfl, by kernel_rfl, by kernel_rfl, rfl, relL_cellAV _ [(.pointer none)], relL_cellAV _ [(.pointer none)]⟩, (fun h => by cases h), (fun q hq => by cases hq)⟩
-- func(int) *cells.holder
def ty280 : TyRow := ⟨.func, 1, 8, [.nilF], false, false, [], false⟩
theorem ty280_met : ty280.met Tryz.prog 280 := ⟨⟨(funcOf Tryz.prog 280).1, (funcOf Tryz.prog 280).2.1, (funcOf Tryz.prog 280).2.2, by kernel_rfl⟩, ⟨(Tryz.prog.info? 280).getD default, .nilFunc, by kernel_rfl, by kernel_rfl, by kernel_rfl, by kernel_rfl, rfl, relL_cellAV _ [.nilFunc], relL_cellAV _ [.nilFunc]⟩, (fun h => by cases h), (fun q hq => by cases hq)⟩
-- struct { thread int; held bool }
def ty281 : TyRow := ⟨.struct [(0, 3), (1, 4)], 2, 16, [.lit .i64 0, .ff], true, false, [], false⟩
theorem ty281_met : ty281.met Tryz.prog 281 := ⟨⟨Tryz.prog.fieldsOf 281, by kernel_rfl, by kernel_rfl⟩, ⟨(Tryz.prog.info? 281).getD default, (.agg #[(.int .i64 0), (.bool false)]), by kernel_rfl, by kernel_rfl, by kernel_rfl, by kernel_rfl, rfl, ⟨[(.int .i64 0), (.bool false)], relL_cellAV _ [(.int .i64 0), (.bool false)], rfl⟩, relL_cellAV _ [(.int .i64 0), (.bool false)]⟩, fun _ => ⟨by kernel_rfl, by kernel_rfl, names_ok (by kernel_rfl) (by kernel_rfl)⟩, (fun q hq => by cases hq)⟩
-- cells.holder
def ty282 : TyRow := ⟨.struct [(0, 3), (1, 4)], 2, 16, [.lit .i64 0, .ff], true, false, [], false⟩
theorem ty282_met : ty282.met Tryz.prog 282 := ⟨⟨Tryz.prog.fieldsOf 282, by kernel_rfl, by kernel_rfl⟩, ⟨(Tryz.prog.info? 282).getD default, (.agg #[(.int .i64 0), (.bool false)]), by kernel_rfl, by kernel_rfl, by kernel_rfl, by kernel_rfl, rfl, ⟨[(.int .i64 0), (.bool false)], relL_cellAV _ [(.int .i64 0), (.bool false)], rfl⟩, relL_cellAV _ [(.int .i64 0), (.bool false)]⟩, fun _ => ⟨by kernel_rfl, by kernel_rfl, names_ok (by kernel_rfl) (by kernel_rfl)⟩, (fun q hq => by cases hq)⟩
-- func(api.Deed)
def ty283 : TyRow := ⟨.func, 1, 8, [.nilF], false, false, [], false⟩
theorem ty283_met : ty283.met Tryz.prog 283 := ⟨⟨(funcOf Tryz.prog 283).1, (funcOf Tryz.prog 283).2.1, (funcOf Tryz.prog 283).2.2, by kernel_rfl⟩, ⟨(Tryz.prog.info? 283).getD default, .nilFunc, by kernel_rfl, by kernel_rfl, by kernel_rfl, by kernel_rfl, rfl, relL_cellAV _ [.nilFunc], relL_cellAV _ [.nilFunc]⟩, (fun h => by cases h), (fun q hq => by cases hq)⟩
-- *int
def ty284 : TyRow := ⟨.ptr 3, 1, 8, [.nilP], false, false, [], false⟩
theorem ty284_met : ty284.met Tryz.prog 284 := ⟨(show Tryz.prog.underlying 284 = some (.pointer 3) by kernel_rfl), ⟨(Tryz.prog.info? 284).getD default, (.pointer none), by kernel_rfl, by kernel_rfl, by kernel_rfl, by kernel_rfl, rfl, relL_cellAV _ [(.pointer none)], relL_cellAV _ [(.pointer none)]⟩, (fun h => by cases h), (fun q hq => by cases hq)⟩
-- func(int) *int
def ty285 : TyRow := ⟨.func, 1, 8, [.nilF], false, false, [], false⟩
theorem ty285_met : ty285.met Tryz.prog 285 := ⟨⟨(funcOf Tryz.prog 285).1, (funcOf Tryz.prog 285).2.1, (funcOf Tryz.prog 285).2.2, by kernel_rfl⟩, ⟨(Tryz.prog.info? 285).getD default, .nilFunc, by kernel_rfl, by kernel_rfl, by kernel_rfl, by kernel_rfl, rfl, relL_cellAV _ [.nilFunc], relL_cellAV _ [.nilFunc]⟩, (fun h => by cases h), (fun q hq => by cases hq)⟩
-- func(int)
def ty286 : TyRow := ⟨.func, 1, 8, [.nilF], false, false, [], false⟩
theorem ty286_met : ty286.met Tryz.prog 286 := ⟨⟨(funcOf Tryz.prog 286).1, (funcOf Tryz.prog 286).2.1, (funcOf Tryz.prog 286).2.2, by kernel_rfl⟩, ⟨(Tryz.prog.info? 286).getD default, .nilFunc, by kernel_rfl, by kernel_rfl, by kernel_rfl, by kernel_rfl, rfl, relL_cellAV _ [.nilFunc], relL_cellAV _ [.nilFunc]⟩, (fun h => by cases h), (fun q hq => by cases hq)⟩
-- func(bool)
def ty287 : TyRow := ⟨.func, 1, 8, [.nilF], false, false, [], false⟩
theorem ty287_met : ty287.met Tryz.prog 287 := ⟨⟨(funcOf Tryz.prog 287).1, (funcOf Tryz.prog 287).2.1, (funcOf Tryz.prog 287).2.2, by kernel_rfl⟩, ⟨(Tryz.prog.info? 287).getD default, .nilFunc, by kernel_rfl, by kernel_rfl, by kernel_rfl, by kernel_rfl, rfl, relL_cellAV _ [.nilFunc], relL_cellAV _ [.nilFunc]⟩, (fun h => by cases h), (fun q hq => by cases hq)⟩
-- func() []int
def ty288 : TyRow := ⟨.func, 1, 8, [.nilF], false, false, [], false⟩
theorem ty288_met : ty288.met Tryz.prog 288 := ⟨⟨(funcOf Tryz.prog 288).1, (funcOf Tryz.prog 288).2.1, (funcOf Tryz.prog 288).2.2, by kernel_rfl⟩, ⟨(Tryz.prog.info? 288).getD default, .nilFunc, by kernel_rfl, by kernel_rfl, by kernel_rfl, by kernel_rfl, rfl, relL_cellAV _ [.nilFunc], relL_cellAV _ [.nilFunc]⟩, (fun h => by cases h), (fun q hq => by cases hq)⟩
-- reflectlite.flag
def ty290 : TyRow := ⟨.int .u64, 1, 8, [.lit .u64 0], false, false, [], false⟩
theorem ty290_met : ty290.met Tryz.prog 290 := ⟨(show Tryz.prog.underlying 290 = some (.int .u64) by kernel_rfl), ⟨(Tryz.prog.info? 290).getD default, (.int .u64 0), by kernel_rfl, by kernel_rfl, by kernel_rfl, by kernel_rfl, rfl, relL_cellAV _ [(.int .u64 0)], relL_cellAV _ [(.int .u64 0)]⟩, (fun h => by cases h), (fun q hq => by cases hq)⟩
-- struct { typ_ *abi.Type; ptr unsafe.Pointer; reflectlite.flag }
def ty291 : TyRow := ⟨.struct [(0, 17), (1, 289), (2, 290)], 3, 24, [.nilP, .nilP, .lit .u64 0], false, false, [], false⟩
theorem ty291_met : ty291.met Tryz.prog 291 := ⟨⟨Tryz.prog.fieldsOf 291, by kernel_rfl, by kernel_rfl⟩, ⟨(Tryz.prog.info? 291).getD default, (.agg #[(.pointer none), (.pointer none), (.int .u64 0)]), by kernel_rfl, by kernel_rfl, by kernel_rfl, by kernel_rfl, rfl, ⟨[(.pointer none), (.pointer none), (.int .u64 0)], relL_cellAV _ [(.pointer none), (.pointer none), (.int .u64 0)], rfl⟩, relL_cellAV _ [(.pointer none), (.pointer none), (.int .u64 0)]⟩, (fun h => by cases h), (fun q hq => by cases hq)⟩
-- reflectlite.Value
def ty292 : TyRow := ⟨.struct [(0, 17), (1, 289), (2, 290)], 3, 24, [.nilP, .nilP, .lit .u64 0], false, false, [], false⟩
theorem ty292_met : ty292.met Tryz.prog 292 := ⟨⟨Tryz.prog.fieldsOf 292, by kernel_rfl, by kernel_rfl⟩, ⟨(Tryz.prog.info? 292).getD default, (.agg #[(.pointer none), (.pointer none), (.int .u64 0)]), by kernel_rfl, by kernel_rfl, by kernel_rfl, by kernel_rfl, rfl, ⟨[(.pointer none), (.pointer none), (.int .u64 0)], relL_cellAV _ [(.pointer none), (.pointer none), (.int .u64 0)], rfl⟩, relL_cellAV _ [(.pointer none), (.pointer none), (.int .u64 0)]⟩, (fun h => by cases h), (fun q hq => by cases hq)⟩
-- func(interface {}) reflectlite.Value
def ty293 : TyRow := ⟨.func, 1, 8, [.nilF], false, false, [], false⟩
theorem ty293_met : ty293.met Tryz.prog 293 := ⟨⟨(funcOf Tryz.prog 293).1, (funcOf Tryz.prog 293).2.1, (funcOf Tryz.prog 293).2.2, by kernel_rfl⟩, ⟨(Tryz.prog.info? 293).getD default, .nilFunc, by kernel_rfl, by kernel_rfl, by kernel_rfl, by kernel_rfl, rfl, relL_cellAV _ [.nilFunc], relL_cellAV _ [.nilFunc]⟩, (fun h => by cases h), (fun q hq => by cases hq)⟩
-- func() reflectlite.Type
def ty294 : TyRow := ⟨.func, 1, 8, [.nilF], false, false, [], false⟩
theorem ty294_met : ty294.met Tryz.prog 294 := ⟨⟨(funcOf Tryz.prog 294).1, (funcOf Tryz.prog 294).2.1, (funcOf Tryz.prog 294).2.2, by kernel_rfl⟩, ⟨(Tryz.prog.info? 294).getD default, .nilFunc, by kernel_rfl, by kernel_rfl, by kernel_rfl, by kernel_rfl, rfl, relL_cellAV _ [.nilFunc], relL_cellAV _ [.nilFunc]⟩, (fun h => by cases h), (fun q hq => by cases hq)⟩
-- abi.Kind
def ty295 : TyRow := ⟨.int .u8, 1, 1, [.lit .u8 0], false, false, [], false⟩
theorem ty295_met : ty295.met Tryz.prog 295 := ⟨(show Tryz.prog.underlying 295 = some (.int .u8) by kernel_rfl), ⟨(Tryz.prog.info? 295).getD default, (.int .u8 0), by kernel_rfl, by kernel_rfl, by kernel_rfl, by kernel_rfl, rfl, relL_cellAV _ [(.int .u8 0)], relL_cellAV _ [(.int .u8 0)]⟩, (fun h => by cases h), (fun q hq => by cases hq)⟩
-- func() abi.Kind
def ty296 : TyRow := ⟨.func, 1, 8, [.nilF], false, false, [], false⟩
theorem ty296_met : ty296.met Tryz.prog 296 := ⟨⟨(funcOf Tryz.prog 296).1, (funcOf Tryz.prog 296).2.1, (funcOf Tryz.prog 296).2.2, by kernel_rfl⟩, ⟨(Tryz.prog.info? 296).getD default, .nilFunc, by kernel_rfl, by kernel_rfl, by kernel_rfl, by kernel_rfl, rfl, relL_cellAV _ [.nilFunc], relL_cellAV _ [.nilFunc]⟩, (fun h => by cases h), (fun q hq => by cases hq)⟩
-- func(reflectlite.Type) bool
def ty297 : TyRow := ⟨.func, 1, 8, [.nilF], false, false, [], false⟩
theorem ty297_met : ty297.met Tryz.prog 297 := ⟨⟨(funcOf Tryz.prog 297).1, (funcOf Tryz.prog 297).2.1, (funcOf Tryz.prog 297).2.2, by kernel_rfl⟩, ⟨(Tryz.prog.info? 297).getD default, .nilFunc, by kernel_rfl, by kernel_rfl, by kernel_rfl, by kernel_rfl, rfl, relL_cellAV _ [.nilFunc], relL_cellAV _ [.nilFunc]⟩, (fun h => by cases h), (fun q hq => by cases hq)⟩
-- func(error, interface {}, reflectlite.Value, reflectlite.Type) bool
def ty298 : TyRow := ⟨.func, 1, 8, [.nilF], false, false, [], false⟩
theorem ty298_met : ty298.met Tryz.prog 298 := ⟨⟨(funcOf Tryz.prog 298).1, (funcOf Tryz.prog 298).2.1, (funcOf Tryz.prog 298).2.2, by kernel_rfl⟩, ⟨(Tryz.prog.info? 298).getD default, .nilFunc, by kernel_rfl, by kernel_rfl, by kernel_rfl, by kernel_rfl, rfl, relL_cellAV _ [.nilFunc], relL_cellAV _ [.nilFunc]⟩, (fun h => by cases h), (fun q hq => by cases hq)⟩
-- func(api.Entry) (api.Entry, bool)
def ty299 : TyRow := ⟨.func, 1, 8, [.nilF], false, false, [], false⟩
theorem ty299_met : ty299.met Tryz.prog 299 := ⟨⟨(funcOf Tryz.prog 299).1, (funcOf Tryz.prog 299).2.1, (funcOf Tryz.prog 299).2.2, by kernel_rfl⟩, ⟨(Tryz.prog.info? 299).getD default, .nilFunc, by kernel_rfl, by kernel_rfl, by kernel_rfl, by kernel_rfl, rfl, relL_cellAV _ [.nilFunc], relL_cellAV _ [.nilFunc]⟩, (fun h => by cases h), (fun q hq => by cases hq)⟩
-- func(api.Event) int
def ty300 : TyRow := ⟨.func, 1, 8, [.nilF], false, false, [], false⟩
theorem ty300_met : ty300.met Tryz.prog 300 := ⟨⟨(funcOf Tryz.prog 300).1, (funcOf Tryz.prog 300).2.1, (funcOf Tryz.prog 300).2.2, by kernel_rfl⟩, ⟨(Tryz.prog.info? 300).getD default, .nilFunc, by kernel_rfl, by kernel_rfl, by kernel_rfl, by kernel_rfl, rfl, relL_cellAV _ [.nilFunc], relL_cellAV _ [.nilFunc]⟩, (fun h => by cases h), (fun q hq => by cases hq)⟩
-- func(int, bool) (api.Entry, bool)
def ty301 : TyRow := ⟨.func, 1, 8, [.nilF], false, false, [], false⟩
theorem ty301_met : ty301.met Tryz.prog 301 := ⟨⟨(funcOf Tryz.prog 301).1, (funcOf Tryz.prog 301).2.1, (funcOf Tryz.prog 301).2.2, by kernel_rfl⟩, ⟨(Tryz.prog.info? 301).getD default, .nilFunc, by kernel_rfl, by kernel_rfl, by kernel_rfl, by kernel_rfl, rfl, relL_cellAV _ [.nilFunc], relL_cellAV _ [.nilFunc]⟩, (fun h => by cases h), (fun q hq => by cases hq)⟩
-- func(func(stripes.keeper) int) int
def ty302 : TyRow := ⟨.func, 1, 8, [.nilF], false, false, [], false⟩
theorem ty302_met : ty302.met Tryz.prog 302 := ⟨⟨(funcOf Tryz.prog 302).1, (funcOf Tryz.prog 302).2.1, (funcOf Tryz.prog 302).2.2, by kernel_rfl⟩, ⟨(Tryz.prog.info? 302).getD default, .nilFunc, by kernel_rfl, by kernel_rfl, by kernel_rfl, by kernel_rfl, rfl, relL_cellAV _ [.nilFunc], relL_cellAV _ [.nilFunc]⟩, (fun h => by cases h), (fun q hq => by cases hq)⟩
-- func(stripes.keeper) int
def ty303 : TyRow := ⟨.func, 1, 8, [.nilF], false, false, [], false⟩
theorem ty303_met : ty303.met Tryz.prog 303 := ⟨⟨(funcOf Tryz.prog 303).1, (funcOf Tryz.prog 303).2.1, (funcOf Tryz.prog 303).2.2, by kernel_rfl⟩, ⟨(Tryz.prog.info? 303).getD default, .nilFunc, by kernel_rfl, by kernel_rfl, by kernel_rfl, by kernel_rfl, rfl, relL_cellAV _ [.nilFunc], relL_cellAV _ [.nilFunc]⟩, (fun h => by cases h), (fun q hq => by cases hq)⟩
-- struct { id int; weight int }
def ty304 : TyRow := ⟨.struct [(0, 3), (1, 3)], 2, 16, [.lit .i64 0, .lit .i64 0], true, false, [], false⟩
theorem ty304_met : ty304.met Tryz.prog 304 := ⟨⟨Tryz.prog.fieldsOf 304, by kernel_rfl, by kernel_rfl⟩, ⟨(Tryz.prog.info? 304).getD default, (.agg #[(.int .i64 0), (.int .i64 0)]), by kernel_rfl, by kernel_rfl, by kernel_rfl, by kernel_rfl, rfl, ⟨[(.int .i64 0), (.int .i64 0)], relL_cellAV _ [(.int .i64 0), (.int .i64 0)], rfl⟩, relL_cellAV _ [(.int .i64 0), (.int .i64 0)]⟩, fun _ => ⟨by kernel_rfl, by kernel_rfl, names_ok (by kernel_rfl) (by kernel_rfl)⟩, (fun q hq => by cases hq)⟩
-- pantryref07.item
def ty305 : TyRow := ⟨.struct [(0, 3), (1, 3)], 2, 16, [.lit .i64 0, .lit .i64 0], true, false, [], false⟩
theorem ty305_met : ty305.met Tryz.prog 305 := ⟨⟨Tryz.prog.fieldsOf 305, by kernel_rfl, by kernel_rfl⟩, ⟨(Tryz.prog.info? 305).getD default, (.agg #[(.int .i64 0), (.int .i64 0)]), by kernel_rfl, by kernel_rfl, by kernel_rfl, by kernel_rfl, rfl, ⟨[(.int .i64 0), (.int .i64 0)], relL_cellAV _ [(.int .i64 0), (.int .i64 0)], rfl⟩, relL_cellAV _ [(.int .i64 0), (.int .i64 0)]⟩, fun _ => ⟨by kernel_rfl, by kernel_rfl, names_ok (by kernel_rfl) (by kernel_rfl)⟩, (fun q hq => by cases hq)⟩
-- []pantryref07.item
def ty306 : TyRow := ⟨.slice 305, 1, 24, [.nilS], false, false, [], false⟩
theorem ty306_met : ty306.met Tryz.prog 306 := ⟨(show Tryz.prog.underlying 306 = some (.slice 305) by kernel_rfl), ⟨(Tryz.prog.info? 306).getD default, (.slice none 0 0), by kernel_rfl, by kernel_rfl, by kernel_rfl, by kernel_rfl, rfl, relL_cellAV _ [(.slice none 0 0)], relL_cellAV _ [(.slice none 0 0)]⟩, (fun h => by cases h), (fun q hq => by cases hq)⟩
-- func(int) (bool, bool)
def ty308 : TyRow := ⟨.func, 1, 8, [.nilF], false, false, [], false⟩
theorem ty308_met : ty308.met Tryz.prog 308 := ⟨⟨(funcOf Tryz.prog 308).1, (funcOf Tryz.prog 308).2.1, (funcOf Tryz.prog 308).2.2, by kernel_rfl⟩, ⟨(Tryz.prog.info? 308).getD default, .nilFunc, by kernel_rfl, by kernel_rfl, by kernel_rfl, by kernel_rfl, rfl, relL_cellAV _ [.nilFunc], relL_cellAV _ [.nilFunc]⟩, (fun h => by cases h), (fun q hq => by cases hq)⟩
-- func(api.Climb, bool) api.Climb
def ty309 : TyRow := ⟨.func, 1, 8, [.nilF], false, false, [], false⟩
theorem ty309_met : ty309.met Tryz.prog 309 := ⟨⟨(funcOf Tryz.prog 309).1, (funcOf Tryz.prog 309).2.1, (funcOf Tryz.prog 309).2.2, by kernel_rfl⟩, ⟨(Tryz.prog.info? 309).getD default, .nilFunc, by kernel_rfl, by kernel_rfl, by kernel_rfl, by kernel_rfl, rfl, relL_cellAV _ [.nilFunc], relL_cellAV _ [.nilFunc]⟩, (fun h => by cases h), (fun q hq => by cases hq)⟩
-- func(api.Climb, int) bool
def ty310 : TyRow := ⟨.func, 1, 8, [.nilF], false, false, [], false⟩
theorem ty310_met : ty310.met Tryz.prog 310 := ⟨⟨(funcOf Tryz.prog 310).1, (funcOf Tryz.prog 310).2.1, (funcOf Tryz.prog 310).2.2, by kernel_rfl⟩, ⟨(Tryz.prog.info? 310).getD default, .nilFunc, by kernel_rfl, by kernel_rfl, by kernel_rfl, by kernel_rfl, rfl, relL_cellAV _ [.nilFunc], relL_cellAV _ [.nilFunc]⟩, (fun h => by cases h), (fun q hq => by cases hq)⟩
-- func(api.Climb, int) (api.Climb, int)
def ty312 : TyRow := ⟨.func, 1, 8, [.nilF], false, false, [], false⟩
theorem ty312_met : ty312.met Tryz.prog 312 := ⟨⟨(funcOf Tryz.prog 312).1, (funcOf Tryz.prog 312).2.1, (funcOf Tryz.prog 312).2.2, by kernel_rfl⟩, ⟨(Tryz.prog.info? 312).getD default, .nilFunc, by kernel_rfl, by kernel_rfl, by kernel_rfl, by kernel_rfl, rfl, relL_cellAV _ [.nilFunc], relL_cellAV _ [.nilFunc]⟩, (fun h => by cases h), (fun q hq => by cases hq)⟩
-- func(api.Quota, int) api.Quota
def ty313 : TyRow := ⟨.func, 1, 8, [.nilF], false, false, [], false⟩
theorem ty313_met : ty313.met Tryz.prog 313 := ⟨⟨(funcOf Tryz.prog 313).1, (funcOf Tryz.prog 313).2.1, (funcOf Tryz.prog 313).2.2, by kernel_rfl⟩, ⟨(Tryz.prog.info? 313).getD default, .nilFunc, by kernel_rfl, by kernel_rfl, by kernel_rfl, by kernel_rfl, rfl, relL_cellAV _ [.nilFunc], relL_cellAV _ [.nilFunc]⟩, (fun h => by cases h), (fun q hq => by cases hq)⟩
-- func(int) (int, bool)
def ty314 : TyRow := ⟨.func, 1, 8, [.nilF], false, false, [], false⟩
theorem ty314_met : ty314.met Tryz.prog 314 := ⟨⟨(funcOf Tryz.prog 314).1, (funcOf Tryz.prog 314).2.1, (funcOf Tryz.prog 314).2.2, by kernel_rfl⟩, ⟨(Tryz.prog.info? 314).getD default, .nilFunc, by kernel_rfl, by kernel_rfl, by kernel_rfl, by kernel_rfl, rfl, relL_cellAV _ [.nilFunc], relL_cellAV _ [.nilFunc]⟩, (fun h => by cases h), (fun q hq => by cases hq)⟩
-- func() reflectlite.Value
def ty315 : TyRow := ⟨.func, 1, 8, [.nilF], false, false, [], false⟩
theorem ty315_met : ty315.met Tryz.prog 315 := ⟨⟨(funcOf Tryz.prog 315).1, (funcOf Tryz.prog 315).2.1, (funcOf Tryz.prog 315).2.2, by kernel_rfl⟩, ⟨(Tryz.prog.info? 315).getD default, .nilFunc, by kernel_rfl, by kernel_rfl, by kernel_rfl, by kernel_rfl, rfl, relL_cellAV _ [.nilFunc], relL_cellAV _ [.nilFunc]⟩, (fun h => by cases h), (fun q hq => by cases hq)⟩
-- func(reflectlite.Value)
def ty316 : TyRow := ⟨.func, 1, 8, [.nilF], false, false, [], false⟩
theorem ty316_met : ty316.met Tryz.prog 316 := ⟨⟨(funcOf Tryz.prog 316).1, (funcOf Tryz.prog 316).2.1, (funcOf Tryz.prog 316).2.2, by kernel_rfl⟩, ⟨(Tryz.prog.info? 316).getD default, .nilFunc, by kernel_rfl, by kernel_rfl, by kernel_rfl, by kernel_rfl, rfl, relL_cellAV _ [.nilFunc], relL_cellAV _ [.nilFunc]⟩, (fun h => by cases h), (fun q hq => by cases hq)⟩
-- interface { As(interface {}) bool }
def ty317 : TyRow := ⟨.iface, 1, 16, [.nilI], false, false, [], false⟩
theorem ty317_met : ty317.met Tryz.prog 317 := ⟨⟨ifaceOf Tryz.prog 317, by kernel_rfl⟩, ⟨(Tryz.prog.info? 317).getD default, .nilIface, by kernel_rfl, by kernel_rfl, by kernel_rfl, by kernel_rfl, rfl, relL_cellAV _ [.nilIface], relL_cellAV _ [.nilIface]⟩, (fun h => by cases h), (fun q hq => by cases hq)⟩
-- func(interface {}) bool
def ty319 : TyRow := ⟨.func, 1, 8, [.nilF], false, false, [], false⟩
theorem ty319_met : ty319.met Tryz.prog 319 := ⟨⟨(funcOf Tryz.prog 319).1, (funcOf Tryz.prog 319).2.1, (funcOf Tryz.prog 319).2.2, by kernel_rfl⟩, ⟨(Tryz.prog.info? 319).getD default, .nilFunc, by kernel_rfl, by kernel_rfl, by kernel_rfl, by kernel_rfl, rfl, relL_cellAV _ [.nilFunc], relL_cellAV _ [.nilFunc]⟩, (fun h => by cases h), (fun q hq => by cases hq)⟩
-- *table.link
def ty320 : TyRow := ⟨.ptr 324, 1, 8, [.nilP], false, false, [], false⟩
theorem ty320_met : ty320.met Tryz.prog 320 := ⟨(show Tryz.prog.underlying 320 = some (.pointer 324) by kernel_rfl), ⟨(Tryz.prog.info? 320).getD default, (.pointer none), by kernel_rfl, by kernel_rfl, by kernel_rfl, by kernel_rfl, rfl, relL_cellAV _ [(.pointer none)], relL_cellAV _ [(.pointer none)]⟩, (fun h => by cases h), (fun q hq => by cases hq)⟩
-- **table.link
def ty321 : TyRow := ⟨.ptr 320, 1, 8, [.nilP], false, false, [], false⟩
theorem ty321_met : ty321.met Tryz.prog 321 := ⟨(show Tryz.prog.underlying 321 = some (.pointer 320) by kernel_rfl), ⟨(Tryz.prog.info? 321).getD default, (.pointer none), by kernel_rfl, by kernel_rfl, by kernel_rfl, by kernel_rfl, rfl, relL_cellAV _ [(.pointer none)], relL_cellAV _ [(.pointer none)]⟩, (fun h => by cases h), (fun q hq => by cases hq)⟩
-- func(int) **table.link
def ty322 : TyRow := ⟨.func, 1, 8, [.nilF], false, false, [], false⟩
theorem ty322_met : ty322.met Tryz.prog 322 := ⟨⟨(funcOf Tryz.prog 322).1, (funcOf Tryz.prog 322).2.1, (funcOf Tryz.prog 322).2.2, by kernel_rfl⟩, ⟨(Tryz.prog.info? 322).getD default, .nilFunc, by kernel_rfl, by kernel_rfl, by kernel_rfl, by kernel_rfl, rfl, relL_cellAV _ [.nilFunc], relL_cellAV _ [.nilFunc]⟩, (fun h => by cases h), (fun q hq => by cases hq)⟩
-- struct { entry api.Entry; next *table.link }
def ty323 : TyRow := ⟨.struct [(0, 217), (4, 320)], 5, 40, [.lit .i64 0, .lit .i64 0, .lit .i64 0, .lit .i64 0, .nilP], false, false, [], false⟩
theorem ty323_met : ty323.met Tryz.prog 323 := ⟨⟨Tryz.prog.fieldsOf 323, by kernel_rfl, by kernel_rfl⟩, ⟨(Tryz.prog.info? 323).getD default, (.agg #[(.int .i64 0), (.int .i64 0), (.int .i64 0), (.int .i64 0), (.pointer none)]), by kernel_rfl, by kernel_rfl, by kernel_rfl, by kernel_rfl, rfl, ⟨[(.int .i64 0), (.int .i64 0), (.int .i64 0), (.int .i64 0), (.pointer none)], relL_cellAV _ [(.int .i64 0), (.int .i64 0), (.int .i64 0), (.int .i64 0), (.pointer none)], rfl⟩, relL_cellAV _ [(.int .i64 0), (.int .i64 0), (.int .i64 0), (.int .i64 0), (.pointer none)]⟩, (fun h => by cases h), (fun q hq => by cases hq)⟩
-- table.link
def ty324 : TyRow := ⟨.struct [(0, 217), (4, 320)], 5, 40, [.lit .i64 0, .lit .i64 0, .lit .i64 0, .lit .i64 0, .nilP], false, false, [], false⟩
theorem ty324_met : ty324.met Tryz.prog 324 := ⟨⟨Tryz.prog.fieldsOf 324, by kernel_rfl, by kernel_rfl⟩, ⟨(Tryz.prog.info? 324).getD default, (.agg #[(.int .i64 0), (.int .i64 0), (.int .i64 0), (.int .i64 0), (.pointer none)]), by kernel_rfl, by kernel_rfl, by kernel_rfl, by kernel_rfl, rfl, ⟨[(.int .i64 0), (.int .i64 0), (.int .i64 0), (.int .i64 0), (.pointer none)], relL_cellAV _ [(.int .i64 0), (.int .i64 0), (.int .i64 0), (.int .i64 0), (.pointer none)], rfl⟩, relL_cellAV _ [(.int .i64 0), (.int .i64 0), (.int .i64 0), (.int .i64 0), (.pointer none)]⟩, (fun h => by cases h), (fun q hq => by cases hq)⟩
-- func(int, int)
def ty325 : TyRow := ⟨.func, 1, 8, [.nilF], false, false, [], false⟩
theorem ty325_met : ty325.met Tryz.prog 325 := ⟨⟨(funcOf Tryz.prog 325).1, (funcOf Tryz.prog 325).2.1, (funcOf Tryz.prog 325).2.2, by kernel_rfl⟩, ⟨(Tryz.prog.info? 325).getD default, .nilFunc, by kernel_rfl, by kernel_rfl, by kernel_rfl, by kernel_rfl, rfl, relL_cellAV _ [.nilFunc], relL_cellAV _ [.nilFunc]⟩, (fun h => by cases h), (fun q hq => by cases hq)⟩
-- func(int) *deque.list
def ty326 : TyRow := ⟨.func, 1, 8, [.nilF], false, false, [], false⟩
theorem ty326_met : ty326.met Tryz.prog 326 := ⟨⟨(funcOf Tryz.prog 326).1, (funcOf Tryz.prog 326).2.1, (funcOf Tryz.prog 326).2.2, by kernel_rfl⟩, ⟨(Tryz.prog.info? 326).getD default, .nilFunc, by kernel_rfl, by kernel_rfl, by kernel_rfl, by kernel_rfl, rfl, relL_cellAV _ [.nilFunc], relL_cellAV _ [.nilFunc]⟩, (fun h => by cases h), (fun q hq => by cases hq)⟩
-- func(*deque.element)
def ty327 : TyRow := ⟨.func, 1, 8, [.nilF], false, false, [], false⟩
theorem ty327_met : ty327.met Tryz.prog 327 := ⟨⟨(funcOf Tryz.prog 327).1, (funcOf Tryz.prog 327).2.1, (funcOf Tryz.prog 327).2.2, by kernel_rfl⟩, ⟨(Tryz.prog.info? 327).getD default, .nilFunc, by kernel_rfl, by kernel_rfl, by kernel_rfl, by kernel_rfl, rfl, relL_cellAV _ [.nilFunc], relL_cellAV _ [.nilFunc]⟩, (fun h => by cases h), (fun q hq => by cases hq)⟩
-- func(int, int) int
def ty328 : TyRow := ⟨.func, 1, 8, [.nilF], false, false, [], false⟩
theorem ty328_met : ty328.met Tryz.prog 328 := ⟨⟨(funcOf Tryz.prog 328).1, (funcOf Tryz.prog 328).2.1, (funcOf Tryz.prog 328).2.2, by kernel_rfl⟩, ⟨(Tryz.prog.info? 328).getD default, .nilFunc, by kernel_rfl, by kernel_rfl, by kernel_rfl, by kernel_rfl, rfl, relL_cellAV _ [.nilFunc], relL_cellAV _ [.nilFunc]⟩, (fun h => by cases h), (fun q hq => by cases hq)⟩
-- func(api.Climb) api.Climb
def ty329 : TyRow := ⟨.func, 1, 8, [.nilF], false, false, [], false⟩
theorem ty329_met : ty329.met Tryz.prog 329 := ⟨⟨(funcOf Tryz.prog 329).1, (funcOf Tryz.prog 329).2.1, (funcOf Tryz.prog 329).2.2, by kernel_rfl⟩, ⟨(Tryz.prog.info? 329).getD default, .nilFunc, by kernel_rfl, by kernel_rfl, by kernel_rfl, by kernel_rfl, rfl, relL_cellAV _ [.nilFunc], relL_cellAV _ [.nilFunc]⟩, (fun h => by cases h), (fun q hq => by cases hq)⟩
-- func(api.Climb) int
def ty330 : TyRow := ⟨.func, 1, 8, [.nilF], false, false, [], false⟩
theorem ty330_met : ty330.met Tryz.prog 330 := ⟨⟨(funcOf Tryz.prog 330).1, (funcOf Tryz.prog 330).2.1, (funcOf Tryz.prog 330).2.2, by kernel_rfl⟩, ⟨(Tryz.prog.info? 330).getD default, .nilFunc, by kernel_rfl, by kernel_rfl, by kernel_rfl, by kernel_rfl, rfl, relL_cellAV _ [.nilFunc], relL_cellAV _ [.nilFunc]⟩, (fun h => by cases h), (fun q hq => by cases hq)⟩
-- func(int) []int
def ty331 : TyRow := ⟨.func, 1, 8, [.nilF], false, false, [], false⟩
theorem ty331_met : ty331.met Tryz.prog 331 := ⟨⟨(funcOf Tryz.prog 331).1, (funcOf Tryz.prog 331).2.1, (funcOf Tryz.prog 331).2.2, by kernel_rfl⟩, ⟨(Tryz.prog.info? 331).getD default, .nilFunc, by kernel_rfl, by kernel_rfl, by kernel_rfl, by kernel_rfl, rfl, relL_cellAV _ [.nilFunc], relL_cellAV _ [.nilFunc]⟩, (fun h => by cases h), (fun q hq => by cases hq)⟩
-- func(...int) bool
def ty332 : TyRow := ⟨.func, 1, 8, [.nilF], false, false, [], false⟩
theorem ty332_met : ty332.met Tryz.prog 332 := ⟨⟨(funcOf Tryz.prog 332).1, (funcOf Tryz.prog 332).2.1, (funcOf Tryz.prog 332).2.2, by kernel_rfl⟩, ⟨(Tryz.prog.info? 332).getD default, .nilFunc, by kernel_rfl, by kernel_rfl, by kernel_rfl, by kernel_rfl, rfl, relL_cellAV _ [.nilFunc], relL_cellAV _ [.nilFunc]⟩, (fun h => by cases h), (fun q hq => by cases hq)⟩
-- [4]int
def ty333 : TyRow := ⟨.array 4 3, 4, 32, [.lit .i64 0, .lit .i64 0, .lit .i64 0, .lit .i64 0], true, false, [], false⟩
theorem ty333_met : ty333.met Tryz.prog 333 := ⟨(show Tryz.prog.underlying 333 = some (.array 4 3) by kernel_rfl), ⟨(Tryz.prog.info? 333).getD default, (.agg #[(.int .i64 0), (.int .i64 0), (.int .i64 0), (.int .i64 0)]), by kernel_rfl, by kernel_rfl, by kernel_rfl, by kernel_rfl, rfl, ⟨[(.int .i64 0), (.int .i64 0), (.int .i64 0), (.int .i64 0)], relL_cellAV _ [(.int .i64 0), (.int .i64 0), (.int .i64 0), (.int .i64 0)], rfl⟩, relL_cellAV _ [(.int .i64 0), (.int .i64 0), (.int .i64 0), (.int .i64 0)]⟩, (fun _ => ⟨by kernel_rfl, by kernel_rfl, fun fields hf => by rw [(show Tryz.prog.underlying 333 = some (.array 4 3) by kernel_rfl)] at hf; cases hf⟩), (fun q hq => by cases hq)⟩
-- func(int) [4]int
def ty334 : TyRow := ⟨.func, 1, 8, [.nilF], false, false, [], false⟩
theorem ty334_met : ty334.met Tryz.prog 334 := ⟨⟨(funcOf Tryz.prog 334).1, (funcOf Tryz.prog 334).2.1, (funcOf Tryz.prog 334).2.2, by kernel_rfl⟩, ⟨(Tryz.prog.info? 334).getD default, .nilFunc, by kernel_rfl, by kernel_rfl, by kernel_rfl, by kernel_rfl, rfl, relL_cellAV _ [.nilFunc], relL_cellAV _ [.nilFunc]⟩, (fun h => by cases h), (fun q hq => by cases hq)⟩
-- func(uint64, int) (uint64, bool)
def ty336 : TyRow := ⟨.func, 1, 8, [.nilF], false, false, [], false⟩
theorem ty336_met : ty336.met Tryz.prog 336 := ⟨⟨(funcOf Tryz.prog 336).1, (funcOf Tryz.prog 336).2.1, (funcOf Tryz.prog 336).2.2, by kernel_rfl⟩, ⟨(Tryz.prog.info? 336).getD default, .nilFunc, by kernel_rfl, by kernel_rfl, by kernel_rfl, by kernel_rfl, rfl, relL_cellAV _ [.nilFunc], relL_cellAV _ [.nilFunc]⟩, (fun h => by cases h), (fun q hq => by cases hq)⟩
-- func(uint64, int) int
def ty337 : TyRow := ⟨.func, 1, 8, [.nilF], false, false, [], false⟩
theorem ty337_met : ty337.met Tryz.prog 337 := ⟨⟨(funcOf Tryz.prog 337).1, (funcOf Tryz.prog 337).2.1, (funcOf Tryz.prog 337).2.2, by kernel_rfl⟩, ⟨(Tryz.prog.info? 337).getD default, .nilFunc, by kernel_rfl, by kernel_rfl, by kernel_rfl, by kernel_rfl, rfl, relL_cellAV _ [.nilFunc], relL_cellAV _ [.nilFunc]⟩, (fun h => by cases h), (fun q hq => by cases hq)⟩
-- func(uint64) uint64
def ty338 : TyRow := ⟨.func, 1, 8, [.nilF], false, false, [], false⟩
theorem ty338_met : ty338.met Tryz.prog 338 := ⟨⟨(funcOf Tryz.prog 338).1, (funcOf Tryz.prog 338).2.1, (funcOf Tryz.prog 338).2.2, by kernel_rfl⟩, ⟨(Tryz.prog.info? 338).getD default, .nilFunc, by kernel_rfl, by kernel_rfl, by kernel_rfl, by kernel_rfl, rfl, relL_cellAV _ [.nilFunc], relL_cellAV _ [.nilFunc]⟩, (fun h => by cases h), (fun q hq => by cases hq)⟩
-- func(*int, int, int)
def ty339 : TyRow := ⟨.func, 1, 8, [.nilF], false, false, [], false⟩
theorem ty339_met : ty339.met Tryz.prog 339 := ⟨⟨(funcOf Tryz.prog 339).1, (funcOf Tryz.prog 339).2.1, (funcOf Tryz.prog 339).2.2, by kernel_rfl⟩, ⟨(Tryz.prog.info? 339).getD default, .nilFunc, by kernel_rfl, by kernel_rfl, by kernel_rfl, by kernel_rfl, rfl, relL_cellAV _ [.nilFunc], relL_cellAV _ [.nilFunc]⟩, (fun h => by cases h), (fun q hq => by cases hq)⟩
-- func() string
def ty340 : TyRow := ⟨.func, 1, 8, [.nilF], false, false, [], false⟩
theorem ty340_met : ty340.met Tryz.prog 340 := ⟨⟨(funcOf Tryz.prog 340).1, (funcOf Tryz.prog 340).2.1, (funcOf Tryz.prog 340).2.2, by kernel_rfl⟩, ⟨(Tryz.prog.info? 340).getD default, .nilFunc, by kernel_rfl, by kernel_rfl, by kernel_rfl, by kernel_rfl, rfl, relL_cellAV _ [.nilFunc], relL_cellAV _ [.nilFunc]⟩, (fun h => by cases h), (fun q hq => by cases hq)⟩
-- struct { _interface *abi.Type; concrete *abi.Type; asserted *abi.Type; missingMethod string }
def ty341 : TyRow := ⟨.struct [(0, 17), (1, 17), (2, 17), (3, 9)], 4, 40, [.nilP, .nilP, .nilP, .raw (.string (ByteArray.mk #[]))], false, false, [], false⟩
theorem ty341_met : ty341.met Tryz.prog 341 := ⟨⟨Tryz.prog.fieldsOf 341, by kernel_rfl, by kernel_rfl⟩, ⟨(Tryz.prog.info? 341).getD default, (.agg #[(.pointer none), (.pointer none), (.pointer none), (.string (ByteArray.mk #[]))]), by kernel_rfl, by kernel_rfl, by kernel_rfl, by kernel_rfl, rfl, ⟨[(.pointer none), (.pointer none), (.pointer none), (.string (ByteArray.mk #[]))], relL_cellAV _ [(.pointer none), (.pointer none), (.pointer none), (.string (ByteArray.mk #[]))], rfl⟩, relL_cellAV _ [(.pointer none), (.pointer none), (.pointer none), (.string (ByteArray.mk #[]))]⟩, (fun h => by cases h), (fun q hq => by cases hq)⟩
-- runtime.TypeAssertionError
def ty342 : TyRow := ⟨.struct [(0, 17), (1, 17), (2, 17), (3, 9)], 4, 40, [.nilP, .nilP, .nilP, .raw (.string (ByteArray.mk #[]))], false, false, [], false⟩
theorem ty342_met : ty342.met Tryz.prog 342 := ⟨⟨Tryz.prog.fieldsOf 342, by kernel_rfl, by kernel_rfl⟩, ⟨(Tryz.prog.info? 342).getD default, (.agg #[(.pointer none), (.pointer none), (.pointer none), (.string (ByteArray.mk #[]))]), by kernel_rfl, by kernel_rfl, by kernel_rfl, by kernel_rfl, rfl, ⟨[(.pointer none), (.pointer none), (.pointer none), (.string (ByteArray.mk #[]))], relL_cellAV _ [(.pointer none), (.pointer none), (.pointer none), (.string (ByteArray.mk #[]))], rfl⟩, relL_cellAV _ [(.pointer none), (.pointer none), (.pointer none), (.string (ByteArray.mk #[]))]⟩, (fun h => by cases h), (fun q hq => by cases hq)⟩
-- [0]*runtime.PanicNilError
def ty343 : TyRow := ⟨.array 0 16, 0, 0, [], false, false, [], false⟩
theorem ty343_met : ty343.met Tryz.prog 343 := ⟨(show Tryz.prog.underlying 343 = some (.array 0 16) by kernel_rfl), ⟨(Tryz.prog.info? 343).getD default, (.agg #[]), by kernel_rfl, by kernel_rfl, by kernel_rfl, by kernel_rfl, rfl, ⟨[], relL_cellAV _ [], rfl⟩, relL_cellAV _ []⟩, (fun h => by cases h), (fun q hq => by cases hq)⟩
-- struct { _ [0]*runtime.PanicNilError }
def ty344 : TyRow := ⟨.struct [(0, 343)], 0, 0, [], false, false, [], false⟩
theorem ty344_met : ty344.met Tryz.prog 344 := ⟨⟨Tryz.prog.fieldsOf 344, by kernel_rfl, by kernel_rfl⟩, ⟨(Tryz.prog.info? 344).getD default, (.agg #[]), by kernel_rfl, by kernel_rfl, by kernel_rfl, by kernel_rfl, rfl, ⟨[], relL_cellAV _ [], rfl⟩, relL_cellAV _ []⟩, (fun h => by cases h), (fun q hq => by cases hq)⟩
-- runtime.PanicNilError
def ty345 : TyRow := ⟨.struct [(0, 343)], 0, 0, [], false, false, [], false⟩
theorem ty345_met : ty345.met Tryz.prog 345 := ⟨⟨Tryz.prog.fieldsOf 345, by kernel_rfl, by kernel_rfl⟩, ⟨(Tryz.prog.info? 345).getD default, (.agg #[]), by kernel_rfl, by kernel_rfl, by kernel_rfl, by kernel_rfl, rfl, ⟨[], relL_cellAV _ [], rfl⟩, relL_cellAV _ []⟩, (fun h => by cases h), (fun q hq => by cases hq)⟩
-- func() *abi.Type
def ty346 : TyRow := ⟨.func, 1, 8, [.nilF], false, false, [], false⟩
theorem ty346_met : ty346.met Tryz.prog 346 := ⟨⟨(funcOf Tryz.prog 346).1, (funcOf Tryz.prog 346).2.1, (funcOf Tryz.prog 346).2.2, by kernel_rfl⟩, ⟨(Tryz.prog.info? 346).getD default, .nilFunc, by kernel_rfl, by kernel_rfl, by kernel_rfl, by kernel_rfl, rfl, relL_cellAV _ [.nilFunc], relL_cellAV _ [.nilFunc]⟩, (fun h => by cases h), (fun q hq => by cases hq)⟩
-- uint32
def ty347 : TyRow := ⟨.int .u32, 1, 4, [.lit .u32 0], false, false, [], false⟩
theorem ty347_met : ty347.met Tryz.prog 347 := ⟨(show Tryz.prog.underlying 347 = some (.int .u32) by kernel_rfl), ⟨(Tryz.prog.info? 347).getD default, (.int .u32 0), by kernel_rfl, by kernel_rfl, by kernel_rfl, by kernel_rfl, rfl, relL_cellAV _ [(.int .u32 0)], relL_cellAV _ [(.int .u32 0)]⟩, (fun h => by cases h), (fun q hq => by cases hq)⟩
-- abi.TFlag
def ty348 : TyRow := ⟨.int .u8, 1, 1, [.lit .u8 0], false, false, [], false⟩
theorem ty348_met : ty348.met Tryz.prog 348 := ⟨(show Tryz.prog.underlying 348 = some (.int .u8) by kernel_rfl), ⟨(Tryz.prog.info? 348).getD default, (.int .u8 0), by kernel_rfl, by kernel_rfl, by kernel_rfl, by kernel_rfl, rfl, relL_cellAV _ [(.int .u8 0)], relL_cellAV _ [(.int .u8 0)]⟩, (fun h => by cases h), (fun q hq => by cases hq)⟩
-- func(unsafe.Pointer, unsafe.Pointer) bool
def ty349 : TyRow := ⟨.func, 1, 8, [.nilF], false, false, [], false⟩
theorem ty349_met : ty349.met Tryz.prog 349 := ⟨⟨(funcOf Tryz.prog 349).1, (funcOf Tryz.prog 349).2.1, (funcOf Tryz.prog 349).2.2, by kernel_rfl⟩, ⟨(Tryz.prog.info? 349).getD default, .nilFunc, by kernel_rfl, by kernel_rfl, by kernel_rfl, by kernel_rfl, rfl, relL_cellAV _ [.nilFunc], relL_cellAV _ [.nilFunc]⟩, (fun h => by cases h), (fun q hq => by cases hq)⟩
-- *uint8
def ty350 : TyRow := ⟨.ptr 5, 1, 8, [.nilP], false, false, [], false⟩
theorem ty350_met : ty350.met Tryz.prog 350 := ⟨(show Tryz.prog.underlying 350 = some (.pointer 5) by kernel_rfl), ⟨(Tryz.prog.info? 350).getD default, (.pointer none), by kernel_rfl, by kernel_rfl, by kernel_rfl, by kernel_rfl, rfl, relL_cellAV _ [(.pointer none)], relL_cellAV _ [(.pointer none)]⟩, (fun h => by cases h), (fun q hq => by cases hq)⟩
-- abi.NameOff
def ty351 : TyRow := ⟨.int .i32, 1, 4, [.lit .i32 0], false, false, [], false⟩
theorem ty351_met : ty351.met Tryz.prog 351 := ⟨(show Tryz.prog.underlying 351 = some (.int .i32) by kernel_rfl), ⟨(Tryz.prog.info? 351).getD default, (.int .i32 0), by kernel_rfl, by kernel_rfl, by kernel_rfl, by kernel_rfl, rfl, relL_cellAV _ [(.int .i32 0)], relL_cellAV _ [(.int .i32 0)]⟩, (fun h => by cases h), (fun q hq => by cases hq)⟩
-- abi.TypeOff
def ty352 : TyRow := ⟨.int .i32, 1, 4, [.lit .i32 0], false, false, [], false⟩
theorem ty352_met : ty352.met Tryz.prog 352 := ⟨(show Tryz.prog.underlying 352 = some (.int .i32) by kernel_rfl), ⟨(Tryz.prog.info? 352).getD default, (.int .i32 0), by kernel_rfl, by kernel_rfl, by kernel_rfl, by kernel_rfl, rfl, relL_cellAV _ [(.int .i32 0)], relL_cellAV _ [(.int .i32 0)]⟩, (fun h => by cases h), (fun q hq => by cases hq)⟩
-- struct { Size_ uintptr; PtrBytes uintptr; Hash uint32; TFlag abi.TFlag; Align_ uint8; FieldAlign_ ui
def ty353 : TyRow := ⟨.struct [(0, 12), (1, 12), (2, 347), (3, 348), (4, 5), (5, 5), (6, 295), (7, 349), (8, 350), (9, 351), (10, 352)], 11, 48, [.lit .u64 0, .lit .u64 0, .lit .u32 0, .lit .u8 0, .lit .u8 0, .lit .u8 0, .lit .u8 0, .nilF, .nilP, .lit .i32 0, .lit .i32 0], false, false, [], false⟩
theorem ty353_met : ty353.met Tryz.prog 353 := ⟨⟨Tryz.prog.fieldsOf 353, by kernel_rfl, by kernel_rfl⟩, ⟨(Tryz.prog.info? 353).getD default, (.agg #[(.int .u64 0), (.int .u64 0), (.int .u32 0), (.int .u8 0), (.int .u8 0), (.int .u8 0), (.int .u8 0), .nilFunc, (.pointer none), (.int .i32 0), (.int .i32 0)]), by kernel_rfl, by kernel_rfl, by kernel_rfl, by kernel_rfl, rfl, ⟨[(.int .u64 0), (.int .u64 0), (.int .u32 0), (.int .u8 0), (.int .u8 0), (.int .u8 0), (.int .u8 0), .nilFunc, (.pointer none), (.int .i32 0), (.int .i32 0)], relL_cellAV _ [(.int .u64 0), (.int .u64 0), (.int .u32 0), (.int .u8 0), (.int .u8 0), (.int .u8 0), (.int .u8 0), .nilFunc, (.pointer none), (.int .i32 0), (.int .i32 0)], rfl⟩, relL_cellAV _ [(.int .u64 0), (.int .u64 0), (.int .u32 0), (.int .u8 0), (.int .u8 0), (.int .u8 0), (.int .u8 0), .nilFunc, (.pointer none), (.int .i32 0), (.int .i32 0)]⟩, (fun h => by cases h), (fun q hq => by cases hq)⟩
-- abi.Type
def ty354 : TyRow := ⟨.struct [(0, 12), (1, 12), (2, 347), (3, 348), (4, 5), (5, 5), (6, 295), (7, 349), (8, 350), (9, 351), (10, 352)], 11, 48, [.lit .u64 0, .lit .u64 0, .lit .u32 0, .lit .u8 0, .lit .u8 0, .lit .u8 0, .lit .u8 0, .nilF, .nilP, .lit .i32 0, .lit .i32 0], false, false, [], false⟩
theorem ty354_met : ty354.met Tryz.prog 354 := ⟨⟨Tryz.prog.fieldsOf 354, by kernel_rfl, by kernel_rfl⟩, ⟨(Tryz.prog.info? 354).getD default, (.agg #[(.int .u64 0), (.int .u64 0), (.int .u32 0), (.int .u8 0), (.int .u8 0), (.int .u8 0), (.int .u8 0), .nilFunc, (.pointer none), (.int .i32 0), (.int .i32 0)]), by kernel_rfl, by kernel_rfl, by kernel_rfl, by kernel_rfl, rfl, ⟨[(.int .u64 0), (.int .u64 0), (.int .u32 0), (.int .u8 0), (.int .u8 0), (.int .u8 0), (.int .u8 0), .nilFunc, (.pointer none), (.int .i32 0), (.int .i32 0)], relL_cellAV _ [(.int .u64 0), (.int .u64 0), (.int .u32 0), (.int .u8 0), (.int .u8 0), (.int .u8 0), (.int .u8 0), .nilFunc, (.pointer none), (.int .i32 0), (.int .i32 0)], rfl⟩, relL_cellAV _ [(.int .u64 0), (.int .u64 0), (.int .u32 0), (.int .u8 0), (.int .u8 0), (.int .u8 0), (.int .u8 0), .nilFunc, (.pointer none), (.int .i32 0), (.int .i32 0)]⟩, (fun h => by cases h), (fun q hq => by cases hq)⟩
-- func() iter.Seq[*pantry/deque.element]
def ty355 : TyRow := ⟨.func, 1, 8, [.nilF], false, false, [], false⟩
theorem ty355_met : ty355.met Tryz.prog 355 := ⟨⟨(funcOf Tryz.prog 355).1, (funcOf Tryz.prog 355).2.1, (funcOf Tryz.prog 355).2.2, by kernel_rfl⟩, ⟨(Tryz.prog.info? 355).getD default, .nilFunc, by kernel_rfl, by kernel_rfl, by kernel_rfl, by kernel_rfl, rfl, relL_cellAV _ [.nilFunc], relL_cellAV _ [.nilFunc]⟩, (fun h => by cases h), (fun q hq => by cases hq)⟩
-- func() uintptr
def ty356 : TyRow := ⟨.func, 1, 8, [.nilF], false, false, [], false⟩
theorem ty356_met : ty356.met Tryz.prog 356 := ⟨⟨(funcOf Tryz.prog 356).1, (funcOf Tryz.prog 356).2.1, (funcOf Tryz.prog 356).2.2, by kernel_rfl⟩, ⟨(Tryz.prog.info? 356).getD default, .nilFunc, by kernel_rfl, by kernel_rfl, by kernel_rfl, by kernel_rfl, rfl, relL_cellAV _ [.nilFunc], relL_cellAV _ [.nilFunc]⟩, (fun h => by cases h), (fun q hq => by cases hq)⟩
-- func() *abi.UncommonType
def ty357 : TyRow := ⟨.func, 1, 8, [.nilF], false, false, [], false⟩
theorem ty357_met : ty357.met Tryz.prog 357 := ⟨⟨(funcOf Tryz.prog 357).1, (funcOf Tryz.prog 357).2.1, (funcOf Tryz.prog 357).2.2, by kernel_rfl⟩, ⟨(Tryz.prog.info? 357).getD default, .nilFunc, by kernel_rfl, by kernel_rfl, by kernel_rfl, by kernel_rfl, rfl, relL_cellAV _ [.nilFunc], relL_cellAV _ [.nilFunc]⟩, (fun h => by cases h), (fun q hq => by cases hq)⟩
-- struct { Method string; Kind abi.Kind }
def ty358 : TyRow := ⟨.struct [(0, 9), (1, 295)], 2, 24, [.raw (.string (ByteArray.mk #[])), .lit .u8 0], false, false, [], false⟩
theorem ty358_met : ty358.met Tryz.prog 358 := ⟨⟨Tryz.prog.fieldsOf 358, by kernel_rfl, by kernel_rfl⟩, ⟨(Tryz.prog.info? 358).getD default, (.agg #[(.string (ByteArray.mk #[])), (.int .u8 0)]), by kernel_rfl, by kernel_rfl, by kernel_rfl, by kernel_rfl, rfl, ⟨[(.string (ByteArray.mk #[])), (.int .u8 0)], relL_cellAV _ [(.string (ByteArray.mk #[])), (.int .u8 0)], rfl⟩, relL_cellAV _ [(.string (ByteArray.mk #[])), (.int .u8 0)]⟩, (fun h => by cases h), (fun q hq => by cases hq)⟩
-- reflectlite.ValueError
def ty359 : TyRow := ⟨.struct [(0, 9), (1, 295)], 2, 24, [.raw (.string (ByteArray.mk #[])), .lit .u8 0], false, false, [], false⟩
theorem ty359_met : ty359.met Tryz.prog 359 := ⟨⟨Tryz.prog.fieldsOf 359, by kernel_rfl, by kernel_rfl⟩, ⟨(Tryz.prog.info? 359).getD default, (.agg #[(.string (ByteArray.mk #[])), (.int .u8 0)]), by kernel_rfl, by kernel_rfl, by kernel_rfl, by kernel_rfl, rfl, ⟨[(.string (ByteArray.mk #[])), (.int .u8 0)], relL_cellAV _ [(.string (ByteArray.mk #[])), (.int .u8 0)], rfl⟩, relL_cellAV _ [(.string (ByteArray.mk #[])), (.int .u8 0)]⟩, (fun h => by cases h), (fun q hq => by cases hq)⟩
-- func(func(*deque.element) bool)
def ty360 : TyRow := ⟨.func, 1, 8, [.nilF], false, false, [], false⟩
theorem ty360_met : ty360.met Tryz.prog 360 := ⟨⟨(funcOf Tryz.prog 360).1, (funcOf Tryz.prog 360).2.1, (funcOf Tryz.prog 360).2.2, by kernel_rfl⟩, ⟨(Tryz.prog.info? 360).getD default, .nilFunc, by kernel_rfl, by kernel_rfl, by kernel_rfl, by kernel_rfl, rfl, relL_cellAV _ [.nilFunc], relL_cellAV _ [.nilFunc]⟩, (fun h => by cases h), (fun q hq => by cases hq)⟩
-- iter.Seq[*pantry/deque.element]
def ty361 : TyRow := ⟨.func, 1, 8, [.nilF], false, false, [], false⟩
theorem ty361_met : ty361.met Tryz.prog 361 := ⟨⟨(funcOf Tryz.prog 361).1, (funcOf Tryz.prog 361).2.1, (funcOf Tryz.prog 361).2.2, by kernel_rfl⟩, ⟨(Tryz.prog.info? 361).getD default, .nilFunc, by kernel_rfl, by kernel_rfl, by kernel_rfl, by kernel_rfl, rfl, relL_cellAV _ [.nilFunc], relL_cellAV _ [.nilFunc]⟩, (fun h => by cases h), (fun q hq => by cases hq)⟩
-- *abi.UncommonType
def ty362 : TyRow := ⟨.ptr 367, 1, 8, [.nilP], false, false, [], false⟩
theorem ty362_met : ty362.met Tryz.prog 362 := ⟨(show Tryz.prog.underlying 362 = some (.pointer 367) by kernel_rfl), ⟨(Tryz.prog.info? 362).getD default, (.pointer none), by kernel_rfl, by kernel_rfl, by kernel_rfl, by kernel_rfl, rfl, relL_cellAV _ [(.pointer none)], relL_cellAV _ [(.pointer none)]⟩, (fun h => by cases h), (fun q hq => by cases hq)⟩
-- func(*deque.element) bool
def ty363 : TyRow := ⟨.func, 1, 8, [.nilF], false, false, [], false⟩
theorem ty363_met : ty363.met Tryz.prog 363 := ⟨⟨(funcOf Tryz.prog 363).1, (funcOf Tryz.prog 363).2.1, (funcOf Tryz.prog 363).2.2, by kernel_rfl⟩, ⟨(Tryz.prog.info? 363).getD default, .nilFunc, by kernel_rfl, by kernel_rfl, by kernel_rfl, by kernel_rfl, rfl, relL_cellAV _ [.nilFunc], relL_cellAV _ [.nilFunc]⟩, (fun h => by cases h), (fun q hq => by cases hq)⟩
-- func() []abi.Method
def ty364 : TyRow := ⟨.func, 1, 8, [.nilF], false, false, [], false⟩
theorem ty364_met : ty364.met Tryz.prog 364 := ⟨⟨(funcOf Tryz.prog 364).1, (funcOf Tryz.prog 364).2.1, (funcOf Tryz.prog 364).2.2, by kernel_rfl⟩, ⟨(Tryz.prog.info? 364).getD default, .nilFunc, by kernel_rfl, by kernel_rfl, by kernel_rfl, by kernel_rfl, rfl, relL_cellAV _ [.nilFunc], relL_cellAV _ [.nilFunc]⟩, (fun h => by cases h), (fun q hq => by cases hq)⟩
-- uint16
def ty365 : TyRow := ⟨.int .u16, 1, 2, [.lit .u16 0], false, false, [], false⟩
theorem ty365_met : ty365.met Tryz.prog 365 := ⟨(show Tryz.prog.underlying 365 = some (.int .u16) by kernel_rfl), ⟨(Tryz.prog.info? 365).getD default, (.int .u16 0), by kernel_rfl, by kernel_rfl, by kernel_rfl, by kernel_rfl, rfl, relL_cellAV _ [(.int .u16 0)], relL_cellAV _ [(.int .u16 0)]⟩, (fun h => by cases h), (fun q hq => by cases hq)⟩
-- struct { PkgPath abi.NameOff; Mcount uint16; Xcount uint16; Moff uint32; _ uint32 }
def ty366 : TyRow := ⟨.struct [(0, 351), (1, 365), (2, 365), (3, 347), (4, 347)], 5, 16, [.lit .i32 0, .lit .u16 0, .lit .u16 0, .lit .u32 0, .lit .u32 0], false, false, [], false⟩
theorem ty366_met : ty366.met Tryz.prog 366 := ⟨⟨Tryz.prog.fieldsOf 366, by kernel_rfl, by kernel_rfl⟩, ⟨(Tryz.prog.info? 366).getD default, (.agg #[(.int .i32 0), (.int .u16 0), (.int .u16 0), (.int .u32 0), (.int .u32 0)]), by kernel_rfl, by kernel_rfl, by kernel_rfl, by kernel_rfl, rfl, ⟨[(.int .i32 0), (.int .u16 0), (.int .u16 0), (.int .u32 0), (.int .u32 0)], relL_cellAV _ [(.int .i32 0), (.int .u16 0), (.int .u16 0), (.int .u32 0), (.int .u32 0)], rfl⟩, relL_cellAV _ [(.int .i32 0), (.int .u16 0), (.int .u16 0), (.int .u32 0), (.int .u32 0)]⟩, (fun h => by cases h), (fun q hq => by cases hq)⟩
-- abi.UncommonType
def ty367 : TyRow := ⟨.struct [(0, 351), (1, 365), (2, 365), (3, 347), (4, 347)], 5, 16, [.lit .i32 0, .lit .u16 0, .lit .u16 0, .lit .u32 0, .lit .u32 0], false, false, [], false⟩
theorem ty367_met : ty367.met Tryz.prog 367 := ⟨⟨Tryz.prog.fieldsOf 367, by kernel_rfl, by kernel_rfl⟩, ⟨(Tryz.prog.info? 367).getD default, (.agg #[(.int .i32 0), (.int .u16 0), (.int .u16 0), (.int .u32 0), (.int .u32 0)]), by kernel_rfl, by kernel_rfl, by kernel_rfl, by kernel_rfl, rfl, ⟨[(.int .i32 0), (.int .u16 0), (.int .u16 0), (.int .u32 0), (.int .u32 0)], relL_cellAV _ [(.int .i32 0), (.int .u16 0), (.int .u16 0), (.int .u32 0), (.int .u32 0)], rfl⟩, relL_cellAV _ [(.int .i32 0), (.int .u16 0), (.int .u16 0), (.int .u32 0), (.int .u32 0)]⟩, (fun h => by cases h), (fun q hq => by cases hq)⟩
-- []abi.Method
def ty368 : TyRow := ⟨.slice 371, 1, 24, [.nilS], false, false, [], false⟩
theorem ty368_met : ty368.met Tryz.prog 368 := ⟨(show Tryz.prog.underlying 368 = some (.slice 371) by kernel_rfl), ⟨(Tryz.prog.info? 368).getD default, (.slice none 0 0), by kernel_rfl, by kernel_rfl, by kernel_rfl, by kernel_rfl, rfl, relL_cellAV _ [(.slice none 0 0)], relL_cellAV _ [(.slice none 0 0)]⟩, (fun h => by cases h), (fun q hq => by cases hq)⟩
-- abi.TextOff
def ty369 : TyRow := ⟨.int .i32, 1, 4, [.lit .i32 0], false, false, [], false⟩
theorem ty369_met : ty369.met Tryz.prog 369 := ⟨(show Tryz.prog.underlying 369 = some (.int .i32) by kernel_rfl), ⟨(Tryz.prog.info? 369).getD default, (.int .i32 0), by kernel_rfl, by kernel_rfl, by kernel_rfl, by kernel_rfl, rfl, relL_cellAV _ [(.int .i32 0)], relL_cellAV _ [(.int .i32 0)]⟩, (fun h => by cases h), (fun q hq => by cases hq)⟩
-- struct { Name abi.NameOff; Mtyp abi.TypeOff; Ifn abi.TextOff; Tfn abi.TextOff }
def ty370 : TyRow := ⟨.struct [(0, 351), (1, 352), (2, 369), (3, 369)], 4, 16, [.lit .i32 0, .lit .i32 0, .lit .i32 0, .lit .i32 0], false, false, [], false⟩
theorem ty370_met : ty370.met Tryz.prog 370 := ⟨⟨Tryz.prog.fieldsOf 370, by kernel_rfl, by kernel_rfl⟩, ⟨(Tryz.prog.info? 370).getD default, (.agg #[(.int .i32 0), (.int .i32 0), (.int .i32 0), (.int .i32 0)]), by kernel_rfl, by kernel_rfl, by kernel_rfl, by kernel_rfl, rfl, ⟨[(.int .i32 0), (.int .i32 0), (.int .i32 0), (.int .i32 0)], relL_cellAV _ [(.int .i32 0), (.int .i32 0), (.int .i32 0), (.int .i32 0)], rfl⟩, relL_cellAV _ [(.int .i32 0), (.int .i32 0), (.int .i32 0), (.int .i32 0)]⟩, (fun h => by cases h), (fun q hq => by cases hq)⟩
-- abi.Method
def ty371 : TyRow := ⟨.struct [(0, 351), (1, 352), (2, 369), (3, 369)], 4, 16, [.lit .i32 0, .lit .i32 0, .lit .i32 0, .lit .i32 0], false, false, [], false⟩
theorem ty371_met : ty371.met Tryz.prog 371 := ⟨⟨Tryz.prog.fieldsOf 371, by kernel_rfl, by kernel_rfl⟩, ⟨(Tryz.prog.info? 371).getD default, (.agg #[(.int .i32 0), (.int .i32 0), (.int .i32 0), (.int .i32 0)]), by kernel_rfl, by kernel_rfl, by kernel_rfl, by kernel_rfl, rfl, ⟨[(.int .i32 0), (.int .i32 0), (.int .i32 0), (.int .i32 0)], relL_cellAV _ [(.int .i32 0), (.int .i32 0), (.int .i32 0), (.int .i32 0)], rfl⟩, relL_cellAV _ [(.int .i32 0), (.int .i32 0), (.int .i32 0), (.int .i32 0)]⟩, (fun h => by cases h), (fun q hq => by cases hq)⟩
-- *error
def ty372 : TyRow := ⟨.ptr 195, 1, 8, [.nilP], false, false, [], false⟩
theorem ty372_met : ty372.met Tryz.prog 372 := ⟨(show Tryz.prog.underlying 372 = some (.pointer 195) by kernel_rfl), ⟨(Tryz.prog.info? 372).getD default, (.pointer none), by kernel_rfl, by kernel_rfl, by kernel_rfl, by kernel_rfl, rfl, relL_cellAV _ [(.pointer none)], relL_cellAV _ [(.pointer none)]⟩, (fun h => by cases h), (fun q hq => by cases hq)⟩

def tyRows : List (Option TyRow) := [none, some ty1, some ty2, some ty3, some ty4, some ty5, some ty6, some ty7, some ty8, some ty9, some ty10, some ty11, some ty12, some ty13, some ty14, some ty15, some ty16, some ty17, some ty18, some ty19, some ty20, some ty21, some ty22, some ty23, some ty24, some ty25, some ty26, some ty27, some ty28, some ty29, some ty30, some ty31, some ty32, some ty33, none, some ty35, some ty36, some ty37, some ty38, some ty39, some ty40, some ty41, some ty42, some ty43, some ty44, some ty45, some ty46, some ty47, some ty48, some ty49, some ty50, some ty51, some ty52, some ty53, some ty54, some ty55, some ty56, some ty57, some ty58, some ty59, some ty60, some ty61, some ty62, some ty63, some ty64, some ty65, some ty66, some ty67, some ty68, some ty69, some ty70, some ty71, some ty72, some ty73, some ty74, some ty75, some ty76, some ty77, some ty78, some ty79, some ty80, some ty81, some ty82, some ty83, some ty84, some ty85, some ty86, some ty87, some ty88, some ty89, some ty90, some ty91, some ty92, some ty93, some ty94, some ty95, some ty96, some ty97, some ty98, some ty99, some ty100, some ty101, some ty102, some ty103, some ty104, some ty105, some ty106, some ty107, some ty108, some ty109, some ty110, some ty111, some ty112, some ty113, some ty114, some ty115, some ty116, some ty117, some ty118, some ty119, some ty120, some ty121, some ty122, some ty123, some ty124, some ty125, some ty126, some ty127, some ty128, some ty129, some ty130, some ty131, some ty132, some ty133, some ty134, some ty135, some ty136, some ty137, some ty138, some ty139, some ty140, some ty141, some ty142, some ty143, some ty144, some ty145, some ty146, some ty147, some ty148, some ty149, some ty150, some ty151, none, some ty153, some ty154, some ty155, some ty156, some ty157, some ty158, some ty159, some ty160, some ty161, some ty162, some ty163, some ty164, some ty165, some ty166, some ty167, some ty168, some ty169, some ty170, some ty171, some ty172, some ty173, some ty174, some ty175, some ty176, some ty177, some ty178, some ty179, some ty180, some ty181, some ty182, some ty183, some ty184, some ty185, some ty186, some ty187, none, some ty189, some ty190, some ty191, some ty192, some ty193, some ty194, some ty195, some ty196, some ty197, some ty198, some ty199, some ty200, some ty201, some ty202, some ty203, some ty204, some ty205, some ty206, some ty207, some ty208, some ty209, some ty210, some ty211, some ty212, some ty213, some ty214, some ty215, some ty216, some ty217, none, some ty219, some ty220, some ty221, some ty222, some ty223, some ty224, some ty225, none, some ty227, some ty228, some ty229, some ty230, some ty231, some ty232, none, some ty234, some ty235, some ty236, some ty237, some ty238, some ty239, some ty240, some ty241, some ty242, some ty243, some ty244, some ty245, some ty246, some ty247, some ty248, some ty249, some ty250, some ty251, some ty252, some ty253, some ty254, some ty255, some ty256, some ty257, some ty258, some ty259, some ty260, none, some ty262, some ty263, some ty264, some ty265, some ty266, some ty267, some ty268, none, some ty270, some ty271, some ty272, some ty273, some ty274, some ty275, some ty276, some ty277, some ty278, some ty279, some ty280, some ty281, some ty282, some ty283, some ty284, some ty285, some ty286, some ty287, some ty288, none, some ty290, some ty291, some ty292, some ty293, some ty294, some ty295, some ty296, some ty297, some ty298, some ty299, some ty300, some ty301, some ty302, some ty303, some ty304, some ty305, some ty306, none, some ty308, some ty309, some ty310, none, some ty312, some ty313, some ty314, some ty315, some ty316, some ty317, none, some ty319, some ty320, some ty321, some ty322, some ty323, some ty324, some ty325, some ty326, some ty327, some ty328, some ty329, some ty330, some ty331, some ty332, some ty333, some ty334, none, some ty336, some ty337, some ty338, some ty339, some ty340, some ty341, some ty342, some ty343, some ty344, some ty345, some ty346, some ty347, some ty348, some ty349, some ty350, some ty351, some ty352, some ty353, some ty354, some ty355, some ty356, some ty357, some ty358, some ty359, some ty360, some ty361, some ty362, some ty363, some ty364, some ty365, some ty366, some ty367, some ty368, some ty369, some ty370, some ty371, some ty372]
def tab : Tab := fun t => (tyRows[t]?).join
set_option maxRecDepth 100000 in
theorem tyRows_met : RowsMet Tryz.prog 0 tyRows := ⟨ty1_met, ty2_met, ty3_met, ty4_met, ty5_met, ty6_met, ty7_met, ty8_met, ty9_met, ty10_met, ty11_met, ty12_met, ty13_met, ty14_met, ty15_met, ty16_met, ty17_met, ty18_met, ty19_met, ty20_met, ty21_met, ty22_met, ty23_met, ty24_met, ty25_met, ty26_met, ty27_met, ty28_met, ty29_met, ty30_met, ty31_met, ty32_met, ty33_met, ty35_met, ty36_met, ty37_met, ty38_met, ty39_met, ty40_met, ty41_met, ty42_met, ty43_met, ty44_met, ty45_met, ty46_met, ty47_met, ty48_met, ty49_met, ty50_met, ty51_met, ty52_met, ty53_met, ty54_met, ty55_met, ty56_met, ty57_met, ty58_met, ty59_met, ty60_met, ty61_met, ty62_met, ty63_met, ty64_met, ty65_met, ty66_met, ty67_met, ty68_met, ty69_met, ty70_met, ty71_met, ty72_met, ty73_met, ty74_met, ty75_met, ty76_met, ty77_met, ty78_met, ty79_met, ty80_met, ty81_met, ty82_met, ty83_met, ty84_met, ty85_met, ty86_met, ty87_met, ty88_met, ty89_met, ty90_met, ty91_met, ty92_met, ty93_met, ty94_met, ty95_met, ty96_met, ty97_met, ty98_met, ty99_met, ty100_met, ty101_met, ty102_met, ty103_met, ty104_met, ty105_met, ty106_met, ty107_met, ty108_met, ty109_met, ty110_met, ty111_met, ty112_met, ty113_met, ty114_met, ty115_met, ty116_met, ty117_met, ty118_met, ty119_met, ty120_met, ty121_met, ty122_met, ty123_met, ty124_met, ty125_met, ty126_met, ty127_met, ty128_met, ty129_met, ty130_met, ty131_met, ty132_met, ty133_met, ty134_met, ty135_met, ty136_met, ty137_met, ty138_met, ty139_met, ty140_met, ty141_met, ty142_met, ty143_met, ty144_met, ty145_met, ty146_met, ty147_met, ty148_met, ty149_met, ty150_met, ty151_met, ty153_met, ty154_met, ty155_met, ty156_met, ty157_met, ty158_met, ty159_met, ty160_met, ty161_met, ty162_met, ty163_met, ty164_met, ty165_met, ty166_met, ty167_met, ty168_met, ty169_met, ty170_met, ty171_met, ty172_met, ty173_met, ty174_met, ty175_met, ty176_met, ty177_met, ty178_met, ty179_met, ty180_met, ty181_met, ty182_met, ty183_met, ty184_met, ty185_met, ty186_met, ty187_met, ty189_met, ty190_met, ty191_met, ty192_met, ty193_met, ty194_met, ty195_met, ty196_met, ty197_met, ty198_met, ty199_met, ty200_met, ty201_met, ty202_met, ty203_met, ty204_met, ty205_met, ty206_met, ty207_met, ty208_met, ty209_met, ty210_met, ty211_met, ty212_met, ty213_met, ty214_met, ty215_met, ty216_met, ty217_met, ty219_met, ty220_met, ty221_met, ty222_met, ty223_met, ty224_met, ty225_met, ty227_met, ty228_met, ty229_met, ty230_met, ty231_met, ty232_met, ty234_met, ty235_met, ty236_met, ty237_met, ty238_met, ty239_met, ty240_met, ty241_met, ty242_met, ty243_met, ty244_met, ty245_met, ty246_met, ty247_met, ty248_met, ty249_met, ty250_met, ty251_met, ty252_met, ty253_met, ty254_met, ty255_met, ty256_met, ty257_met, ty258_met, ty259_met, ty260_met, ty262_met, ty263_met, ty264_met, ty265_met, ty266_met, ty267_met, ty268_met, ty270_met, ty271_met, ty272_met, ty273_met, ty274_met, ty275_met, ty276_met, ty277_met, ty278_met, ty279_met, ty280_met, ty281_met, ty282_met, ty283_met, ty284_met, ty285_met, ty286_met, ty287_met, ty288_met, ty290_met, ty291_met, ty292_met, ty293_met, ty294_met, ty295_met, ty296_met, ty297_met, ty298_met, ty299_met, ty300_met, ty301_met, ty302_met, ty303_met, ty304_met, ty305_met, ty306_met, ty308_met, ty309_met, ty310_met, ty312_met, ty313_met, ty314_met, ty315_met, ty316_met, ty317_met, ty319_met, ty320_met, ty321_met, ty322_met, ty323_met, ty324_met, ty325_met, ty326_met, ty327_met, ty328_met, ty329_met, ty330_met, ty331_met, ty332_met, ty333_met, ty334_met, ty336_met, ty337_met, ty338_met, ty339_met, ty340_met, ty341_met, ty342_met, ty343_met, ty344_met, ty345_met, ty346_met, ty347_met, ty348_met, ty349_met, ty350_met, ty351_met, ty352_met, ty353_met, ty354_met, ty355_met, ty356_met, ty357_met, ty358_met, ty359_met, ty360_met, ty361_met, ty362_met, ty363_met, ty364_met, ty365_met, ty366_met, ty367_met, ty368_met, ty369_met, ty370_met, ty371_met, ty372_met, trivial⟩
set_option maxRecDepth 100000 in
theorem tab_met : tab.met Tryz.prog := fun t R h => by simpa using rowsMet_get tyRows 0 t R tyRows_met h
end Sx
end Go.Proofs.YtmcmdghmglopnaaGreatDoor

/-
  The records of this seat, and how they lie in cells.
-/
namespace Go.Proofs.YtmcmdghmglopnaaGreatDoor
namespace Sx
open Go

def decI (x : AV) : Option Int := match x.num with | some (.i64, n, _) => some n | _ => none
def decB (x : AV) : Option Bool := match x.bl with | some (b, _) => some b | none => none
theorem decI_ok {x : AV} {n : Int} (h : decI x = some n) {r : Nm} {v : Value} (e : rel r x v) : rel r (.int .i64 n) v := by
  unfold decI at h
  split at h
  · rename_i m l hx; cases h; exact rel_num hx e
  · cases h
theorem decB_ok {x : AV} {b : Bool} (h : decB x = some b) {r : Nm} {v : Value} (e : rel r x v) : rel r (.bool b) v := by
  unfold decB at h
  split at h
  · rename_i m l hx; cases h; exact rel_bl hx e
  · cases h
def intDec : List AV → Option Int
  | [x] => decI x
  | _ => none
theorem intBack (cs : List AV) (a : Int) (h : intDec cs = some a) (r : Nm) (vs : List Value) (hr : relL r cs vs) : relL r [.int .i64 a] vs := by
  unfold intDec at h
  split at h
  · simp only [relL] at hr; obtain ⟨v, us, rfl, h1, rfl⟩ := hr; exact relL_cons.2 ⟨decI_ok h h1, relL_nil⟩
  · cases h
def intLay : Enc Int := ⟨1, false, fun n => [.int .i64 n], intDec, 0, fun _ => rfl, intBack, fun a r vs h => relL_one (xs := [.int .i64 a]) rfl h, by decide⟩
def ptrDec : List AV → Option (Option (Nat × Nat))
  | [.rp o] => some o
  | [.nilP] => some none
  | _ => none
theorem ptrBack (cs : List AV) (a : Option (Nat × Nat)) (h : ptrDec cs = some a) (r : Nm) (vs : List Value) (hr : relL r cs vs) : relL r [.rp a] vs := by
  unfold ptrDec at h
  split at h
  · cases h; exact hr
  · cases h; simp only [relL] at hr; obtain ⟨v, us, rfl, h1, rfl⟩ := hr; exact relL_cons.2 ⟨h1, relL_nil⟩
  · cases h
def ptrLay : Enc (Option (Nat × Nat)) := ⟨1, false, fun n => [.rp n], ptrDec, none, fun _ => rfl, ptrBack, fun a r vs h => relL_one (xs := [.rp a]) rfl h, by decide⟩
def boolDec : List AV → Option Bool
  | [x] => decB x
  | _ => none
theorem boolBack (cs : List AV) (a : Bool) (h : boolDec cs = some a) (r : Nm) (vs : List Value) (hr : relL r cs vs) : relL r [.bool a] vs := by
  unfold boolDec at h
  split at h
  · simp only [relL] at hr; obtain ⟨v, us, rfl, h1, rfl⟩ := hr; exact relL_cons.2 ⟨decB_ok h h1, relL_nil⟩
  · cases h
def boolLay : Enc Bool := ⟨1, false, fun n => [.bool n], boolDec, false, fun _ => rfl, boolBack, fun a r vs h => relL_one (xs := [.bool a]) rfl h, by decide⟩

structure Opr where
  act : Int
  key : Int
  value : Int
  weight : Int
  deriving DecidableEq
def Opr.enc (a : Opr) : List AV := [.int .i64 a.act, .int .i64 a.key, .int .i64 a.value, .int .i64 a.weight]
def Opr.dec : List AV → Option Opr
  | [x0, x1, x2, x3] => (decI x0).bind fun n0 => (decI x1).bind fun n1 => (decI x2).bind fun n2 => (decI x3).bind fun n3 => some (⟨n0, n1, n2, n3⟩ : Opr)
  | _ => none
theorem Opr.back (cs : List AV) (a : Opr) (h : Opr.dec cs = some a) (r : Nm) (vs : List Value) (hr : relL r cs vs) : relL r (Opr.enc a) vs := by
  unfold Opr.dec at h
  split at h
  · simp only [relL] at hr
    obtain ⟨v0, u0, rfl, h0, ⟨v1, u1, rfl, h1, ⟨v2, u2, rfl, h2, ⟨v3, u3, rfl, h3, rfl⟩⟩⟩⟩ := hr
    obtain ⟨n0, e0, h⟩ := Option.bind_eq_some_iff.1 h
    obtain ⟨n1, e1, h⟩ := Option.bind_eq_some_iff.1 h
    obtain ⟨n2, e2, h⟩ := Option.bind_eq_some_iff.1 h
    obtain ⟨n3, e3, h⟩ := Option.bind_eq_some_iff.1 h
    cases h
    simp only [Opr.enc]
    exact relL_cons.2 ⟨decI_ok e0 h0, relL_cons.2 ⟨decI_ok e1 h1, relL_cons.2 ⟨decI_ok e2 h2, relL_cons.2 ⟨decI_ok e3 h3, relL_nil⟩⟩⟩⟩
  · cases h
def Opr.lay : Enc Opr := ⟨4, true, Opr.enc, Opr.dec, ⟨0, 0, 0, 0⟩, fun _ => rfl, Opr.back, fun a r vs h => relL_one (xs := Opr.enc a) rfl h, by decide⟩
end Sx
end Go.Proofs.YtmcmdghmglopnaaGreatDoor

