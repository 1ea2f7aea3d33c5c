/-
  The table of types of this seat, out of its translation, and that the program has these types.
-/
import Derived.Test.YtnegocgblmdihaaGreatDoorCuttingP3
import Derived.Test.YtnegocgblmdihaaGreatDoorRows
namespace Go.Proofs.YtnegocgblmdihaaGreatDoor
namespace Sx
open Go

def ifaceOf (P : Program) (t : Nat) : Array (String × TypeId) := match P.underlying t with | some (.interface ms) => ms | _ => #[]
def funcOf (P : Program) (t : Nat) : Array TypeId × Array TypeId × Bool := match P.underlying t with | some (.func a b c) => (a, b, c) | _ => (#[], #[], false)
theorem names_ok {P : Program} {t : Nat} (h : P.underlying t = some (.struct (P.fieldsOf t))) (k : ((P.fieldsOf t).toList.all fun f => !(f.name == "_")) = true) :
    ∀ fields, P.underlying t = some (.struct fields) → ∀ f ∈ fields.toList, f.name ≠ "_" := by
  intro fields hf f hm
  rw [h] at hf; cases hf
  have := List.all_eq_true.1 k f hm
  simpa using this

def RowsMet (P : Program) : Nat → List (Option TyRow) → Prop
  | _, [] => True
  | k, none :: l => RowsMet P (k + 1) l
  | k, some R :: l => R.met P k ∧ RowsMet P (k + 1) l
theorem rowsMet_get {P : Program} : ∀ (l : List (Option TyRow)) (k t : Nat) (R : TyRow), RowsMet P k l → l[t]?.join = some R → R.met P (k + t)
  | [], _, _, _, _, h => by simp at h
  | none :: l, k, t, R, hm, h => by
    cases t with
    | zero => simp at h
    | succ t => have := rowsMet_get l (k + 1) t R hm (by simpa using h); rwa [show k + 1 + t = k + (t + 1) by omega] at this
  | some R' :: l, k, t, R, hm, h => by
    cases t with
    | zero => simp at h; subst h; exact hm.1
    | succ t => have := rowsMet_get l (k + 1) t R hm.2 (by simpa using h); rwa [show k + 1 + t = k + (t + 1) by omega] at this

-- func()
def ty1 : TyRow := ⟨.func, 1, 8, [.nilF], false, false, [], false⟩
theorem ty1_met : ty1.met Tryz.prog 1 := ⟨⟨(funcOf Tryz.prog 1).1, (funcOf Tryz.prog 1).2.1, (funcOf Tryz.prog 1).2.2, by kernel_rfl⟩, ⟨(Tryz.prog.info? 1).getD default, .nilFunc, by kernel_rfl, by kernel_rfl, by kernel_rfl, by kernel_rfl, rfl, relL_cellAV _ [.nilFunc], relL_cellAV _ [.nilFunc]⟩, (fun h => by cases h), (fun q hq => by cases hq)⟩
-- int64
def ty2 : TyRow := ⟨.int .i64, 1, 8, [.lit .i64 0], false, false, [], false⟩
theorem ty2_met : ty2.met Tryz.prog 2 := ⟨(show Tryz.prog.underlying 2 = some (.int .i64) by kernel_rfl), ⟨(Tryz.prog.info? 2).getD default, (.int .i64 0), by kernel_rfl, by kernel_rfl, by kernel_rfl, by kernel_rfl, rfl, relL_cellAV _ [(.int .i64 0)], relL_cellAV _ [(.int .i64 0)]⟩, (fun h => by cases h), (fun q hq => by cases hq)⟩
-- int
def ty3 : TyRow := ⟨.int .i64, 1, 8, [.lit .i64 0], false, false, [], false⟩
theorem ty3_met : ty3.met Tryz.prog 3 := ⟨(show Tryz.prog.underlying 3 = some (.int .i64) by kernel_rfl), ⟨(Tryz.prog.info? 3).getD default, (.int .i64 0), by kernel_rfl, by kernel_rfl, by kernel_rfl, by kernel_rfl, rfl, relL_cellAV _ [(.int .i64 0)], relL_cellAV _ [(.int .i64 0)]⟩, (fun h => by cases h), (fun q hq => by cases hq)⟩
-- bool
def ty4 : TyRow := ⟨.bool, 1, 1, [.ff], false, false, [], false⟩
theorem ty4_met : ty4.met Tryz.prog 4 := ⟨(show Tryz.prog.underlying 4 = some (.bool) by kernel_rfl), ⟨(Tryz.prog.info? 4).getD default, (.bool false), by kernel_rfl, by kernel_rfl, by kernel_rfl, by kernel_rfl, rfl, relL_cellAV _ [(.bool false)], relL_cellAV _ [(.bool false)]⟩, (fun h => by cases h), (fun q hq => by cases hq)⟩
-- uint8
def ty5 : TyRow := ⟨.int .u8, 1, 1, [.lit .u8 0], false, false, [], false⟩
theorem ty5_met : ty5.met Tryz.prog 5 := ⟨(show Tryz.prog.underlying 5 = some (.int .u8) by kernel_rfl), ⟨(Tryz.prog.info? 5).getD default, (.int .u8 0), by kernel_rfl, by kernel_rfl, by kernel_rfl, by kernel_rfl, rfl, relL_cellAV _ [(.int .u8 0)], relL_cellAV _ [(.int .u8 0)]⟩, (fun h => by cases h), (fun q hq => by cases hq)⟩
-- abi.BoundsErrorCode
def ty6 : TyRow := ⟨.int .u8, 1, 1, [.lit .u8 0], false, false, [], false⟩
theorem ty6_met : ty6.met Tryz.prog 6 := ⟨(show Tryz.prog.underlying 6 = some (.int .u8) by kernel_rfl), ⟨(Tryz.prog.info? 6).getD default, (.int .u8 0), by kernel_rfl, by kernel_rfl, by kernel_rfl, by kernel_rfl, rfl, relL_cellAV _ [(.int .u8 0)], relL_cellAV _ [(.int .u8 0)]⟩, (fun h => by cases h), (fun q hq => by cases hq)⟩
-- struct { x int64; y int; signed bool; code abi.BoundsErrorCode }
def ty7 : TyRow := ⟨.struct [(0, 2), (1, 3), (2, 4), (3, 6)], 4, 24, [.lit .i64 0, .lit .i64 0, .ff, .lit .u8 0], true, false, [], false⟩
theorem ty7_met : ty7.met Tryz.prog 7 := ⟨⟨Tryz.prog.fieldsOf 7, by kernel_rfl, by kernel_rfl⟩, ⟨(Tryz.prog.info? 7).getD default, (.agg #[(.int .i64 0), (.int .i64 0), (.bool false), (.int .u8 0)]), by kernel_rfl, by kernel_rfl, by kernel_rfl, by kernel_rfl, rfl, ⟨[(.int .i64 0), (.int .i64 0), (.bool false), (.int .u8 0)], relL_cellAV _ [(.int .i64 0), (.int .i64 0), (.bool false), (.int .u8 0)], rfl⟩, relL_cellAV _ [(.int .i64 0), (.int .i64 0), (.bool false), (.int .u8 0)]⟩, fun _ => ⟨by kernel_rfl, by kernel_rfl, names_ok (by kernel_rfl) (by kernel_rfl)⟩, (fun q hq => by cases hq)⟩
-- runtime.boundsError
def ty8 : TyRow := ⟨.struct [(0, 2), (1, 3), (2, 4), (3, 6)], 4, 24, [.lit .i64 0, .lit .i64 0, .ff, .lit .u8 0], true, false, [], false⟩
theorem ty8_met : ty8.met Tryz.prog 8 := ⟨⟨Tryz.prog.fieldsOf 8, by kernel_rfl, by kernel_rfl⟩, ⟨(Tryz.prog.info? 8).getD default, (.agg #[(.int .i64 0), (.int .i64 0), (.bool false), (.int .u8 0)]), by kernel_rfl, by kernel_rfl, by kernel_rfl, by kernel_rfl, rfl, ⟨[(.int .i64 0), (.int .i64 0), (.bool false), (.int .u8 0)], relL_cellAV _ [(.int .i64 0), (.int .i64 0), (.bool false), (.int .u8 0)], rfl⟩, relL_cellAV _ [(.int .i64 0), (.int .i64 0), (.bool false), (.int .u8 0)]⟩, fun _ => ⟨by kernel_rfl, by kernel_rfl, names_ok (by kernel_rfl) (by kernel_rfl)⟩, (fun q hq => by cases hq)⟩
-- string
def ty9 : TyRow := ⟨.str, 1, 16, [.raw (.string (ByteArray.mk #[]))], false, false, [], false⟩
theorem ty9_met : ty9.met Tryz.prog 9 := ⟨(show Tryz.prog.underlying 9 = some (.string) by kernel_rfl), ⟨(Tryz.prog.info? 9).getD default, (.string (ByteArray.mk #[])), by kernel_rfl, by kernel_rfl, by kernel_rfl, by kernel_rfl, rfl, relL_cellAV _ [(.string (ByteArray.mk #[]))], relL_cellAV _ [(.string (ByteArray.mk #[]))]⟩, (fun h => by cases h), (fun q hq => by cases hq)⟩
-- runtime.errorString
def ty10 : TyRow := ⟨.str, 1, 16, [.raw (.string (ByteArray.mk #[]))], false, false, [], false⟩
theorem ty10_met : ty10.met Tryz.prog 10 := ⟨(show Tryz.prog.underlying 10 = some (.string) by kernel_rfl), ⟨(Tryz.prog.info? 10).getD default, (.string (ByteArray.mk #[])), by kernel_rfl, by kernel_rfl, by kernel_rfl, by kernel_rfl, rfl, relL_cellAV _ [(.string (ByteArray.mk #[]))], relL_cellAV _ [(.string (ByteArray.mk #[]))]⟩, (fun h => by cases h), (fun q hq => by cases hq)⟩
-- runtime.plainError
def ty11 : TyRow := ⟨.str, 1, 16, [.raw (.string (ByteArray.mk #[]))], false, false, [], false⟩
theorem ty11_met : ty11.met Tryz.prog 11 := ⟨(show Tryz.prog.underlying 11 = some (.string) by kernel_rfl), ⟨(Tryz.prog.info? 11).getD default, (.string (ByteArray.mk #[])), by kernel_rfl, by kernel_rfl, by kernel_rfl, by kernel_rfl, rfl, relL_cellAV _ [(.string (ByteArray.mk #[]))], relL_cellAV _ [(.string (ByteArray.mk #[]))]⟩, (fun h => by cases h), (fun q hq => by cases hq)⟩
-- uintptr
def ty12 : TyRow := ⟨.int .u64, 1, 8, [.lit .u64 0], false, false, [], false⟩
theorem ty12_met : ty12.met Tryz.prog 12 := ⟨(show Tryz.prog.underlying 12 = some (.int .u64) by kernel_rfl), ⟨(Tryz.prog.info? 12).getD default, (.int .u64 0), by kernel_rfl, by kernel_rfl, by kernel_rfl, by kernel_rfl, rfl, relL_cellAV _ [(.int .u64 0)], relL_cellAV _ [(.int .u64 0)]⟩, (fun h => by cases h), (fun q hq => by cases hq)⟩
-- struct { msg string; addr uintptr }
def ty13 : TyRow := ⟨.struct [(0, 9), (1, 12)], 2, 24, [.raw (.string (ByteArray.mk #[])), .lit .u64 0], false, false, [], false⟩
theorem ty13_met : ty13.met Tryz.prog 13 := ⟨⟨Tryz.prog.fieldsOf 13, by kernel_rfl, by kernel_rfl⟩, ⟨(Tryz.prog.info? 13).getD default, (.agg #[(.string (ByteArray.mk #[])), (.int .u64 0)]), by kernel_rfl, by kernel_rfl, by kernel_rfl, by kernel_rfl, rfl, ⟨[(.string (ByteArray.mk #[])), (.int .u64 0)], relL_cellAV _ [(.string (ByteArray.mk #[])), (.int .u64 0)], rfl⟩, relL_cellAV _ [(.string (ByteArray.mk #[])), (.int .u64 0)]⟩, (fun h => by cases h), (fun q hq => by cases hq)⟩
-- runtime.errorAddressString
def ty14 : TyRow := ⟨.struct [(0, 9), (1, 12)], 2, 24, [.raw (.string (ByteArray.mk #[])), .lit .u64 0], false, false, [], false⟩
theorem ty14_met : ty14.met Tryz.prog 14 := ⟨⟨Tryz.prog.fieldsOf 14, by kernel_rfl, by kernel_rfl⟩, ⟨(Tryz.prog.info? 14).getD default, (.agg #[(.string (ByteArray.mk #[])), (.int .u64 0)]), by kernel_rfl, by kernel_rfl, by kernel_rfl, by kernel_rfl, rfl, ⟨[(.string (ByteArray.mk #[])), (.int .u64 0)], relL_cellAV _ [(.string (ByteArray.mk #[])), (.int .u64 0)], rfl⟩, relL_cellAV _ [(.string (ByteArray.mk #[])), (.int .u64 0)]⟩, (fun h => by cases h), (fun q hq => by cases hq)⟩
-- *runtime.TypeAssertionError
def ty15 : TyRow := ⟨.ptr 351, 1, 8, [.nilP], false, false, [], false⟩
theorem ty15_met : ty15.met Tryz.prog 15 := ⟨(show Tryz.prog.underlying 15 = some (.pointer 351) by kernel_rfl), ⟨(Tryz.prog.info? 15).getD default, (.pointer none), by kernel_rfl, by kernel_rfl, by kernel_rfl, by kernel_rfl, rfl, relL_cellAV _ [(.pointer none)], relL_cellAV _ [(.pointer none)]⟩, (fun h => by cases h), (fun q hq => by cases hq)⟩
-- *runtime.PanicNilError
def ty16 : TyRow := ⟨.ptr 354, 1, 8, [.nilP], false, false, [], false⟩
theorem ty16_met : ty16.met Tryz.prog 16 := ⟨(show Tryz.prog.underlying 16 = some (.pointer 354) by kernel_rfl), ⟨(Tryz.prog.info? 16).getD default, (.pointer none), by kernel_rfl, by kernel_rfl, by kernel_rfl, by kernel_rfl, rfl, relL_cellAV _ [(.pointer none)], relL_cellAV _ [(.pointer none)]⟩, (fun h => by cases h), (fun q hq => by cases hq)⟩
-- *abi.Type
def ty17 : TyRow := ⟨.ptr 362, 1, 8, [.nilP], false, false, [], false⟩
theorem ty17_met : ty17.met Tryz.prog 17 := ⟨(show Tryz.prog.underlying 17 = some (.pointer 362) by kernel_rfl), ⟨(Tryz.prog.info? 17).getD default, (.pointer none), by kernel_rfl, by kernel_rfl, by kernel_rfl, by kernel_rfl, rfl, relL_cellAV _ [(.pointer none)], relL_cellAV _ [(.pointer none)]⟩, (fun h => by cases h), (fun q hq => by cases hq)⟩
-- struct { typ *abi.Type }
def ty18 : TyRow := ⟨.struct [(0, 17)], 1, 8, [.nilP], false, false, [], false⟩
theorem ty18_met : ty18.met Tryz.prog 18 := ⟨⟨Tryz.prog.fieldsOf 18, by kernel_rfl, by kernel_rfl⟩, ⟨(Tryz.prog.info? 18).getD default, (.agg #[(.pointer none)]), by kernel_rfl, by kernel_rfl, by kernel_rfl, by kernel_rfl, rfl, ⟨[(.pointer none)], relL_cellAV _ [(.pointer none)], rfl⟩, relL_cellAV _ [(.pointer none)]⟩, (fun h => by cases h), (fun q hq => by cases hq)⟩
-- maps.unhashableTypeError
def ty19 : TyRow := ⟨.struct [(0, 17)], 1, 8, [.nilP], false, false, [], false⟩
theorem ty19_met : ty19.met Tryz.prog 19 := ⟨⟨Tryz.prog.fieldsOf 19, by kernel_rfl, by kernel_rfl⟩, ⟨(Tryz.prog.info? 19).getD default, (.agg #[(.pointer none)]), by kernel_rfl, by kernel_rfl, by kernel_rfl, by kernel_rfl, rfl, ⟨[(.pointer none)], relL_cellAV _ [(.pointer none)], rfl⟩, relL_cellAV _ [(.pointer none)]⟩, (fun h => by cases h), (fun q hq => by cases hq)⟩
-- interface {}
def ty20 : TyRow := ⟨.iface, 1, 16, [.nilI], false, false, [], false⟩
theorem ty20_met : ty20.met Tryz.prog 20 := ⟨⟨ifaceOf Tryz.prog 20, by kernel_rfl⟩, ⟨(Tryz.prog.info? 20).getD default, .nilIface, by kernel_rfl, by kernel_rfl, by kernel_rfl, by kernel_rfl, rfl, relL_cellAV _ [.nilIface], relL_cellAV _ [.nilIface]⟩, (fun h => by cases h), (fun q hq => by cases hq)⟩
-- int32
def ty21 : TyRow := ⟨.int .i32, 1, 4, [.lit .i32 0], false, false, [], false⟩
theorem ty21_met : ty21.met Tryz.prog 21 := ⟨(show Tryz.prog.underlying 21 = some (.int .i32) by kernel_rfl), ⟨(Tryz.prog.info? 21).getD default, (.int .i32 0), by kernel_rfl, by kernel_rfl, by kernel_rfl, by kernel_rfl, rfl, relL_cellAV _ [(.int .i32 0)], relL_cellAV _ [(.int .i32 0)]⟩, (fun h => by cases h), (fun q hq => by cases hq)⟩
-- []uint8
def ty22 : TyRow := ⟨.slice 5, 1, 24, [.nilS], false, false, [], false⟩
theorem ty22_met : ty22.met Tryz.prog 22 := ⟨(show Tryz.prog.underlying 22 = some (.slice 5) by kernel_rfl), ⟨(Tryz.prog.info? 22).getD default, (.slice none 0 0), by kernel_rfl, by kernel_rfl, by kernel_rfl, by kernel_rfl, rfl, relL_cellAV _ [(.slice none 0 0)], relL_cellAV _ [(.slice none 0 0)]⟩, (fun h => by cases h), (fun q hq => by cases hq)⟩
-- struct { Capacity int; Seed int; Shards int; Stripes int; Ring int; Writes int }
def ty23 : TyRow := ⟨.struct [(0, 3), (1, 3), (2, 3), (3, 3), (4, 3), (5, 3)], 6, 48, [.lit .i64 0, .lit .i64 0, .lit .i64 0, .lit .i64 0, .lit .i64 0, .lit .i64 0], true, false, [], false⟩
theorem ty23_met : ty23.met Tryz.prog 23 := ⟨⟨Tryz.prog.fieldsOf 23, by kernel_rfl, by kernel_rfl⟩, ⟨(Tryz.prog.info? 23).getD default, (.agg #[(.int .i64 0), (.int .i64 0), (.int .i64 0), (.int .i64 0), (.int .i64 0), (.int .i64 0)]), by kernel_rfl, by kernel_rfl, by kernel_rfl, by kernel_rfl, rfl, ⟨[(.int .i64 0), (.int .i64 0), (.int .i64 0), (.int .i64 0), (.int .i64 0), (.int .i64 0)], relL_cellAV _ [(.int .i64 0), (.int .i64 0), (.int .i64 0), (.int .i64 0), (.int .i64 0), (.int .i64 0)], rfl⟩, relL_cellAV _ [(.int .i64 0), (.int .i64 0), (.int .i64 0), (.int .i64 0), (.int .i64 0), (.int .i64 0)]⟩, fun _ => ⟨by kernel_rfl, by kernel_rfl, names_ok (by kernel_rfl) (by kernel_rfl)⟩, (fun q hq => by cases hq)⟩
-- api.Config
def ty24 : TyRow := ⟨.struct [(0, 3), (1, 3), (2, 3), (3, 3), (4, 3), (5, 3)], 6, 48, [.lit .i64 0, .lit .i64 0, .lit .i64 0, .lit .i64 0, .lit .i64 0, .lit .i64 0], true, false, [], false⟩
theorem ty24_met : ty24.met Tryz.prog 24 := ⟨⟨Tryz.prog.fieldsOf 24, by kernel_rfl, by kernel_rfl⟩, ⟨(Tryz.prog.info? 24).getD default, (.agg #[(.int .i64 0), (.int .i64 0), (.int .i64 0), (.int .i64 0), (.int .i64 0), (.int .i64 0)]), by kernel_rfl, by kernel_rfl, by kernel_rfl, by kernel_rfl, rfl, ⟨[(.int .i64 0), (.int .i64 0), (.int .i64 0), (.int .i64 0), (.int .i64 0), (.int .i64 0)], relL_cellAV _ [(.int .i64 0), (.int .i64 0), (.int .i64 0), (.int .i64 0), (.int .i64 0), (.int .i64 0)], rfl⟩, relL_cellAV _ [(.int .i64 0), (.int .i64 0), (.int .i64 0), (.int .i64 0), (.int .i64 0), (.int .i64 0)]⟩, fun _ => ⟨by kernel_rfl, by kernel_rfl, names_ok (by kernel_rfl) (by kernel_rfl)⟩, (fun q hq => by cases hq)⟩
-- [][]api.Op
def ty25 : TyRow := ⟨.slice 47, 1, 24, [.nilS], false, false, [], false⟩
theorem ty25_met : ty25.met Tryz.prog 25 := ⟨(show Tryz.prog.underlying 25 = some (.slice 47) by kernel_rfl), ⟨(Tryz.prog.info? 25).getD default, (.slice none 0 0), by kernel_rfl, by kernel_rfl, by kernel_rfl, by kernel_rfl, rfl, relL_cellAV _ [(.slice none 0 0)], relL_cellAV _ [(.slice none 0 0)]⟩, (fun h => by cases h), (fun q hq => by cases hq)⟩
-- []int
def ty26 : TyRow := ⟨.slice 3, 1, 24, [.nilS], false, false, [], false⟩
theorem ty26_met : ty26.met Tryz.prog 26 := ⟨(show Tryz.prog.underlying 26 = some (.slice 3) by kernel_rfl), ⟨(Tryz.prog.info? 26).getD default, (.slice none 0 0), by kernel_rfl, by kernel_rfl, by kernel_rfl, by kernel_rfl, rfl, relL_cellAV _ [(.slice none 0 0)], relL_cellAV _ [(.slice none 0 0)]⟩, (fun h => by cases h), (fun q hq => by cases hq)⟩
-- func() bool
def ty27 : TyRow := ⟨.func, 1, 8, [.nilF], false, false, [], false⟩
theorem ty27_met : ty27.met Tryz.prog 27 := ⟨⟨(funcOf Tryz.prog 27).1, (funcOf Tryz.prog 27).2.1, (funcOf Tryz.prog 27).2.2, by kernel_rfl⟩, ⟨(Tryz.prog.info? 27).getD default, .nilFunc, by kernel_rfl, by kernel_rfl, by kernel_rfl, by kernel_rfl, rfl, relL_cellAV _ [.nilFunc], relL_cellAV _ [.nilFunc]⟩, (fun h => by cases h), (fun q hq => by cases hq)⟩
-- func([]uint8) (api.Config, [][]api.Op, []int)
def ty29 : TyRow := ⟨.func, 1, 8, [.nilF], false, false, [], false⟩
theorem ty29_met : ty29.met Tryz.prog 29 := ⟨⟨(funcOf Tryz.prog 29).1, (funcOf Tryz.prog 29).2.1, (funcOf Tryz.prog 29).2.2, by kernel_rfl⟩, ⟨(Tryz.prog.info? 29).getD default, .nilFunc, by kernel_rfl, by kernel_rfl, by kernel_rfl, by kernel_rfl, rfl, relL_cellAV _ [.nilFunc], relL_cellAV _ [.nilFunc]⟩, (fun h => by cases h), (fun q hq => by cases hq)⟩
-- api.Errno
def ty30 : TyRow := ⟨.int .i64, 1, 8, [.lit .i64 0], false, false, [], false⟩
theorem ty30_met : ty30.met Tryz.prog 30 := ⟨(show Tryz.prog.underlying 30 = some (.int .i64) by kernel_rfl), ⟨(Tryz.prog.info? 30).getD default, (.int .i64 0), by kernel_rfl, by kernel_rfl, by kernel_rfl, by kernel_rfl, rfl, relL_cellAV _ [(.int .i64 0)], relL_cellAV _ [(.int .i64 0)]⟩, (fun h => by cases h), (fun q hq => by cases hq)⟩
-- func(api.Config, [][]api.Op, []int) ([]uint8, api.Errno)
def ty32 : TyRow := ⟨.func, 1, 8, [.nilF], false, false, [], false⟩
theorem ty32_met : ty32.met Tryz.prog 32 := ⟨⟨(funcOf Tryz.prog 32).1, (funcOf Tryz.prog 32).2.1, (funcOf Tryz.prog 32).2.2, by kernel_rfl⟩, ⟨(Tryz.prog.info? 32).getD default, .nilFunc, by kernel_rfl, by kernel_rfl, by kernel_rfl, by kernel_rfl, rfl, relL_cellAV _ [.nilFunc], relL_cellAV _ [.nilFunc]⟩, (fun h => by cases h), (fun q hq => by cases hq)⟩
-- func([][]api.Op, [][]api.Op) bool
def ty33 : TyRow := ⟨.func, 1, 8, [.nilF], false, false, [], false⟩
theorem ty33_met : ty33.met Tryz.prog 33 := ⟨⟨(funcOf Tryz.prog 33).1, (funcOf Tryz.prog 33).2.1, (funcOf Tryz.prog 33).2.2, by kernel_rfl⟩, ⟨(Tryz.prog.info? 33).getD default, .nilFunc, by kernel_rfl, by kernel_rfl, by kernel_rfl, by kernel_rfl, rfl, relL_cellAV _ [.nilFunc], relL_cellAV _ [.nilFunc]⟩, (fun h => by cases h), (fun q hq => by cases hq)⟩
-- func([]int, []int) bool
def ty34 : TyRow := ⟨.func, 1, 8, [.nilF], false, false, [], false⟩
theorem ty34_met : ty34.met Tryz.prog 34 := ⟨⟨(funcOf Tryz.prog 34).1, (funcOf Tryz.prog 34).2.1, (funcOf Tryz.prog 34).2.2, by kernel_rfl⟩, ⟨(Tryz.prog.info? 34).getD default, .nilFunc, by kernel_rfl, by kernel_rfl, by kernel_rfl, by kernel_rfl, rfl, relL_cellAV _ [.nilFunc], relL_cellAV _ [.nilFunc]⟩, (fun h => by cases h), (fun q hq => by cases hq)⟩
-- func([]uint8, api.Config, [][]api.Op, []int) bool
def ty35 : TyRow := ⟨.func, 1, 8, [.nilF], false, false, [], false⟩
theorem ty35_met : ty35.met Tryz.prog 35 := ⟨⟨(funcOf Tryz.prog 35).1, (funcOf Tryz.prog 35).2.1, (funcOf Tryz.prog 35).2.2, by kernel_rfl⟩, ⟨(Tryz.prog.info? 35).getD default, .nilFunc, by kernel_rfl, by kernel_rfl, by kernel_rfl, by kernel_rfl, rfl, relL_cellAV _ [.nilFunc], relL_cellAV _ [.nilFunc]⟩, (fun h => by cases h), (fun q hq => by cases hq)⟩
-- func(api.Config, [][]api.Op, []int, []uint8) bool
def ty36 : TyRow := ⟨.func, 1, 8, [.nilF], false, false, [], false⟩
theorem ty36_met : ty36.met Tryz.prog 36 := ⟨⟨(funcOf Tryz.prog 36).1, (funcOf Tryz.prog 36).2.1, (funcOf Tryz.prog 36).2.2, by kernel_rfl⟩, ⟨(Tryz.prog.info? 36).getD default, .nilFunc, by kernel_rfl, by kernel_rfl, by kernel_rfl, by kernel_rfl, rfl, relL_cellAV _ [.nilFunc], relL_cellAV _ [.nilFunc]⟩, (fun h => by cases h), (fun q hq => by cases hq)⟩
-- func() [][]api.Op
def ty37 : TyRow := ⟨.func, 1, 8, [.nilF], false, false, [], false⟩
theorem ty37_met : ty37.met Tryz.prog 37 := ⟨⟨(funcOf Tryz.prog 37).1, (funcOf Tryz.prog 37).2.1, (funcOf Tryz.prog 37).2.2, by kernel_rfl⟩, ⟨(Tryz.prog.info? 37).getD default, .nilFunc, by kernel_rfl, by kernel_rfl, by kernel_rfl, by kernel_rfl, rfl, relL_cellAV _ [.nilFunc], relL_cellAV _ [.nilFunc]⟩, (fun h => by cases h), (fun q hq => by cases hq)⟩
-- struct { Steps int; Done bool; Commits int; Evicted int; Len int; Weight int; Lost int }
def ty38 : TyRow := ⟨.struct [(0, 3), (1, 4), (2, 3), (3, 3), (4, 3), (5, 3), (6, 3)], 7, 56, [.lit .i64 0, .ff, .lit .i64 0, .lit .i64 0, .lit .i64 0, .lit .i64 0, .lit .i64 0], true, false, [], false⟩
theorem ty38_met : ty38.met Tryz.prog 38 := ⟨⟨Tryz.prog.fieldsOf 38, by kernel_rfl, by kernel_rfl⟩, ⟨(Tryz.prog.info? 38).getD default, (.agg #[(.int .i64 0), (.bool false), (.int .i64 0), (.int .i64 0), (.int .i64 0), (.int .i64 0), (.int .i64 0)]), by kernel_rfl, by kernel_rfl, by kernel_rfl, by kernel_rfl, rfl, ⟨[(.int .i64 0), (.bool false), (.int .i64 0), (.int .i64 0), (.int .i64 0), (.int .i64 0), (.int .i64 0)], relL_cellAV _ [(.int .i64 0), (.bool false), (.int .i64 0), (.int .i64 0), (.int .i64 0), (.int .i64 0), (.int .i64 0)], rfl⟩, relL_cellAV _ [(.int .i64 0), (.bool false), (.int .i64 0), (.int .i64 0), (.int .i64 0), (.int .i64 0), (.int .i64 0)]⟩, fun _ => ⟨by kernel_rfl, by kernel_rfl, names_ok (by kernel_rfl) (by kernel_rfl)⟩, (fun q hq => by cases hq)⟩
-- api.Outcome
def ty39 : TyRow := ⟨.struct [(0, 3), (1, 4), (2, 3), (3, 3), (4, 3), (5, 3), (6, 3)], 7, 56, [.lit .i64 0, .ff, .lit .i64 0, .lit .i64 0, .lit .i64 0, .lit .i64 0, .lit .i64 0], true, false, [], false⟩
theorem ty39_met : ty39.met Tryz.prog 39 := ⟨⟨Tryz.prog.fieldsOf 39, by kernel_rfl, by kernel_rfl⟩, ⟨(Tryz.prog.info? 39).getD default, (.agg #[(.int .i64 0), (.bool false), (.int .i64 0), (.int .i64 0), (.int .i64 0), (.int .i64 0), (.int .i64 0)]), by kernel_rfl, by kernel_rfl, by kernel_rfl, by kernel_rfl, rfl, ⟨[(.int .i64 0), (.bool false), (.int .i64 0), (.int .i64 0), (.int .i64 0), (.int .i64 0), (.int .i64 0)], relL_cellAV _ [(.int .i64 0), (.bool false), (.int .i64 0), (.int .i64 0), (.int .i64 0), (.int .i64 0), (.int .i64 0)], rfl⟩, relL_cellAV _ [(.int .i64 0), (.bool false), (.int .i64 0), (.int .i64 0), (.int .i64 0), (.int .i64 0), (.int .i64 0)]⟩, fun _ => ⟨by kernel_rfl, by kernel_rfl, names_ok (by kernel_rfl) (by kernel_rfl)⟩, (fun q hq => by cases hq)⟩
-- func([]uint8, int) (api.Outcome, api.Errno)
def ty41 : TyRow := ⟨.func, 1, 8, [.nilF], false, false, [], false⟩
theorem ty41_met : ty41.met Tryz.prog 41 := ⟨⟨(funcOf Tryz.prog 41).1, (funcOf Tryz.prog 41).2.1, (funcOf Tryz.prog 41).2.2, by kernel_rfl⟩, ⟨(Tryz.prog.info? 41).getD default, .nilFunc, by kernel_rfl, by kernel_rfl, by kernel_rfl, by kernel_rfl, rfl, relL_cellAV _ [.nilFunc], relL_cellAV _ [.nilFunc]⟩, (fun h => by cases h), (fun q hq => by cases hq)⟩
-- []api.Record
def ty42 : TyRow := ⟨.slice 76, 1, 24, [.nilS], false, false, [], false⟩
theorem ty42_met : ty42.met Tryz.prog 42 := ⟨(show Tryz.prog.underlying 42 = some (.slice 76) by kernel_rfl), ⟨(Tryz.prog.info? 42).getD default, (.slice none 0 0), by kernel_rfl, by kernel_rfl, by kernel_rfl, by kernel_rfl, rfl, relL_cellAV _ [(.slice none 0 0)], relL_cellAV _ [(.slice none 0 0)]⟩, (fun h => by cases h), (fun q hq => by cases hq)⟩
-- func([]uint8, int) []api.Record
def ty43 : TyRow := ⟨.func, 1, 8, [.nilF], false, false, [], false⟩
theorem ty43_met : ty43.met Tryz.prog 43 := ⟨⟨(funcOf Tryz.prog 43).1, (funcOf Tryz.prog 43).2.1, (funcOf Tryz.prog 43).2.2, by kernel_rfl⟩, ⟨(Tryz.prog.info? 43).getD default, .nilFunc, by kernel_rfl, by kernel_rfl, by kernel_rfl, by kernel_rfl, rfl, relL_cellAV _ [.nilFunc], relL_cellAV _ [.nilFunc]⟩, (fun h => by cases h), (fun q hq => by cases hq)⟩
-- func() int
def ty44 : TyRow := ⟨.func, 1, 8, [.nilF], false, false, [], false⟩
theorem ty44_met : ty44.met Tryz.prog 44 := ⟨⟨(funcOf Tryz.prog 44).1, (funcOf Tryz.prog 44).2.1, (funcOf Tryz.prog 44).2.2, by kernel_rfl⟩, ⟨(Tryz.prog.info? 44).getD default, .nilFunc, by kernel_rfl, by kernel_rfl, by kernel_rfl, by kernel_rfl, rfl, relL_cellAV _ [.nilFunc], relL_cellAV _ [.nilFunc]⟩, (fun h => by cases h), (fun q hq => by cases hq)⟩
-- *int
def ty45 : TyRow := ⟨.ptr 3, 1, 8, [.nilP], false, false, [], false⟩
theorem ty45_met : ty45.met Tryz.prog 45 := ⟨(show Tryz.prog.underlying 45 = some (.pointer 3) by kernel_rfl), ⟨(Tryz.prog.info? 45).getD default, (.pointer none), by kernel_rfl, by kernel_rfl, by kernel_rfl, by kernel_rfl, rfl, relL_cellAV _ [(.pointer none)], relL_cellAV _ [(.pointer none)]⟩, (fun h => by cases h), (fun q hq => by cases hq)⟩
-- []*int
def ty46 : TyRow := ⟨.slice 45, 1, 24, [.nilS], false, false, [], false⟩
theorem ty46_met : ty46.met Tryz.prog 46 := ⟨(show Tryz.prog.underlying 46 = some (.slice 45) by kernel_rfl), ⟨(Tryz.prog.info? 46).getD default, (.slice none 0 0), by kernel_rfl, by kernel_rfl, by kernel_rfl, by kernel_rfl, rfl, relL_cellAV _ [(.slice none 0 0)], relL_cellAV _ [(.slice none 0 0)]⟩, (fun h => by cases h), (fun q hq => by cases hq)⟩
-- []api.Op
def ty47 : TyRow := ⟨.slice 49, 1, 24, [.nilS], false, false, [], false⟩
theorem ty47_met : ty47.met Tryz.prog 47 := ⟨(show Tryz.prog.underlying 47 = some (.slice 49) by kernel_rfl), ⟨(Tryz.prog.info? 47).getD default, (.slice none 0 0), by kernel_rfl, by kernel_rfl, by kernel_rfl, by kernel_rfl, rfl, relL_cellAV _ [(.slice none 0 0)], relL_cellAV _ [(.slice none 0 0)]⟩, (fun h => by cases h), (fun q hq => by cases hq)⟩
-- struct { Do int; Key int; Value int; Weight int }
def ty48 : TyRow := ⟨.struct [(0, 3), (1, 3), (2, 3), (3, 3)], 4, 32, [.lit .i64 0, .lit .i64 0, .lit .i64 0, .lit .i64 0], true, false, [], false⟩
theorem ty48_met : ty48.met Tryz.prog 48 := ⟨⟨Tryz.prog.fieldsOf 48, by kernel_rfl, by kernel_rfl⟩, ⟨(Tryz.prog.info? 48).getD default, (.agg #[(.int .i64 0), (.int .i64 0), (.int .i64 0), (.int .i64 0)]), by kernel_rfl, by kernel_rfl, by kernel_rfl, by kernel_rfl, rfl, ⟨[(.int .i64 0), (.int .i64 0), (.int .i64 0), (.int .i64 0)], relL_cellAV _ [(.int .i64 0), (.int .i64 0), (.int .i64 0), (.int .i64 0)], rfl⟩, relL_cellAV _ [(.int .i64 0), (.int .i64 0), (.int .i64 0), (.int .i64 0)]⟩, fun _ => ⟨by kernel_rfl, by kernel_rfl, names_ok (by kernel_rfl) (by kernel_rfl)⟩, (fun q hq => by cases hq)⟩
-- api.Op
def ty49 : TyRow := ⟨.struct [(0, 3), (1, 3), (2, 3), (3, 3)], 4, 32, [.lit .i64 0, .lit .i64 0, .lit .i64 0, .lit .i64 0], true, false, [], false⟩
theorem ty49_met : ty49.met Tryz.prog 49 := ⟨⟨Tryz.prog.fieldsOf 49, by kernel_rfl, by kernel_rfl⟩, ⟨(Tryz.prog.info? 49).getD default, (.agg #[(.int .i64 0), (.int .i64 0), (.int .i64 0), (.int .i64 0)]), by kernel_rfl, by kernel_rfl, by kernel_rfl, by kernel_rfl, rfl, ⟨[(.int .i64 0), (.int .i64 0), (.int .i64 0), (.int .i64 0)], relL_cellAV _ [(.int .i64 0), (.int .i64 0), (.int .i64 0), (.int .i64 0)], rfl⟩, relL_cellAV _ [(.int .i64 0), (.int .i64 0), (.int .i64 0), (.int .i64 0)]⟩, fun _ => ⟨by kernel_rfl, by kernel_rfl, names_ok (by kernel_rfl) (by kernel_rfl)⟩, (fun q hq => by cases hq)⟩
-- *pantryref26.reader
def ty50 : TyRow := ⟨.ptr 52, 1, 8, [.nilP], false, false, [], false⟩
theorem ty50_met : ty50.met Tryz.prog 50 := ⟨(show Tryz.prog.underlying 50 = some (.pointer 52) by kernel_rfl), ⟨(Tryz.prog.info? 50).getD default, (.pointer none), by kernel_rfl, by kernel_rfl, by kernel_rfl, by kernel_rfl, rfl, relL_cellAV _ [(.pointer none)], relL_cellAV _ [(.pointer none)]⟩, (fun h => by cases h), (fun q hq => by cases hq)⟩
-- struct { b []uint8; at int }
def ty51 : TyRow := ⟨.struct [(0, 22), (1, 3)], 2, 32, [.nilS, .lit .i64 0], false, false, [], false⟩
theorem ty51_met : ty51.met Tryz.prog 51 := ⟨⟨Tryz.prog.fieldsOf 51, by kernel_rfl, by kernel_rfl⟩, ⟨(Tryz.prog.info? 51).getD default, (.agg #[(.slice none 0 0), (.int .i64 0)]), by kernel_rfl, by kernel_rfl, by kernel_rfl, by kernel_rfl, rfl, ⟨[(.slice none 0 0), (.int .i64 0)], relL_cellAV _ [(.slice none 0 0), (.int .i64 0)], rfl⟩, relL_cellAV _ [(.slice none 0 0), (.int .i64 0)]⟩, (fun h => by cases h), (fun q hq => by cases hq)⟩
-- pantryref26.reader
def ty52 : TyRow := ⟨.struct [(0, 22), (1, 3)], 2, 32, [.nilS, .lit .i64 0], false, false, [], false⟩
theorem ty52_met : ty52.met Tryz.prog 52 := ⟨⟨Tryz.prog.fieldsOf 52, by kernel_rfl, by kernel_rfl⟩, ⟨(Tryz.prog.info? 52).getD default, (.agg #[(.slice none 0 0), (.int .i64 0)]), by kernel_rfl, by kernel_rfl, by kernel_rfl, by kernel_rfl, rfl, ⟨[(.slice none 0 0), (.int .i64 0)], relL_cellAV _ [(.slice none 0 0), (.int .i64 0)], rfl⟩, relL_cellAV _ [(.slice none 0 0), (.int .i64 0)]⟩, (fun h => by cases h), (fun q hq => by cases hq)⟩
-- *script.writer
def ty53 : TyRow := ⟨.ptr 55, 1, 8, [.nilP], false, false, [], false⟩
theorem ty53_met : ty53.met Tryz.prog 53 := ⟨(show Tryz.prog.underlying 53 = some (.pointer 55) by kernel_rfl), ⟨(Tryz.prog.info? 53).getD default, (.pointer none), by kernel_rfl, by kernel_rfl, by kernel_rfl, by kernel_rfl, rfl, relL_cellAV _ [(.pointer none)], relL_cellAV _ [(.pointer none)]⟩, (fun h => by cases h), (fun q hq => by cases hq)⟩
-- struct { out []uint8; bad bool }
def ty54 : TyRow := ⟨.struct [(0, 22), (1, 4)], 2, 32, [.nilS, .ff], false, false, [], false⟩
theorem ty54_met : ty54.met Tryz.prog 54 := ⟨⟨Tryz.prog.fieldsOf 54, by kernel_rfl, by kernel_rfl⟩, ⟨(Tryz.prog.info? 54).getD default, (.agg #[(.slice none 0 0), (.bool false)]), by kernel_rfl, by kernel_rfl, by kernel_rfl, by kernel_rfl, rfl, ⟨[(.slice none 0 0), (.bool false)], relL_cellAV _ [(.slice none 0 0), (.bool false)], rfl⟩, relL_cellAV _ [(.slice none 0 0), (.bool false)]⟩, (fun h => by cases h), (fun q hq => by cases hq)⟩
-- script.writer
def ty55 : TyRow := ⟨.struct [(0, 22), (1, 4)], 2, 32, [.nilS, .ff], false, false, [], false⟩
theorem ty55_met : ty55.met Tryz.prog 55 := ⟨⟨Tryz.prog.fieldsOf 55, by kernel_rfl, by kernel_rfl⟩, ⟨(Tryz.prog.info? 55).getD default, (.agg #[(.slice none 0 0), (.bool false)]), by kernel_rfl, by kernel_rfl, by kernel_rfl, by kernel_rfl, rfl, ⟨[(.slice none 0 0), (.bool false)], relL_cellAV _ [(.slice none 0 0), (.bool false)], rfl⟩, relL_cellAV _ [(.slice none 0 0), (.bool false)]⟩, (fun h => by cases h), (fun q hq => by cases hq)⟩
-- func(int, ...int)
def ty56 : TyRow := ⟨.func, 1, 8, [.nilF], false, false, [], false⟩
theorem ty56_met : ty56.met Tryz.prog 56 := ⟨⟨(funcOf Tryz.prog 56).1, (funcOf Tryz.prog 56).2.1, (funcOf Tryz.prog 56).2.2, by kernel_rfl⟩, ⟨(Tryz.prog.info? 56).getD default, .nilFunc, by kernel_rfl, by kernel_rfl, by kernel_rfl, by kernel_rfl, rfl, relL_cellAV _ [.nilFunc], relL_cellAV _ [.nilFunc]⟩, (fun h => by cases h), (fun q hq => by cases hq)⟩
-- func(int) bool
def ty57 : TyRow := ⟨.func, 1, 8, [.nilF], false, false, [], false⟩
theorem ty57_met : ty57.met Tryz.prog 57 := ⟨⟨(funcOf Tryz.prog 57).1, (funcOf Tryz.prog 57).2.1, (funcOf Tryz.prog 57).2.2, by kernel_rfl⟩, ⟨(Tryz.prog.info? 57).getD default, .nilFunc, by kernel_rfl, by kernel_rfl, by kernel_rfl, by kernel_rfl, rfl, relL_cellAV _ [.nilFunc], relL_cellAV _ [.nilFunc]⟩, (fun h => by cases h), (fun q hq => by cases hq)⟩
-- *conc.Machine
def ty58 : TyRow := ⟨.ptr 80, 1, 8, [.nilP], false, false, [], false⟩
theorem ty58_met : ty58.met Tryz.prog 58 := ⟨(show Tryz.prog.underlying 58 = some (.pointer 80) by kernel_rfl), ⟨(Tryz.prog.info? 58).getD default, (.pointer none), by kernel_rfl, by kernel_rfl, by kernel_rfl, by kernel_rfl, rfl, relL_cellAV _ [(.pointer none)], relL_cellAV _ [(.pointer none)]⟩, (fun h => by cases h), (fun q hq => by cases hq)⟩
-- func([]uint8, int) (*conc.Machine, int)
def ty60 : TyRow := ⟨.func, 1, 8, [.nilF], false, false, [], false⟩
theorem ty60_met : ty60.met Tryz.prog 60 := ⟨⟨(funcOf Tryz.prog 60).1, (funcOf Tryz.prog 60).2.1, (funcOf Tryz.prog 60).2.2, by kernel_rfl⟩, ⟨(Tryz.prog.info? 60).getD default, .nilFunc, by kernel_rfl, by kernel_rfl, by kernel_rfl, by kernel_rfl, rfl, relL_cellAV _ [.nilFunc], relL_cellAV _ [.nilFunc]⟩, (fun h => by cases h), (fun q hq => by cases hq)⟩
-- func() []api.Record
def ty61 : TyRow := ⟨.func, 1, 8, [.nilF], false, false, [], false⟩
theorem ty61_met : ty61.met Tryz.prog 61 := ⟨⟨(funcOf Tryz.prog 61).1, (funcOf Tryz.prog 61).2.1, (funcOf Tryz.prog 61).2.2, by kernel_rfl⟩, ⟨(Tryz.prog.info? 61).getD default, .nilFunc, by kernel_rfl, by kernel_rfl, by kernel_rfl, by kernel_rfl, rfl, relL_cellAV _ [.nilFunc], relL_cellAV _ [.nilFunc]⟩, (fun h => by cases h), (fun q hq => by cases hq)⟩
-- func([]bool, bool) bool
def ty62 : TyRow := ⟨.func, 1, 8, [.nilF], false, false, [], false⟩
theorem ty62_met : ty62.met Tryz.prog 62 := ⟨⟨(funcOf Tryz.prog 62).1, (funcOf Tryz.prog 62).2.1, (funcOf Tryz.prog 62).2.2, by kernel_rfl⟩, ⟨(Tryz.prog.info? 62).getD default, .nilFunc, by kernel_rfl, by kernel_rfl, by kernel_rfl, by kernel_rfl, rfl, relL_cellAV _ [.nilFunc], relL_cellAV _ [.nilFunc]⟩, (fun h => by cases h), (fun q hq => by cases hq)⟩
-- []bool
def ty63 : TyRow := ⟨.slice 4, 1, 24, [.nilS], false, false, [], false⟩
theorem ty63_met : ty63.met Tryz.prog 63 := ⟨(show Tryz.prog.underlying 63 = some (.slice 4) by kernel_rfl), ⟨(Tryz.prog.info? 63).getD default, (.slice none 0 0), by kernel_rfl, by kernel_rfl, by kernel_rfl, by kernel_rfl, rfl, relL_cellAV _ [(.slice none 0 0)], relL_cellAV _ [(.slice none 0 0)]⟩, (fun h => by cases h), (fun q hq => by cases hq)⟩
-- func() []bool
def ty64 : TyRow := ⟨.func, 1, 8, [.nilF], false, false, [], false⟩
theorem ty64_met : ty64.met Tryz.prog 64 := ⟨⟨(funcOf Tryz.prog 64).1, (funcOf Tryz.prog 64).2.1, (funcOf Tryz.prog 64).2.2, by kernel_rfl⟩, ⟨(Tryz.prog.info? 64).getD default, .nilFunc, by kernel_rfl, by kernel_rfl, by kernel_rfl, by kernel_rfl, rfl, relL_cellAV _ [.nilFunc], relL_cellAV _ [.nilFunc]⟩, (fun h => by cases h), (fun q hq => by cases hq)⟩
-- []api.Commit
def ty65 : TyRow := ⟨.slice 69, 1, 24, [.nilS], false, false, [], false⟩
theorem ty65_met : ty65.met Tryz.prog 65 := ⟨(show Tryz.prog.underlying 65 = some (.slice 69) by kernel_rfl), ⟨(Tryz.prog.info? 65).getD default, (.slice none 0 0), by kernel_rfl, by kernel_rfl, by kernel_rfl, by kernel_rfl, rfl, relL_cellAV _ [(.slice none 0 0)], relL_cellAV _ [(.slice none 0 0)]⟩, (fun h => by cases h), (fun q hq => by cases hq)⟩
-- func([]api.Record) []api.Commit
def ty66 : TyRow := ⟨.func, 1, 8, [.nilF], false, false, [], false⟩
theorem ty66_met : ty66.met Tryz.prog 66 := ⟨⟨(funcOf Tryz.prog 66).1, (funcOf Tryz.prog 66).2.1, (funcOf Tryz.prog 66).2.2, by kernel_rfl⟩, ⟨(Tryz.prog.info? 66).getD default, .nilFunc, by kernel_rfl, by kernel_rfl, by kernel_rfl, by kernel_rfl, rfl, relL_cellAV _ [.nilFunc], relL_cellAV _ [.nilFunc]⟩, (fun h => by cases h), (fun q hq => by cases hq)⟩
-- func() []int
def ty67 : TyRow := ⟨.func, 1, 8, [.nilF], false, false, [], false⟩
theorem ty67_met : ty67.met Tryz.prog 67 := ⟨⟨(funcOf Tryz.prog 67).1, (funcOf Tryz.prog 67).2.1, (funcOf Tryz.prog 67).2.2, by kernel_rfl⟩, ⟨(Tryz.prog.info? 67).getD default, .nilFunc, by kernel_rfl, by kernel_rfl, by kernel_rfl, by kernel_rfl, rfl, relL_cellAV _ [.nilFunc], relL_cellAV _ [.nilFunc]⟩, (fun h => by cases h), (fun q hq => by cases hq)⟩
-- struct { Do int; Key int; Value int; Hit bool }
def ty68 : TyRow := ⟨.struct [(0, 3), (1, 3), (2, 3), (3, 4)], 4, 32, [.lit .i64 0, .lit .i64 0, .lit .i64 0, .ff], true, false, [], false⟩
theorem ty68_met : ty68.met Tryz.prog 68 := ⟨⟨Tryz.prog.fieldsOf 68, by kernel_rfl, by kernel_rfl⟩, ⟨(Tryz.prog.info? 68).getD default, (.agg #[(.int .i64 0), (.int .i64 0), (.int .i64 0), (.bool false)]), by kernel_rfl, by kernel_rfl, by kernel_rfl, by kernel_rfl, rfl, ⟨[(.int .i64 0), (.int .i64 0), (.int .i64 0), (.bool false)], relL_cellAV _ [(.int .i64 0), (.int .i64 0), (.int .i64 0), (.bool false)], rfl⟩, relL_cellAV _ [(.int .i64 0), (.int .i64 0), (.int .i64 0), (.bool false)]⟩, fun _ => ⟨by kernel_rfl, by kernel_rfl, names_ok (by kernel_rfl) (by kernel_rfl)⟩, (fun q hq => by cases hq)⟩
-- api.Commit
def ty69 : TyRow := ⟨.struct [(0, 3), (1, 3), (2, 3), (3, 4)], 4, 32, [.lit .i64 0, .lit .i64 0, .lit .i64 0, .ff], true, false, [], false⟩
theorem ty69_met : ty69.met Tryz.prog 69 := ⟨⟨Tryz.prog.fieldsOf 69, by kernel_rfl, by kernel_rfl⟩, ⟨(Tryz.prog.info? 69).getD default, (.agg #[(.int .i64 0), (.int .i64 0), (.int .i64 0), (.bool false)]), by kernel_rfl, by kernel_rfl, by kernel_rfl, by kernel_rfl, rfl, ⟨[(.int .i64 0), (.int .i64 0), (.int .i64 0), (.bool false)], relL_cellAV _ [(.int .i64 0), (.int .i64 0), (.int .i64 0), (.bool false)], rfl⟩, relL_cellAV _ [(.int .i64 0), (.int .i64 0), (.int .i64 0), (.bool false)]⟩, fun _ => ⟨by kernel_rfl, by kernel_rfl, names_ok (by kernel_rfl) (by kernel_rfl)⟩, (fun q hq => by cases hq)⟩
-- func([]api.Record) api.Errno
def ty70 : TyRow := ⟨.func, 1, 8, [.nilF], false, false, [], false⟩
theorem ty70_met : ty70.met Tryz.prog 70 := ⟨⟨(funcOf Tryz.prog 70).1, (funcOf Tryz.prog 70).2.1, (funcOf Tryz.prog 70).2.2, by kernel_rfl⟩, ⟨(Tryz.prog.info? 70).getD default, .nilFunc, by kernel_rfl, by kernel_rfl, by kernel_rfl, by kernel_rfl, rfl, relL_cellAV _ [.nilFunc], relL_cellAV _ [.nilFunc]⟩, (fun h => by cases h), (fun q hq => by cases hq)⟩
-- func(api.Config, [][]api.Op) *conc.Machine
def ty71 : TyRow := ⟨.func, 1, 8, [.nilF], false, false, [], false⟩
theorem ty71_met : ty71.met Tryz.prog 71 := ⟨⟨(funcOf Tryz.prog 71).1, (funcOf Tryz.prog 71).2.1, (funcOf Tryz.prog 71).2.2, by kernel_rfl⟩, ⟨(Tryz.prog.info? 71).getD default, .nilFunc, by kernel_rfl, by kernel_rfl, by kernel_rfl, by kernel_rfl, rfl, relL_cellAV _ [.nilFunc], relL_cellAV _ [.nilFunc]⟩, (fun h => by cases h), (fun q hq => by cases hq)⟩
-- func([]int, int) int
def ty72 : TyRow := ⟨.func, 1, 8, [.nilF], false, false, [], false⟩
theorem ty72_met : ty72.met Tryz.prog 72 := ⟨⟨(funcOf Tryz.prog 72).1, (funcOf Tryz.prog 72).2.1, (funcOf Tryz.prog 72).2.2, by kernel_rfl⟩, ⟨(Tryz.prog.info? 72).getD default, .nilFunc, by kernel_rfl, by kernel_rfl, by kernel_rfl, by kernel_rfl, rfl, relL_cellAV _ [.nilFunc], relL_cellAV _ [.nilFunc]⟩, (fun h => by cases h), (fun q hq => by cases hq)⟩
-- func(int, int) []int
def ty73 : TyRow := ⟨.func, 1, 8, [.nilF], false, false, [], false⟩
theorem ty73_met : ty73.met Tryz.prog 73 := ⟨⟨(funcOf Tryz.prog 73).1, (funcOf Tryz.prog 73).2.1, (funcOf Tryz.prog 73).2.2, by kernel_rfl⟩, ⟨(Tryz.prog.info? 73).getD default, .nilFunc, by kernel_rfl, by kernel_rfl, by kernel_rfl, by kernel_rfl, rfl, relL_cellAV _ [.nilFunc], relL_cellAV _ [.nilFunc]⟩, (fun h => by cases h), (fun q hq => by cases hq)⟩
-- func([]api.Record) []api.Record
def ty74 : TyRow := ⟨.func, 1, 8, [.nilF], false, false, [], false⟩
theorem ty74_met : ty74.met Tryz.prog 74 := ⟨⟨(funcOf Tryz.prog 74).1, (funcOf Tryz.prog 74).2.1, (funcOf Tryz.prog 74).2.2, by kernel_rfl⟩, ⟨(Tryz.prog.info? 74).getD default, .nilFunc, by kernel_rfl, by kernel_rfl, by kernel_rfl, by kernel_rfl, rfl, relL_cellAV _ [.nilFunc], relL_cellAV _ [.nilFunc]⟩, (fun h => by cases h), (fun q hq => by cases hq)⟩
-- struct { Thread int; Op int; What int; Commit api.Commit; Err api.Errno }
def ty75 : TyRow := ⟨.struct [(0, 3), (1, 3), (2, 3), (3, 69), (7, 30)], 8, 64, [.lit .i64 0, .lit .i64 0, .lit .i64 0, .lit .i64 0, .lit .i64 0, .lit .i64 0, .ff, .lit .i64 0], true, false, [], false⟩
theorem ty75_met : ty75.met Tryz.prog 75 := ⟨⟨Tryz.prog.fieldsOf 75, by kernel_rfl, by kernel_rfl⟩, ⟨(Tryz.prog.info? 75).getD default, (.agg #[(.int .i64 0), (.int .i64 0), (.int .i64 0), (.int .i64 0), (.int .i64 0), (.int .i64 0), (.bool false), (.int .i64 0)]), by kernel_rfl, by kernel_rfl, by kernel_rfl, by kernel_rfl, rfl, ⟨[(.int .i64 0), (.int .i64 0), (.int .i64 0), (.int .i64 0), (.int .i64 0), (.int .i64 0), (.bool false), (.int .i64 0)], relL_cellAV _ [(.int .i64 0), (.int .i64 0), (.int .i64 0), (.int .i64 0), (.int .i64 0), (.int .i64 0), (.bool false), (.int .i64 0)], rfl⟩, relL_cellAV _ [(.int .i64 0), (.int .i64 0), (.int .i64 0), (.int .i64 0), (.int .i64 0), (.int .i64 0), (.bool false), (.int .i64 0)]⟩, fun _ => ⟨by kernel_rfl, by kernel_rfl, names_ok (by kernel_rfl) (by kernel_rfl)⟩, (fun q hq => by cases hq)⟩
-- api.Record
def ty76 : TyRow := ⟨.struct [(0, 3), (1, 3), (2, 3), (3, 69), (7, 30)], 8, 64, [.lit .i64 0, .lit .i64 0, .lit .i64 0, .lit .i64 0, .lit .i64 0, .lit .i64 0, .ff, .lit .i64 0], true, false, [], false⟩
theorem ty76_met : ty76.met Tryz.prog 76 := ⟨⟨Tryz.prog.fieldsOf 76, by kernel_rfl, by kernel_rfl⟩, ⟨(Tryz.prog.info? 76).getD default, (.agg #[(.int .i64 0), (.int .i64 0), (.int .i64 0), (.int .i64 0), (.int .i64 0), (.int .i64 0), (.bool false), (.int .i64 0)]), by kernel_rfl, by kernel_rfl, by kernel_rfl, by kernel_rfl, rfl, ⟨[(.int .i64 0), (.int .i64 0), (.int .i64 0), (.int .i64 0), (.int .i64 0), (.int .i64 0), (.bool false), (.int .i64 0)], relL_cellAV _ [(.int .i64 0), (.int .i64 0), (.int .i64 0), (.int .i64 0), (.int .i64 0), (.int .i64 0), (.bool false), (.int .i64 0)], rfl⟩, relL_cellAV _ [(.int .i64 0), (.int .i64 0), (.int .i64 0), (.int .i64 0), (.int .i64 0), (.int .i64 0), (.bool false), (.int .i64 0)]⟩, fun _ => ⟨by kernel_rfl, by kernel_rfl, names_ok (by kernel_rfl) (by kernel_rfl)⟩, (fun q hq => by cases hq)⟩
-- *conc.parts
def ty77 : TyRow := ⟨.ptr 89, 1, 8, [.nilP], false, false, [], false⟩
theorem ty77_met : ty77.met Tryz.prog 77 := ⟨(show Tryz.prog.underlying 77 = some (.pointer 89) by kernel_rfl), ⟨(Tryz.prog.info? 77).getD default, (.pointer none), by kernel_rfl, by kernel_rfl, by kernel_rfl, by kernel_rfl, rfl, relL_cellAV _ [(.pointer none)], relL_cellAV _ [(.pointer none)]⟩, (fun h => by cases h), (fun q hq => by cases hq)⟩
-- []*conc.thread
def ty78 : TyRow := ⟨.slice 91, 1, 24, [.nilS], false, false, [], false⟩
theorem ty78_met : ty78.met Tryz.prog 78 := ⟨(show Tryz.prog.underlying 78 = some (.slice 91) by kernel_rfl), ⟨(Tryz.prog.info? 78).getD default, (.slice none 0 0), by kernel_rfl, by kernel_rfl, by kernel_rfl, by kernel_rfl, rfl, relL_cellAV _ [(.slice none 0 0)], relL_cellAV _ [(.slice none 0 0)]⟩, (fun h => by cases h), (fun q hq => by cases hq)⟩
-- struct { *conc.parts; threads []*conc.thread }
def ty79 : TyRow := ⟨.struct [(0, 77), (1, 78)], 2, 32, [.nilP, .nilS], false, false, [], false⟩
theorem ty79_met : ty79.met Tryz.prog 79 := ⟨⟨Tryz.prog.fieldsOf 79, by kernel_rfl, by kernel_rfl⟩, ⟨(Tryz.prog.info? 79).getD default, (.agg #[(.pointer none), (.slice none 0 0)]), by kernel_rfl, by kernel_rfl, by kernel_rfl, by kernel_rfl, rfl, ⟨[(.pointer none), (.slice none 0 0)], relL_cellAV _ [(.pointer none), (.slice none 0 0)], rfl⟩, relL_cellAV _ [(.pointer none), (.slice none 0 0)]⟩, (fun h => by cases h), (fun q hq => by cases hq)⟩
-- conc.Machine
def ty80 : TyRow := ⟨.struct [(0, 77), (1, 78)], 2, 32, [.nilP, .nilS], false, false, [], false⟩
theorem ty80_met : ty80.met Tryz.prog 80 := ⟨⟨Tryz.prog.fieldsOf 80, by kernel_rfl, by kernel_rfl⟩, ⟨(Tryz.prog.info? 80).getD default, (.agg #[(.pointer none), (.slice none 0 0)]), by kernel_rfl, by kernel_rfl, by kernel_rfl, by kernel_rfl, rfl, ⟨[(.pointer none), (.slice none 0 0)], relL_cellAV _ [(.pointer none), (.slice none 0 0)], rfl⟩, relL_cellAV _ [(.pointer none), (.slice none 0 0)]⟩, (fun h => by cases h), (fun q hq => by cases hq)⟩
-- *shards.Map
def ty81 : TyRow := ⟨.ptr 122, 1, 8, [.nilP], false, false, [], false⟩
theorem ty81_met : ty81.met Tryz.prog 81 := ⟨(show Tryz.prog.underlying 81 = some (.pointer 122) by kernel_rfl), ⟨(Tryz.prog.info? 81).getD default, (.pointer none), by kernel_rfl, by kernel_rfl, by kernel_rfl, by kernel_rfl, rfl, relL_cellAV _ [(.pointer none)], relL_cellAV _ [(.pointer none)]⟩, (fun h => by cases h), (fun q hq => by cases hq)⟩
-- *policy.Policy
def ty82 : TyRow := ⟨.ptr 150, 1, 8, [.nilP], false, false, [], false⟩
theorem ty82_met : ty82.met Tryz.prog 82 := ⟨(show Tryz.prog.underlying 82 = some (.pointer 150) by kernel_rfl), ⟨(Tryz.prog.info? 82).getD default, (.pointer none), by kernel_rfl, by kernel_rfl, by kernel_rfl, by kernel_rfl, rfl, relL_cellAV _ [(.pointer none)], relL_cellAV _ [(.pointer none)]⟩, (fun h => by cases h), (fun q hq => by cases hq)⟩
-- *stripes.Stripes
def ty83 : TyRow := ⟨.ptr 153, 1, 8, [.nilP], false, false, [], false⟩
theorem ty83_met : ty83.met Tryz.prog 83 := ⟨(show Tryz.prog.underlying 83 = some (.pointer 153) by kernel_rfl), ⟨(Tryz.prog.info? 83).getD default, (.pointer none), by kernel_rfl, by kernel_rfl, by kernel_rfl, by kernel_rfl, rfl, relL_cellAV _ [(.pointer none)], relL_cellAV _ [(.pointer none)]⟩, (fun h => by cases h), (fun q hq => by cases hq)⟩
-- *writes.Buffer
def ty84 : TyRow := ⟨.ptr 158, 1, 8, [.nilP], false, false, [], false⟩
theorem ty84_met : ty84.met Tryz.prog 84 := ⟨(show Tryz.prog.underlying 84 = some (.pointer 158) by kernel_rfl), ⟨(Tryz.prog.info? 84).getD default, (.pointer none), by kernel_rfl, by kernel_rfl, by kernel_rfl, by kernel_rfl, rfl, relL_cellAV _ [(.pointer none)], relL_cellAV _ [(.pointer none)]⟩, (fun h => by cases h), (fun q hq => by cases hq)⟩
-- *cells.Cells
def ty85 : TyRow := ⟨.ptr 163, 1, 8, [.nilP], false, false, [], false⟩
theorem ty85_met : ty85.met Tryz.prog 85 := ⟨(show Tryz.prog.underlying 85 = some (.pointer 163) by kernel_rfl), ⟨(Tryz.prog.info? 85).getD default, (.pointer none), by kernel_rfl, by kernel_rfl, by kernel_rfl, by kernel_rfl, rfl, relL_cellAV _ [(.pointer none)], relL_cellAV _ [(.pointer none)]⟩, (fun h => by cases h), (fun q hq => by cases hq)⟩
-- map[int]int
def ty86 : TyRow := ⟨.map 3 3, 1, 8, [.nilM], false, false, [], false⟩
theorem ty86_met : ty86.met Tryz.prog 86 := ⟨(show Tryz.prog.underlying 86 = some (.map 3 3) by kernel_rfl), ⟨(Tryz.prog.info? 86).getD default, (.map none), by kernel_rfl, by kernel_rfl, by kernel_rfl, by kernel_rfl, rfl, relL_cellAV _ [(.map none)], relL_cellAV _ [(.map none)]⟩, (fun h => by cases h), (fun q hq => by cases hq)⟩
-- []api.Event
def ty87 : TyRow := ⟨.slice 257, 1, 24, [.nilS], false, false, [], false⟩
theorem ty87_met : ty87.met Tryz.prog 87 := ⟨(show Tryz.prog.underlying 87 = some (.slice 257) by kernel_rfl), ⟨(Tryz.prog.info? 87).getD default, (.slice none 0 0), by kernel_rfl, by kernel_rfl, by kernel_rfl, by kernel_rfl, rfl, relL_cellAV _ [(.slice none 0 0)], relL_cellAV _ [(.slice none 0 0)]⟩, (fun h => by cases h), (fun q hq => by cases hq)⟩
-- struct { capacity int; entries *shards.Map; policy *policy.Policy; reads *stripes.Stripes; writes *w
def ty88 : TyRow := ⟨.struct [(0, 3), (1, 81), (2, 82), (3, 83), (4, 84), (5, 85), (6, 86), (7, 42), (8, 87)], 9, 104, [.lit .i64 0, .nilP, .nilP, .nilP, .nilP, .nilP, .nilM, .nilS, .nilS], false, false, [], false⟩
theorem ty88_met : ty88.met Tryz.prog 88 := ⟨⟨Tryz.prog.fieldsOf 88, by kernel_rfl, by kernel_rfl⟩, ⟨(Tryz.prog.info? 88).getD default, (.agg #[(.int .i64 0), (.pointer none), (.pointer none), (.pointer none), (.pointer none), (.pointer none), (.map none), (.slice none 0 0), (.slice none 0 0)]), by kernel_rfl, by kernel_rfl, by kernel_rfl, by kernel_rfl, rfl, ⟨[(.int .i64 0), (.pointer none), (.pointer none), (.pointer none), (.pointer none), (.pointer none), (.map none), (.slice none 0 0), (.slice none 0 0)], relL_cellAV _ [(.int .i64 0), (.pointer none), (.pointer none), (.pointer none), (.pointer none), (.pointer none), (.map none), (.slice none 0 0), (.slice none 0 0)], rfl⟩, relL_cellAV _ [(.int .i64 0), (.pointer none), (.pointer none), (.pointer none), (.pointer none), (.pointer none), (.map none), (.slice none 0 0), (.slice none 0 0)]⟩, (fun h => by cases h), (fun q hq => by cases hq)⟩
-- conc.parts
def ty89 : TyRow := ⟨.struct [(0, 3), (1, 81), (2, 82), (3, 83), (4, 84), (5, 85), (6, 86), (7, 42), (8, 87)], 9, 104, [.lit .i64 0, .nilP, .nilP, .nilP, .nilP, .nilP, .nilM, .nilS, .nilS], false, false, [], false⟩
theorem ty89_met : ty89.met Tryz.prog 89 := ⟨⟨Tryz.prog.fieldsOf 89, by kernel_rfl, by kernel_rfl⟩, ⟨(Tryz.prog.info? 89).getD default, (.agg #[(.int .i64 0), (.pointer none), (.pointer none), (.pointer none), (.pointer none), (.pointer none), (.map none), (.slice none 0 0), (.slice none 0 0)]), by kernel_rfl, by kernel_rfl, by kernel_rfl, by kernel_rfl, rfl, ⟨[(.int .i64 0), (.pointer none), (.pointer none), (.pointer none), (.pointer none), (.pointer none), (.map none), (.slice none 0 0), (.slice none 0 0)], relL_cellAV _ [(.int .i64 0), (.pointer none), (.pointer none), (.pointer none), (.pointer none), (.pointer none), (.map none), (.slice none 0 0), (.slice none 0 0)], rfl⟩, relL_cellAV _ [(.int .i64 0), (.pointer none), (.pointer none), (.pointer none), (.pointer none), (.pointer none), (.map none), (.slice none 0 0), (.slice none 0 0)]⟩, (fun h => by cases h), (fun q hq => by cases hq)⟩
-- func([]bool, bool) int
def ty90 : TyRow := ⟨.func, 1, 8, [.nilF], false, false, [], false⟩
theorem ty90_met : ty90.met Tryz.prog 90 := ⟨⟨(funcOf Tryz.prog 90).1, (funcOf Tryz.prog 90).2.1, (funcOf Tryz.prog 90).2.2, by kernel_rfl⟩, ⟨(Tryz.prog.info? 90).getD default, .nilFunc, by kernel_rfl, by kernel_rfl, by kernel_rfl, by kernel_rfl, rfl, relL_cellAV _ [.nilFunc], relL_cellAV _ [.nilFunc]⟩, (fun h => by cases h), (fun q hq => by cases hq)⟩
-- *conc.thread
def ty91 : TyRow := ⟨.ptr 93, 1, 8, [.nilP], false, false, [], false⟩
theorem ty91_met : ty91.met Tryz.prog 91 := ⟨(show Tryz.prog.underlying 91 = some (.pointer 93) by kernel_rfl), ⟨(Tryz.prog.info? 91).getD default, (.pointer none), by kernel_rfl, by kernel_rfl, by kernel_rfl, by kernel_rfl, rfl, relL_cellAV _ [(.pointer none)], relL_cellAV _ [(.pointer none)]⟩, (fun h => by cases h), (fun q hq => by cases hq)⟩
-- struct { *conc.parts; number int; program []api.Op; op int; phase int; commit api.Commit; err api.Er
def ty92 : TyRow := ⟨.struct [(0, 77), (1, 3), (2, 47), (3, 3), (4, 3), (5, 69), (9, 30), (10, 3), (11, 3), (12, 26)], 13, 136, [.nilP, .lit .i64 0, .nilS, .lit .i64 0, .lit .i64 0, .lit .i64 0, .lit .i64 0, .lit .i64 0, .ff, .lit .i64 0, .lit .i64 0, .lit .i64 0, .nilS], false, false, [], false⟩
theorem ty92_met : ty92.met Tryz.prog 92 := ⟨⟨Tryz.prog.fieldsOf 92, by kernel_rfl, by kernel_rfl⟩, ⟨(Tryz.prog.info? 92).getD default, (.agg #[(.pointer none), (.int .i64 0), (.slice none 0 0), (.int .i64 0), (.int .i64 0), (.int .i64 0), (.int .i64 0), (.int .i64 0), (.bool false), (.int .i64 0), (.int .i64 0), (.int .i64 0), (.slice none 0 0)]), by kernel_rfl, by kernel_rfl, by kernel_rfl, by kernel_rfl, rfl, ⟨[(.pointer none), (.int .i64 0), (.slice none 0 0), (.int .i64 0), (.int .i64 0), (.int .i64 0), (.int .i64 0), (.int .i64 0), (.bool false), (.int .i64 0), (.int .i64 0), (.int .i64 0), (.slice none 0 0)], relL_cellAV _ [(.pointer none), (.int .i64 0), (.slice none 0 0), (.int .i64 0), (.int .i64 0), (.int .i64 0), (.int .i64 0), (.int .i64 0), (.bool false), (.int .i64 0), (.int .i64 0), (.int .i64 0), (.slice none 0 0)], rfl⟩, relL_cellAV _ [(.pointer none), (.int .i64 0), (.slice none 0 0), (.int .i64 0), (.int .i64 0), (.int .i64 0), (.int .i64 0), (.int .i64 0), (.bool false), (.int .i64 0), (.int .i64 0), (.int .i64 0), (.slice none 0 0)]⟩, (fun h => by cases h), (fun q hq => by cases hq)⟩
-- conc.thread
def ty93 : TyRow := ⟨.struct [(0, 77), (1, 3), (2, 47), (3, 3), (4, 3), (5, 69), (9, 30), (10, 3), (11, 3), (12, 26)], 13, 136, [.nilP, .lit .i64 0, .nilS, .lit .i64 0, .lit .i64 0, .lit .i64 0, .lit .i64 0, .lit .i64 0, .ff, .lit .i64 0, .lit .i64 0, .lit .i64 0, .nilS], false, false, [], false⟩
theorem ty93_met : ty93.met Tryz.prog 93 := ⟨⟨Tryz.prog.fieldsOf 93, by kernel_rfl, by kernel_rfl⟩, ⟨(Tryz.prog.info? 93).getD default, (.agg #[(.pointer none), (.int .i64 0), (.slice none 0 0), (.int .i64 0), (.int .i64 0), (.int .i64 0), (.int .i64 0), (.int .i64 0), (.bool false), (.int .i64 0), (.int .i64 0), (.int .i64 0), (.slice none 0 0)]), by kernel_rfl, by kernel_rfl, by kernel_rfl, by kernel_rfl, rfl, ⟨[(.pointer none), (.int .i64 0), (.slice none 0 0), (.int .i64 0), (.int .i64 0), (.int .i64 0), (.int .i64 0), (.int .i64 0), (.bool false), (.int .i64 0), (.int .i64 0), (.int .i64 0), (.slice none 0 0)], relL_cellAV _ [(.pointer none), (.int .i64 0), (.slice none 0 0), (.int .i64 0), (.int .i64 0), (.int .i64 0), (.int .i64 0), (.int .i64 0), (.bool false), (.int .i64 0), (.int .i64 0), (.int .i64 0), (.slice none 0 0)], rfl⟩, relL_cellAV _ [(.pointer none), (.int .i64 0), (.slice none 0 0), (.int .i64 0), (.int .i64 0), (.int .i64 0), (.int .i64 0), (.int .i64 0), (.bool false), (.int .i64 0), (.int .i64 0), (.int .i64 0), (.slice none 0 0)]⟩, (fun h => by cases h), (fun q hq => by cases hq)⟩
-- func([]api.Record) bool
def ty94 : TyRow := ⟨.func, 1, 8, [.nilF], false, false, [], false⟩
theorem ty94_met : ty94.met Tryz.prog 94 := ⟨⟨(funcOf Tryz.prog 94).1, (funcOf Tryz.prog 94).2.1, (funcOf Tryz.prog 94).2.2, by kernel_rfl⟩, ⟨(Tryz.prog.info? 94).getD default, .nilFunc, by kernel_rfl, by kernel_rfl, by kernel_rfl, by kernel_rfl, rfl, relL_cellAV _ [.nilFunc], relL_cellAV _ [.nilFunc]⟩, (fun h => by cases h), (fun q hq => by cases hq)⟩
-- []api.Entry
def ty95 : TyRow := ⟨.slice 98, 1, 24, [.nilS], false, false, [], false⟩
theorem ty95_met : ty95.met Tryz.prog 95 := ⟨(show Tryz.prog.underlying 95 = some (.slice 98) by kernel_rfl), ⟨(Tryz.prog.info? 95).getD default, (.slice none 0 0), by kernel_rfl, by kernel_rfl, by kernel_rfl, by kernel_rfl, rfl, relL_cellAV _ [(.slice none 0 0)], relL_cellAV _ [(.slice none 0 0)]⟩, (fun h => by cases h), (fun q hq => by cases hq)⟩
-- func() []api.Entry
def ty96 : TyRow := ⟨.func, 1, 8, [.nilF], false, false, [], false⟩
theorem ty96_met : ty96.met Tryz.prog 96 := ⟨⟨(funcOf Tryz.prog 96).1, (funcOf Tryz.prog 96).2.1, (funcOf Tryz.prog 96).2.2, by kernel_rfl⟩, ⟨(Tryz.prog.info? 96).getD default, .nilFunc, by kernel_rfl, by kernel_rfl, by kernel_rfl, by kernel_rfl, rfl, relL_cellAV _ [.nilFunc], relL_cellAV _ [.nilFunc]⟩, (fun h => by cases h), (fun q hq => by cases hq)⟩
-- struct { Key int; Value int; Weight int; Node int }
def ty97 : TyRow := ⟨.struct [(0, 3), (1, 3), (2, 3), (3, 3)], 4, 32, [.lit .i64 0, .lit .i64 0, .lit .i64 0, .lit .i64 0], true, false, [], false⟩
theorem ty97_met : ty97.met Tryz.prog 97 := ⟨⟨Tryz.prog.fieldsOf 97, by kernel_rfl, by kernel_rfl⟩, ⟨(Tryz.prog.info? 97).getD default, (.agg #[(.int .i64 0), (.int .i64 0), (.int .i64 0), (.int .i64 0)]), by kernel_rfl, by kernel_rfl, by kernel_rfl, by kernel_rfl, rfl, ⟨[(.int .i64 0), (.int .i64 0), (.int .i64 0), (.int .i64 0)], relL_cellAV _ [(.int .i64 0), (.int .i64 0), (.int .i64 0), (.int .i64 0)], rfl⟩, relL_cellAV _ [(.int .i64 0), (.int .i64 0), (.int .i64 0), (.int .i64 0)]⟩, fun _ => ⟨by kernel_rfl, by kernel_rfl, names_ok (by kernel_rfl) (by kernel_rfl)⟩, (fun q hq => by cases hq)⟩
-- api.Entry
def ty98 : TyRow := ⟨.struct [(0, 3), (1, 3), (2, 3), (3, 3)], 4, 32, [.lit .i64 0, .lit .i64 0, .lit .i64 0, .lit .i64 0], true, false, [], false⟩
theorem ty98_met : ty98.met Tryz.prog 98 := ⟨⟨Tryz.prog.fieldsOf 98, by kernel_rfl, by kernel_rfl⟩, ⟨(Tryz.prog.info? 98).getD default, (.agg #[(.int .i64 0), (.int .i64 0), (.int .i64 0), (.int .i64 0)]), by kernel_rfl, by kernel_rfl, by kernel_rfl, by kernel_rfl, rfl, ⟨[(.int .i64 0), (.int .i64 0), (.int .i64 0), (.int .i64 0)], relL_cellAV _ [(.int .i64 0), (.int .i64 0), (.int .i64 0), (.int .i64 0)], rfl⟩, relL_cellAV _ [(.int .i64 0), (.int .i64 0), (.int .i64 0), (.int .i64 0)]⟩, fun _ => ⟨by kernel_rfl, by kernel_rfl, names_ok (by kernel_rfl) (by kernel_rfl)⟩, (fun q hq => by cases hq)⟩
-- []api.Call
def ty99 : TyRow := ⟨.slice 103, 1, 24, [.nilS], false, false, [], false⟩
theorem ty99_met : ty99.met Tryz.prog 99 := ⟨(show Tryz.prog.underlying 99 = some (.slice 103) by kernel_rfl), ⟨(Tryz.prog.info? 99).getD default, (.slice none 0 0), by kernel_rfl, by kernel_rfl, by kernel_rfl, by kernel_rfl, rfl, relL_cellAV _ [(.slice none 0 0)], relL_cellAV _ [(.slice none 0 0)]⟩, (fun h => by cases h), (fun q hq => by cases hq)⟩
-- func([]api.Record) []api.Call
def ty100 : TyRow := ⟨.func, 1, 8, [.nilF], false, false, [], false⟩
theorem ty100_met : ty100.met Tryz.prog 100 := ⟨⟨(funcOf Tryz.prog 100).1, (funcOf Tryz.prog 100).2.1, (funcOf Tryz.prog 100).2.2, by kernel_rfl⟩, ⟨(Tryz.prog.info? 100).getD default, .nilFunc, by kernel_rfl, by kernel_rfl, by kernel_rfl, by kernel_rfl, rfl, relL_cellAV _ [.nilFunc], relL_cellAV _ [.nilFunc]⟩, (fun h => by cases h), (fun q hq => by cases hq)⟩
-- func([]api.Record) []int
def ty101 : TyRow := ⟨.func, 1, 8, [.nilF], false, false, [], false⟩
theorem ty101_met : ty101.met Tryz.prog 101 := ⟨⟨(funcOf Tryz.prog 101).1, (funcOf Tryz.prog 101).2.1, (funcOf Tryz.prog 101).2.2, by kernel_rfl⟩, ⟨(Tryz.prog.info? 101).getD default, .nilFunc, by kernel_rfl, by kernel_rfl, by kernel_rfl, by kernel_rfl, rfl, relL_cellAV _ [.nilFunc], relL_cellAV _ [.nilFunc]⟩, (fun h => by cases h), (fun q hq => by cases hq)⟩
-- struct { Thread int; Op int; From int; At int; To int }
def ty102 : TyRow := ⟨.struct [(0, 3), (1, 3), (2, 3), (3, 3), (4, 3)], 5, 40, [.lit .i64 0, .lit .i64 0, .lit .i64 0, .lit .i64 0, .lit .i64 0], true, false, [], false⟩
theorem ty102_met : ty102.met Tryz.prog 102 := ⟨⟨Tryz.prog.fieldsOf 102, by kernel_rfl, by kernel_rfl⟩, ⟨(Tryz.prog.info? 102).getD default, (.agg #[(.int .i64 0), (.int .i64 0), (.int .i64 0), (.int .i64 0), (.int .i64 0)]), by kernel_rfl, by kernel_rfl, by kernel_rfl, by kernel_rfl, rfl, ⟨[(.int .i64 0), (.int .i64 0), (.int .i64 0), (.int .i64 0), (.int .i64 0)], relL_cellAV _ [(.int .i64 0), (.int .i64 0), (.int .i64 0), (.int .i64 0), (.int .i64 0)], rfl⟩, relL_cellAV _ [(.int .i64 0), (.int .i64 0), (.int .i64 0), (.int .i64 0), (.int .i64 0)]⟩, fun _ => ⟨by kernel_rfl, by kernel_rfl, names_ok (by kernel_rfl) (by kernel_rfl)⟩, (fun q hq => by cases hq)⟩
-- api.Call
def ty103 : TyRow := ⟨.struct [(0, 3), (1, 3), (2, 3), (3, 3), (4, 3)], 5, 40, [.lit .i64 0, .lit .i64 0, .lit .i64 0, .lit .i64 0, .lit .i64 0], true, false, [], false⟩
theorem ty103_met : ty103.met Tryz.prog 103 := ⟨⟨Tryz.prog.fieldsOf 103, by kernel_rfl, by kernel_rfl⟩, ⟨(Tryz.prog.info? 103).getD default, (.agg #[(.int .i64 0), (.int .i64 0), (.int .i64 0), (.int .i64 0), (.int .i64 0)]), by kernel_rfl, by kernel_rfl, by kernel_rfl, by kernel_rfl, rfl, ⟨[(.int .i64 0), (.int .i64 0), (.int .i64 0), (.int .i64 0), (.int .i64 0)], relL_cellAV _ [(.int .i64 0), (.int .i64 0), (.int .i64 0), (.int .i64 0), (.int .i64 0)], rfl⟩, relL_cellAV _ [(.int .i64 0), (.int .i64 0), (.int .i64 0), (.int .i64 0), (.int .i64 0)]⟩, fun _ => ⟨by kernel_rfl, by kernel_rfl, names_ok (by kernel_rfl) (by kernel_rfl)⟩, (fun q hq => by cases hq)⟩
-- func(api.Record) bool
def ty104 : TyRow := ⟨.func, 1, 8, [.nilF], false, false, [], false⟩
theorem ty104_met : ty104.met Tryz.prog 104 := ⟨⟨(funcOf Tryz.prog 104).1, (funcOf Tryz.prog 104).2.1, (funcOf Tryz.prog 104).2.2, by kernel_rfl⟩, ⟨(Tryz.prog.info? 104).getD default, .nilFunc, by kernel_rfl, by kernel_rfl, by kernel_rfl, by kernel_rfl, rfl, relL_cellAV _ [.nilFunc], relL_cellAV _ [.nilFunc]⟩, (fun h => by cases h), (fun q hq => by cases hq)⟩
-- func(api.Call) bool
def ty105 : TyRow := ⟨.func, 1, 8, [.nilF], false, false, [], false⟩
theorem ty105_met : ty105.met Tryz.prog 105 := ⟨⟨(funcOf Tryz.prog 105).1, (funcOf Tryz.prog 105).2.1, (funcOf Tryz.prog 105).2.2, by kernel_rfl⟩, ⟨(Tryz.prog.info? 105).getD default, .nilFunc, by kernel_rfl, by kernel_rfl, by kernel_rfl, by kernel_rfl, rfl, relL_cellAV _ [.nilFunc], relL_cellAV _ [.nilFunc]⟩, (fun h => by cases h), (fun q hq => by cases hq)⟩
-- func([]api.Call, func(api.Call) bool) bool
def ty106 : TyRow := ⟨.func, 1, 8, [.nilF], false, false, [], false⟩
theorem ty106_met : ty106.met Tryz.prog 106 := ⟨⟨(funcOf Tryz.prog 106).1, (funcOf Tryz.prog 106).2.1, (funcOf Tryz.prog 106).2.2, by kernel_rfl⟩, ⟨(Tryz.prog.info? 106).getD default, .nilFunc, by kernel_rfl, by kernel_rfl, by kernel_rfl, by kernel_rfl, rfl, relL_cellAV _ [.nilFunc], relL_cellAV _ [.nilFunc]⟩, (fun h => by cases h), (fun q hq => by cases hq)⟩
-- func([]api.Call, []int) bool
def ty107 : TyRow := ⟨.func, 1, 8, [.nilF], false, false, [], false⟩
theorem ty107_met : ty107.met Tryz.prog 107 := ⟨⟨(funcOf Tryz.prog 107).1, (funcOf Tryz.prog 107).2.1, (funcOf Tryz.prog 107).2.2, by kernel_rfl⟩, ⟨(Tryz.prog.info? 107).getD default, .nilFunc, by kernel_rfl, by kernel_rfl, by kernel_rfl, by kernel_rfl, rfl, relL_cellAV _ [.nilFunc], relL_cellAV _ [.nilFunc]⟩, (fun h => by cases h), (fun q hq => by cases hq)⟩
-- func([]api.Record, []int) []api.Commit
def ty108 : TyRow := ⟨.func, 1, 8, [.nilF], false, false, [], false⟩
theorem ty108_met : ty108.met Tryz.prog 108 := ⟨⟨(funcOf Tryz.prog 108).1, (funcOf Tryz.prog 108).2.1, (funcOf Tryz.prog 108).2.2, by kernel_rfl⟩, ⟨(Tryz.prog.info? 108).getD default, .nilFunc, by kernel_rfl, by kernel_rfl, by kernel_rfl, by kernel_rfl, rfl, relL_cellAV _ [.nilFunc], relL_cellAV _ [.nilFunc]⟩, (fun h => by cases h), (fun q hq => by cases hq)⟩
-- func([]api.Commit) int
def ty109 : TyRow := ⟨.func, 1, 8, [.nilF], false, false, [], false⟩
theorem ty109_met : ty109.met Tryz.prog 109 := ⟨⟨(funcOf Tryz.prog 109).1, (funcOf Tryz.prog 109).2.1, (funcOf Tryz.prog 109).2.2, by kernel_rfl⟩, ⟨(Tryz.prog.info? 109).getD default, .nilFunc, by kernel_rfl, by kernel_rfl, by kernel_rfl, by kernel_rfl, rfl, relL_cellAV _ [.nilFunc], relL_cellAV _ [.nilFunc]⟩, (fun h => by cases h), (fun q hq => by cases hq)⟩
-- func(int, int) *shards.Map
def ty110 : TyRow := ⟨.func, 1, 8, [.nilF], false, false, [], false⟩
theorem ty110_met : ty110.met Tryz.prog 110 := ⟨⟨(funcOf Tryz.prog 110).1, (funcOf Tryz.prog 110).2.1, (funcOf Tryz.prog 110).2.2, by kernel_rfl⟩, ⟨(Tryz.prog.info? 110).getD default, .nilFunc, by kernel_rfl, by kernel_rfl, by kernel_rfl, by kernel_rfl, rfl, relL_cellAV _ [.nilFunc], relL_cellAV _ [.nilFunc]⟩, (fun h => by cases h), (fun q hq => by cases hq)⟩
-- func(int, int) *policy.Policy
def ty111 : TyRow := ⟨.func, 1, 8, [.nilF], false, false, [], false⟩
theorem ty111_met : ty111.met Tryz.prog 111 := ⟨⟨(funcOf Tryz.prog 111).1, (funcOf Tryz.prog 111).2.1, (funcOf Tryz.prog 111).2.2, by kernel_rfl⟩, ⟨(Tryz.prog.info? 111).getD default, .nilFunc, by kernel_rfl, by kernel_rfl, by kernel_rfl, by kernel_rfl, rfl, relL_cellAV _ [.nilFunc], relL_cellAV _ [.nilFunc]⟩, (fun h => by cases h), (fun q hq => by cases hq)⟩
-- func(int, int, int) *stripes.Stripes
def ty112 : TyRow := ⟨.func, 1, 8, [.nilF], false, false, [], false⟩
theorem ty112_met : ty112.met Tryz.prog 112 := ⟨⟨(funcOf Tryz.prog 112).1, (funcOf Tryz.prog 112).2.1, (funcOf Tryz.prog 112).2.2, by kernel_rfl⟩, ⟨(Tryz.prog.info? 112).getD default, .nilFunc, by kernel_rfl, by kernel_rfl, by kernel_rfl, by kernel_rfl, rfl, relL_cellAV _ [.nilFunc], relL_cellAV _ [.nilFunc]⟩, (fun h => by cases h), (fun q hq => by cases hq)⟩
-- func(int) *writes.Buffer
def ty113 : TyRow := ⟨.func, 1, 8, [.nilF], false, false, [], false⟩
theorem ty113_met : ty113.met Tryz.prog 113 := ⟨⟨(funcOf Tryz.prog 113).1, (funcOf Tryz.prog 113).2.1, (funcOf Tryz.prog 113).2.2, by kernel_rfl⟩, ⟨(Tryz.prog.info? 113).getD default, .nilFunc, by kernel_rfl, by kernel_rfl, by kernel_rfl, by kernel_rfl, rfl, relL_cellAV _ [.nilFunc], relL_cellAV _ [.nilFunc]⟩, (fun h => by cases h), (fun q hq => by cases hq)⟩
-- func(int, int) *cells.Cells
def ty114 : TyRow := ⟨.func, 1, 8, [.nilF], false, false, [], false⟩
theorem ty114_met : ty114.met Tryz.prog 114 := ⟨⟨(funcOf Tryz.prog 114).1, (funcOf Tryz.prog 114).2.1, (funcOf Tryz.prog 114).2.2, by kernel_rfl⟩, ⟨(Tryz.prog.info? 114).getD default, .nilFunc, by kernel_rfl, by kernel_rfl, by kernel_rfl, by kernel_rfl, rfl, relL_cellAV _ [.nilFunc], relL_cellAV _ [.nilFunc]⟩, (fun h => by cases h), (fun q hq => by cases hq)⟩
-- func([]api.Op) []api.Op
def ty115 : TyRow := ⟨.func, 1, 8, [.nilF], false, false, [], false⟩
theorem ty115_met : ty115.met Tryz.prog 115 := ⟨⟨(funcOf Tryz.prog 115).1, (funcOf Tryz.prog 115).2.1, (funcOf Tryz.prog 115).2.2, by kernel_rfl⟩, ⟨(Tryz.prog.info? 115).getD default, .nilFunc, by kernel_rfl, by kernel_rfl, by kernel_rfl, by kernel_rfl, rfl, relL_cellAV _ [.nilFunc], relL_cellAV _ [.nilFunc]⟩, (fun h => by cases h), (fun q hq => by cases hq)⟩
-- func(int, []bool) int
def ty116 : TyRow := ⟨.func, 1, 8, [.nilF], false, false, [], false⟩
theorem ty116_met : ty116.met Tryz.prog 116 := ⟨⟨(funcOf Tryz.prog 116).1, (funcOf Tryz.prog 116).2.1, (funcOf Tryz.prog 116).2.2, by kernel_rfl⟩, ⟨(Tryz.prog.info? 116).getD default, .nilFunc, by kernel_rfl, by kernel_rfl, by kernel_rfl, by kernel_rfl, rfl, relL_cellAV _ [.nilFunc], relL_cellAV _ [.nilFunc]⟩, (fun h => by cases h), (fun q hq => by cases hq)⟩
-- func([]api.Record) ([]api.Call, bool)
def ty118 : TyRow := ⟨.func, 1, 8, [.nilF], false, false, [], false⟩
theorem ty118_met : ty118.met Tryz.prog 118 := ⟨⟨(funcOf Tryz.prog 118).1, (funcOf Tryz.prog 118).2.1, (funcOf Tryz.prog 118).2.2, by kernel_rfl⟩, ⟨(Tryz.prog.info? 118).getD default, .nilFunc, by kernel_rfl, by kernel_rfl, by kernel_rfl, by kernel_rfl, rfl, relL_cellAV _ [.nilFunc], relL_cellAV _ [.nilFunc]⟩, (fun h => by cases h), (fun q hq => by cases hq)⟩
-- []*table.Table
def ty119 : TyRow := ⟨.slice 123, 1, 24, [.nilS], false, false, [], false⟩
theorem ty119_met : ty119.met Tryz.prog 119 := ⟨(show Tryz.prog.underlying 119 = some (.slice 123) by kernel_rfl), ⟨(Tryz.prog.info? 119).getD default, (.slice none 0 0), by kernel_rfl, by kernel_rfl, by kernel_rfl, by kernel_rfl, rfl, relL_cellAV _ [(.slice none 0 0)], relL_cellAV _ [(.slice none 0 0)]⟩, (fun h => by cases h), (fun q hq => by cases hq)⟩
-- map[int]bool
def ty120 : TyRow := ⟨.map 3 4, 1, 8, [.nilM], false, false, [], false⟩
theorem ty120_met : ty120.met Tryz.prog 120 := ⟨(show Tryz.prog.underlying 120 = some (.map 3 4) by kernel_rfl), ⟨(Tryz.prog.info? 120).getD default, (.map none), by kernel_rfl, by kernel_rfl, by kernel_rfl, by kernel_rfl, rfl, relL_cellAV _ [(.map none)], relL_cellAV _ [(.map none)]⟩, (fun h => by cases h), (fun q hq => by cases hq)⟩
-- struct { seed int; tables []*table.Table; given int; keys map[int]int; gone map[int]bool; weight int
def ty121 : TyRow := ⟨.struct [(0, 3), (1, 119), (2, 3), (3, 86), (4, 120), (5, 3)], 6, 64, [.lit .i64 0, .nilS, .lit .i64 0, .nilM, .nilM, .lit .i64 0], false, false, [], false⟩
theorem ty121_met : ty121.met Tryz.prog 121 := ⟨⟨Tryz.prog.fieldsOf 121, by kernel_rfl, by kernel_rfl⟩, ⟨(Tryz.prog.info? 121).getD default, (.agg #[(.int .i64 0), (.slice none 0 0), (.int .i64 0), (.map none), (.map none), (.int .i64 0)]), by kernel_rfl, by kernel_rfl, by kernel_rfl, by kernel_rfl, rfl, ⟨[(.int .i64 0), (.slice none 0 0), (.int .i64 0), (.map none), (.map none), (.int .i64 0)], relL_cellAV _ [(.int .i64 0), (.slice none 0 0), (.int .i64 0), (.map none), (.map none), (.int .i64 0)], rfl⟩, relL_cellAV _ [(.int .i64 0), (.slice none 0 0), (.int .i64 0), (.map none), (.map none), (.int .i64 0)]⟩, (fun h => by cases h), (fun q hq => by cases hq)⟩
-- shards.Map
def ty122 : TyRow := ⟨.struct [(0, 3), (1, 119), (2, 3), (3, 86), (4, 120), (5, 3)], 6, 64, [.lit .i64 0, .nilS, .lit .i64 0, .nilM, .nilM, .lit .i64 0], false, false, [], false⟩
theorem ty122_met : ty122.met Tryz.prog 122 := ⟨⟨Tryz.prog.fieldsOf 122, by kernel_rfl, by kernel_rfl⟩, ⟨(Tryz.prog.info? 122).getD default, (.agg #[(.int .i64 0), (.slice none 0 0), (.int .i64 0), (.map none), (.map none), (.int .i64 0)]), by kernel_rfl, by kernel_rfl, by kernel_rfl, by kernel_rfl, rfl, ⟨[(.int .i64 0), (.slice none 0 0), (.int .i64 0), (.map none), (.map none), (.int .i64 0)], relL_cellAV _ [(.int .i64 0), (.slice none 0 0), (.int .i64 0), (.map none), (.map none), (.int .i64 0)], rfl⟩, relL_cellAV _ [(.int .i64 0), (.slice none 0 0), (.int .i64 0), (.map none), (.map none), (.int .i64 0)]⟩, (fun h => by cases h), (fun q hq => by cases hq)⟩
-- *table.Table
def ty123 : TyRow := ⟨.ptr 171, 1, 8, [.nilP], false, false, [], false⟩
theorem ty123_met : ty123.met Tryz.prog 123 := ⟨(show Tryz.prog.underlying 123 = some (.pointer 171) by kernel_rfl), ⟨(Tryz.prog.info? 123).getD default, (.pointer none), by kernel_rfl, by kernel_rfl, by kernel_rfl, by kernel_rfl, rfl, relL_cellAV _ [(.pointer none)], relL_cellAV _ [(.pointer none)]⟩, (fun h => by cases h), (fun q hq => by cases hq)⟩
-- func([]api.Entry, func(api.Entry, api.Entry) int)
def ty124 : TyRow := ⟨.func, 1, 8, [.nilF], false, false, [], false⟩
theorem ty124_met : ty124.met Tryz.prog 124 := ⟨⟨(funcOf Tryz.prog 124).1, (funcOf Tryz.prog 124).2.1, (funcOf Tryz.prog 124).2.2, by kernel_rfl⟩, ⟨(Tryz.prog.info? 124).getD default, .nilFunc, by kernel_rfl, by kernel_rfl, by kernel_rfl, by kernel_rfl, rfl, relL_cellAV _ [.nilFunc], relL_cellAV _ [.nilFunc]⟩, (fun h => by cases h), (fun q hq => by cases hq)⟩
-- func(int, int) int
def ty125 : TyRow := ⟨.func, 1, 8, [.nilF], false, false, [], false⟩
theorem ty125_met : ty125.met Tryz.prog 125 := ⟨⟨(funcOf Tryz.prog 125).1, (funcOf Tryz.prog 125).2.1, (funcOf Tryz.prog 125).2.2, by kernel_rfl⟩, ⟨(Tryz.prog.info? 125).getD default, .nilFunc, by kernel_rfl, by kernel_rfl, by kernel_rfl, by kernel_rfl, rfl, relL_cellAV _ [.nilFunc], relL_cellAV _ [.nilFunc]⟩, (fun h => by cases h), (fun q hq => by cases hq)⟩
-- func(api.Entry, api.Entry) int
def ty126 : TyRow := ⟨.func, 1, 8, [.nilF], false, false, [], false⟩
theorem ty126_met : ty126.met Tryz.prog 126 := ⟨⟨(funcOf Tryz.prog 126).1, (funcOf Tryz.prog 126).2.1, (funcOf Tryz.prog 126).2.2, by kernel_rfl⟩, ⟨(Tryz.prog.info? 126).getD default, .nilFunc, by kernel_rfl, by kernel_rfl, by kernel_rfl, by kernel_rfl, rfl, relL_cellAV _ [.nilFunc], relL_cellAV _ [.nilFunc]⟩, (fun h => by cases h), (fun q hq => by cases hq)⟩
-- func(func(stripes.keeper) int) int
def ty127 : TyRow := ⟨.func, 1, 8, [.nilF], false, false, [], false⟩
theorem ty127_met : ty127.met Tryz.prog 127 := ⟨⟨(funcOf Tryz.prog 127).1, (funcOf Tryz.prog 127).2.1, (funcOf Tryz.prog 127).2.2, by kernel_rfl⟩, ⟨(Tryz.prog.info? 127).getD default, .nilFunc, by kernel_rfl, by kernel_rfl, by kernel_rfl, by kernel_rfl, rfl, relL_cellAV _ [.nilFunc], relL_cellAV _ [.nilFunc]⟩, (fun h => by cases h), (fun q hq => by cases hq)⟩
-- interface { Drain() []int; Len() int; Lost() int; Offer(int) bool; Take() (int, bool) }
def ty128 : TyRow := ⟨.iface, 1, 16, [.nilI], false, false, [], false⟩
theorem ty128_met : ty128.met Tryz.prog 128 := ⟨⟨ifaceOf Tryz.prog 128, by kernel_rfl⟩, ⟨(Tryz.prog.info? 128).getD default, .nilIface, by kernel_rfl, by kernel_rfl, by kernel_rfl, by kernel_rfl, rfl, relL_cellAV _ [.nilIface], relL_cellAV _ [.nilIface]⟩, (fun h => by cases h), (fun q hq => by cases hq)⟩
-- stripes.keeper
def ty129 : TyRow := ⟨.iface, 1, 16, [.nilI], false, false, [], false⟩
theorem ty129_met : ty129.met Tryz.prog 129 := ⟨⟨ifaceOf Tryz.prog 129, by kernel_rfl⟩, ⟨(Tryz.prog.info? 129).getD default, .nilIface, by kernel_rfl, by kernel_rfl, by kernel_rfl, by kernel_rfl, rfl, relL_cellAV _ [.nilIface], relL_cellAV _ [.nilIface]⟩, (fun h => by cases h), (fun q hq => by cases hq)⟩
-- func(stripes.keeper) int
def ty130 : TyRow := ⟨.func, 1, 8, [.nilF], false, false, [], false⟩
theorem ty130_met : ty130.met Tryz.prog 130 := ⟨⟨(funcOf Tryz.prog 130).1, (funcOf Tryz.prog 130).2.1, (funcOf Tryz.prog 130).2.2, by kernel_rfl⟩, ⟨(Tryz.prog.info? 130).getD default, .nilFunc, by kernel_rfl, by kernel_rfl, by kernel_rfl, by kernel_rfl, rfl, relL_cellAV _ [.nilFunc], relL_cellAV _ [.nilFunc]⟩, (fun h => by cases h), (fun q hq => by cases hq)⟩
-- func([]api.Call, func(api.Call) bool) int
def ty131 : TyRow := ⟨.func, 1, 8, [.nilF], false, false, [], false⟩
theorem ty131_met : ty131.met Tryz.prog 131 := ⟨⟨(funcOf Tryz.prog 131).1, (funcOf Tryz.prog 131).2.1, (funcOf Tryz.prog 131).2.2, by kernel_rfl⟩, ⟨(Tryz.prog.info? 131).getD default, .nilFunc, by kernel_rfl, by kernel_rfl, by kernel_rfl, by kernel_rfl, rfl, relL_cellAV _ [.nilFunc], relL_cellAV _ [.nilFunc]⟩, (fun h => by cases h), (fun q hq => by cases hq)⟩
-- func(api.Call, api.Call) bool
def ty132 : TyRow := ⟨.func, 1, 8, [.nilF], false, false, [], false⟩
theorem ty132_met : ty132.met Tryz.prog 132 := ⟨⟨(funcOf Tryz.prog 132).1, (funcOf Tryz.prog 132).2.1, (funcOf Tryz.prog 132).2.2, by kernel_rfl⟩, ⟨(Tryz.prog.info? 132).getD default, .nilFunc, by kernel_rfl, by kernel_rfl, by kernel_rfl, by kernel_rfl, rfl, relL_cellAV _ [.nilFunc], relL_cellAV _ [.nilFunc]⟩, (fun h => by cases h), (fun q hq => by cases hq)⟩
-- func([]int, func(int) bool) bool
def ty133 : TyRow := ⟨.func, 1, 8, [.nilF], false, false, [], false⟩
theorem ty133_met : ty133.met Tryz.prog 133 := ⟨⟨(funcOf Tryz.prog 133).1, (funcOf Tryz.prog 133).2.1, (funcOf Tryz.prog 133).2.2, by kernel_rfl⟩, ⟨(Tryz.prog.info? 133).getD default, .nilFunc, by kernel_rfl, by kernel_rfl, by kernel_rfl, by kernel_rfl, rfl, relL_cellAV _ [.nilFunc], relL_cellAV _ [.nilFunc]⟩, (fun h => by cases h), (fun q hq => by cases hq)⟩
-- spec.state
def ty134 : TyRow := ⟨.map 3 3, 1, 8, [.nilM], false, false, [], false⟩
theorem ty134_met : ty134.met Tryz.prog 134 := ⟨(show Tryz.prog.underlying 134 = some (.map 3 3) by kernel_rfl), ⟨(Tryz.prog.info? 134).getD default, (.map none), by kernel_rfl, by kernel_rfl, by kernel_rfl, by kernel_rfl, rfl, relL_cellAV _ [(.map none)], relL_cellAV _ [(.map none)]⟩, (fun h => by cases h), (fun q hq => by cases hq)⟩
-- func([]api.Commit) (int, spec.state)
def ty136 : TyRow := ⟨.func, 1, 8, [.nilF], false, false, [], false⟩
theorem ty136_met : ty136.met Tryz.prog 136 := ⟨⟨(funcOf Tryz.prog 136).1, (funcOf Tryz.prog 136).2.1, (funcOf Tryz.prog 136).2.2, by kernel_rfl⟩, ⟨(Tryz.prog.info? 136).getD default, .nilFunc, by kernel_rfl, by kernel_rfl, by kernel_rfl, by kernel_rfl, rfl, relL_cellAV _ [.nilFunc], relL_cellAV _ [.nilFunc]⟩, (fun h => by cases h), (fun q hq => by cases hq)⟩
-- func(int, int, int) int
def ty137 : TyRow := ⟨.func, 1, 8, [.nilF], false, false, [], false⟩
theorem ty137_met : ty137.met Tryz.prog 137 := ⟨⟨(funcOf Tryz.prog 137).1, (funcOf Tryz.prog 137).2.1, (funcOf Tryz.prog 137).2.2, by kernel_rfl⟩, ⟨(Tryz.prog.info? 137).getD default, .nilFunc, by kernel_rfl, by kernel_rfl, by kernel_rfl, by kernel_rfl, rfl, relL_cellAV _ [.nilFunc], relL_cellAV _ [.nilFunc]⟩, (fun h => by cases h), (fun q hq => by cases hq)⟩
-- func(int) *table.Table
def ty138 : TyRow := ⟨.func, 1, 8, [.nilF], false, false, [], false⟩
theorem ty138_met : ty138.met Tryz.prog 138 := ⟨⟨(funcOf Tryz.prog 138).1, (funcOf Tryz.prog 138).2.1, (funcOf Tryz.prog 138).2.2, by kernel_rfl⟩, ⟨(Tryz.prog.info? 138).getD default, .nilFunc, by kernel_rfl, by kernel_rfl, by kernel_rfl, by kernel_rfl, rfl, relL_cellAV _ [.nilFunc], relL_cellAV _ [.nilFunc]⟩, (fun h => by cases h), (fun q hq => by cases hq)⟩
-- *filter.Filter
def ty139 : TyRow := ⟨.ptr 194, 1, 8, [.nilP], false, false, [], false⟩
theorem ty139_met : ty139.met Tryz.prog 139 := ⟨(show Tryz.prog.underlying 139 = some (.pointer 194) by kernel_rfl), ⟨(Tryz.prog.info? 139).getD default, (.pointer none), by kernel_rfl, by kernel_rfl, by kernel_rfl, by kernel_rfl, rfl, relL_cellAV _ [(.pointer none)], relL_cellAV _ [(.pointer none)]⟩, (fun h => by cases h), (fun q hq => by cases hq)⟩
-- func(int, int) *filter.Filter
def ty140 : TyRow := ⟨.func, 1, 8, [.nilF], false, false, [], false⟩
theorem ty140_met : ty140.met Tryz.prog 140 := ⟨⟨(funcOf Tryz.prog 140).1, (funcOf Tryz.prog 140).2.1, (funcOf Tryz.prog 140).2.2, by kernel_rfl⟩, ⟨(Tryz.prog.info? 140).getD default, .nilFunc, by kernel_rfl, by kernel_rfl, by kernel_rfl, by kernel_rfl, rfl, relL_cellAV _ [.nilFunc], relL_cellAV _ [.nilFunc]⟩, (fun h => by cases h), (fun q hq => by cases hq)⟩
-- *deque.Lists
def ty141 : TyRow := ⟨.ptr 198, 1, 8, [.nilP], false, false, [], false⟩
theorem ty141_met : ty141.met Tryz.prog 141 := ⟨(show Tryz.prog.underlying 141 = some (.pointer 198) by kernel_rfl), ⟨(Tryz.prog.info? 141).getD default, (.pointer none), by kernel_rfl, by kernel_rfl, by kernel_rfl, by kernel_rfl, rfl, relL_cellAV _ [(.pointer none)], relL_cellAV _ [(.pointer none)]⟩, (fun h => by cases h), (fun q hq => by cases hq)⟩
-- func(int) *deque.Lists
def ty142 : TyRow := ⟨.func, 1, 8, [.nilF], false, false, [], false⟩
theorem ty142_met : ty142.met Tryz.prog 142 := ⟨⟨(funcOf Tryz.prog 142).1, (funcOf Tryz.prog 142).2.1, (funcOf Tryz.prog 142).2.2, by kernel_rfl⟩, ⟨(Tryz.prog.info? 142).getD default, .nilFunc, by kernel_rfl, by kernel_rfl, by kernel_rfl, by kernel_rfl, rfl, relL_cellAV _ [.nilFunc], relL_cellAV _ [.nilFunc]⟩, (fun h => by cases h), (fun q hq => by cases hq)⟩
-- struct { Capacity int; Window int; Protected int }
def ty143 : TyRow := ⟨.struct [(0, 3), (1, 3), (2, 3)], 3, 24, [.lit .i64 0, .lit .i64 0, .lit .i64 0], true, false, [], false⟩
theorem ty143_met : ty143.met Tryz.prog 143 := ⟨⟨Tryz.prog.fieldsOf 143, by kernel_rfl, by kernel_rfl⟩, ⟨(Tryz.prog.info? 143).getD default, (.agg #[(.int .i64 0), (.int .i64 0), (.int .i64 0)]), by kernel_rfl, by kernel_rfl, by kernel_rfl, by kernel_rfl, rfl, ⟨[(.int .i64 0), (.int .i64 0), (.int .i64 0)], relL_cellAV _ [(.int .i64 0), (.int .i64 0), (.int .i64 0)], rfl⟩, relL_cellAV _ [(.int .i64 0), (.int .i64 0), (.int .i64 0)]⟩, fun _ => ⟨by kernel_rfl, by kernel_rfl, names_ok (by kernel_rfl) (by kernel_rfl)⟩, (fun q hq => by cases hq)⟩
-- api.Quota
def ty144 : TyRow := ⟨.struct [(0, 3), (1, 3), (2, 3)], 3, 24, [.lit .i64 0, .lit .i64 0, .lit .i64 0], true, false, [], false⟩
theorem ty144_met : ty144.met Tryz.prog 144 := ⟨⟨Tryz.prog.fieldsOf 144, by kernel_rfl, by kernel_rfl⟩, ⟨(Tryz.prog.info? 144).getD default, (.agg #[(.int .i64 0), (.int .i64 0), (.int .i64 0)]), by kernel_rfl, by kernel_rfl, by kernel_rfl, by kernel_rfl, rfl, ⟨[(.int .i64 0), (.int .i64 0), (.int .i64 0)], relL_cellAV _ [(.int .i64 0), (.int .i64 0), (.int .i64 0)], rfl⟩, relL_cellAV _ [(.int .i64 0), (.int .i64 0), (.int .i64 0)]⟩, fun _ => ⟨by kernel_rfl, by kernel_rfl, names_ok (by kernel_rfl) (by kernel_rfl)⟩, (fun q hq => by cases hq)⟩
-- func(int) api.Quota
def ty145 : TyRow := ⟨.func, 1, 8, [.nilF], false, false, [], false⟩
theorem ty145_met : ty145.met Tryz.prog 145 := ⟨⟨(funcOf Tryz.prog 145).1, (funcOf Tryz.prog 145).2.1, (funcOf Tryz.prog 145).2.2, by kernel_rfl⟩, ⟨(Tryz.prog.info? 145).getD default, .nilFunc, by kernel_rfl, by kernel_rfl, by kernel_rfl, by kernel_rfl, rfl, relL_cellAV _ [.nilFunc], relL_cellAV _ [.nilFunc]⟩, (fun h => by cases h), (fun q hq => by cases hq)⟩
-- struct { Hits int; Misses int; Last int; Step int }
def ty146 : TyRow := ⟨.struct [(0, 3), (1, 3), (2, 3), (3, 3)], 4, 32, [.lit .i64 0, .lit .i64 0, .lit .i64 0, .lit .i64 0], true, false, [], false⟩
theorem ty146_met : ty146.met Tryz.prog 146 := ⟨⟨Tryz.prog.fieldsOf 146, by kernel_rfl, by kernel_rfl⟩, ⟨(Tryz.prog.info? 146).getD default, (.agg #[(.int .i64 0), (.int .i64 0), (.int .i64 0), (.int .i64 0)]), by kernel_rfl, by kernel_rfl, by kernel_rfl, by kernel_rfl, rfl, ⟨[(.int .i64 0), (.int .i64 0), (.int .i64 0), (.int .i64 0)], relL_cellAV _ [(.int .i64 0), (.int .i64 0), (.int .i64 0), (.int .i64 0)], rfl⟩, relL_cellAV _ [(.int .i64 0), (.int .i64 0), (.int .i64 0), (.int .i64 0)]⟩, fun _ => ⟨by kernel_rfl, by kernel_rfl, names_ok (by kernel_rfl) (by kernel_rfl)⟩, (fun q hq => by cases hq)⟩
-- api.Climb
def ty147 : TyRow := ⟨.struct [(0, 3), (1, 3), (2, 3), (3, 3)], 4, 32, [.lit .i64 0, .lit .i64 0, .lit .i64 0, .lit .i64 0], true, false, [], false⟩
theorem ty147_met : ty147.met Tryz.prog 147 := ⟨⟨Tryz.prog.fieldsOf 147, by kernel_rfl, by kernel_rfl⟩, ⟨(Tryz.prog.info? 147).getD default, (.agg #[(.int .i64 0), (.int .i64 0), (.int .i64 0), (.int .i64 0)]), by kernel_rfl, by kernel_rfl, by kernel_rfl, by kernel_rfl, rfl, ⟨[(.int .i64 0), (.int .i64 0), (.int .i64 0), (.int .i64 0)], relL_cellAV _ [(.int .i64 0), (.int .i64 0), (.int .i64 0), (.int .i64 0)], rfl⟩, relL_cellAV _ [(.int .i64 0), (.int .i64 0), (.int .i64 0), (.int .i64 0)]⟩, fun _ => ⟨by kernel_rfl, by kernel_rfl, names_ok (by kernel_rfl) (by kernel_rfl)⟩, (fun q hq => by cases hq)⟩
-- func(int) api.Climb
def ty148 : TyRow := ⟨.func, 1, 8, [.nilF], false, false, [], false⟩
theorem ty148_met : ty148.met Tryz.prog 148 := ⟨⟨(funcOf Tryz.prog 148).1, (funcOf Tryz.prog 148).2.1, (funcOf Tryz.prog 148).2.2, by kernel_rfl⟩, ⟨(Tryz.prog.info? 148).getD default, .nilFunc, by kernel_rfl, by kernel_rfl, by kernel_rfl, by kernel_rfl, rfl, relL_cellAV _ [.nilFunc], relL_cellAV _ [.nilFunc]⟩, (fun h => by cases h), (fun q hq => by cases hq)⟩
-- struct { capacity int; period int; often *filter.Filter; rows *deque.Lists; keys map[int]int; quota 
def ty149 : TyRow := ⟨.struct [(0, 3), (1, 3), (2, 139), (3, 141), (4, 86), (5, 144), (8, 147)], 12, 96, [.lit .i64 0, .lit .i64 0, .nilP, .nilP, .nilM, .lit .i64 0, .lit .i64 0, .lit .i64 0, .lit .i64 0, .lit .i64 0, .lit .i64 0, .lit .i64 0], false, false, [], false⟩
theorem ty149_met : ty149.met Tryz.prog 149 := ⟨⟨Tryz.prog.fieldsOf 149, by kernel_rfl, by kernel_rfl⟩, ⟨(Tryz.prog.info? 149).getD default, (.agg #[(.int .i64 0), (.int .i64 0), (.pointer none), (.pointer none), (.map none), (.int .i64 0), (.int .i64 0), (.int .i64 0), (.int .i64 0), (.int .i64 0), (.int .i64 0), (.int .i64 0)]), by kernel_rfl, by kernel_rfl, by kernel_rfl, by kernel_rfl, rfl, ⟨[(.int .i64 0), (.int .i64 0), (.pointer none), (.pointer none), (.map none), (.int .i64 0), (.int .i64 0), (.int .i64 0), (.int .i64 0), (.int .i64 0), (.int .i64 0), (.int .i64 0)], relL_cellAV _ [(.int .i64 0), (.int .i64 0), (.pointer none), (.pointer none), (.map none), (.int .i64 0), (.int .i64 0), (.int .i64 0), (.int .i64 0), (.int .i64 0), (.int .i64 0), (.int .i64 0)], rfl⟩, relL_cellAV _ [(.int .i64 0), (.int .i64 0), (.pointer none), (.pointer none), (.map none), (.int .i64 0), (.int .i64 0), (.int .i64 0), (.int .i64 0), (.int .i64 0), (.int .i64 0), (.int .i64 0)]⟩, (fun h => by cases h), (fun q hq => by cases hq)⟩
-- policy.Policy
def ty150 : TyRow := ⟨.struct [(0, 3), (1, 3), (2, 139), (3, 141), (4, 86), (5, 144), (8, 147)], 12, 96, [.lit .i64 0, .lit .i64 0, .nilP, .nilP, .nilM, .lit .i64 0, .lit .i64 0, .lit .i64 0, .lit .i64 0, .lit .i64 0, .lit .i64 0, .lit .i64 0], false, false, [], false⟩
theorem ty150_met : ty150.met Tryz.prog 150 := ⟨⟨Tryz.prog.fieldsOf 150, by kernel_rfl, by kernel_rfl⟩, ⟨(Tryz.prog.info? 150).getD default, (.agg #[(.int .i64 0), (.int .i64 0), (.pointer none), (.pointer none), (.map none), (.int .i64 0), (.int .i64 0), (.int .i64 0), (.int .i64 0), (.int .i64 0), (.int .i64 0), (.int .i64 0)]), by kernel_rfl, by kernel_rfl, by kernel_rfl, by kernel_rfl, rfl, ⟨[(.int .i64 0), (.int .i64 0), (.pointer none), (.pointer none), (.map none), (.int .i64 0), (.int .i64 0), (.int .i64 0), (.int .i64 0), (.int .i64 0), (.int .i64 0), (.int .i64 0)], relL_cellAV _ [(.int .i64 0), (.int .i64 0), (.pointer none), (.pointer none), (.map none), (.int .i64 0), (.int .i64 0), (.int .i64 0), (.int .i64 0), (.int .i64 0), (.int .i64 0), (.int .i64 0)], rfl⟩, relL_cellAV _ [(.int .i64 0), (.int .i64 0), (.pointer none), (.pointer none), (.map none), (.int .i64 0), (.int .i64 0), (.int .i64 0), (.int .i64 0), (.int .i64 0), (.int .i64 0), (.int .i64 0)]⟩, (fun h => by cases h), (fun q hq => by cases hq)⟩
-- []stripes.keeper
def ty151 : TyRow := ⟨.slice 129, 1, 24, [.nilS], false, false, [], false⟩
theorem ty151_met : ty151.met Tryz.prog 151 := ⟨(show Tryz.prog.underlying 151 = some (.slice 129) by kernel_rfl), ⟨(Tryz.prog.info? 151).getD default, (.slice none 0 0), by kernel_rfl, by kernel_rfl, by kernel_rfl, by kernel_rfl, rfl, relL_cellAV _ [(.slice none 0 0)], relL_cellAV _ [(.slice none 0 0)]⟩, (fun h => by cases h), (fun q hq => by cases hq)⟩
-- struct { rings []stripes.keeper; seed int }
def ty152 : TyRow := ⟨.struct [(0, 151), (1, 3)], 2, 32, [.nilS, .lit .i64 0], false, false, [], false⟩
theorem ty152_met : ty152.met Tryz.prog 152 := ⟨⟨Tryz.prog.fieldsOf 152, by kernel_rfl, by kernel_rfl⟩, ⟨(Tryz.prog.info? 152).getD default, (.agg #[(.slice none 0 0), (.int .i64 0)]), by kernel_rfl, by kernel_rfl, by kernel_rfl, by kernel_rfl, rfl, ⟨[(.slice none 0 0), (.int .i64 0)], relL_cellAV _ [(.slice none 0 0), (.int .i64 0)], rfl⟩, relL_cellAV _ [(.slice none 0 0), (.int .i64 0)]⟩, (fun h => by cases h), (fun q hq => by cases hq)⟩
-- stripes.Stripes
def ty153 : TyRow := ⟨.struct [(0, 151), (1, 3)], 2, 32, [.nilS, .lit .i64 0], false, false, [], false⟩
theorem ty153_met : ty153.met Tryz.prog 153 := ⟨⟨Tryz.prog.fieldsOf 153, by kernel_rfl, by kernel_rfl⟩, ⟨(Tryz.prog.info? 153).getD default, (.agg #[(.slice none 0 0), (.int .i64 0)]), by kernel_rfl, by kernel_rfl, by kernel_rfl, by kernel_rfl, rfl, ⟨[(.slice none 0 0), (.int .i64 0)], relL_cellAV _ [(.slice none 0 0), (.int .i64 0)], rfl⟩, relL_cellAV _ [(.slice none 0 0), (.int .i64 0)]⟩, (fun h => by cases h), (fun q hq => by cases hq)⟩
-- *ring.Ring
def ty154 : TyRow := ⟨.ptr 209, 1, 8, [.nilP], false, false, [("Offer", 264), ("Take", 265), ("Drain", 261), ("Len", 262), ("Lost", 263)], false⟩
theorem ty154_met : ty154.met Tryz.prog 154 := ⟨(show Tryz.prog.underlying 154 = some (.pointer 209) by kernel_rfl), ⟨(Tryz.prog.info? 154).getD default, (.pointer none), by kernel_rfl, by kernel_rfl, by kernel_rfl, by kernel_rfl, rfl, relL_cellAV _ [(.pointer none)], relL_cellAV _ [(.pointer none)]⟩, (fun h => by cases h), (fun q hq v w => by
    simp only [ty154, List.mem_cons, List.not_mem_nil, or_false] at hq
    rcases hq with rfl | rfl | rfl | rfl | rfl <;> kernel_rfl)⟩
-- func(int) *ring.Ring
def ty155 : TyRow := ⟨.func, 1, 8, [.nilF], false, false, [], false⟩
theorem ty155_met : ty155.met Tryz.prog 155 := ⟨⟨(funcOf Tryz.prog 155).1, (funcOf Tryz.prog 155).2.1, (funcOf Tryz.prog 155).2.2, by kernel_rfl⟩, ⟨(Tryz.prog.info? 155).getD default, .nilFunc, by kernel_rfl, by kernel_rfl, by kernel_rfl, by kernel_rfl, rfl, relL_cellAV _ [.nilFunc], relL_cellAV _ [.nilFunc]⟩, (fun h => by cases h), (fun q hq => by cases hq)⟩
-- map[int]api.Event
def ty156 : TyRow := ⟨.map 3 257, 1, 8, [.nilM], false, false, [], false⟩
theorem ty156_met : ty156.met Tryz.prog 156 := ⟨(show Tryz.prog.underlying 156 = some (.map 3 257) by kernel_rfl), ⟨(Tryz.prog.info? 156).getD default, (.map none), by kernel_rfl, by kernel_rfl, by kernel_rfl, by kernel_rfl, rfl, relL_cellAV _ [(.map none)], relL_cellAV _ [(.map none)]⟩, (fun h => by cases h), (fun q hq => by cases hq)⟩
-- struct { size int; events map[int]api.Event; first int; reserved int; weight int }
def ty157 : TyRow := ⟨.struct [(0, 3), (1, 156), (2, 3), (3, 3), (4, 3)], 5, 40, [.lit .i64 0, .nilM, .lit .i64 0, .lit .i64 0, .lit .i64 0], false, false, [], false⟩
theorem ty157_met : ty157.met Tryz.prog 157 := ⟨⟨Tryz.prog.fieldsOf 157, by kernel_rfl, by kernel_rfl⟩, ⟨(Tryz.prog.info? 157).getD default, (.agg #[(.int .i64 0), (.map none), (.int .i64 0), (.int .i64 0), (.int .i64 0)]), by kernel_rfl, by kernel_rfl, by kernel_rfl, by kernel_rfl, rfl, ⟨[(.int .i64 0), (.map none), (.int .i64 0), (.int .i64 0), (.int .i64 0)], relL_cellAV _ [(.int .i64 0), (.map none), (.int .i64 0), (.int .i64 0), (.int .i64 0)], rfl⟩, relL_cellAV _ [(.int .i64 0), (.map none), (.int .i64 0), (.int .i64 0), (.int .i64 0)]⟩, (fun h => by cases h), (fun q hq => by cases hq)⟩
-- writes.Buffer
def ty158 : TyRow := ⟨.struct [(0, 3), (1, 156), (2, 3), (3, 3), (4, 3)], 5, 40, [.lit .i64 0, .nilM, .lit .i64 0, .lit .i64 0, .lit .i64 0], false, false, [], false⟩
theorem ty158_met : ty158.met Tryz.prog 158 := ⟨⟨Tryz.prog.fieldsOf 158, by kernel_rfl, by kernel_rfl⟩, ⟨(Tryz.prog.info? 158).getD default, (.agg #[(.int .i64 0), (.map none), (.int .i64 0), (.int .i64 0), (.int .i64 0)]), by kernel_rfl, by kernel_rfl, by kernel_rfl, by kernel_rfl, rfl, ⟨[(.int .i64 0), (.map none), (.int .i64 0), (.int .i64 0), (.int .i64 0)], relL_cellAV _ [(.int .i64 0), (.map none), (.int .i64 0), (.int .i64 0), (.int .i64 0)], rfl⟩, relL_cellAV _ [(.int .i64 0), (.map none), (.int .i64 0), (.int .i64 0), (.int .i64 0)]⟩, (fun h => by cases h), (fun q hq => by cases hq)⟩
-- func(int) int
def ty159 : TyRow := ⟨.func, 1, 8, [.nilF], false, false, [], false⟩
theorem ty159_met : ty159.met Tryz.prog 159 := ⟨⟨(funcOf Tryz.prog 159).1, (funcOf Tryz.prog 159).2.1, (funcOf Tryz.prog 159).2.2, by kernel_rfl⟩, ⟨(Tryz.prog.info? 159).getD default, .nilFunc, by kernel_rfl, by kernel_rfl, by kernel_rfl, by kernel_rfl, rfl, relL_cellAV _ [.nilFunc], relL_cellAV _ [.nilFunc]⟩, (fun h => by cases h), (fun q hq => by cases hq)⟩
-- []cells.holder
def ty160 : TyRow := ⟨.slice 292, 1, 24, [.nilS], false, false, [], false⟩
theorem ty160_met : ty160.met Tryz.prog 160 := ⟨(show Tryz.prog.underlying 160 = some (.slice 292) by kernel_rfl), ⟨(Tryz.prog.info? 160).getD default, (.slice none 0 0), by kernel_rfl, by kernel_rfl, by kernel_rfl, by kernel_rfl, rfl, relL_cellAV _ [(.slice none 0 0)], relL_cellAV _ [(.slice none 0 0)]⟩, (fun h => by cases h), (fun q hq => by cases hq)⟩
-- []api.Deed
def ty161 : TyRow := ⟨.slice 295, 1, 24, [.nilS], false, false, [], false⟩
theorem ty161_met : ty161.met Tryz.prog 161 := ⟨(show Tryz.prog.underlying 161 = some (.slice 295) by kernel_rfl), ⟨(Tryz.prog.info? 161).getD default, (.slice none 0 0), by kernel_rfl, by kernel_rfl, by kernel_rfl, by kernel_rfl, rfl, relL_cellAV _ [(.slice none 0 0)], relL_cellAV _ [(.slice none 0 0)]⟩, (fun h => by cases h), (fun q hq => by cases hq)⟩
-- struct { words []int; locks []cells.holder; log []api.Deed }
def ty162 : TyRow := ⟨.struct [(0, 26), (1, 160), (2, 161)], 3, 72, [.nilS, .nilS, .nilS], false, false, [], false⟩
theorem ty162_met : ty162.met Tryz.prog 162 := ⟨⟨Tryz.prog.fieldsOf 162, by kernel_rfl, by kernel_rfl⟩, ⟨(Tryz.prog.info? 162).getD default, (.agg #[(.slice none 0 0), (.slice none 0 0), (.slice none 0 0)]), by kernel_rfl, by kernel_rfl, by kernel_rfl, by kernel_rfl, rfl, ⟨[(.slice none 0 0), (.slice none 0 0), (.slice none 0 0)], relL_cellAV _ [(.slice none 0 0), (.slice none 0 0), (.slice none 0 0)], rfl⟩, relL_cellAV _ [(.slice none 0 0), (.slice none 0 0), (.slice none 0 0)]⟩, (fun h => by cases h), (fun q hq => by cases hq)⟩
-- cells.Cells
def ty163 : TyRow := ⟨.struct [(0, 26), (1, 160), (2, 161)], 3, 72, [.nilS, .nilS, .nilS], false, false, [], false⟩
theorem ty163_met : ty163.met Tryz.prog 163 := ⟨⟨Tryz.prog.fieldsOf 163, by kernel_rfl, by kernel_rfl⟩, ⟨(Tryz.prog.info? 163).getD default, (.agg #[(.slice none 0 0), (.slice none 0 0), (.slice none 0 0)]), by kernel_rfl, by kernel_rfl, by kernel_rfl, by kernel_rfl, rfl, ⟨[(.slice none 0 0), (.slice none 0 0), (.slice none 0 0)], relL_cellAV _ [(.slice none 0 0), (.slice none 0 0), (.slice none 0 0)], rfl⟩, relL_cellAV _ [(.slice none 0 0), (.slice none 0 0), (.slice none 0 0)]⟩, (fun h => by cases h), (fun q hq => by cases hq)⟩
-- *hist.reader
def ty164 : TyRow := ⟨.ptr 167, 1, 8, [.nilP], false, false, [], false⟩
theorem ty164_met : ty164.met Tryz.prog 164 := ⟨(show Tryz.prog.underlying 164 = some (.pointer 167) by kernel_rfl), ⟨(Tryz.prog.info? 164).getD default, (.pointer none), by kernel_rfl, by kernel_rfl, by kernel_rfl, by kernel_rfl, rfl, relL_cellAV _ [(.pointer none)], relL_cellAV _ [(.pointer none)]⟩, (fun h => by cases h), (fun q hq => by cases hq)⟩
-- map[int]hist.open
def ty165 : TyRow := ⟨.map 3 259, 1, 8, [.nilM], false, false, [], false⟩
theorem ty165_met : ty165.met Tryz.prog 165 := ⟨(show Tryz.prog.underlying 165 = some (.map 3 259) by kernel_rfl), ⟨(Tryz.prog.info? 165).getD default, (.map none), by kernel_rfl, by kernel_rfl, by kernel_rfl, by kernel_rfl, rfl, relL_cellAV _ [(.map none)], relL_cellAV _ [(.map none)]⟩, (fun h => by cases h), (fun q hq => by cases hq)⟩
-- struct { at map[int]hist.open; calls []api.Call }
def ty166 : TyRow := ⟨.struct [(0, 165), (1, 99)], 2, 32, [.nilM, .nilS], false, false, [], false⟩
theorem ty166_met : ty166.met Tryz.prog 166 := ⟨⟨Tryz.prog.fieldsOf 166, by kernel_rfl, by kernel_rfl⟩, ⟨(Tryz.prog.info? 166).getD default, (.agg #[(.map none), (.slice none 0 0)]), by kernel_rfl, by kernel_rfl, by kernel_rfl, by kernel_rfl, rfl, ⟨[(.map none), (.slice none 0 0)], relL_cellAV _ [(.map none), (.slice none 0 0)], rfl⟩, relL_cellAV _ [(.map none), (.slice none 0 0)]⟩, (fun h => by cases h), (fun q hq => by cases hq)⟩
-- hist.reader
def ty167 : TyRow := ⟨.struct [(0, 165), (1, 99)], 2, 32, [.nilM, .nilS], false, false, [], false⟩
theorem ty167_met : ty167.met Tryz.prog 167 := ⟨⟨Tryz.prog.fieldsOf 167, by kernel_rfl, by kernel_rfl⟩, ⟨(Tryz.prog.info? 167).getD default, (.agg #[(.map none), (.slice none 0 0)]), by kernel_rfl, by kernel_rfl, by kernel_rfl, by kernel_rfl, rfl, ⟨[(.map none), (.slice none 0 0)], relL_cellAV _ [(.map none), (.slice none 0 0)], rfl⟩, relL_cellAV _ [(.map none), (.slice none 0 0)]⟩, (fun h => by cases h), (fun q hq => by cases hq)⟩
-- func(api.Record, int) bool
def ty168 : TyRow := ⟨.func, 1, 8, [.nilF], false, false, [], false⟩
theorem ty168_met : ty168.met Tryz.prog 168 := ⟨⟨(funcOf Tryz.prog 168).1, (funcOf Tryz.prog 168).2.1, (funcOf Tryz.prog 168).2.2, by kernel_rfl⟩, ⟨(Tryz.prog.info? 168).getD default, .nilFunc, by kernel_rfl, by kernel_rfl, by kernel_rfl, by kernel_rfl, rfl, relL_cellAV _ [.nilFunc], relL_cellAV _ [.nilFunc]⟩, (fun h => by cases h), (fun q hq => by cases hq)⟩
-- []*table.link
def ty169 : TyRow := ⟨.slice 173, 1, 24, [.nilS], false, false, [], false⟩
theorem ty169_met : ty169.met Tryz.prog 169 := ⟨(show Tryz.prog.underlying 169 = some (.slice 173) by kernel_rfl), ⟨(Tryz.prog.info? 169).getD default, (.slice none 0 0), by kernel_rfl, by kernel_rfl, by kernel_rfl, by kernel_rfl, rfl, relL_cellAV _ [(.slice none 0 0)], relL_cellAV _ [(.slice none 0 0)]⟩, (fun h => by cases h), (fun q hq => by cases hq)⟩
-- struct { seed int; buckets []*table.link; old []*table.link; moved int; length int }
def ty170 : TyRow := ⟨.struct [(0, 3), (1, 169), (2, 169), (3, 3), (4, 3)], 5, 72, [.lit .i64 0, .nilS, .nilS, .lit .i64 0, .lit .i64 0], false, false, [], false⟩
theorem ty170_met : ty170.met Tryz.prog 170 := ⟨⟨Tryz.prog.fieldsOf 170, by kernel_rfl, by kernel_rfl⟩, ⟨(Tryz.prog.info? 170).getD default, (.agg #[(.int .i64 0), (.slice none 0 0), (.slice none 0 0), (.int .i64 0), (.int .i64 0)]), by kernel_rfl, by kernel_rfl, by kernel_rfl, by kernel_rfl, rfl, ⟨[(.int .i64 0), (.slice none 0 0), (.slice none 0 0), (.int .i64 0), (.int .i64 0)], relL_cellAV _ [(.int .i64 0), (.slice none 0 0), (.slice none 0 0), (.int .i64 0), (.int .i64 0)], rfl⟩, relL_cellAV _ [(.int .i64 0), (.slice none 0 0), (.slice none 0 0), (.int .i64 0), (.int .i64 0)]⟩, (fun h => by cases h), (fun q hq => by cases hq)⟩
-- table.Table
def ty171 : TyRow := ⟨.struct [(0, 3), (1, 169), (2, 169), (3, 3), (4, 3)], 5, 72, [.lit .i64 0, .nilS, .nilS, .lit .i64 0, .lit .i64 0], false, false, [], false⟩
theorem ty171_met : ty171.met Tryz.prog 171 := ⟨⟨Tryz.prog.fieldsOf 171, by kernel_rfl, by kernel_rfl⟩, ⟨(Tryz.prog.info? 171).getD default, (.agg #[(.int .i64 0), (.slice none 0 0), (.slice none 0 0), (.int .i64 0), (.int .i64 0)]), by kernel_rfl, by kernel_rfl, by kernel_rfl, by kernel_rfl, rfl, ⟨[(.int .i64 0), (.slice none 0 0), (.slice none 0 0), (.int .i64 0), (.int .i64 0)], relL_cellAV _ [(.int .i64 0), (.slice none 0 0), (.slice none 0 0), (.int .i64 0), (.int .i64 0)], rfl⟩, relL_cellAV _ [(.int .i64 0), (.slice none 0 0), (.slice none 0 0), (.int .i64 0), (.int .i64 0)]⟩, (fun h => by cases h), (fun q hq => by cases hq)⟩
-- [][]*table.link
def ty172 : TyRow := ⟨.slice 169, 1, 24, [.nilS], false, false, [], false⟩
theorem ty172_met : ty172.met Tryz.prog 172 := ⟨(show Tryz.prog.underlying 172 = some (.slice 169) by kernel_rfl), ⟨(Tryz.prog.info? 172).getD default, (.slice none 0 0), by kernel_rfl, by kernel_rfl, by kernel_rfl, by kernel_rfl, rfl, relL_cellAV _ [(.slice none 0 0)], relL_cellAV _ [(.slice none 0 0)]⟩, (fun h => by cases h), (fun q hq => by cases hq)⟩
-- *table.link
def ty173 : TyRow := ⟨.ptr 175, 1, 8, [.nilP], false, false, [], false⟩
theorem ty173_met : ty173.met Tryz.prog 173 := ⟨(show Tryz.prog.underlying 173 = some (.pointer 175) by kernel_rfl), ⟨(Tryz.prog.info? 173).getD default, (.pointer none), by kernel_rfl, by kernel_rfl, by kernel_rfl, by kernel_rfl, rfl, relL_cellAV _ [(.pointer none)], relL_cellAV _ [(.pointer none)]⟩, (fun h => by cases h), (fun q hq => by cases hq)⟩
-- struct { entry api.Entry; next *table.link }
def ty174 : TyRow := ⟨.struct [(0, 98), (4, 173)], 5, 40, [.lit .i64 0, .lit .i64 0, .lit .i64 0, .lit .i64 0, .nilP], false, false, [], false⟩
theorem ty174_met : ty174.met Tryz.prog 174 := ⟨⟨Tryz.prog.fieldsOf 174, by kernel_rfl, by kernel_rfl⟩, ⟨(Tryz.prog.info? 174).getD default, (.agg #[(.int .i64 0), (.int .i64 0), (.int .i64 0), (.int .i64 0), (.pointer none)]), by kernel_rfl, by kernel_rfl, by kernel_rfl, by kernel_rfl, rfl, ⟨[(.int .i64 0), (.int .i64 0), (.int .i64 0), (.int .i64 0), (.pointer none)], relL_cellAV _ [(.int .i64 0), (.int .i64 0), (.int .i64 0), (.int .i64 0), (.pointer none)], rfl⟩, relL_cellAV _ [(.int .i64 0), (.int .i64 0), (.int .i64 0), (.int .i64 0), (.pointer none)]⟩, (fun h => by cases h), (fun q hq => by cases hq)⟩
-- table.link
def ty175 : TyRow := ⟨.struct [(0, 98), (4, 173)], 5, 40, [.lit .i64 0, .lit .i64 0, .lit .i64 0, .lit .i64 0, .nilP], false, false, [], false⟩
theorem ty175_met : ty175.met Tryz.prog 175 := ⟨⟨Tryz.prog.fieldsOf 175, by kernel_rfl, by kernel_rfl⟩, ⟨(Tryz.prog.info? 175).getD default, (.agg #[(.int .i64 0), (.int .i64 0), (.int .i64 0), (.int .i64 0), (.pointer none)]), by kernel_rfl, by kernel_rfl, by kernel_rfl, by kernel_rfl, rfl, ⟨[(.int .i64 0), (.int .i64 0), (.int .i64 0), (.int .i64 0), (.pointer none)], relL_cellAV _ [(.int .i64 0), (.int .i64 0), (.int .i64 0), (.int .i64 0), (.pointer none)], rfl⟩, relL_cellAV _ [(.int .i64 0), (.int .i64 0), (.int .i64 0), (.int .i64 0), (.pointer none)]⟩, (fun h => by cases h), (fun q hq => by cases hq)⟩
-- func([]api.Entry, int, int, int, func(api.Entry, api.Entry) int)
def ty176 : TyRow := ⟨.func, 1, 8, [.nilF], false, false, [], false⟩
theorem ty176_met : ty176.met Tryz.prog 176 := ⟨⟨(funcOf Tryz.prog 176).1, (funcOf Tryz.prog 176).2.1, (funcOf Tryz.prog 176).2.2, by kernel_rfl⟩, ⟨(Tryz.prog.info? 176).getD default, .nilFunc, by kernel_rfl, by kernel_rfl, by kernel_rfl, by kernel_rfl, rfl, relL_cellAV _ [.nilFunc], relL_cellAV _ [.nilFunc]⟩, (fun h => by cases h), (fun q hq => by cases hq)⟩
-- func(uint) int
def ty177 : TyRow := ⟨.func, 1, 8, [.nilF], false, false, [], false⟩
theorem ty177_met : ty177.met Tryz.prog 177 := ⟨⟨(funcOf Tryz.prog 177).1, (funcOf Tryz.prog 177).2.1, (funcOf Tryz.prog 177).2.2, by kernel_rfl⟩, ⟨(Tryz.prog.info? 177).getD default, .nilFunc, by kernel_rfl, by kernel_rfl, by kernel_rfl, by kernel_rfl, rfl, relL_cellAV _ [.nilFunc], relL_cellAV _ [.nilFunc]⟩, (fun h => by cases h), (fun q hq => by cases hq)⟩
-- uint
def ty178 : TyRow := ⟨.int .u64, 1, 8, [.lit .u64 0], false, false, [], false⟩
theorem ty178_met : ty178.met Tryz.prog 178 := ⟨(show Tryz.prog.underlying 178 = some (.int .u64) by kernel_rfl), ⟨(Tryz.prog.info? 178).getD default, (.int .u64 0), by kernel_rfl, by kernel_rfl, by kernel_rfl, by kernel_rfl, rfl, relL_cellAV _ [(.int .u64 0)], relL_cellAV _ [(.int .u64 0)]⟩, (fun h => by cases h), (fun q hq => by cases hq)⟩
-- func([]int, func(int) bool) int
def ty179 : TyRow := ⟨.func, 1, 8, [.nilF], false, false, [], false⟩
theorem ty179_met : ty179.met Tryz.prog 179 := ⟨⟨(funcOf Tryz.prog 179).1, (funcOf Tryz.prog 179).2.1, (funcOf Tryz.prog 179).2.2, by kernel_rfl⟩, ⟨(Tryz.prog.info? 179).getD default, .nilFunc, by kernel_rfl, by kernel_rfl, by kernel_rfl, by kernel_rfl, rfl, relL_cellAV _ [.nilFunc], relL_cellAV _ [.nilFunc]⟩, (fun h => by cases h), (fun q hq => by cases hq)⟩
-- func(int, int, int) (api.Commit, bool)
def ty181 : TyRow := ⟨.func, 1, 8, [.nilF], false, false, [], false⟩
theorem ty181_met : ty181.met Tryz.prog 181 := ⟨⟨(funcOf Tryz.prog 181).1, (funcOf Tryz.prog 181).2.1, (funcOf Tryz.prog 181).2.2, by kernel_rfl⟩, ⟨(Tryz.prog.info? 181).getD default, .nilFunc, by kernel_rfl, by kernel_rfl, by kernel_rfl, by kernel_rfl, rfl, relL_cellAV _ [.nilFunc], relL_cellAV _ [.nilFunc]⟩, (fun h => by cases h), (fun q hq => by cases hq)⟩
-- func(api.Commit)
def ty182 : TyRow := ⟨.func, 1, 8, [.nilF], false, false, [], false⟩
theorem ty182_met : ty182.met Tryz.prog 182 := ⟨⟨(funcOf Tryz.prog 182).1, (funcOf Tryz.prog 182).2.1, (funcOf Tryz.prog 182).2.2, by kernel_rfl⟩, ⟨(Tryz.prog.info? 182).getD default, .nilFunc, by kernel_rfl, by kernel_rfl, by kernel_rfl, by kernel_rfl, rfl, relL_cellAV _ [.nilFunc], relL_cellAV _ [.nilFunc]⟩, (fun h => by cases h), (fun q hq => by cases hq)⟩
-- *sketch.Sketch
def ty183 : TyRow := ⟨.ptr 234, 1, 8, [.nilP], false, false, [], false⟩
theorem ty183_met : ty183.met Tryz.prog 183 := ⟨(show Tryz.prog.underlying 183 = some (.pointer 234) by kernel_rfl), ⟨(Tryz.prog.info? 183).getD default, (.pointer none), by kernel_rfl, by kernel_rfl, by kernel_rfl, by kernel_rfl, rfl, relL_cellAV _ [(.pointer none)], relL_cellAV _ [(.pointer none)]⟩, (fun h => by cases h), (fun q hq => by cases hq)⟩
-- func(int, int) *sketch.Sketch
def ty184 : TyRow := ⟨.func, 1, 8, [.nilF], false, false, [], false⟩
theorem ty184_met : ty184.met Tryz.prog 184 := ⟨⟨(funcOf Tryz.prog 184).1, (funcOf Tryz.prog 184).2.1, (funcOf Tryz.prog 184).2.2, by kernel_rfl⟩, ⟨(Tryz.prog.info? 184).getD default, .nilFunc, by kernel_rfl, by kernel_rfl, by kernel_rfl, by kernel_rfl, rfl, relL_cellAV _ [.nilFunc], relL_cellAV _ [.nilFunc]⟩, (fun h => by cases h), (fun q hq => by cases hq)⟩
-- *filter.counts
def ty185 : TyRow := ⟨.ptr 187, 1, 8, [.nilP], false, false, [], false⟩
theorem ty185_met : ty185.met Tryz.prog 185 := ⟨(show Tryz.prog.underlying 185 = some (.pointer 187) by kernel_rfl), ⟨(Tryz.prog.info? 185).getD default, (.pointer none), by kernel_rfl, by kernel_rfl, by kernel_rfl, by kernel_rfl, rfl, relL_cellAV _ [(.pointer none)], relL_cellAV _ [(.pointer none)]⟩, (fun h => by cases h), (fun q hq => by cases hq)⟩
-- struct { *sketch.Sketch }
def ty186 : TyRow := ⟨.struct [(0, 183)], 1, 8, [.nilP], false, false, [], false⟩
theorem ty186_met : ty186.met Tryz.prog 186 := ⟨⟨Tryz.prog.fieldsOf 186, by kernel_rfl, by kernel_rfl⟩, ⟨(Tryz.prog.info? 186).getD default, (.agg #[(.pointer none)]), by kernel_rfl, by kernel_rfl, by kernel_rfl, by kernel_rfl, rfl, ⟨[(.pointer none)], relL_cellAV _ [(.pointer none)], rfl⟩, relL_cellAV _ [(.pointer none)]⟩, (fun h => by cases h), (fun q hq => by cases hq)⟩
-- filter.counts
def ty187 : TyRow := ⟨.struct [(0, 183)], 1, 8, [.nilP], false, false, [], false⟩
theorem ty187_met : ty187.met Tryz.prog 187 := ⟨⟨Tryz.prog.fieldsOf 187, by kernel_rfl, by kernel_rfl⟩, ⟨(Tryz.prog.info? 187).getD default, (.agg #[(.pointer none)]), by kernel_rfl, by kernel_rfl, by kernel_rfl, by kernel_rfl, rfl, ⟨[(.pointer none)], relL_cellAV _ [(.pointer none)], rfl⟩, relL_cellAV _ [(.pointer none)]⟩, (fun h => by cases h), (fun q hq => by cases hq)⟩
-- *filter.doors
def ty188 : TyRow := ⟨.ptr 192, 1, 8, [.nilP], false, false, [], false⟩
theorem ty188_met : ty188.met Tryz.prog 188 := ⟨(show Tryz.prog.underlying 188 = some (.pointer 192) by kernel_rfl), ⟨(Tryz.prog.info? 188).getD default, (.pointer none), by kernel_rfl, by kernel_rfl, by kernel_rfl, by kernel_rfl, rfl, relL_cellAV _ [(.pointer none)], relL_cellAV _ [(.pointer none)]⟩, (fun h => by cases h), (fun q hq => by cases hq)⟩
-- *door.Door
def ty189 : TyRow := ⟨.ptr 236, 1, 8, [.nilP], false, false, [], false⟩
theorem ty189_met : ty189.met Tryz.prog 189 := ⟨(show Tryz.prog.underlying 189 = some (.pointer 236) by kernel_rfl), ⟨(Tryz.prog.info? 189).getD default, (.pointer none), by kernel_rfl, by kernel_rfl, by kernel_rfl, by kernel_rfl, rfl, relL_cellAV _ [(.pointer none)], relL_cellAV _ [(.pointer none)]⟩, (fun h => by cases h), (fun q hq => by cases hq)⟩
-- func(int, int) *door.Door
def ty190 : TyRow := ⟨.func, 1, 8, [.nilF], false, false, [], false⟩
theorem ty190_met : ty190.met Tryz.prog 190 := ⟨⟨(funcOf Tryz.prog 190).1, (funcOf Tryz.prog 190).2.1, (funcOf Tryz.prog 190).2.2, by kernel_rfl⟩, ⟨(Tryz.prog.info? 190).getD default, .nilFunc, by kernel_rfl, by kernel_rfl, by kernel_rfl, by kernel_rfl, rfl, relL_cellAV _ [.nilFunc], relL_cellAV _ [.nilFunc]⟩, (fun h => by cases h), (fun q hq => by cases hq)⟩
-- struct { *door.Door }
def ty191 : TyRow := ⟨.struct [(0, 189)], 1, 8, [.nilP], false, false, [], false⟩
theorem ty191_met : ty191.met Tryz.prog 191 := ⟨⟨Tryz.prog.fieldsOf 191, by kernel_rfl, by kernel_rfl⟩, ⟨(Tryz.prog.info? 191).getD default, (.agg #[(.pointer none)]), by kernel_rfl, by kernel_rfl, by kernel_rfl, by kernel_rfl, rfl, ⟨[(.pointer none)], relL_cellAV _ [(.pointer none)], rfl⟩, relL_cellAV _ [(.pointer none)]⟩, (fun h => by cases h), (fun q hq => by cases hq)⟩
-- filter.doors
def ty192 : TyRow := ⟨.struct [(0, 189)], 1, 8, [.nilP], false, false, [], false⟩
theorem ty192_met : ty192.met Tryz.prog 192 := ⟨⟨Tryz.prog.fieldsOf 192, by kernel_rfl, by kernel_rfl⟩, ⟨(Tryz.prog.info? 192).getD default, (.agg #[(.pointer none)]), by kernel_rfl, by kernel_rfl, by kernel_rfl, by kernel_rfl, rfl, ⟨[(.pointer none)], relL_cellAV _ [(.pointer none)], rfl⟩, relL_cellAV _ [(.pointer none)]⟩, (fun h => by cases h), (fun q hq => by cases hq)⟩
-- struct { *filter.counts; *filter.doors; ages int }
def ty193 : TyRow := ⟨.struct [(0, 185), (1, 188), (2, 3)], 3, 24, [.nilP, .nilP, .lit .i64 0], false, false, [], false⟩
theorem ty193_met : ty193.met Tryz.prog 193 := ⟨⟨Tryz.prog.fieldsOf 193, by kernel_rfl, by kernel_rfl⟩, ⟨(Tryz.prog.info? 193).getD default, (.agg #[(.pointer none), (.pointer none), (.int .i64 0)]), by kernel_rfl, by kernel_rfl, by kernel_rfl, by kernel_rfl, rfl, ⟨[(.pointer none), (.pointer none), (.int .i64 0)], relL_cellAV _ [(.pointer none), (.pointer none), (.int .i64 0)], rfl⟩, relL_cellAV _ [(.pointer none), (.pointer none), (.int .i64 0)]⟩, (fun h => by cases h), (fun q hq => by cases hq)⟩
-- filter.Filter
def ty194 : TyRow := ⟨.struct [(0, 185), (1, 188), (2, 3)], 3, 24, [.nilP, .nilP, .lit .i64 0], false, false, [], false⟩
theorem ty194_met : ty194.met Tryz.prog 194 := ⟨⟨Tryz.prog.fieldsOf 194, by kernel_rfl, by kernel_rfl⟩, ⟨(Tryz.prog.info? 194).getD default, (.agg #[(.pointer none), (.pointer none), (.int .i64 0)]), by kernel_rfl, by kernel_rfl, by kernel_rfl, by kernel_rfl, rfl, ⟨[(.pointer none), (.pointer none), (.int .i64 0)], relL_cellAV _ [(.pointer none), (.pointer none), (.int .i64 0)], rfl⟩, relL_cellAV _ [(.pointer none), (.pointer none), (.int .i64 0)]⟩, (fun h => by cases h), (fun q hq => by cases hq)⟩
-- map[int]*deque.element
def ty195 : TyRow := ⟨.map 3 200, 1, 8, [.nilM], false, false, [], false⟩
theorem ty195_met : ty195.met Tryz.prog 195 := ⟨(show Tryz.prog.underlying 195 = some (.map 3 200) by kernel_rfl), ⟨(Tryz.prog.info? 195).getD default, (.map none), by kernel_rfl, by kernel_rfl, by kernel_rfl, by kernel_rfl, rfl, relL_cellAV _ [(.map none)], relL_cellAV _ [(.map none)]⟩, (fun h => by cases h), (fun q hq => by cases hq)⟩
-- []*deque.list
def ty196 : TyRow := ⟨.slice 199, 1, 24, [.nilS], false, false, [], false⟩
theorem ty196_met : ty196.met Tryz.prog 196 := ⟨(show Tryz.prog.underlying 196 = some (.slice 199) by kernel_rfl), ⟨(Tryz.prog.info? 196).getD default, (.slice none 0 0), by kernel_rfl, by kernel_rfl, by kernel_rfl, by kernel_rfl, rfl, relL_cellAV _ [(.slice none 0 0)], relL_cellAV _ [(.slice none 0 0)]⟩, (fun h => by cases h), (fun q hq => by cases hq)⟩
-- struct { rows []*deque.list; of map[int]*deque.element }
def ty197 : TyRow := ⟨.struct [(0, 196), (1, 195)], 2, 32, [.nilS, .nilM], false, false, [], false⟩
theorem ty197_met : ty197.met Tryz.prog 197 := ⟨⟨Tryz.prog.fieldsOf 197, by kernel_rfl, by kernel_rfl⟩, ⟨(Tryz.prog.info? 197).getD default, (.agg #[(.slice none 0 0), (.map none)]), by kernel_rfl, by kernel_rfl, by kernel_rfl, by kernel_rfl, rfl, ⟨[(.slice none 0 0), (.map none)], relL_cellAV _ [(.slice none 0 0), (.map none)], rfl⟩, relL_cellAV _ [(.slice none 0 0), (.map none)]⟩, (fun h => by cases h), (fun q hq => by cases hq)⟩
-- deque.Lists
def ty198 : TyRow := ⟨.struct [(0, 196), (1, 195)], 2, 32, [.nilS, .nilM], false, false, [], false⟩
theorem ty198_met : ty198.met Tryz.prog 198 := ⟨⟨Tryz.prog.fieldsOf 198, by kernel_rfl, by kernel_rfl⟩, ⟨(Tryz.prog.info? 198).getD default, (.agg #[(.slice none 0 0), (.map none)]), by kernel_rfl, by kernel_rfl, by kernel_rfl, by kernel_rfl, rfl, ⟨[(.slice none 0 0), (.map none)], relL_cellAV _ [(.slice none 0 0), (.map none)], rfl⟩, relL_cellAV _ [(.slice none 0 0), (.map none)]⟩, (fun h => by cases h), (fun q hq => by cases hq)⟩
-- *deque.list
def ty199 : TyRow := ⟨.ptr 204, 1, 8, [.nilP], false, false, [], false⟩
theorem ty199_met : ty199.met Tryz.prog 199 := ⟨(show Tryz.prog.underlying 199 = some (.pointer 204) by kernel_rfl), ⟨(Tryz.prog.info? 199).getD default, (.pointer none), by kernel_rfl, by kernel_rfl, by kernel_rfl, by kernel_rfl, rfl, relL_cellAV _ [(.pointer none)], relL_cellAV _ [(.pointer none)]⟩, (fun h => by cases h), (fun q hq => by cases hq)⟩
-- *deque.element
def ty200 : TyRow := ⟨.ptr 202, 1, 8, [.nilP], false, false, [], false⟩
theorem ty200_met : ty200.met Tryz.prog 200 := ⟨(show Tryz.prog.underlying 200 = some (.pointer 202) by kernel_rfl), ⟨(Tryz.prog.info? 200).getD default, (.pointer none), by kernel_rfl, by kernel_rfl, by kernel_rfl, by kernel_rfl, rfl, relL_cellAV _ [(.pointer none)], relL_cellAV _ [(.pointer none)]⟩, (fun h => by cases h), (fun q hq => by cases hq)⟩
-- struct { id int; weight int; list *deque.list; prev *deque.element; next *deque.element }
def ty201 : TyRow := ⟨.struct [(0, 3), (1, 3), (2, 199), (3, 200), (4, 200)], 5, 40, [.lit .i64 0, .lit .i64 0, .nilP, .nilP, .nilP], false, false, [], false⟩
theorem ty201_met : ty201.met Tryz.prog 201 := ⟨⟨Tryz.prog.fieldsOf 201, by kernel_rfl, by kernel_rfl⟩, ⟨(Tryz.prog.info? 201).getD default, (.agg #[(.int .i64 0), (.int .i64 0), (.pointer none), (.pointer none), (.pointer none)]), by kernel_rfl, by kernel_rfl, by kernel_rfl, by kernel_rfl, rfl, ⟨[(.int .i64 0), (.int .i64 0), (.pointer none), (.pointer none), (.pointer none)], relL_cellAV _ [(.int .i64 0), (.int .i64 0), (.pointer none), (.pointer none), (.pointer none)], rfl⟩, relL_cellAV _ [(.int .i64 0), (.int .i64 0), (.pointer none), (.pointer none), (.pointer none)]⟩, (fun h => by cases h), (fun q hq => by cases hq)⟩
-- deque.element
def ty202 : TyRow := ⟨.struct [(0, 3), (1, 3), (2, 199), (3, 200), (4, 200)], 5, 40, [.lit .i64 0, .lit .i64 0, .nilP, .nilP, .nilP], false, false, [], false⟩
theorem ty202_met : ty202.met Tryz.prog 202 := ⟨⟨Tryz.prog.fieldsOf 202, by kernel_rfl, by kernel_rfl⟩, ⟨(Tryz.prog.info? 202).getD default, (.agg #[(.int .i64 0), (.int .i64 0), (.pointer none), (.pointer none), (.pointer none)]), by kernel_rfl, by kernel_rfl, by kernel_rfl, by kernel_rfl, rfl, ⟨[(.int .i64 0), (.int .i64 0), (.pointer none), (.pointer none), (.pointer none)], relL_cellAV _ [(.int .i64 0), (.int .i64 0), (.pointer none), (.pointer none), (.pointer none)], rfl⟩, relL_cellAV _ [(.int .i64 0), (.int .i64 0), (.pointer none), (.pointer none), (.pointer none)]⟩, (fun h => by cases h), (fun q hq => by cases hq)⟩
-- struct { ends deque.element; number int; weight int; length int }
def ty203 : TyRow := ⟨.struct [(0, 202), (5, 3), (6, 3), (7, 3)], 8, 64, [.lit .i64 0, .lit .i64 0, .nilP, .nilP, .nilP, .lit .i64 0, .lit .i64 0, .lit .i64 0], false, false, [], false⟩
theorem ty203_met : ty203.met Tryz.prog 203 := ⟨⟨Tryz.prog.fieldsOf 203, by kernel_rfl, by kernel_rfl⟩, ⟨(Tryz.prog.info? 203).getD default, (.agg #[(.int .i64 0), (.int .i64 0), (.pointer none), (.pointer none), (.pointer none), (.int .i64 0), (.int .i64 0), (.int .i64 0)]), by kernel_rfl, by kernel_rfl, by kernel_rfl, by kernel_rfl, rfl, ⟨[(.int .i64 0), (.int .i64 0), (.pointer none), (.pointer none), (.pointer none), (.int .i64 0), (.int .i64 0), (.int .i64 0)], relL_cellAV _ [(.int .i64 0), (.int .i64 0), (.pointer none), (.pointer none), (.pointer none), (.int .i64 0), (.int .i64 0), (.int .i64 0)], rfl⟩, relL_cellAV _ [(.int .i64 0), (.int .i64 0), (.pointer none), (.pointer none), (.pointer none), (.int .i64 0), (.int .i64 0), (.int .i64 0)]⟩, (fun h => by cases h), (fun q hq => by cases hq)⟩
-- deque.list
def ty204 : TyRow := ⟨.struct [(0, 202), (5, 3), (6, 3), (7, 3)], 8, 64, [.lit .i64 0, .lit .i64 0, .nilP, .nilP, .nilP, .lit .i64 0, .lit .i64 0, .lit .i64 0], false, false, [], false⟩
theorem ty204_met : ty204.met Tryz.prog 204 := ⟨⟨Tryz.prog.fieldsOf 204, by kernel_rfl, by kernel_rfl⟩, ⟨(Tryz.prog.info? 204).getD default, (.agg #[(.int .i64 0), (.int .i64 0), (.pointer none), (.pointer none), (.pointer none), (.int .i64 0), (.int .i64 0), (.int .i64 0)]), by kernel_rfl, by kernel_rfl, by kernel_rfl, by kernel_rfl, rfl, ⟨[(.int .i64 0), (.int .i64 0), (.pointer none), (.pointer none), (.pointer none), (.int .i64 0), (.int .i64 0), (.int .i64 0)], relL_cellAV _ [(.int .i64 0), (.int .i64 0), (.pointer none), (.pointer none), (.pointer none), (.int .i64 0), (.int .i64 0), (.int .i64 0)], rfl⟩, relL_cellAV _ [(.int .i64 0), (.int .i64 0), (.pointer none), (.pointer none), (.pointer none), (.int .i64 0), (.int .i64 0), (.int .i64 0)]⟩, (fun h => by cases h), (fun q hq => by cases hq)⟩
-- func(int) (int, int)
def ty206 : TyRow := ⟨.func, 1, 8, [.nilF], false, false, [], false⟩
theorem ty206_met : ty206.met Tryz.prog 206 := ⟨⟨(funcOf Tryz.prog 206).1, (funcOf Tryz.prog 206).2.1, (funcOf Tryz.prog 206).2.2, by kernel_rfl⟩, ⟨(Tryz.prog.info? 206).getD default, .nilFunc, by kernel_rfl, by kernel_rfl, by kernel_rfl, by kernel_rfl, rfl, relL_cellAV _ [.nilFunc], relL_cellAV _ [.nilFunc]⟩, (fun h => by cases h), (fun q hq => by cases hq)⟩
-- func(int, int) api.Quota
def ty207 : TyRow := ⟨.func, 1, 8, [.nilF], false, false, [], false⟩
theorem ty207_met : ty207.met Tryz.prog 207 := ⟨⟨(funcOf Tryz.prog 207).1, (funcOf Tryz.prog 207).2.1, (funcOf Tryz.prog 207).2.2, by kernel_rfl⟩, ⟨(Tryz.prog.info? 207).getD default, .nilFunc, by kernel_rfl, by kernel_rfl, by kernel_rfl, by kernel_rfl, rfl, relL_cellAV _ [.nilFunc], relL_cellAV _ [.nilFunc]⟩, (fun h => by cases h), (fun q hq => by cases hq)⟩
-- struct { cells []int; at int; length int; lost int }
def ty208 : TyRow := ⟨.struct [(0, 26), (1, 3), (2, 3), (3, 3)], 4, 48, [.nilS, .lit .i64 0, .lit .i64 0, .lit .i64 0], false, false, [], false⟩
theorem ty208_met : ty208.met Tryz.prog 208 := ⟨⟨Tryz.prog.fieldsOf 208, by kernel_rfl, by kernel_rfl⟩, ⟨(Tryz.prog.info? 208).getD default, (.agg #[(.slice none 0 0), (.int .i64 0), (.int .i64 0), (.int .i64 0)]), by kernel_rfl, by kernel_rfl, by kernel_rfl, by kernel_rfl, rfl, ⟨[(.slice none 0 0), (.int .i64 0), (.int .i64 0), (.int .i64 0)], relL_cellAV _ [(.slice none 0 0), (.int .i64 0), (.int .i64 0), (.int .i64 0)], rfl⟩, relL_cellAV _ [(.slice none 0 0), (.int .i64 0), (.int .i64 0), (.int .i64 0)]⟩, (fun h => by cases h), (fun q hq => by cases hq)⟩
-- ring.Ring
def ty209 : TyRow := ⟨.struct [(0, 26), (1, 3), (2, 3), (3, 3)], 4, 48, [.nilS, .lit .i64 0, .lit .i64 0, .lit .i64 0], false, false, [], false⟩
theorem ty209_met : ty209.met Tryz.prog 209 := ⟨⟨Tryz.prog.fieldsOf 209, by kernel_rfl, by kernel_rfl⟩, ⟨(Tryz.prog.info? 209).getD default, (.agg #[(.slice none 0 0), (.int .i64 0), (.int .i64 0), (.int .i64 0)]), by kernel_rfl, by kernel_rfl, by kernel_rfl, by kernel_rfl, rfl, ⟨[(.slice none 0 0), (.int .i64 0), (.int .i64 0), (.int .i64 0)], relL_cellAV _ [(.slice none 0 0), (.int .i64 0), (.int .i64 0), (.int .i64 0)], rfl⟩, relL_cellAV _ [(.slice none 0 0), (.int .i64 0), (.int .i64 0), (.int .i64 0)]⟩, (fun h => by cases h), (fun q hq => by cases hq)⟩
-- func(error, error) bool
def ty210 : TyRow := ⟨.func, 1, 8, [.nilF], false, false, [], false⟩
theorem ty210_met : ty210.met Tryz.prog 210 := ⟨⟨(funcOf Tryz.prog 210).1, (funcOf Tryz.prog 210).2.1, (funcOf Tryz.prog 210).2.2, by kernel_rfl⟩, ⟨(Tryz.prog.info? 210).getD default, .nilFunc, by kernel_rfl, by kernel_rfl, by kernel_rfl, by kernel_rfl, rfl, relL_cellAV _ [.nilFunc], relL_cellAV _ [.nilFunc]⟩, (fun h => by cases h), (fun q hq => by cases hq)⟩
-- interface { Error() string }
def ty211 : TyRow := ⟨.iface, 1, 16, [.nilI], false, false, [], false⟩
theorem ty211_met : ty211.met Tryz.prog 211 := ⟨⟨ifaceOf Tryz.prog 211, by kernel_rfl⟩, ⟨(Tryz.prog.info? 211).getD default, .nilIface, by kernel_rfl, by kernel_rfl, by kernel_rfl, by kernel_rfl, rfl, relL_cellAV _ [.nilIface], relL_cellAV _ [.nilIface]⟩, (fun h => by cases h), (fun q hq => by cases hq)⟩
-- error
def ty212 : TyRow := ⟨.iface, 1, 16, [.nilI], false, false, [], false⟩
theorem ty212_met : ty212.met Tryz.prog 212 := ⟨⟨ifaceOf Tryz.prog 212, by kernel_rfl⟩, ⟨(Tryz.prog.info? 212).getD default, .nilIface, by kernel_rfl, by kernel_rfl, by kernel_rfl, by kernel_rfl, rfl, relL_cellAV _ [.nilIface], relL_cellAV _ [.nilIface]⟩, (fun h => by cases h), (fun q hq => by cases hq)⟩
-- func() error
def ty213 : TyRow := ⟨.func, 1, 8, [.nilF], false, false, [], false⟩
theorem ty213_met : ty213.met Tryz.prog 213 := ⟨⟨(funcOf Tryz.prog 213).1, (funcOf Tryz.prog 213).2.1, (funcOf Tryz.prog 213).2.2, by kernel_rfl⟩, ⟨(Tryz.prog.info? 213).getD default, .nilFunc, by kernel_rfl, by kernel_rfl, by kernel_rfl, by kernel_rfl, rfl, relL_cellAV _ [.nilFunc], relL_cellAV _ [.nilFunc]⟩, (fun h => by cases h), (fun q hq => by cases hq)⟩
-- func(int, int) bool
def ty214 : TyRow := ⟨.func, 1, 8, [.nilF], false, false, [], false⟩
theorem ty214_met : ty214.met Tryz.prog 214 := ⟨⟨(funcOf Tryz.prog 214).1, (funcOf Tryz.prog 214).2.1, (funcOf Tryz.prog 214).2.2, by kernel_rfl⟩, ⟨(Tryz.prog.info? 214).getD default, .nilFunc, by kernel_rfl, by kernel_rfl, by kernel_rfl, by kernel_rfl, rfl, relL_cellAV _ [.nilFunc], relL_cellAV _ [.nilFunc]⟩, (fun h => by cases h), (fun q hq => by cases hq)⟩
-- func(api.Status)
def ty215 : TyRow := ⟨.func, 1, 8, [.nilF], false, false, [], false⟩
theorem ty215_met : ty215.met Tryz.prog 215 := ⟨⟨(funcOf Tryz.prog 215).1, (funcOf Tryz.prog 215).2.1, (funcOf Tryz.prog 215).2.2, by kernel_rfl⟩, ⟨(Tryz.prog.info? 215).getD default, .nilFunc, by kernel_rfl, by kernel_rfl, by kernel_rfl, by kernel_rfl, rfl, relL_cellAV _ [.nilFunc], relL_cellAV _ [.nilFunc]⟩, (fun h => by cases h), (fun q hq => by cases hq)⟩
-- api.Status
def ty216 : TyRow := ⟨.int .i64, 1, 8, [.lit .i64 0], false, false, [], false⟩
theorem ty216_met : ty216.met Tryz.prog 216 := ⟨(show Tryz.prog.underlying 216 = some (.int .i64) by kernel_rfl), ⟨(Tryz.prog.info? 216).getD default, (.int .i64 0), by kernel_rfl, by kernel_rfl, by kernel_rfl, by kernel_rfl, rfl, relL_cellAV _ [(.int .i64 0)], relL_cellAV _ [(.int .i64 0)]⟩, (fun h => by cases h), (fun q hq => by cases hq)⟩
-- func(api.Status) api.Status
def ty217 : TyRow := ⟨.func, 1, 8, [.nilF], false, false, [], false⟩
theorem ty217_met : ty217.met Tryz.prog 217 := ⟨⟨(funcOf Tryz.prog 217).1, (funcOf Tryz.prog 217).2.1, (funcOf Tryz.prog 217).2.2, by kernel_rfl⟩, ⟨(Tryz.prog.info? 217).getD default, .nilFunc, by kernel_rfl, by kernel_rfl, by kernel_rfl, by kernel_rfl, rfl, relL_cellAV _ [.nilFunc], relL_cellAV _ [.nilFunc]⟩, (fun h => by cases h), (fun q hq => by cases hq)⟩
-- func() api.Status
def ty218 : TyRow := ⟨.func, 1, 8, [.nilF], false, false, [], false⟩
theorem ty218_met : ty218.met Tryz.prog 218 := ⟨⟨(funcOf Tryz.prog 218).1, (funcOf Tryz.prog 218).2.1, (funcOf Tryz.prog 218).2.2, by kernel_rfl⟩, ⟨(Tryz.prog.info? 218).getD default, .nilFunc, by kernel_rfl, by kernel_rfl, by kernel_rfl, by kernel_rfl, rfl, relL_cellAV _ [.nilFunc], relL_cellAV _ [.nilFunc]⟩, (fun h => by cases h), (fun q hq => by cases hq)⟩
-- func([]api.Entry, int, int, func(api.Entry, api.Entry) int)
def ty219 : TyRow := ⟨.func, 1, 8, [.nilF], false, false, [], false⟩
theorem ty219_met : ty219.met Tryz.prog 219 := ⟨⟨(funcOf Tryz.prog 219).1, (funcOf Tryz.prog 219).2.1, (funcOf Tryz.prog 219).2.2, by kernel_rfl⟩, ⟨(Tryz.prog.info? 219).getD default, .nilFunc, by kernel_rfl, by kernel_rfl, by kernel_rfl, by kernel_rfl, rfl, relL_cellAV _ [.nilFunc], relL_cellAV _ [.nilFunc]⟩, (fun h => by cases h), (fun q hq => by cases hq)⟩
-- slices.sortedHint
def ty220 : TyRow := ⟨.int .i64, 1, 8, [.lit .i64 0], false, false, [], false⟩
theorem ty220_met : ty220.met Tryz.prog 220 := ⟨(show Tryz.prog.underlying 220 = some (.int .i64) by kernel_rfl), ⟨(Tryz.prog.info? 220).getD default, (.int .i64 0), by kernel_rfl, by kernel_rfl, by kernel_rfl, by kernel_rfl, rfl, relL_cellAV _ [(.int .i64 0)], relL_cellAV _ [(.int .i64 0)]⟩, (fun h => by cases h), (fun q hq => by cases hq)⟩
-- func([]api.Entry, int, int, func(api.Entry, api.Entry) int) (int, slices.sortedHint)
def ty222 : TyRow := ⟨.func, 1, 8, [.nilF], false, false, [], false⟩
theorem ty222_met : ty222.met Tryz.prog 222 := ⟨⟨(funcOf Tryz.prog 222).1, (funcOf Tryz.prog 222).2.1, (funcOf Tryz.prog 222).2.2, by kernel_rfl⟩, ⟨(Tryz.prog.info? 222).getD default, .nilFunc, by kernel_rfl, by kernel_rfl, by kernel_rfl, by kernel_rfl, rfl, relL_cellAV _ [.nilFunc], relL_cellAV _ [.nilFunc]⟩, (fun h => by cases h), (fun q hq => by cases hq)⟩
-- func([]api.Entry, int, int, func(api.Entry, api.Entry) int) bool
def ty223 : TyRow := ⟨.func, 1, 8, [.nilF], false, false, [], false⟩
theorem ty223_met : ty223.met Tryz.prog 223 := ⟨⟨(funcOf Tryz.prog 223).1, (funcOf Tryz.prog 223).2.1, (funcOf Tryz.prog 223).2.2, by kernel_rfl⟩, ⟨(Tryz.prog.info? 223).getD default, .nilFunc, by kernel_rfl, by kernel_rfl, by kernel_rfl, by kernel_rfl, rfl, relL_cellAV _ [.nilFunc], relL_cellAV _ [.nilFunc]⟩, (fun h => by cases h), (fun q hq => by cases hq)⟩
-- func([]api.Entry, int, int, int, func(api.Entry, api.Entry) int) int
def ty224 : TyRow := ⟨.func, 1, 8, [.nilF], false, false, [], false⟩
theorem ty224_met : ty224.met Tryz.prog 224 := ⟨⟨(funcOf Tryz.prog 224).1, (funcOf Tryz.prog 224).2.1, (funcOf Tryz.prog 224).2.2, by kernel_rfl⟩, ⟨(Tryz.prog.info? 224).getD default, .nilFunc, by kernel_rfl, by kernel_rfl, by kernel_rfl, by kernel_rfl, rfl, relL_cellAV _ [.nilFunc], relL_cellAV _ [.nilFunc]⟩, (fun h => by cases h), (fun q hq => by cases hq)⟩
-- func([]api.Entry, int, int, int, func(api.Entry, api.Entry) int) (int, bool)
def ty226 : TyRow := ⟨.func, 1, 8, [.nilF], false, false, [], false⟩
theorem ty226_met : ty226.met Tryz.prog 226 := ⟨⟨(funcOf Tryz.prog 226).1, (funcOf Tryz.prog 226).2.1, (funcOf Tryz.prog 226).2.2, by kernel_rfl⟩, ⟨(Tryz.prog.info? 226).getD default, .nilFunc, by kernel_rfl, by kernel_rfl, by kernel_rfl, by kernel_rfl, rfl, relL_cellAV _ [.nilFunc], relL_cellAV _ [.nilFunc]⟩, (fun h => by cases h), (fun q hq => by cases hq)⟩
-- func(uint32) int
def ty227 : TyRow := ⟨.func, 1, 8, [.nilF], false, false, [], false⟩
theorem ty227_met : ty227.met Tryz.prog 227 := ⟨⟨(funcOf Tryz.prog 227).1, (funcOf Tryz.prog 227).2.1, (funcOf Tryz.prog 227).2.2, by kernel_rfl⟩, ⟨(Tryz.prog.info? 227).getD default, .nilFunc, by kernel_rfl, by kernel_rfl, by kernel_rfl, by kernel_rfl, rfl, relL_cellAV _ [.nilFunc], relL_cellAV _ [.nilFunc]⟩, (fun h => by cases h), (fun q hq => by cases hq)⟩
-- uint32
def ty228 : TyRow := ⟨.int .u32, 1, 4, [.lit .u32 0], false, false, [], false⟩
theorem ty228_met : ty228.met Tryz.prog 228 := ⟨(show Tryz.prog.underlying 228 = some (.int .u32) by kernel_rfl), ⟨(Tryz.prog.info? 228).getD default, (.int .u32 0), by kernel_rfl, by kernel_rfl, by kernel_rfl, by kernel_rfl, rfl, relL_cellAV _ [(.int .u32 0)], relL_cellAV _ [(.int .u32 0)]⟩, (fun h => by cases h), (fun q hq => by cases hq)⟩
-- func(uint64) int
def ty229 : TyRow := ⟨.func, 1, 8, [.nilF], false, false, [], false⟩
theorem ty229_met : ty229.met Tryz.prog 229 := ⟨⟨(funcOf Tryz.prog 229).1, (funcOf Tryz.prog 229).2.1, (funcOf Tryz.prog 229).2.2, by kernel_rfl⟩, ⟨(Tryz.prog.info? 229).getD default, .nilFunc, by kernel_rfl, by kernel_rfl, by kernel_rfl, by kernel_rfl, rfl, relL_cellAV _ [.nilFunc], relL_cellAV _ [.nilFunc]⟩, (fun h => by cases h), (fun q hq => by cases hq)⟩
-- uint64
def ty230 : TyRow := ⟨.int .u64, 1, 8, [.lit .u64 0], false, false, [], false⟩
theorem ty230_met : ty230.met Tryz.prog 230 := ⟨(show Tryz.prog.underlying 230 = some (.int .u64) by kernel_rfl), ⟨(Tryz.prog.info? 230).getD default, (.int .u64 0), by kernel_rfl, by kernel_rfl, by kernel_rfl, by kernel_rfl, rfl, relL_cellAV _ [(.int .u64 0)], relL_cellAV _ [(.int .u64 0)]⟩, (fun h => by cases h), (fun q hq => by cases hq)⟩
-- []uint64
def ty231 : TyRow := ⟨.slice 230, 1, 24, [.nilS], false, false, [], false⟩
theorem ty231_met : ty231.met Tryz.prog 231 := ⟨(show Tryz.prog.underlying 231 = some (.slice 230) by kernel_rfl), ⟨(Tryz.prog.info? 231).getD default, (.slice none 0 0), by kernel_rfl, by kernel_rfl, by kernel_rfl, by kernel_rfl, rfl, relL_cellAV _ [(.slice none 0 0)], relL_cellAV _ [(.slice none 0 0)]⟩, (fun h => by cases h), (fun q hq => by cases hq)⟩
-- [4][]uint64
def ty232 : TyRow := ⟨.array 4 231, 4, 96, [.nilS, .nilS, .nilS, .nilS], false, false, [], false⟩
theorem ty232_met : ty232.met Tryz.prog 232 := ⟨(show Tryz.prog.underlying 232 = some (.array 4 231) by kernel_rfl), ⟨(Tryz.prog.info? 232).getD default, (.agg #[(.slice none 0 0), (.slice none 0 0), (.slice none 0 0), (.slice none 0 0)]), by kernel_rfl, by kernel_rfl, by kernel_rfl, by kernel_rfl, rfl, ⟨[(.slice none 0 0), (.slice none 0 0), (.slice none 0 0), (.slice none 0 0)], relL_cellAV _ [(.slice none 0 0), (.slice none 0 0), (.slice none 0 0), (.slice none 0 0)], rfl⟩, relL_cellAV _ [(.slice none 0 0), (.slice none 0 0), (.slice none 0 0), (.slice none 0 0)]⟩, (fun h => by cases h), (fun q hq => by cases hq)⟩
-- struct { width int; seed int; samples int; rows [4][]uint64 }
def ty233 : TyRow := ⟨.struct [(0, 3), (1, 3), (2, 3), (3, 232)], 7, 120, [.lit .i64 0, .lit .i64 0, .lit .i64 0, .nilS, .nilS, .nilS, .nilS], false, false, [], false⟩
theorem ty233_met : ty233.met Tryz.prog 233 := ⟨⟨Tryz.prog.fieldsOf 233, by kernel_rfl, by kernel_rfl⟩, ⟨(Tryz.prog.info? 233).getD default, (.agg #[(.int .i64 0), (.int .i64 0), (.int .i64 0), (.slice none 0 0), (.slice none 0 0), (.slice none 0 0), (.slice none 0 0)]), by kernel_rfl, by kernel_rfl, by kernel_rfl, by kernel_rfl, rfl, ⟨[(.int .i64 0), (.int .i64 0), (.int .i64 0), (.slice none 0 0), (.slice none 0 0), (.slice none 0 0), (.slice none 0 0)], relL_cellAV _ [(.int .i64 0), (.int .i64 0), (.int .i64 0), (.slice none 0 0), (.slice none 0 0), (.slice none 0 0), (.slice none 0 0)], rfl⟩, relL_cellAV _ [(.int .i64 0), (.int .i64 0), (.int .i64 0), (.slice none 0 0), (.slice none 0 0), (.slice none 0 0), (.slice none 0 0)]⟩, (fun h => by cases h), (fun q hq => by cases hq)⟩
-- sketch.Sketch
def ty234 : TyRow := ⟨.struct [(0, 3), (1, 3), (2, 3), (3, 232)], 7, 120, [.lit .i64 0, .lit .i64 0, .lit .i64 0, .nilS, .nilS, .nilS, .nilS], false, false, [], false⟩
theorem ty234_met : ty234.met Tryz.prog 234 := ⟨⟨Tryz.prog.fieldsOf 234, by kernel_rfl, by kernel_rfl⟩, ⟨(Tryz.prog.info? 234).getD default, (.agg #[(.int .i64 0), (.int .i64 0), (.int .i64 0), (.slice none 0 0), (.slice none 0 0), (.slice none 0 0), (.slice none 0 0)]), by kernel_rfl, by kernel_rfl, by kernel_rfl, by kernel_rfl, rfl, ⟨[(.int .i64 0), (.int .i64 0), (.int .i64 0), (.slice none 0 0), (.slice none 0 0), (.slice none 0 0), (.slice none 0 0)], relL_cellAV _ [(.int .i64 0), (.int .i64 0), (.int .i64 0), (.slice none 0 0), (.slice none 0 0), (.slice none 0 0), (.slice none 0 0)], rfl⟩, relL_cellAV _ [(.int .i64 0), (.int .i64 0), (.int .i64 0), (.slice none 0 0), (.slice none 0 0), (.slice none 0 0), (.slice none 0 0)]⟩, (fun h => by cases h), (fun q hq => by cases hq)⟩
-- struct { seed int; words []uint64 }
def ty235 : TyRow := ⟨.struct [(0, 3), (1, 231)], 2, 32, [.lit .i64 0, .nilS], false, false, [], false⟩
theorem ty235_met : ty235.met Tryz.prog 235 := ⟨⟨Tryz.prog.fieldsOf 235, by kernel_rfl, by kernel_rfl⟩, ⟨(Tryz.prog.info? 235).getD default, (.agg #[(.int .i64 0), (.slice none 0 0)]), by kernel_rfl, by kernel_rfl, by kernel_rfl, by kernel_rfl, rfl, ⟨[(.int .i64 0), (.slice none 0 0)], relL_cellAV _ [(.int .i64 0), (.slice none 0 0)], rfl⟩, relL_cellAV _ [(.int .i64 0), (.slice none 0 0)]⟩, (fun h => by cases h), (fun q hq => by cases hq)⟩
-- door.Door
def ty236 : TyRow := ⟨.struct [(0, 3), (1, 231)], 2, 32, [.lit .i64 0, .nilS], false, false, [], false⟩
theorem ty236_met : ty236.met Tryz.prog 236 := ⟨⟨Tryz.prog.fieldsOf 236, by kernel_rfl, by kernel_rfl⟩, ⟨(Tryz.prog.info? 236).getD default, (.agg #[(.int .i64 0), (.slice none 0 0)]), by kernel_rfl, by kernel_rfl, by kernel_rfl, by kernel_rfl, rfl, ⟨[(.int .i64 0), (.slice none 0 0)], relL_cellAV _ [(.int .i64 0), (.slice none 0 0)], rfl⟩, relL_cellAV _ [(.int .i64 0), (.slice none 0 0)]⟩, (fun h => by cases h), (fun q hq => by cases hq)⟩
-- func(error) api.Errno
def ty237 : TyRow := ⟨.func, 1, 8, [.nilF], false, false, [], false⟩
theorem ty237_met : ty237.met Tryz.prog 237 := ⟨⟨(funcOf Tryz.prog 237).1, (funcOf Tryz.prog 237).2.1, (funcOf Tryz.prog 237).2.2, by kernel_rfl⟩, ⟨(Tryz.prog.info? 237).getD default, .nilFunc, by kernel_rfl, by kernel_rfl, by kernel_rfl, by kernel_rfl, rfl, relL_cellAV _ [.nilFunc], relL_cellAV _ [.nilFunc]⟩, (fun h => by cases h), (fun q hq => by cases hq)⟩
-- func(int, int, int) error
def ty238 : TyRow := ⟨.func, 1, 8, [.nilF], false, false, [], false⟩
theorem ty238_met : ty238.met Tryz.prog 238 := ⟨⟨(funcOf Tryz.prog 238).1, (funcOf Tryz.prog 238).2.1, (funcOf Tryz.prog 238).2.2, by kernel_rfl⟩, ⟨(Tryz.prog.info? 238).getD default, .nilFunc, by kernel_rfl, by kernel_rfl, by kernel_rfl, by kernel_rfl, rfl, relL_cellAV _ [.nilFunc], relL_cellAV _ [.nilFunc]⟩, (fun h => by cases h), (fun q hq => by cases hq)⟩
-- func(int, int, api.Commit, api.Errno)
def ty239 : TyRow := ⟨.func, 1, 8, [.nilF], false, false, [], false⟩
theorem ty239_met : ty239.met Tryz.prog 239 := ⟨⟨(funcOf Tryz.prog 239).1, (funcOf Tryz.prog 239).2.1, (funcOf Tryz.prog 239).2.2, by kernel_rfl⟩, ⟨(Tryz.prog.info? 239).getD default, .nilFunc, by kernel_rfl, by kernel_rfl, by kernel_rfl, by kernel_rfl, rfl, relL_cellAV _ [.nilFunc], relL_cellAV _ [.nilFunc]⟩, (fun h => by cases h), (fun q hq => by cases hq)⟩
-- interface { AssignableTo(reflectlite.Type) bool; Comparable() bool; Elem() reflectlite.Type; Impleme
def ty240 : TyRow := ⟨.iface, 1, 16, [.nilI], false, false, [], false⟩
theorem ty240_met : ty240.met Tryz.prog 240 := ⟨⟨ifaceOf Tryz.prog 240, by kernel_rfl⟩, ⟨(Tryz.prog.info? 240).getD default, .nilIface, by kernel_rfl, by kernel_rfl, by kernel_rfl, by kernel_rfl, rfl, relL_cellAV _ [.nilIface], relL_cellAV _ [.nilIface]⟩, (fun h => by cases h), (fun q hq => by cases hq)⟩
-- reflectlite.Type
def ty241 : TyRow := ⟨.iface, 1, 16, [.nilI], false, false, [], false⟩
theorem ty241_met : ty241.met Tryz.prog 241 := ⟨⟨ifaceOf Tryz.prog 241, by kernel_rfl⟩, ⟨(Tryz.prog.info? 241).getD default, .nilIface, by kernel_rfl, by kernel_rfl, by kernel_rfl, by kernel_rfl, rfl, relL_cellAV _ [.nilIface], relL_cellAV _ [.nilIface]⟩, (fun h => by cases h), (fun q hq => by cases hq)⟩
-- func(interface {}) reflectlite.Type
def ty242 : TyRow := ⟨.func, 1, 8, [.nilF], false, false, [], false⟩
theorem ty242_met : ty242.met Tryz.prog 242 := ⟨⟨(funcOf Tryz.prog 242).1, (funcOf Tryz.prog 242).2.1, (funcOf Tryz.prog 242).2.2, by kernel_rfl⟩, ⟨(Tryz.prog.info? 242).getD default, .nilFunc, by kernel_rfl, by kernel_rfl, by kernel_rfl, by kernel_rfl, rfl, relL_cellAV _ [.nilFunc], relL_cellAV _ [.nilFunc]⟩, (fun h => by cases h), (fun q hq => by cases hq)⟩
-- func(error, error, bool) bool
def ty243 : TyRow := ⟨.func, 1, 8, [.nilF], false, false, [], false⟩
theorem ty243_met : ty243.met Tryz.prog 243 := ⟨⟨(funcOf Tryz.prog 243).1, (funcOf Tryz.prog 243).2.1, (funcOf Tryz.prog 243).2.2, by kernel_rfl⟩, ⟨(Tryz.prog.info? 243).getD default, .nilFunc, by kernel_rfl, by kernel_rfl, by kernel_rfl, by kernel_rfl, rfl, relL_cellAV _ [.nilFunc], relL_cellAV _ [.nilFunc]⟩, (fun h => by cases h), (fun q hq => by cases hq)⟩
-- func(api.Errno, int, int) error
def ty244 : TyRow := ⟨.func, 1, 8, [.nilF], false, false, [], false⟩
theorem ty244_met : ty244.met Tryz.prog 244 := ⟨⟨(funcOf Tryz.prog 244).1, (funcOf Tryz.prog 244).2.1, (funcOf Tryz.prog 244).2.2, by kernel_rfl⟩, ⟨(Tryz.prog.info? 244).getD default, .nilFunc, by kernel_rfl, by kernel_rfl, by kernel_rfl, by kernel_rfl, rfl, relL_cellAV _ [.nilFunc], relL_cellAV _ [.nilFunc]⟩, (fun h => by cases h), (fun q hq => by cases hq)⟩
-- func(int, int) (bool, api.Errno)
def ty246 : TyRow := ⟨.func, 1, 8, [.nilF], false, false, [], false⟩
theorem ty246_met : ty246.met Tryz.prog 246 := ⟨⟨(funcOf Tryz.prog 246).1, (funcOf Tryz.prog 246).2.1, (funcOf Tryz.prog 246).2.2, by kernel_rfl⟩, ⟨(Tryz.prog.info? 246).getD default, .nilFunc, by kernel_rfl, by kernel_rfl, by kernel_rfl, by kernel_rfl, rfl, relL_cellAV _ [.nilFunc], relL_cellAV _ [.nilFunc]⟩, (fun h => by cases h), (fun q hq => by cases hq)⟩
-- func(int, int) api.Errno
def ty247 : TyRow := ⟨.func, 1, 8, [.nilF], false, false, [], false⟩
theorem ty247_met : ty247.met Tryz.prog 247 := ⟨⟨(funcOf Tryz.prog 247).1, (funcOf Tryz.prog 247).2.1, (funcOf Tryz.prog 247).2.2, by kernel_rfl⟩, ⟨(Tryz.prog.info? 247).getD default, .nilFunc, by kernel_rfl, by kernel_rfl, by kernel_rfl, by kernel_rfl, rfl, relL_cellAV _ [.nilFunc], relL_cellAV _ [.nilFunc]⟩, (fun h => by cases h), (fun q hq => by cases hq)⟩
-- func(uint64, int, int) int
def ty248 : TyRow := ⟨.func, 1, 8, [.nilF], false, false, [], false⟩
theorem ty248_met : ty248.met Tryz.prog 248 := ⟨⟨(funcOf Tryz.prog 248).1, (funcOf Tryz.prog 248).2.1, (funcOf Tryz.prog 248).2.2, by kernel_rfl⟩, ⟨(Tryz.prog.info? 248).getD default, .nilFunc, by kernel_rfl, by kernel_rfl, by kernel_rfl, by kernel_rfl, rfl, relL_cellAV _ [.nilFunc], relL_cellAV _ [.nilFunc]⟩, (fun h => by cases h), (fun q hq => by cases hq)⟩
-- func(int, int) uint64
def ty249 : TyRow := ⟨.func, 1, 8, [.nilF], false, false, [], false⟩
theorem ty249_met : ty249.met Tryz.prog 249 := ⟨⟨(funcOf Tryz.prog 249).1, (funcOf Tryz.prog 249).2.1, (funcOf Tryz.prog 249).2.2, by kernel_rfl⟩, ⟨(Tryz.prog.info? 249).getD default, .nilFunc, by kernel_rfl, by kernel_rfl, by kernel_rfl, by kernel_rfl, rfl, relL_cellAV _ [.nilFunc], relL_cellAV _ [.nilFunc]⟩, (fun h => by cases h), (fun q hq => by cases hq)⟩
-- func(api.Op)
def ty250 : TyRow := ⟨.func, 1, 8, [.nilF], false, false, [], false⟩
theorem ty250_met : ty250.met Tryz.prog 250 := ⟨⟨(funcOf Tryz.prog 250).1, (funcOf Tryz.prog 250).2.1, (funcOf Tryz.prog 250).2.2, by kernel_rfl⟩, ⟨(Tryz.prog.info? 250).getD default, .nilFunc, by kernel_rfl, by kernel_rfl, by kernel_rfl, by kernel_rfl, rfl, relL_cellAV _ [.nilFunc], relL_cellAV _ [.nilFunc]⟩, (fun h => by cases h), (fun q hq => by cases hq)⟩
-- func(int, int, int) api.Errno
def ty251 : TyRow := ⟨.func, 1, 8, [.nilF], false, false, [], false⟩
theorem ty251_met : ty251.met Tryz.prog 251 := ⟨⟨(funcOf Tryz.prog 251).1, (funcOf Tryz.prog 251).2.1, (funcOf Tryz.prog 251).2.2, by kernel_rfl⟩, ⟨(Tryz.prog.info? 251).getD default, .nilFunc, by kernel_rfl, by kernel_rfl, by kernel_rfl, by kernel_rfl, rfl, relL_cellAV _ [.nilFunc], relL_cellAV _ [.nilFunc]⟩, (fun h => by cases h), (fun q hq => by cases hq)⟩
-- func(int, int) (int, api.Errno)
def ty253 : TyRow := ⟨.func, 1, 8, [.nilF], false, false, [], false⟩
theorem ty253_met : ty253.met Tryz.prog 253 := ⟨⟨(funcOf Tryz.prog 253).1, (funcOf Tryz.prog 253).2.1, (funcOf Tryz.prog 253).2.2, by kernel_rfl⟩, ⟨(Tryz.prog.info? 253).getD default, .nilFunc, by kernel_rfl, by kernel_rfl, by kernel_rfl, by kernel_rfl, rfl, relL_cellAV _ [.nilFunc], relL_cellAV _ [.nilFunc]⟩, (fun h => by cases h), (fun q hq => by cases hq)⟩
-- func() (int, bool)
def ty254 : TyRow := ⟨.func, 1, 8, [.nilF], false, false, [], false⟩
theorem ty254_met : ty254.met Tryz.prog 254 := ⟨⟨(funcOf Tryz.prog 254).1, (funcOf Tryz.prog 254).2.1, (funcOf Tryz.prog 254).2.2, by kernel_rfl⟩, ⟨(Tryz.prog.info? 254).getD default, .nilFunc, by kernel_rfl, by kernel_rfl, by kernel_rfl, by kernel_rfl, rfl, relL_cellAV _ [.nilFunc], relL_cellAV _ [.nilFunc]⟩, (fun h => by cases h), (fun q hq => by cases hq)⟩
-- func(api.Event) []int
def ty255 : TyRow := ⟨.func, 1, 8, [.nilF], false, false, [], false⟩
theorem ty255_met : ty255.met Tryz.prog 255 := ⟨⟨(funcOf Tryz.prog 255).1, (funcOf Tryz.prog 255).2.1, (funcOf Tryz.prog 255).2.2, by kernel_rfl⟩, ⟨(Tryz.prog.info? 255).getD default, .nilFunc, by kernel_rfl, by kernel_rfl, by kernel_rfl, by kernel_rfl, rfl, relL_cellAV _ [.nilFunc], relL_cellAV _ [.nilFunc]⟩, (fun h => by cases h), (fun q hq => by cases hq)⟩
-- struct { Do int; Node int; Key int; Weight int }
def ty256 : TyRow := ⟨.struct [(0, 3), (1, 3), (2, 3), (3, 3)], 4, 32, [.lit .i64 0, .lit .i64 0, .lit .i64 0, .lit .i64 0], true, false, [], false⟩
theorem ty256_met : ty256.met Tryz.prog 256 := ⟨⟨Tryz.prog.fieldsOf 256, by kernel_rfl, by kernel_rfl⟩, ⟨(Tryz.prog.info? 256).getD default, (.agg #[(.int .i64 0), (.int .i64 0), (.int .i64 0), (.int .i64 0)]), by kernel_rfl, by kernel_rfl, by kernel_rfl, by kernel_rfl, rfl, ⟨[(.int .i64 0), (.int .i64 0), (.int .i64 0), (.int .i64 0)], relL_cellAV _ [(.int .i64 0), (.int .i64 0), (.int .i64 0), (.int .i64 0)], rfl⟩, relL_cellAV _ [(.int .i64 0), (.int .i64 0), (.int .i64 0), (.int .i64 0)]⟩, fun _ => ⟨by kernel_rfl, by kernel_rfl, names_ok (by kernel_rfl) (by kernel_rfl)⟩, (fun q hq => by cases hq)⟩
-- api.Event
def ty257 : TyRow := ⟨.struct [(0, 3), (1, 3), (2, 3), (3, 3)], 4, 32, [.lit .i64 0, .lit .i64 0, .lit .i64 0, .lit .i64 0], true, false, [], false⟩
theorem ty257_met : ty257.met Tryz.prog 257 := ⟨⟨Tryz.prog.fieldsOf 257, by kernel_rfl, by kernel_rfl⟩, ⟨(Tryz.prog.info? 257).getD default, (.agg #[(.int .i64 0), (.int .i64 0), (.int .i64 0), (.int .i64 0)]), by kernel_rfl, by kernel_rfl, by kernel_rfl, by kernel_rfl, rfl, ⟨[(.int .i64 0), (.int .i64 0), (.int .i64 0), (.int .i64 0)], relL_cellAV _ [(.int .i64 0), (.int .i64 0), (.int .i64 0), (.int .i64 0)], rfl⟩, relL_cellAV _ [(.int .i64 0), (.int .i64 0), (.int .i64 0), (.int .i64 0)]⟩, fun _ => ⟨by kernel_rfl, by kernel_rfl, names_ok (by kernel_rfl) (by kernel_rfl)⟩, (fun q hq => by cases hq)⟩
-- struct { last api.Record; call int }
def ty258 : TyRow := ⟨.struct [(0, 76), (8, 3)], 9, 72, [.lit .i64 0, .lit .i64 0, .lit .i64 0, .lit .i64 0, .lit .i64 0, .lit .i64 0, .ff, .lit .i64 0, .lit .i64 0], true, false, [], false⟩
theorem ty258_met : ty258.met Tryz.prog 258 := ⟨⟨Tryz.prog.fieldsOf 258, by kernel_rfl, by kernel_rfl⟩, ⟨(Tryz.prog.info? 258).getD default, (.agg #[(.int .i64 0), (.int .i64 0), (.int .i64 0), (.int .i64 0), (.int .i64 0), (.int .i64 0), (.bool false), (.int .i64 0), (.int .i64 0)]), by kernel_rfl, by kernel_rfl, by kernel_rfl, by kernel_rfl, rfl, ⟨[(.int .i64 0), (.int .i64 0), (.int .i64 0), (.int .i64 0), (.int .i64 0), (.int .i64 0), (.bool false), (.int .i64 0), (.int .i64 0)], relL_cellAV _ [(.int .i64 0), (.int .i64 0), (.int .i64 0), (.int .i64 0), (.int .i64 0), (.int .i64 0), (.bool false), (.int .i64 0), (.int .i64 0)], rfl⟩, relL_cellAV _ [(.int .i64 0), (.int .i64 0), (.int .i64 0), (.int .i64 0), (.int .i64 0), (.int .i64 0), (.bool false), (.int .i64 0), (.int .i64 0)]⟩, fun _ => ⟨by kernel_rfl, by kernel_rfl, names_ok (by kernel_rfl) (by kernel_rfl)⟩, (fun q hq => by cases hq)⟩
-- hist.open
def ty259 : TyRow := ⟨.struct [(0, 76), (8, 3)], 9, 72, [.lit .i64 0, .lit .i64 0, .lit .i64 0, .lit .i64 0, .lit .i64 0, .lit .i64 0, .ff, .lit .i64 0, .lit .i64 0], true, false, [], false⟩
theorem ty259_met : ty259.met Tryz.prog 259 := ⟨⟨Tryz.prog.fieldsOf 259, by kernel_rfl, by kernel_rfl⟩, ⟨(Tryz.prog.info? 259).getD default, (.agg #[(.int .i64 0), (.int .i64 0), (.int .i64 0), (.int .i64 0), (.int .i64 0), (.int .i64 0), (.bool false), (.int .i64 0), (.int .i64 0)]), by kernel_rfl, by kernel_rfl, by kernel_rfl, by kernel_rfl, rfl, ⟨[(.int .i64 0), (.int .i64 0), (.int .i64 0), (.int .i64 0), (.int .i64 0), (.int .i64 0), (.bool false), (.int .i64 0), (.int .i64 0)], relL_cellAV _ [(.int .i64 0), (.int .i64 0), (.int .i64 0), (.int .i64 0), (.int .i64 0), (.int .i64 0), (.bool false), (.int .i64 0), (.int .i64 0)], rfl⟩, relL_cellAV _ [(.int .i64 0), (.int .i64 0), (.int .i64 0), (.int .i64 0), (.int .i64 0), (.int .i64 0), (.bool false), (.int .i64 0), (.int .i64 0)]⟩, fun _ => ⟨by kernel_rfl, by kernel_rfl, names_ok (by kernel_rfl) (by kernel_rfl)⟩, (fun q hq => by cases hq)⟩
-- *api.Call
def ty261 : TyRow := ⟨.ptr 103, 1, 8, [.nilP], false, false, [], false⟩
theorem ty261_met : ty261.met Tryz.prog 261 := ⟨(show Tryz.prog.underlying 261 = some (.pointer 103) by kernel_rfl), ⟨(Tryz.prog.info? 261).getD default, (.pointer none), by kernel_rfl, by kernel_rfl, by kernel_rfl, by kernel_rfl, rfl, relL_cellAV _ [(.pointer none)], relL_cellAV _ [(.pointer none)]⟩, (fun h => by cases h), (fun q hq => by cases hq)⟩
-- slices.xorshift
def ty262 : TyRow := ⟨.int .u64, 1, 8, [.lit .u64 0], false, false, [], false⟩
theorem ty262_met : ty262.met Tryz.prog 262 := ⟨(show Tryz.prog.underlying 262 = some (.int .u64) by kernel_rfl), ⟨(Tryz.prog.info? 262).getD default, (.int .u64 0), by kernel_rfl, by kernel_rfl, by kernel_rfl, by kernel_rfl, rfl, relL_cellAV _ [(.int .u64 0)], relL_cellAV _ [(.int .u64 0)]⟩, (fun h => by cases h), (fun q hq => by cases hq)⟩
-- func(int) uint
def ty263 : TyRow := ⟨.func, 1, 8, [.nilF], false, false, [], false⟩
theorem ty263_met : ty263.met Tryz.prog 263 := ⟨⟨(funcOf Tryz.prog 263).1, (funcOf Tryz.prog 263).2.1, (funcOf Tryz.prog 263).2.2, by kernel_rfl⟩, ⟨(Tryz.prog.info? 263).getD default, .nilFunc, by kernel_rfl, by kernel_rfl, by kernel_rfl, by kernel_rfl, rfl, relL_cellAV _ [.nilFunc], relL_cellAV _ [.nilFunc]⟩, (fun h => by cases h), (fun q hq => by cases hq)⟩
-- func() uint64
def ty264 : TyRow := ⟨.func, 1, 8, [.nilF], false, false, [], false⟩
theorem ty264_met : ty264.met Tryz.prog 264 := ⟨⟨(funcOf Tryz.prog 264).1, (funcOf Tryz.prog 264).2.1, (funcOf Tryz.prog 264).2.2, by kernel_rfl⟩, ⟨(Tryz.prog.info? 264).getD default, .nilFunc, by kernel_rfl, by kernel_rfl, by kernel_rfl, by kernel_rfl, rfl, relL_cellAV _ [.nilFunc], relL_cellAV _ [.nilFunc]⟩, (fun h => by cases h), (fun q hq => by cases hq)⟩
-- func([]api.Entry, int, *int, func(api.Entry, api.Entry) int) int
def ty265 : TyRow := ⟨.func, 1, 8, [.nilF], false, false, [], false⟩
theorem ty265_met : ty265.met Tryz.prog 265 := ⟨⟨(funcOf Tryz.prog 265).1, (funcOf Tryz.prog 265).2.1, (funcOf Tryz.prog 265).2.2, by kernel_rfl⟩, ⟨(Tryz.prog.info? 265).getD default, .nilFunc, by kernel_rfl, by kernel_rfl, by kernel_rfl, by kernel_rfl, rfl, relL_cellAV _ [.nilFunc], relL_cellAV _ [.nilFunc]⟩, (fun h => by cases h), (fun q hq => by cases hq)⟩
-- func([]api.Entry, int, int, int, *int, func(api.Entry, api.Entry) int) int
def ty266 : TyRow := ⟨.func, 1, 8, [.nilF], false, false, [], false⟩
theorem ty266_met : ty266.met Tryz.prog 266 := ⟨⟨(funcOf Tryz.prog 266).1, (funcOf Tryz.prog 266).2.1, (funcOf Tryz.prog 266).2.2, by kernel_rfl⟩, ⟨(Tryz.prog.info? 266).getD default, .nilFunc, by kernel_rfl, by kernel_rfl, by kernel_rfl, by kernel_rfl, rfl, relL_cellAV _ [.nilFunc], relL_cellAV _ [.nilFunc]⟩, (fun h => by cases h), (fun q hq => by cases hq)⟩
-- func(error, interface {}) bool
def ty267 : TyRow := ⟨.func, 1, 8, [.nilF], false, false, [], false⟩
theorem ty267_met : ty267.met Tryz.prog 267 := ⟨⟨(funcOf Tryz.prog 267).1, (funcOf Tryz.prog 267).2.1, (funcOf Tryz.prog 267).2.2, by kernel_rfl⟩, ⟨(Tryz.prog.info? 267).getD default, .nilFunc, by kernel_rfl, by kernel_rfl, by kernel_rfl, by kernel_rfl, rfl, relL_cellAV _ [.nilFunc], relL_cellAV _ [.nilFunc]⟩, (fun h => by cases h), (fun q hq => by cases hq)⟩
-- *api.Errno
def ty268 : TyRow := ⟨.ptr 30, 1, 8, [.nilP], false, false, [], false⟩
theorem ty268_met : ty268.met Tryz.prog 268 := ⟨(show Tryz.prog.underlying 268 = some (.pointer 30) by kernel_rfl), ⟨(Tryz.prog.info? 268).getD default, (.pointer none), by kernel_rfl, by kernel_rfl, by kernel_rfl, by kernel_rfl, rfl, relL_cellAV _ [(.pointer none)], relL_cellAV _ [(.pointer none)]⟩, (fun h => by cases h), (fun q hq => by cases hq)⟩
-- struct { *abi.Type }
def ty269 : TyRow := ⟨.struct [(0, 17)], 1, 8, [.nilP], false, false, [], false⟩
theorem ty269_met : ty269.met Tryz.prog 269 := ⟨⟨Tryz.prog.fieldsOf 269, by kernel_rfl, by kernel_rfl⟩, ⟨(Tryz.prog.info? 269).getD default, (.agg #[(.pointer none)]), by kernel_rfl, by kernel_rfl, by kernel_rfl, by kernel_rfl, rfl, ⟨[(.pointer none)], relL_cellAV _ [(.pointer none)], rfl⟩, relL_cellAV _ [(.pointer none)]⟩, (fun h => by cases h), (fun q hq => by cases hq)⟩
-- reflectlite.rtype
def ty270 : TyRow := ⟨.struct [(0, 17)], 1, 8, [.nilP], false, false, [], false⟩
theorem ty270_met : ty270.met Tryz.prog 270 := ⟨⟨Tryz.prog.fieldsOf 270, by kernel_rfl, by kernel_rfl⟩, ⟨(Tryz.prog.info? 270).getD default, (.agg #[(.pointer none)]), by kernel_rfl, by kernel_rfl, by kernel_rfl, by kernel_rfl, rfl, ⟨[(.pointer none)], relL_cellAV _ [(.pointer none)], rfl⟩, relL_cellAV _ [(.pointer none)]⟩, (fun h => by cases h), (fun q hq => by cases hq)⟩
-- *reflectlite.ValueError
def ty271 : TyRow := ⟨.ptr 367, 1, 8, [.nilP], false, false, [], false⟩
theorem ty271_met : ty271.met Tryz.prog 271 := ⟨(show Tryz.prog.underlying 271 = some (.pointer 367) by kernel_rfl), ⟨(Tryz.prog.info? 271).getD default, (.pointer none), by kernel_rfl, by kernel_rfl, by kernel_rfl, by kernel_rfl, rfl, relL_cellAV _ [(.pointer none)], relL_cellAV _ [(.pointer none)]⟩, (fun h => by cases h), (fun q hq => by cases hq)⟩
-- interface { Is(error) bool }
def ty272 : TyRow := ⟨.iface, 1, 16, [.nilI], false, false, [], false⟩
theorem ty272_met : ty272.met Tryz.prog 272 := ⟨⟨ifaceOf Tryz.prog 272, by kernel_rfl⟩, ⟨(Tryz.prog.info? 272).getD default, .nilIface, by kernel_rfl, by kernel_rfl, by kernel_rfl, by kernel_rfl, rfl, relL_cellAV _ [.nilIface], relL_cellAV _ [.nilIface]⟩, (fun h => by cases h), (fun q hq => by cases hq)⟩
-- func(error) bool
def ty274 : TyRow := ⟨.func, 1, 8, [.nilF], false, false, [], false⟩
theorem ty274_met : ty274.met Tryz.prog 274 := ⟨⟨(funcOf Tryz.prog 274).1, (funcOf Tryz.prog 274).2.1, (funcOf Tryz.prog 274).2.2, by kernel_rfl⟩, ⟨(Tryz.prog.info? 274).getD default, .nilFunc, by kernel_rfl, by kernel_rfl, by kernel_rfl, by kernel_rfl, rfl, relL_cellAV _ [.nilFunc], relL_cellAV _ [.nilFunc]⟩, (fun h => by cases h), (fun q hq => by cases hq)⟩
-- interface { Unwrap() error }
def ty275 : TyRow := ⟨.iface, 1, 16, [.nilI], false, false, [], false⟩
theorem ty275_met : ty275.met Tryz.prog 275 := ⟨⟨ifaceOf Tryz.prog 275, by kernel_rfl⟩, ⟨(Tryz.prog.info? 275).getD default, .nilIface, by kernel_rfl, by kernel_rfl, by kernel_rfl, by kernel_rfl, rfl, relL_cellAV _ [.nilIface], relL_cellAV _ [.nilIface]⟩, (fun h => by cases h), (fun q hq => by cases hq)⟩
-- interface { Unwrap() []error }
def ty276 : TyRow := ⟨.iface, 1, 16, [.nilI], false, false, [], false⟩
theorem ty276_met : ty276.met Tryz.prog 276 := ⟨⟨ifaceOf Tryz.prog 276, by kernel_rfl⟩, ⟨(Tryz.prog.info? 276).getD default, .nilIface, by kernel_rfl, by kernel_rfl, by kernel_rfl, by kernel_rfl, rfl, relL_cellAV _ [.nilIface], relL_cellAV _ [.nilIface]⟩, (fun h => by cases h), (fun q hq => by cases hq)⟩
-- []error
def ty277 : TyRow := ⟨.slice 212, 1, 24, [.nilS], false, false, [], false⟩
theorem ty277_met : ty277.met Tryz.prog 277 := ⟨(show Tryz.prog.underlying 277 = some (.slice 212) by kernel_rfl), ⟨(Tryz.prog.info? 277).getD default, (.slice none 0 0), by kernel_rfl, by kernel_rfl, by kernel_rfl, by kernel_rfl, rfl, relL_cellAV _ [(.slice none 0 0)], relL_cellAV _ [(.slice none 0 0)]⟩, (fun h => by cases h), (fun q hq => by cases hq)⟩
-- func() []error
def ty278 : TyRow := ⟨.func, 1, 8, [.nilF], false, false, [], false⟩
theorem ty278_met : ty278.met Tryz.prog 278 := ⟨⟨(funcOf Tryz.prog 278).1, (funcOf Tryz.prog 278).2.1, (funcOf Tryz.prog 278).2.2, by kernel_rfl⟩, ⟨(Tryz.prog.info? 278).getD default, .nilFunc, by kernel_rfl, by kernel_rfl, by kernel_rfl, by kernel_rfl, rfl, relL_cellAV _ [.nilFunc], relL_cellAV _ [.nilFunc]⟩, (fun h => by cases h), (fun q hq => by cases hq)⟩
-- *api.Fault
def ty279 : TyRow := ⟨.ptr 281, 1, 8, [.nilP], false, false, [], false⟩
theorem ty279_met : ty279.met Tryz.prog 279 := ⟨(show Tryz.prog.underlying 279 = some (.pointer 281) by kernel_rfl), ⟨(Tryz.prog.info? 279).getD default, (.pointer none), by kernel_rfl, by kernel_rfl, by kernel_rfl, by kernel_rfl, rfl, relL_cellAV _ [(.pointer none)], relL_cellAV _ [(.pointer none)]⟩, (fun h => by cases h), (fun q hq => by cases hq)⟩
-- struct { Err api.Errno; Key int; Much int }
def ty280 : TyRow := ⟨.struct [(0, 30), (1, 3), (2, 3)], 3, 24, [.lit .i64 0, .lit .i64 0, .lit .i64 0], true, false, [], false⟩
theorem ty280_met : ty280.met Tryz.prog 280 := ⟨⟨Tryz.prog.fieldsOf 280, by kernel_rfl, by kernel_rfl⟩, ⟨(Tryz.prog.info? 280).getD default, (.agg #[(.int .i64 0), (.int .i64 0), (.int .i64 0)]), by kernel_rfl, by kernel_rfl, by kernel_rfl, by kernel_rfl, rfl, ⟨[(.int .i64 0), (.int .i64 0), (.int .i64 0)], relL_cellAV _ [(.int .i64 0), (.int .i64 0), (.int .i64 0)], rfl⟩, relL_cellAV _ [(.int .i64 0), (.int .i64 0), (.int .i64 0)]⟩, fun _ => ⟨by kernel_rfl, by kernel_rfl, names_ok (by kernel_rfl) (by kernel_rfl)⟩, (fun q hq => by cases hq)⟩
-- api.Fault
def ty281 : TyRow := ⟨.struct [(0, 30), (1, 3), (2, 3)], 3, 24, [.lit .i64 0, .lit .i64 0, .lit .i64 0], true, false, [], false⟩
theorem ty281_met : ty281.met Tryz.prog 281 := ⟨⟨Tryz.prog.fieldsOf 281, by kernel_rfl, by kernel_rfl⟩, ⟨(Tryz.prog.info? 281).getD default, (.agg #[(.int .i64 0), (.int .i64 0), (.int .i64 0)]), by kernel_rfl, by kernel_rfl, by kernel_rfl, by kernel_rfl, rfl, ⟨[(.int .i64 0), (.int .i64 0), (.int .i64 0)], relL_cellAV _ [(.int .i64 0), (.int .i64 0), (.int .i64 0)], rfl⟩, relL_cellAV _ [(.int .i64 0), (.int .i64 0), (.int .i64 0)]⟩, fun _ => ⟨by kernel_rfl, by kernel_rfl, names_ok (by kernel_rfl) (by kernel_rfl)⟩, (fun q hq => by cases hq)⟩
-- func(int, int, int) (bool, api.Errno)
def ty282 : TyRow := ⟨.func, 1, 8, [.nilF], false, false, [], false⟩
theorem ty282_met : ty282.met Tryz.prog 282 := ⟨⟨(funcOf Tryz.prog 282).1, (funcOf Tryz.prog 282).2.1, (funcOf Tryz.prog 282).2.2, by kernel_rfl⟩, ⟨(Tryz.prog.info? 282).getD default, .nilFunc, by kernel_rfl, by kernel_rfl, by kernel_rfl, by kernel_rfl, rfl, relL_cellAV _ [.nilFunc], relL_cellAV _ [.nilFunc]⟩, (fun h => by cases h), (fun q hq => by cases hq)⟩
-- func(uint64, int) uint64
def ty283 : TyRow := ⟨.func, 1, 8, [.nilF], false, false, [], false⟩
theorem ty283_met : ty283.met Tryz.prog 283 := ⟨⟨(funcOf Tryz.prog 283).1, (funcOf Tryz.prog 283).2.1, (funcOf Tryz.prog 283).2.2, by kernel_rfl⟩, ⟨(Tryz.prog.info? 283).getD default, .nilFunc, by kernel_rfl, by kernel_rfl, by kernel_rfl, by kernel_rfl, rfl, relL_cellAV _ [.nilFunc], relL_cellAV _ [.nilFunc]⟩, (fun h => by cases h), (fun q hq => by cases hq)⟩
-- func(int) (api.Entry, bool)
def ty285 : TyRow := ⟨.func, 1, 8, [.nilF], false, false, [], false⟩
theorem ty285_met : ty285.met Tryz.prog 285 := ⟨⟨(funcOf Tryz.prog 285).1, (funcOf Tryz.prog 285).2.1, (funcOf Tryz.prog 285).2.2, by kernel_rfl⟩, ⟨(Tryz.prog.info? 285).getD default, .nilFunc, by kernel_rfl, by kernel_rfl, by kernel_rfl, by kernel_rfl, rfl, relL_cellAV _ [.nilFunc], relL_cellAV _ [.nilFunc]⟩, (fun h => by cases h), (fun q hq => by cases hq)⟩
-- func(int, int, int) (api.Entry, bool)
def ty286 : TyRow := ⟨.func, 1, 8, [.nilF], false, false, [], false⟩
theorem ty286_met : ty286.met Tryz.prog 286 := ⟨⟨(funcOf Tryz.prog 286).1, (funcOf Tryz.prog 286).2.1, (funcOf Tryz.prog 286).2.2, by kernel_rfl⟩, ⟨(Tryz.prog.info? 286).getD default, .nilFunc, by kernel_rfl, by kernel_rfl, by kernel_rfl, by kernel_rfl, rfl, relL_cellAV _ [.nilFunc], relL_cellAV _ [.nilFunc]⟩, (fun h => by cases h), (fun q hq => by cases hq)⟩
-- func(api.Event) api.Errno
def ty287 : TyRow := ⟨.func, 1, 8, [.nilF], false, false, [], false⟩
theorem ty287_met : ty287.met Tryz.prog 287 := ⟨⟨(funcOf Tryz.prog 287).1, (funcOf Tryz.prog 287).2.1, (funcOf Tryz.prog 287).2.2, by kernel_rfl⟩, ⟨(Tryz.prog.info? 287).getD default, .nilFunc, by kernel_rfl, by kernel_rfl, by kernel_rfl, by kernel_rfl, rfl, relL_cellAV _ [.nilFunc], relL_cellAV _ [.nilFunc]⟩, (fun h => by cases h), (fun q hq => by cases hq)⟩
-- func() api.Errno
def ty288 : TyRow := ⟨.func, 1, 8, [.nilF], false, false, [], false⟩
theorem ty288_met : ty288.met Tryz.prog 288 := ⟨⟨(funcOf Tryz.prog 288).1, (funcOf Tryz.prog 288).2.1, (funcOf Tryz.prog 288).2.2, by kernel_rfl⟩, ⟨(Tryz.prog.info? 288).getD default, .nilFunc, by kernel_rfl, by kernel_rfl, by kernel_rfl, by kernel_rfl, rfl, relL_cellAV _ [.nilFunc], relL_cellAV _ [.nilFunc]⟩, (fun h => by cases h), (fun q hq => by cases hq)⟩
-- *cells.holder
def ty289 : TyRow := ⟨.ptr 292, 1, 8, [.nilP], false, false, [], false⟩
theorem ty289_met : ty289.met Tryz.prog 289 := ⟨(show Tryz.prog.underlying 289 = some (.pointer 292) by kernel_rfl), ⟨(Tryz.prog.info? 289).getD default, (.pointer none), by kernel_rfl, by kernel_rfl, by kernel_rfl, by kernel_rfl, rfl, relL_cellAV _ [(.pointer none)], relL_cellAV _ [(.pointer none)]⟩, (fun h => by cases h), (fun q hq => by cases hq)⟩
-- func(int) *cells.holder
def ty290 : TyRow := ⟨.func, 1, 8, [.nilF], false, false, [], false⟩
theorem ty290_met : ty290.met Tryz.prog 290 := ⟨⟨(funcOf Tryz.prog 290).1, (funcOf Tryz.prog 290).2.1, (funcOf Tryz.prog 290).2.2, by kernel_rfl⟩, ⟨(Tryz.prog.info? 290).getD default, .nilFunc, by kernel_rfl, by kernel_rfl, by kernel_rfl, by kernel_rfl, rfl, relL_cellAV _ [.nilFunc], relL_cellAV _ [.nilFunc]⟩, (fun h => by cases h), (fun q hq => by cases hq)⟩
-- struct { thread int; held bool }
def ty291 : TyRow := ⟨.struct [(0, 3), (1, 4)], 2, 16, [.lit .i64 0, .ff], true, false, [], false⟩
theorem ty291_met : ty291.met Tryz.prog 291 := ⟨⟨Tryz.prog.fieldsOf 291, by kernel_rfl, by kernel_rfl⟩, ⟨(Tryz.prog.info? 291).getD default, (.agg #[(.int .i64 0), (.bool false)]), by kernel_rfl, by kernel_rfl, by kernel_rfl, by kernel_rfl, rfl, ⟨[(.int .i64 0), (.bool false)], relL_cellAV _ [(.int .i64 0), (.bool false)], rfl⟩, relL_cellAV _ [(.int .i64 0), (.bool false)]⟩, fun _ => ⟨by kernel_rfl, by kernel_rfl, names_ok (by kernel_rfl) (by kernel_rfl)⟩, (fun q hq => by cases hq)⟩
-- cells.holder
def ty292 : TyRow := ⟨.struct [(0, 3), (1, 4)], 2, 16, [.lit .i64 0, .ff], true, false, [], false⟩
theorem ty292_met : ty292.met Tryz.prog 292 := ⟨⟨Tryz.prog.fieldsOf 292, by kernel_rfl, by kernel_rfl⟩, ⟨(Tryz.prog.info? 292).getD default, (.agg #[(.int .i64 0), (.bool false)]), by kernel_rfl, by kernel_rfl, by kernel_rfl, by kernel_rfl, rfl, ⟨[(.int .i64 0), (.bool false)], relL_cellAV _ [(.int .i64 0), (.bool false)], rfl⟩, relL_cellAV _ [(.int .i64 0), (.bool false)]⟩, fun _ => ⟨by kernel_rfl, by kernel_rfl, names_ok (by kernel_rfl) (by kernel_rfl)⟩, (fun q hq => by cases hq)⟩
-- func(api.Deed)
def ty293 : TyRow := ⟨.func, 1, 8, [.nilF], false, false, [], false⟩
theorem ty293_met : ty293.met Tryz.prog 293 := ⟨⟨(funcOf Tryz.prog 293).1, (funcOf Tryz.prog 293).2.1, (funcOf Tryz.prog 293).2.2, by kernel_rfl⟩, ⟨(Tryz.prog.info? 293).getD default, .nilFunc, by kernel_rfl, by kernel_rfl, by kernel_rfl, by kernel_rfl, rfl, relL_cellAV _ [.nilFunc], relL_cellAV _ [.nilFunc]⟩, (fun h => by cases h), (fun q hq => by cases hq)⟩
-- struct { Thread int; Do int; Cell int; Before int; After int }
def ty294 : TyRow := ⟨.struct [(0, 3), (1, 3), (2, 3), (3, 3), (4, 3)], 5, 40, [.lit .i64 0, .lit .i64 0, .lit .i64 0, .lit .i64 0, .lit .i64 0], true, false, [], false⟩
theorem ty294_met : ty294.met Tryz.prog 294 := ⟨⟨Tryz.prog.fieldsOf 294, by kernel_rfl, by kernel_rfl⟩, ⟨(Tryz.prog.info? 294).getD default, (.agg #[(.int .i64 0), (.int .i64 0), (.int .i64 0), (.int .i64 0), (.int .i64 0)]), by kernel_rfl, by kernel_rfl, by kernel_rfl, by kernel_rfl, rfl, ⟨[(.int .i64 0), (.int .i64 0), (.int .i64 0), (.int .i64 0), (.int .i64 0)], relL_cellAV _ [(.int .i64 0), (.int .i64 0), (.int .i64 0), (.int .i64 0), (.int .i64 0)], rfl⟩, relL_cellAV _ [(.int .i64 0), (.int .i64 0), (.int .i64 0), (.int .i64 0), (.int .i64 0)]⟩, fun _ => ⟨by kernel_rfl, by kernel_rfl, names_ok (by kernel_rfl) (by kernel_rfl)⟩, (fun q hq => by cases hq)⟩
-- api.Deed
def ty295 : TyRow := ⟨.struct [(0, 3), (1, 3), (2, 3), (3, 3), (4, 3)], 5, 40, [.lit .i64 0, .lit .i64 0, .lit .i64 0, .lit .i64 0, .lit .i64 0], true, false, [], false⟩
theorem ty295_met : ty295.met Tryz.prog 295 := ⟨⟨Tryz.prog.fieldsOf 295, by kernel_rfl, by kernel_rfl⟩, ⟨(Tryz.prog.info? 295).getD default, (.agg #[(.int .i64 0), (.int .i64 0), (.int .i64 0), (.int .i64 0), (.int .i64 0)]), by kernel_rfl, by kernel_rfl, by kernel_rfl, by kernel_rfl, rfl, ⟨[(.int .i64 0), (.int .i64 0), (.int .i64 0), (.int .i64 0), (.int .i64 0)], relL_cellAV _ [(.int .i64 0), (.int .i64 0), (.int .i64 0), (.int .i64 0), (.int .i64 0)], rfl⟩, relL_cellAV _ [(.int .i64 0), (.int .i64 0), (.int .i64 0), (.int .i64 0), (.int .i64 0)]⟩, fun _ => ⟨by kernel_rfl, by kernel_rfl, names_ok (by kernel_rfl) (by kernel_rfl)⟩, (fun q hq => by cases hq)⟩
-- func(int) *int
def ty296 : TyRow := ⟨.func, 1, 8, [.nilF], false, false, [], false⟩
theorem ty296_met : ty296.met Tryz.prog 296 := ⟨⟨(funcOf Tryz.prog 296).1, (funcOf Tryz.prog 296).2.1, (funcOf Tryz.prog 296).2.2, by kernel_rfl⟩, ⟨(Tryz.prog.info? 296).getD default, .nilFunc, by kernel_rfl, by kernel_rfl, by kernel_rfl, by kernel_rfl, rfl, relL_cellAV _ [.nilFunc], relL_cellAV _ [.nilFunc]⟩, (fun h => by cases h), (fun q hq => by cases hq)⟩
-- func(api.Event) ([]int, api.Errno)
def ty298 : TyRow := ⟨.func, 1, 8, [.nilF], false, false, [], false⟩
theorem ty298_met : ty298.met Tryz.prog 298 := ⟨⟨(funcOf Tryz.prog 298).1, (funcOf Tryz.prog 298).2.1, (funcOf Tryz.prog 298).2.2, by kernel_rfl⟩, ⟨(Tryz.prog.info? 298).getD default, .nilFunc, by kernel_rfl, by kernel_rfl, by kernel_rfl, by kernel_rfl, rfl, relL_cellAV _ [.nilFunc], relL_cellAV _ [.nilFunc]⟩, (fun h => by cases h), (fun q hq => by cases hq)⟩
-- func() (api.Event, bool)
def ty300 : TyRow := ⟨.func, 1, 8, [.nilF], false, false, [], false⟩
theorem ty300_met : ty300.met Tryz.prog 300 := ⟨⟨(funcOf Tryz.prog 300).1, (funcOf Tryz.prog 300).2.1, (funcOf Tryz.prog 300).2.2, by kernel_rfl⟩, ⟨(Tryz.prog.info? 300).getD default, .nilFunc, by kernel_rfl, by kernel_rfl, by kernel_rfl, by kernel_rfl, rfl, relL_cellAV _ [.nilFunc], relL_cellAV _ [.nilFunc]⟩, (fun h => by cases h), (fun q hq => by cases hq)⟩
-- func(int) api.Errno
def ty301 : TyRow := ⟨.func, 1, 8, [.nilF], false, false, [], false⟩
theorem ty301_met : ty301.met Tryz.prog 301 := ⟨⟨(funcOf Tryz.prog 301).1, (funcOf Tryz.prog 301).2.1, (funcOf Tryz.prog 301).2.2, by kernel_rfl⟩, ⟨(Tryz.prog.info? 301).getD default, .nilFunc, by kernel_rfl, by kernel_rfl, by kernel_rfl, by kernel_rfl, rfl, relL_cellAV _ [.nilFunc], relL_cellAV _ [.nilFunc]⟩, (fun h => by cases h), (fun q hq => by cases hq)⟩
-- func(api.Status, bool) api.Status
def ty302 : TyRow := ⟨.func, 1, 8, [.nilF], false, false, [], false⟩
theorem ty302_met : ty302.met Tryz.prog 302 := ⟨⟨(funcOf Tryz.prog 302).1, (funcOf Tryz.prog 302).2.1, (funcOf Tryz.prog 302).2.2, by kernel_rfl⟩, ⟨(Tryz.prog.info? 302).getD default, .nilFunc, by kernel_rfl, by kernel_rfl, by kernel_rfl, by kernel_rfl, rfl, relL_cellAV _ [.nilFunc], relL_cellAV _ [.nilFunc]⟩, (fun h => by cases h), (fun q hq => by cases hq)⟩
-- *slices.xorshift
def ty303 : TyRow := ⟨.ptr 262, 1, 8, [.nilP], false, false, [], false⟩
theorem ty303_met : ty303.met Tryz.prog 303 := ⟨(show Tryz.prog.underlying 303 = some (.pointer 262) by kernel_rfl), ⟨(Tryz.prog.info? 303).getD default, (.pointer none), by kernel_rfl, by kernel_rfl, by kernel_rfl, by kernel_rfl, rfl, relL_cellAV _ [(.pointer none)], relL_cellAV _ [(.pointer none)]⟩, (fun h => by cases h), (fun q hq => by cases hq)⟩
-- func([]api.Entry, int, int, *int, func(api.Entry, api.Entry) int) (int, int)
def ty304 : TyRow := ⟨.func, 1, 8, [.nilF], false, false, [], false⟩
theorem ty304_met : ty304.met Tryz.prog 304 := ⟨⟨(funcOf Tryz.prog 304).1, (funcOf Tryz.prog 304).2.1, (funcOf Tryz.prog 304).2.2, by kernel_rfl⟩, ⟨(Tryz.prog.info? 304).getD default, .nilFunc, by kernel_rfl, by kernel_rfl, by kernel_rfl, by kernel_rfl, rfl, relL_cellAV _ [.nilFunc], relL_cellAV _ [.nilFunc]⟩, (fun h => by cases h), (fun q hq => by cases hq)⟩
-- reflectlite.flag
def ty306 : TyRow := ⟨.int .u64, 1, 8, [.lit .u64 0], false, false, [], false⟩
theorem ty306_met : ty306.met Tryz.prog 306 := ⟨(show Tryz.prog.underlying 306 = some (.int .u64) by kernel_rfl), ⟨(Tryz.prog.info? 306).getD default, (.int .u64 0), by kernel_rfl, by kernel_rfl, by kernel_rfl, by kernel_rfl, rfl, relL_cellAV _ [(.int .u64 0)], relL_cellAV _ [(.int .u64 0)]⟩, (fun h => by cases h), (fun q hq => by cases hq)⟩
-- struct { typ_ *abi.Type; ptr unsafe.Pointer; reflectlite.flag }
def ty307 : TyRow := ⟨.struct [(0, 17), (1, 305), (2, 306)], 3, 24, [.nilP, .nilP, .lit .u64 0], false, false, [], false⟩
theorem ty307_met : ty307.met Tryz.prog 307 := ⟨⟨Tryz.prog.fieldsOf 307, by kernel_rfl, by kernel_rfl⟩, ⟨(Tryz.prog.info? 307).getD default, (.agg #[(.pointer none), (.pointer none), (.int .u64 0)]), by kernel_rfl, by kernel_rfl, by kernel_rfl, by kernel_rfl, rfl, ⟨[(.pointer none), (.pointer none), (.int .u64 0)], relL_cellAV _ [(.pointer none), (.pointer none), (.int .u64 0)], rfl⟩, relL_cellAV _ [(.pointer none), (.pointer none), (.int .u64 0)]⟩, (fun h => by cases h), (fun q hq => by cases hq)⟩
-- reflectlite.Value
def ty308 : TyRow := ⟨.struct [(0, 17), (1, 305), (2, 306)], 3, 24, [.nilP, .nilP, .lit .u64 0], false, false, [], false⟩
theorem ty308_met : ty308.met Tryz.prog 308 := ⟨⟨Tryz.prog.fieldsOf 308, by kernel_rfl, by kernel_rfl⟩, ⟨(Tryz.prog.info? 308).getD default, (.agg #[(.pointer none), (.pointer none), (.int .u64 0)]), by kernel_rfl, by kernel_rfl, by kernel_rfl, by kernel_rfl, rfl, ⟨[(.pointer none), (.pointer none), (.int .u64 0)], relL_cellAV _ [(.pointer none), (.pointer none), (.int .u64 0)], rfl⟩, relL_cellAV _ [(.pointer none), (.pointer none), (.int .u64 0)]⟩, (fun h => by cases h), (fun q hq => by cases hq)⟩
-- func(interface {}) reflectlite.Value
def ty309 : TyRow := ⟨.func, 1, 8, [.nilF], false, false, [], false⟩
theorem ty309_met : ty309.met Tryz.prog 309 := ⟨⟨(funcOf Tryz.prog 309).1, (funcOf Tryz.prog 309).2.1, (funcOf Tryz.prog 309).2.2, by kernel_rfl⟩, ⟨(Tryz.prog.info? 309).getD default, .nilFunc, by kernel_rfl, by kernel_rfl, by kernel_rfl, by kernel_rfl, rfl, relL_cellAV _ [.nilFunc], relL_cellAV _ [.nilFunc]⟩, (fun h => by cases h), (fun q hq => by cases hq)⟩
-- func() reflectlite.Type
def ty310 : TyRow := ⟨.func, 1, 8, [.nilF], false, false, [], false⟩
theorem ty310_met : ty310.met Tryz.prog 310 := ⟨⟨(funcOf Tryz.prog 310).1, (funcOf Tryz.prog 310).2.1, (funcOf Tryz.prog 310).2.2, by kernel_rfl⟩, ⟨(Tryz.prog.info? 310).getD default, .nilFunc, by kernel_rfl, by kernel_rfl, by kernel_rfl, by kernel_rfl, rfl, relL_cellAV _ [.nilFunc], relL_cellAV _ [.nilFunc]⟩, (fun h => by cases h), (fun q hq => by cases hq)⟩
-- abi.Kind
def ty311 : TyRow := ⟨.int .u8, 1, 1, [.lit .u8 0], false, false, [], false⟩
theorem ty311_met : ty311.met Tryz.prog 311 := ⟨(show Tryz.prog.underlying 311 = some (.int .u8) by kernel_rfl), ⟨(Tryz.prog.info? 311).getD default, (.int .u8 0), by kernel_rfl, by kernel_rfl, by kernel_rfl, by kernel_rfl, rfl, relL_cellAV _ [(.int .u8 0)], relL_cellAV _ [(.int .u8 0)]⟩, (fun h => by cases h), (fun q hq => by cases hq)⟩
-- func() abi.Kind
def ty312 : TyRow := ⟨.func, 1, 8, [.nilF], false, false, [], false⟩
theorem ty312_met : ty312.met Tryz.prog 312 := ⟨⟨(funcOf Tryz.prog 312).1, (funcOf Tryz.prog 312).2.1, (funcOf Tryz.prog 312).2.2, by kernel_rfl⟩, ⟨(Tryz.prog.info? 312).getD default, .nilFunc, by kernel_rfl, by kernel_rfl, by kernel_rfl, by kernel_rfl, rfl, relL_cellAV _ [.nilFunc], relL_cellAV _ [.nilFunc]⟩, (fun h => by cases h), (fun q hq => by cases hq)⟩
-- func(reflectlite.Type) bool
def ty313 : TyRow := ⟨.func, 1, 8, [.nilF], false, false, [], false⟩
theorem ty313_met : ty313.met Tryz.prog 313 := ⟨⟨(funcOf Tryz.prog 313).1, (funcOf Tryz.prog 313).2.1, (funcOf Tryz.prog 313).2.2, by kernel_rfl⟩, ⟨(Tryz.prog.info? 313).getD default, .nilFunc, by kernel_rfl, by kernel_rfl, by kernel_rfl, by kernel_rfl, rfl, relL_cellAV _ [.nilFunc], relL_cellAV _ [.nilFunc]⟩, (fun h => by cases h), (fun q hq => by cases hq)⟩
-- func(error, interface {}, reflectlite.Value, reflectlite.Type) bool
def ty314 : TyRow := ⟨.func, 1, 8, [.nilF], false, false, [], false⟩
theorem ty314_met : ty314.met Tryz.prog 314 := ⟨⟨(funcOf Tryz.prog 314).1, (funcOf Tryz.prog 314).2.1, (funcOf Tryz.prog 314).2.2, by kernel_rfl⟩, ⟨(Tryz.prog.info? 314).getD default, .nilFunc, by kernel_rfl, by kernel_rfl, by kernel_rfl, by kernel_rfl, rfl, relL_cellAV _ [.nilFunc], relL_cellAV _ [.nilFunc]⟩, (fun h => by cases h), (fun q hq => by cases hq)⟩
-- func(api.Entry) (api.Entry, bool)
def ty315 : TyRow := ⟨.func, 1, 8, [.nilF], false, false, [], false⟩
theorem ty315_met : ty315.met Tryz.prog 315 := ⟨⟨(funcOf Tryz.prog 315).1, (funcOf Tryz.prog 315).2.1, (funcOf Tryz.prog 315).2.2, by kernel_rfl⟩, ⟨(Tryz.prog.info? 315).getD default, .nilFunc, by kernel_rfl, by kernel_rfl, by kernel_rfl, by kernel_rfl, rfl, relL_cellAV _ [.nilFunc], relL_cellAV _ [.nilFunc]⟩, (fun h => by cases h), (fun q hq => by cases hq)⟩
-- func(api.Event) int
def ty316 : TyRow := ⟨.func, 1, 8, [.nilF], false, false, [], false⟩
theorem ty316_met : ty316.met Tryz.prog 316 := ⟨⟨(funcOf Tryz.prog 316).1, (funcOf Tryz.prog 316).2.1, (funcOf Tryz.prog 316).2.2, by kernel_rfl⟩, ⟨(Tryz.prog.info? 316).getD default, .nilFunc, by kernel_rfl, by kernel_rfl, by kernel_rfl, by kernel_rfl, rfl, relL_cellAV _ [.nilFunc], relL_cellAV _ [.nilFunc]⟩, (fun h => by cases h), (fun q hq => by cases hq)⟩
-- func(int, bool) (api.Entry, bool)
def ty317 : TyRow := ⟨.func, 1, 8, [.nilF], false, false, [], false⟩
theorem ty317_met : ty317.met Tryz.prog 317 := ⟨⟨(funcOf Tryz.prog 317).1, (funcOf Tryz.prog 317).2.1, (funcOf Tryz.prog 317).2.2, by kernel_rfl⟩, ⟨(Tryz.prog.info? 317).getD default, .nilFunc, by kernel_rfl, by kernel_rfl, by kernel_rfl, by kernel_rfl, rfl, relL_cellAV _ [.nilFunc], relL_cellAV _ [.nilFunc]⟩, (fun h => by cases h), (fun q hq => by cases hq)⟩
-- func(int)
def ty318 : TyRow := ⟨.func, 1, 8, [.nilF], false, false, [], false⟩
theorem ty318_met : ty318.met Tryz.prog 318 := ⟨⟨(funcOf Tryz.prog 318).1, (funcOf Tryz.prog 318).2.1, (funcOf Tryz.prog 318).2.2, by kernel_rfl⟩, ⟨(Tryz.prog.info? 318).getD default, .nilFunc, by kernel_rfl, by kernel_rfl, by kernel_rfl, by kernel_rfl, rfl, relL_cellAV _ [.nilFunc], relL_cellAV _ [.nilFunc]⟩, (fun h => by cases h), (fun q hq => by cases hq)⟩
-- func(bool)
def ty319 : TyRow := ⟨.func, 1, 8, [.nilF], false, false, [], false⟩
theorem ty319_met : ty319.met Tryz.prog 319 := ⟨⟨(funcOf Tryz.prog 319).1, (funcOf Tryz.prog 319).2.1, (funcOf Tryz.prog 319).2.2, by kernel_rfl⟩, ⟨(Tryz.prog.info? 319).getD default, .nilFunc, by kernel_rfl, by kernel_rfl, by kernel_rfl, by kernel_rfl, rfl, relL_cellAV _ [.nilFunc], relL_cellAV _ [.nilFunc]⟩, (fun h => by cases h), (fun q hq => by cases hq)⟩
-- func() reflectlite.Value
def ty320 : TyRow := ⟨.func, 1, 8, [.nilF], false, false, [], false⟩
theorem ty320_met : ty320.met Tryz.prog 320 := ⟨⟨(funcOf Tryz.prog 320).1, (funcOf Tryz.prog 320).2.1, (funcOf Tryz.prog 320).2.2, by kernel_rfl⟩, ⟨(Tryz.prog.info? 320).getD default, .nilFunc, by kernel_rfl, by kernel_rfl, by kernel_rfl, by kernel_rfl, rfl, relL_cellAV _ [.nilFunc], relL_cellAV _ [.nilFunc]⟩, (fun h => by cases h), (fun q hq => by cases hq)⟩
-- func(reflectlite.Value)
def ty321 : TyRow := ⟨.func, 1, 8, [.nilF], false, false, [], false⟩
theorem ty321_met : ty321.met Tryz.prog 321 := ⟨⟨(funcOf Tryz.prog 321).1, (funcOf Tryz.prog 321).2.1, (funcOf Tryz.prog 321).2.2, by kernel_rfl⟩, ⟨(Tryz.prog.info? 321).getD default, .nilFunc, by kernel_rfl, by kernel_rfl, by kernel_rfl, by kernel_rfl, rfl, relL_cellAV _ [.nilFunc], relL_cellAV _ [.nilFunc]⟩, (fun h => by cases h), (fun q hq => by cases hq)⟩
-- interface { As(interface {}) bool }
def ty322 : TyRow := ⟨.iface, 1, 16, [.nilI], false, false, [], false⟩
theorem ty322_met : ty322.met Tryz.prog 322 := ⟨⟨ifaceOf Tryz.prog 322, by kernel_rfl⟩, ⟨(Tryz.prog.info? 322).getD default, .nilIface, by kernel_rfl, by kernel_rfl, by kernel_rfl, by kernel_rfl, rfl, relL_cellAV _ [.nilIface], relL_cellAV _ [.nilIface]⟩, (fun h => by cases h), (fun q hq => by cases hq)⟩
-- func(interface {}) bool
def ty324 : TyRow := ⟨.func, 1, 8, [.nilF], false, false, [], false⟩
theorem ty324_met : ty324.met Tryz.prog 324 := ⟨⟨(funcOf Tryz.prog 324).1, (funcOf Tryz.prog 324).2.1, (funcOf Tryz.prog 324).2.2, by kernel_rfl⟩, ⟨(Tryz.prog.info? 324).getD default, .nilFunc, by kernel_rfl, by kernel_rfl, by kernel_rfl, by kernel_rfl, rfl, relL_cellAV _ [.nilFunc], relL_cellAV _ [.nilFunc]⟩, (fun h => by cases h), (fun q hq => by cases hq)⟩
-- **table.link
def ty325 : TyRow := ⟨.ptr 173, 1, 8, [.nilP], false, false, [], false⟩
theorem ty325_met : ty325.met Tryz.prog 325 := ⟨(show Tryz.prog.underlying 325 = some (.pointer 173) by kernel_rfl), ⟨(Tryz.prog.info? 325).getD default, (.pointer none), by kernel_rfl, by kernel_rfl, by kernel_rfl, by kernel_rfl, rfl, relL_cellAV _ [(.pointer none)], relL_cellAV _ [(.pointer none)]⟩, (fun h => by cases h), (fun q hq => by cases hq)⟩
-- func(int) **table.link
def ty326 : TyRow := ⟨.func, 1, 8, [.nilF], false, false, [], false⟩
theorem ty326_met : ty326.met Tryz.prog 326 := ⟨⟨(funcOf Tryz.prog 326).1, (funcOf Tryz.prog 326).2.1, (funcOf Tryz.prog 326).2.2, by kernel_rfl⟩, ⟨(Tryz.prog.info? 326).getD default, .nilFunc, by kernel_rfl, by kernel_rfl, by kernel_rfl, by kernel_rfl, rfl, relL_cellAV _ [.nilFunc], relL_cellAV _ [.nilFunc]⟩, (fun h => by cases h), (fun q hq => by cases hq)⟩
-- func(int) (bool, bool)
def ty328 : TyRow := ⟨.func, 1, 8, [.nilF], false, false, [], false⟩
theorem ty328_met : ty328.met Tryz.prog 328 := ⟨⟨(funcOf Tryz.prog 328).1, (funcOf Tryz.prog 328).2.1, (funcOf Tryz.prog 328).2.2, by kernel_rfl⟩, ⟨(Tryz.prog.info? 328).getD default, .nilFunc, by kernel_rfl, by kernel_rfl, by kernel_rfl, by kernel_rfl, rfl, relL_cellAV _ [.nilFunc], relL_cellAV _ [.nilFunc]⟩, (fun h => by cases h), (fun q hq => by cases hq)⟩
-- func(api.Climb, bool) api.Climb
def ty329 : TyRow := ⟨.func, 1, 8, [.nilF], false, false, [], false⟩
theorem ty329_met : ty329.met Tryz.prog 329 := ⟨⟨(funcOf Tryz.prog 329).1, (funcOf Tryz.prog 329).2.1, (funcOf Tryz.prog 329).2.2, by kernel_rfl⟩, ⟨(Tryz.prog.info? 329).getD default, .nilFunc, by kernel_rfl, by kernel_rfl, by kernel_rfl, by kernel_rfl, rfl, relL_cellAV _ [.nilFunc], relL_cellAV _ [.nilFunc]⟩, (fun h => by cases h), (fun q hq => by cases hq)⟩
-- func(api.Climb, int) bool
def ty330 : TyRow := ⟨.func, 1, 8, [.nilF], false, false, [], false⟩
theorem ty330_met : ty330.met Tryz.prog 330 := ⟨⟨(funcOf Tryz.prog 330).1, (funcOf Tryz.prog 330).2.1, (funcOf Tryz.prog 330).2.2, by kernel_rfl⟩, ⟨(Tryz.prog.info? 330).getD default, .nilFunc, by kernel_rfl, by kernel_rfl, by kernel_rfl, by kernel_rfl, rfl, relL_cellAV _ [.nilFunc], relL_cellAV _ [.nilFunc]⟩, (fun h => by cases h), (fun q hq => by cases hq)⟩
-- func(api.Climb, int) (api.Climb, int)
def ty332 : TyRow := ⟨.func, 1, 8, [.nilF], false, false, [], false⟩
theorem ty332_met : ty332.met Tryz.prog 332 := ⟨⟨(funcOf Tryz.prog 332).1, (funcOf Tryz.prog 332).2.1, (funcOf Tryz.prog 332).2.2, by kernel_rfl⟩, ⟨(Tryz.prog.info? 332).getD default, .nilFunc, by kernel_rfl, by kernel_rfl, by kernel_rfl, by kernel_rfl, rfl, relL_cellAV _ [.nilFunc], relL_cellAV _ [.nilFunc]⟩, (fun h => by cases h), (fun q hq => by cases hq)⟩
-- func(api.Quota, int) api.Quota
def ty333 : TyRow := ⟨.func, 1, 8, [.nilF], false, false, [], false⟩
theorem ty333_met : ty333.met Tryz.prog 333 := ⟨⟨(funcOf Tryz.prog 333).1, (funcOf Tryz.prog 333).2.1, (funcOf Tryz.prog 333).2.2, by kernel_rfl⟩, ⟨(Tryz.prog.info? 333).getD default, .nilFunc, by kernel_rfl, by kernel_rfl, by kernel_rfl, by kernel_rfl, rfl, relL_cellAV _ [.nilFunc], relL_cellAV _ [.nilFunc]⟩, (fun h => by cases h), (fun q hq => by cases hq)⟩
-- func(int, int)
def ty334 : TyRow := ⟨.func, 1, 8, [.nilF], false, false, [], false⟩
theorem ty334_met : ty334.met Tryz.prog 334 := ⟨⟨(funcOf Tryz.prog 334).1, (funcOf Tryz.prog 334).2.1, (funcOf Tryz.prog 334).2.2, by kernel_rfl⟩, ⟨(Tryz.prog.info? 334).getD default, .nilFunc, by kernel_rfl, by kernel_rfl, by kernel_rfl, by kernel_rfl, rfl, relL_cellAV _ [.nilFunc], relL_cellAV _ [.nilFunc]⟩, (fun h => by cases h), (fun q hq => by cases hq)⟩
-- func(int) *deque.list
def ty335 : TyRow := ⟨.func, 1, 8, [.nilF], false, false, [], false⟩
theorem ty335_met : ty335.met Tryz.prog 335 := ⟨⟨(funcOf Tryz.prog 335).1, (funcOf Tryz.prog 335).2.1, (funcOf Tryz.prog 335).2.2, by kernel_rfl⟩, ⟨(Tryz.prog.info? 335).getD default, .nilFunc, by kernel_rfl, by kernel_rfl, by kernel_rfl, by kernel_rfl, rfl, relL_cellAV _ [.nilFunc], relL_cellAV _ [.nilFunc]⟩, (fun h => by cases h), (fun q hq => by cases hq)⟩
-- func(*deque.element)
def ty336 : TyRow := ⟨.func, 1, 8, [.nilF], false, false, [], false⟩
theorem ty336_met : ty336.met Tryz.prog 336 := ⟨⟨(funcOf Tryz.prog 336).1, (funcOf Tryz.prog 336).2.1, (funcOf Tryz.prog 336).2.2, by kernel_rfl⟩, ⟨(Tryz.prog.info? 336).getD default, .nilFunc, by kernel_rfl, by kernel_rfl, by kernel_rfl, by kernel_rfl, rfl, relL_cellAV _ [.nilFunc], relL_cellAV _ [.nilFunc]⟩, (fun h => by cases h), (fun q hq => by cases hq)⟩
-- func(int) []int
def ty337 : TyRow := ⟨.func, 1, 8, [.nilF], false, false, [], false⟩
theorem ty337_met : ty337.met Tryz.prog 337 := ⟨⟨(funcOf Tryz.prog 337).1, (funcOf Tryz.prog 337).2.1, (funcOf Tryz.prog 337).2.2, by kernel_rfl⟩, ⟨(Tryz.prog.info? 337).getD default, .nilFunc, by kernel_rfl, by kernel_rfl, by kernel_rfl, by kernel_rfl, rfl, relL_cellAV _ [.nilFunc], relL_cellAV _ [.nilFunc]⟩, (fun h => by cases h), (fun q hq => by cases hq)⟩
-- func(...int) bool
def ty338 : TyRow := ⟨.func, 1, 8, [.nilF], false, false, [], false⟩
theorem ty338_met : ty338.met Tryz.prog 338 := ⟨⟨(funcOf Tryz.prog 338).1, (funcOf Tryz.prog 338).2.1, (funcOf Tryz.prog 338).2.2, by kernel_rfl⟩, ⟨(Tryz.prog.info? 338).getD default, .nilFunc, by kernel_rfl, by kernel_rfl, by kernel_rfl, by kernel_rfl, rfl, relL_cellAV _ [.nilFunc], relL_cellAV _ [.nilFunc]⟩, (fun h => by cases h), (fun q hq => by cases hq)⟩
-- [4]int
def ty339 : TyRow := ⟨.array 4 3, 4, 32, [.lit .i64 0, .lit .i64 0, .lit .i64 0, .lit .i64 0], true, false, [], false⟩
theorem ty339_met : ty339.met Tryz.prog 339 := ⟨(show Tryz.prog.underlying 339 = some (.array 4 3) by kernel_rfl), ⟨(Tryz.prog.info? 339).getD default, (.agg #[(.int .i64 0), (.int .i64 0), (.int .i64 0), (.int .i64 0)]), by kernel_rfl, by kernel_rfl, by kernel_rfl, by kernel_rfl, rfl, ⟨[(.int .i64 0), (.int .i64 0), (.int .i64 0), (.int .i64 0)], relL_cellAV _ [(.int .i64 0), (.int .i64 0), (.int .i64 0), (.int .i64 0)], rfl⟩, relL_cellAV _ [(.int .i64 0), (.int .i64 0), (.int .i64 0), (.int .i64 0)]⟩, (fun _ => ⟨by kernel_rfl, by kernel_rfl, fun fields hf => by rw [(show Tryz.prog.underlying 339 = some (.array 4 3) by kernel_rfl)] at hf; cases hf⟩), (fun q hq => by cases hq)⟩
-- func(int) [4]int
def ty340 : TyRow := ⟨.func, 1, 8, [.nilF], false, false, [], false⟩
theorem ty340_met : ty340.met Tryz.prog 340 := ⟨⟨(funcOf Tryz.prog 340).1, (funcOf Tryz.prog 340).2.1, (funcOf Tryz.prog 340).2.2, by kernel_rfl⟩, ⟨(Tryz.prog.info? 340).getD default, .nilFunc, by kernel_rfl, by kernel_rfl, by kernel_rfl, by kernel_rfl, rfl, relL_cellAV _ [.nilFunc], relL_cellAV _ [.nilFunc]⟩, (fun h => by cases h), (fun q hq => by cases hq)⟩
-- func(uint64, int) (uint64, bool)
def ty342 : TyRow := ⟨.func, 1, 8, [.nilF], false, false, [], false⟩
theorem ty342_met : ty342.met Tryz.prog 342 := ⟨⟨(funcOf Tryz.prog 342).1, (funcOf Tryz.prog 342).2.1, (funcOf Tryz.prog 342).2.2, by kernel_rfl⟩, ⟨(Tryz.prog.info? 342).getD default, .nilFunc, by kernel_rfl, by kernel_rfl, by kernel_rfl, by kernel_rfl, rfl, relL_cellAV _ [.nilFunc], relL_cellAV _ [.nilFunc]⟩, (fun h => by cases h), (fun q hq => by cases hq)⟩
-- func(api.Climb) api.Climb
def ty343 : TyRow := ⟨.func, 1, 8, [.nilF], false, false, [], false⟩
theorem ty343_met : ty343.met Tryz.prog 343 := ⟨⟨(funcOf Tryz.prog 343).1, (funcOf Tryz.prog 343).2.1, (funcOf Tryz.prog 343).2.2, by kernel_rfl⟩, ⟨(Tryz.prog.info? 343).getD default, .nilFunc, by kernel_rfl, by kernel_rfl, by kernel_rfl, by kernel_rfl, rfl, relL_cellAV _ [.nilFunc], relL_cellAV _ [.nilFunc]⟩, (fun h => by cases h), (fun q hq => by cases hq)⟩
-- func(api.Climb) int
def ty344 : TyRow := ⟨.func, 1, 8, [.nilF], false, false, [], false⟩
theorem ty344_met : ty344.met Tryz.prog 344 := ⟨⟨(funcOf Tryz.prog 344).1, (funcOf Tryz.prog 344).2.1, (funcOf Tryz.prog 344).2.2, by kernel_rfl⟩, ⟨(Tryz.prog.info? 344).getD default, .nilFunc, by kernel_rfl, by kernel_rfl, by kernel_rfl, by kernel_rfl, rfl, relL_cellAV _ [.nilFunc], relL_cellAV _ [.nilFunc]⟩, (fun h => by cases h), (fun q hq => by cases hq)⟩
-- func(int) (int, bool)
def ty345 : TyRow := ⟨.func, 1, 8, [.nilF], false, false, [], false⟩
theorem ty345_met : ty345.met Tryz.prog 345 := ⟨⟨(funcOf Tryz.prog 345).1, (funcOf Tryz.prog 345).2.1, (funcOf Tryz.prog 345).2.2, by kernel_rfl⟩, ⟨(Tryz.prog.info? 345).getD default, .nilFunc, by kernel_rfl, by kernel_rfl, by kernel_rfl, by kernel_rfl, rfl, relL_cellAV _ [.nilFunc], relL_cellAV _ [.nilFunc]⟩, (fun h => by cases h), (fun q hq => by cases hq)⟩
-- func(uint64, int) int
def ty346 : TyRow := ⟨.func, 1, 8, [.nilF], false, false, [], false⟩
theorem ty346_met : ty346.met Tryz.prog 346 := ⟨⟨(funcOf Tryz.prog 346).1, (funcOf Tryz.prog 346).2.1, (funcOf Tryz.prog 346).2.2, by kernel_rfl⟩, ⟨(Tryz.prog.info? 346).getD default, .nilFunc, by kernel_rfl, by kernel_rfl, by kernel_rfl, by kernel_rfl, rfl, relL_cellAV _ [.nilFunc], relL_cellAV _ [.nilFunc]⟩, (fun h => by cases h), (fun q hq => by cases hq)⟩
-- func(uint64) uint64
def ty347 : TyRow := ⟨.func, 1, 8, [.nilF], false, false, [], false⟩
theorem ty347_met : ty347.met Tryz.prog 347 := ⟨⟨(funcOf Tryz.prog 347).1, (funcOf Tryz.prog 347).2.1, (funcOf Tryz.prog 347).2.2, by kernel_rfl⟩, ⟨(Tryz.prog.info? 347).getD default, .nilFunc, by kernel_rfl, by kernel_rfl, by kernel_rfl, by kernel_rfl, rfl, relL_cellAV _ [.nilFunc], relL_cellAV _ [.nilFunc]⟩, (fun h => by cases h), (fun q hq => by cases hq)⟩
-- func(*int, int, int)
def ty348 : TyRow := ⟨.func, 1, 8, [.nilF], false, false, [], false⟩
theorem ty348_met : ty348.met Tryz.prog 348 := ⟨⟨(funcOf Tryz.prog 348).1, (funcOf Tryz.prog 348).2.1, (funcOf Tryz.prog 348).2.2, by kernel_rfl⟩, ⟨(Tryz.prog.info? 348).getD default, .nilFunc, by kernel_rfl, by kernel_rfl, by kernel_rfl, by kernel_rfl, rfl, relL_cellAV _ [.nilFunc], relL_cellAV _ [.nilFunc]⟩, (fun h => by cases h), (fun q hq => by cases hq)⟩
-- func() string
def ty349 : TyRow := ⟨.func, 1, 8, [.nilF], false, false, [], false⟩
theorem ty349_met : ty349.met Tryz.prog 349 := ⟨⟨(funcOf Tryz.prog 349).1, (funcOf Tryz.prog 349).2.1, (funcOf Tryz.prog 349).2.2, by kernel_rfl⟩, ⟨(Tryz.prog.info? 349).getD default, .nilFunc, by kernel_rfl, by kernel_rfl, by kernel_rfl, by kernel_rfl, rfl, relL_cellAV _ [.nilFunc], relL_cellAV _ [.nilFunc]⟩, (fun h => by cases h), (fun q hq => by cases hq)⟩
-- struct { _interface *abi.Type; concrete *abi.Type; asserted *abi.Type; missingMethod string }
def ty350 : TyRow := ⟨.struct [(0, 17), (1, 17), (2, 17), (3, 9)], 4, 40, [.nilP, .nilP, .nilP, .raw (.string (ByteArray.mk #[]))], false, false, [], false⟩
theorem ty350_met : ty350.met Tryz.prog 350 := ⟨⟨Tryz.prog.fieldsOf 350, by kernel_rfl, by kernel_rfl⟩, ⟨(Tryz.prog.info? 350).getD default, (.agg #[(.pointer none), (.pointer none), (.pointer none), (.string (ByteArray.mk #[]))]), by kernel_rfl, by kernel_rfl, by kernel_rfl, by kernel_rfl, rfl, ⟨[(.pointer none), (.pointer none), (.pointer none), (.string (ByteArray.mk #[]))], relL_cellAV _ [(.pointer none), (.pointer none), (.pointer none), (.string (ByteArray.mk #[]))], rfl⟩, relL_cellAV _ [(.pointer none), (.pointer none), (.pointer none), (.string (ByteArray.mk #[]))]⟩, (fun h => by cases h), (fun q hq => by cases hq)⟩
-- runtime.TypeAssertionError
def ty351 : TyRow := ⟨.struct [(0, 17), (1, 17), (2, 17), (3, 9)], 4, 40, [.nilP, .nilP, .nilP, .raw (.string (ByteArray.mk #[]))], false, false, [], false⟩
theorem ty351_met : ty351.met Tryz.prog 351 := ⟨⟨Tryz.prog.fieldsOf 351, by kernel_rfl, by kernel_rfl⟩, ⟨(Tryz.prog.info? 351).getD default, (.agg #[(.pointer none), (.pointer none), (.pointer none), (.string (ByteArray.mk #[]))]), by kernel_rfl, by kernel_rfl, by kernel_rfl, by kernel_rfl, rfl, ⟨[(.pointer none), (.pointer none), (.pointer none), (.string (ByteArray.mk #[]))], relL_cellAV _ [(.pointer none), (.pointer none), (.pointer none), (.string (ByteArray.mk #[]))], rfl⟩, relL_cellAV _ [(.pointer none), (.pointer none), (.pointer none), (.string (ByteArray.mk #[]))]⟩, (fun h => by cases h), (fun q hq => by cases hq)⟩
-- [0]*runtime.PanicNilError
def ty352 : TyRow := ⟨.array 0 16, 0, 0, [], false, false, [], false⟩
theorem ty352_met : ty352.met Tryz.prog 352 := ⟨(show Tryz.prog.underlying 352 = some (.array 0 16) by kernel_rfl), ⟨(Tryz.prog.info? 352).getD default, (.agg #[]), by kernel_rfl, by kernel_rfl, by kernel_rfl, by kernel_rfl, rfl, ⟨[], relL_cellAV _ [], rfl⟩, relL_cellAV _ []⟩, (fun h => by cases h), (fun q hq => by cases hq)⟩
-- struct { _ [0]*runtime.PanicNilError }
def ty353 : TyRow := ⟨.struct [(0, 352)], 0, 0, [], false, false, [], false⟩
theorem ty353_met : ty353.met Tryz.prog 353 := ⟨⟨Tryz.prog.fieldsOf 353, by kernel_rfl, by kernel_rfl⟩, ⟨(Tryz.prog.info? 353).getD default, (.agg #[]), by kernel_rfl, by kernel_rfl, by kernel_rfl, by kernel_rfl, rfl, ⟨[], relL_cellAV _ [], rfl⟩, relL_cellAV _ []⟩, (fun h => by cases h), (fun q hq => by cases hq)⟩
-- runtime.PanicNilError
def ty354 : TyRow := ⟨.struct [(0, 352)], 0, 0, [], false, false, [], false⟩
theorem ty354_met : ty354.met Tryz.prog 354 := ⟨⟨Tryz.prog.fieldsOf 354, by kernel_rfl, by kernel_rfl⟩, ⟨(Tryz.prog.info? 354).getD default, (.agg #[]), by kernel_rfl, by kernel_rfl, by kernel_rfl, by kernel_rfl, rfl, ⟨[], relL_cellAV _ [], rfl⟩, relL_cellAV _ []⟩, (fun h => by cases h), (fun q hq => by cases hq)⟩
-- func() *abi.Type
def ty355 : TyRow := ⟨.func, 1, 8, [.nilF], false, false, [], false⟩
theorem ty355_met : ty355.met Tryz.prog 355 := ⟨⟨(funcOf Tryz.prog 355).1, (funcOf Tryz.prog 355).2.1, (funcOf Tryz.prog 355).2.2, by kernel_rfl⟩, ⟨(Tryz.prog.info? 355).getD default, .nilFunc, by kernel_rfl, by kernel_rfl, by kernel_rfl, by kernel_rfl, rfl, relL_cellAV _ [.nilFunc], relL_cellAV _ [.nilFunc]⟩, (fun h => by cases h), (fun q hq => by cases hq)⟩
-- abi.TFlag
def ty356 : TyRow := ⟨.int .u8, 1, 1, [.lit .u8 0], false, false, [], false⟩
theorem ty356_met : ty356.met Tryz.prog 356 := ⟨(show Tryz.prog.underlying 356 = some (.int .u8) by kernel_rfl), ⟨(Tryz.prog.info? 356).getD default, (.int .u8 0), by kernel_rfl, by kernel_rfl, by kernel_rfl, by kernel_rfl, rfl, relL_cellAV _ [(.int .u8 0)], relL_cellAV _ [(.int .u8 0)]⟩, (fun h => by cases h), (fun q hq => by cases hq)⟩
-- func(unsafe.Pointer, unsafe.Pointer) bool
def ty357 : TyRow := ⟨.func, 1, 8, [.nilF], false, false, [], false⟩
theorem ty357_met : ty357.met Tryz.prog 357 := ⟨⟨(funcOf Tryz.prog 357).1, (funcOf Tryz.prog 357).2.1, (funcOf Tryz.prog 357).2.2, by kernel_rfl⟩, ⟨(Tryz.prog.info? 357).getD default, .nilFunc, by kernel_rfl, by kernel_rfl, by kernel_rfl, by kernel_rfl, rfl, relL_cellAV _ [.nilFunc], relL_cellAV _ [.nilFunc]⟩, (fun h => by cases h), (fun q hq => by cases hq)⟩
-- *uint8
def ty358 : TyRow := ⟨.ptr 5, 1, 8, [.nilP], false, false, [], false⟩
theorem ty358_met : ty358.met Tryz.prog 358 := ⟨(show Tryz.prog.underlying 358 = some (.pointer 5) by kernel_rfl), ⟨(Tryz.prog.info? 358).getD default, (.pointer none), by kernel_rfl, by kernel_rfl, by kernel_rfl, by kernel_rfl, rfl, relL_cellAV _ [(.pointer none)], relL_cellAV _ [(.pointer none)]⟩, (fun h => by cases h), (fun q hq => by cases hq)⟩
-- abi.NameOff
def ty359 : TyRow := ⟨.int .i32, 1, 4, [.lit .i32 0], false, false, [], false⟩
theorem ty359_met : ty359.met Tryz.prog 359 := ⟨(show Tryz.prog.underlying 359 = some (.int .i32) by kernel_rfl), ⟨(Tryz.prog.info? 359).getD default, (.int .i32 0), by kernel_rfl, by kernel_rfl, by kernel_rfl, by kernel_rfl, rfl, relL_cellAV _ [(.int .i32 0)], relL_cellAV _ [(.int .i32 0)]⟩, (fun h => by cases h), (fun q hq => by cases hq)⟩
-- abi.TypeOff
def ty360 : TyRow := ⟨.int .i32, 1, 4, [.lit .i32 0], false, false, [], false⟩
theorem ty360_met : ty360.met Tryz.prog 360 := ⟨(show Tryz.prog.underlying 360 = some (.int .i32) by kernel_rfl), ⟨(Tryz.prog.info? 360).getD default, (.int .i32 0), by kernel_rfl, by kernel_rfl, by kernel_rfl, by kernel_rfl, rfl, relL_cellAV _ [(.int .i32 0)], relL_cellAV _ [(.int .i32 0)]⟩, (fun h => by cases h), (fun q hq => by cases hq)⟩
-- struct { Size_ uintptr; PtrBytes uintptr; Hash uint32; TFlag abi.TFlag; Align_ uint8; FieldAlign_ ui
def ty361 : TyRow := ⟨.struct [(0, 12), (1, 12), (2, 228), (3, 356), (4, 5), (5, 5), (6, 311), (7, 357), (8, 358), (9, 359), (10, 360)], 11, 48, [.lit .u64 0, .lit .u64 0, .lit .u32 0, .lit .u8 0, .lit .u8 0, .lit .u8 0, .lit .u8 0, .nilF, .nilP, .lit .i32 0, .lit .i32 0], false, false, [], false⟩
theorem ty361_met : ty361.met Tryz.prog 361 := ⟨⟨Tryz.prog.fieldsOf 361, by kernel_rfl, by kernel_rfl⟩, ⟨(Tryz.prog.info? 361).getD default, (.agg #[(.int .u64 0), (.int .u64 0), (.int .u32 0), (.int .u8 0), (.int .u8 0), (.int .u8 0), (.int .u8 0), .nilFunc, (.pointer none), (.int .i32 0), (.int .i32 0)]), by kernel_rfl, by kernel_rfl, by kernel_rfl, by kernel_rfl, rfl, ⟨[(.int .u64 0), (.int .u64 0), (.int .u32 0), (.int .u8 0), (.int .u8 0), (.int .u8 0), (.int .u8 0), .nilFunc, (.pointer none), (.int .i32 0), (.int .i32 0)], relL_cellAV _ [(.int .u64 0), (.int .u64 0), (.int .u32 0), (.int .u8 0), (.int .u8 0), (.int .u8 0), (.int .u8 0), .nilFunc, (.pointer none), (.int .i32 0), (.int .i32 0)], rfl⟩, relL_cellAV _ [(.int .u64 0), (.int .u64 0), (.int .u32 0), (.int .u8 0), (.int .u8 0), (.int .u8 0), (.int .u8 0), .nilFunc, (.pointer none), (.int .i32 0), (.int .i32 0)]⟩, (fun h => by cases h), (fun q hq => by cases hq)⟩
-- abi.Type
def ty362 : TyRow := ⟨.struct [(0, 12), (1, 12), (2, 228), (3, 356), (4, 5), (5, 5), (6, 311), (7, 357), (8, 358), (9, 359), (10, 360)], 11, 48, [.lit .u64 0, .lit .u64 0, .lit .u32 0, .lit .u8 0, .lit .u8 0, .lit .u8 0, .lit .u8 0, .nilF, .nilP, .lit .i32 0, .lit .i32 0], false, false, [], false⟩
theorem ty362_met : ty362.met Tryz.prog 362 := ⟨⟨Tryz.prog.fieldsOf 362, by kernel_rfl, by kernel_rfl⟩, ⟨(Tryz.prog.info? 362).getD default, (.agg #[(.int .u64 0), (.int .u64 0), (.int .u32 0), (.int .u8 0), (.int .u8 0), (.int .u8 0), (.int .u8 0), .nilFunc, (.pointer none), (.int .i32 0), (.int .i32 0)]), by kernel_rfl, by kernel_rfl, by kernel_rfl, by kernel_rfl, rfl, ⟨[(.int .u64 0), (.int .u64 0), (.int .u32 0), (.int .u8 0), (.int .u8 0), (.int .u8 0), (.int .u8 0), .nilFunc, (.pointer none), (.int .i32 0), (.int .i32 0)], relL_cellAV _ [(.int .u64 0), (.int .u64 0), (.int .u32 0), (.int .u8 0), (.int .u8 0), (.int .u8 0), (.int .u8 0), .nilFunc, (.pointer none), (.int .i32 0), (.int .i32 0)], rfl⟩, relL_cellAV _ [(.int .u64 0), (.int .u64 0), (.int .u32 0), (.int .u8 0), (.int .u8 0), (.int .u8 0), (.int .u8 0), .nilFunc, (.pointer none), (.int .i32 0), (.int .i32 0)]⟩, (fun h => by cases h), (fun q hq => by cases hq)⟩
-- func() iter.Seq[*pantry/deque.element]
def ty363 : TyRow := ⟨.func, 1, 8, [.nilF], false, false, [], false⟩
theorem ty363_met : ty363.met Tryz.prog 363 := ⟨⟨(funcOf Tryz.prog 363).1, (funcOf Tryz.prog 363).2.1, (funcOf Tryz.prog 363).2.2, by kernel_rfl⟩, ⟨(Tryz.prog.info? 363).getD default, .nilFunc, by kernel_rfl, by kernel_rfl, by kernel_rfl, by kernel_rfl, rfl, relL_cellAV _ [.nilFunc], relL_cellAV _ [.nilFunc]⟩, (fun h => by cases h), (fun q hq => by cases hq)⟩
-- func() uintptr
def ty364 : TyRow := ⟨.func, 1, 8, [.nilF], false, false, [], false⟩
theorem ty364_met : ty364.met Tryz.prog 364 := ⟨⟨(funcOf Tryz.prog 364).1, (funcOf Tryz.prog 364).2.1, (funcOf Tryz.prog 364).2.2, by kernel_rfl⟩, ⟨(Tryz.prog.info? 364).getD default, .nilFunc, by kernel_rfl, by kernel_rfl, by kernel_rfl, by kernel_rfl, rfl, relL_cellAV _ [.nilFunc], relL_cellAV _ [.nilFunc]⟩, (fun h => by cases h), (fun q hq => by cases hq)⟩
-- func() *abi.UncommonType
def ty365 : TyRow := ⟨.func, 1, 8, [.nilF], false, false, [], false⟩
theorem ty365_met : ty365.met Tryz.prog 365 := ⟨⟨(funcOf Tryz.prog 365).1, (funcOf Tryz.prog 365).2.1, (funcOf Tryz.prog 365).2.2, by kernel_rfl⟩, ⟨(Tryz.prog.info? 365).getD default, .nilFunc, by kernel_rfl, by kernel_rfl, by kernel_rfl, by kernel_rfl, rfl, relL_cellAV _ [.nilFunc], relL_cellAV _ [.nilFunc]⟩, (fun h => by cases h), (fun q hq => by cases hq)⟩
-- struct { Method string; Kind abi.Kind }
def ty366 : TyRow := ⟨.struct [(0, 9), (1, 311)], 2, 24, [.raw (.string (ByteArray.mk #[])), .lit .u8 0], false, false, [], false⟩
theorem ty366_met : ty366.met Tryz.prog 366 := ⟨⟨Tryz.prog.fieldsOf 366, by kernel_rfl, by kernel_rfl⟩, ⟨(Tryz.prog.info? 366).getD default, (.agg #[(.string (ByteArray.mk #[])), (.int .u8 0)]), by kernel_rfl, by kernel_rfl, by kernel_rfl, by kernel_rfl, rfl, ⟨[(.string (ByteArray.mk #[])), (.int .u8 0)], relL_cellAV _ [(.string (ByteArray.mk #[])), (.int .u8 0)], rfl⟩, relL_cellAV _ [(.string (ByteArray.mk #[])), (.int .u8 0)]⟩, (fun h => by cases h), (fun q hq => by cases hq)⟩
-- reflectlite.ValueError
def ty367 : TyRow := ⟨.struct [(0, 9), (1, 311)], 2, 24, [.raw (.string (ByteArray.mk #[])), .lit .u8 0], false, false, [], false⟩
theorem ty367_met : ty367.met Tryz.prog 367 := ⟨⟨Tryz.prog.fieldsOf 367, by kernel_rfl, by kernel_rfl⟩, ⟨(Tryz.prog.info? 367).getD default, (.agg #[(.string (ByteArray.mk #[])), (.int .u8 0)]), by kernel_rfl, by kernel_rfl, by kernel_rfl, by kernel_rfl, rfl, ⟨[(.string (ByteArray.mk #[])), (.int .u8 0)], relL_cellAV _ [(.string (ByteArray.mk #[])), (.int .u8 0)], rfl⟩, relL_cellAV _ [(.string (ByteArray.mk #[])), (.int .u8 0)]⟩, (fun h => by cases h), (fun q hq => by cases hq)⟩
-- func(func(*deque.element) bool)
def ty368 : TyRow := ⟨.func, 1, 8, [.nilF], false, false, [], false⟩
theorem ty368_met : ty368.met Tryz.prog 368 := ⟨⟨(funcOf Tryz.prog 368).1, (funcOf Tryz.prog 368).2.1, (funcOf Tryz.prog 368).2.2, by kernel_rfl⟩, ⟨(Tryz.prog.info? 368).getD default, .nilFunc, by kernel_rfl, by kernel_rfl, by kernel_rfl, by kernel_rfl, rfl, relL_cellAV _ [.nilFunc], relL_cellAV _ [.nilFunc]⟩, (fun h => by cases h), (fun q hq => by cases hq)⟩
-- iter.Seq[*pantry/deque.element]
def ty369 : TyRow := ⟨.func, 1, 8, [.nilF], false, false, [], false⟩
theorem ty369_met : ty369.met Tryz.prog 369 := ⟨⟨(funcOf Tryz.prog 369).1, (funcOf Tryz.prog 369).2.1, (funcOf Tryz.prog 369).2.2, by kernel_rfl⟩, ⟨(Tryz.prog.info? 369).getD default, .nilFunc, by kernel_rfl, by kernel_rfl, by kernel_rfl, by kernel_rfl, rfl, relL_cellAV _ [.nilFunc], relL_cellAV _ [.nilFunc]⟩, (fun h => by cases h), (fun q hq => by cases hq)⟩
-- *abi.UncommonType
def ty370 : TyRow := ⟨.ptr 375, 1, 8, [.nilP], false, false, [], false⟩
theorem ty370_met : ty370.met Tryz.prog 370 := ⟨(show Tryz.prog.underlying 370 = some (.pointer 375) by kernel_rfl), ⟨(Tryz.prog.info? 370).getD default, (.pointer none), by kernel_rfl, by kernel_rfl, by kernel_rfl, by kernel_rfl, rfl, relL_cellAV _ [(.pointer none)], relL_cellAV _ [(.pointer none)]⟩, (fun h => by cases h), (fun q hq => by cases hq)⟩
-- func(*deque.element) bool
def ty371 : TyRow := ⟨.func, 1, 8, [.nilF], false, false, [], false⟩
theorem ty371_met : ty371.met Tryz.prog 371 := ⟨⟨(funcOf Tryz.prog 371).1, (funcOf Tryz.prog 371).2.1, (funcOf Tryz.prog 371).2.2, by kernel_rfl⟩, ⟨(Tryz.prog.info? 371).getD default, .nilFunc, by kernel_rfl, by kernel_rfl, by kernel_rfl, by kernel_rfl, rfl, relL_cellAV _ [.nilFunc], relL_cellAV _ [.nilFunc]⟩, (fun h => by cases h), (fun q hq => by cases hq)⟩
-- func() []abi.Method
def ty372 : TyRow := ⟨.func, 1, 8, [.nilF], false, false, [], false⟩
theorem ty372_met : ty372.met Tryz.prog 372 := ⟨⟨(funcOf Tryz.prog 372).1, (funcOf Tryz.prog 372).2.1, (funcOf Tryz.prog 372).2.2, by kernel_rfl⟩, ⟨(Tryz.prog.info? 372).getD default, .nilFunc, by kernel_rfl, by kernel_rfl, by kernel_rfl, by kernel_rfl, rfl, relL_cellAV _ [.nilFunc], relL_cellAV _ [.nilFunc]⟩, (fun h => by cases h), (fun q hq => by cases hq)⟩
-- uint16
def ty373 : TyRow := ⟨.int .u16, 1, 2, [.lit .u16 0], false, false, [], false⟩
theorem ty373_met : ty373.met Tryz.prog 373 := ⟨(show Tryz.prog.underlying 373 = some (.int .u16) by kernel_rfl), ⟨(Tryz.prog.info? 373).getD default, (.int .u16 0), by kernel_rfl, by kernel_rfl, by kernel_rfl, by kernel_rfl, rfl, relL_cellAV _ [(.int .u16 0)], relL_cellAV _ [(.int .u16 0)]⟩, (fun h => by cases h), (fun q hq => by cases hq)⟩
-- struct { PkgPath abi.NameOff; Mcount uint16; Xcount uint16; Moff uint32; _ uint32 }
def ty374 : TyRow := ⟨.struct [(0, 359), (1, 373), (2, 373), (3, 228), (4, 228)], 5, 16, [.lit .i32 0, .lit .u16 0, .lit .u16 0, .lit .u32 0, .lit .u32 0], false, false, [], false⟩
theorem ty374_met : ty374.met Tryz.prog 374 := ⟨⟨Tryz.prog.fieldsOf 374, by kernel_rfl, by kernel_rfl⟩, ⟨(Tryz.prog.info? 374).getD default, (.agg #[(.int .i32 0), (.int .u16 0), (.int .u16 0), (.int .u32 0), (.int .u32 0)]), by kernel_rfl, by kernel_rfl, by kernel_rfl, by kernel_rfl, rfl, ⟨[(.int .i32 0), (.int .u16 0), (.int .u16 0), (.int .u32 0), (.int .u32 0)], relL_cellAV _ [(.int .i32 0), (.int .u16 0), (.int .u16 0), (.int .u32 0), (.int .u32 0)], rfl⟩, relL_cellAV _ [(.int .i32 0), (.int .u16 0), (.int .u16 0), (.int .u32 0), (.int .u32 0)]⟩, (fun h => by cases h), (fun q hq => by cases hq)⟩
-- abi.UncommonType
def ty375 : TyRow := ⟨.struct [(0, 359), (1, 373), (2, 373), (3, 228), (4, 228)], 5, 16, [.lit .i32 0, .lit .u16 0, .lit .u16 0, .lit .u32 0, .lit .u32 0], false, false, [], false⟩
theorem ty375_met : ty375.met Tryz.prog 375 := ⟨⟨Tryz.prog.fieldsOf 375, by kernel_rfl, by kernel_rfl⟩, ⟨(Tryz.prog.info? 375).getD default, (.agg #[(.int .i32 0), (.int .u16 0), (.int .u16 0), (.int .u32 0), (.int .u32 0)]), by kernel_rfl, by kernel_rfl, by kernel_rfl, by kernel_rfl, rfl, ⟨[(.int .i32 0), (.int .u16 0), (.int .u16 0), (.int .u32 0), (.int .u32 0)], relL_cellAV _ [(.int .i32 0), (.int .u16 0), (.int .u16 0), (.int .u32 0), (.int .u32 0)], rfl⟩, relL_cellAV _ [(.int .i32 0), (.int .u16 0), (.int .u16 0), (.int .u32 0), (.int .u32 0)]⟩, (fun h => by cases h), (fun q hq => by cases hq)⟩
-- []abi.Method
def ty376 : TyRow := ⟨.slice 379, 1, 24, [.nilS], false, false, [], false⟩
theorem ty376_met : ty376.met Tryz.prog 376 := ⟨(show Tryz.prog.underlying 376 = some (.slice 379) by kernel_rfl), ⟨(Tryz.prog.info? 376).getD default, (.slice none 0 0), by kernel_rfl, by kernel_rfl, by kernel_rfl, by kernel_rfl, rfl, relL_cellAV _ [(.slice none 0 0)], relL_cellAV _ [(.slice none 0 0)]⟩, (fun h => by cases h), (fun q hq => by cases hq)⟩
-- abi.TextOff
def ty377 : TyRow := ⟨.int .i32, 1, 4, [.lit .i32 0], false, false, [], false⟩
theorem ty377_met : ty377.met Tryz.prog 377 := ⟨(show Tryz.prog.underlying 377 = some (.int .i32) by kernel_rfl), ⟨(Tryz.prog.info? 377).getD default, (.int .i32 0), by kernel_rfl, by kernel_rfl, by kernel_rfl, by kernel_rfl, rfl, relL_cellAV _ [(.int .i32 0)], relL_cellAV _ [(.int .i32 0)]⟩, (fun h => by cases h), (fun q hq => by cases hq)⟩
-- struct { Name abi.NameOff; Mtyp abi.TypeOff; Ifn abi.TextOff; Tfn abi.TextOff }
def ty378 : TyRow := ⟨.struct [(0, 359), (1, 360), (2, 377), (3, 377)], 4, 16, [.lit .i32 0, .lit .i32 0, .lit .i32 0, .lit .i32 0], false, false, [], false⟩
theorem ty378_met : ty378.met Tryz.prog 378 := ⟨⟨Tryz.prog.fieldsOf 378, by kernel_rfl, by kernel_rfl⟩, ⟨(Tryz.prog.info? 378).getD default, (.agg #[(.int .i32 0), (.int .i32 0), (.int .i32 0), (.int .i32 0)]), by kernel_rfl, by kernel_rfl, by kernel_rfl, by kernel_rfl, rfl, ⟨[(.int .i32 0), (.int .i32 0), (.int .i32 0), (.int .i32 0)], relL_cellAV _ [(.int .i32 0), (.int .i32 0), (.int .i32 0), (.int .i32 0)], rfl⟩, relL_cellAV _ [(.int .i32 0), (.int .i32 0), (.int .i32 0), (.int .i32 0)]⟩, (fun h => by cases h), (fun q hq => by cases hq)⟩
-- abi.Method
def ty379 : TyRow := ⟨.struct [(0, 359), (1, 360), (2, 377), (3, 377)], 4, 16, [.lit .i32 0, .lit .i32 0, .lit .i32 0, .lit .i32 0], false, false, [], false⟩
theorem ty379_met : ty379.met Tryz.prog 379 := ⟨⟨Tryz.prog.fieldsOf 379, by kernel_rfl, by kernel_rfl⟩, ⟨(Tryz.prog.info? 379).getD default, (.agg #[(.int .i32 0), (.int .i32 0), (.int .i32 0), (.int .i32 0)]), by kernel_rfl, by kernel_rfl, by kernel_rfl, by kernel_rfl, rfl, ⟨[(.int .i32 0), (.int .i32 0), (.int .i32 0), (.int .i32 0)], relL_cellAV _ [(.int .i32 0), (.int .i32 0), (.int .i32 0), (.int .i32 0)], rfl⟩, relL_cellAV _ [(.int .i32 0), (.int .i32 0), (.int .i32 0), (.int .i32 0)]⟩, (fun h => by cases h), (fun q hq => by cases hq)⟩
-- *error
def ty380 : TyRow := ⟨.ptr 212, 1, 8, [.nilP], false, false, [], false⟩
theorem ty380_met : ty380.met Tryz.prog 380 := ⟨(show Tryz.prog.underlying 380 = some (.pointer 212) by kernel_rfl), ⟨(Tryz.prog.info? 380).getD default, (.pointer none), by kernel_rfl, by kernel_rfl, by kernel_rfl, by kernel_rfl, rfl, relL_cellAV _ [(.pointer none)], relL_cellAV _ [(.pointer none)]⟩, (fun h => by cases h), (fun q hq => by cases hq)⟩

def tyRows : List (Option TyRow) := [none, some ty1, some ty2, some ty3, some ty4, some ty5, some ty6, some ty7, some ty8, some ty9, some ty10, some ty11, some ty12, some ty13, some ty14, some ty15, some ty16, some ty17, some ty18, some ty19, some ty20, some ty21, some ty22, some ty23, some ty24, some ty25, some ty26, some ty27, none, some ty29, some ty30, none, some ty32, some ty33, some ty34, some ty35, some ty36, some ty37, some ty38, some ty39, none, some ty41, some ty42, some ty43, some ty44, some ty45, some ty46, some ty47, some ty48, some ty49, some ty50, some ty51, some ty52, some ty53, some ty54, some ty55, some ty56, some ty57, some ty58, none, some ty60, some ty61, some ty62, some ty63, some ty64, some ty65, some ty66, some ty67, some ty68, some ty69, some ty70, some ty71, some ty72, some ty73, some ty74, some ty75, some ty76, some ty77, some ty78, some ty79, some ty80, some ty81, some ty82, some ty83, some ty84, some ty85, some ty86, some ty87, some ty88, some ty89, some ty90, some ty91, some ty92, some ty93, some ty94, some ty95, some ty96, some ty97, some ty98, some ty99, some ty100, some ty101, some ty102, some ty103, some ty104, some ty105, some ty106, some ty107, some ty108, some ty109, some ty110, some ty111, some ty112, some ty113, some ty114, some ty115, some ty116, none, some ty118, some ty119, some ty120, some ty121, some ty122, some ty123, some ty124, some ty125, some ty126, some ty127, some ty128, some ty129, some ty130, some ty131, some ty132, some ty133, some ty134, none, some ty136, some ty137, some ty138, some ty139, some ty140, some ty141, some ty142, some ty143, some ty144, some ty145, some ty146, some ty147, some ty148, some ty149, some ty150, some ty151, some ty152, some ty153, some ty154, some ty155, some ty156, some ty157, some ty158, some ty159, some ty160, some ty161, some ty162, some ty163, some ty164, some ty165, some ty166, some ty167, some ty168, some ty169, some ty170, some ty171, some ty172, some ty173, some ty174, some ty175, some ty176, some ty177, some ty178, some ty179, none, some ty181, some ty182, some ty183, some ty184, some ty185, some ty186, some ty187, some ty188, some ty189, some ty190, some ty191, some ty192, some ty193, some ty194, some ty195, some ty196, some ty197, some ty198, some ty199, some ty200, some ty201, some ty202, some ty203, some ty204, none, some ty206, some ty207, some ty208, some ty209, some ty210, some ty211, some ty212, some ty213, some ty214, some ty215, some ty216, some ty217, some ty218, some ty219, some ty220, none, some ty222, some ty223, some ty224, none, some ty226, some ty227, some ty228, some ty229, some ty230, some ty231, some ty232, some ty233, some ty234, some ty235, some ty236, some ty237, some ty238, some ty239, some ty240, some ty241, some ty242, some ty243, some ty244, none, some ty246, some ty247, some ty248, some ty249, some ty250, some ty251, none, some ty253, some ty254, some ty255, some ty256, some ty257, some ty258, some ty259, none, some ty261, some ty262, some ty263, some ty264, some ty265, some ty266, some ty267, some ty268, some ty269, some ty270, some ty271, some ty272, none, some ty274, some ty275, some ty276, some ty277, some ty278, some ty279, some ty280, some ty281, some ty282, some ty283, none, some ty285, some ty286, some ty287, some ty288, some ty289, some ty290, some ty291, some ty292, some ty293, some ty294, some ty295, some ty296, none, some ty298, none, some ty300, some ty301, some ty302, some ty303, some ty304, none, some ty306, some ty307, some ty308, some ty309, some ty310, some ty311, some ty312, some ty313, some ty314, some ty315, some ty316, some ty317, some ty318, some ty319, some ty320, some ty321, some ty322, none, some ty324, some ty325, some ty326, none, some ty328, some ty329, some ty330, none, some ty332, some ty333, some ty334, some ty335, some ty336, some ty337, some ty338, some ty339, some ty340, none, some ty342, some ty343, some ty344, some ty345, some ty346, some ty347, some ty348, some ty349, some ty350, some ty351, some ty352, some ty353, some ty354, some ty355, some ty356, some ty357, some ty358, some ty359, some ty360, some ty361, some ty362, some ty363, some ty364, some ty365, some ty366, some ty367, some ty368, some ty369, some ty370, some ty371, some ty372, some ty373, some ty374, some ty375, some ty376, some ty377, some ty378, some ty379, some ty380]
def tab : Tab := fun t => (tyRows[t]?).join
set_option maxRecDepth 100000 in
theorem tyRows_met : RowsMet Tryz.prog 0 tyRows := ⟨ty1_met, ty2_met, ty3_met, ty4_met, ty5_met, ty6_met, ty7_met, ty8_met, ty9_met, ty10_met, ty11_met, ty12_met, ty13_met, ty14_met, ty15_met, ty16_met, ty17_met, ty18_met, ty19_met, ty20_met, ty21_met, ty22_met, ty23_met, ty24_met, ty25_met, ty26_met, ty27_met, ty29_met, ty30_met, ty32_met, ty33_met, ty34_met, ty35_met, ty36_met, ty37_met, ty38_met, ty39_met, ty41_met, ty42_met, ty43_met, ty44_met, ty45_met, ty46_met, ty47_met, ty48_met, ty49_met, ty50_met, ty51_met, ty52_met, ty53_met, ty54_met, ty55_met, ty56_met, ty57_met, ty58_met, ty60_met, ty61_met, ty62_met, ty63_met, ty64_met, ty65_met, ty66_met, ty67_met, ty68_met, ty69_met, ty70_met, ty71_met, ty72_met, ty73_met, ty74_met, ty75_met, ty76_met, ty77_met, ty78_met, ty79_met, ty80_met, ty81_met, ty82_met, ty83_met, ty84_met, ty85_met, ty86_met, ty87_met, ty88_met, ty89_met, ty90_met, ty91_met, ty92_met, ty93_met, ty94_met, ty95_met, ty96_met, ty97_met, ty98_met, ty99_met, ty100_met, ty101_met, ty102_met, ty103_met, ty104_met, ty105_met, ty106_met, ty107_met, ty108_met, ty109_met, ty110_met, ty111_met, ty112_met, ty113_met, ty114_met, ty115_met, ty116_met, ty118_met, ty119_met, ty120_met, ty121_met, ty122_met, ty123_met, ty124_met, ty125_met, ty126_met, ty127_met, ty128_met, ty129_met, ty130_met, ty131_met, ty132_met, ty133_met, ty134_met, ty136_met, ty137_met, ty138_met, ty139_met, ty140_met, ty141_met, ty142_met, ty143_met, ty144_met, ty145_met, ty146_met, ty147_met, ty148_met, ty149_met, ty150_met, ty151_met, ty152_met, ty153_met, ty154_met, ty155_met, ty156_met, ty157_met, ty158_met, ty159_met, ty160_met, ty161_met, ty162_met, ty163_met, ty164_met, ty165_met, ty166_met, ty167_met, ty168_met, ty169_met, ty170_met, ty171_met, ty172_met, ty173_met, ty174_met, ty175_met, ty176_met, ty177_met, ty178_met, ty179_met, ty181_met, ty182_met, ty183_met, ty184_met, ty185_met, ty186_met, ty187_met, ty188_met, ty189_met, ty190_met, ty191_met, ty192_met, ty193_met, ty194_met, ty195_met, ty196_met, ty197_met, ty198_met, ty199_met, ty200_met, ty201_met, ty202_met, ty203_met, ty204_met, ty206_met, ty207_met, ty208_met, ty209_met, ty210_met, ty211_met, ty212_met, ty213_met, ty214_met, ty215_met, ty216_met, ty217_met, ty218_met, ty219_met, ty220_met, ty222_met, ty223_met, ty224_met, ty226_met, ty227_met, ty228_met, ty229_met, ty230_met, ty231_met, ty232_met, ty233_met, ty234_met, ty235_met, ty236_met, ty237_met, ty238_met, ty239_met, ty240_met, ty241_met, ty242_met, ty243_met, ty244_met, ty246_met, ty247_met, ty248_met, ty249_met, ty250_met, ty251_met, ty253_met, ty254_met, ty255_met, ty256_met, ty257_met, ty258_met, ty259_met, ty261_met, ty262_met, ty263_met, ty264_met, ty265_met, ty266_met, ty267_met, ty268_met, ty269_met, ty270_met, ty271_met, ty272_met, ty274_met, ty275_met, ty276_met, ty277_met, ty278_met, ty279_met, ty280_met, ty281_met, ty282_met, ty283_met, ty285_met, ty286_met, ty287_met, ty288_met, ty289_met, ty290_met, ty291_met, ty292_met, ty293_met, ty294_met, ty295_met, ty296_met, ty298_met, ty300_met, ty301_met, ty302_met, ty303_met, ty304_met, ty306_met, ty307_met, ty308_met, ty309_met, ty310_met, ty311_met, ty312_met, ty313_met, ty314_met, ty315_met, ty316_met, ty317_met, ty318_met, ty319_met, ty320_met, ty321_met, ty322_met, ty324_met, ty325_met, ty326_met, ty328_met, ty329_met, ty330_met, ty332_met, ty333_met, ty334_met, ty335_met, ty336_met, ty337_met, ty338_met, ty339_met, ty340_met, ty342_met, ty343_met, ty344_met, ty345_met, ty346_met, ty347_met, ty348_met, ty349_met, ty350_met, ty351_met, ty352_met, ty353_met, ty354_met, ty355_met, ty356_met, ty357_met, ty358_met, ty359_met, ty360_met, ty361_met, ty362_met, ty363_met, ty364_met, ty365_met, ty366_met, ty367_met, ty368_met, ty369_met, ty370_met, ty371_met, ty372_met, ty373_met, ty374_met, ty375_met, ty376_met, ty377_met, ty378_met, ty379_met, ty380_met, trivial⟩
set_option maxRecDepth 100000 in
theorem tab_met : tab.met Tryz.prog := fun t R h => by simpa using rowsMet_get tyRows 0 t R tyRows_met h
end Sx
end Go.Proofs.YtnegocgblmdihaaGreatDoor

/-
  The records of this seat, and how they lie in cells.
-/
namespace Go.Proofs.YtnegocgblmdihaaGreatDoor
namespace Sx
open Go

def decI (x : AV) : Option Int := match x.num with | some (.i64, n, _) => some n | _ => none
def decB (x : AV) : Option Bool := match x.bl with | some (b, _) => some b | none => none
theorem decI_ok {x : AV} {n : Int} (h : decI x = some n) {r : Nm} {v : Value} (e : rel r x v) : rel r (.int .i64 n) v := by
  unfold decI at h
  split at h
  · rename_i m l hx; cases h; exact rel_num hx e
  · cases h
theorem decB_ok {x : AV} {b : Bool} (h : decB x = some b) {r : Nm} {v : Value} (e : rel r x v) : rel r (.bool b) v := by
  unfold decB at h
  split at h
  · rename_i m l hx; cases h; exact rel_bl hx e
  · cases h
def intDec : List AV → Option Int
  | [x] => decI x
  | _ => none
theorem intBack (cs : List AV) (a : Int) (h : intDec cs = some a) (r : Nm) (vs : List Value) (hr : relL r cs vs) : relL r [.int .i64 a] vs := by
  unfold intDec at h
  split at h
  · simp only [relL] at hr; obtain ⟨v, us, rfl, h1, rfl⟩ := hr; exact relL_cons.2 ⟨decI_ok h h1, relL_nil⟩
  · cases h
def intLay : Enc Int := ⟨1, false, fun n => [.int .i64 n], intDec, 0, fun _ => rfl, intBack, fun a r vs h => relL_one (xs := [.int .i64 a]) rfl h, by decide⟩
def ptrDec : List AV → Option (Option (Nat × Nat))
  | [.rp o] => some o
  | [.nilP] => some none
  | _ => none
theorem ptrBack (cs : List AV) (a : Option (Nat × Nat)) (h : ptrDec cs = some a) (r : Nm) (vs : List Value) (hr : relL r cs vs) : relL r [.rp a] vs := by
  unfold ptrDec at h
  split at h
  · cases h; exact hr
  · cases h; simp only [relL] at hr; obtain ⟨v, us, rfl, h1, rfl⟩ := hr; exact relL_cons.2 ⟨h1, relL_nil⟩
  · cases h
def ptrLay : Enc (Option (Nat × Nat)) := ⟨1, false, fun n => [.rp n], ptrDec, none, fun _ => rfl, ptrBack, fun a r vs h => relL_one (xs := [.rp a]) rfl h, by decide⟩
def boolDec : List AV → Option Bool
  | [x] => decB x
  | _ => none
theorem boolBack (cs : List AV) (a : Bool) (h : boolDec cs = some a) (r : Nm) (vs : List Value) (hr : relL r cs vs) : relL r [.bool a] vs := by
  unfold boolDec at h
  split at h
  · simp only [relL] at hr; obtain ⟨v, us, rfl, h1, rfl⟩ := hr; exact relL_cons.2 ⟨decB_ok h h1, relL_nil⟩
  · cases h
def boolLay : Enc Bool := ⟨1, false, fun n => [.bool n], boolDec, false, fun _ => rfl, boolBack, fun a r vs h => relL_one (xs := [.bool a]) rfl h, by decide⟩

def decU (x : AV) : Option Int := match x.num with | some (.u8, n, _) => some n | _ => none
theorem decU_ok {x : AV} {n : Int} (h : decU x = some n) {r : Nm} {v : Value} (e : rel r x v) : rel r (.int .u8 n) v := by
  unfold decU at h
  split at h
  · rename_i m l hx; cases h; exact rel_num hx e
  · cases h
def byteDec : List AV → Option Int
  | [x] => decU x
  | _ => none
theorem byteBack (cs : List AV) (a : Int) (h : byteDec cs = some a) (r : Nm) (vs : List Value) (hr : relL r cs vs) : relL r [.int .u8 a] vs := by
  unfold byteDec at h
  split at h
  · simp only [relL] at hr; obtain ⟨v, us, rfl, h1, rfl⟩ := hr; exact relL_cons.2 ⟨decU_ok h h1, relL_nil⟩
  · cases h
def byteLay : Enc Int := ⟨1, false, fun n => [.int .u8 n], byteDec, 0, fun _ => rfl, byteBack, fun a r vs h => relL_one (xs := [.int .u8 a]) rfl h, by decide⟩
structure Opr where
  act : Int
  key : Int
  value : Int
  weight : Int
  deriving DecidableEq
def Opr.enc (a : Opr) : List AV := [.int .i64 a.act, .int .i64 a.key, .int .i64 a.value, .int .i64 a.weight]
def Opr.dec : List AV → Option Opr
  | [x0, x1, x2, x3] => (decI x0).bind fun n0 => (decI x1).bind fun n1 => (decI x2).bind fun n2 => (decI x3).bind fun n3 => some (⟨n0, n1, n2, n3⟩ : Opr)
  | _ => none
theorem Opr.back (cs : List AV) (a : Opr) (h : Opr.dec cs = some a) (r : Nm) (vs : List Value) (hr : relL r cs vs) : relL r (Opr.enc a) vs := by
  unfold Opr.dec at h
  split at h
  · simp only [relL] at hr
    obtain ⟨v0, u0, rfl, h0, ⟨v1, u1, rfl, h1, ⟨v2, u2, rfl, h2, ⟨v3, u3, rfl, h3, rfl⟩⟩⟩⟩ := hr
    obtain ⟨n0, e0, h⟩ := Option.bind_eq_some_iff.1 h
    obtain ⟨n1, e1, h⟩ := Option.bind_eq_some_iff.1 h
    obtain ⟨n2, e2, h⟩ := Option.bind_eq_some_iff.1 h
    obtain ⟨n3, e3, h⟩ := Option.bind_eq_some_iff.1 h
    cases h
    simp only [Opr.enc]
    exact relL_cons.2 ⟨decI_ok e0 h0, relL_cons.2 ⟨decI_ok e1 h1, relL_cons.2 ⟨decI_ok e2 h2, relL_cons.2 ⟨decI_ok e3 h3, relL_nil⟩⟩⟩⟩
  · cases h
def Opr.lay : Enc Opr := ⟨4, true, Opr.enc, Opr.dec, ⟨0, 0, 0, 0⟩, fun _ => rfl, Opr.back, fun a r vs h => relL_one (xs := Opr.enc a) rfl h, by decide⟩
end Sx
end Go.Proofs.YtnegocgblmdihaaGreatDoor

/-
  Scripts as bytes, in plain Lean: what bytes tell, the bytes of what is told, and that one undoes the other.
-/
namespace Go.Proofs.YtnegocgblmdihaaGreatDoor
namespace Sx
open Go
set_option linter.unusedSimpArgs false
set_option linter.unusedVariables false

structure Conf where
  c0 : Int
  c1 : Int
  c2 : Int
  c3 : Int
  c4 : Int
  c5 : Int
  deriving DecidableEq
def isB (x : Int) : Bool := decide (0 ≤ x) && decide (x ≤ 255)
def Bytes (l : List Int) : Prop := ∀ x ∈ l, 0 ≤ x ∧ x ≤ 255

/-! ## reading -/
def bAt (bs : List Int) (k : Nat) : Int := bs.getD k 0
theorem bAt_in {bs : List Int} (h : Bytes bs) (k : Nat) : 0 ≤ bAt bs k ∧ bAt bs k ≤ 255 := by
  unfold bAt
  rw [List.getD_eq_getElem?_getD]
  cases e : bs[k]? with
  | none => simp
  | some x => exact h x (List.mem_of_getElem? e)
def opAt (bs : List Int) (k : Nat) : Opr := ⟨bAt bs k % 5, bAt bs (k + 1), bAt bs (k + 2), bAt bs (k + 3)⟩
def opsAt (bs : List Int) (k n : Nat) : List Opr := (List.range n).map fun j => opAt bs (k + 4 * j)
def lenAt (bs : List Int) (k : Nat) : Nat := (bAt bs k % 33).toNat
/-- Where the row of so many begins. -/
def posP (bs : List Int) : Nat → Nat
  | 0 => 7
  | i + 1 => posP bs i + 1 + 4 * lenAt bs (posP bs i)
def rowAtP (bs : List Int) (i : Nat) : List Opr := opsAt bs (posP bs i + 1) (lenAt bs (posP bs i))
def rowsTo (bs : List Int) (n : Nat) : List (List Opr) := (List.range n).map (rowAtP bs)
def nP (bs : List Int) : Nat := (bAt bs 6 % 9).toNat
def confOf (bs : List Int) : Conf := ⟨bAt bs 0, bAt bs 1, bAt bs 2, bAt bs 3, bAt bs 4, bAt bs 5⟩
def rowsOf (bs : List Int) : List (List Opr) := rowsTo bs (nP bs)
def picksOf (bs : List Int) : List Int := bs.drop (posP bs (nP bs))

theorem opsAt_length (bs : List Int) (k n : Nat) : (opsAt bs k n).length = n := by simp [opsAt]
theorem opsAt_succ (bs : List Int) (k n : Nat) : opsAt bs k (n + 1) = opsAt bs k n ++ [opAt bs (k + 4 * n)] := by
  unfold opsAt; rw [List.range_succ, List.map_append]; rfl
theorem rowsTo_length (bs : List Int) (n : Nat) : (rowsTo bs n).length = n := by simp [rowsTo]
theorem rowsTo_succ (bs : List Int) (n : Nat) : rowsTo bs (n + 1) = rowsTo bs n ++ [rowAtP bs n] := by
  unfold rowsTo; rw [List.range_succ, List.map_append]; rfl

/-! ## writing -/
def encO (o : Opr) : List Int := [o.act, o.key, o.value, o.weight]
def encRow (r : List Opr) : List Int := (r.length : Int) :: r.flatMap encO
def encRows (rs : List (List Opr)) : List Int := rs.flatMap encRow
def encC (c : Conf) : List Int := [c.c0, c.c1, c.c2, c.c3, c.c4, c.c5]
def encAll (c : Conf) (rs : List (List Opr)) (l : List Int) : List Int := encC c ++ (rs.length : Int) :: (encRows rs ++ l)
def okO (o : Opr) : Bool := decide (0 ≤ o.act) && decide (o.act ≤ 4) && isB o.key && isB o.value && isB o.weight
def okRow (r : List Opr) : Bool := decide (r.length ≤ 32) && r.all okO
def okC (c : Conf) : Bool := isB c.c0 && isB c.c1 && isB c.c2 && isB c.c3 && isB c.c4 && isB c.c5
def okAll (c : Conf) (rs : List (List Opr)) (l : List Int) : Bool := okC c && decide (rs.length ≤ 8) && rs.all okRow && l.all isB

theorem isB_iff {x : Int} : isB x = true ↔ 0 ≤ x ∧ x ≤ 255 := by simp [isB]
theorem okO_iff {o : Opr} : okO o = true ↔ (0 ≤ o.act ∧ o.act ≤ 4) ∧ (0 ≤ o.key ∧ o.key ≤ 255) ∧ (0 ≤ o.value ∧ o.value ≤ 255) ∧ 0 ≤ o.weight ∧ o.weight ≤ 255 := by
  simp only [okO, Bool.and_eq_true, isB_iff, decide_eq_true_eq]; simp only [and_assoc]
theorem okC_iff {c : Conf} : okC c = true ↔ ∀ x ∈ encC c, 0 ≤ x ∧ x ≤ 255 := by
  simp only [okC, Bool.and_eq_true, isB_iff, encC, List.mem_cons, List.not_mem_nil, or_false, forall_eq_or_imp, forall_eq]; simp only [and_assoc]

/-! ## what is written is read -/
theorem bAt_app {a b : List Int} {bs : List Int} {k : Nat} (h : bs.drop k = a ++ b) {j : Nat} (hj : j < a.length) : bAt bs (k + j) = a.getD j 0 := by
  have : bs[k + j]? = (bs.drop k)[j]? := by rw [List.getElem?_drop]
  unfold bAt
  rw [List.getD_eq_getElem?_getD, List.getD_eq_getElem?_getD, this, h, List.getElem?_append_left hj]
theorem drop_app {a b : List Int} {bs : List Int} {k : Nat} (h : bs.drop k = a ++ b) : bs.drop (k + a.length) = b := by
  rw [← List.drop_drop, h, List.drop_left]
theorem flat_length (r : List Opr) : (r.flatMap encO).length = 4 * r.length := by
  induction r with
  | nil => rfl
  | cons o r ih => rw [List.flatMap_cons, List.length_append, ih]; simp [encO]; omega
theorem ops_back : ∀ (r : List Opr) {bs : List Int} {k : Nat} {b : List Int}, (∀ o ∈ r, okO o = true) → bs.drop k = r.flatMap encO ++ b → opsAt bs k r.length = r
  | [], bs, k, b, _, _ => rfl
  | o :: r, bs, k, b, h, e => by
    rw [List.flatMap_cons, List.append_assoc] at e
    have ih := ops_back r (fun x hx => h x (List.mem_cons_of_mem _ hx)) (drop_app e)
    have ho := okO_iff.1 (h o (List.mem_cons_self ..))
    have hd : opAt bs k = o := by
      have e0 := bAt_app e (j := 0) (by simp [encO])
      have e1 := bAt_app e (j := 1) (by simp [encO])
      have e2 := bAt_app e (j := 2) (by simp [encO])
      have e3 := bAt_app e (j := 3) (by simp [encO])
      simp only [encO, List.getD_cons_zero, List.getD_cons_succ, Nat.add_zero] at e0 e1 e2 e3
      unfold opAt
      rw [e0, e1, e2, e3, Int.emod_eq_of_lt (by omega) (by omega)]
    have hs : opsAt bs k (r.length + 1) = opAt bs k :: opsAt bs (k + 4) r.length := by
      unfold opsAt
      rw [List.range_succ_eq_map, List.map_cons, List.map_map, Nat.mul_zero, Nat.add_zero]
      congr 1
      refine List.map_congr_left fun j _ => ?_
      show opAt bs (k + 4 * (j + 1)) = opAt bs (k + 4 + 4 * j)
      congr 1; omega
    rw [List.length_cons, hs, hd]
    congr 1
theorem rows_back : ∀ (i : Nat) {rs : List (List Opr)} {bs : List Int} {b : List Int}, (∀ r ∈ rs, okRow r = true) → bs.drop 7 = encRows rs ++ b → i ≤ rs.length → bs.drop (posP bs i) = encRows (rs.drop i) ++ b ∧ rowsTo bs i = rs.take i
  | 0, rs, bs, b, _, e, _ => ⟨e, rfl⟩
  | i + 1, rs, bs, b, h, e, hi => by
    obtain ⟨h1, h2⟩ := rows_back i h e (by omega)
    have hlt : i < rs.length := hi
    rw [List.drop_eq_getElem_cons hlt] at h1
    unfold encRows at h1
    rw [List.flatMap_cons, List.append_assoc] at h1
    have hok := h rs[i] (List.getElem_mem hlt)
    simp only [okRow, Bool.and_eq_true, decide_eq_true_eq, List.all_eq_true] at hok
    have hl : lenAt bs (posP bs i) = (rs[i]).length := by
      have e0 := bAt_app h1 (j := 0) (by simp [encRow])
      unfold lenAt
      rw [Nat.add_zero] at e0
      rw [e0, show (encRow rs[i]).getD 0 0 = ((rs[i]).length : Int) from rfl]
      omega
    have hn : bs.drop (posP bs i + 1) = (rs[i]).flatMap encO ++ (encRows (rs.drop (i + 1)) ++ b) := by
      rw [← List.drop_drop, h1]; rfl
    have hrow : rowAtP bs i = rs[i] := by unfold rowAtP; rw [hl]; exact ops_back _ hok.2 hn
    refine ⟨?_, ?_⟩
    · show bs.drop (posP bs i + 1 + 4 * lenAt bs (posP bs i)) = _
      rw [hl, ← flat_length]; exact drop_app hn
    · rw [rowsTo_succ, h2, hrow, List.take_succ_eq_append_getElem hlt]
theorem dec_enc {c : Conf} {rs : List (List Opr)} {l : List Int} (h : okAll c rs l = true) : confOf (encAll c rs l) = c ∧ rowsOf (encAll c rs l) = rs ∧ picksOf (encAll c rs l) = l := by
  simp only [okAll, Bool.and_eq_true, decide_eq_true_eq, List.all_eq_true] at h
  obtain ⟨⟨⟨h1, h2⟩, h3⟩, h4⟩ := h
  have hn : nP (encAll c rs l) = rs.length := by
    show ((rs.length : Int) % 9).toNat = rs.length
    omega
  have hd : (encAll c rs l).drop 7 = encRows rs ++ l := rfl
  obtain ⟨g1, g2⟩ := rows_back rs.length (fun r hr => h3 r hr) hd (Nat.le_refl _)
  refine ⟨rfl, ?_, ?_⟩
  · unfold rowsOf; rw [hn, g2, List.take_length]
  · unfold picksOf; rw [hn, g1, List.drop_length]; rfl

/-! ## what is read can be written -/
theorem enc_bytes {c : Conf} {rs : List (List Opr)} {l : List Int} (h : okAll c rs l = true) : Bytes (encAll c rs l) := by
  simp only [okAll, Bool.and_eq_true, decide_eq_true_eq, List.all_eq_true] at h
  obtain ⟨⟨⟨h1, h2⟩, h3⟩, h4⟩ := h
  intro x hx
  simp only [encAll, List.mem_append, List.mem_cons] at hx
  rcases hx with hx | rfl | hx | hx
  · exact okC_iff.1 h1 x hx
  · omega
  · unfold encRows at hx
    obtain ⟨r, hr, hx⟩ := List.mem_flatMap.1 hx
    have hok := h3 r hr
    simp only [okRow, Bool.and_eq_true, decide_eq_true_eq, List.all_eq_true] at hok
    rcases List.mem_cons.1 hx with rfl | hx
    · omega
    · obtain ⟨o, ho, hx⟩ := List.mem_flatMap.1 hx
      have := okO_iff.1 (hok.2 o ho)
      simp only [encO, List.mem_cons, List.not_mem_nil, or_false] at hx
      rcases hx with rfl | rfl | rfl | rfl <;> omega
  · exact isB_iff.1 (h4 x hx)
end Sx
end Go.Proofs.YtnegocgblmdihaaGreatDoor

/-
  The kinds of elements of this seat; a writer of bytes as an object.
-/
namespace Go.Proofs.YtnegocgblmdihaaGreatDoor
namespace Sx
open Go

inductive Kd where
  | int | byte
  deriving DecidableEq
@[reducible] def kEl : Kd → Type
  | .int => Int
  | .byte => Int
@[reducible] def kEnc : (k : Kd) → Enc (kEl k)
  | .int => intLay
  | .byte => byteLay
abbrev V0 : Uni := ⟨Kd, inferInstance, kEl, kEnc, Empty, fun x => x.elim⟩
instance plainV0 : Plain V0 := ⟨fun k a f => by cases k <;> rfl⟩
instance bareV0 : Bare V0 := ⟨fun k a => by cases k <;> rfl⟩
theorem laid_V0 : Laid V0 (fun x => Empty.elim x) := fun x => Empty.elim x

/-- A writer: what is written, and whether a number was none. -/
structure Wr where
  out : List Int
  bad : Bool
def wBlk (s : Wr) (sp : Nat) : Heap V0 :=
  [(0, .cells 55 [.sl false 1 0 1 s.out.length (s.out.length + sp), .bool s.bad]), (1, .arr 5 Kd.byte s.out sp)]
def tmW : Wr → Heap V0 → Nat → Prop := fun s hp n => n = 2 ∧ ∃ sp, hp = wBlk s sp
abbrev V : Uni := V0.plus Wr tmW
instance plainV : Plain V := @plainPlus V0 Wr tmW plainV0
instance bareV : Bare V := @barePlus V0 Wr tmW bareV0
def tmV : Tm V := tmUp (U := V0) (fun x => Empty.elim x) tmW
theorem laid_V : Laid V tmV := laid_plus laid_V0
def wUp (s : Wr) (sp : Nat) : Heap V := Heap.up (wBlk s sp)

def kinds : Kinds V := fun t => match t with
  | 3 => some .int
  | 5 => some .byte
  | _ => none
theorem kinds_met : kinds.met tab := by
  intro e k h
  unfold kinds at h
  split at h <;> cases h
  · exact ⟨ty3, rfl, rfl, rfl, by decide, fun r vs h => h⟩
  · exact ⟨ty5, rfl, rfl, rfl, by decide, fun r vs h => h⟩
theorem mixed_met : Tryz.prog.follows .mixedOrders = true := by kernel_rfl
/-- Rows of operations, and rows of these, are made in a pool. -/
def tabP : Tab := fun t => match t with
  | 47 => some { ty47 with pool := true }
  | t => tab t
theorem tabP_met : tabP.met Tryz.prog := by
  intro t R h
  unfold tabP at h
  split at h
  · cases h; exact ⟨ty47_met.kind, ty47_met.info, ty47_met.cmp, ty47_met.meths⟩
  · exact tab_met t R h
theorem kindsP_met : kinds.met tabP := by
  intro e k h
  unfold kinds at h
  split at h <;> cases h
  · exact ⟨ty3, rfl, rfl, rfl, by decide, fun r vs h => h⟩
  · exact ⟨ty5, rfl, rfl, rfl, by decide, fun r vs h => h⟩
end Sx
end Go.Proofs.YtnegocgblmdihaaGreatDoor

/-
  Readers of bytes, and what a byte is: the runs of the machine.
-/
namespace Go.Proofs.YtnegocgblmdihaaGreatDoor
namespace Sx
open Go
set_option maxRecDepth 100000
set_option linter.unusedVariables false

noncomputable def cfg0 : Cfg Tryz.prog V := ⟨tab, kinds, fun _ => none, fun _ => none, fun _ _ => none⟩
theorem t16 (xs : List Int) (T st len cap : Nat) : runF cfg0 60 16 Tryz.f16 [.ptr 0 0] [(0, .cells T [.sl false 1 st 1 len cap]), (1, .ro Kd.byte xs)] 2 = Out.ite ((↑len : Int) == (0 : Int)) (Out.fin (.lit .i64 (0 : Int)) [((0 : Nat), .cells T [.sl false (1 : Nat) st (1 : Nat) len cap]), ((1 : Nat), .ro Kd.byte xs)] (2 : Nat)) (Out.needd ((0 : Int) ≤ (0 : Int) ∧ (0 : Int) < (↑len : Int)) (Out.needd (st < xs.length) (Out.needd ((0 : Int) ≤ (1 : Int) ∧ (1 : Int) ≤ (↑len : Int)) (Out.fin (.int .i64 (IntKind.i64.wrap (xs.getD st (V.enc Kd.byte).dflt))) [((0 : Nat), .cells T [.sl false (1 : Nat) (st + (1 : Nat)) (1 : Nat) (len - (1 : Nat)) (cap - (1 : Nat))]), ((1 : Nat), .ro Kd.byte xs)] (3 : Nat))))) := by kernel_rfl

theorem t17 (xs : List Int) (T len cap : Nat) (a : Int) : runF cfg0 60 17 Tryz.f17 [.ptr 0 0] [(0, .cells T [.sl false 1 0 1 len cap, .int .i64 a]), (1, .ro Kd.byte xs)] 2 = Out.ite (decide (a ≥ (↑len : Int))) (Out.fin (.lit .i64 (0 : Int)) [((0 : Nat), .cells T [.sl false (1 : Nat) (0 : Nat) (1 : Nat) len cap, .int .i64 a]), ((1 : Nat), .ro Kd.byte xs)] (2 : Nat)) (Out.needd ((0 : Int) ≤ IntKind.i64.wrap (IntKind.i64.wrap (a + (1 : Int)) - (1 : Int)) ∧ IntKind.i64.wrap (IntKind.i64.wrap (a + (1 : Int)) - (1 : Int)) < (↑len : Int)) (Out.needd ((0 : Nat) + (IntKind.i64.wrap (IntKind.i64.wrap (a + (1 : Int)) - (1 : Int))).toNat < xs.length) (Out.fin (.int .i64 (IntKind.i64.wrap (xs.getD ((0 : Nat) + (IntKind.i64.wrap (IntKind.i64.wrap (a + (1 : Int)) - (1 : Int))).toNat) (V.enc Kd.byte).dflt))) [((0 : Nat), .cells T [.sl false (1 : Nat) (0 : Nat) (1 : Nat) len cap, .int .i64 (IntKind.i64.wrap (a + (1 : Int)))]), ((1 : Nat), .ro Kd.byte xs)] (3 : Nat)))) := by kernel_rfl

theorem t17l (xs : List Int) (T len cap : Nat) : runF cfg0 60 17 Tryz.f17 [.ptr 0 0] [(0, .cells T [.sl false 1 0 1 len cap, .lit .i64 0]), (1, .ro Kd.byte xs)] 2 = Out.ite (decide ((0 : Int) ≥ (↑len : Int))) (Out.fin (.lit .i64 (0 : Int)) [((0 : Nat), .cells T [.sl false (1 : Nat) (0 : Nat) (1 : Nat) len cap, .lit .i64 (0 : Int)]), ((1 : Nat), .ro Kd.byte xs)] (2 : Nat)) (Out.needd ((0 : Int) ≤ (0 : Int) ∧ (0 : Int) < (↑len : Int)) (Out.needd ((0 : Nat) < xs.length) (Out.fin (.int .i64 (IntKind.i64.wrap (xs.getD (0 : Nat) (V.enc Kd.byte).dflt))) [((0 : Nat), .cells T [.sl false (1 : Nat) (0 : Nat) (1 : Nat) len cap, .lit .i64 (1 : Int)]), ((1 : Nat), .ro Kd.byte xs)] (3 : Nat)))) := by kernel_rfl

theorem t19 (n : Int) : runF cfg0 60 19 Tryz.f19 [.int .i64 n] [] 1 = Out.ite (decide (n ≥ (0 : Int))) (Out.fin (.bool (decide (n ≤ (255 : Int)))) [] (1 : Nat)) (Out.fin .ff [] (1 : Nat)) := by kernel_rfl

end Sx
end Go.Proofs.YtnegocgblmdihaaGreatDoor

/-
  Bytes written: the run of a round.
-/
namespace Go.Proofs.YtnegocgblmdihaaGreatDoor
namespace Sx
open Go
set_option maxRecDepth 100000
set_option linter.unusedVariables false

def u8 (n : Int) : Int := IntKind.wrap .u8 n
def isOut (most n : Int) : Bool := decide (n < 0) || decide (n > most)
structure PwP where
  s : Wr
  most : Int
  l : List Int
  c : Nat
  sp : Nat
  hb : s.out.length + l.length ≤ 1073741824
def pwOut (p : PwP) (i : Nat) : List Int := p.s.out ++ (p.l.take i).map u8
def pwBad (p : PwP) (i : Nat) : Bool := p.s.bad || (p.l.take i).any (isOut p.most)
abbrev TW : List Nat := [0, 1, 2, 3, 4, 5, 6, 7, 8, 9, 10]
def PwI (p : PwP) (x : Nat × Nat) : St V := ⟨[(10, .int .i64 (x.1 : Int)), (9, .int .i64 (p.l.length : Int)), (8, .sl false 3 0 1 p.l.length p.c), (0, .ptr 0 0), (1, .int .i64 p.most)], [(0, .cells 55 [.sl false 4 0 1 (pwOut p x.1).length ((pwOut p x.1).length + x.2), .bool (pwBad p x.1)]), (4, .arr 5 Kd.byte (pwOut p x.1) x.2), (3, .ro Kd.int p.l)], 5, 42, TW⟩
def PwZ (p : PwP) : St V := PwI p (0, p.sp)
def PwE (p : PwP) (sp : Nat) : St V := PwI p (p.l.length, sp)
def PwC (_ : PwP) (_ : Nat) : Prop := True
def PwL : LoopS V := trimLoop (trimSt [0, 1, 8, 9, 10] [0, 1, 3]) (loopH 4 PwZ PwC PwE)
noncomputable def cfgW1 : Cfg Tryz.prog V := ⟨tab, kinds, fun _ => none, fun _ => none, fun f id => match f, id with | 18, 0 => some PwL | _, _ => none⟩
theorem b18 (p : PwP) (i sp : Nat) : runCode cfg0 60 18 (loopOf Tryz.f18 0) (PwI p (i, sp)) (stopT (trimSt [0, 1, 8, 9, 10] [0, 3, 4, 5, 6, 7])) = Out.ite (decide ((↑i : Int) < (↑p.l.length : Int))) (Out.needd ((0 : Int) ≤ (↑i : Int) ∧ (↑i : Int) < (↑p.l.length : Int)) (Out.needd ((0 : Nat) + i < p.l.length) (Out.ite (pwBad p i) (Out.same ((pwOut p i).length + sp) ((pwOut p i).length + sp) (Out.needd ((0 : Nat) = (0 : Nat) ∧ (pwOut p i).length = (pwOut p i).length ∧ ((pwOut p i).length + (1 : Nat)) * (1 : Nat) ≤ (140737488355328 : Nat)) (Out.all Nat fun y => Out.stop EX.nx {env := [((0 : Nat), .ptr (0 : Nat) (0 : Nat)), ((1 : Nat), .int .i64 p.most), ((8 : Nat), .sl false (3 : Nat) (0 : Nat) (1 : Nat) p.l.length p.4), ((9 : Nat), .int .i64 (↑p.l.length : Int)), ((10 : Nat), .int .i64 (IntKind.i64.wrap ((↑i : Int) + (1 : Int))))], heap := [((7 : Nat), .arr (5 : Nat) Kd.byte (pwOut p i ++ [IntKind.u8.wrap (p.l.getD ((0 : Nat) + i) (V.enc Kd.int).dflt)]) y), ((6 : Nat), .cells (5 : Nat) [.int IntKind.u8 (IntKind.u8.wrap (p.l.getD ((0 : Nat) + i) (V.enc Kd.int).dflt))]), ((0 : Nat), .cells (55 : Nat) [.sl false (7 : Nat) (0 : Nat) (1 : Nat) ((pwOut p i).length + (1 : Nat)) ((pwOut p i).length + (1 : Nat) + y), .tt]), ((3 : Nat), .ro Kd.int p.l)], nx := (9 : Nat), nt := (42 : Nat), tl := [(0 : Nat), (4 : Nat), (0 : Nat), (0 : Nat), (1 : Nat), (2 : Nat), (3 : Nat), (4 : Nat), (5 : Nat), (6 : Nat), (7 : Nat), (8 : Nat), (9 : Nat), (10 : Nat)] : St V }))) (Out.ite (decide (p.l.getD ((0 : Nat) + i) (V.enc Kd.int).dflt < (0 : Int))) (Out.same ((pwOut p i).length + sp) ((pwOut p i).length + sp) (Out.needd ((0 : Nat) = (0 : Nat) ∧ (pwOut p i).length = (pwOut p i).length ∧ ((pwOut p i).length + (1 : Nat)) * (1 : Nat) ≤ (140737488355328 : Nat)) (Out.all Nat fun y => Out.stop EX.nx {env := [((0 : Nat), .ptr (0 : Nat) (0 : Nat)), ((1 : Nat), .int .i64 p.most), ((8 : Nat), .sl false (3 : Nat) (0 : Nat) (1 : Nat) p.l.length p.4), ((9 : Nat), .int .i64 (↑p.l.length : Int)), ((10 : Nat), .int .i64 (IntKind.i64.wrap ((↑i : Int) + (1 : Int))))], heap := [((7 : Nat), .arr (5 : Nat) Kd.byte (pwOut p i ++ [IntKind.u8.wrap (p.l.getD ((0 : Nat) + i) (V.enc Kd.int).dflt)]) y), ((6 : Nat), .cells (5 : Nat) [.int IntKind.u8 (IntKind.u8.wrap (p.l.getD ((0 : Nat) + i) (V.enc Kd.int).dflt))]), ((0 : Nat), .cells (55 : Nat) [.sl false (7 : Nat) (0 : Nat) (1 : Nat) ((pwOut p i).length + (1 : Nat)) ((pwOut p i).length + (1 : Nat) + y), .tt]), ((3 : Nat), .ro Kd.int p.l)], nx := (9 : Nat), nt := (42 : Nat), tl := [(0 : Nat), (4 : Nat), (0 : Nat), (0 : Nat), (1 : Nat), (2 : Nat), (3 : Nat), (4 : Nat), (5 : Nat), (6 : Nat), (7 : Nat), (8 : Nat), (9 : Nat), (10 : Nat)] : St V }))) (Out.same ((pwOut p i).length + sp) ((pwOut p i).length + sp) (Out.needd ((0 : Nat) = (0 : Nat) ∧ (pwOut p i).length = (pwOut p i).length ∧ ((pwOut p i).length + (1 : Nat)) * (1 : Nat) ≤ (140737488355328 : Nat)) (Out.all Nat fun y => Out.stop EX.nx {env := [((0 : Nat), .ptr (0 : Nat) (0 : Nat)), ((1 : Nat), .int .i64 p.most), ((8 : Nat), .sl false (3 : Nat) (0 : Nat) (1 : Nat) p.l.length p.4), ((9 : Nat), .int .i64 (↑p.l.length : Int)), ((10 : Nat), .int .i64 (IntKind.i64.wrap ((↑i : Int) + (1 : Int))))], heap := [((7 : Nat), .arr (5 : Nat) Kd.byte (pwOut p i ++ [IntKind.u8.wrap (p.l.getD ((0 : Nat) + i) (V.enc Kd.int).dflt)]) y), ((6 : Nat), .cells (5 : Nat) [.int IntKind.u8 (IntKind.u8.wrap (p.l.getD ((0 : Nat) + i) (V.enc Kd.int).dflt))]), ((0 : Nat), .cells (55 : Nat) [.sl false (7 : Nat) (0 : Nat) (1 : Nat) ((pwOut p i).length + (1 : Nat)) ((pwOut p i).length + (1 : Nat) + y), .bool (decide (p.l.getD ((0 : Nat) + i) (V.enc Kd.int).dflt > p.most))]), ((3 : Nat), .ro Kd.int p.l)], nx := (9 : Nat), nt := (42 : Nat), tl := [(0 : Nat), (4 : Nat), (0 : Nat), (0 : Nat), (1 : Nat), (2 : Nat), (3 : Nat), (4 : Nat), (5 : Nat), (6 : Nat), (7 : Nat), (8 : Nat), (9 : Nat), (10 : Nat)] : St V }))))))) (Out.stop (EX.ex (0 : Nat)) {env := [((0 : Nat), .ptr (0 : Nat) (0 : Nat)), ((1 : Nat), .int .i64 p.most), ((8 : Nat), .sl false (3 : Nat) (0 : Nat) (1 : Nat) p.l.length p.4), ((9 : Nat), .int .i64 (↑p.l.length : Int)), ((10 : Nat), .int .i64 (↑i : Int))], heap := [((0 : Nat), .cells (55 : Nat) [.sl false (4 : Nat) (0 : Nat) (1 : Nat) (pwOut p i).length ((pwOut p i).length + sp), .bool (pwBad p i)]), ((4 : Nat), .arr (5 : Nat) Kd.byte (pwOut p i) sp), ((3 : Nat), .ro Kd.int p.l)], nx := (5 : Nat), nt := (42 : Nat), tl := [(0 : Nat), (1 : Nat), (2 : Nat), (3 : Nat), (4 : Nat), (5 : Nat), (6 : Nat), (7 : Nat), (8 : Nat), (9 : Nat), (10 : Nat)] : St V }) := by kernel_rfl

theorem t18 (s : Wr) (sp c : Nat) (most : Int) (l : List Int) : runF cfgW1 60 18 Tryz.f18 [.ptr 0 0, .int .i64 most, .sl false 3 0 1 l.length c] [(0, .cells 55 [.sl false 1 0 1 s.out.length (s.out.length + sp), .bool s.bad]), (1, .arr 5 Kd.byte s.out sp), (3, .ro Kd.int l)] 4 = Out.need (LoopFor Tryz.prog (18 : Nat) (0 : Nat) (loopOf Tryz.f18 (0 : Nat)) PwL) (Out.ex (PwP → Prop) fun y => Out.need ((4 : Nat) ≤ (4 : Nat) ∧ SImp (4 : Nat) {env := [((0 : Nat), .ptr (0 : Nat) (0 : Nat)), ((1 : Nat), .int .i64 most), ((8 : Nat), .sl false (3 : Nat) (0 : Nat) (1 : Nat) l.length c), ((9 : Nat), .int .i64 (↑l.length : Int)), ((10 : Nat), .lit .i64 (0 : Int))], heap := [((0 : Nat), .cells (55 : Nat) [.sl false (1 : Nat) (0 : Nat) (1 : Nat) s.out.length (s.out.length + sp), .bool s.bad]), ((1 : Nat), .arr (5 : Nat) Kd.byte s.out sp), ((3 : Nat), .ro Kd.int l)], nx := (4 : Nat), nt := (42 : Nat), tl := [] : St V } PwZ y) (Out.all PwP fun y_1 => Out.asm (y y_1) (Out.all Nat fun y => Out.asm (PwC y_1 y) (Out.fin (.tup []) [((0 : Nat), .cells (55 : Nat) [.sl false (4 : Nat) (0 : Nat) (1 : Nat) (pwOut y_1 (y_1.l.length, y).fst).length ((pwOut y_1 (y_1.l.length, y).fst).length + y), .bool (pwBad y_1 (y_1.l.length, y).fst)]), ((4 : Nat), .arr (5 : Nat) Kd.byte (pwOut y_1 (y_1.l.length, y).fst) y), ((3 : Nat), .ro Kd.int y_1.l)] (5 : Nat))))) := by kernel_rfl

end Sx
end Go.Proofs.YtnegocgblmdihaaGreatDoor

/-
  Readers: the next byte; a writer: numbers written as bytes.
-/
namespace Go.Proofs.YtnegocgblmdihaaGreatDoor
namespace Sx
open Go
set_option linter.unusedSimpArgs false
set_option linter.unusedVariables false

theorem cfg0_ok : cfg0.ok := ⟨tab_met, kinds_met, mixed_met, fun g fn h => (by cases h), fun g H h => (by cases h)⟩
theorem cfgW1_ok : cfgW1.ok := ⟨tab_met, kinds_met, mixed_met, fun g fn h => (by cases h), fun g H h => (by cases h)⟩

/-! ## the next byte -/
theorem wrap_byte {x : Int} (h : 0 ≤ x ∧ x ≤ 255) : IntKind.i64.wrap x = x := wrap_low (by omega) (by omega)
def runNext : RunRd V Kd.byte := fun xs T st len cap cs K => match cs with
  | [] => .ex (Nat × Nat) fun q => .need (st = min q.1 xs.length ∧ len = xs.length - q.1 ∧ cap = q.2 - min q.1 xs.length ∧ Bytes xs)
      (K (.int .i64 (bAt xs q.1)) (min (q.1 + 1) xs.length) (xs.length - (q.1 + 1)) (q.2 - min (q.1 + 1) xs.length) [])
  | _ => .bad 600
theorem hNext : HookOk Tryz.prog 16 (hookRd (U := V) Kd.byte runNext) := by
  refine rd_hook (C := cfg0) cfg0_ok (n := 60) (fn := Tryz.f16) ⟨by kernel_rfl, by kernel_rfl⟩ (by kernel_rfl) (show 1 ≤ _ by decide +kernel) ?_
  intro M xs T st len cap cs K0 H
  unfold runNext at H
  split at H
  · obtain ⟨q, ⟨rfl, rfl, rfl, hb⟩, H⟩ := H
    obtain ⟨k, c0⟩ := q
    simp only at H ⊢
    have hin := bAt_in hb k
    show (runF cfg0 60 16 Tryz.f16 [.ptr 0 0] [(0, .cells T [.sl false 1 (min k xs.length) 1 (xs.length - k) (c0 - min k xs.length)]), (1, .ro Kd.byte xs)] 2).holds _
    rw [t16]
    refine ⟨fun h => ?_, fun h => ?_⟩
    · have h : xs.length - k = 0 := by simpa using h
      have hz : bAt xs k = 0 := by
        unfold bAt; rw [List.getD_eq_getElem?_getD, List.getElem?_eq_none (by omega)]; rfl
      rw [hz] at H
      refine ⟨_, _, _, _, _, H, endRd AV.sub_lit' ?_⟩
      show some (Blk.cells T [AV.sl false 1 (min k xs.length) 1 (xs.length - k) (c0 - min k xs.length)]) = some (Blk.cells T [AV.sl false 1 (min (k + 1) xs.length) 1 (xs.length - (k + 1)) (c0 - min (k + 1) xs.length)])
      rw [show min (k + 1) xs.length = min k xs.length by omega, show xs.length - (k + 1) = xs.length - k by omega]
    · have h : xs.length - k ≠ 0 := by simpa using h
      have hk : k < xs.length := by omega
      refine ⟨by omega, by omega, by omega, ?_⟩
      refine ⟨_, _, _, _, _, H, endRd (AV.sub_int ?_) ?_⟩
      · rw [show min k xs.length = k by omega]
        exact wrap_byte hin
      · show some (Blk.cells T [AV.sl false 1 (min k xs.length + 1) 1 (xs.length - k - 1) (c0 - min k xs.length - 1)]) = some (Blk.cells T [AV.sl false 1 (min (k + 1) xs.length) 1 (xs.length - (k + 1)) (c0 - min (k + 1) xs.length)])
        rw [show min (k + 1) xs.length = min k xs.length + 1 by omega, show xs.length - (k + 1) = xs.length - k - 1 by omega, show c0 - (min k xs.length + 1) = c0 - min k xs.length - 1 by omega]
  · exact H.elim
def runNext2 : RunRd V Kd.byte := fun xs T st len cap cs K => match cs with
  | [.int .i64 a] => .ex Nat fun k => .need (st = 0 ∧ len = xs.length ∧ a = ((min k xs.length : Nat) : Int) ∧ Bytes xs ∧ xs.length ≤ 1073741824)
      (K (.int .i64 (bAt xs k)) 0 xs.length cap [.int .i64 ((min (k + 1) xs.length : Nat) : Int)])
  | [.lit .i64 0] => .need (st = 0 ∧ len = xs.length ∧ Bytes xs ∧ xs.length ≤ 1073741824)
      (K (.int .i64 (bAt xs 0)) 0 xs.length cap [.int .i64 ((min (0 + 1) xs.length : Nat) : Int)])
  | _ => .bad 601
theorem hNext2 : HookOk Tryz.prog 17 (hookRd (U := V) Kd.byte runNext2) := by
  refine rd_hook (C := cfg0) cfg0_ok (n := 60) (fn := Tryz.f17) ⟨by kernel_rfl, by kernel_rfl⟩ (by kernel_rfl) (show 1 ≤ _ by decide +kernel) ?_
  intro M xs T st len cap cs K0 H
  unfold runNext2 at H
  split at H
  · rename_i a
    obtain ⟨k, ⟨rfl, rfl, rfl, hb, hl⟩, H⟩ := H
    have hin := bAt_in hb k
    show (runF cfg0 60 17 Tryz.f17 [.ptr 0 0] [(0, .cells T [.sl false 1 0 1 xs.length cap, .int .i64 ((min k xs.length : Nat) : Int)]), (1, .ro Kd.byte xs)] 2).holds _
    rw [t17]
    refine ⟨fun h => ?_, fun h => ?_⟩
    · have h := of_decide_eq_true h
      have hk : xs.length ≤ k := by omega
      have hz : bAt xs k = 0 := by
        unfold bAt; rw [List.getD_eq_getElem?_getD, List.getElem?_eq_none (by omega)]; rfl
      rw [hz] at H
      refine ⟨_, _, _, _, _, H, endRd AV.sub_lit' ?_⟩
      show some (Blk.cells T [AV.sl false 1 0 1 xs.length cap, AV.int .i64 ((min k xs.length : Nat) : Int)]) = some (Blk.cells T [AV.sl false 1 0 1 xs.length cap, AV.int .i64 ((min (k + 1) xs.length : Nat) : Int)])
      rw [show min (k + 1) xs.length = min k xs.length by omega]
    · have h := of_decide_eq_false h
      have hk : k < xs.length := by omega
      have e1 : IntKind.i64.wrap (((min k xs.length : Nat) : Int) + 1) = ((min (k + 1) xs.length : Nat) : Int) := by rw [wrap_low (by omega) (by omega)]; omega
      have e2 : IntKind.i64.wrap (((min (k + 1) xs.length : Nat) : Int) - 1) = (k : Int) := by rw [wrap_low (by omega) (by omega)]; omega
      simp only [e1, e2]
      refine ⟨by omega, by omega, ?_⟩
      refine ⟨_, _, _, _, _, H, endRd (AV.sub_int ?_) rfl⟩
      rw [show 0 + ((k : Int)).toNat = k by omega]
      exact wrap_byte hin
  · obtain ⟨⟨rfl, rfl, hb, hl⟩, H⟩ := H
    have hin := bAt_in hb 0
    show (runF cfg0 60 17 Tryz.f17 [.ptr 0 0] [(0, .cells T [.sl false 1 0 1 xs.length cap, .lit .i64 0]), (1, .ro Kd.byte xs)] 2).holds _
    rw [t17l]
    refine ⟨fun h => ?_, fun h => ?_⟩
    · have h := of_decide_eq_true h
      have hk : xs.length = 0 := by omega
      have hz : bAt xs 0 = 0 := by
        unfold bAt; rw [List.getD_eq_getElem?_getD, List.getElem?_eq_none (by omega)]; rfl
      rw [hz] at H
      refine ⟨_, _, _, _, _, H, ([(0, .cells T [.sl false 1 0 1 xs.length cap, .int .i64 ((min (0 + 1) xs.length : Nat) : Int)]), (1, .ro Kd.byte xs)] : Heap V), fun G r A hf hd => ?_, rfl, AV.sub_lit'⟩
      obtain ⟨H1, H2, ⟨b, vs, h1, h2, h3⟩, h4, h5, h6⟩ := hd
      refine ⟨A, Hp.nil, ⟨H1, H2, ⟨b, vs, h1, ?_, h3⟩, h4, h5, h6⟩, (Hp.nil_apart A).symm, (Hp.join_nil A).symm⟩
      rw [show ((min (0 + 1) xs.length : Nat) : Int) = 0 by omega]
      exact AV.subL_cons (AV.sub_same _) (AV.subL_cons AV.sub_lit' AV.subL_nil) _ _ h2
    · have h := of_decide_eq_false h
      have hk : 0 < xs.length := by omega
      refine ⟨by omega, by omega, ?_⟩
      refine ⟨_, _, _, _, _, H, ([(0, .cells T [.sl false 1 0 1 xs.length cap, .int .i64 ((min (0 + 1) xs.length : Nat) : Int)]), (1, .ro Kd.byte xs)] : Heap V), fun G r A hf hd => ?_, rfl, AV.sub_int (wrap_byte hin)⟩
      obtain ⟨H1, H2, ⟨b, vs, h1, h2, h3⟩, h4, h5, h6⟩ := hd
      refine ⟨A, Hp.nil, ⟨H1, H2, ⟨b, vs, h1, ?_, h3⟩, h4, h5, h6⟩, (Hp.nil_apart A).symm, (Hp.join_nil A).symm⟩
      rw [show ((min (0 + 1) xs.length : Nat) : Int) = 1 by omega]
      exact AV.subL_cons (AV.sub_same _) (AV.subL_cons (AV.sub_lit') AV.subL_nil) _ _ h2
  · exact H.elim
def runByte : RunFree V := fun ar K => match ar with
  | [.int .i64 n] => K (.bool (isB n)) []
  | _ => .bad 602
theorem hByte : HookOk Tryz.prog 19 (hookFree [.int .i64] runByte) := by
  refine free_hook (C := cfg0) cfg0_ok (n := 60) (fn := Tryz.f19) ⟨by kernel_rfl, by kernel_rfl⟩ (by kernel_rfl) ?_
  intro M ar K0 H
  unfold runByte at H
  split at H
  · rename_i n
    refine ⟨show 1 ≤ _ by decide +kernel, ?_⟩
    show (runF cfg0 60 19 Tryz.f19 [.int .i64 n] [] 1).holds _
    rw [t19]
    refine ⟨fun h => ⟨_, _, H, endPlain (AV.sub_bool ?_) rfl⟩, fun h => ⟨_, _, H, endPlain (AV.sub_ff ?_) rfl⟩⟩
    · have h := of_decide_eq_true h
      unfold isB; rw [decide_eq_true (show 0 ≤ n from h), Bool.true_and]
    · have h := of_decide_eq_false h
      unfold isB; rw [decide_eq_false (show ¬ 0 ≤ n from h), Bool.false_and]
  · exact H.elim

/-! ## numbers written -/
theorem take_getD {l : List Int} {i : Nat} (h : i < l.length) : l.take (i + 1) = l.take i ++ [l.getD (0 + i) (V.enc Kd.int).dflt] := by
  rw [List.take_succ_eq_append_getElem h, Nat.zero_add, List.getD_eq_getElem?_getD, List.getElem?_eq_getElem h]; rfl
theorem pwOut_succ {p : PwP} {i : Nat} (h : i < p.l.length) : pwOut p i ++ [IntKind.u8.wrap (p.l.getD (0 + i) (V.enc Kd.int).dflt)] = pwOut p (i + 1) := by
  unfold pwOut
  rw [take_getD h, List.map_append, List.append_assoc]; rfl
theorem pwBad_succ {p : PwP} {i : Nat} (h : i < p.l.length) : pwBad p (i + 1) = (pwBad p i || isOut p.most (p.l.getD (0 + i) (V.enc Kd.int).dflt)) := by
  unfold pwBad
  rw [take_getD h, List.any_append, Bool.or_assoc]
  simp
theorem pwl_ok : LoopOk Tryz.prog 0 (loopOf Tryz.f18 0) PwL := by
  refine trimLoop_ok (trim_ok _ _) (loopTH_ok (C := cfg0) cfg0_ok (f := 18) (n := 60) (trim_ok [0, 1, 8, 9, 10] [0, 3, 4, 5, 6, 7]) 4 PwI (fun p x => x.1 ≤ p.l.length) (fun p => (0, p.sp)) (fun p x => p.l.length - x.1)
    PwC PwE (fun p => Nat.zero_le _) ?_)
  rintro p ⟨i, sp⟩ hi
  rw [b18]
  have hb := p.hb
  have hl : (pwOut p i).length ≤ 1073741824 := by unfold pwOut; rw [List.length_append, List.length_map, List.length_take]; omega
  by_cases hlt : i < p.l.length
  · have hw : IntKind.wrap .i64 ((i : Int) + 1) = ((i + 1 : Nat) : Int) := wrap_nat (by omega)
    have hs := pwOut_succ (p := p) hlt
    have hn := pwBad_succ (p := p) hlt
    have hlen : (pwOut p i).length + 1 = (pwOut p (i + 1)).length := by rw [← hs]; simp
    refine ⟨fun _ => ⟨by omega, by omega, ?_⟩, fun h => absurd hlt (by have := of_decide_eq_false h; omega)⟩
    have fin : ∀ (s' : St V) (y : Nat), Wk 4 [(4, 7)] s' (PwI p (i + 1, y)) → SImp 4 s' (PwI p) (fun z => z.1 ≤ p.l.length ∧ p.l.length - z.1 < p.l.length - i) := fun s' y hwk =>
      SImp.of_wk (i + 1, y) hwk ⟨hlt, by show p.l.length - (i + 1) < _; omega⟩
    refine ⟨fun h1 => ⟨rfl, ⟨rfl, rfl, by omega⟩, fun y => fin _ y ?_⟩, fun h1 => ⟨fun h2 => ⟨rfl, ⟨rfl, rfl, by omega⟩, fun y => fin _ y ?_⟩, fun h2 => ⟨rfl, ⟨rfl, rfl, by omega⟩, fun y => fin _ y ?_⟩⟩⟩
    · refine ⟨⟨AV.sub_int hw, AV.sub_same _, AV.sub_same _, AV.sub_same _, AV.sub_same _, trivial⟩, ⟨?_, BSub.arr hs rfl, .same _, trivial⟩, rfl, tl_ok rfl, ⟨.inl (in_ok rfl), .inl (in_ok rfl), .inl (in_ok rfl), .inl (in_ok rfl), trivial⟩, ⟨Nat.le_of_ble_eq_true rfl, rfl⟩⟩
      exact BSub.cells _ _ _ (AV.subL_cons (AV.sub_sl hlen (by rw [hlen])) (AV.subL_cons (AV.sub_tt (by rw [hn, h1]; rfl)) AV.subL_nil))
    · refine ⟨⟨AV.sub_int hw, AV.sub_same _, AV.sub_same _, AV.sub_same _, AV.sub_same _, trivial⟩, ⟨?_, BSub.arr hs rfl, .same _, trivial⟩, rfl, tl_ok rfl, ⟨.inl (in_ok rfl), .inl (in_ok rfl), .inl (in_ok rfl), .inl (in_ok rfl), trivial⟩, ⟨Nat.le_of_ble_eq_true rfl, rfl⟩⟩
      exact BSub.cells _ _ _ (AV.subL_cons (AV.sub_sl hlen (by rw [hlen])) (AV.subL_cons (AV.sub_tt (by rw [hn, h1]; unfold isOut; rw [h2]; rfl)) AV.subL_nil))
    · refine ⟨⟨AV.sub_int hw, AV.sub_same _, AV.sub_same _, AV.sub_same _, AV.sub_same _, trivial⟩, ⟨?_, BSub.arr hs rfl, .same _, trivial⟩, rfl, tl_ok rfl, ⟨.inl (in_ok rfl), .inl (in_ok rfl), .inl (in_ok rfl), .inl (in_ok rfl), trivial⟩, ⟨Nat.le_of_ble_eq_true rfl, rfl⟩⟩
      exact BSub.cells _ _ _ (AV.subL_cons (AV.sub_sl hlen (by rw [hlen])) (AV.subL_cons (AV.sub_bool (by rw [hn, h1]; unfold isOut; rw [h2]; rfl)) AV.subL_nil))
  · refine ⟨fun h => absurd (of_decide_eq_true h) (by omega), fun _ => ⟨rfl, ?_⟩⟩
    have he : i = p.l.length := by have : i ≤ p.l.length := hi; omega
    subst he
    refine SImp.of_wk (ren := [(4, 4)]) sp ?_ trivial
    exact ⟨⟨AV.sub_same _, AV.sub_same _, AV.sub_same _, AV.sub_same _, AV.sub_same _, trivial⟩, ⟨.same _, .same _, .same _, trivial⟩, rfl, tl_ok rfl, ⟨.inl (in_ok rfl), .inl (in_ok rfl), .inl (in_ok rfl), trivial⟩, ⟨Nat.le_of_ble_eq_true rfl, rfl⟩⟩

abbrev oW (s : Wr) : V.O := .inr s
theorem tmV_wr {s : Wr} {hp : Heap V} {n : Nat} (h : tmV (.inr s) hp n) : n = 2 ∧ ∃ sp, hp = wUp s sp := by
  obtain ⟨h0, rfl, hn, sp, rfl⟩ := h
  exact ⟨hn, sp, rfl⟩
/-- The end of a call of a writer: its cells, and its bytes under a name. -/
theorem endW {n' k : Nat} {h' : Heap V} {v0 v : AV} {s' : Wr} {sp : Nat} (hk : (2 : Nat) ≤ k) (hkn : k < n')
    (h0 : h'.get 0 = some (.cells 55 [.sl false k 0 1 s'.out.length (s'.out.length + sp), .bool s'.bad]))
    (h1 : h'.get k = some (.arr 5 Kd.byte s'.out sp))
    (hv : v0.sub v) (hn : v.on noName = true) : EndObj 2 n' v0 h' v (oW s') [] := by
  have hp : HImp n' h' _ := pack (ren := [(0, 0), (1, k)]) laid_V (x := oW s') (n := 2) (m := 0) (h := h') (n' := n') (hp := [(1, .arr 5 Kd.byte s'.out sp)]) ⟨wBlk s' sp, rfl, rfl, sp, rfl⟩ rfl rfl ?_ rfl
  · exact ⟨_, hp, rfl, .plain hv hn⟩
  · refine ⟨?_, ?_, trivial⟩
    · show BSub (h'.get 0) _
      rw [h0]; exact .same _
    · show BSub ((h'.del 0).get k) _
      rw [Heap.get_del_ne (by omega), h1]; exact .same _
abbrev RunW := Wr → List (Arg V) → (AV → Wr → List (Blk V) → Out V) → Out V
def onW (f : RunW) : RunObj V := fun x ar K => match x with
  | .inr s => f s ar fun v s' E => K v (oW s') E
  | _ => .bad 603
theorem w_hook {C : Cfg Tryz.prog V} (hC : C.ok) {f n : Nat} {fn : Func} {sgn : List (Sg V)} {run : RunW} (hg : Tryz.prog.funcs[f]? = some fn ∧ (fn.name == "runtime.NumGoroutine") = false) (hb : fn.body.isSome = true)
    (H : ∀ (M : Goal V) (s : Wr) (ar : List (Arg V)) (K0 : AV → Wr → List (Blk V) → Out V), (run s ar K0).holds M → ar.length + 1 ≤ fn.ntmps ∧ ∀ sp,
      (runF C n f fn (.ptr 0 0 :: argAV 2 ar) (wUp s sp ++ argHeap 2 ar) (2 + ar.length)).holds ⟨fun _ _ => False, fun v0 h' n' => ∃ v s' E, (K0 v s' E).holds M ∧ EndObj 2 n' v0 h' v (oW s') E⟩) :
    HookOk Tryz.prog f (hookObj 2 sgn (onW run)) := by
  refine hookObj_ok laid_V ⟨fn, hg.1, hg.2, by cases hb' : fn.body <;> simp [hb'] at hb ⊢⟩ ?_
  intro M x ar K0 h hp m ht
  unfold onW at h
  split at h
  · rename_i s
    obtain ⟨rfl, sp, rfl⟩ := tmV_wr ht
    obtain ⟨hl, h⟩ := H M s ar _ h
    refine ⟨rfl, calls_runF (R := fun v0 h' n' _ => ∃ v x' E, (K0 v x' E).holds M ∧ EndObj 2 n' v0 h' v x' E) hC (n := n) hg hb ?_ ?_⟩
    · have : ∀ (j : Nat) (l : List (Arg V)), (argAV j l).length = l.length := by
        intro j l; induction l generalizing j with
        | nil => rfl
        | cons a l ih => simp [argAV, ih]
      simp only [List.length_cons, this]; exact hl
    · exact Out.weak (h sp) (fun _ _ h => h) (fun v0 h' n' ⟨v, s', E, h1, h2⟩ => ⟨v, _, E, h1, h2⟩)
  · exact h.elim
/-- What is written is what was, and these; it is bad where one of them is none. -/
def putW (s : Wr) (most : Int) (l : List Int) : Wr := ⟨s.out ++ l.map u8, s.bad || l.any (isOut most)⟩
def runPut : RunW := fun s ar K => match ar with
  | [.int .i64 most, .rows .int l c] => .need (s.out.length + l.length ≤ 1073741824) (K (.tup []) (putW s most l) [])
  | _ => .bad 604
theorem hPut : HookOk Tryz.prog 18 (hookObj 2 [.int .i64, .rows Kd.int] (onW runPut)) := by
  refine w_hook (C := cfgW1) cfgW1_ok (n := 60) (fn := Tryz.f18) ⟨by kernel_rfl, by kernel_rfl⟩ (by kernel_rfl) ?_
  intro M s ar K0 H
  unfold runPut at H
  split at H
  · rename_i most l c
    obtain ⟨hb, H⟩ := H
    refine ⟨show 3 ≤ _ by decide +kernel, fun sp => ?_⟩
    show (runF cfgW1 60 18 Tryz.f18 [.ptr 0 0, .int .i64 most, .sl false 3 0 1 l.length c] [(0, .cells 55 [.sl false 1 0 1 s.out.length (s.out.length + sp), .bool s.bad]), (1, .arr 5 Kd.byte s.out sp), (3, .ro Kd.int l)] 4).holds _
    rw [t18]
    let P : PwP := ⟨s, most, l, c, sp, hb⟩
    refine ⟨pwl_ok, fun p => p = P, ⟨Nat.le_refl _, SImp.of_wk (ren := [(4, 1)]) P ?_ rfl⟩, ?_⟩
    · have e0 : pwOut P 0 = s.out := by show s.out ++ (l.take 0).map u8 = s.out; simp
      have e1 : pwBad P 0 = s.bad := by show (s.bad || (l.take 0).any (isOut most)) = s.bad; simp
      refine ⟨⟨AV.sub_lit', AV.sub_same _, AV.sub_same _, AV.sub_same _, AV.sub_same _, trivial⟩, ⟨?_, BSub.arr e0.symm rfl, .same _, trivial⟩, rfl, tl_ok rfl, ⟨.inl (in_ok rfl), .inl (in_ok rfl), .inl (in_ok rfl), trivial⟩, ⟨Nat.le_of_ble_eq_true rfl, rfl⟩⟩
      exact BSub.cells _ _ _ (AV.subL_cons (AV.sub_sl (by show s.out.length = (pwOut P 0).length; rw [e0]) (by show s.out.length + sp = (pwOut P 0).length + sp; rw [e0])) (AV.subL_cons (AV.sub_bool e1.symm) AV.subL_nil))
    · rintro _ rfl y _
      have e0 : pwOut P P.l.length = (putW s most l).out := by show s.out ++ (l.take l.length).map u8 = _; rw [List.take_length]; rfl
      have e1 : pwBad P P.l.length = (putW s most l).bad := by show (s.bad || (l.take l.length).any (isOut most)) = _; rw [List.take_length]; rfl
      refine ⟨_, _, _, H, endW (k := 4) (sp := y) (by omega) (by omega) ?_ ?_ (AV.sub_same _) rfl⟩
      · rw [← e0, ← e1]; rfl
      · rw [← e0]; rfl
  · exact H.elim
end Sx
end Go.Proofs.YtnegocgblmdihaaGreatDoor

