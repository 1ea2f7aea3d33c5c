/-
  The table of types of this seat, out of its translation, and that the program has these types.
-/
import Derived.Test.YtkadlfadmjhahaaPlaysP2
import Derived.Test.YtkadlfadmjhahaaRows
namespace Go.Proofs.Ytkadlfadmjhahaa
namespace Sx
open Go

def ifaceOf (P : Program) (t : Nat) : Array (String × TypeId) := match P.underlying t with | some (.interface ms) => ms | _ => #[]
def funcOf (P : Program) (t : Nat) : Array TypeId × Array TypeId × Bool := match P.underlying t with | some (.func a b c) => (a, b, c) | _ => (#[], #[], false)
theorem names_ok {P : Program} {t : Nat} (h : P.underlying t = some (.struct (P.fieldsOf t))) (k : ((P.fieldsOf t).toList.all fun f => !(f.name == "_")) = true) :
    ∀ fields, P.underlying t = some (.struct fields) → ∀ f ∈ fields.toList, f.name ≠ "_" := by
  intro fields hf f hm
  rw [h] at hf; cases hf
  have := List.all_eq_true.1 k f hm
  simpa using this

def RowsMet (P : Program) : Nat → List (Option TyRow) → Prop
  | _, [] => True
  | k, none :: l => RowsMet P (k + 1) l
  | k, some R :: l => R.met P k ∧ RowsMet P (k + 1) l
theorem rowsMet_get {P : Program} : ∀ (l : List (Option TyRow)) (k t : Nat) (R : TyRow), RowsMet P k l → l[t]?.join = some R → R.met P (k + t)
  | [], _, _, _, _, h => by simp at h
  | none :: l, k, t, R, hm, h => by
    cases t with
    | zero => simp at h
    | succ t => have := rowsMet_get l (k + 1) t R hm (by simpa using h); rwa [show k + 1 + t = k + (t + 1) by omega] at this
  | some R' :: l, k, t, R, hm, h => by
    cases t with
    | zero => simp at h; subst h; exact hm.1
    | succ t => have := rowsMet_get l (k + 1) t R hm.2 (by simpa using h); rwa [show k + 1 + t = k + (t + 1) by omega] at this

-- func()
def ty1 : TyRow := ⟨.func, 1, 8, [.nilF], false, false⟩
theorem ty1_met : ty1.met Try.prog 1 := ⟨⟨(funcOf Try.prog 1).1, (funcOf Try.prog 1).2.1, (funcOf Try.prog 1).2.2, by kernel_rfl⟩, ⟨(Try.prog.info? 1).getD default, .nilFunc, by kernel_rfl, by kernel_rfl, by kernel_rfl, by kernel_rfl, rfl, relL_cellAV _ [.nilFunc], relL_cellAV _ [.nilFunc]⟩, fun h => by cases h⟩
-- int64
def ty2 : TyRow := ⟨.int .i64, 1, 8, [.lit .i64 0], false, false⟩
theorem ty2_met : ty2.met Try.prog 2 := ⟨(show Try.prog.underlying 2 = some (.int .i64) by kernel_rfl), ⟨(Try.prog.info? 2).getD default, (.int .i64 0), by kernel_rfl, by kernel_rfl, by kernel_rfl, by kernel_rfl, rfl, relL_cellAV _ [(.int .i64 0)], relL_cellAV _ [(.int .i64 0)]⟩, fun h => by cases h⟩
-- int
def ty3 : TyRow := ⟨.int .i64, 1, 8, [.lit .i64 0], false, false⟩
theorem ty3_met : ty3.met Try.prog 3 := ⟨(show Try.prog.underlying 3 = some (.int .i64) by kernel_rfl), ⟨(Try.prog.info? 3).getD default, (.int .i64 0), by kernel_rfl, by kernel_rfl, by kernel_rfl, by kernel_rfl, rfl, relL_cellAV _ [(.int .i64 0)], relL_cellAV _ [(.int .i64 0)]⟩, fun h => by cases h⟩
-- bool
def ty4 : TyRow := ⟨.bool, 1, 1, [.ff], false, false⟩
theorem ty4_met : ty4.met Try.prog 4 := ⟨(show Try.prog.underlying 4 = some (.bool) by kernel_rfl), ⟨(Try.prog.info? 4).getD default, (.bool false), by kernel_rfl, by kernel_rfl, by kernel_rfl, by kernel_rfl, rfl, relL_cellAV _ [(.bool false)], relL_cellAV _ [(.bool false)]⟩, fun h => by cases h⟩
-- uint8
def ty5 : TyRow := ⟨.int .u8, 1, 1, [.lit .u8 0], false, false⟩
theorem ty5_met : ty5.met Try.prog 5 := ⟨(show Try.prog.underlying 5 = some (.int .u8) by kernel_rfl), ⟨(Try.prog.info? 5).getD default, (.int .u8 0), by kernel_rfl, by kernel_rfl, by kernel_rfl, by kernel_rfl, rfl, relL_cellAV _ [(.int .u8 0)], relL_cellAV _ [(.int .u8 0)]⟩, fun h => by cases h⟩
-- abi.BoundsErrorCode
def ty6 : TyRow := ⟨.int .u8, 1, 1, [.lit .u8 0], false, false⟩
theorem ty6_met : ty6.met Try.prog 6 := ⟨(show Try.prog.underlying 6 = some (.int .u8) by kernel_rfl), ⟨(Try.prog.info? 6).getD default, (.int .u8 0), by kernel_rfl, by kernel_rfl, by kernel_rfl, by kernel_rfl, rfl, relL_cellAV _ [(.int .u8 0)], relL_cellAV _ [(.int .u8 0)]⟩, fun h => by cases h⟩
-- struct { x int64; y int; signed bool; code abi.BoundsErrorCode }
def ty7 : TyRow := ⟨.struct [(0, 2), (1, 3), (2, 4), (3, 6)], 4, 24, [.lit .i64 0, .lit .i64 0, .ff, .lit .u8 0], true, false⟩
theorem ty7_met : ty7.met Try.prog 7 := ⟨⟨Try.prog.fieldsOf 7, by kernel_rfl, by kernel_rfl⟩, ⟨(Try.prog.info? 7).getD default, (.agg #[(.int .i64 0), (.int .i64 0), (.bool false), (.int .u8 0)]), by kernel_rfl, by kernel_rfl, by kernel_rfl, by kernel_rfl, rfl, ⟨[(.int .i64 0), (.int .i64 0), (.bool false), (.int .u8 0)], relL_cellAV _ [(.int .i64 0), (.int .i64 0), (.bool false), (.int .u8 0)], rfl⟩, relL_cellAV _ [(.int .i64 0), (.int .i64 0), (.bool false), (.int .u8 0)]⟩, fun _ => ⟨by kernel_rfl, by kernel_rfl, names_ok (by kernel_rfl) (by kernel_rfl)⟩⟩
-- runtime.boundsError
def ty8 : TyRow := ⟨.struct [(0, 2), (1, 3), (2, 4), (3, 6)], 4, 24, [.lit .i64 0, .lit .i64 0, .ff, .lit .u8 0], true, false⟩
theorem ty8_met : ty8.met Try.prog 8 := ⟨⟨Try.prog.fieldsOf 8, by kernel_rfl, by kernel_rfl⟩, ⟨(Try.prog.info? 8).getD default, (.agg #[(.int .i64 0), (.int .i64 0), (.bool false), (.int .u8 0)]), by kernel_rfl, by kernel_rfl, by kernel_rfl, by kernel_rfl, rfl, ⟨[(.int .i64 0), (.int .i64 0), (.bool false), (.int .u8 0)], relL_cellAV _ [(.int .i64 0), (.int .i64 0), (.bool false), (.int .u8 0)], rfl⟩, relL_cellAV _ [(.int .i64 0), (.int .i64 0), (.bool false), (.int .u8 0)]⟩, fun _ => ⟨by kernel_rfl, by kernel_rfl, names_ok (by kernel_rfl) (by kernel_rfl)⟩⟩
-- string
def ty9 : TyRow := ⟨.str, 1, 16, [.raw (.string (ByteArray.mk #[]))], false, false⟩
theorem ty9_met : ty9.met Try.prog 9 := ⟨(show Try.prog.underlying 9 = some (.string) by kernel_rfl), ⟨(Try.prog.info? 9).getD default, (.string (ByteArray.mk #[])), by kernel_rfl, by kernel_rfl, by kernel_rfl, by kernel_rfl, rfl, relL_cellAV _ [(.string (ByteArray.mk #[]))], relL_cellAV _ [(.string (ByteArray.mk #[]))]⟩, fun h => by cases h⟩
-- runtime.errorString
def ty10 : TyRow := ⟨.str, 1, 16, [.raw (.string (ByteArray.mk #[]))], false, false⟩
theorem ty10_met : ty10.met Try.prog 10 := ⟨(show Try.prog.underlying 10 = some (.string) by kernel_rfl), ⟨(Try.prog.info? 10).getD default, (.string (ByteArray.mk #[])), by kernel_rfl, by kernel_rfl, by kernel_rfl, by kernel_rfl, rfl, relL_cellAV _ [(.string (ByteArray.mk #[]))], relL_cellAV _ [(.string (ByteArray.mk #[]))]⟩, fun h => by cases h⟩
-- runtime.plainError
def ty11 : TyRow := ⟨.str, 1, 16, [.raw (.string (ByteArray.mk #[]))], false, false⟩
theorem ty11_met : ty11.met Try.prog 11 := ⟨(show Try.prog.underlying 11 = some (.string) by kernel_rfl), ⟨(Try.prog.info? 11).getD default, (.string (ByteArray.mk #[])), by kernel_rfl, by kernel_rfl, by kernel_rfl, by kernel_rfl, rfl, relL_cellAV _ [(.string (ByteArray.mk #[]))], relL_cellAV _ [(.string (ByteArray.mk #[]))]⟩, fun h => by cases h⟩
-- uintptr
def ty12 : TyRow := ⟨.int .u64, 1, 8, [.lit .u64 0], false, false⟩
theorem ty12_met : ty12.met Try.prog 12 := ⟨(show Try.prog.underlying 12 = some (.int .u64) by kernel_rfl), ⟨(Try.prog.info? 12).getD default, (.int .u64 0), by kernel_rfl, by kernel_rfl, by kernel_rfl, by kernel_rfl, rfl, relL_cellAV _ [(.int .u64 0)], relL_cellAV _ [(.int .u64 0)]⟩, fun h => by cases h⟩
-- struct { msg string; addr uintptr }
def ty13 : TyRow := ⟨.struct [(0, 9), (1, 12)], 2, 24, [.raw (.string (ByteArray.mk #[])), .lit .u64 0], false, false⟩
theorem ty13_met : ty13.met Try.prog 13 := ⟨⟨Try.prog.fieldsOf 13, by kernel_rfl, by kernel_rfl⟩, ⟨(Try.prog.info? 13).getD default, (.agg #[(.string (ByteArray.mk #[])), (.int .u64 0)]), by kernel_rfl, by kernel_rfl, by kernel_rfl, by kernel_rfl, rfl, ⟨[(.string (ByteArray.mk #[])), (.int .u64 0)], relL_cellAV _ [(.string (ByteArray.mk #[])), (.int .u64 0)], rfl⟩, relL_cellAV _ [(.string (ByteArray.mk #[])), (.int .u64 0)]⟩, fun h => by cases h⟩
-- runtime.errorAddressString
def ty14 : TyRow := ⟨.struct [(0, 9), (1, 12)], 2, 24, [.raw (.string (ByteArray.mk #[])), .lit .u64 0], false, false⟩
theorem ty14_met : ty14.met Try.prog 14 := ⟨⟨Try.prog.fieldsOf 14, by kernel_rfl, by kernel_rfl⟩, ⟨(Try.prog.info? 14).getD default, (.agg #[(.string (ByteArray.mk #[])), (.int .u64 0)]), by kernel_rfl, by kernel_rfl, by kernel_rfl, by kernel_rfl, rfl, ⟨[(.string (ByteArray.mk #[])), (.int .u64 0)], relL_cellAV _ [(.string (ByteArray.mk #[])), (.int .u64 0)], rfl⟩, relL_cellAV _ [(.string (ByteArray.mk #[])), (.int .u64 0)]⟩, fun h => by cases h⟩
-- *runtime.TypeAssertionError
def ty15 : TyRow := ⟨.ptr 96, 1, 8, [.nilP], false, false⟩
theorem ty15_met : ty15.met Try.prog 15 := ⟨(show Try.prog.underlying 15 = some (.pointer 96) by kernel_rfl), ⟨(Try.prog.info? 15).getD default, (.pointer none), by kernel_rfl, by kernel_rfl, by kernel_rfl, by kernel_rfl, rfl, relL_cellAV _ [(.pointer none)], relL_cellAV _ [(.pointer none)]⟩, fun h => by cases h⟩
-- *runtime.PanicNilError
def ty16 : TyRow := ⟨.ptr 99, 1, 8, [.nilP], false, false⟩
theorem ty16_met : ty16.met Try.prog 16 := ⟨(show Try.prog.underlying 16 = some (.pointer 99) by kernel_rfl), ⟨(Try.prog.info? 16).getD default, (.pointer none), by kernel_rfl, by kernel_rfl, by kernel_rfl, by kernel_rfl, rfl, relL_cellAV _ [(.pointer none)], relL_cellAV _ [(.pointer none)]⟩, fun h => by cases h⟩
-- *abi.Type
def ty17 : TyRow := ⟨.ptr 107, 1, 8, [.nilP], false, false⟩
theorem ty17_met : ty17.met Try.prog 17 := ⟨(show Try.prog.underlying 17 = some (.pointer 107) by kernel_rfl), ⟨(Try.prog.info? 17).getD default, (.pointer none), by kernel_rfl, by kernel_rfl, by kernel_rfl, by kernel_rfl, rfl, relL_cellAV _ [(.pointer none)], relL_cellAV _ [(.pointer none)]⟩, fun h => by cases h⟩
-- struct { typ *abi.Type }
def ty18 : TyRow := ⟨.struct [(0, 17)], 1, 8, [.nilP], false, false⟩
theorem ty18_met : ty18.met Try.prog 18 := ⟨⟨Try.prog.fieldsOf 18, by kernel_rfl, by kernel_rfl⟩, ⟨(Try.prog.info? 18).getD default, (.agg #[(.pointer none)]), by kernel_rfl, by kernel_rfl, by kernel_rfl, by kernel_rfl, rfl, ⟨[(.pointer none)], relL_cellAV _ [(.pointer none)], rfl⟩, relL_cellAV _ [(.pointer none)]⟩, fun h => by cases h⟩
-- maps.unhashableTypeError
def ty19 : TyRow := ⟨.struct [(0, 17)], 1, 8, [.nilP], false, false⟩
theorem ty19_met : ty19.met Try.prog 19 := ⟨⟨Try.prog.fieldsOf 19, by kernel_rfl, by kernel_rfl⟩, ⟨(Try.prog.info? 19).getD default, (.agg #[(.pointer none)]), by kernel_rfl, by kernel_rfl, by kernel_rfl, by kernel_rfl, rfl, ⟨[(.pointer none)], relL_cellAV _ [(.pointer none)], rfl⟩, relL_cellAV _ [(.pointer none)]⟩, fun h => by cases h⟩
-- interface {}
def ty20 : TyRow := ⟨.iface, 1, 16, [.nilI], false, false⟩
theorem ty20_met : ty20.met Try.prog 20 := ⟨⟨ifaceOf Try.prog 20, by kernel_rfl⟩, ⟨(Try.prog.info? 20).getD default, .nilIface, by kernel_rfl, by kernel_rfl, by kernel_rfl, by kernel_rfl, rfl, relL_cellAV _ [.nilIface], relL_cellAV _ [.nilIface]⟩, fun h => by cases h⟩
-- int32
def ty21 : TyRow := ⟨.int .i32, 1, 4, [.lit .i32 0], false, false⟩
theorem ty21_met : ty21.met Try.prog 21 := ⟨(show Try.prog.underlying 21 = some (.int .i32) by kernel_rfl), ⟨(Try.prog.info? 21).getD default, (.int .i32 0), by kernel_rfl, by kernel_rfl, by kernel_rfl, by kernel_rfl, rfl, relL_cellAV _ [(.int .i32 0)], relL_cellAV _ [(.int .i32 0)]⟩, fun h => by cases h⟩
-- [][3]int
def ty22 : TyRow := ⟨.slice 27, 1, 24, [.nilS], false, false⟩
theorem ty22_met : ty22.met Try.prog 22 := ⟨(show Try.prog.underlying 22 = some (.slice 27) by kernel_rfl), ⟨(Try.prog.info? 22).getD default, (.slice none 0 0), by kernel_rfl, by kernel_rfl, by kernel_rfl, by kernel_rfl, rfl, relL_cellAV _ [(.slice none 0 0)], relL_cellAV _ [(.slice none 0 0)]⟩, fun h => by cases h⟩
-- func() bool
def ty23 : TyRow := ⟨.func, 1, 8, [.nilF], false, false⟩
theorem ty23_met : ty23.met Try.prog 23 := ⟨⟨(funcOf Try.prog 23).1, (funcOf Try.prog 23).2.1, (funcOf Try.prog 23).2.2, by kernel_rfl⟩, ⟨(Try.prog.info? 23).getD default, .nilFunc, by kernel_rfl, by kernel_rfl, by kernel_rfl, by kernel_rfl, rfl, relL_cellAV _ [.nilFunc], relL_cellAV _ [.nilFunc]⟩, fun h => by cases h⟩
-- *table.Table
def ty24 : TyRow := ⟨.ptr 54, 1, 8, [.nilP], false, false⟩
theorem ty24_met : ty24.met Try.prog 24 := ⟨(show Try.prog.underlying 24 = some (.pointer 54) by kernel_rfl), ⟨(Try.prog.info? 24).getD default, (.pointer none), by kernel_rfl, by kernel_rfl, by kernel_rfl, by kernel_rfl, rfl, relL_cellAV _ [(.pointer none)], relL_cellAV _ [(.pointer none)]⟩, fun h => by cases h⟩
-- func(int) *table.Table
def ty25 : TyRow := ⟨.func, 1, 8, [.nilF], false, false⟩
theorem ty25_met : ty25.met Try.prog 25 := ⟨⟨(funcOf Try.prog 25).1, (funcOf Try.prog 25).2.1, (funcOf Try.prog 25).2.2, by kernel_rfl⟩, ⟨(Try.prog.info? 25).getD default, .nilFunc, by kernel_rfl, by kernel_rfl, by kernel_rfl, by kernel_rfl, rfl, relL_cellAV _ [.nilFunc], relL_cellAV _ [.nilFunc]⟩, fun h => by cases h⟩
-- []int
def ty26 : TyRow := ⟨.slice 3, 1, 24, [.nilS], false, false⟩
theorem ty26_met : ty26.met Try.prog 26 := ⟨(show Try.prog.underlying 26 = some (.slice 3) by kernel_rfl), ⟨(Try.prog.info? 26).getD default, (.slice none 0 0), by kernel_rfl, by kernel_rfl, by kernel_rfl, by kernel_rfl, rfl, relL_cellAV _ [(.slice none 0 0)], relL_cellAV _ [(.slice none 0 0)]⟩, fun h => by cases h⟩
-- [3]int
def ty27 : TyRow := ⟨.array 3 3, 3, 24, [.lit .i64 0, .lit .i64 0, .lit .i64 0], true, false⟩
theorem ty27_met : ty27.met Try.prog 27 := ⟨(show Try.prog.underlying 27 = some (.array 3 3) by kernel_rfl), ⟨(Try.prog.info? 27).getD default, (.agg #[(.int .i64 0), (.int .i64 0), (.int .i64 0)]), by kernel_rfl, by kernel_rfl, by kernel_rfl, by kernel_rfl, rfl, ⟨[(.int .i64 0), (.int .i64 0), (.int .i64 0)], relL_cellAV _ [(.int .i64 0), (.int .i64 0), (.int .i64 0)], rfl⟩, relL_cellAV _ [(.int .i64 0), (.int .i64 0), (.int .i64 0)]⟩, (fun _ => ⟨by kernel_rfl, by kernel_rfl, fun fields hf => by rw [(show Try.prog.underlying 27 = some (.array 3 3) by kernel_rfl)] at hf; cases hf⟩)⟩
-- struct { Key int; Value int; Weight int; Node int }
def ty28 : TyRow := ⟨.struct [(0, 3), (1, 3), (2, 3), (3, 3)], 4, 32, [.lit .i64 0, .lit .i64 0, .lit .i64 0, .lit .i64 0], true, false⟩
theorem ty28_met : ty28.met Try.prog 28 := ⟨⟨Try.prog.fieldsOf 28, by kernel_rfl, by kernel_rfl⟩, ⟨(Try.prog.info? 28).getD default, (.agg #[(.int .i64 0), (.int .i64 0), (.int .i64 0), (.int .i64 0)]), by kernel_rfl, by kernel_rfl, by kernel_rfl, by kernel_rfl, rfl, ⟨[(.int .i64 0), (.int .i64 0), (.int .i64 0), (.int .i64 0)], relL_cellAV _ [(.int .i64 0), (.int .i64 0), (.int .i64 0), (.int .i64 0)], rfl⟩, relL_cellAV _ [(.int .i64 0), (.int .i64 0), (.int .i64 0), (.int .i64 0)]⟩, fun _ => ⟨by kernel_rfl, by kernel_rfl, names_ok (by kernel_rfl) (by kernel_rfl)⟩⟩
-- api.Entry
def ty29 : TyRow := ⟨.struct [(0, 3), (1, 3), (2, 3), (3, 3)], 4, 32, [.lit .i64 0, .lit .i64 0, .lit .i64 0, .lit .i64 0], true, false⟩
theorem ty29_met : ty29.met Try.prog 29 := ⟨⟨Try.prog.fieldsOf 29, by kernel_rfl, by kernel_rfl⟩, ⟨(Try.prog.info? 29).getD default, (.agg #[(.int .i64 0), (.int .i64 0), (.int .i64 0), (.int .i64 0)]), by kernel_rfl, by kernel_rfl, by kernel_rfl, by kernel_rfl, rfl, ⟨[(.int .i64 0), (.int .i64 0), (.int .i64 0), (.int .i64 0)], relL_cellAV _ [(.int .i64 0), (.int .i64 0), (.int .i64 0), (.int .i64 0)], rfl⟩, relL_cellAV _ [(.int .i64 0), (.int .i64 0), (.int .i64 0), (.int .i64 0)]⟩, fun _ => ⟨by kernel_rfl, by kernel_rfl, names_ok (by kernel_rfl) (by kernel_rfl)⟩⟩
-- func(api.Entry) (api.Entry, bool)
def ty31 : TyRow := ⟨.func, 1, 8, [.nilF], false, false⟩
theorem ty31_met : ty31.met Try.prog 31 := ⟨⟨(funcOf Try.prog 31).1, (funcOf Try.prog 31).2.1, (funcOf Try.prog 31).2.2, by kernel_rfl⟩, ⟨(Try.prog.info? 31).getD default, .nilFunc, by kernel_rfl, by kernel_rfl, by kernel_rfl, by kernel_rfl, rfl, relL_cellAV _ [.nilFunc], relL_cellAV _ [.nilFunc]⟩, fun h => by cases h⟩
-- func(int) (api.Entry, bool)
def ty32 : TyRow := ⟨.func, 1, 8, [.nilF], false, false⟩
theorem ty32_met : ty32.met Try.prog 32 := ⟨⟨(funcOf Try.prog 32).1, (funcOf Try.prog 32).2.1, (funcOf Try.prog 32).2.2, by kernel_rfl⟩, ⟨(Try.prog.info? 32).getD default, .nilFunc, by kernel_rfl, by kernel_rfl, by kernel_rfl, by kernel_rfl, rfl, relL_cellAV _ [.nilFunc], relL_cellAV _ [.nilFunc]⟩, fun h => by cases h⟩
-- func() int
def ty33 : TyRow := ⟨.func, 1, 8, [.nilF], false, false⟩
theorem ty33_met : ty33.met Try.prog 33 := ⟨⟨(funcOf Try.prog 33).1, (funcOf Try.prog 33).2.1, (funcOf Try.prog 33).2.2, by kernel_rfl⟩, ⟨(Try.prog.info? 33).getD default, .nilFunc, by kernel_rfl, by kernel_rfl, by kernel_rfl, by kernel_rfl, rfl, relL_cellAV _ [.nilFunc], relL_cellAV _ [.nilFunc]⟩, fun h => by cases h⟩
-- []api.Entry
def ty34 : TyRow := ⟨.slice 29, 1, 24, [.nilS], false, false⟩
theorem ty34_met : ty34.met Try.prog 34 := ⟨(show Try.prog.underlying 34 = some (.slice 29) by kernel_rfl), ⟨(Try.prog.info? 34).getD default, (.slice none 0 0), by kernel_rfl, by kernel_rfl, by kernel_rfl, by kernel_rfl, rfl, relL_cellAV _ [(.slice none 0 0)], relL_cellAV _ [(.slice none 0 0)]⟩, fun h => by cases h⟩
-- func() []api.Entry
def ty35 : TyRow := ⟨.func, 1, 8, [.nilF], false, false⟩
theorem ty35_met : ty35.met Try.prog 35 := ⟨⟨(funcOf Try.prog 35).1, (funcOf Try.prog 35).2.1, (funcOf Try.prog 35).2.2, by kernel_rfl⟩, ⟨(Try.prog.info? 35).getD default, .nilFunc, by kernel_rfl, by kernel_rfl, by kernel_rfl, by kernel_rfl, rfl, relL_cellAV _ [.nilFunc], relL_cellAV _ [.nilFunc]⟩, fun h => by cases h⟩
-- func(int, [][3]int) bool
def ty36 : TyRow := ⟨.func, 1, 8, [.nilF], false, false⟩
theorem ty36_met : ty36.met Try.prog 36 := ⟨⟨(funcOf Try.prog 36).1, (funcOf Try.prog 36).2.1, (funcOf Try.prog 36).2.2, by kernel_rfl⟩, ⟨(Try.prog.info? 36).getD default, .nilFunc, by kernel_rfl, by kernel_rfl, by kernel_rfl, by kernel_rfl, rfl, relL_cellAV _ [.nilFunc], relL_cellAV _ [.nilFunc]⟩, fun h => by cases h⟩
-- func([]api.Entry, []api.Entry) bool
def ty37 : TyRow := ⟨.func, 1, 8, [.nilF], false, false⟩
theorem ty37_met : ty37.met Try.prog 37 := ⟨⟨(funcOf Try.prog 37).1, (funcOf Try.prog 37).2.1, (funcOf Try.prog 37).2.2, by kernel_rfl⟩, ⟨(Try.prog.info? 37).getD default, .nilFunc, by kernel_rfl, by kernel_rfl, by kernel_rfl, by kernel_rfl, rfl, relL_cellAV _ [.nilFunc], relL_cellAV _ [.nilFunc]⟩, fun h => by cases h⟩
-- func(int, int, [][3]int) bool
def ty38 : TyRow := ⟨.func, 1, 8, [.nilF], false, false⟩
theorem ty38_met : ty38.met Try.prog 38 := ⟨⟨(funcOf Try.prog 38).1, (funcOf Try.prog 38).2.1, (funcOf Try.prog 38).2.2, by kernel_rfl⟩, ⟨(Try.prog.info? 38).getD default, .nilFunc, by kernel_rfl, by kernel_rfl, by kernel_rfl, by kernel_rfl, rfl, relL_cellAV _ [.nilFunc], relL_cellAV _ [.nilFunc]⟩, fun h => by cases h⟩
-- *pantryref15.Table
def ty39 : TyRow := ⟨.ptr 43, 1, 8, [.nilP], false, false⟩
theorem ty39_met : ty39.met Try.prog 39 := ⟨(show Try.prog.underlying 39 = some (.pointer 43) by kernel_rfl), ⟨(Try.prog.info? 39).getD default, (.pointer none), by kernel_rfl, by kernel_rfl, by kernel_rfl, by kernel_rfl, rfl, relL_cellAV _ [(.pointer none)], relL_cellAV _ [(.pointer none)]⟩, fun h => by cases h⟩
-- func(int) *pantryref15.Table
def ty40 : TyRow := ⟨.func, 1, 8, [.nilF], false, false⟩
theorem ty40_met : ty40.met Try.prog 40 := ⟨⟨(funcOf Try.prog 40).1, (funcOf Try.prog 40).2.1, (funcOf Try.prog 40).2.2, by kernel_rfl⟩, ⟨(Try.prog.info? 40).getD default, .nilFunc, by kernel_rfl, by kernel_rfl, by kernel_rfl, by kernel_rfl, rfl, relL_cellAV _ [.nilFunc], relL_cellAV _ [.nilFunc]⟩, fun h => by cases h⟩
-- [][]api.Entry
def ty41 : TyRow := ⟨.slice 34, 1, 24, [.nilS], false, false⟩
theorem ty41_met : ty41.met Try.prog 41 := ⟨(show Try.prog.underlying 41 = some (.slice 34) by kernel_rfl), ⟨(Try.prog.info? 41).getD default, (.slice none 0 0), by kernel_rfl, by kernel_rfl, by kernel_rfl, by kernel_rfl, rfl, relL_cellAV _ [(.slice none 0 0)], relL_cellAV _ [(.slice none 0 0)]⟩, fun h => by cases h⟩
-- struct { B [][]api.Entry; Old [][]api.Entry; Moved int; Seed int }
def ty42 : TyRow := ⟨.struct [(0, 41), (1, 41), (2, 3), (3, 3)], 4, 64, [.nilS, .nilS, .lit .i64 0, .lit .i64 0], false, false⟩
theorem ty42_met : ty42.met Try.prog 42 := ⟨⟨Try.prog.fieldsOf 42, by kernel_rfl, by kernel_rfl⟩, ⟨(Try.prog.info? 42).getD default, (.agg #[(.slice none 0 0), (.slice none 0 0), (.int .i64 0), (.int .i64 0)]), by kernel_rfl, by kernel_rfl, by kernel_rfl, by kernel_rfl, rfl, ⟨[(.slice none 0 0), (.slice none 0 0), (.int .i64 0), (.int .i64 0)], relL_cellAV _ [(.slice none 0 0), (.slice none 0 0), (.int .i64 0), (.int .i64 0)], rfl⟩, relL_cellAV _ [(.slice none 0 0), (.slice none 0 0), (.int .i64 0), (.int .i64 0)]⟩, fun h => by cases h⟩
-- pantryref15.Table
def ty43 : TyRow := ⟨.struct [(0, 41), (1, 41), (2, 3), (3, 3)], 4, 64, [.nilS, .nilS, .lit .i64 0, .lit .i64 0], false, false⟩
theorem ty43_met : ty43.met Try.prog 43 := ⟨⟨Try.prog.fieldsOf 43, by kernel_rfl, by kernel_rfl⟩, ⟨(Try.prog.info? 43).getD default, (.agg #[(.slice none 0 0), (.slice none 0 0), (.int .i64 0), (.int .i64 0)]), by kernel_rfl, by kernel_rfl, by kernel_rfl, by kernel_rfl, rfl, ⟨[(.slice none 0 0), (.slice none 0 0), (.int .i64 0), (.int .i64 0)], relL_cellAV _ [(.slice none 0 0), (.slice none 0 0), (.int .i64 0), (.int .i64 0)], rfl⟩, relL_cellAV _ [(.slice none 0 0), (.slice none 0 0), (.int .i64 0), (.int .i64 0)]⟩, fun h => by cases h⟩
-- func([]int, []int) bool
def ty44 : TyRow := ⟨.func, 1, 8, [.nilF], false, false⟩
theorem ty44_met : ty44.met Try.prog 44 := ⟨⟨(funcOf Try.prog 44).1, (funcOf Try.prog 44).2.1, (funcOf Try.prog 44).2.2, by kernel_rfl⟩, ⟨(Try.prog.info? 44).getD default, .nilFunc, by kernel_rfl, by kernel_rfl, by kernel_rfl, by kernel_rfl, rfl, relL_cellAV _ [.nilFunc], relL_cellAV _ [.nilFunc]⟩, fun h => by cases h⟩
-- func(int) []int
def ty45 : TyRow := ⟨.func, 1, 8, [.nilF], false, false⟩
theorem ty45_met : ty45.met Try.prog 45 := ⟨⟨(funcOf Try.prog 45).1, (funcOf Try.prog 45).2.1, (funcOf Try.prog 45).2.2, by kernel_rfl⟩, ⟨(Try.prog.info? 45).getD default, .nilFunc, by kernel_rfl, by kernel_rfl, by kernel_rfl, by kernel_rfl, rfl, relL_cellAV _ [.nilFunc], relL_cellAV _ [.nilFunc]⟩, fun h => by cases h⟩
-- func(uint64, int, int) int
def ty46 : TyRow := ⟨.func, 1, 8, [.nilF], false, false⟩
theorem ty46_met : ty46.met Try.prog 46 := ⟨⟨(funcOf Try.prog 46).1, (funcOf Try.prog 46).2.1, (funcOf Try.prog 46).2.2, by kernel_rfl⟩, ⟨(Try.prog.info? 46).getD default, .nilFunc, by kernel_rfl, by kernel_rfl, by kernel_rfl, by kernel_rfl, rfl, relL_cellAV _ [.nilFunc], relL_cellAV _ [.nilFunc]⟩, fun h => by cases h⟩
-- uint64
def ty47 : TyRow := ⟨.int .u64, 1, 8, [.lit .u64 0], false, false⟩
theorem ty47_met : ty47.met Try.prog 47 := ⟨(show Try.prog.underlying 47 = some (.int .u64) by kernel_rfl), ⟨(Try.prog.info? 47).getD default, (.int .u64 0), by kernel_rfl, by kernel_rfl, by kernel_rfl, by kernel_rfl, rfl, relL_cellAV _ [(.int .u64 0)], relL_cellAV _ [(.int .u64 0)]⟩, fun h => by cases h⟩
-- func(int, int) uint64
def ty48 : TyRow := ⟨.func, 1, 8, [.nilF], false, false⟩
theorem ty48_met : ty48.met Try.prog 48 := ⟨⟨(funcOf Try.prog 48).1, (funcOf Try.prog 48).2.1, (funcOf Try.prog 48).2.2, by kernel_rfl⟩, ⟨(Try.prog.info? 48).getD default, .nilFunc, by kernel_rfl, by kernel_rfl, by kernel_rfl, by kernel_rfl, rfl, relL_cellAV _ [.nilFunc], relL_cellAV _ [.nilFunc]⟩, fun h => by cases h⟩
-- func(int, []int) bool
def ty49 : TyRow := ⟨.func, 1, 8, [.nilF], false, false⟩
theorem ty49_met : ty49.met Try.prog 49 := ⟨⟨(funcOf Try.prog 49).1, (funcOf Try.prog 49).2.1, (funcOf Try.prog 49).2.2, by kernel_rfl⟩, ⟨(Try.prog.info? 49).getD default, .nilFunc, by kernel_rfl, by kernel_rfl, by kernel_rfl, by kernel_rfl, rfl, relL_cellAV _ [.nilFunc], relL_cellAV _ [.nilFunc]⟩, fun h => by cases h⟩
-- [][]int
def ty50 : TyRow := ⟨.slice 26, 1, 24, [.nilS], false, false⟩
theorem ty50_met : ty50.met Try.prog 50 := ⟨(show Try.prog.underlying 50 = some (.slice 26) by kernel_rfl), ⟨(Try.prog.info? 50).getD default, (.slice none 0 0), by kernel_rfl, by kernel_rfl, by kernel_rfl, by kernel_rfl, rfl, relL_cellAV _ [(.slice none 0 0)], relL_cellAV _ [(.slice none 0 0)]⟩, fun h => by cases h⟩
-- func(int, []int, int) bool
def ty51 : TyRow := ⟨.func, 1, 8, [.nilF], false, false⟩
theorem ty51_met : ty51.met Try.prog 51 := ⟨⟨(funcOf Try.prog 51).1, (funcOf Try.prog 51).2.1, (funcOf Try.prog 51).2.2, by kernel_rfl⟩, ⟨(Try.prog.info? 51).getD default, .nilFunc, by kernel_rfl, by kernel_rfl, by kernel_rfl, by kernel_rfl, rfl, relL_cellAV _ [.nilFunc], relL_cellAV _ [.nilFunc]⟩, fun h => by cases h⟩
-- []*table.link
def ty52 : TyRow := ⟨.slice 57, 1, 24, [.nilS], false, false⟩
theorem ty52_met : ty52.met Try.prog 52 := ⟨(show Try.prog.underlying 52 = some (.slice 57) by kernel_rfl), ⟨(Try.prog.info? 52).getD default, (.slice none 0 0), by kernel_rfl, by kernel_rfl, by kernel_rfl, by kernel_rfl, rfl, relL_cellAV _ [(.slice none 0 0)], relL_cellAV _ [(.slice none 0 0)]⟩, fun h => by cases h⟩
-- struct { seed int; buckets []*table.link; old []*table.link; moved int; length int }
def ty53 : TyRow := ⟨.struct [(0, 3), (1, 52), (2, 52), (3, 3), (4, 3)], 5, 72, [.lit .i64 0, .nilS, .nilS, .lit .i64 0, .lit .i64 0], false, true⟩
theorem ty53_met : ty53.met Try.prog 53 := ⟨⟨Try.prog.fieldsOf 53, by kernel_rfl, by kernel_rfl⟩, ⟨(Try.prog.info? 53).getD default, (.agg #[(.int .i64 0), (.slice none 0 0), (.slice none 0 0), (.int .i64 0), (.int .i64 0)]), by kernel_rfl, by kernel_rfl, by kernel_rfl, by kernel_rfl, rfl, ⟨[(.int .i64 0), (.slice none 0 0), (.slice none 0 0), (.int .i64 0), (.int .i64 0)], relL_cellAV _ [(.int .i64 0), (.slice none 0 0), (.slice none 0 0), (.int .i64 0), (.int .i64 0)], rfl⟩, relL_cellAV _ [(.int .i64 0), (.slice none 0 0), (.slice none 0 0), (.int .i64 0), (.int .i64 0)]⟩, fun h => by cases h⟩
-- table.Table
def ty54 : TyRow := ⟨.struct [(0, 3), (1, 52), (2, 52), (3, 3), (4, 3)], 5, 72, [.lit .i64 0, .nilS, .nilS, .lit .i64 0, .lit .i64 0], false, true⟩
theorem ty54_met : ty54.met Try.prog 54 := ⟨⟨Try.prog.fieldsOf 54, by kernel_rfl, by kernel_rfl⟩, ⟨(Try.prog.info? 54).getD default, (.agg #[(.int .i64 0), (.slice none 0 0), (.slice none 0 0), (.int .i64 0), (.int .i64 0)]), by kernel_rfl, by kernel_rfl, by kernel_rfl, by kernel_rfl, rfl, ⟨[(.int .i64 0), (.slice none 0 0), (.slice none 0 0), (.int .i64 0), (.int .i64 0)], relL_cellAV _ [(.int .i64 0), (.slice none 0 0), (.slice none 0 0), (.int .i64 0), (.int .i64 0)], rfl⟩, relL_cellAV _ [(.int .i64 0), (.slice none 0 0), (.slice none 0 0), (.int .i64 0), (.int .i64 0)]⟩, fun h => by cases h⟩
-- **table.link
def ty55 : TyRow := ⟨.ptr 57, 1, 8, [.nilP], false, false⟩
theorem ty55_met : ty55.met Try.prog 55 := ⟨(show Try.prog.underlying 55 = some (.pointer 57) by kernel_rfl), ⟨(Try.prog.info? 55).getD default, (.pointer none), by kernel_rfl, by kernel_rfl, by kernel_rfl, by kernel_rfl, rfl, relL_cellAV _ [(.pointer none)], relL_cellAV _ [(.pointer none)]⟩, fun h => by cases h⟩
-- func(int) **table.link
def ty56 : TyRow := ⟨.func, 1, 8, [.nilF], false, false⟩
theorem ty56_met : ty56.met Try.prog 56 := ⟨⟨(funcOf Try.prog 56).1, (funcOf Try.prog 56).2.1, (funcOf Try.prog 56).2.2, by kernel_rfl⟩, ⟨(Try.prog.info? 56).getD default, .nilFunc, by kernel_rfl, by kernel_rfl, by kernel_rfl, by kernel_rfl, rfl, relL_cellAV _ [.nilFunc], relL_cellAV _ [.nilFunc]⟩, fun h => by cases h⟩
-- *table.link
def ty57 : TyRow := ⟨.ptr 59, 1, 8, [.nilP], false, true⟩
theorem ty57_met : ty57.met Try.prog 57 := ⟨(show Try.prog.underlying 57 = some (.pointer 59) by kernel_rfl), ⟨(Try.prog.info? 57).getD default, (.pointer none), by kernel_rfl, by kernel_rfl, by kernel_rfl, by kernel_rfl, rfl, relL_cellAV _ [(.pointer none)], relL_cellAV _ [(.pointer none)]⟩, fun h => by cases h⟩
-- struct { entry api.Entry; next *table.link }
def ty58 : TyRow := ⟨.struct [(0, 29), (4, 57)], 5, 40, [.lit .i64 0, .lit .i64 0, .lit .i64 0, .lit .i64 0, .nilP], false, true⟩
theorem ty58_met : ty58.met Try.prog 58 := ⟨⟨Try.prog.fieldsOf 58, by kernel_rfl, by kernel_rfl⟩, ⟨(Try.prog.info? 58).getD default, (.agg #[(.int .i64 0), (.int .i64 0), (.int .i64 0), (.int .i64 0), (.pointer none)]), by kernel_rfl, by kernel_rfl, by kernel_rfl, by kernel_rfl, rfl, ⟨[(.int .i64 0), (.int .i64 0), (.int .i64 0), (.int .i64 0), (.pointer none)], relL_cellAV _ [(.int .i64 0), (.int .i64 0), (.int .i64 0), (.int .i64 0), (.pointer none)], rfl⟩, relL_cellAV _ [(.int .i64 0), (.int .i64 0), (.int .i64 0), (.int .i64 0), (.pointer none)]⟩, fun h => by cases h⟩
-- table.link
def ty59 : TyRow := ⟨.struct [(0, 29), (4, 57)], 5, 40, [.lit .i64 0, .lit .i64 0, .lit .i64 0, .lit .i64 0, .nilP], false, true⟩
theorem ty59_met : ty59.met Try.prog 59 := ⟨⟨Try.prog.fieldsOf 59, by kernel_rfl, by kernel_rfl⟩, ⟨(Try.prog.info? 59).getD default, (.agg #[(.int .i64 0), (.int .i64 0), (.int .i64 0), (.int .i64 0), (.pointer none)]), by kernel_rfl, by kernel_rfl, by kernel_rfl, by kernel_rfl, rfl, ⟨[(.int .i64 0), (.int .i64 0), (.int .i64 0), (.int .i64 0), (.pointer none)], relL_cellAV _ [(.int .i64 0), (.int .i64 0), (.int .i64 0), (.int .i64 0), (.pointer none)], rfl⟩, relL_cellAV _ [(.int .i64 0), (.int .i64 0), (.int .i64 0), (.int .i64 0), (.pointer none)]⟩, fun h => by cases h⟩
-- [][]*table.link
def ty60 : TyRow := ⟨.slice 52, 1, 24, [.nilS], false, false⟩
theorem ty60_met : ty60.met Try.prog 60 := ⟨(show Try.prog.underlying 60 = some (.slice 52) by kernel_rfl), ⟨(Try.prog.info? 60).getD default, (.slice none 0 0), by kernel_rfl, by kernel_rfl, by kernel_rfl, by kernel_rfl, rfl, relL_cellAV _ [(.slice none 0 0)], relL_cellAV _ [(.slice none 0 0)]⟩, fun h => by cases h⟩
-- func([]api.Entry, func(api.Entry, api.Entry) int)
def ty61 : TyRow := ⟨.func, 1, 8, [.nilF], false, false⟩
theorem ty61_met : ty61.met Try.prog 61 := ⟨⟨(funcOf Try.prog 61).1, (funcOf Try.prog 61).2.1, (funcOf Try.prog 61).2.2, by kernel_rfl⟩, ⟨(Try.prog.info? 61).getD default, .nilFunc, by kernel_rfl, by kernel_rfl, by kernel_rfl, by kernel_rfl, rfl, relL_cellAV _ [.nilFunc], relL_cellAV _ [.nilFunc]⟩, fun h => by cases h⟩
-- func(int, int) int
def ty62 : TyRow := ⟨.func, 1, 8, [.nilF], false, false⟩
theorem ty62_met : ty62.met Try.prog 62 := ⟨⟨(funcOf Try.prog 62).1, (funcOf Try.prog 62).2.1, (funcOf Try.prog 62).2.2, by kernel_rfl⟩, ⟨(Try.prog.info? 62).getD default, .nilFunc, by kernel_rfl, by kernel_rfl, by kernel_rfl, by kernel_rfl, rfl, relL_cellAV _ [.nilFunc], relL_cellAV _ [.nilFunc]⟩, fun h => by cases h⟩
-- func(api.Entry, api.Entry) int
def ty63 : TyRow := ⟨.func, 1, 8, [.nilF], false, false⟩
theorem ty63_met : ty63.met Try.prog 63 := ⟨⟨(funcOf Try.prog 63).1, (funcOf Try.prog 63).2.1, (funcOf Try.prog 63).2.2, by kernel_rfl⟩, ⟨(Try.prog.info? 63).getD default, .nilFunc, by kernel_rfl, by kernel_rfl, by kernel_rfl, by kernel_rfl, rfl, relL_cellAV _ [.nilFunc], relL_cellAV _ [.nilFunc]⟩, fun h => by cases h⟩
-- func(int) []api.Entry
def ty64 : TyRow := ⟨.func, 1, 8, [.nilF], false, false⟩
theorem ty64_met : ty64.met Try.prog 64 := ⟨⟨(funcOf Try.prog 64).1, (funcOf Try.prog 64).2.1, (funcOf Try.prog 64).2.2, by kernel_rfl⟩, ⟨(Try.prog.info? 64).getD default, .nilFunc, by kernel_rfl, by kernel_rfl, by kernel_rfl, by kernel_rfl, rfl, relL_cellAV _ [.nilFunc], relL_cellAV _ [.nilFunc]⟩, fun h => by cases h⟩
-- func([]api.Entry, int) int
def ty65 : TyRow := ⟨.func, 1, 8, [.nilF], false, false⟩
theorem ty65_met : ty65.met Try.prog 65 := ⟨⟨(funcOf Try.prog 65).1, (funcOf Try.prog 65).2.1, (funcOf Try.prog 65).2.2, by kernel_rfl⟩, ⟨(Try.prog.info? 65).getD default, .nilFunc, by kernel_rfl, by kernel_rfl, by kernel_rfl, by kernel_rfl, rfl, relL_cellAV _ [.nilFunc], relL_cellAV _ [.nilFunc]⟩, fun h => by cases h⟩
-- func(int, []api.Entry)
def ty66 : TyRow := ⟨.func, 1, 8, [.nilF], false, false⟩
theorem ty66_met : ty66.met Try.prog 66 := ⟨⟨(funcOf Try.prog 66).1, (funcOf Try.prog 66).2.1, (funcOf Try.prog 66).2.2, by kernel_rfl⟩, ⟨(Try.prog.info? 66).getD default, .nilFunc, by kernel_rfl, by kernel_rfl, by kernel_rfl, by kernel_rfl, rfl, relL_cellAV _ [.nilFunc], relL_cellAV _ [.nilFunc]⟩, fun h => by cases h⟩
-- func([]api.Entry, api.Entry) []api.Entry
def ty67 : TyRow := ⟨.func, 1, 8, [.nilF], false, false⟩
theorem ty67_met : ty67.met Try.prog 67 := ⟨⟨(funcOf Try.prog 67).1, (funcOf Try.prog 67).2.1, (funcOf Try.prog 67).2.2, by kernel_rfl⟩, ⟨(Try.prog.info? 67).getD default, .nilFunc, by kernel_rfl, by kernel_rfl, by kernel_rfl, by kernel_rfl, rfl, relL_cellAV _ [.nilFunc], relL_cellAV _ [.nilFunc]⟩, fun h => by cases h⟩
-- func(uint64, int) uint64
def ty68 : TyRow := ⟨.func, 1, 8, [.nilF], false, false⟩
theorem ty68_met : ty68.met Try.prog 68 := ⟨⟨(funcOf Try.prog 68).1, (funcOf Try.prog 68).2.1, (funcOf Try.prog 68).2.2, by kernel_rfl⟩, ⟨(Try.prog.info? 68).getD default, .nilFunc, by kernel_rfl, by kernel_rfl, by kernel_rfl, by kernel_rfl, rfl, relL_cellAV _ [.nilFunc], relL_cellAV _ [.nilFunc]⟩, fun h => by cases h⟩
-- uint
def ty69 : TyRow := ⟨.int .u64, 1, 8, [.lit .u64 0], false, false⟩
theorem ty69_met : ty69.met Try.prog 69 := ⟨(show Try.prog.underlying 69 = some (.int .u64) by kernel_rfl), ⟨(Try.prog.info? 69).getD default, (.int .u64 0), by kernel_rfl, by kernel_rfl, by kernel_rfl, by kernel_rfl, rfl, relL_cellAV _ [(.int .u64 0)], relL_cellAV _ [(.int .u64 0)]⟩, fun h => by cases h⟩
-- func([]api.Entry, int, int, int, func(api.Entry, api.Entry) int)
def ty70 : TyRow := ⟨.func, 1, 8, [.nilF], false, false⟩
theorem ty70_met : ty70.met Try.prog 70 := ⟨⟨(funcOf Try.prog 70).1, (funcOf Try.prog 70).2.1, (funcOf Try.prog 70).2.2, by kernel_rfl⟩, ⟨(Try.prog.info? 70).getD default, .nilFunc, by kernel_rfl, by kernel_rfl, by kernel_rfl, by kernel_rfl, rfl, relL_cellAV _ [.nilFunc], relL_cellAV _ [.nilFunc]⟩, fun h => by cases h⟩
-- func(uint) int
def ty71 : TyRow := ⟨.func, 1, 8, [.nilF], false, false⟩
theorem ty71_met : ty71.met Try.prog 71 := ⟨⟨(funcOf Try.prog 71).1, (funcOf Try.prog 71).2.1, (funcOf Try.prog 71).2.2, by kernel_rfl⟩, ⟨(Try.prog.info? 71).getD default, .nilFunc, by kernel_rfl, by kernel_rfl, by kernel_rfl, by kernel_rfl, rfl, relL_cellAV _ [.nilFunc], relL_cellAV _ [.nilFunc]⟩, fun h => by cases h⟩
-- func(int) bool
def ty72 : TyRow := ⟨.func, 1, 8, [.nilF], false, false⟩
theorem ty72_met : ty72.met Try.prog 72 := ⟨⟨(funcOf Try.prog 72).1, (funcOf Try.prog 72).2.1, (funcOf Try.prog 72).2.2, by kernel_rfl⟩, ⟨(Try.prog.info? 72).getD default, .nilFunc, by kernel_rfl, by kernel_rfl, by kernel_rfl, by kernel_rfl, rfl, relL_cellAV _ [.nilFunc], relL_cellAV _ [.nilFunc]⟩, fun h => by cases h⟩
-- func(int) (int, bool)
def ty74 : TyRow := ⟨.func, 1, 8, [.nilF], false, false⟩
theorem ty74_met : ty74.met Try.prog 74 := ⟨⟨(funcOf Try.prog 74).1, (funcOf Try.prog 74).2.1, (funcOf Try.prog 74).2.2, by kernel_rfl⟩, ⟨(Try.prog.info? 74).getD default, .nilFunc, by kernel_rfl, by kernel_rfl, by kernel_rfl, by kernel_rfl, rfl, relL_cellAV _ [.nilFunc], relL_cellAV _ [.nilFunc]⟩, fun h => by cases h⟩
-- func([]api.Entry, int, int, func(api.Entry, api.Entry) int)
def ty75 : TyRow := ⟨.func, 1, 8, [.nilF], false, false⟩
theorem ty75_met : ty75.met Try.prog 75 := ⟨⟨(funcOf Try.prog 75).1, (funcOf Try.prog 75).2.1, (funcOf Try.prog 75).2.2, by kernel_rfl⟩, ⟨(Try.prog.info? 75).getD default, .nilFunc, by kernel_rfl, by kernel_rfl, by kernel_rfl, by kernel_rfl, rfl, relL_cellAV _ [.nilFunc], relL_cellAV _ [.nilFunc]⟩, fun h => by cases h⟩
-- slices.sortedHint
def ty76 : TyRow := ⟨.int .i64, 1, 8, [.lit .i64 0], false, false⟩
theorem ty76_met : ty76.met Try.prog 76 := ⟨(show Try.prog.underlying 76 = some (.int .i64) by kernel_rfl), ⟨(Try.prog.info? 76).getD default, (.int .i64 0), by kernel_rfl, by kernel_rfl, by kernel_rfl, by kernel_rfl, rfl, relL_cellAV _ [(.int .i64 0)], relL_cellAV _ [(.int .i64 0)]⟩, fun h => by cases h⟩
-- func([]api.Entry, int, int, func(api.Entry, api.Entry) int) (int, slices.sortedHint)
def ty78 : TyRow := ⟨.func, 1, 8, [.nilF], false, false⟩
theorem ty78_met : ty78.met Try.prog 78 := ⟨⟨(funcOf Try.prog 78).1, (funcOf Try.prog 78).2.1, (funcOf Try.prog 78).2.2, by kernel_rfl⟩, ⟨(Try.prog.info? 78).getD default, .nilFunc, by kernel_rfl, by kernel_rfl, by kernel_rfl, by kernel_rfl, rfl, relL_cellAV _ [.nilFunc], relL_cellAV _ [.nilFunc]⟩, fun h => by cases h⟩
-- func([]api.Entry, int, int, func(api.Entry, api.Entry) int) bool
def ty79 : TyRow := ⟨.func, 1, 8, [.nilF], false, false⟩
theorem ty79_met : ty79.met Try.prog 79 := ⟨⟨(funcOf Try.prog 79).1, (funcOf Try.prog 79).2.1, (funcOf Try.prog 79).2.2, by kernel_rfl⟩, ⟨(Try.prog.info? 79).getD default, .nilFunc, by kernel_rfl, by kernel_rfl, by kernel_rfl, by kernel_rfl, rfl, relL_cellAV _ [.nilFunc], relL_cellAV _ [.nilFunc]⟩, fun h => by cases h⟩
-- func([]api.Entry, int, int, int, func(api.Entry, api.Entry) int) int
def ty80 : TyRow := ⟨.func, 1, 8, [.nilF], false, false⟩
theorem ty80_met : ty80.met Try.prog 80 := ⟨⟨(funcOf Try.prog 80).1, (funcOf Try.prog 80).2.1, (funcOf Try.prog 80).2.2, by kernel_rfl⟩, ⟨(Try.prog.info? 80).getD default, .nilFunc, by kernel_rfl, by kernel_rfl, by kernel_rfl, by kernel_rfl, rfl, relL_cellAV _ [.nilFunc], relL_cellAV _ [.nilFunc]⟩, fun h => by cases h⟩
-- func([]api.Entry, int, int, int, func(api.Entry, api.Entry) int) (int, bool)
def ty81 : TyRow := ⟨.func, 1, 8, [.nilF], false, false⟩
theorem ty81_met : ty81.met Try.prog 81 := ⟨⟨(funcOf Try.prog 81).1, (funcOf Try.prog 81).2.1, (funcOf Try.prog 81).2.2, by kernel_rfl⟩, ⟨(Try.prog.info? 81).getD default, .nilFunc, by kernel_rfl, by kernel_rfl, by kernel_rfl, by kernel_rfl, rfl, relL_cellAV _ [.nilFunc], relL_cellAV _ [.nilFunc]⟩, fun h => by cases h⟩
-- func(uint32) int
def ty82 : TyRow := ⟨.func, 1, 8, [.nilF], false, false⟩
theorem ty82_met : ty82.met Try.prog 82 := ⟨⟨(funcOf Try.prog 82).1, (funcOf Try.prog 82).2.1, (funcOf Try.prog 82).2.2, by kernel_rfl⟩, ⟨(Try.prog.info? 82).getD default, .nilFunc, by kernel_rfl, by kernel_rfl, by kernel_rfl, by kernel_rfl, rfl, relL_cellAV _ [.nilFunc], relL_cellAV _ [.nilFunc]⟩, fun h => by cases h⟩
-- uint32
def ty83 : TyRow := ⟨.int .u32, 1, 4, [.lit .u32 0], false, false⟩
theorem ty83_met : ty83.met Try.prog 83 := ⟨(show Try.prog.underlying 83 = some (.int .u32) by kernel_rfl), ⟨(Try.prog.info? 83).getD default, (.int .u32 0), by kernel_rfl, by kernel_rfl, by kernel_rfl, by kernel_rfl, rfl, relL_cellAV _ [(.int .u32 0)], relL_cellAV _ [(.int .u32 0)]⟩, fun h => by cases h⟩
-- func(uint64) int
def ty84 : TyRow := ⟨.func, 1, 8, [.nilF], false, false⟩
theorem ty84_met : ty84.met Try.prog 84 := ⟨⟨(funcOf Try.prog 84).1, (funcOf Try.prog 84).2.1, (funcOf Try.prog 84).2.2, by kernel_rfl⟩, ⟨(Try.prog.info? 84).getD default, .nilFunc, by kernel_rfl, by kernel_rfl, by kernel_rfl, by kernel_rfl, rfl, relL_cellAV _ [.nilFunc], relL_cellAV _ [.nilFunc]⟩, fun h => by cases h⟩
-- slices.xorshift
def ty85 : TyRow := ⟨.int .u64, 1, 8, [.lit .u64 0], false, false⟩
theorem ty85_met : ty85.met Try.prog 85 := ⟨(show Try.prog.underlying 85 = some (.int .u64) by kernel_rfl), ⟨(Try.prog.info? 85).getD default, (.int .u64 0), by kernel_rfl, by kernel_rfl, by kernel_rfl, by kernel_rfl, rfl, relL_cellAV _ [(.int .u64 0)], relL_cellAV _ [(.int .u64 0)]⟩, fun h => by cases h⟩
-- func(int) uint
def ty86 : TyRow := ⟨.func, 1, 8, [.nilF], false, false⟩
theorem ty86_met : ty86.met Try.prog 86 := ⟨⟨(funcOf Try.prog 86).1, (funcOf Try.prog 86).2.1, (funcOf Try.prog 86).2.2, by kernel_rfl⟩, ⟨(Try.prog.info? 86).getD default, .nilFunc, by kernel_rfl, by kernel_rfl, by kernel_rfl, by kernel_rfl, rfl, relL_cellAV _ [.nilFunc], relL_cellAV _ [.nilFunc]⟩, fun h => by cases h⟩
-- func() uint64
def ty87 : TyRow := ⟨.func, 1, 8, [.nilF], false, false⟩
theorem ty87_met : ty87.met Try.prog 87 := ⟨⟨(funcOf Try.prog 87).1, (funcOf Try.prog 87).2.1, (funcOf Try.prog 87).2.2, by kernel_rfl⟩, ⟨(Try.prog.info? 87).getD default, .nilFunc, by kernel_rfl, by kernel_rfl, by kernel_rfl, by kernel_rfl, rfl, relL_cellAV _ [.nilFunc], relL_cellAV _ [.nilFunc]⟩, fun h => by cases h⟩
-- func([]api.Entry, int, *int, func(api.Entry, api.Entry) int) int
def ty88 : TyRow := ⟨.func, 1, 8, [.nilF], false, false⟩
theorem ty88_met : ty88.met Try.prog 88 := ⟨⟨(funcOf Try.prog 88).1, (funcOf Try.prog 88).2.1, (funcOf Try.prog 88).2.2, by kernel_rfl⟩, ⟨(Try.prog.info? 88).getD default, .nilFunc, by kernel_rfl, by kernel_rfl, by kernel_rfl, by kernel_rfl, rfl, relL_cellAV _ [.nilFunc], relL_cellAV _ [.nilFunc]⟩, fun h => by cases h⟩
-- *int
def ty89 : TyRow := ⟨.ptr 3, 1, 8, [.nilP], false, false⟩
theorem ty89_met : ty89.met Try.prog 89 := ⟨(show Try.prog.underlying 89 = some (.pointer 3) by kernel_rfl), ⟨(Try.prog.info? 89).getD default, (.pointer none), by kernel_rfl, by kernel_rfl, by kernel_rfl, by kernel_rfl, rfl, relL_cellAV _ [(.pointer none)], relL_cellAV _ [(.pointer none)]⟩, fun h => by cases h⟩
-- func([]api.Entry, int, int, int, *int, func(api.Entry, api.Entry) int) int
def ty90 : TyRow := ⟨.func, 1, 8, [.nilF], false, false⟩
theorem ty90_met : ty90.met Try.prog 90 := ⟨⟨(funcOf Try.prog 90).1, (funcOf Try.prog 90).2.1, (funcOf Try.prog 90).2.2, by kernel_rfl⟩, ⟨(Try.prog.info? 90).getD default, .nilFunc, by kernel_rfl, by kernel_rfl, by kernel_rfl, by kernel_rfl, rfl, relL_cellAV _ [.nilFunc], relL_cellAV _ [.nilFunc]⟩, fun h => by cases h⟩
-- *slices.xorshift
def ty91 : TyRow := ⟨.ptr 85, 1, 8, [.nilP], false, false⟩
theorem ty91_met : ty91.met Try.prog 91 := ⟨(show Try.prog.underlying 91 = some (.pointer 85) by kernel_rfl), ⟨(Try.prog.info? 91).getD default, (.pointer none), by kernel_rfl, by kernel_rfl, by kernel_rfl, by kernel_rfl, rfl, relL_cellAV _ [(.pointer none)], relL_cellAV _ [(.pointer none)]⟩, fun h => by cases h⟩
-- func([]api.Entry, int, int, *int, func(api.Entry, api.Entry) int) (int, int)
def ty93 : TyRow := ⟨.func, 1, 8, [.nilF], false, false⟩
theorem ty93_met : ty93.met Try.prog 93 := ⟨⟨(funcOf Try.prog 93).1, (funcOf Try.prog 93).2.1, (funcOf Try.prog 93).2.2, by kernel_rfl⟩, ⟨(Try.prog.info? 93).getD default, .nilFunc, by kernel_rfl, by kernel_rfl, by kernel_rfl, by kernel_rfl, rfl, relL_cellAV _ [.nilFunc], relL_cellAV _ [.nilFunc]⟩, fun h => by cases h⟩
-- func() string
def ty94 : TyRow := ⟨.func, 1, 8, [.nilF], false, false⟩
theorem ty94_met : ty94.met Try.prog 94 := ⟨⟨(funcOf Try.prog 94).1, (funcOf Try.prog 94).2.1, (funcOf Try.prog 94).2.2, by kernel_rfl⟩, ⟨(Try.prog.info? 94).getD default, .nilFunc, by kernel_rfl, by kernel_rfl, by kernel_rfl, by kernel_rfl, rfl, relL_cellAV _ [.nilFunc], relL_cellAV _ [.nilFunc]⟩, fun h => by cases h⟩
-- struct { _interface *abi.Type; concrete *abi.Type; asserted *abi.Type; missingMethod string }
def ty95 : TyRow := ⟨.struct [(0, 17), (1, 17), (2, 17), (3, 9)], 4, 40, [.nilP, .nilP, .nilP, .raw (.string (ByteArray.mk #[]))], false, false⟩
theorem ty95_met : ty95.met Try.prog 95 := ⟨⟨Try.prog.fieldsOf 95, by kernel_rfl, by kernel_rfl⟩, ⟨(Try.prog.info? 95).getD default, (.agg #[(.pointer none), (.pointer none), (.pointer none), (.string (ByteArray.mk #[]))]), by kernel_rfl, by kernel_rfl, by kernel_rfl, by kernel_rfl, rfl, ⟨[(.pointer none), (.pointer none), (.pointer none), (.string (ByteArray.mk #[]))], relL_cellAV _ [(.pointer none), (.pointer none), (.pointer none), (.string (ByteArray.mk #[]))], rfl⟩, relL_cellAV _ [(.pointer none), (.pointer none), (.pointer none), (.string (ByteArray.mk #[]))]⟩, fun h => by cases h⟩
-- runtime.TypeAssertionError
def ty96 : TyRow := ⟨.struct [(0, 17), (1, 17), (2, 17), (3, 9)], 4, 40, [.nilP, .nilP, .nilP, .raw (.string (ByteArray.mk #[]))], false, false⟩
theorem ty96_met : ty96.met Try.prog 96 := ⟨⟨Try.prog.fieldsOf 96, by kernel_rfl, by kernel_rfl⟩, ⟨(Try.prog.info? 96).getD default, (.agg #[(.pointer none), (.pointer none), (.pointer none), (.string (ByteArray.mk #[]))]), by kernel_rfl, by kernel_rfl, by kernel_rfl, by kernel_rfl, rfl, ⟨[(.pointer none), (.pointer none), (.pointer none), (.string (ByteArray.mk #[]))], relL_cellAV _ [(.pointer none), (.pointer none), (.pointer none), (.string (ByteArray.mk #[]))], rfl⟩, relL_cellAV _ [(.pointer none), (.pointer none), (.pointer none), (.string (ByteArray.mk #[]))]⟩, fun h => by cases h⟩
-- [0]*runtime.PanicNilError
def ty97 : TyRow := ⟨.array 0 16, 0, 0, [], false, false⟩
theorem ty97_met : ty97.met Try.prog 97 := ⟨(show Try.prog.underlying 97 = some (.array 0 16) by kernel_rfl), ⟨(Try.prog.info? 97).getD default, (.agg #[]), by kernel_rfl, by kernel_rfl, by kernel_rfl, by kernel_rfl, rfl, ⟨[], relL_cellAV _ [], rfl⟩, relL_cellAV _ []⟩, fun h => by cases h⟩
-- struct { _ [0]*runtime.PanicNilError }
def ty98 : TyRow := ⟨.struct [(0, 97)], 0, 0, [], false, false⟩
theorem ty98_met : ty98.met Try.prog 98 := ⟨⟨Try.prog.fieldsOf 98, by kernel_rfl, by kernel_rfl⟩, ⟨(Try.prog.info? 98).getD default, (.agg #[]), by kernel_rfl, by kernel_rfl, by kernel_rfl, by kernel_rfl, rfl, ⟨[], relL_cellAV _ [], rfl⟩, relL_cellAV _ []⟩, fun h => by cases h⟩
-- runtime.PanicNilError
def ty99 : TyRow := ⟨.struct [(0, 97)], 0, 0, [], false, false⟩
theorem ty99_met : ty99.met Try.prog 99 := ⟨⟨Try.prog.fieldsOf 99, by kernel_rfl, by kernel_rfl⟩, ⟨(Try.prog.info? 99).getD default, (.agg #[]), by kernel_rfl, by kernel_rfl, by kernel_rfl, by kernel_rfl, rfl, ⟨[], relL_cellAV _ [], rfl⟩, relL_cellAV _ []⟩, fun h => by cases h⟩
-- abi.TFlag
def ty100 : TyRow := ⟨.int .u8, 1, 1, [.lit .u8 0], false, false⟩
theorem ty100_met : ty100.met Try.prog 100 := ⟨(show Try.prog.underlying 100 = some (.int .u8) by kernel_rfl), ⟨(Try.prog.info? 100).getD default, (.int .u8 0), by kernel_rfl, by kernel_rfl, by kernel_rfl, by kernel_rfl, rfl, relL_cellAV _ [(.int .u8 0)], relL_cellAV _ [(.int .u8 0)]⟩, fun h => by cases h⟩
-- abi.Kind
def ty101 : TyRow := ⟨.int .u8, 1, 1, [.lit .u8 0], false, false⟩
theorem ty101_met : ty101.met Try.prog 101 := ⟨(show Try.prog.underlying 101 = some (.int .u8) by kernel_rfl), ⟨(Try.prog.info? 101).getD default, (.int .u8 0), by kernel_rfl, by kernel_rfl, by kernel_rfl, by kernel_rfl, rfl, relL_cellAV _ [(.int .u8 0)], relL_cellAV _ [(.int .u8 0)]⟩, fun h => by cases h⟩
-- func(unsafe.Pointer, unsafe.Pointer) bool
def ty102 : TyRow := ⟨.func, 1, 8, [.nilF], false, false⟩
theorem ty102_met : ty102.met Try.prog 102 := ⟨⟨(funcOf Try.prog 102).1, (funcOf Try.prog 102).2.1, (funcOf Try.prog 102).2.2, by kernel_rfl⟩, ⟨(Try.prog.info? 102).getD default, .nilFunc, by kernel_rfl, by kernel_rfl, by kernel_rfl, by kernel_rfl, rfl, relL_cellAV _ [.nilFunc], relL_cellAV _ [.nilFunc]⟩, fun h => by cases h⟩
-- *uint8
def ty103 : TyRow := ⟨.ptr 5, 1, 8, [.nilP], false, false⟩
theorem ty103_met : ty103.met Try.prog 103 := ⟨(show Try.prog.underlying 103 = some (.pointer 5) by kernel_rfl), ⟨(Try.prog.info? 103).getD default, (.pointer none), by kernel_rfl, by kernel_rfl, by kernel_rfl, by kernel_rfl, rfl, relL_cellAV _ [(.pointer none)], relL_cellAV _ [(.pointer none)]⟩, fun h => by cases h⟩
-- abi.NameOff
def ty104 : TyRow := ⟨.int .i32, 1, 4, [.lit .i32 0], false, false⟩
theorem ty104_met : ty104.met Try.prog 104 := ⟨(show Try.prog.underlying 104 = some (.int .i32) by kernel_rfl), ⟨(Try.prog.info? 104).getD default, (.int .i32 0), by kernel_rfl, by kernel_rfl, by kernel_rfl, by kernel_rfl, rfl, relL_cellAV _ [(.int .i32 0)], relL_cellAV _ [(.int .i32 0)]⟩, fun h => by cases h⟩
-- abi.TypeOff
def ty105 : TyRow := ⟨.int .i32, 1, 4, [.lit .i32 0], false, false⟩
theorem ty105_met : ty105.met Try.prog 105 := ⟨(show Try.prog.underlying 105 = some (.int .i32) by kernel_rfl), ⟨(Try.prog.info? 105).getD default, (.int .i32 0), by kernel_rfl, by kernel_rfl, by kernel_rfl, by kernel_rfl, rfl, relL_cellAV _ [(.int .i32 0)], relL_cellAV _ [(.int .i32 0)]⟩, fun h => by cases h⟩
-- struct { Size_ uintptr; PtrBytes uintptr; Hash uint32; TFlag abi.TFlag; Align_ uint8; FieldAlign_ ui
def ty106 : TyRow := ⟨.struct [(0, 12), (1, 12), (2, 83), (3, 100), (4, 5), (5, 5), (6, 101), (7, 102), (8, 103), (9, 104), (10, 105)], 11, 48, [.lit .u64 0, .lit .u64 0, .lit .u32 0, .lit .u8 0, .lit .u8 0, .lit .u8 0, .lit .u8 0, .nilF, .nilP, .lit .i32 0, .lit .i32 0], false, false⟩
theorem ty106_met : ty106.met Try.prog 106 := ⟨⟨Try.prog.fieldsOf 106, by kernel_rfl, by kernel_rfl⟩, ⟨(Try.prog.info? 106).getD default, (.agg #[(.int .u64 0), (.int .u64 0), (.int .u32 0), (.int .u8 0), (.int .u8 0), (.int .u8 0), (.int .u8 0), .nilFunc, (.pointer none), (.int .i32 0), (.int .i32 0)]), by kernel_rfl, by kernel_rfl, by kernel_rfl, by kernel_rfl, rfl, ⟨[(.int .u64 0), (.int .u64 0), (.int .u32 0), (.int .u8 0), (.int .u8 0), (.int .u8 0), (.int .u8 0), .nilFunc, (.pointer none), (.int .i32 0), (.int .i32 0)], relL_cellAV _ [(.int .u64 0), (.int .u64 0), (.int .u32 0), (.int .u8 0), (.int .u8 0), (.int .u8 0), (.int .u8 0), .nilFunc, (.pointer none), (.int .i32 0), (.int .i32 0)], rfl⟩, relL_cellAV _ [(.int .u64 0), (.int .u64 0), (.int .u32 0), (.int .u8 0), (.int .u8 0), (.int .u8 0), (.int .u8 0), .nilFunc, (.pointer none), (.int .i32 0), (.int .i32 0)]⟩, fun h => by cases h⟩
-- abi.Type
def ty107 : TyRow := ⟨.struct [(0, 12), (1, 12), (2, 83), (3, 100), (4, 5), (5, 5), (6, 101), (7, 102), (8, 103), (9, 104), (10, 105)], 11, 48, [.lit .u64 0, .lit .u64 0, .lit .u32 0, .lit .u8 0, .lit .u8 0, .lit .u8 0, .lit .u8 0, .nilF, .nilP, .lit .i32 0, .lit .i32 0], false, false⟩
theorem ty107_met : ty107.met Try.prog 107 := ⟨⟨Try.prog.fieldsOf 107, by kernel_rfl, by kernel_rfl⟩, ⟨(Try.prog.info? 107).getD default, (.agg #[(.int .u64 0), (.int .u64 0), (.int .u32 0), (.int .u8 0), (.int .u8 0), (.int .u8 0), (.int .u8 0), .nilFunc, (.pointer none), (.int .i32 0), (.int .i32 0)]), by kernel_rfl, by kernel_rfl, by kernel_rfl, by kernel_rfl, rfl, ⟨[(.int .u64 0), (.int .u64 0), (.int .u32 0), (.int .u8 0), (.int .u8 0), (.int .u8 0), (.int .u8 0), .nilFunc, (.pointer none), (.int .i32 0), (.int .i32 0)], relL_cellAV _ [(.int .u64 0), (.int .u64 0), (.int .u32 0), (.int .u8 0), (.int .u8 0), (.int .u8 0), (.int .u8 0), .nilFunc, (.pointer none), (.int .i32 0), (.int .i32 0)], rfl⟩, relL_cellAV _ [(.int .u64 0), (.int .u64 0), (.int .u32 0), (.int .u8 0), (.int .u8 0), (.int .u8 0), (.int .u8 0), .nilFunc, (.pointer none), (.int .i32 0), (.int .i32 0)]⟩, fun h => by cases h⟩

def tyRows : List (Option TyRow) := [none, some ty1, some ty2, some ty3, some ty4, some ty5, some ty6, some ty7, some ty8, some ty9, some ty10, some ty11, some ty12, some ty13, some ty14, some ty15, some ty16, some ty17, some ty18, some ty19, some ty20, some ty21, some ty22, some ty23, some ty24, some ty25, some ty26, some ty27, some ty28, some ty29, none, some ty31, some ty32, some ty33, some ty34, some ty35, some ty36, some ty37, some ty38, some ty39, some ty40, some ty41, some ty42, some ty43, some ty44, some ty45, some ty46, some ty47, some ty48, some ty49, some ty50, some ty51, some ty52, some ty53, some ty54, some ty55, some ty56, some ty57, some ty58, some ty59, some ty60, some ty61, some ty62, some ty63, some ty64, some ty65, some ty66, some ty67, some ty68, some ty69, some ty70, some ty71, some ty72, none, some ty74, some ty75, some ty76, none, some ty78, some ty79, some ty80, some ty81, some ty82, some ty83, some ty84, some ty85, some ty86, some ty87, some ty88, some ty89, some ty90, some ty91, none, some ty93, some ty94, some ty95, some ty96, some ty97, some ty98, some ty99, some ty100, some ty101, some ty102, some ty103, some ty104, some ty105, some ty106, some ty107]
def tab : Tab := fun t => (tyRows[t]?).join
theorem tyRows_met : RowsMet Try.prog 0 tyRows := ⟨ty1_met, ty2_met, ty3_met, ty4_met, ty5_met, ty6_met, ty7_met, ty8_met, ty9_met, ty10_met, ty11_met, ty12_met, ty13_met, ty14_met, ty15_met, ty16_met, ty17_met, ty18_met, ty19_met, ty20_met, ty21_met, ty22_met, ty23_met, ty24_met, ty25_met, ty26_met, ty27_met, ty28_met, ty29_met, ty31_met, ty32_met, ty33_met, ty34_met, ty35_met, ty36_met, ty37_met, ty38_met, ty39_met, ty40_met, ty41_met, ty42_met, ty43_met, ty44_met, ty45_met, ty46_met, ty47_met, ty48_met, ty49_met, ty50_met, ty51_met, ty52_met, ty53_met, ty54_met, ty55_met, ty56_met, ty57_met, ty58_met, ty59_met, ty60_met, ty61_met, ty62_met, ty63_met, ty64_met, ty65_met, ty66_met, ty67_met, ty68_met, ty69_met, ty70_met, ty71_met, ty72_met, ty74_met, ty75_met, ty76_met, ty78_met, ty79_met, ty80_met, ty81_met, ty82_met, ty83_met, ty84_met, ty85_met, ty86_met, ty87_met, ty88_met, ty89_met, ty90_met, ty91_met, ty93_met, ty94_met, ty95_met, ty96_met, ty97_met, ty98_met, ty99_met, ty100_met, ty101_met, ty102_met, ty103_met, ty104_met, ty105_met, ty106_met, ty107_met, trivial⟩
theorem tab_met : tab.met Try.prog := fun t R h => by simpa using rowsMet_get tyRows 0 t R tyRows_met h
end Sx
end Go.Proofs.Ytkadlfadmjhahaa

/-
  The records of this seat, and how they lie in cells.
-/
namespace Go.Proofs.Ytkadlfadmjhahaa
namespace Sx
open Go

def decI (x : AV) : Option Int := match x.num with | some (.i64, n, _) => some n | _ => none
def decB (x : AV) : Option Bool := match x.bl with | some (b, _) => some b | none => none
theorem decI_ok {x : AV} {n : Int} (h : decI x = some n) {r : Nm} {v : Value} (e : rel r x v) : rel r (.int .i64 n) v := by
  unfold decI at h
  split at h
  · rename_i m l hx; cases h; exact rel_num hx e
  · cases h
theorem decB_ok {x : AV} {b : Bool} (h : decB x = some b) {r : Nm} {v : Value} (e : rel r x v) : rel r (.bool b) v := by
  unfold decB at h
  split at h
  · rename_i m l hx; cases h; exact rel_bl hx e
  · cases h
def intDec : List AV → Option Int
  | [x] => decI x
  | _ => none
theorem intBack (cs : List AV) (a : Int) (h : intDec cs = some a) (r : Nm) (vs : List Value) (hr : relL r cs vs) : relL r [.int .i64 a] vs := by
  unfold intDec at h
  split at h
  · simp only [relL] at hr; obtain ⟨v, us, rfl, h1, rfl⟩ := hr; exact relL_cons.2 ⟨decI_ok h h1, relL_nil⟩
  · cases h
def intLay : Enc Int := ⟨1, false, fun n => [.int .i64 n], intDec, 0, fun _ => rfl, intBack, fun a r vs h => relL_one (xs := [.int .i64 a]) rfl h, by decide⟩
def ptrDec : List AV → Option (Option (Nat × Nat))
  | [.rp o] => some o
  | [.nilP] => some none
  | _ => none
theorem ptrBack (cs : List AV) (a : Option (Nat × Nat)) (h : ptrDec cs = some a) (r : Nm) (vs : List Value) (hr : relL r cs vs) : relL r [.rp a] vs := by
  unfold ptrDec at h
  split at h
  · cases h; exact hr
  · cases h; simp only [relL] at hr; obtain ⟨v, us, rfl, h1, rfl⟩ := hr; exact relL_cons.2 ⟨h1, relL_nil⟩
  · cases h
def ptrLay : Enc (Option (Nat × Nat)) := ⟨1, false, fun n => [.rp n], ptrDec, none, fun _ => rfl, ptrBack, fun a r vs h => relL_one (xs := [.rp a]) rfl h, by decide⟩
def boolDec : List AV → Option Bool
  | [x] => decB x
  | _ => none
theorem boolBack (cs : List AV) (a : Bool) (h : boolDec cs = some a) (r : Nm) (vs : List Value) (hr : relL r cs vs) : relL r [.bool a] vs := by
  unfold boolDec at h
  split at h
  · simp only [relL] at hr; obtain ⟨v, us, rfl, h1, rfl⟩ := hr; exact relL_cons.2 ⟨decB_ok h h1, relL_nil⟩
  · cases h
def boolLay : Enc Bool := ⟨1, false, fun n => [.bool n], boolDec, false, fun _ => rfl, boolBack, fun a r vs h => relL_one (xs := [.bool a]) rfl h, by decide⟩

structure Ent where
  key : Int
  value : Int
  weight : Int
  node : Int
  deriving DecidableEq
def Ent.enc (a : Ent) : List AV := [.int .i64 a.key, .int .i64 a.value, .int .i64 a.weight, .int .i64 a.node]
def Ent.dec : List AV → Option Ent
  | [x0, x1, x2, x3] => (decI x0).bind fun n0 => (decI x1).bind fun n1 => (decI x2).bind fun n2 => (decI x3).bind fun n3 => some (⟨n0, n1, n2, n3⟩ : Ent)
  | _ => none
theorem Ent.back (cs : List AV) (a : Ent) (h : Ent.dec cs = some a) (r : Nm) (vs : List Value) (hr : relL r cs vs) : relL r (Ent.enc a) vs := by
  unfold Ent.dec at h
  split at h
  · simp only [relL] at hr
    obtain ⟨v0, u0, rfl, h0, ⟨v1, u1, rfl, h1, ⟨v2, u2, rfl, h2, ⟨v3, u3, rfl, h3, rfl⟩⟩⟩⟩ := hr
    obtain ⟨n0, e0, h⟩ := Option.bind_eq_some_iff.1 h
    obtain ⟨n1, e1, h⟩ := Option.bind_eq_some_iff.1 h
    obtain ⟨n2, e2, h⟩ := Option.bind_eq_some_iff.1 h
    obtain ⟨n3, e3, h⟩ := Option.bind_eq_some_iff.1 h
    cases h
    simp only [Ent.enc]
    exact relL_cons.2 ⟨decI_ok e0 h0, relL_cons.2 ⟨decI_ok e1 h1, relL_cons.2 ⟨decI_ok e2 h2, relL_cons.2 ⟨decI_ok e3 h3, relL_nil⟩⟩⟩⟩
  · cases h
def Ent.lay : Enc Ent := ⟨4, true, Ent.enc, Ent.dec, ⟨0, 0, 0, 0⟩, fun _ => rfl, Ent.back, fun a r vs h => relL_one (xs := Ent.enc a) rfl h, by decide⟩
structure Three where
  a : Int
  b : Int
  c : Int
  deriving DecidableEq
def Three.enc (a : Three) : List AV := [.int .i64 a.a, .int .i64 a.b, .int .i64 a.c]
def Three.dec : List AV → Option Three
  | [x0, x1, x2] => (decI x0).bind fun n0 => (decI x1).bind fun n1 => (decI x2).bind fun n2 => some (⟨n0, n1, n2⟩ : Three)
  | _ => none
theorem Three.back (cs : List AV) (a : Three) (h : Three.dec cs = some a) (r : Nm) (vs : List Value) (hr : relL r cs vs) : relL r (Three.enc a) vs := by
  unfold Three.dec at h
  split at h
  · simp only [relL] at hr
    obtain ⟨v0, u0, rfl, h0, ⟨v1, u1, rfl, h1, ⟨v2, u2, rfl, h2, rfl⟩⟩⟩ := hr
    obtain ⟨n0, e0, h⟩ := Option.bind_eq_some_iff.1 h
    obtain ⟨n1, e1, h⟩ := Option.bind_eq_some_iff.1 h
    obtain ⟨n2, e2, h⟩ := Option.bind_eq_some_iff.1 h
    cases h
    simp only [Three.enc]
    exact relL_cons.2 ⟨decI_ok e0 h0, relL_cons.2 ⟨decI_ok e1 h1, relL_cons.2 ⟨decI_ok e2 h2, relL_nil⟩⟩⟩
  · cases h
def Three.lay : Enc Three := ⟨3, true, Three.enc, Three.dec, ⟨0, 0, 0⟩, fun _ => rfl, Three.back, fun a r vs h => relL_one (xs := Three.enc a) rfl h, by decide⟩
end Sx
end Go.Proofs.Ytkadlfadmjhahaa

/-
  The kinds of elements of this seat.
-/
namespace Go.Proofs.Ytkadlfadmjhahaa
namespace Sx
open Go

def rsDec : List AV → Option (Option (Nat × Nat) × Nat × Nat)
  | [.rs o l c] => some (o, l, c)
  | [.nilS] => some (none, 0, 0)
  | _ => none
theorem rsBack (cs : List AV) (a : Option (Nat × Nat) × Nat × Nat) (h : rsDec cs = some a) (r : Nm) (vs : List Value) (hr : relL r cs vs) : relL r [.rs a.1 a.2.1 a.2.2] vs := by
  unfold rsDec at h
  split at h
  · cases h; exact hr
  · cases h; simp only [relL] at hr; obtain ⟨v, us, rfl, h1, rfl⟩ := hr; exact relL_cons.2 ⟨h1, relL_nil⟩
  · cases h
/-- A slice by its block's own number. -/
def rsLay : Enc (Option (Nat × Nat) × Nat × Nat) := ⟨1, false, fun n => [.rs n.1 n.2.1 n.2.2], rsDec, (none, 0, 0), fun _ => rfl, rsBack, fun a r vs h => relL_one (xs := [.rs a.1 a.2.1 a.2.2]) rfl h, by decide⟩

inductive Kd where
  | int | bool | ent | ptr | three | rws
  deriving DecidableEq

@[reducible] def kEl : Kd → Type
  | .int => Int
  | .bool => Bool
  | .ent => Ent
  | .ptr => Option (Nat × Nat)
  | .three => Three
  | .rws => Option (Nat × Nat) × Nat × Nat
@[reducible] def kEnc : (k : Kd) → Enc (kEl k)
  | .int => intLay
  | .bool => boolLay
  | .ent => Ent.lay
  | .ptr => ptrLay
  | .three => Three.lay
  | .rws => rsLay
/-! ## a bag of rows, by their blocks' own numbers -/
structure BRow where
  T : Nat
  k : Kd
  xs : List (kEl k)
  sp : Nat
abbrev Bag := Nat → Option BRow
def Bag.D (m : Bag) (_ : Nat) (H : Hp) : Prop := ∀ x, match m x with
  | none => H x = none
  | some q => ∃ c, H x = some (.cells c q.T (0, 0)) ∧ rowAt (kEnc q.k) (fun _ => none) q.xs c 0 ∧ c.size = (q.xs.length + q.sp) * (kEnc q.k).w ∧ q.xs.length + q.sp ≤ maxLen
def Bag.nil : Bag := fun _ => none
def Bag.put (m : Bag) (n : Nat) (q : BRow) : Bag := fun x => if x = n then some q else m x
def Bag.rem (m : Bag) (n : Nat) : Bag := fun x => if x = n then none else m x
abbrev V0 : Uni := ⟨Kd, inferInstance, kEl, kEnc, Bag, Bag.D⟩
instance plainV : Plain V0 := ⟨fun k a f => by cases k <;> rfl⟩
instance bareV : Bare V0 := ⟨fun k a => by cases k <;> rfl⟩
abbrev V : Uni := V0
def kinds : Kinds V := fun t => match t with
  | 3 => some .int
  | 4 => some .bool
  | 29 => some .ent
  | 24 => some .ptr
  | 27 => some .three
  | 26 => some .rws
  | _ => none
theorem kinds_met : kinds.met tab := by
  intro e k h
  unfold kinds at h
  split at h <;> cases h
  · exact ⟨ty3, rfl, rfl, rfl, by decide, fun r vs h => h⟩
  · exact ⟨ty4, rfl, rfl, rfl, by decide, fun r vs h => h⟩
  · exact ⟨ty29, rfl, rfl, rfl, by decide, fun r vs h => h⟩
  · exact ⟨ty24, rfl, rfl, rfl, by decide, fun r vs h => h⟩
  · exact ⟨ty27, rfl, rfl, rfl, by decide, fun r vs h => h⟩
  · exact ⟨ty26, rfl, rfl, rfl, by decide, fun r vs h => rsBack [.nilS] (none, 0, 0) rfl r vs h⟩
theorem mixed_met : Try.prog.follows .mixedOrders = true := by kernel_rfl

noncomputable def fnsOf (l : List (Nat × Func)) : Nat → Option Func := fun g => l.lookup g
end Sx
end Go.Proofs.Ytkadlfadmjhahaa

/-
  Keys made alike to chance: the runs of the machine.
-/
namespace Go.Proofs.Ytkadlfadmjhahaa
namespace Sx
open Go
set_option maxRecDepth 100000
set_option linter.unusedVariables false

noncomputable def fnsM : Nat → Option Func := fun g => match g with | 42 => some Try.f42 | 49 => some Try.f49 | _ => none
noncomputable def cfgM : Cfg Try.prog V := ⟨tab, kinds, fnsM, fun _ => none, fun _ _ => none⟩
theorem tmix (s k : Int) : runF cfgM 60 30 Try.f30 [.int .i64 s, .int .i64 k] [] 2 = Out.need ((0 : Int) ≤ (30 : Int)) (Out.need ((0 : Int) ≤ (27 : Int)) (Out.need ((0 : Int) ≤ (31 : Int)) (Out.fin (.int IntKind.u64 (bitsOp BinOp.xor IntKind.u64 (IntKind.u64.wrap (bitsOp BinOp.xor IntKind.u64 (IntKind.u64.wrap (bitsOp BinOp.xor IntKind.u64 (bitsOp BinOp.xor IntKind.u64 (IntKind.u64.wrap k) (IntKind.u64.wrap (IntKind.u64.wrap s * (11400714819323198485 : Int)))) ((bitsOp BinOp.xor IntKind.u64 (IntKind.u64.wrap k) (IntKind.u64.wrap (IntKind.u64.wrap s * (11400714819323198485 : Int)))).fdiv (1073741824 : Int)) * (13787848793156543929 : Int))) ((IntKind.u64.wrap (bitsOp BinOp.xor IntKind.u64 (bitsOp BinOp.xor IntKind.u64 (IntKind.u64.wrap k) (IntKind.u64.wrap (IntKind.u64.wrap s * (11400714819323198485 : Int)))) ((bitsOp BinOp.xor IntKind.u64 (IntKind.u64.wrap k) (IntKind.u64.wrap (IntKind.u64.wrap s * (11400714819323198485 : Int)))).fdiv (1073741824 : Int)) * (13787848793156543929 : Int))).fdiv (134217728 : Int)) * (10723151780598845931 : Int))) ((IntKind.u64.wrap (bitsOp BinOp.xor IntKind.u64 (IntKind.u64.wrap (bitsOp BinOp.xor IntKind.u64 (bitsOp BinOp.xor IntKind.u64 (IntKind.u64.wrap k) (IntKind.u64.wrap (IntKind.u64.wrap s * (11400714819323198485 : Int)))) ((bitsOp BinOp.xor IntKind.u64 (IntKind.u64.wrap k) (IntKind.u64.wrap (IntKind.u64.wrap s * (11400714819323198485 : Int)))).fdiv (1073741824 : Int)) * (13787848793156543929 : Int))) ((IntKind.u64.wrap (bitsOp BinOp.xor IntKind.u64 (bitsOp BinOp.xor IntKind.u64 (IntKind.u64.wrap k) (IntKind.u64.wrap (IntKind.u64.wrap s * (11400714819323198485 : Int)))) ((bitsOp BinOp.xor IntKind.u64 (IntKind.u64.wrap k) (IntKind.u64.wrap (IntKind.u64.wrap s * (11400714819323198485 : Int)))).fdiv (1073741824 : Int)) * (13787848793156543929 : Int))).fdiv (134217728 : Int)) * (10723151780598845931 : Int))).fdiv (2147483648 : Int)))) [] (2 : Nat)))) := by kernel_rfl

theorem tindex (h row size : Int) : runF cfgM 60 29 Try.f29 [.int .u64 h, .int .i64 row, .int .i64 size] [] 3 = Out.ite (decide (size < (1 : Int))) (Out.fin (.lit .i64 (0 : Int)) [] (3 : Nat)) (Out.need ((0 : Int) ≤ bitsOp BinOp.and IntKind.u64 (IntKind.u64.wrap ((IntKind.i64.wrap ((16 : Int) * row)).tmod (64 : Int))) (63 : Int)) (Out.need ((0 : Int) ≤ IntKind.u64.wrap ((64 : Int) - bitsOp BinOp.and IntKind.u64 (IntKind.u64.wrap ((IntKind.i64.wrap ((16 : Int) * row)).tmod (64 : Int))) (63 : Int))) (Out.need (IntKind.u64.wrap size ≠ (0 : Int)) (Out.fin (.int .i64 (IntKind.i64.wrap ((bitsOp BinOp.or IntKind.u64 (IntKind.u64.wrap (h * (2 : Int) ^ min (bitsOp BinOp.and IntKind.u64 (IntKind.u64.wrap ((IntKind.i64.wrap ((16 : Int) * row)).tmod (64 : Int))) (63 : Int)).toNat (64 : Nat))) (h.fdiv ((2 : Int) ^ min (IntKind.u64.wrap ((64 : Int) - bitsOp BinOp.and IntKind.u64 (IntKind.u64.wrap ((IntKind.i64.wrap ((16 : Int) * row)).tmod (64 : Int))) (63 : Int))).toNat (64 : Nat)))).tmod (IntKind.u64.wrap size)))) [] (3 : Nat))))) := by kernel_rfl

end Sx
end Go.Proofs.Ytkadlfadmjhahaa

/-
  Keys made alike to chance, and places among some: what the functions do.
-/
namespace Go.Proofs.Ytkadlfadmjhahaa
namespace Sx
open Go
set_option linter.unusedSimpArgs false
set_option linter.unusedVariables false

theorem cfgM_ok : cfgM.ok := by
  refine ⟨tab_met, kinds_met, mixed_met, fun g fn h => ?_, fun g H h => (by cases h)⟩
  unfold cfgM fnsM at h
  simp only at h
  split at h <;> cases h <;> exact ⟨by kernel_rfl, by kernel_rfl⟩

def xorU (a b : Int) : Int := bitsOp .xor .u64 a b
def mulU (a b : Int) : Int := IntKind.wrap .u64 (a * b)
def mixA (s k : Int) : Int := xorU (IntKind.wrap .u64 k) (mulU (IntKind.wrap .u64 s) 11400714819323198485)
def mixB (s k : Int) : Int := mulU (xorU (mixA s k) ((mixA s k).fdiv 1073741824)) 13787848793156543929
def mixC (s k : Int) : Int := mulU (xorU (mixB s k) ((mixB s k).fdiv 134217728)) 10723151780598845931
/-- A key's word. -/
def mixF (s k : Int) : Int := xorU (mixC s k) ((mixC s k).fdiv 2147483648)
def turnBy (row : Int) : Int := bitsOp .and .u64 (IntKind.wrap .u64 ((IntKind.wrap .i64 (16 * row)).tmod 64)) 63
def turnF (h row : Int) : Int := bitsOp .or .u64 (IntKind.wrap .u64 (h * 2 ^ min (turnBy row).toNat 64)) (h.fdiv (2 ^ min (IntKind.wrap .u64 (64 - turnBy row)).toNat 64))
/-- A place among so many. -/
def idxF (h row size : Int) : Int := if size < 1 then 0 else IntKind.wrap .i64 ((turnF h row).tmod (IntKind.wrap .u64 size))

theorem wrapU_nonneg (x : Int) : 0 ≤ IntKind.wrap .u64 x := by simp [IntKind.wrap, IntKind.bits, IntKind.signed]; omega
theorem wrapU_low {x : Int} (h0 : 0 ≤ x) (h : x < 18446744073709551616) : IntKind.wrap .u64 x = x := by simp [IntKind.wrap, IntKind.bits, IntKind.signed]; omega
theorem bitsU_nonneg (op : BinOp) (x y : Int) : 0 ≤ bitsOp op .u64 x y := by
  unfold bitsOp
  dsimp only
  split <;> exact wrapU_nonneg _
theorem idx_range {h row size : Int} (h1 : 1 ≤ size) (h2 : size ≤ 4611686018427387904) : 0 ≤ idxF h row size ∧ idxF h row size < size := by
  unfold idxF
  rw [if_neg (by omega), wrapU_low (by omega) (by omega)]
  have a0 : 0 ≤ turnF h row := bitsU_nonneg _ _ _
  have a1 : 0 ≤ (turnF h row).tmod size := Int.tmod_nonneg _ a0
  have a2 : (turnF h row).tmod size < size := Int.tmod_lt_of_pos _ (by omega)
  rw [wrap_low (by omega) (by omega)]
  exact ⟨a1, a2⟩

def runMix : RunFree V := fun ar K => match ar with
  | [.int .i64 s, .int .i64 k] => K (.int .u64 (mixF s k)) []
  | _ => .bad 500
theorem hMix : HookOk Try.prog 30 (hookFree [.int .i64, .int .i64] runMix) := by
  refine free_hook (C := cfgM) cfgM_ok (n := 60) (fn := Try.f30) ⟨by kernel_rfl, by kernel_rfl⟩ (by kernel_rfl) ?_
  intro M ar K0 H
  unfold runMix at H
  split at H
  · rename_i s k
    refine ⟨show 2 ≤ _ by decide +kernel, ?_⟩
    show (runF cfgM 60 30 Try.f30 [.int .i64 s, .int .i64 k] [] 2).holds _
    rw [tmix]
    exact ⟨by decide, by decide, by decide, _, _, H, endPlain (AV.sub_int rfl) rfl⟩
  · exact H.elim
def runIndex : RunFree V := fun ar K => match ar with
  | [.int .u64 h, .int .i64 row, .int .i64 size] => .need (size ≤ 4611686018427387904) (K (.int .i64 (idxF h row size)) [])
  | _ => .bad 500
theorem hIndex : HookOk Try.prog 29 (hookFree [.int .u64, .int .i64, .int .i64] runIndex) := by
  refine free_hook (C := cfgM) cfgM_ok (n := 60) (fn := Try.f29) ⟨by kernel_rfl, by kernel_rfl⟩ (by kernel_rfl) ?_
  intro M ar K0 H
  unfold runIndex at H
  split at H
  · rename_i h row size
    obtain ⟨hs, H⟩ := H
    refine ⟨show 3 ≤ _ by decide +kernel, ?_⟩
    show (runF cfgM 60 29 Try.f29 [.int .u64 h, .int .i64 row, .int .i64 size] [] 3).holds _
    rw [tindex]
    simp only [Out.holds, decide_eq_true_eq, decide_eq_false_iff_not]
    refine ⟨fun hz => ⟨_, _, H, endPlain (AV.sub_lit (by unfold idxF; rw [if_pos hz])) rfl⟩, fun hz => ⟨bitsU_nonneg _ _ _, wrapU_nonneg _, ?_, _, _, H, endPlain (AV.sub_int (by unfold idxF; rw [if_neg hz]; rfl)) rfl⟩⟩
    rw [wrapU_low (by omega) (by omega)]; omega
  · exact H.elim

end Sx
end Go.Proofs.Ytkadlfadmjhahaa

/-
  Tables as they lie in a pool: chains of links, rows of chains; plain laws.
-/
namespace Go.Proofs.Ytkadlfadmjhahaa
namespace Sx
open Go
set_option linter.unusedSimpArgs false
set_option linter.unusedVariables false

abbrev Adr := Option (Nat × Nat)
def e0 : Ent := ⟨0, 0, 0, 0⟩
def entPD (e : Ent) : List PD := [.int .i64 e.key, .int .i64 e.value, .int .i64 e.weight, .int .i64 e.node]
def linkPD (e : Ent) (o : Adr) : List PD := [.int .i64 e.key, .int .i64 e.value, .int .i64 e.weight, .int .i64 e.node, .ptr o]
abbrev Chn := List (Nat × Ent)

/-- A chain of links. -/
def Seg (p : Pool) : Adr → Chn → Prop
  | o, [] => o = none
  | o, (a, e) :: c => o = some (a, 0) ∧ ∃ o', p a = some (59, linkPD e o') ∧ Seg p o' c

/-- Whose a block is. -/
inductive Lab where
  | no | me | arr (old : Bool) | lk (old : Bool) (i : Nat) | loose
  deriving DecidableEq

def Arr (p : Pool) (lab : Nat → Lab) (old : Bool) (blk : Nat) (cs : List Chn) (from_ : Nat) : Prop :=
  ∃ hs : List Adr, p blk = some (57, hs.map PD.ptr) ∧ hs.length = cs.length ∧ lab blk = .arr old ∧
    ∀ i, from_ ≤ i → i < cs.length → Seg p (hs.getD i none) (cs.getD i []) ∧ (∀ x ∈ cs.getD i [], lab x.1 = .lk old i) ∧ ((cs.getD i []).map (·.1)).Nodup

structure TL where
  seed : Int
  bb : Nat
  B : List Chn
  ob : Nat
  O : List Chn
  moved : Nat
  len : Nat
  lab : Nat → Lab

def TL.oo (L : TL) : Adr := if L.O = [] then none else some (L.ob, 0)
def TabAt (p : Pool) (b : Nat) (L : TL) : Prop :=
  p b = some (54, [.int .i64 L.seed, .sl (some (L.bb, 0)) L.B.length L.B.length, .sl L.oo L.O.length L.O.length, .int .i64 (L.moved : Int), .int .i64 (L.len : Int)]) ∧ L.lab b = .me ∧
  Arr p L.lab false L.bb L.B 0 ∧ (L.O ≠ [] → Arr p L.lab true L.ob L.O L.moved) ∧ L.moved ≤ L.O.length ∧ ∀ n, L.lab n ≠ .no → p n ≠ none
/-- How many buckets there may be; that there are some. -/
def TL.fits (L : TL) : Prop := 1 ≤ L.B.length ∧ L.B.length ≤ 1073741824 ∧ L.O.length ≤ 1073741824 ∧ L.len ≤ 1073741824

/-! ## where a key's chain is -/
def idxN (seed key : Int) (n : Nat) : Nat := (idxF (mixF seed key) 0 (n : Int)).toNat
def TL.inOld (L : TL) (key : Int) : Bool := decide (L.moved < L.O.length) && decide (L.moved ≤ idxN L.seed key L.O.length)
def TL.chain (L : TL) (key : Int) : Chn := if L.inOld key then L.O.getD (idxN L.seed key L.O.length) [] else L.B.getD (idxN L.seed key L.B.length) []
def TL.head (L : TL) (key : Int) : Nat × Nat := if L.inOld key then (L.ob, idxN L.seed key L.O.length) else (L.bb, idxN L.seed key L.B.length)
def cellOf (c0 : Nat × Nat) (c : Chn) : Nat → Nat × Nat
  | 0 => c0
  | i + 1 => ((c.getD i (0, e0)).1, 4)
def placeOf (c : Chn) (key : Int) : Nat := c.findIdx (fun x => decide (x.2.key = key))
def TL.cell (L : TL) (key : Int) : Nat × Nat := cellOf (L.head key) (L.chain key) (placeOf (L.chain key) key)

theorem idxN_lt {seed key : Int} {n : Nat} (h : 1 ≤ n) (h2 : n ≤ 1073741824) : idxN seed key n < n := by
  have := idx_range (h := mixF seed key) (row := 0) (size := (n : Int)) (by omega) (by omega)
  unfold idxN; omega
theorem idxN_cast {seed key : Int} {n : Nat} (h : 1 ≤ n) (h2 : n ≤ 1073741824) : ((idxN seed key n : Nat) : Int) = idxF (mixF seed key) 0 (n : Int) := by
  have := idx_range (h := mixF seed key) (row := 0) (size := (n : Int)) (by omega) (by omega)
  unfold idxN; omega

/-! ## reading -/
theorem at_whole {p : Pool} {b T : Nat} {cs : List PD} (h : p b = some (T, cs)) (off : Nat) (ds : List PD) (hd : (cs.drop off).take ds.length = ds) (hl : off + ds.length ≤ cs.length) : p.at (some (b, off)) ds :=
  ⟨b, off, T, cs, rfl, h, hl, hd⟩
theorem at_arr {p : Pool} {b T : Nat} {hs : List Adr} (h : p b = some (T, hs.map PD.ptr)) {i : Nat} (hi : i < hs.length) : p.at (some (b, i)) [.ptr (hs.getD i none)] := by
  refine at_whole h i _ ?_ (by simp; omega)
  show ((hs.map PD.ptr).drop i).take 1 = _
  rw [List.drop_eq_getElem_cons (by simpa using hi)]
  simp [hi]
theorem Seg.nil {p : Pool} {o : Adr} : Seg p o [] ↔ o = none := Iff.rfl
theorem Seg.at_ {p : Pool} : ∀ {o : Adr} {c : Chn}, Seg p o c → ∀ {i : Nat}, i < c.length → ∃ o', p (c.getD i (0, e0)).1 = some (59, linkPD (c.getD i (0, e0)).2 o') ∧ Seg p o' (c.drop (i + 1))
  | o, (a, e) :: c, ⟨_, o', h1, h2⟩, 0, _ => ⟨o', h1, by simpa using h2⟩
  | o, (a, e) :: c, ⟨_, o', h1, h2⟩, i + 1, h => by
    obtain ⟨o2, g1, g2⟩ := Seg.at_ h2 (i := i) (by simpa using h)
    exact ⟨o2, by simpa using g1, by simpa using g2⟩
/-- What a cell of a chain holds: the head of what is left of it. -/
theorem Seg.cell {p : Pool} {o : Adr} {c : Chn} {c0 : Nat × Nat} (h : Seg p o c) (h0 : p.at (some c0) [.ptr o]) {i : Nat} (hi : i ≤ c.length) :
    ∃ o', p.at (some (cellOf c0 c i)) [.ptr o'] ∧ Seg p o' (c.drop i) := by
  cases i with
  | zero => exact ⟨o, h0, by simpa using h⟩
  | succ i =>
    obtain ⟨o', g1, g2⟩ := h.at_ (i := i) (by omega)
    exact ⟨o', at_whole g1 4 _ rfl (by simp [linkPD]), g2⟩
theorem Seg.hd {p : Pool} {o : Adr} {c : Chn} (h : Seg p o c) : (c = [] ∧ o = none) ∨ ∃ a e c', c = (a, e) :: c' ∧ o = some (a, 0) := by
  cases c with
  | nil => exact .inl ⟨rfl, h⟩
  | cons x c => obtain ⟨a, e⟩ := x; exact .inr ⟨a, e, c, rfl, h.1⟩

theorem Seg.split {p : Pool} {o : Adr} {c : Chn} {i : Nat} (h : Seg p o (c.drop i)) (hi : i < c.length) :
    o = some ((c.getD i (0, e0)).1, 0) ∧ ∃ o', p (c.getD i (0, e0)).1 = some (59, linkPD (c.getD i (0, e0)).2 o') ∧ Seg p o' (c.drop (i + 1)) := by
  rw [List.drop_eq_getElem_cons hi] at h
  have hgd : c.getD i (0, e0) = c[i] := by rw [List.getD_eq_getElem?_getD, List.getElem?_eq_getElem hi]; rfl
  rw [hgd]
  exact h
theorem Seg.over {p : Pool} {o : Adr} {c : Chn} {i : Nat} (h : Seg p o (c.drop i)) (hi : c.length ≤ i) : o = none := by
  rw [List.drop_eq_nil_of_le hi] at h; exact h

theorem placeOf_le (c : Chn) (key : Int) : placeOf c key ≤ c.length := List.findIdx_le_length
theorem placeOf_at {c : Chn} {key : Int} (h : placeOf c key < c.length) : (c.getD (placeOf c key) (0, e0)).2.key = key := by
  have := List.findIdx_getElem (p := fun x : Nat × Ent => decide (x.2.key = key)) (xs := c) (w := h)
  rw [List.getD_eq_getElem?_getD, List.getElem?_eq_getElem h]
  exact of_decide_eq_true this
theorem placeOf_before {c : Chn} {key : Int} {i : Nat} (h : i < placeOf c key) : (c.getD i (0, e0)).2.key ≠ key := by
  have hl : i < c.length := Nat.lt_of_lt_of_le h (placeOf_le c key)
  have := List.not_of_lt_findIdx (p := fun x : Nat × Ent => decide (x.2.key = key)) (xs := c) h
  rw [List.getD_eq_getElem?_getD, List.getElem?_eq_getElem hl]
  simpa using this
theorem placeOf_eq {c : Chn} {key : Int} {i : Nat} (hi : i ≤ placeOf c key) (h : i < c.length) (hk : (c.getD i (0, e0)).2.key = key) : i = placeOf c key := by
  rcases Nat.lt_or_ge i (placeOf c key) with h1 | h1
  · exact absurd hk (placeOf_before h1)
  · omega

end Sx
end Go.Proofs.Ytkadlfadmjhahaa

/-
  Tables: the runs of the machine.
-/
namespace Go.Proofs.Ytkadlfadmjhahaa
namespace Sx
open Go
set_option maxRecDepth 100000
set_option linter.unusedVariables false

noncomputable def fnsT : Nat → Option Func := fun g => match g with | 16 => some Try.f16 | _ => none
noncomputable def hooksT : Nat → Option (HookS V) := fun g => match g with | 30 => some (hookFree [.int .i64, .int .i64] runMix) | 29 => some (hookFree [.int .u64, .int .i64, .int .i64] runIndex) | _ => none
noncomputable def cfgT : Cfg Try.prog V := ⟨tab, kinds, fnsT, hooksT, fun _ _ => none⟩
theorem thead (p : Pool) (b : Nat) (k : Int) : runF cfgT 60 43 Try.f43 [.rp (some (b, 0)), .int .i64 k] [(0, .pool p)] 3 = Out.need ((some (b, (0 : Nat))).isSome = true) (Out.need ((some (b, (0 : Nat))).isSome = true) (Out.ex Int fun y => Out.need (p.at (shiftA (some (b, (0 : Nat))) (0 : Nat)) [PD.int .i64 y]) (Out.need ((some (b, (0 : Nat))).isSome = true) (Out.need ((some (b, (0 : Nat))).isSome = true) (Out.ex (Option (Nat × Nat)) fun y_1 => Out.ex Nat fun y_2 => Out.ex Nat fun y_3 => Out.need (p.at (shiftA (some (b, (0 : Nat))) (2 : Nat)) [PD.sl y_1 y_2 y_3]) (Out.need ((some (b, (0 : Nat))).isSome = true) (Out.need ((some (b, (0 : Nat))).isSome = true) (Out.ex Int fun y_4 => Out.need (p.at (shiftA (some (b, (0 : Nat))) (3 : Nat)) [PD.int .i64 y_4]) (Out.ite (decide (IntKind.i64.wrap ((↑y_2 : Int) - y_4) > (0 : Int))) (Out.need ((some (b, (0 : Nat))).isSome = true) (Out.need ((some (b, (0 : Nat))).isSome = true) (Out.ex (Option (Nat × Nat)) fun y_5 => Out.ex Nat fun y_6 => Out.ex Nat fun y_7 => Out.need (p.at (shiftA (some (b, (0 : Nat))) (2 : Nat)) [PD.sl y_5 y_6 y_7]) (Out.need ((↑y_6 : Int) ≤ (4611686018427387904 : Int)) (Out.need ((some (b, (0 : Nat))).isSome = true) (Out.need ((some (b, (0 : Nat))).isSome = true) (Out.ex Int fun y_8 => Out.need (p.at (shiftA (some (b, (0 : Nat))) (3 : Nat)) [PD.int .i64 y_8]) (Out.ite (decide (idxF (mixF y k) (0 : Int) (↑y_6 : Int) ≥ y_8)) (Out.need ((some (b, (0 : Nat))).isSome = true) (Out.need ((some (b, (0 : Nat))).isSome = true) (Out.ex (Option (Nat × Nat)) fun y_9 => Out.ex Nat fun y_10 => Out.ex Nat fun y_11 => Out.need (p.at (shiftA (some (b, (0 : Nat))) (2 : Nat)) [PD.sl y_9 y_10 y_11]) (Out.need ((0 : Int) ≤ idxF (mixF y k) (0 : Int) (↑y_6 : Int) ∧ idxF (mixF y k) (0 : Int) (↑y_6 : Int) < (↑y_10 : Int) ∧ y_9.isSome = true) (Out.fin (AV.rp (shiftA y_9 ((idxF (mixF y k) (0 : Int) (↑y_6 : Int)).toNat * (1 : Nat)))) [((0 : Nat), Blk.pool p)] (3 : Nat)))))) (Out.need ((some (b, (0 : Nat))).isSome = true) (Out.need ((some (b, (0 : Nat))).isSome = true) (Out.ex (Option (Nat × Nat)) fun y_9 => Out.ex Nat fun y_10 => Out.ex Nat fun y_11 => Out.need (p.at (shiftA (some (b, (0 : Nat))) (1 : Nat)) [PD.sl y_9 y_10 y_11]) (Out.need ((some (b, (0 : Nat))).isSome = true) (Out.need ((some (b, (0 : Nat))).isSome = true) (Out.ex (Option (Nat × Nat)) fun y_12 => Out.ex Nat fun y_13 => Out.ex Nat fun y_14 => Out.need (p.at (shiftA (some (b, (0 : Nat))) (1 : Nat)) [PD.sl y_12 y_13 y_14]) (Out.need ((↑y_13 : Int) ≤ (4611686018427387904 : Int)) (Out.need ((0 : Int) ≤ idxF (mixF y k) (0 : Int) (↑y_13 : Int) ∧ idxF (mixF y k) (0 : Int) (↑y_13 : Int) < (↑y_10 : Int) ∧ y_9.isSome = true) (Out.fin (AV.rp (shiftA y_9 ((idxF (mixF y k) (0 : Int) (↑y_13 : Int)).toNat * (1 : Nat)))) [((0 : Nat), Blk.pool p)] (3 : Nat)))))))))))))))))) (Out.need ((some (b, (0 : Nat))).isSome = true) (Out.need ((some (b, (0 : Nat))).isSome = true) (Out.ex (Option (Nat × Nat)) fun y_5 => Out.ex Nat fun y_6 => Out.ex Nat fun y_7 => Out.need (p.at (shiftA (some (b, (0 : Nat))) (1 : Nat)) [PD.sl y_5 y_6 y_7]) (Out.need ((some (b, (0 : Nat))).isSome = true) (Out.need ((some (b, (0 : Nat))).isSome = true) (Out.ex (Option (Nat × Nat)) fun y_8 => Out.ex Nat fun y_9 => Out.ex Nat fun y_10 => Out.need (p.at (shiftA (some (b, (0 : Nat))) (1 : Nat)) [PD.sl y_8 y_9 y_10]) (Out.need ((↑y_9 : Int) ≤ (4611686018427387904 : Int)) (Out.need ((0 : Int) ≤ idxF (mixF y k) (0 : Int) (↑y_9 : Int) ∧ idxF (mixF y k) (0 : Int) (↑y_9 : Int) < (↑y_6 : Int) ∧ y_5.isSome = true) (Out.fin (AV.rp (shiftA y_5 ((idxF (mixF y k) (0 : Int) (↑y_9 : Int)).toNat * (1 : Nat)))) [((0 : Nat), Blk.pool p)] (3 : Nat))))))))))))))))))) := by kernel_rfl

end Sx
end Go.Proofs.Ytkadlfadmjhahaa

/-
  Where a key's chain begins: what the function does.
-/
namespace Go.Proofs.Ytkadlfadmjhahaa
namespace Sx
open Go
set_option linter.unusedSimpArgs false
set_option linter.unusedVariables false

theorem hooksT_ok : ∀ g H, hooksT g = some H → HookOk Try.prog g H := by
  intro g H h
  unfold hooksT at h
  split at h
  · cases h; exact hMix
  · cases h; exact hIndex
  · cases h
theorem cfgT_ok : cfgT.ok := by
  refine ⟨tab_met, kinds_met, mixed_met, fun g fn h => ?_, hooksT_ok⟩
  unfold cfgT fnsT at h
  simp only at h
  split at h <;> cases h <;> exact ⟨by kernel_rfl, by kernel_rfl⟩

section
variable {p : Pool} {b : Nat} {L : TL}
theorem TabAt.f0 (h : TabAt p b L) : p.at (some (b, 0)) [.int .i64 L.seed] := at_whole h.1 0 _ rfl (by simp)
theorem TabAt.f1 (h : TabAt p b L) : p.at (some (b, 1)) [.sl (some (L.bb, 0)) L.B.length L.B.length] := at_whole h.1 1 _ rfl (by simp)
theorem TabAt.f2 (h : TabAt p b L) : p.at (some (b, 2)) [.sl L.oo L.O.length L.O.length] := at_whole h.1 2 _ rfl (by simp)
theorem TabAt.f3 (h : TabAt p b L) : p.at (some (b, 3)) [.int .i64 (L.moved : Int)] := at_whole h.1 3 _ rfl (by simp)
theorem TabAt.f4 (h : TabAt p b L) : p.at (some (b, 4)) [.int .i64 (L.len : Int)] := at_whole h.1 4 _ rfl (by simp)
end

def runHead : RunPool V := fun p ar K => match ar with
  | [.val (.rp (some (b, 0))), .int .i64 key] => .ex TL fun L => .need (TabAt p b L ∧ L.fits) (K (.rp (some (L.head key))) p [])
  | _ => .bad 500
theorem hHead : HookOk Try.prog 43 (hookPool [.val, .int .i64] runHead) := by
  refine pool_hook (C := cfgT) cfgT_ok (n := 60) (fn := Try.f43) ⟨by kernel_rfl, by kernel_rfl⟩ (by kernel_rfl) ?_
  intro M p ar K0 H
  unfold runHead at H
  split at H
  · rename_i b key
    obtain ⟨L, ⟨hT, h1, h2, h3, h4⟩, H⟩ := H
    refine ⟨show 2 ≤ _ by decide +kernel, ?_⟩
    show (runF cfgT 60 43 Try.f43 [.rp (some (b, 0)), .int .i64 key] [(0, .pool p)] 3).holds _
    rw [thead]
    have f0 := hT.f0; have f1 := hT.f1; have f2 := hT.f2; have f3 := hT.f3
    have hmv := hT.2.2.2.2.1
    have iB := idxN_lt (seed := L.seed) (key := key) h1 h2
    have cB := idxN_cast (seed := L.seed) (key := key) h1 h2
    have zO : L.O.length = 0 → idxF (mixF L.seed key) 0 (L.O.length : Int) = 0 := fun e => by rw [e]; rfl
    have gO : 0 ≤ idxF (mixF L.seed key) 0 (L.O.length : Int) ∧ (L.O.length = 0 ∨ idxF (mixF L.seed key) 0 (L.O.length : Int) < (L.O.length : Int)) := by
      by_cases e : L.O.length = 0
      · rw [zO e]; exact ⟨by decide, .inl e⟩
      · have := idx_range (h := mixF L.seed key) (row := 0) (size := (L.O.length : Int)) (by omega) (by omega); exact ⟨this.1, .inr this.2⟩
    have ooS : L.O.length ≠ 0 → L.oo = some (L.ob, 0) := fun e => by unfold TL.oo; rw [if_neg (fun e' => e (by rw [e']; rfl))]
    have hw : IntKind.wrap .i64 ((L.O.length : Int) - (L.moved : Int)) = (L.O.length : Int) - (L.moved : Int) := wrap_low (by omega) (by omega)
    simp only [Out.holds, decide_eq_true_eq, decide_eq_false_iff_not, beq_iff_eq, beq_eq_false_iff_ne, bne_iff_ne, ne_eq, bne_eq_false_iff_eq, Bool.true_and, Bool.and_true, Bool.not_eq_true', Bool.not_eq_false', Bool.and_eq_true, Bool.or_eq_true, Bool.and_eq_false_imp, true_implies, true_and, Bool.not_true, Bool.not_false, Bool.false_eq_true, Bool.true_eq_false, false_implies, and_true, beq_self_eq_true, Decidable.not_not, not_true_eq_false, not_false_eq_true]
    repeat' first
      | exact rfl
      | refine ⟨_, f0, ?_⟩
      | refine ⟨_, f3, ?_⟩
      | refine ⟨_, _, _, f1, ?_⟩
      | refine ⟨_, _, _, f2, ?_⟩
      | apply And.intro
      | intro _
    all_goals try simp only [hw] at *
    all_goals first
      | omega
      | (rw [ooS (by omega)]; rfl)
      | (refine ⟨_, _, _, H, endPool (AV.sub_of_eq ?_) rfl rfl⟩
         first
          | (have hin : L.inOld key = true := by (unfold TL.inOld idxN; simp; omega)
             unfold TL.head; rw [if_pos hin, ooS (by omega)]; simp [shiftA, idxN]; done)
          | (have hin : ¬ L.inOld key = true := by (unfold TL.inOld idxN; simp; omega)
             unfold TL.head; rw [if_neg hin]; simp [shiftA, idxN]; done))
  · exact H.elim

end Sx
end Go.Proofs.Ytkadlfadmjhahaa

/-
  Where a key stands: the runs of the machine.
-/
namespace Go.Proofs.Ytkadlfadmjhahaa
namespace Sx
open Go
set_option maxRecDepth 100000
set_option linter.unusedVariables false

noncomputable def hooksF : Nat → Option (HookS V) := fun g => match g with | 43 => some (hookPool [.val, .int .i64] runHead) | _ => none
noncomputable def cfgF0 : Cfg Try.prog V := ⟨tab, kinds, fun _ => none, hooksF, fun _ _ => none⟩
abbrev TQ : List Nat := [0, 1, 2, 3, 4, 5, 6, 7, 8, 9, 10, 11, 12, 13, 14, 15, 16]
structure PFind where
  p : Pool
  b : Nat
  L : TL
  k : Int
  hT : TabAt p b L
  hF : L.fits
def FI1 (q : PFind) (i : Nat) : St V := ⟨[(1, .int .i64 q.k), (5, .rp (some (cellOf (q.L.head q.k) (q.L.chain q.k) i)))], [(0, .pool q.p)], 3, 30, TQ⟩
def FL1 : LoopS V := trimLoop (trimSt [1, 5] [0]) (loopH 3 (fun q : PFind => FI1 q 0) (fun q (_ : Unit) => True) (fun q _ => FI1 q (placeOf (q.L.chain q.k) q.k)))
noncomputable def cfgF1 : Cfg Try.prog V := ⟨tab, kinds, fun _ => none, hooksF, fun f id => match f, id with | 32, 0 => some FL1 | _, _ => none⟩
theorem tb1 (q : PFind) (i : Nat) : runCode cfgF0 60 32 (loopOf Try.f32 0) (FI1 q i) (stopT (trimSt [1, 5] [0])) = Out.need ((some (cellOf (q.L.head q.k) (q.L.chain q.k) i)).isSome = true) (Out.ex (Option (Nat × Nat)) fun y => Out.need (q.p.at (some (cellOf (q.L.head q.k) (q.L.chain q.k) i)) [PD.ptr y]) (Out.ite (!y.isNone) (Out.need ((some (cellOf (q.L.head q.k) (q.L.chain q.k) i)).isSome = true) (Out.ex (Option (Nat × Nat)) fun y => Out.need (q.p.at (some (cellOf (q.L.head q.k) (q.L.chain q.k) i)) [PD.ptr y]) (Out.need (y.isSome = true) (Out.need (y.isSome = true) (Out.need ((shiftA y (0 : Nat)).isSome = true) (Out.ex Int fun y_1 => Out.need (q.p.at (shiftA (shiftA y (0 : Nat)) (0 : Nat)) [PD.int .i64 y_1]) (Out.ite (y_1 != q.k) (Out.need ((some (cellOf (q.L.head q.k) (q.L.chain q.k) i)).isSome = true) (Out.ex (Option (Nat × Nat)) fun y => Out.need (q.p.at (some (cellOf (q.L.head q.k) (q.L.chain q.k) i)) [PD.ptr y]) (Out.need (y.isSome = true) (Out.need (y.isSome = true) (Out.stop EX.nx {env := [((1 : Nat), .int .i64 q.k), ((5 : Nat), AV.rp (shiftA y (4 : Nat)))], heap := [((0 : Nat), Blk.pool q.p)], nx := (3 : Nat), nt := (30 : Nat), tl := [(0 : Nat), (1 : Nat), (2 : Nat), (3 : Nat), (4 : Nat), (5 : Nat), (6 : Nat), (7 : Nat), (8 : Nat), (9 : Nat), (10 : Nat), (11 : Nat), (12 : Nat), (13 : Nat), (14 : Nat), (15 : Nat), (16 : Nat)] : St V }))))) (Out.stop (EX.ex (0 : Nat)) {env := [((1 : Nat), .int .i64 q.k), ((5 : Nat), AV.rp (some (cellOf (q.L.head q.k) (q.L.chain q.k) i)))], heap := [((0 : Nat), Blk.pool q.p)], nx := (3 : Nat), nt := (30 : Nat), tl := [(0 : Nat), (1 : Nat), (2 : Nat), (3 : Nat), (4 : Nat), (5 : Nat), (6 : Nat), (7 : Nat), (8 : Nat), (9 : Nat), (10 : Nat), (11 : Nat), (12 : Nat), (13 : Nat), (14 : Nat), (15 : Nat), (16 : Nat)] : St V })))))))) (Out.stop (EX.ex (0 : Nat)) {env := [((1 : Nat), .int .i64 q.k), ((5 : Nat), AV.rp (some (cellOf (q.L.head q.k) (q.L.chain q.k) i)))], heap := [((0 : Nat), Blk.pool q.p)], nx := (3 : Nat), nt := (30 : Nat), tl := [(0 : Nat), (1 : Nat), (2 : Nat), (3 : Nat), (4 : Nat), (5 : Nat), (6 : Nat), (7 : Nat), (8 : Nat), (9 : Nat), (10 : Nat), (11 : Nat), (12 : Nat), (13 : Nat), (14 : Nat), (15 : Nat), (16 : Nat)] : St V }))) := by kernel_rfl

theorem tfind (p : Pool) (b : Nat) (k : Int) : runF cfgF1 60 32 Try.f32 [.rp (some (b, 0)), .int .i64 k] [(0, .pool p)] 3 = Out.ex TL fun y => Out.need (TabAt p b y ∧ y.fits) (Out.need (LoopFor Try.prog (32 : Nat) (0 : Nat) (loopOf Try.f32 (0 : Nat)) FL1) (Out.ex (PFind → Prop) fun y_1 => Out.need ((3 : Nat) ≤ (3 : Nat) ∧ SImp (3 : Nat) {env := [((1 : Nat), .int .i64 k), ((5 : Nat), AV.rp (some (y.head k)))], heap := [((0 : Nat), Blk.pool p)], nx := (3 : Nat), nt := (30 : Nat), tl := [(0 : Nat)] : St V } (fun q => FI1 q (0 : Nat)) y_1) (Out.all PFind fun y => Out.asm (y_1 y) (Out.all Unit fun y_2 => Out.asm ((fun q x => True) y y_2) (Out.fin (AV.rp (some (cellOf (y.L.head y.k) (y.L.chain y.k) (placeOf (y.L.chain y.k) y.k)))) [((0 : Nat), Blk.pool y.p)] (3 : Nat)))))) := by kernel_rfl

end Sx
end Go.Proofs.Ytkadlfadmjhahaa

/-
  Where a key stands, or would stand: what the function does.
-/
namespace Go.Proofs.Ytkadlfadmjhahaa
namespace Sx
open Go
set_option linter.unusedSimpArgs false
set_option linter.unusedVariables false

theorem hooksF_ok : ∀ g H, hooksF g = some H → HookOk Try.prog g H := by
  intro g H h
  unfold hooksF at h
  split at h
  · cases h; exact hHead
  · cases h
theorem cfgF0_ok : cfgF0.ok := ⟨tab_met, kinds_met, mixed_met, fun g fn h => (by cases h), hooksF_ok⟩
theorem cfgF1_ok : cfgF1.ok := ⟨tab_met, kinds_met, mixed_met, fun g fn h => (by cases h), hooksF_ok⟩

/-- A key's chain, and the cell in which it begins. -/
theorem TabAt.chain {p : Pool} {b : Nat} {L : TL} (h : TabAt p b L) (hf : L.fits) (k : Int) :
    ∃ o, p.at (some (L.head k)) [.ptr o] ∧ Seg p o (L.chain k) ∧ (∀ x ∈ L.chain k, L.lab x.1 = .lk (L.inOld k) (L.head k).2) ∧ ((L.chain k).map (·.1)).Nodup := by
  obtain ⟨h1, h2, h3, h4, h5, h6⟩ := h
  obtain ⟨f1, f2, f3, f4⟩ := hf
  by_cases hin : L.inOld k = true
  · have hin' := hin
    unfold TL.inOld at hin'
    simp only [Bool.and_eq_true, decide_eq_true_eq] at hin'
    have hO : L.O ≠ [] := by intro e; rw [e] at hin'; simp at hin'
    obtain ⟨hs, a1, a2, a3, a4⟩ := h4 hO
    have hlt := idxN_lt (seed := L.seed) (key := k) (n := L.O.length) (by omega) f3
    obtain ⟨b1, b2, b3⟩ := a4 _ hin'.2 hlt
    refine ⟨hs.getD (idxN L.seed k L.O.length) none, ?_, ?_, ?_, ?_⟩
    · unfold TL.head; rw [if_pos hin]; exact at_arr a1 (by omega)
    · unfold TL.chain; rw [if_pos hin]; exact b1
    · unfold TL.chain TL.head; rw [if_pos hin, if_pos hin, hin]; exact b2
    · unfold TL.chain; rw [if_pos hin]; exact b3
  · obtain ⟨hs, a1, a2, a3, a4⟩ := h3
    have hlt := idxN_lt (seed := L.seed) (key := k) (n := L.B.length) f1 f2
    obtain ⟨b1, b2, b3⟩ := a4 _ (Nat.zero_le _) hlt
    refine ⟨hs.getD (idxN L.seed k L.B.length) none, ?_, ?_, ?_, ?_⟩
    · unfold TL.head; rw [if_neg hin]; exact at_arr a1 (by omega)
    · unfold TL.chain; rw [if_neg hin]; exact b1
    · unfold TL.chain TL.head; rw [if_neg hin, if_neg hin, show L.inOld k = false by simpa using hin]; exact b2
    · unfold TL.chain; rw [if_neg hin]; exact b3

theorem tbody1 (q : PFind) (i : Nat) (hi : i ≤ placeOf (q.L.chain q.k) q.k) (Q : EX → St V → Prop) (F : AV → Heap V → Nat → Prop)
    (hnx : ∀ ST : St V, i < placeOf (q.L.chain q.k) q.k → Wk 3 [] ST (FI1 q (i + 1)) → Q .nx ST) (hex : ∀ ST : St V, i = placeOf (q.L.chain q.k) q.k → Wk 3 [] ST (FI1 q i) → Q (.ex 0) ST) :
    (runCode cfgF0 60 32 (loopOf Try.f32 0) (FI1 q i) (stopT (trimSt [1, 5] [0]))).holds ⟨Q, F⟩ := by
  rw [tb1]
  obtain ⟨o, c1, c2, c3, c4⟩ := q.hT.chain q.hF q.k
  have hle := placeOf_le (q.L.chain q.k) q.k
  obtain ⟨o', g1, g2⟩ := c2.cell c1 (i := i) (by omega)
  simp only [Out.holds, decide_eq_true_eq, decide_eq_false_iff_not, beq_iff_eq, beq_eq_false_iff_ne, bne_iff_ne, ne_eq, bne_eq_false_iff_eq, Bool.true_and, Bool.and_true, Bool.not_eq_true', Bool.not_eq_false', Bool.and_eq_true, Bool.or_eq_true, Bool.and_eq_false_imp, true_implies, true_and, Bool.not_true, Bool.not_false, Bool.false_eq_true, Bool.true_eq_false, false_implies, and_true, beq_self_eq_true, Decidable.not_not, not_true_eq_false, not_false_eq_true]
  refine ⟨rfl, o', g1, fun hn => ⟨rfl, o', g1, ?_⟩, fun hn => hex _ ?_ (by (refine ⟨?_, ?_, rfl, tl_ok rfl, ?_, ⟨Nat.le_of_ble_eq_true rfl, rfl⟩⟩ <;> (repeat' first | with_reducible exact trivial | exact AV.sub_same _ | exact .same _ | exact .inr rfl | exact .inl (in_ok rfl) | exact AV.sub_lit' | exact AV.sub_nilS | exact .none _ _ | exact trivial | refine ⟨?_, ?_⟩)))⟩
  · have hlt : i < (q.L.chain q.k).length := by
      rcases Nat.lt_or_ge i (q.L.chain q.k).length with h | h
      · exact h
      · have := g2.over h; subst this; simp at hn
    obtain ⟨rfl, o2, k1, k2⟩ := g2.split hlt
    refine ⟨rfl, rfl, rfl, _, at_whole k1 0 _ rfl (by simp [linkPD]), fun hne => ⟨rfl, _, g1, rfl, rfl, hnx _ ?_ ?_⟩, fun he => hex _ ?_ (by (refine ⟨?_, ?_, rfl, tl_ok rfl, ?_, ⟨Nat.le_of_ble_eq_true rfl, rfl⟩⟩ <;> (repeat' first | with_reducible exact trivial | exact AV.sub_same _ | exact .same _ | exact .inr rfl | exact .inl (in_ok rfl) | exact AV.sub_lit' | exact AV.sub_nilS | exact .none _ _ | exact trivial | refine ⟨?_, ?_⟩)))⟩
    · rcases Nat.lt_or_ge i (placeOf (q.L.chain q.k) q.k) with h | h
      · exact h
      · have e : i = placeOf (q.L.chain q.k) q.k := by omega
        refine absurd ?_ hne
        rw [e]; exact placeOf_at (by omega)
    · (refine ⟨?_, ?_, rfl, tl_ok rfl, ?_, ⟨Nat.le_of_ble_eq_true rfl, rfl⟩⟩ <;> (repeat' first | with_reducible exact trivial | exact AV.sub_same _ | exact .same _ | exact .inr rfl | exact .inl (in_ok rfl) | exact AV.sub_lit' | exact AV.sub_nilS | exact .none _ _ | exact trivial | refine ⟨?_, ?_⟩))
    · exact placeOf_eq hi hlt he
  · have : o' = none := by simpa using hn
    subst this
    rcases Nat.lt_or_ge i (q.L.chain q.k).length with h | h
    · have := (g2.split h).1; cases this
    · omega
theorem fl1_ok : LoopOk Try.prog 0 (loopOf Try.f32 0) FL1 := by
  refine trimLoop_ok (trim_ok _ _) (loopTH_ok (C := cfgF0) cfgF0_ok (f := 32) (n := 60) (trim_ok [1, 5] [0]) 3 FI1 (fun q i => i ≤ placeOf (q.L.chain q.k) q.k) (fun _ => 0) (fun q i => placeOf (q.L.chain q.k) q.k - i) (fun _ (_ : Unit) => True) (fun q _ => FI1 q (placeOf (q.L.chain q.k) q.k)) (fun q => Nat.zero_le _) ?_)
  intro q i hi
  exact tbody1 q i hi _ _ (fun ST hlt hw => SImp.of_wk (i + 1) hw ⟨hlt, by omega⟩) (fun ST he hw => ⟨rfl, SImp.of_wk (ren := []) () (by subst he; exact hw) trivial⟩)

def runFind : RunPool V := fun p ar K => match ar with
  | [.val (.rp (some (b, 0))), .int .i64 key] => .ex TL fun L => .need (TabAt p b L ∧ L.fits) (K (.rp (some (L.cell key))) p [])
  | _ => .bad 500
theorem hFind : HookOk Try.prog 32 (hookPool [.val, .int .i64] runFind) := by
  refine pool_hook (C := cfgF1) cfgF1_ok (n := 60) (fn := Try.f32) ⟨by kernel_rfl, by kernel_rfl⟩ (by kernel_rfl) ?_
  intro M p ar K0 H
  unfold runFind at H
  split at H
  · rename_i b key
    obtain ⟨L, ⟨hT, hF⟩, H⟩ := H
    refine ⟨show 2 ≤ _ by decide +kernel, ?_⟩
    show (runF cfgF1 60 32 Try.f32 [.rp (some (b, 0)), .int .i64 key] [(0, .pool p)] 3).holds _
    rw [tfind]
    refine ⟨L, ⟨hT, hF⟩, fl1_ok, fun q => q = ⟨p, b, L, key, hT, hF⟩, ⟨Nat.le_refl _, SImp.of_wk (ren := []) ⟨p, b, L, key, hT, hF⟩ (by (refine ⟨?_, ?_, rfl, tl_ok rfl, ?_, ⟨Nat.le_of_ble_eq_true rfl, rfl⟩⟩ <;> (repeat' first | with_reducible exact trivial | exact AV.sub_same _ | exact .same _ | exact .inr rfl | exact .inl (in_ok rfl) | exact AV.sub_lit' | exact AV.sub_nilS | exact .none _ _ | exact trivial | refine ⟨?_, ?_⟩))) rfl⟩, ?_⟩
    rintro _ rfl _ _
    exact ⟨_, _, _, H, endPool (AV.sub_same _) rfl rfl⟩
  · exact H.elim

end Sx
end Go.Proofs.Ytkadlfadmjhahaa

/-
  Tables: the runs of the machine.
-/
namespace Go.Proofs.Ytkadlfadmjhahaa
namespace Sx
open Go
set_option maxRecDepth 100000
set_option linter.unusedVariables false

noncomputable def fnsG : Nat → Option Func := fun g => match g with | 16 => some Try.f16 | 33 => some Try.f33 | _ => none
noncomputable def hooksG : Nat → Option (HookS V) := fun g => match g with | 32 => some (hookPool [.val, .int .i64] runFind) | _ => none
noncomputable def cfgG0 : Cfg Try.prog V := ⟨tab, kinds, fnsG, hooksG, fun _ _ => none⟩
theorem tget (p : Pool) (b : Nat) (k : Int) : runF cfgG0 60 13 Try.f13 [.rp (some (b, 0)), .int .i64 k] [(0, .pool p)] 3 = Out.ex TL fun y => Out.need (TabAt p b y ∧ y.fits) (Out.need ((some (y.cell k)).isSome = true) (Out.ex (Option (Nat × Nat)) fun y_1 => Out.need (p.at (some (y.cell k)) [PD.ptr y_1]) (Out.ite y_1.isNone (Out.fin (.tup [.agg [.lit .i64 (0 : Int), .lit .i64 (0 : Int), .lit .i64 (0 : Int), .lit .i64 (0 : Int)], .ff]) [((3 : Nat), .cells (29 : Nat) [.lit .i64 (0 : Int), .lit .i64 (0 : Int), .lit .i64 (0 : Int), .lit .i64 (0 : Int)]), ((0 : Nat), Blk.pool p)] (5 : Nat)) (Out.need (y_1.isSome = true) (Out.need (y_1.isSome = true) (Out.ex Int fun y => Out.ex Int fun y_2 => Out.ex Int fun y_3 => Out.ex Int fun y_4 => Out.need (p.at (shiftA y_1 (0 : Nat)) [PD.int .i64 y, PD.int .i64 y_2, PD.int .i64 y_3, PD.int .i64 y_4]) (Out.fin (.tup [.agg [.int .i64 y, .int .i64 y_2, .int .i64 y_3, .int .i64 y_4], .tt]) [((3 : Nat), .cells (29 : Nat) [.int .i64 y, .int .i64 y_2, .int .i64 y_3, .int .i64 y_4]), ((0 : Nat), Blk.pool p)] (5 : Nat)))))))) := by kernel_rfl

theorem tgrow (p : Pool) (b : Nat) : runF cfgG0 60 33 Try.f33 [.rp (some (b, 0))] [(0, .pool p)] 2 = Out.need ((some (b, (0 : Nat))).isSome = true) (Out.need ((some (b, (0 : Nat))).isSome = true) (Out.ex (Option (Nat × Nat)) fun y => Out.ex Nat fun y_1 => Out.ex Nat fun y_2 => Out.need (p.at (shiftA (some (b, (0 : Nat))) (1 : Nat)) [PD.sl y y_1 y_2]) (Out.need ((some (b, (0 : Nat))).isSome = true) (Out.need ((some (b, (0 : Nat))).isSome = true) (Out.ex (Option (Nat × Nat)) fun y => Out.ex Nat fun y_3 => Out.ex Nat fun y_4 => Out.need (p.at (shiftA (some (b, (0 : Nat))) (2 : Nat)) [PD.sl y y_3 y_4]) (Out.need ((some (b, (0 : Nat))).isSome = true) (Out.need ((some (b, (0 : Nat))).isSome = true) (Out.ex Int fun y => Out.need (p.at (shiftA (some (b, (0 : Nat))) (3 : Nat)) [PD.int .i64 y]) (Out.ite (IntKind.i64.wrap ((↑y_3 : Int) - y) == (0 : Int)) (Out.need ((some (b, (0 : Nat))).isSome = true) (Out.need ((some (b, (0 : Nat))).isSome = true) (Out.ex Int fun y => Out.need (p.at (shiftA (some (b, (0 : Nat))) (4 : Nat)) [PD.int .i64 y]) (Out.ite (decide (y > (↑y_1 : Int))) (Out.ite (decide ((↑y_1 : Int) < (65536 : Int))) (Out.need ((some (b, (0 : Nat))).isSome = true) (Out.need ((some (b, (0 : Nat))).isSome = true) (Out.ex (Option (Nat × Nat)) fun y => Out.ex Nat fun y_5 => Out.ex Nat fun y_6 => Out.need (p.at (shiftA (some (b, (0 : Nat))) (1 : Nat)) [PD.sl y y_5 y_6]) (Out.need ((some (b, (0 : Nat))).isSome = true) (Out.need ((some (b, (0 : Nat))).isSome = true) ((Out.need ((0 : Int) ≤ IntKind.i64.wrap ((↑y_1 : Int) + (↑y_1 : Int)) ∧ IntKind.i64.wrap ((↑y_1 : Int) + (↑y_1 : Int)) ≤ IntKind.i64.wrap ((↑y_1 : Int) + (↑y_1 : Int)) ∧ IntKind.i64.wrap ((↑y_1 : Int) + (↑y_1 : Int)) ≤ (4294967296 : Int) ∧ (8 : Nat) ≤ (64 : Nat)) (Out.all Nat fun y_7 => Out.asm (p y_7 = none) (Out.need ((p.put y_7 (57 : Nat) (List.replicate (IntKind.i64.wrap ((↑y_1 : Int) + (↑y_1 : Int))).toNat (PD.ptr none))).has (shiftA (some (b, (0 : Nat))) (2 : Nat)) (1 : Nat)) (Out.need ((some (b, (0 : Nat))).isSome = true) (Out.need ((some (b, (0 : Nat))).isSome = true) (Out.need (((p.put y_7 (57 : Nat) (List.replicate (IntKind.i64.wrap ((↑y_1 : Int) + (↑y_1 : Int))).toNat (PD.ptr none))).set (shiftA (some (b, (0 : Nat))) (2 : Nat)) [PD.sl y y_5 y_6]).has (shiftA (some (b, (0 : Nat))) (1 : Nat)) (1 : Nat)) (Out.fin (.tup []) [((0 : Nat), Blk.pool (((p.put y_7 (57 : Nat) (List.replicate (IntKind.i64.wrap ((↑y_1 : Int) + (↑y_1 : Int))).toNat (PD.ptr none))).set (shiftA (some (b, (0 : Nat))) (2 : Nat)) [PD.sl y y_5 y_6]).set (shiftA (some (b, (0 : Nat))) (1 : Nat)) [PD.sl (some (y_7, (0 : Nat))) (IntKind.i64.wrap ((↑y_1 : Int) + (↑y_1 : Int))).toNat (IntKind.i64.wrap ((↑y_1 : Int) + (↑y_1 : Int))).toNat]))] (5 : Nat)))))))).both (Out.need (p.has (shiftA (some (b, (0 : Nat))) (2 : Nat)) (1 : Nat)) (Out.need ((0 : Int) ≤ IntKind.i64.wrap ((↑y_1 : Int) + (↑y_1 : Int)) ∧ IntKind.i64.wrap ((↑y_1 : Int) + (↑y_1 : Int)) ≤ IntKind.i64.wrap ((↑y_1 : Int) + (↑y_1 : Int)) ∧ IntKind.i64.wrap ((↑y_1 : Int) + (↑y_1 : Int)) ≤ (4294967296 : Int) ∧ (8 : Nat) ≤ (64 : Nat)) (Out.all Nat fun y_7 => Out.asm (p.set (shiftA (some (b, (0 : Nat))) (2 : Nat)) [PD.sl y y_5 y_6] y_7 = none) (Out.need ((some (b, (0 : Nat))).isSome = true) (Out.need ((some (b, (0 : Nat))).isSome = true) (Out.need (((p.set (shiftA (some (b, (0 : Nat))) (2 : Nat)) [PD.sl y y_5 y_6]).put y_7 (57 : Nat) (List.replicate (IntKind.i64.wrap ((↑y_1 : Int) + (↑y_1 : Int))).toNat (PD.ptr none))).has (shiftA (some (b, (0 : Nat))) (1 : Nat)) (1 : Nat)) (Out.fin (.tup []) [((0 : Nat), Blk.pool (((p.set (shiftA (some (b, (0 : Nat))) (2 : Nat)) [PD.sl y y_5 y_6]).put y_7 (57 : Nat) (List.replicate (IntKind.i64.wrap ((↑y_1 : Int) + (↑y_1 : Int))).toNat (PD.ptr none))).set (shiftA (some (b, (0 : Nat))) (1 : Nat)) [PD.sl (some (y_7, (0 : Nat))) (IntKind.i64.wrap ((↑y_1 : Int) + (↑y_1 : Int))).toNat (IntKind.i64.wrap ((↑y_1 : Int) + (↑y_1 : Int))).toNat]))] (5 : Nat)))))))))))))) (Out.fin (.tup []) [((0 : Nat), Blk.pool p)] (2 : Nat))) (Out.fin (.tup []) [((0 : Nat), Blk.pool p)] (2 : Nat)))))) (Out.fin (.tup []) [((0 : Nat), Blk.pool p)] (2 : Nat))))))))))) := by kernel_rfl

end Sx
end Go.Proofs.Ytkadlfadmjhahaa

/-
  Tables in a pool: what a write of a cell, an entry, the table's own cells comes to.
-/
namespace Go.Proofs.Ytkadlfadmjhahaa
namespace Sx
open Go
set_option linter.unusedSimpArgs false
set_option linter.unusedVariables false

theorem Pool.set_eq {p : Pool} {b T off : Nat} {cs ds : List PD} (h : p b = some (T, cs)) : p.set (some (b, off)) ds = p.put b T (setAt cs off ds) := by
  funext x; simp [Pool.set, Pool.put, h]
theorem Pool.put_self {p : Pool} {b T : Nat} {cs : List PD} : (p.put b T cs) b = some (T, cs) := by simp [Pool.put]
theorem Pool.put_ne {p : Pool} {b T x : Nat} {cs : List PD} (h : x ≠ b) : (p.put b T cs) x = p x := by simp [Pool.put, h]
theorem Pool.put_some {p : Pool} {b T x : Nat} {cs : List PD} (h : p x ≠ none) : (p.put b T cs) x ≠ none := by
  by_cases e : x = b
  · subst e; rw [Pool.put_self]; simp
  · rw [Pool.put_ne e]; exact h
theorem Pool.put_put {p : Pool} {b T T' : Nat} {cs ds : List PD} : (p.put b T cs).put b T' ds = p.put b T' ds := by
  funext x; by_cases e : x = b <;> simp [Pool.put, e]

theorem Seg.frame {p q : Pool} : ∀ {o : Adr} {c : Chn}, Seg p o c → (∀ x ∈ c, q x.1 = p x.1) → Seg q o c
  | o, [], h, _ => h
  | o, (a, e) :: c, ⟨h1, o', h2, h3⟩, k => ⟨h1, o', by rw [k (a, e) (List.mem_cons_self ..)]; exact h2, h3.frame fun x hx => k x (List.mem_cons_of_mem _ hx)⟩

theorem Arr.frame {p q : Pool} {lab lab' : Nat → Lab} {old : Bool} {blk : Nat} {cs : List Chn} {fr : Nat} (h : Arr p lab old blk cs fr)
    (k : ∀ n, (lab n = .arr old ∨ ∃ i, fr ≤ i ∧ lab n = .lk old i) → q n = p n ∧ lab' n = lab n) : Arr q lab' old blk cs fr := by
  obtain ⟨hs, h1, h2, h3, h4⟩ := h
  refine ⟨hs, by rw [(k blk (.inl h3)).1]; exact h1, h2, by rw [(k blk (.inl h3)).2]; exact h3, fun i hf hi => ?_⟩
  obtain ⟨g1, g2, g3⟩ := h4 i hf hi
  exact ⟨g1.frame fun x hx => (k x.1 (.inr ⟨i, hf, g2 x hx⟩)).1, fun x hx => by rw [(k x.1 (.inr ⟨i, hf, g2 x hx⟩)).2]; exact g2 x hx, g3⟩
theorem Arr.later {p : Pool} {lab : Nat → Lab} {old : Bool} {blk : Nat} {cs : List Chn} {fr fr' : Nat} (h : Arr p lab old blk cs fr) (k : fr ≤ fr') : Arr p lab old blk cs fr' := by
  obtain ⟨hs, h1, h2, h3, h4⟩ := h
  exact ⟨hs, h1, h2, h3, fun i hf hi => h4 i (by omega) hi⟩

/-- One chain of a row is another one. -/
theorem Arr.chain {p q : Pool} {lab lab' : Nat → Lab} {old : Bool} {blk : Nat} {cs : List Chn} {fr k : Nat} (h : Arr p lab old blk cs fr) (hk : k < cs.length) {c' : Chn} {o' : Adr}
    (hblk : ∀ hs : List Adr, p blk = some (57, hs.map PD.ptr) → hs.length = cs.length → q blk = some (57, (hs.set k o').map PD.ptr)) (hlb : lab' blk = .arr old)
    (hsame : ∀ n, (∃ i, i ≠ k ∧ lab n = .lk old i) → q n = p n ∧ lab' n = lab n)
    (hseg : Seg q o' c') (hlab : ∀ x ∈ c', lab' x.1 = .lk old k) (hnd : (c'.map (·.1)).Nodup) : Arr q lab' old blk (cs.set k c') fr := by
  obtain ⟨hs, h1, h2, h3, h4⟩ := h
  refine ⟨hs.set k o', hblk hs h1 h2, by simp [h2], hlb, fun i hf hi => ?_⟩
  rw [List.length_set] at hi
  by_cases e : i = k
  · subst e
    have e1 : (hs.set i o').getD i none = o' := by simp [List.getD, List.getElem?_set, h2, hi]
    have e2 : (cs.set i c').getD i [] = c' := by simp [List.getD, List.getElem?_set, hi]
    rw [e1, e2]
    exact ⟨hseg, hlab, hnd⟩
  · have e1 : (hs.set k o').getD i none = hs.getD i none := by simp [List.getD, List.getElem?_set, Ne.symm e]
    have e2 : (cs.set k c').getD i [] = cs.getD i [] := by simp [List.getD, List.getElem?_set, Ne.symm e]
    rw [e1, e2]
    obtain ⟨g1, g2, g3⟩ := h4 i hf hi
    exact ⟨g1.frame fun x hx => (hsame x.1 ⟨i, e, g2 x hx⟩).1, fun x hx => by rw [(hsame x.1 ⟨i, e, g2 x hx⟩).2]; exact g2 x hx, g3⟩

/-! ## chains -/
/-- A link's 'next' turned: what stood behind it is another chain. -/
theorem Seg.link {p : Pool} {o2 : Adr} {c2 : Chn} : ∀ {o : Adr} {c : Chn} {j : Nat}, Seg p o c → j < c.length → (c.map (·.1)).Nodup → Seg p o2 c2 → (∀ x ∈ c2, x.1 ≠ (c.getD j (0, e0)).1) →
    Seg (p.put (c.getD j (0, e0)).1 59 (linkPD (c.getD j (0, e0)).2 o2)) o (c.take (j + 1) ++ c2)
  | o, (a, e) :: c, 0, ⟨h1, o', h2, h3⟩, _, hnd, hs, hx => by
    refine ⟨h1, o2, Pool.put_self, hs.frame fun x h => Pool.put_ne (hx x h)⟩
  | o, (a, e) :: c, j + 1, ⟨h1, o', h2, h3⟩, hj, hnd, hs, hx => by
    simp only [List.map_cons, List.nodup_cons] at hnd
    have hj' : j < c.length := by simpa using hj
    have hgd : ((a, e) :: c).getD (j + 1) (0, e0) = c.getD j (0, e0) := by simp
    rw [hgd] at hx ⊢
    have hne : a ≠ (c.getD j (0, e0)).1 := by
      intro e'
      refine hnd.1 ?_
      rw [List.getD_eq_getElem?_getD, List.getElem?_eq_getElem hj'] at e'
      rw [e']; exact List.mem_map.2 ⟨_, List.getElem_mem hj', rfl⟩
    exact ⟨h1, o', by rw [Pool.put_ne hne]; exact h2, Seg.link h3 hj' hnd.2 hs hx⟩
/-- A link's entry turned. -/
theorem Seg.entry {p : Pool} {e' : Ent} : ∀ {o : Adr} {c : Chn} {j : Nat} {o2 : Adr}, Seg p o c → j < c.length → (c.map (·.1)).Nodup → p (c.getD j (0, e0)).1 = some (59, linkPD (c.getD j (0, e0)).2 o2) →
    Seg (p.put (c.getD j (0, e0)).1 59 (linkPD e' o2)) o (c.set j ((c.getD j (0, e0)).1, e'))
  | o, (a, e) :: c, 0, o2, ⟨h1, o', h2, h3⟩, _, hnd, hp => by
    simp only [List.map_cons, List.nodup_cons] at hnd
    have hp' : p a = some (59, linkPD e o2) := hp
    rw [h2] at hp'
    have : o' = o2 := by simpa [linkPD] using hp'
    subst this
    refine ⟨h1, o', Pool.put_self, h3.frame fun x hx => Pool.put_ne fun e'' => hnd.1 (by rw [← show x.1 = a from e'']; exact List.mem_map.2 ⟨x, hx, rfl⟩)⟩
  | o, (a, e) :: c, j + 1, o2, ⟨h1, o', h2, h3⟩, hj, hnd, hp => by
    simp only [List.map_cons, List.nodup_cons] at hnd
    have hj' : j < c.length := by simpa using hj
    have hgd : ((a, e) :: c).getD (j + 1) (0, e0) = c.getD j (0, e0) := by simp
    rw [hgd] at hp ⊢
    have hne : a ≠ (c.getD j (0, e0)).1 := by
      intro e'
      refine hnd.1 ?_
      rw [List.getD_eq_getElem?_getD, List.getElem?_eq_getElem hj'] at e'
      rw [e']; exact List.mem_map.2 ⟨_, List.getElem_mem hj', rfl⟩
    exact ⟨h1, o', by rw [Pool.put_ne hne]; exact h2, Seg.entry h3 hj' hnd.2 hp⟩

/-! ## a chain of a table turned -/
/-- With a key's chain another one. -/
def TL.with_ (L : TL) (k : Int) (c : Chn) (lab : Nat → Lab) : TL :=
  if L.inOld k then { L with O := L.O.set (L.head k).2 c, lab := lab } else { L with B := L.B.set (L.head k).2 c, lab := lab }

theorem TabAt.turn {p q : Pool} {b : Nat} {L : TL} (h : TabAt p b L) (hf : L.fits) (k : Int) {c' : Chn} {o' : Adr} {lab' : Nat → Lab}
    (hblk : ∀ hs : List Adr, p (L.head k).1 = some (57, hs.map PD.ptr) → (L.head k).2 < hs.length → q (L.head k).1 = some (57, (hs.set (L.head k).2 o').map PD.ptr))
    (hsame : ∀ n, L.lab n ≠ .no → L.lab n ≠ .loose → L.lab n ≠ .lk (L.inOld k) (L.head k).2 → (n ≠ (L.head k).1 → q n = p n) ∧ lab' n = L.lab n)
    (hseg : Seg q o' c') (hlab : ∀ x ∈ c', lab' x.1 = .lk (L.inOld k) (L.head k).2) (hnd : (c'.map (·.1)).Nodup) (hall : ∀ n, lab' n ≠ .no → q n ≠ none) : TabAt q b (L.with_ k c' lab') := by
  obtain ⟨h1, h2, h3, h4, h5, h6⟩ := h
  obtain ⟨f1, f2, f3, f4⟩ := hf
  have hme := hsame b (by rw [h2]; simp) (by rw [h2]; simp) (by rw [h2]; simp)
  by_cases hin : L.inOld k = true
  · have hin' := hin
    unfold TL.inOld at hin'
    simp only [Bool.and_eq_true, decide_eq_true_eq] at hin'
    have hO : L.O ≠ [] := by intro e; rw [e] at hin'; simp at hin'
    have hlt := idxN_lt (seed := L.seed) (key := k) (n := L.O.length) (by omega) f3
    have e1 : L.head k = (L.ob, idxN L.seed k L.O.length) := by unfold TL.head; rw [if_pos hin]
    rw [e1, hin] at hsame hlab
    rw [e1] at hblk
    have e2 : L.with_ k c' lab' = { L with O := L.O.set (idxN L.seed k L.O.length) c', lab := lab' } := by unfold TL.with_; rw [if_pos hin, e1]
    rw [e2]
    have hA := h4 hO
    have hob : L.lab L.ob = .arr true := by obtain ⟨_, _, _, g, _⟩ := hA; exact g
    have hbo : b ≠ L.ob := fun e => by rw [e, hob] at h2; cases h2
    rw [e1] at hme
    refine ⟨?_, hme.2.trans h2, h3.frame fun n hn => ?_, fun _ => ?_, by simpa using h5, hall⟩
    · rw [hme.1 hbo, h1]
      have : ({ L with O := L.O.set (idxN L.seed k L.O.length) c', lab := lab' } : TL).oo = L.oo := by
        unfold TL.oo
        rw [if_neg hO, if_neg (by intro e; exact hO (List.eq_nil_of_length_eq_zero (by have := congrArg List.length e; simpa using this)))]
      rw [this]; simp
    · have hnb : n ≠ L.ob := fun e => by subst e; rw [hob] at hn; rcases hn with e | ⟨i, _, e⟩ <;> cases e
      have := hsame n (by rcases hn with e | ⟨i, _, e⟩ <;> rw [e] <;> simp) (by rcases hn with e | ⟨i, _, e⟩ <;> rw [e] <;> simp) (by rcases hn with e | ⟨i, _, e⟩ <;> rw [e] <;> simp)
      exact ⟨this.1 hnb, this.2⟩
    · refine hA.chain hlt (fun hs g1 g2 => hblk hs g1 (by show _ < hs.length; omega)) ?_ (fun n ⟨i, hi, hn⟩ => ?_) hseg hlab hnd
      · have := hsame L.ob (by rw [hob]; simp) (by rw [hob]; simp) (by rw [hob]; simp)
        exact this.2.trans hob
      · have hnb : n ≠ L.ob := fun e => by subst e; rw [hob] at hn; cases hn
        have := hsame n (by rw [hn]; simp) (by rw [hn]; simp) (by rw [hn]; simp; exact hi)
        exact ⟨this.1 hnb, this.2⟩
  · have hin0 : L.inOld k = false := by simpa using hin
    have hlt := idxN_lt (seed := L.seed) (key := k) (n := L.B.length) f1 f2
    have e1 : L.head k = (L.bb, idxN L.seed k L.B.length) := by unfold TL.head; rw [if_neg hin]
    rw [e1, hin0] at hsame hlab
    rw [e1] at hblk
    have e2 : L.with_ k c' lab' = { L with B := L.B.set (idxN L.seed k L.B.length) c', lab := lab' } := by unfold TL.with_; rw [if_neg hin, e1]
    rw [e2]
    have hbb : L.lab L.bb = .arr false := by obtain ⟨_, _, _, g, _⟩ := h3; exact g
    have hbo : b ≠ L.bb := fun e => by rw [e, hbb] at h2; cases h2
    rw [e1] at hme
    refine ⟨?_, hme.2.trans h2, ?_, fun hO => (h4 hO).frame fun n hn => ?_, h5, hall⟩
    · rw [hme.1 hbo, h1]
      have : ({ L with B := L.B.set (idxN L.seed k L.B.length) c', lab := lab' } : TL).oo = L.oo := rfl
      rw [this]; simp
    · refine h3.chain hlt (fun hs g1 g2 => hblk hs g1 (by show _ < hs.length; omega)) ?_ (fun n ⟨i, hi, hn⟩ => ?_) hseg hlab hnd
      · have := hsame L.bb (by rw [hbb]; simp) (by rw [hbb]; simp) (by rw [hbb]; simp)
        exact this.2.trans hbb
      · have hnb : n ≠ L.bb := fun e => by subst e; rw [hbb] at hn; cases hn
        have := hsame n (by rw [hn]; simp) (by rw [hn]; simp) (by rw [hn]; simp; exact hi)
        exact ⟨this.1 hnb, this.2⟩
    · have hnb : n ≠ L.bb := fun e => by subst e; rw [hbb] at hn; rcases hn with e | ⟨i, _, e⟩ <;> cases e
      have := hsame n (by rcases hn with e | ⟨i, _, e⟩ <;> rw [e] <;> simp) (by rcases hn with e | ⟨i, _, e⟩ <;> rw [e] <;> simp) (by rcases hn with e | ⟨i, _, e⟩ <;> rw [e] <;> simp)
      exact ⟨this.1 hnb, this.2⟩

/-- Which blocks are the table's, and which stay. -/
def Frame (p p' : Pool) (L L' : TL) : Prop := ∀ n, L.lab n = .no → p n ≠ none → p' n = p n ∧ L'.lab n = .no
theorem Frame.refl (p : Pool) (L : TL) : Frame p p L L := fun n h _ => ⟨rfl, h⟩
theorem Frame.trans {p q r : Pool} {L M N : TL} (h : Frame p q L M) (k : Frame q r M N) : Frame p r L N := fun n h1 h2 =>
  let ⟨a, b⟩ := h n h1 h2; let ⟨c, d⟩ := k n b (by rw [a]; exact h2); ⟨c.trans a, d⟩

end Sx
end Go.Proofs.Ytkadlfadmjhahaa

/-
  Plain tables; what Get does.
-/
namespace Go.Proofs.Ytkadlfadmjhahaa
namespace Sx
open Go
set_option linter.unusedSimpArgs false
set_option linter.unusedVariables false

/-- A table as rows of rows. -/
structure TM where
  seed : Int
  B : List (List Ent)
  O : List (List Ent)
  moved : Nat
  len : Nat
def ents (c : Chn) : List Ent := c.map (·.2)
def TL.tm (L : TL) : TM := ⟨L.seed, L.B.map ents, L.O.map ents, L.moved, L.len⟩
def TM.inOld (t : TM) (key : Int) : Bool := decide (t.moved < t.O.length) && decide (t.moved ≤ idxN t.seed key t.O.length)
def TM.chain (t : TM) (key : Int) : List Ent := if t.inOld key then t.O.getD (idxN t.seed key t.O.length) [] else t.B.getD (idxN t.seed key t.B.length) []
def TM.get (t : TM) (key : Int) : Option Ent := (t.chain key).find? (fun e => decide (e.key = key))
def TM.with_ (t : TM) (k : Int) (c : List Ent) : TM := if t.inOld k then { t with O := t.O.set (idxN t.seed k t.O.length) c } else { t with B := t.B.set (idxN t.seed k t.B.length) c }

theorem tm_inOld (L : TL) (k : Int) : L.tm.inOld k = L.inOld k := by unfold TM.inOld TL.inOld TL.tm; simp
theorem tm_chain (L : TL) (k : Int) : L.tm.chain k = ents (L.chain k) := by
  unfold TM.chain TL.chain
  rw [tm_inOld]
  have hO : L.tm.O.length = L.O.length := by simp [TL.tm]
  have hB : L.tm.B.length = L.B.length := by simp [TL.tm]
  rw [hO, hB]
  have key : ∀ (l : List Chn) (i : Nat), (l.map ents).getD i [] = ents (l.getD i []) := by
    intro l i
    simp only [List.getD, List.getElem?_map]
    cases l[i]? <;> rfl
  split
  · exact key _ _
  · exact key _ _
theorem tm_with (L : TL) (k : Int) (c : Chn) (lab : Nat → Lab) : (L.with_ k c lab).tm = L.tm.with_ k (ents c) := by
  unfold TL.with_ TM.with_
  rw [tm_inOld]
  have hO : L.tm.O.length = L.O.length := by simp [TL.tm]
  have hB : L.tm.B.length = L.B.length := by simp [TL.tm]
  rw [hO, hB]
  by_cases h : L.inOld k = true
  · simp only [h, if_true]
    have e1 : (L.head k).2 = idxN L.seed k L.O.length := by unfold TL.head; rw [if_pos h]
    rw [e1]; simp [TL.tm, List.map_set]
  · simp only [h, if_false]
    have e1 : (L.head k).2 = idxN L.seed k L.B.length := by unfold TL.head; rw [if_neg h]
    rw [e1]; simp [TL.tm, List.map_set]
theorem find_place : ∀ (c : Chn) (k : Int), (ents c).find? (fun e => decide (e.key = k)) = if placeOf c k < c.length then some (c.getD (placeOf c k) (0, e0)).2 else none
  | [], k => by simp [ents, placeOf]
  | (a, e) :: c, k => by
    have ih := find_place c k
    unfold ents at ih ⊢
    simp only [List.map_cons, List.find?_cons]
    by_cases h : e.key = k
    · simp [h, placeOf, List.findIdx_cons]
    · have hp : placeOf ((a, e) :: c) k = placeOf c k + 1 := by simp [placeOf, List.findIdx_cons, h]
      rw [hp]
      simp only [h, decide_false]
      rw [ih]
      simp
theorem tm_get (L : TL) (k : Int) : L.tm.get k = if placeOf (L.chain k) k < (L.chain k).length then some ((L.chain k).getD (placeOf (L.chain k) k) (0, e0)).2 else none := by
  unfold TM.get; rw [tm_chain]; exact find_place _ _

theorem hooksG_ok : ∀ g H, hooksG g = some H → HookOk Try.prog g H := by
  intro g H h
  unfold hooksG at h
  split at h
  · cases h; exact hFind
  · cases h
theorem cfgG0_ok : cfgG0.ok := by
  refine ⟨tab_met, kinds_met, mixed_met, fun g fn h => ?_, hooksG_ok⟩
  unfold cfgG0 fnsG at h
  simp only at h
  split at h <;> cases h <;> exact ⟨by kernel_rfl, by kernel_rfl⟩

def foundAV (g : Option Ent) : AV := .tup [.agg (Ent.enc (g.getD e0)), .bool g.isSome]
def runGet : RunPool V := fun p ar K => match ar with
  | [.val (.rp o0), .int .i64 key] => .ex Nat fun b => .need (o0 = some (b, 0)) (.ex TL fun L => .need (TabAt p b L ∧ L.fits) (K (foundAV (L.tm.get key)) p []))
  | _ => .bad 500
theorem hGet : HookOk Try.prog 13 (hookPool [.val, .int .i64] runGet) := by
  refine pool_hook (C := cfgG0) cfgG0_ok (n := 60) (fn := Try.f13) ⟨by kernel_rfl, by kernel_rfl⟩ (by kernel_rfl) ?_
  intro M p ar K0 H
  unfold runGet at H
  split at H
  · rename_i o0 key
    obtain ⟨b, rfl, L, ⟨hT, hF⟩, H⟩ := H
    refine ⟨show 2 ≤ _ by decide +kernel, ?_⟩
    show (runF cfgG0 60 13 Try.f13 [.rp (some (b, 0)), .int .i64 key] [(0, .pool p)] 3).holds _
    rw [tget]
    rw [tm_get] at H
    obtain ⟨o, c1, c2, c3, c4⟩ := hT.chain hF key
    have hle := placeOf_le (L.chain key) key
    obtain ⟨o', g1, g2⟩ := c2.cell c1 hle
    simp only [Out.holds, decide_eq_true_eq, decide_eq_false_iff_not, beq_iff_eq, beq_eq_false_iff_ne, bne_iff_ne, ne_eq, bne_eq_false_iff_eq, Bool.true_and, Bool.and_true, Bool.not_eq_true', Bool.not_eq_false', Bool.and_eq_true, Bool.or_eq_true, Bool.and_eq_false_imp, true_implies, true_and, Bool.not_true, Bool.not_false, Bool.false_eq_true, Bool.true_eq_false, false_implies, and_true, beq_self_eq_true, Decidable.not_not, not_true_eq_false, not_false_eq_true]
    refine ⟨L, ⟨hT, hF⟩, rfl, o', g1, fun hn => ?_, fun hn => ?_⟩
    · have : o' = none := by simpa using hn
      subst this
      have : ¬ placeOf (L.chain key) key < (L.chain key).length := fun h => by have := (g2.split h).1; cases this
      rw [if_neg this] at H
      refine ⟨_, _, _, H, endPool (AV.sub_two (fun r v hv => hv) (AV.sub_ff rfl)) rfl rfl⟩

    · have hlt : placeOf (L.chain key) key < (L.chain key).length := by
        rcases Nat.lt_or_ge (placeOf (L.chain key) key) (L.chain key).length with h | h
        · exact h
        · have := g2.over h; subst this; simp at hn
      rw [if_pos hlt] at H
      obtain ⟨rfl, o2, k1, k2⟩ := g2.split hlt
      exact ⟨rfl, rfl, _, _, _, _, at_whole k1 0 (entPD _) rfl (by simp [linkPD, entPD]), _, _, _, H, endPool (AV.sub_two (AV.sub_of_eq rfl) (AV.sub_tt rfl)) rfl rfl⟩
  · exact H.elim

end Sx
end Go.Proofs.Ytkadlfadmjhahaa

/-
  Tables in a pool: a cell of a key's chain written, a link's entry written.
-/
namespace Go.Proofs.Ytkadlfadmjhahaa
namespace Sx
open Go
set_option linter.unusedSimpArgs false
set_option linter.unusedVariables false

theorem setAt_ptrs {hs : List Adr} {i : Nat} {o : Adr} (h : i < hs.length) : setAt (hs.map PD.ptr) i [.ptr o] = (hs.set i o).map PD.ptr := by
  unfold setAt
  rw [List.map_set, List.set_eq_take_append_cons_drop, if_pos (by simpa using h)]
  simp
theorem ptrs_inj : ∀ {a b : List Adr}, a.map PD.ptr = b.map PD.ptr → a = b
  | [], [], _ => rfl
  | [], _ :: _, h => by cases h
  | _ :: _, [], h => by cases h
  | x :: a, y :: b, h => by
    simp only [List.map_cons, List.cons.injEq, PD.ptr.injEq] at h
    rw [h.1, ptrs_inj h.2]
theorem at_ptr {p : Pool} {blk T i : Nat} {hs : List Adr} {o : Adr} (h : p.at (some (blk, i)) [.ptr o]) (hb : p blk = some (T, hs.map PD.ptr)) (hi : i < hs.length) : hs.getD i none = o := by
  obtain ⟨b, off, T', cs, e, h1, h2, h3⟩ := h
  cases e
  rw [hb] at h1; cases h1
  have h4 : ((hs.map PD.ptr).drop i).take 1 = [.ptr o] := h3
  rw [List.drop_eq_getElem_cons (by simpa using hi)] at h4
  simpa [List.getD, hi] using h4
theorem TabAt.headArr {p : Pool} {b : Nat} {L : TL} (h : TabAt p b L) (hf : L.fits) (k : Int) :
    ∃ hs : List Adr, p (L.head k).1 = some (57, hs.map PD.ptr) ∧ (L.head k).2 < hs.length ∧ L.lab (L.head k).1 = .arr (L.inOld k) := by
  obtain ⟨h1, h2, h3, h4, h5, h6⟩ := h
  obtain ⟨f1, f2, f3, f4⟩ := hf
  by_cases hin : L.inOld k = true
  · have hin' := hin
    unfold TL.inOld at hin'
    simp only [Bool.and_eq_true, decide_eq_true_eq] at hin'
    have hO : L.O ≠ [] := by intro e; rw [e] at hin'; simp at hin'
    obtain ⟨hs, a1, a2, a3, a4⟩ := h4 hO
    have hlt := idxN_lt (seed := L.seed) (key := k) (n := L.O.length) (by omega) f3
    have e1 : L.head k = (L.ob, idxN L.seed k L.O.length) := by unfold TL.head; rw [if_pos hin]
    rw [e1, hin]; exact ⟨hs, a1, by show _ < hs.length; omega, a3⟩
  · obtain ⟨hs, a1, a2, a3, a4⟩ := h3
    have hlt := idxN_lt (seed := L.seed) (key := k) (n := L.B.length) f1 f2
    have e1 : L.head k = (L.bb, idxN L.seed k L.B.length) := by unfold TL.head; rw [if_neg hin]
    rw [e1, show L.inOld k = false by simpa using hin]; exact ⟨hs, a1, by show _ < hs.length; omega, a3⟩

theorem getD_mem {c : Chn} {i : Nat} (h : i < c.length) : c.getD i (0, e0) ∈ c := by
  rw [List.getD_eq_getElem?_getD, List.getElem?_eq_getElem h]; exact List.getElem_mem h

/-- A cell of a key's chain turned: what stands from there on is another chain. -/
theorem TabAt.cellSet {p : Pool} {b : Nat} {L : TL} (h : TabAt p b L) (hf : L.fits) (k : Int) {i : Nat} (hi : i ≤ (L.chain k).length) {o2 : Adr} {c2 : Chn} {lab' : Nat → Lab}
    (hseg : Seg p o2 c2) (hdis : ∀ x ∈ c2, x.1 ∉ ((L.chain k).take i).map (·.1)) (hnd2 : (c2.map (·.1)).Nodup) (hlab : ∀ x ∈ c2, lab' x.1 = .lk (L.inOld k) (L.head k).2)
    (hc2 : ∀ x ∈ c2, x.1 ≠ (L.head k).1) (hsame : ∀ n, L.lab n ≠ .no → L.lab n ≠ .loose → lab' n = L.lab n) (hall : ∀ n, lab' n ≠ .no → p n ≠ none) :
    TabAt (p.set (some (cellOf (L.head k) (L.chain k) i)) [.ptr o2]) b (L.with_ k ((L.chain k).take i ++ c2) lab') := by
  obtain ⟨o, c1, s1, s2, s3⟩ := h.chain hf k
  obtain ⟨hs, a1, a2, a3⟩ := h.headArr hf k
  have hnd : (((L.chain k).take i ++ c2).map (·.1)).Nodup := by
    rw [List.map_append, List.nodup_append]
    refine ⟨?_, hnd2, fun x hx y hy e => ?_⟩
    · rw [List.map_take]; exact List.Nodup.sublist (List.take_sublist _ _) s3
    · obtain ⟨z, hz, rfl⟩ := List.mem_map.1 hy
      subst e; exact hdis z hz hx
  have hlabs : ∀ x ∈ (L.chain k).take i ++ c2, lab' x.1 = .lk (L.inOld k) (L.head k).2 := by
    intro x hx
    rcases List.mem_append.1 hx with hx | hx
    · have hs2 := s2 x (List.mem_of_mem_take hx)
      rw [hsame x.1 (by rw [hs2]; simp) (by rw [hs2]; simp), hs2]
    · exact hlab x hx
  cases i with
  | zero =>
    have hset : p.set (some (cellOf (L.head k) (L.chain k) 0)) [.ptr o2] = p.put (L.head k).1 57 ((hs.set (L.head k).2 o2).map PD.ptr) := by
      show p.set (some ((L.head k).1, (L.head k).2)) _ = _
      rw [Pool.set_eq a1, setAt_ptrs a2]
    rw [hset]
    refine h.turn hf k (o' := o2) (fun hs' g1 g2 => ?_) (fun n n1 n2 n3 => ⟨fun hn => Pool.put_ne hn, hsame n n1 n2⟩) ?_ hlabs hnd (fun n hn => Pool.put_some (hall n hn))
    · rw [Pool.put_self]
      rw [a1] at g1
      have : hs = hs' := by
        have := (Prod.mk.inj (Option.some.inj g1)).2
        exact ptrs_inj this
      rw [this]
    · simpa using hseg.frame fun x hx => Pool.put_ne (hc2 x hx)
  | succ j =>
    have hj : j < (L.chain k).length := by omega
    obtain ⟨o', g1, g2⟩ := s1.at_ hj
    have hla := s2 _ (getD_mem hj)
    have hset : p.set (some (cellOf (L.head k) (L.chain k) (j + 1))) [.ptr o2] = p.put ((L.chain k).getD j (0, e0)).1 59 (linkPD ((L.chain k).getD j (0, e0)).2 o2) := by
      show p.set (some (((L.chain k).getD j (0, e0)).1, 4)) _ = _
      rw [Pool.set_eq g1]; rfl
    rw [hset]
    have hne : (L.head k).1 ≠ ((L.chain k).getD j (0, e0)).1 := fun e => by rw [e, hla] at a3; cases a3
    refine h.turn hf k (o' := o) (fun hs' k1 k2 => ?_) (fun n n1 n2 n3 => ⟨fun hn => Pool.put_ne (fun e => by subst e; exact n3 hla), hsame n n1 n2⟩) ?_ hlabs hnd (fun n hn => Pool.put_some (hall n hn))
    · rw [Pool.put_ne hne, k1]
      have := at_ptr (show p.at (some ((L.head k).1, (L.head k).2)) [.ptr o] from c1) k1 k2
      have hid : hs'.set (L.head k).2 o = hs' := by
        rw [← this, List.getD_eq_getElem?_getD, List.getElem?_eq_getElem k2]; simp
      rw [hid]
    · refine Seg.link s1 hj s3 hseg fun x hx e => hdis x hx ?_
      rw [e]
      refine List.mem_map.2 ⟨_, ?_, rfl⟩
      rw [List.getD_eq_getElem?_getD, List.getElem?_eq_getElem hj]
      exact List.mem_take_iff_getElem.2 ⟨j, by omega, rfl⟩

/-- A link's entry turned. -/
theorem TabAt.entrySet {p : Pool} {b : Nat} {L : TL} (h : TabAt p b L) (hf : L.fits) (k : Int) {i : Nat} (hi : i < (L.chain k).length) (e : Ent) :
    TabAt (p.set (some (((L.chain k).getD i (0, e0)).1, 0)) (entPD e)) b (L.with_ k ((L.chain k).set i (((L.chain k).getD i (0, e0)).1, e)) L.lab) := by
  obtain ⟨o, c1, s1, s2, s3⟩ := h.chain hf k
  obtain ⟨hs, a1, a2, a3⟩ := h.headArr hf k
  obtain ⟨o', g1, g2⟩ := s1.at_ hi
  have hla := s2 _ (getD_mem hi)
  have hset : p.set (some (((L.chain k).getD i (0, e0)).1, 0)) (entPD e) = p.put ((L.chain k).getD i (0, e0)).1 59 (linkPD e o') := by
    rw [Pool.set_eq g1]; rfl
  rw [hset]
  have hne : (L.head k).1 ≠ ((L.chain k).getD i (0, e0)).1 := fun e => by rw [e, hla] at a3; cases a3
  have hblocks : ((L.chain k).set i (((L.chain k).getD i (0, e0)).1, e)).map (·.1) = (L.chain k).map (·.1) := by
    rw [List.map_set]
    rw [List.getD_eq_getElem?_getD, List.getElem?_eq_getElem hi]
    apply List.ext_getElem?
    intro n
    rw [List.getElem?_set]
    split
    · rename_i e; subst e; simp [hi]
    · rfl
  refine h.turn hf k (o' := o) (fun hs' k1 k2 => ?_) (fun n n1 n2 n3 => ⟨fun hn => Pool.put_ne (fun e => by subst e; exact n3 hla), rfl⟩) (Seg.entry s1 hi s3 g1) (fun x hx => ?_) (by rw [hblocks]; exact s3) (fun n hn => Pool.put_some (h.2.2.2.2.2 n hn))
  · rw [Pool.put_ne hne, k1]
    have := at_ptr (show p.at (some ((L.head k).1, (L.head k).2)) [.ptr o] from c1) k1 k2
    have hid : hs'.set (L.head k).2 o = hs' := by
      rw [← this, List.getD_eq_getElem?_getD, List.getElem?_eq_getElem k2]; simp
    rw [hid]
  · have : x.1 ∈ (L.chain k).map (·.1) := by rw [← hblocks]; exact List.mem_map.2 ⟨x, hx, rfl⟩
    obtain ⟨y, hy, hyx⟩ := List.mem_map.1 this
    rw [← hyx]; exact s2 y hy

/-- The table's own cells turned: chains of old buckets let go, numbers. -/
theorem TabAt.struct {p : Pool} {b : Nat} {L : TL} (h : TabAt p b L) (m l : Nat) (hm : L.moved ≤ m ∧ m ≤ L.O.length) :
    TabAt (p.put b 54 [.int .i64 L.seed, .sl (some (L.bb, 0)) L.B.length L.B.length, .sl L.oo L.O.length L.O.length, .int .i64 (m : Int), .int .i64 (l : Int)]) b { L with moved := m, len := l } := by
  obtain ⟨h1, h2, h3, h4, h5, h6⟩ := h
  refine ⟨Pool.put_self, h2, h3.frame fun n hn => ⟨Pool.put_ne ?_, rfl⟩, fun hO => ((h4 hO).later hm.1).frame fun n hn => ⟨Pool.put_ne ?_, rfl⟩, hm.2, fun n hn => Pool.put_some (h6 n hn)⟩
  · rintro rfl; rcases hn with e | ⟨i, _, e⟩ <;> (rw [h2] at e; cases e)
  · rintro rfl; rcases hn with e | ⟨i, _, e⟩ <;> (rw [h2] at e; cases e)
theorem TabAt.drop {p : Pool} {b : Nat} {L : TL} (h : TabAt p b L) : TabAt (p.put b 54 [.int .i64 L.seed, .sl (some (L.bb, 0)) L.B.length L.B.length, .sl none 0 0, .int .i64 0, .int .i64 (L.len : Int)]) b { L with O := [], moved := 0 } := by
  obtain ⟨h1, h2, h3, h4, h5, h6⟩ := h
  refine ⟨Pool.put_self, h2, h3.frame fun n hn => ⟨Pool.put_ne ?_, rfl⟩, fun hO => absurd rfl hO, Nat.le_refl _, fun n hn => Pool.put_some (h6 n hn)⟩
  rintro rfl; rcases hn with e | ⟨i, _, e⟩ <;> (rw [h2] at e; cases e)

end Sx
end Go.Proofs.Ytkadlfadmjhahaa

/-
  Tables: a link laid into its bucket; plain laws.
-/
namespace Go.Proofs.Ytkadlfadmjhahaa
namespace Sx
open Go
set_option linter.unusedSimpArgs false
set_option linter.unusedVariables false

def insE (t : TM) (e : Ent) : TM := t.with_ e.key (t.chain e.key ++ [e])
def insAll : TM → List Ent → TM
  | t, [] => t
  | t, e :: es => insAll (insE t e) es
def insOk : TM → List Ent → Prop
  | _, [] => True
  | t, e :: es => t.get e.key = none ∧ insOk (insE t e) es

structure MvS where
  p : Pool
  o : Adr
  L : TL
  c : Chn
structure MvOk (b m : Nat) (x : MvS) : Prop where
  hT : TabAt x.p b x.L
  hF : x.L.fits
  seg : Seg x.p x.o x.c
  lab : ∀ y ∈ x.c, x.L.lab y.1 = .lk true m
  lt : m < x.L.moved
  nd : (x.c.map (·.1)).Nodup
  ok : insOk x.L.tm (ents x.c)

def relab (lab : Nat → Lab) (a : Nat) (l : Lab) : Nat → Lab := fun n => if n = a then l else lab n
theorem relab_self (lab : Nat → Lab) (a : Nat) (l : Lab) : relab lab a l a = l := by simp [relab]
theorem relab_ne {lab : Nat → Lab} {a n : Nat} {l : Lab} (h : n ≠ a) : relab lab a l n = lab n := by simp [relab, h]

/-- A link that is let go may be written. -/
theorem TabAt.loosen {p : Pool} {b : Nat} {L : TL} (h : TabAt p b L) {a m T : Nat} (ha : L.lab a = .lk true m) (hm : m < L.moved) (cs : List PD) : TabAt (p.put a T cs) b { L with lab := relab L.lab a .loose } := by
  obtain ⟨h1, h2, h3, h4, h5, h6⟩ := h
  have hb : b ≠ a := fun e => by rw [e, ha] at h2; cases h2
  refine ⟨by rw [Pool.put_ne hb]; exact h1, by show relab _ _ _ _ = _; rw [relab_ne hb]; exact h2, h3.frame fun n hn => ?_, fun hO => (h4 hO).frame fun n hn => ?_, h5, fun n hn => ?_⟩
  · have : n ≠ a := by rintro rfl; rcases hn with e | ⟨i, _, e⟩ <;> (rw [ha] at e; cases e)
    exact ⟨Pool.put_ne this, relab_ne this⟩
  · have : n ≠ a := by
      rintro rfl; rcases hn with e | ⟨i, hi, e⟩
      · rw [ha] at e; cases e
      · rw [ha] at e; cases e; omega
    exact ⟨Pool.put_ne this, relab_ne this⟩
  · by_cases e : n = a
    · subst e; rw [Pool.put_self]; simp
    · rw [Pool.put_ne e]
      exact h6 n (by have h' : relab L.lab a .loose n ≠ .no := hn; rwa [relab_ne e] at h')

theorem inOld_idx {L : TL} {k : Int} (h : L.inOld k = true) : L.moved ≤ (L.head k).2 := by
  have e1 : (L.head k).2 = idxN L.seed k L.O.length := by unfold TL.head; rw [if_pos h]
  rw [e1]; unfold TL.inOld at h; simp only [Bool.and_eq_true, decide_eq_true_eq] at h; exact h.2
/-- Whose a cell's block is. -/
theorem TabAt.cellLab {p : Pool} {b : Nat} {L : TL} (h : TabAt p b L) (hf : L.fits) (k : Int) {i : Nat} (hi : i ≤ (L.chain k).length) :
    L.lab (cellOf (L.head k) (L.chain k) i).1 = .arr (L.inOld k) ∨ L.lab (cellOf (L.head k) (L.chain k) i).1 = .lk (L.inOld k) (L.head k).2 := by
  cases i with
  | zero => obtain ⟨hs, a1, a2, a3⟩ := h.headArr hf k; exact .inl a3
  | succ j => obtain ⟨o, c1, s1, s2, s3⟩ := h.chain hf k; exact .inr (s2 _ (getD_mem (by omega)))
theorem Pool.set_ne {p : Pool} {c : Nat × Nat} {ds : List PD} {x : Nat} (h : x ≠ c.1) : (p.set (some c) ds) x = p x := by
  obtain ⟨b, off⟩ := c; simp [Pool.set]; intro e; exact absurd e h
theorem TL.fits_with {L : TL} (h : L.fits) (k : Int) (c : Chn) (lab : Nat → Lab) : (L.with_ k c lab).fits := by
  obtain ⟨f1, f2, f3, f4⟩ := h
  unfold TL.with_; split
  · exact ⟨f1, f2, by simpa using f3, f4⟩
  · exact ⟨by simpa using f1, by simpa using f2, f3, f4⟩
theorem TL.moved_with (L : TL) (k : Int) (c : Chn) (lab : Nat → Lab) : (L.with_ k c lab).moved = L.moved ∧ (L.with_ k c lab).lab = lab ∧ (L.with_ k c lab).len = L.len := by
  unfold TL.with_; split <;> exact ⟨rfl, rfl, rfl⟩
theorem ents_append (c d : Chn) : ents (c ++ d) = ents c ++ ents d := List.map_append

/-- One round of a move. -/
theorem MvOk.step {b m : Nat} {x : MvS} (h : MvOk b m x) {a : Nat} {e : Ent} {c : Chn} (hc : x.c = (a, e) :: c) :
    ∃ o' : Adr, x.o = some (a, 0) ∧ x.p a = some (59, linkPD e o') ∧
      ∃ L1 : TL, TabAt (x.p.set (some (a, 4)) [.ptr none]) b L1 ∧ L1.fits ∧
        ∃ L2 : TL, MvOk b m ⟨(x.p.set (some (a, 4)) [.ptr none]).set (some (L1.cell e.key)) [.ptr (some (a, 0))], o', L2, c⟩ ∧ L2.tm = insE x.L.tm e ∧
          ((x.p.set (some (a, 4)) [.ptr none]).has (some (L1.cell e.key)) 1) ∧ L2.moved = x.L.moved ∧
          Frame x.p ((x.p.set (some (a, 4)) [.ptr none]).set (some (L1.cell e.key)) [.ptr (some (a, 0))]) x.L L2 := by
  obtain ⟨hT, hF, seg, lab, lt, nd, ok⟩ := h
  rw [hc] at seg lab nd ok
  obtain ⟨ho, o', ha, hs'⟩ := seg
  simp only [List.map_cons, List.nodup_cons] at nd
  have hla : x.L.lab a = .lk true m := lab (a, e) (List.mem_cons_self ..)
  have hset : x.p.set (some (a, 4)) [.ptr none] = x.p.put a 59 (linkPD e none) := by rw [Pool.set_eq ha]; rfl
  have hT1 : TabAt (x.p.put a 59 (linkPD e none)) b { x.L with lab := relab x.L.lab a .loose } := hT.loosen hla lt _
  have hF1 : ({ x.L with lab := relab x.L.lab a .loose } : TL).fits := hF
  have hch : ({ x.L with lab := relab x.L.lab a .loose } : TL).chain e.key = x.L.chain e.key := rfl
  have hhd : ({ x.L with lab := relab x.L.lab a .loose } : TL).head e.key = x.L.head e.key := rfl
  have hio : ({ x.L with lab := relab x.L.lab a .loose } : TL).inOld e.key = x.L.inOld e.key := rfl
  have hpl : placeOf (x.L.chain e.key) e.key = (x.L.chain e.key).length := by
    have h0 := ok.1
    rw [tm_get] at h0
    have hle := placeOf_le (x.L.chain e.key) e.key
    by_cases h : placeOf (x.L.chain e.key) e.key < (x.L.chain e.key).length
    · rw [if_pos h] at h0; cases h0
    · omega
  have hcl : ({ x.L with lab := relab x.L.lab a .loose } : TL).cell e.key = cellOf (x.L.head e.key) (x.L.chain e.key) (x.L.chain e.key).length := by
    unfold TL.cell; rw [hch, hhd, hpl]
  have hcb := hT1.cellLab hF1 e.key (i := (x.L.chain e.key).length) (Nat.le_of_eq (by rw [hch]))
  rw [hch, hhd, hio] at hcb
  have hidx : x.L.inOld e.key = true → x.L.moved ≤ (x.L.head e.key).2 := inOld_idx
  have hcba : ∀ n, x.L.lab n = .lk true m → n ≠ (cellOf (x.L.head e.key) (x.L.chain e.key) (x.L.chain e.key).length).1 ∨ n = a := by
    intro n hn
    by_cases ena : n = a
    · exact .inr ena
    · left; rintro rfl
      have : relab x.L.lab a .loose (cellOf (x.L.head e.key) (x.L.chain e.key) (x.L.chain e.key).length).1 = .lk true m := by rw [relab_ne ena]; exact hn
      rcases hcb with g | g
      · have g : relab x.L.lab a .loose _ = _ := g
        rw [this] at g; cases g
      · have g : relab x.L.lab a .loose _ = _ := g
        rw [this] at g
        simp only [Lab.lk.injEq] at g
        have := hidx g.1.symm; omega
  have hcbno : ∀ n, x.L.lab n = .no → n ≠ (cellOf (x.L.head e.key) (x.L.chain e.key) (x.L.chain e.key).length).1 := by
    rintro n hn rfl
    have hna : (cellOf (x.L.head e.key) (x.L.chain e.key) (x.L.chain e.key).length).1 ≠ a := fun e' => by rw [e', hla] at hn; cases hn
    have : relab x.L.lab a .loose (cellOf (x.L.head e.key) (x.L.chain e.key) (x.L.chain e.key).length).1 = .no := by rw [relab_ne hna]; exact hn
    rcases hcb with g | g
    · have g : relab x.L.lab a .loose _ = _ := g
      rw [this] at g; cases g
    · have g : relab x.L.lab a .loose _ = _ := g
      rw [this] at g; cases g
  have hane : a ≠ (cellOf (x.L.head e.key) (x.L.chain e.key) (x.L.chain e.key).length).1 := by
    intro e'
    have : relab x.L.lab a .loose a = .loose := relab_self _ _ _
    rw [e'] at this
    rcases hcb with g | g
    · have g : relab x.L.lab a .loose _ = _ := g
      rw [← e'] at g this; rw [this] at g; cases g
    · have g : relab x.L.lab a .loose _ = _ := g
      rw [← e'] at g this; rw [this] at g; cases g
  obtain ⟨oh, ch1, ch2, ch3, ch4⟩ := hT1.chain hF1 e.key
  rw [hch] at ch2 ch3 ch4
  obtain ⟨hs, a1, a2, a3⟩ := hT1.headArr hF1 e.key
  have hla2 : ∀ y ∈ x.L.chain e.key, y.1 ≠ a := by
    intro y hy e'
    have := ch3 y hy
    have g : relab x.L.lab a .loose y.1 = _ := this
    rw [e', relab_self] at g; cases g
  have hT2 := hT1.cellSet hF1 e.key (i := (x.L.chain e.key).length) (by rw [hch]; exact Nat.le_refl _) (o2 := some (a, 0)) (c2 := [(a, e)]) (lab' := relab x.L.lab a (.lk (x.L.inOld e.key) (x.L.head e.key).2))
    ⟨rfl, none, Pool.put_self, rfl⟩ (fun y hy => by
      simp only [List.mem_singleton] at hy; subst hy
      intro hm
      rw [hch] at hm
      obtain ⟨z, hz, hza⟩ := List.mem_map.1 hm
      exact hla2 z (List.mem_of_mem_take hz) hza) (by simp) (fun y hy => by simp only [List.mem_singleton] at hy; subst hy; exact relab_self _ _ _)
    (fun y hy => by
      simp only [List.mem_singleton] at hy; subst hy
      intro e'
      have g : relab x.L.lab a .loose (x.L.head e.key).1 = _ := a3
      rw [show (x.L.head e.key).1 = a from e'.symm, relab_self] at g; cases g)
    (fun n n1 n2 => by
      have n2' : relab x.L.lab a .loose n ≠ .loose := n2
      have hna : n ≠ a := fun e' => n2' (by rw [e', relab_self])
      show relab _ _ _ n = relab x.L.lab a .loose n
      rw [relab_ne hna, relab_ne hna])
    (fun n hn => by
      by_cases hna : n = a
      · subst hna; rw [Pool.put_self]; simp
      · rw [Pool.put_ne hna]; rw [relab_ne hna] at hn; exact hT.2.2.2.2.2 n hn)
  rw [hch, hhd] at hT2
  have htk : List.take (x.L.chain e.key).length (x.L.chain e.key) = x.L.chain e.key := List.take_length
  rw [htk] at hT2
  obtain ⟨w1, w2, w3⟩ := TL.moved_with { x.L with lab := relab x.L.lab a .loose } e.key (x.L.chain e.key ++ [(a, e)]) (relab x.L.lab a (.lk (x.L.inOld e.key) (x.L.head e.key).2))
  have htm : (TL.with_ { x.L with lab := relab x.L.lab a .loose } e.key (x.L.chain e.key ++ [(a, e)]) (relab x.L.lab a (.lk (x.L.inOld e.key) (x.L.head e.key).2))).tm = insE x.L.tm e := by
    rw [tm_with]
    unfold insE
    rw [tm_chain, ents_append]; rfl
  refine ⟨o', ho, ha, _, by rw [hset]; exact hT1, hF1, _, ?_, htm, ?_, w1, ?_⟩
  · rw [hset, hcl]
    refine ⟨hT2, TL.fits_with hF1 _ _ _, ?_, fun y hy => ?_, by show m < _; rw [w1]; exact lt, nd.2, by show insOk (TL.tm _) _; rw [htm]; exact ok.2⟩
    · refine hs'.frame fun y hy => ?_
      have hya : y.1 ≠ a := fun e' => nd.1 (by rw [← e']; exact List.mem_map.2 ⟨y, hy, rfl⟩)
      dsimp only
      rw [Pool.set_ne ((hcba y.1 (lab y (List.mem_cons_of_mem _ hy))).resolve_right hya), Pool.put_ne hya]
    · have hya : y.1 ≠ a := fun e' => nd.1 (by rw [← e']; exact List.mem_map.2 ⟨y, hy, rfl⟩)
      show (TL.lab _) y.1 = _
      rw [w2, relab_ne hya]; exact lab y (List.mem_cons_of_mem _ hy)
  · rw [hset, hcl]
    obtain ⟨o3, g1, g2⟩ := ch2.cell (c0 := x.L.head e.key) (by rw [hhd] at ch1; exact ch1) (Nat.le_refl _)
    obtain ⟨b', off, T', cs, e1, e2, e3, _⟩ := g1
    exact ⟨b', off, T', cs, e1, e2, e3⟩
  · rw [hset, hcl]
    intro n hn hp
    have hna : n ≠ a := fun e' => by rw [e', hla] at hn; cases hn
    refine ⟨?_, ?_⟩
    · rw [Pool.set_ne (hcbno n hn), Pool.put_ne hna]
    · rw [w2, relab_ne hna]; exact hn

end Sx
end Go.Proofs.Ytkadlfadmjhahaa

/-
  Tables: the runs of the machine.
-/
namespace Go.Proofs.Ytkadlfadmjhahaa
namespace Sx
open Go
set_option maxRecDepth 100000
set_option linter.unusedVariables false

structure PMv where
  b : Nat
  m : Nat
  x : MvS
  h : MvOk b m x
def MI1 (q : PMv) (x : MvS) : St V := ⟨[(0, .rp (some (q.b, 0))), (2, .rp x.o)], [(0, .pool x.p)], 3, 52, TQ⟩
def ML1 : LoopS V := trimLoop (trimSt [0, 2] [0]) (loopH 3 (fun q : PMv => MI1 q q.x) (fun q (y : Pool × TL) => TabAt y.1 q.b y.2 ∧ y.2.fits ∧ y.2.tm = insAll q.x.L.tm (ents q.x.c) ∧ Frame q.x.p y.1 q.x.L y.2 ∧ y.2.moved = q.x.L.moved) (fun q y => MI1 q ⟨y.1, none, y.2, []⟩))
noncomputable def cfgMv : Cfg Try.prog V := ⟨tab, kinds, fnsG, hooksG, fun f id => match f, id with | 31, 0 => some ML1 | _, _ => none⟩
theorem tbmv (q : PMv) (x : MvS) : runCode cfgG0 60 31 (loopOf Try.f31 0) (MI1 q x) (stopT (trimSt [0, 2] [0])) = Out.ite (!Option.isNone x.o) (Out.need (Option.isSome x.o = true) (Out.need (Option.isSome x.o = true) (Out.ex (Option (Nat × Nat)) fun y => Out.need (x.p.at (shiftA x.o (4 : Nat)) [PD.ptr y]) (Out.need (Option.isSome x.o = true) (Out.need (Option.isSome x.o = true) (Out.need (x.p.has (shiftA x.o (4 : Nat)) (1 : Nat)) (Out.need (Option.isSome x.o = true) (Out.need (Option.isSome x.o = true) (Out.need ((shiftA x.o (0 : Nat)).isSome = true) (Out.ex Int fun y_1 => Out.need ((x.p.set (shiftA x.o (4 : Nat)) [PD.ptr none]).at (shiftA (shiftA x.o (0 : Nat)) (0 : Nat)) [PD.int .i64 y_1]) (Out.ex TL fun y_2 => Out.need (TabAt (x.p.set (shiftA x.o (4 : Nat)) [PD.ptr none]) q.1 y_2 ∧ y_2.fits) (Out.need ((some (y_2.cell y_1)).isSome = true) (Out.need ((x.p.set (shiftA x.o (4 : Nat)) [PD.ptr none]).has (some (y_2.cell y_1)) (1 : Nat)) (Out.stop EX.nx {env := [((0 : Nat), AV.rp (some (q.1, (0 : Nat)))), ((2 : Nat), AV.rp y)], heap := [((0 : Nat), Blk.pool ((x.p.set (shiftA x.o (4 : Nat)) [PD.ptr none]).set (some (y_2.cell y_1)) [PD.ptr x.o]))], nx := (5 : Nat), nt := (52 : Nat), tl := [(0 : Nat), (0 : Nat), (0 : Nat), (0 : Nat), (1 : Nat), (2 : Nat), (3 : Nat), (4 : Nat), (5 : Nat), (6 : Nat), (7 : Nat), (8 : Nat), (9 : Nat), (10 : Nat), (11 : Nat), (12 : Nat), (13 : Nat), (14 : Nat), (15 : Nat), (16 : Nat)] : St V })))))))))))))) (Out.stop (EX.ex (0 : Nat)) {env := [((0 : Nat), AV.rp (some (q.1, (0 : Nat)))), ((2 : Nat), AV.rp x.o)], heap := [((0 : Nat), Blk.pool x.p)], nx := (3 : Nat), nt := (52 : Nat), tl := [(0 : Nat), (1 : Nat), (2 : Nat), (3 : Nat), (4 : Nat), (5 : Nat), (6 : Nat), (7 : Nat), (8 : Nat), (9 : Nat), (10 : Nat), (11 : Nat), (12 : Nat), (13 : Nat), (14 : Nat), (15 : Nat), (16 : Nat)] : St V }) := by kernel_rfl

theorem tmove (p : Pool) (b : Nat) : runF cfgMv 60 31 Try.f31 [.rp (some (b, 0))] [(0, .pool p)] 2 = Out.need ((some (b, (0 : Nat))).isSome = true) (Out.need ((some (b, (0 : Nat))).isSome = true) (Out.ex (Option (Nat × Nat)) fun y => Out.ex Nat fun y_1 => Out.ex Nat fun y_2 => Out.need (p.at (shiftA (some (b, (0 : Nat))) (2 : Nat)) [PD.sl y y_1 y_2]) (Out.need ((some (b, (0 : Nat))).isSome = true) (Out.need ((some (b, (0 : Nat))).isSome = true) (Out.ex Int fun y => Out.need (p.at (shiftA (some (b, (0 : Nat))) (3 : Nat)) [PD.int .i64 y]) (Out.ite (IntKind.i64.wrap ((↑y_1 : Int) - y) == (0 : Int)) (Out.fin (.tup []) [((0 : Nat), Blk.pool p)] (2 : Nat)) (Out.need ((some (b, (0 : Nat))).isSome = true) (Out.need ((some (b, (0 : Nat))).isSome = true) (Out.ex (Option (Nat × Nat)) fun y => Out.ex Nat fun y_3 => Out.ex Nat fun y_4 => Out.need (p.at (shiftA (some (b, (0 : Nat))) (2 : Nat)) [PD.sl y y_3 y_4]) (Out.need ((some (b, (0 : Nat))).isSome = true) (Out.need ((some (b, (0 : Nat))).isSome = true) (Out.ex Int fun y_5 => Out.need (p.at (shiftA (some (b, (0 : Nat))) (3 : Nat)) [PD.int .i64 y_5]) (Out.need ((0 : Int) ≤ y_5 ∧ y_5 < (↑y_3 : Int) ∧ y.isSome = true) (Out.ex (Option (Nat × Nat)) fun y_6 => Out.need (p.at (shiftA y (y_5.toNat * (1 : Nat))) [PD.ptr y_6]) (Out.need ((some (b, (0 : Nat))).isSome = true) (Out.need ((some (b, (0 : Nat))).isSome = true) (Out.ex Int fun y => Out.need (p.at (shiftA (some (b, (0 : Nat))) (3 : Nat)) [PD.int .i64 y]) (Out.need ((some (b, (0 : Nat))).isSome = true) (Out.need ((some (b, (0 : Nat))).isSome = true) (Out.need (p.has (shiftA (some (b, (0 : Nat))) (3 : Nat)) (1 : Nat)) (Out.need (LoopFor Try.prog (31 : Nat) (0 : Nat) (loopOf Try.f31 (0 : Nat)) ML1) (Out.ex (PMv → Prop) fun y_7 => Out.need ((3 : Nat) ≤ (3 : Nat) ∧ SImp (3 : Nat) {env := [((0 : Nat), AV.rp (some (b, (0 : Nat)))), ((2 : Nat), AV.rp y_6)], heap := [((0 : Nat), Blk.pool (p.set (shiftA (some (b, (0 : Nat))) (3 : Nat)) [PD.int .i64 (IntKind.i64.wrap (y + (1 : Int)))]))], nx := (3 : Nat), nt := (52 : Nat), tl := [(0 : Nat)] : St V } (fun q => MI1 q q.x) y_7) (Out.all PMv fun y => Out.asm (y_7 y) (Out.all (Pool × TL) fun y_8 => Out.asm ((fun q y => TabAt y.fst q.1 y.snd ∧ y.snd.fits ∧ y.snd.tm = insAll q.x.L.tm (ents q.x.c) ∧ Sx.Frame q.x.p y.fst q.x.L y.snd ∧ y.snd.6 = q.x.L.6) y y_8) (Out.need ((some (y.1, (0 : Nat))).isSome = true) (Out.need ((some (y.1, (0 : Nat))).isSome = true) (Out.ex (Option (Nat × Nat)) fun y_9 => Out.ex Nat fun y_10 => Out.ex Nat fun y_11 => Out.need ({p := y_8.fst, o := none, L := y_8.snd, c := [] : MvS }.p.at (shiftA (some (y.1, (0 : Nat))) (2 : Nat)) [PD.sl y_9 y_10 y_11]) (Out.need ((some (y.1, (0 : Nat))).isSome = true) (Out.need ((some (y.1, (0 : Nat))).isSome = true) (Out.ex Int fun y_12 => Out.need ({p := y_8.fst, o := none, L := y_8.snd, c := [] : MvS }.p.at (shiftA (some (y.1, (0 : Nat))) (3 : Nat)) [PD.int .i64 y_12]) (Out.ite (IntKind.i64.wrap ((↑y_10 : Int) - y_12) == (0 : Int)) (Out.need ((some (y.1, (0 : Nat))).isSome = true) (Out.need ((some (y.1, (0 : Nat))).isSome = true) (Out.need ({p := y_8.fst, o := none, L := y_8.snd, c := [] : MvS }.p.has (shiftA (some (y.1, (0 : Nat))) (2 : Nat)) (1 : Nat)) (Out.need ((some (y.1, (0 : Nat))).isSome = true) (Out.need ((some (y.1, (0 : Nat))).isSome = true) (Out.need (({p := y_8.fst, o := none, L := y_8.snd, c := [] : MvS }.p.set (shiftA (some (y.1, (0 : Nat))) (2 : Nat)) [PD.sl none (0 : Nat) (0 : Nat)]).has (shiftA (some (y.1, (0 : Nat))) (3 : Nat)) (1 : Nat)) (Out.fin (.tup []) [((0 : Nat), Blk.pool (({p := y_8.fst, o := none, L := y_8.snd, c := [] : MvS }.p.set (shiftA (some (y.1, (0 : Nat))) (2 : Nat)) [PD.sl none (0 : Nat) (0 : Nat)]).set (shiftA (some (y.1, (0 : Nat))) (3 : Nat)) [PD.int .i64 (0 : Int)]))] (5 : Nat)))))))) (Out.fin (.tup []) [((0 : Nat), Blk.pool {p := y_8.fst, o := none, L := y_8.snd, c := [] : MvS }.p)] (3 : Nat))))))))))))))))))))))))))))))))) := by kernel_rfl

end Sx
end Go.Proofs.Ytkadlfadmjhahaa

/-
  An old bucket moved: what the function does.
-/
namespace Go.Proofs.Ytkadlfadmjhahaa
namespace Sx
open Go
set_option linter.unusedSimpArgs false
set_option linter.unusedVariables false

theorem tm_with_len (t : TM) (k : Int) (c : List Ent) : (t.with_ k c).O.length = t.O.length ∧ (t.with_ k c).B.length = t.B.length ∧ (t.with_ k c).moved = t.moved ∧ (t.with_ k c).len = t.len ∧ (t.with_ k c).seed = t.seed := by
  unfold TM.with_; split <;> simp
theorem insAll_len : ∀ (es : List Ent) (t : TM), (insAll t es).O.length = t.O.length ∧ (insAll t es).B.length = t.B.length ∧ (insAll t es).moved = t.moved ∧ (insAll t es).len = t.len ∧ (insAll t es).seed = t.seed
  | [], t => ⟨rfl, rfl, rfl, rfl, rfl⟩
  | e :: es, t => by
    obtain ⟨a, b, c, d, f⟩ := insAll_len es (insE t e)
    obtain ⟨a', b', c', d', f'⟩ := tm_with_len t e.key (t.chain e.key ++ [e])
    exact ⟨a.trans a', b.trans b', c.trans c', d.trans d', f.trans f'⟩

theorem mvbody (q : PMv) (x : MvS) (h : MvOk q.b q.m x) (Q : EX → St V → Prop) (F : AV → Heap V → Nat → Prop)
    (hnx : ∀ (ST : St V) (y : MvS) (e : Ent) (a : Nat), x.c = (a, e) :: y.c → MvOk q.b q.m y → y.L.tm = insE x.L.tm e → y.L.moved = x.L.moved → Frame x.p y.p x.L y.L → Wk 3 [] ST (MI1 q y) → Q .nx ST)
    (hex : ∀ ST : St V, x.c = [] → x.o = none → Wk 3 [] ST (MI1 q x) → Q (.ex 0) ST) :
    (runCode cfgG0 60 31 (loopOf Try.f31 0) (MI1 q x) (stopT (trimSt [0, 2] [0]))).holds ⟨Q, F⟩ := by
  rw [tbmv]
  simp only [Out.holds, decide_eq_true_eq, decide_eq_false_iff_not, beq_iff_eq, beq_eq_false_iff_ne, bne_iff_ne, ne_eq, bne_eq_false_iff_eq, Bool.true_and, Bool.and_true, Bool.not_eq_true', Bool.not_eq_false', Bool.and_eq_true, Bool.or_eq_true, Bool.and_eq_false_imp, true_implies, true_and, Bool.not_true, Bool.not_false, Bool.false_eq_true, Bool.true_eq_false, false_implies, and_true, beq_self_eq_true, Decidable.not_not, not_true_eq_false, not_false_eq_true]
  rcases h.seg.hd with ⟨hc, ho⟩ | ⟨a, e, c, hc, ho⟩
  · refine ⟨fun hn => ?_, fun _ => hex _ hc ho (by (refine ⟨?_, ?_, rfl, tl_ok rfl, ?_, ⟨Nat.le_of_ble_eq_true rfl, rfl⟩⟩ <;> (repeat' first | with_reducible exact trivial | exact AV.sub_same _ | exact .same _ | exact .inr rfl | exact .inl (in_ok rfl) | exact AV.sub_lit' | exact AV.sub_nilS | exact .none _ _ | exact trivial | refine ⟨?_, ?_⟩)))⟩
    rw [ho] at hn; simp at hn
  · refine ⟨fun _ => ?_, fun hn => ?_⟩
    · obtain ⟨o', h1, h2, L1, h3, h4, L2, h5, h6, h7, h8, h9⟩ := h.step hc
      rw [h1]
      refine ⟨rfl, rfl, o', at_whole h2 4 _ rfl (by simp [linkPD]), rfl, rfl, ⟨a, 4, _, _, rfl, h2, by simp [linkPD]⟩, rfl, rfl, rfl, e.key, ?_, L1, ⟨h3, h4⟩, rfl, h7, hnx _ ⟨_, o', L2, c⟩ e a hc h5 h6 h8 h9 ?_⟩
      · have : x.p.set (some (a, 4)) [.ptr none] = x.p.put a 59 (linkPD e none) := by rw [Pool.set_eq h2]; rfl
        show (x.p.set (some (a, 4)) [.ptr none]).at (some (a, 0)) _
        rw [this]; exact at_whole Pool.put_self 0 _ rfl (by simp [linkPD])
      · (refine ⟨?_, ?_, rfl, tl_ok rfl, ?_, ⟨Nat.le_of_ble_eq_true rfl, rfl⟩⟩ <;> (repeat' first | with_reducible exact trivial | exact AV.sub_same _ | exact .same _ | exact .inr rfl | exact .inl (in_ok rfl) | exact AV.sub_lit' | exact AV.sub_nilS | exact .none _ _ | exact trivial | refine ⟨?_, ?_⟩))
    · rw [ho] at hn; simp at hn
theorem ml1_ok : LoopOk Try.prog 0 (loopOf Try.f31 0) ML1 := by
  refine trimLoop_ok (trim_ok _ _) (loopTH_ok (C := cfgG0) cfgG0_ok (f := 31) (n := 60) (trim_ok [0, 2] [0]) 3 MI1 (fun q x => MvOk q.b q.m x ∧ insAll x.L.tm (ents x.c) = insAll q.x.L.tm (ents q.x.c) ∧ Frame q.x.p x.p q.x.L x.L ∧ x.L.moved = q.x.L.moved) (fun q => q.x) (fun q x => x.c.length)
    (fun q (y : Pool × TL) => TabAt y.1 q.b y.2 ∧ y.2.fits ∧ y.2.tm = insAll q.x.L.tm (ents q.x.c) ∧ Frame q.x.p y.1 q.x.L y.2 ∧ y.2.moved = q.x.L.moved) (fun q y => MI1 q ⟨y.1, none, y.2, []⟩) (fun q => ⟨q.h, rfl, Frame.refl _ _, rfl⟩) ?_)
  intro q x ⟨h, h1, h2, h3⟩
  refine mvbody q x h _ _ (fun ST y e a hc hy g1 g2 g3 hw => SImp.of_wk y hw ⟨⟨hy, ?_, h2.trans g3, g2.trans h3⟩, ?_⟩) (fun ST hc ho hw => ⟨rfl, SImp.of_wk (ren := []) (x.p, x.L) ?_ ⟨h.hT, h.hF, ?_, h2, h3⟩⟩)
  · rw [g1, ← h1, hc]; rfl
  · show y.c.length < x.c.length; rw [hc]; simp
  · obtain ⟨p, o, L, c⟩ := x; simp only at hc ho; subst hc; subst ho; exact hw
  · rw [← h1, hc]; rfl

def TM.stepMoved (t : TM) : TM := insAll { t with moved := t.moved + 1 } (t.O.getD t.moved [])
def TM.move (t : TM) : TM := if t.O.length ≤ t.moved then t else if t.O.length ≤ t.moved + 1 then { t.stepMoved with O := [], moved := 0 } else t.stepMoved
def moveOk (t : TM) : Prop := t.moved < t.O.length → insOk { t with moved := t.moved + 1 } (t.O.getD t.moved [])

theorem hooksMv_ok : cfgMv.ok := by
  refine ⟨tab_met, kinds_met, mixed_met, fun g fn h => ?_, hooksG_ok⟩
  unfold cfgMv fnsG at h
  simp only at h
  split at h <;> cases h <;> exact ⟨by kernel_rfl, by kernel_rfl⟩

def runMove : RunPool V := fun p ar K => match ar with
  | [.val (.rp (some (b, 0)))] => .ex TL fun L => .need (TabAt p b L ∧ L.fits ∧ moveOk L.tm) (.all (Pool × TL) fun y => .asm (TabAt y.1 b y.2 ∧ y.2.fits ∧ y.2.tm = L.tm.move ∧ Frame p y.1 L y.2) (K (.tup []) y.1 []))
  | _ => .bad 500
theorem hMove : HookOk Try.prog 31 (hookPool [.val] runMove) := by
  refine pool_hook (C := cfgMv) hooksMv_ok (n := 60) (fn := Try.f31) ⟨by kernel_rfl, by kernel_rfl⟩ (by kernel_rfl) ?_
  intro M p ar K0 H
  unfold runMove at H
  split at H
  · rename_i b
    obtain ⟨L, ⟨hT, hF, hok⟩, H⟩ := H
    refine ⟨show 1 ≤ _ by decide +kernel, ?_⟩
    show (runF cfgMv 60 31 Try.f31 [.rp (some (b, 0))] [(0, .pool p)] 2).holds _
    rw [tmove]
    have f0 := hT.f0; have f1 := hT.f1; have f2 := hT.f2; have f3 := hT.f3
    have hmv := hT.2.2.2.2.1
    have hF' := hF
    obtain ⟨n1, n2, n3, n4⟩ := hF'
    have hw : IntKind.wrap .i64 ((L.O.length : Int) - (L.moved : Int)) = (L.O.length : Int) - (L.moved : Int) := wrap_low (by omega) (by omega)
    have hw1 : IntKind.wrap .i64 ((L.moved : Int) + 1) = ((L.moved + 1 : Nat) : Int) := wrap_nat (by omega)
    have eO : L.tm.O.length = L.O.length := by simp [TL.tm]
    simp only [Out.holds, decide_eq_true_eq, decide_eq_false_iff_not, beq_iff_eq, beq_eq_false_iff_ne, bne_iff_ne, ne_eq, bne_eq_false_iff_eq, Bool.true_and, Bool.and_true, Bool.not_eq_true', Bool.not_eq_false', Bool.and_eq_true, Bool.or_eq_true, Bool.and_eq_false_imp, true_implies, true_and, Bool.not_true, Bool.not_false, Bool.false_eq_true, Bool.true_eq_false, false_implies, and_true, beq_self_eq_true, Decidable.not_not, not_true_eq_false, not_false_eq_true]
    refine ⟨rfl, rfl, _, _, _, f2, rfl, rfl, _, f3, fun hz => ?_, fun hz => ?_⟩
    · rw [hw] at hz
      have hm : L.tm.move = L.tm := by unfold TM.move; rw [if_pos (by rw [eO]; show L.O.length ≤ L.moved; omega)]
      exact ⟨_, _, _, H (p, L) ⟨hT, hF, hm.symm, Frame.refl _ _⟩, endPool (AV.sub_same _) rfl rfl⟩
    · rw [hw] at hz
      have hlt : L.moved < L.O.length := by omega
      have hO : L.O ≠ [] := by intro e; rw [e] at hlt; simp at hlt
      obtain ⟨hs, a1, a2, a3, a4⟩ := hT.2.2.2.1 hO
      obtain ⟨s1, s2, s3⟩ := a4 L.moved (Nat.le_refl _) hlt
      have hoo : L.oo = some (L.ob, 0) := by unfold TL.oo; rw [if_neg hO]
      have fc : p.at (shiftA L.oo ((L.moved : Int).toNat * 1)) [.ptr (hs.getD L.moved none)] := by
        rw [hoo]
        have := at_arr a1 (i := L.moved) (by omega)
        simpa using this
      have hs3 : p.set (shiftA (some (b, 0)) 3) [.int .i64 (IntKind.wrap .i64 ((L.moved : Int) + 1))] = p.put b 54 [.int .i64 L.seed, .sl (some (L.bb, 0)) L.B.length L.B.length, .sl L.oo L.O.length L.O.length, .int .i64 ((L.moved + 1 : Nat) : Int), .int .i64 (L.len : Int)] := by
        rw [hw1]; show p.set (some (b, 3)) _ = _; rw [Pool.set_eq hT.1]; rfl
      have hb3 : p.has (shiftA (some (b, 0)) 3) 1 := ⟨b, 3, _, _, rfl, hT.1, by simp⟩
      have hT1 := hT.struct (L.moved + 1) L.len ⟨by omega, by omega⟩
      rw [← hs3] at hT1
      have hlb : ∀ y ∈ L.O.getD L.moved [], y.1 ≠ b := fun y hy e => by have := s2 y hy; rw [e, hT.2.1] at this; cases this
      have hseg1 : Seg (p.set (shiftA (some (b, 0)) 3) [.int .i64 (IntKind.wrap .i64 ((L.moved : Int) + 1))]) (hs.getD L.moved none) (L.O.getD L.moved []) := by
        rw [hs3]; exact s1.frame fun y hy => Pool.put_ne (hlb y hy)
      have ecs : L.tm.O.getD L.tm.moved [] = ents (L.O.getD L.moved []) := by
        show (L.O.map ents).getD L.moved [] = _
        simp only [List.getD, List.getElem?_map]
        cases L.O[L.moved]? <;> rfl
      have et1 : ({ L with moved := L.moved + 1, len := L.len } : TL).tm = { L.tm with moved := L.tm.moved + 1 } := rfl
      have hMv : MvOk b L.moved ⟨p.set (shiftA (some (b, 0)) 3) [.int .i64 (IntKind.wrap .i64 ((L.moved : Int) + 1))], hs.getD L.moved none, { L with moved := L.moved + 1, len := L.len }, L.O.getD L.moved []⟩ :=
        ⟨hT1, ⟨n1, n2, n3, n4⟩, hseg1, s2, Nat.lt_succ_self _, s3, by rw [et1, ← ecs]; exact hok (by rw [eO]; exact hlt)⟩
      have hfr : Frame p (p.set (shiftA (some (b, 0)) 3) [.int .i64 (IntKind.wrap .i64 ((L.moved : Int) + 1))]) L { L with moved := L.moved + 1, len := L.len } := by
        intro n hn hp
        rw [hs3]
        exact ⟨Pool.put_ne (fun e => by rw [e, hT.2.1] at hn; cases hn), hn⟩
      refine ⟨rfl, rfl, _, _, _, f2, rfl, rfl, _, f3, ⟨by omega, by omega, by rw [hoo]; rfl⟩, _, fc, rfl, rfl, _, f3, rfl, rfl, hb3, ml1_ok, fun q => q = ⟨b, L.moved, _, hMv⟩, ⟨Nat.le_refl _, SImp.of_wk (ren := []) ⟨b, L.moved, _, hMv⟩ (by (refine ⟨?_, ?_, rfl, tl_ok rfl, ?_, ⟨Nat.le_of_ble_eq_true rfl, rfl⟩⟩ <;> (repeat' first | with_reducible exact trivial | exact AV.sub_same _ | exact .same _ | exact .inr rfl | exact .inl (in_ok rfl) | exact AV.sub_lit' | exact AV.sub_nilS | exact .none _ _ | exact trivial | refine ⟨?_, ?_⟩))) rfl⟩, ?_⟩
      rintro _ rfl y ⟨g1, g2, g3, g4, g5⟩
      dsimp only at g1 g2 g3 g4 g5 ⊢
      rw [et1, ← ecs] at g3
      have g3' : y.2.tm = L.tm.stepMoved := g3
      have gl : y.2.O.length = L.O.length := by
        have h1 : y.2.tm.O.length = y.2.O.length := by simp [TL.tm]
        rw [← h1, g3]
        obtain ⟨k1, _⟩ := insAll_len (L.tm.O.getD L.tm.moved []) { L.tm with moved := L.tm.moved + 1 }
        rw [k1]; exact eO
      have gf2 := g1.f2; have gf3 := g1.f3
      rw [gl, g5] at *
      have hw2 : IntKind.wrap .i64 ((L.O.length : Int) - ((L.moved + 1 : Nat) : Int)) = (L.O.length : Int) - ((L.moved + 1 : Nat) : Int) := wrap_low (by omega) (by omega)
      refine ⟨rfl, rfl, _, _, _, gf2, rfl, rfl, _, gf3, fun hz2 => ?_, fun hz2 => ?_⟩
      · rw [hw2] at hz2
        have hset2 : (y.1.set (shiftA (some (b, 0)) 2) [.sl none 0 0]).set (shiftA (some (b, 0)) 3) [.int .i64 0] = y.1.put b 54 [.int .i64 y.2.seed, .sl (some (y.2.bb, 0)) y.2.B.length y.2.B.length, .sl none 0 0, .int .i64 0, .int .i64 (y.2.len : Int)] := by
          show (y.1.set (some (b, 2)) _).set (some (b, 3)) _ = _
          rw [Pool.set_eq g1.1, Pool.set_eq Pool.put_self, Pool.put_put]; rfl
        refine ⟨rfl, rfl, ⟨b, 2, _, _, rfl, g1.1, by simp⟩, rfl, rfl, ?_, ?_⟩
        · show (y.1.set (some (b, 2)) _).has (some (b, 3)) 1
          rw [Pool.set_eq g1.1]; exact ⟨b, 3, _, _, rfl, Pool.put_self, by simp [setAt]⟩
        · have hm : L.tm.move = { L.tm.stepMoved with O := [], moved := 0 } := by
            unfold TM.move; rw [if_neg (by rw [eO]; show ¬ L.O.length ≤ L.moved; omega), if_pos (by rw [eO]; show L.O.length ≤ L.moved + 1; omega)]
          refine ⟨_, _, _, H (_, { y.2 with O := [], moved := 0 }) ⟨?_, ?_, ?_, ?_⟩, endPool (AV.sub_same _) rfl rfl⟩
          · show TabAt ((y.1.set (shiftA (some (b, 0)) 2) [.sl none 0 0]).set (shiftA (some (b, 0)) 3) [.int .i64 0]) b _
            rw [hset2]; exact g1.drop
          · obtain ⟨m1, m2, m3, m4⟩ := g2; exact ⟨m1, m2, by simp, m4⟩
          · rw [hm, ← g3']; rfl
          · refine (hfr.trans g4).trans fun n hn hp => ?_
            show ((y.1.set (shiftA (some (b, 0)) 2) [.sl none 0 0]).set (shiftA (some (b, 0)) 3) [.int .i64 0]) n = _ ∧ _
            rw [hset2]
            exact ⟨Pool.put_ne (fun e => by rw [e, g1.2.1] at hn; cases hn), hn⟩
      · rw [hw2] at hz2
        have hm : L.tm.move = L.tm.stepMoved := by
          unfold TM.move; rw [if_neg (by rw [eO]; show ¬ L.O.length ≤ L.moved; omega), if_neg (by rw [eO]; show ¬ L.O.length ≤ L.moved + 1; omega)]
        exact ⟨_, _, _, H (y.1, y.2) ⟨g1, g2, by rw [hm]; exact g3', hfr.trans g4⟩, endPool (AV.sub_same _) rfl rfl⟩
  · exact H.elim

end Sx
end Go.Proofs.Ytkadlfadmjhahaa

/-
  A table that begins to grow: what the function does.
-/
namespace Go.Proofs.Ytkadlfadmjhahaa
namespace Sx
open Go
set_option linter.unusedSimpArgs false
set_option linter.unusedVariables false

def TM.grow (t : TM) : TM := if t.O.length ≤ t.moved ∧ t.B.length < t.len ∧ t.B.length < 65536 then { t with O := t.B, B := List.replicate (2 * t.B.length) [] } else t
def growLab (lab : Nat → Lab) (n : Nat) : Nat → Lab := fun x => if x = n then .arr false else match lab x with
  | .arr false => .arr true
  | .lk false i => .lk true i
  | .arr true => .loose
  | .lk true _ => .loose
  | l => l
def TL.grown (L : TL) (n : Nat) : TL := { L with O := L.B, ob := L.bb, bb := n, B := List.replicate (2 * L.B.length) [], lab := growLab L.lab n }
def growPool (p : Pool) (b n : Nat) (L : TL) : Pool := (p.put n 57 (List.replicate (2 * L.B.length) (.ptr none))).put b 54 [.int .i64 L.seed, .sl (some (n, 0)) (2 * L.B.length) (2 * L.B.length), .sl (some (L.bb, 0)) L.B.length L.B.length, .int .i64 (L.moved : Int), .int .i64 (L.len : Int)]

theorem TabAt.grown {p : Pool} {b n : Nat} {L : TL} (h : TabAt p b L) (hB : L.B ≠ []) (hn : p n = none) (hO : L.O = []) : TabAt (growPool p b n L) b (L.grown n) := by
  obtain ⟨h1, h2, h3, h4, h5, h6⟩ := h
  have hbn : b ≠ n := fun e => by rw [← e, h1] at hn; cases hn
  have hm : L.moved = 0 := by rw [hO] at h5; simpa using h5
  obtain ⟨hs, a1, a2, a3, a4⟩ := h3
  have hbbn : L.bb ≠ n := fun e => by rw [← e, a1] at hn; cases hn
  have hbbb : L.bb ≠ b := fun e => by rw [e, h2] at a3; cases a3
  have hne : ∀ x, L.lab x ≠ .no → x ≠ n := fun x hx e => h6 x hx (by rw [e]; exact hn)
  have same : ∀ x, x ≠ b → x ≠ n → growPool p b n L x = p x := fun x e1 e2 => by unfold growPool; rw [Pool.put_ne e1, Pool.put_ne e2]
  refine ⟨?_, ?_, ?_, fun _ => ?_, ?_, fun x hx => ?_⟩
  · unfold growPool; rw [Pool.put_self]
    have e1 : (L.grown n).oo = some (L.bb, 0) := by
      unfold TL.oo
      rw [if_neg (show (L.grown n).O ≠ [] from hB)]; rfl
    rw [e1]; simp [TL.grown]
  · show growLab L.lab n b = .me
    unfold growLab; rw [if_neg hbn, h2]
  · refine ⟨List.replicate (2 * L.B.length) none, ?_, by simp [TL.grown], ?_, fun i _ hi => ?_⟩
    · show growPool p b n L n = _
      unfold growPool; rw [Pool.put_ne (Ne.symm hbn), Pool.put_self]; simp
    · show growLab L.lab n n = _; simp [growLab]
    · have hi' : i < 2 * L.B.length := by simpa [TL.grown] using hi
      have e1 : (List.replicate (2 * L.B.length) (none : Adr)).getD i none = none := by simp [List.getD, List.getElem?_replicate, hi']
      have e2 : (L.grown n).B.getD i [] = [] := by simp [TL.grown, List.getD, List.getElem?_replicate, hi']
      rw [e1, e2]; exact ⟨rfl, fun x hx => (by cases hx), List.nodup_nil⟩
  · show Arr _ _ true L.bb L.B L.moved
    refine ⟨hs, by rw [same L.bb hbbb hbbn]; exact a1, a2, ?_, fun i hf hi => ?_⟩
    · show growLab L.lab n L.bb = _; unfold growLab; rw [if_neg hbbn, a3]
    · obtain ⟨g1, g2, g3⟩ := a4 i (Nat.zero_le _) hi
      have hxn : ∀ x ∈ L.B.getD i [], x.1 ≠ n := fun x hx => hne x.1 (by rw [g2 x hx]; simp)
      have hxb : ∀ x ∈ L.B.getD i [], x.1 ≠ b := fun x hx e => by have := g2 x hx; rw [e, h2] at this; cases this
      exact ⟨g1.frame fun x hx => same x.1 (hxb x hx) (hxn x hx), fun x hx => by show growLab L.lab n x.1 = _; unfold growLab; rw [if_neg (hxn x hx), g2 x hx], g3⟩
  · show L.moved ≤ L.B.length; omega
  · unfold growPool
    by_cases e : x = n
    · subst e; rw [Pool.put_ne (Ne.symm hbn), Pool.put_self]; simp
    · refine Pool.put_some ?_
      rw [Pool.put_ne e]
      refine h6 x fun e' => hx ?_
      show growLab L.lab n x = _; unfold growLab; rw [if_neg e, e']

theorem grow_pool1 {p : Pool} {b n : Nat} {L : TL} (h : TabAt p b L) (hn : p n = none) :
    ((p.put n 57 (List.replicate (2 * L.B.length) (.ptr none))).set (some (b, 2)) [.sl (some (L.bb, 0)) L.B.length L.B.length]).set (some (b, 1)) [.sl (some (n, 0)) (2 * L.B.length) (2 * L.B.length)] = growPool p b n L := by
  have hbn : b ≠ n := fun e => by rw [← e, h.1] at hn; cases hn
  have h1 := (Pool.put_ne (p := p) (T := 57) (cs := List.replicate (2 * L.B.length) (.ptr none)) hbn).trans h.1
  rw [Pool.set_eq h1, Pool.set_eq Pool.put_self, Pool.put_put]; rfl
theorem grow_pool2 {p : Pool} {b n : Nat} {L : TL} (h : TabAt p b L) (hn : p n = none) :
    ((p.set (some (b, 2)) [.sl (some (L.bb, 0)) L.B.length L.B.length]).put n 57 (List.replicate (2 * L.B.length) (.ptr none))).set (some (b, 1)) [.sl (some (n, 0)) (2 * L.B.length) (2 * L.B.length)] = growPool p b n L := by
  have hbn : b ≠ n := fun e => by rw [← e, h.1] at hn; cases hn
  rw [← grow_pool1 h hn]
  have h1 := (Pool.put_ne (p := p) (T := 57) (cs := List.replicate (2 * L.B.length) (.ptr none)) hbn).trans h.1
  rw [Pool.set_eq h.1, Pool.set_eq h1]
  congr 1
  funext x
  by_cases e1 : x = b
  · subst e1; rw [Pool.put_self, Pool.put_ne hbn, Pool.put_self]
  · by_cases e2 : x = n
    · subst e2; rw [Pool.put_self, Pool.put_ne e1, Pool.put_self]
    · rw [Pool.put_ne e2, Pool.put_ne e1, Pool.put_ne e1, Pool.put_ne e2]

def runGrow : RunPool V := fun p ar K => match ar with
  | [.val (.rp (some (b, 0)))] => .ex TL fun L => .need (TabAt p b L ∧ L.fits ∧ (L.O.length ≤ L.moved → L.O = [])) (.all (Pool × TL) fun y => .asm (TabAt y.1 b y.2 ∧ y.2.fits ∧ y.2.tm = L.tm.grow ∧ Frame p y.1 L y.2) (K (.tup []) y.1 []))
  | _ => .bad 500
theorem hGrow : HookOk Try.prog 33 (hookPool [.val] runGrow) := by
  refine pool_hook (C := cfgG0) cfgG0_ok (n := 60) (fn := Try.f33) ⟨by kernel_rfl, by kernel_rfl⟩ (by kernel_rfl) ?_
  intro M p ar K0 H
  unfold runGrow at H
  split at H
  · rename_i b
    obtain ⟨L, ⟨hT, hF, hok⟩, H⟩ := H
    refine ⟨show 1 ≤ _ by decide +kernel, ?_⟩
    show (runF cfgG0 60 33 Try.f33 [.rp (some (b, 0))] [(0, .pool p)] 2).holds _
    rw [tgrow]
    have f1 := hT.f1; have f2 := hT.f2; have f3 := hT.f3; have f4 := hT.f4
    have hmv := hT.2.2.2.2.1
    have hF' := hF
    obtain ⟨n1, n2, n3, n4⟩ := hF'
    have hw : IntKind.wrap .i64 ((L.O.length : Int) - (L.moved : Int)) = (L.O.length : Int) - (L.moved : Int) := wrap_low (by omega) (by omega)
    have hw2 : IntKind.wrap .i64 ((L.B.length : Int) + (L.B.length : Int)) = ((2 * L.B.length : Nat) : Int) := by rw [wrap_low (by omega) (by omega)]; omega
    have hw3 : (IntKind.wrap .i64 ((L.B.length : Int) + (L.B.length : Int))).toNat = 2 * L.B.length := by rw [hw2]; omega
    have eO : L.tm.O.length = L.O.length := by simp [TL.tm]
    have eB : L.tm.B.length = L.B.length := by simp [TL.tm]
    have stay : ¬ (L.O.length ≤ L.moved ∧ L.B.length < L.len ∧ L.B.length < 65536) → L.tm.grow = L.tm := fun hn => by unfold TM.grow; rw [if_neg (by rw [eO, eB]; exact hn)]
    have go : ∀ n, p n = none → L.O.length ≤ L.moved → L.B.length < L.len → L.B.length < 65536 → ∃ v p' E, (K0 v p' E).holds M ∧ EndPool 5 (AV.tup []) [((0 : Nat), (Blk.pool (growPool p b n L) : Blk V))] v p' E := by
      intro n hn g1 g2 g3
      have hO := hok g1
      have hB : L.B ≠ [] := by intro e; rw [e] at n1; simp at n1
      refine ⟨_, _, _, H (growPool p b n L, L.grown n) ⟨hT.grown hB hn hO, ⟨by simp [TL.grown]; omega, by simp [TL.grown]; omega, n2, n4⟩, ?_, fun x hx hp => ?_⟩, endPool (AV.sub_same _) rfl rfl⟩
      · unfold TM.grow; rw [if_pos (by rw [eO, eB]; exact ⟨g1, g2, g3⟩)]
        simp [TL.grown, TL.tm, ents]
      · have e1 : x ≠ b := fun e => by rw [e, hT.2.1] at hx; cases hx
        have e2 : x ≠ n := fun e => hp (by rw [e]; exact hn)
        refine ⟨by show growPool p b n L x = _; unfold growPool; rw [Pool.put_ne e1, Pool.put_ne e2], ?_⟩
        show growLab L.lab n x = _; unfold growLab; rw [if_neg e2, hx]
    simp only [Out.holds, decide_eq_true_eq, decide_eq_false_iff_not, beq_iff_eq, beq_eq_false_iff_ne, bne_iff_ne, ne_eq, bne_eq_false_iff_eq, Bool.true_and, Bool.and_true, Bool.not_eq_true', Bool.not_eq_false', Bool.and_eq_true, Bool.or_eq_true, Bool.and_eq_false_imp, true_implies, true_and, Bool.not_true, Bool.not_false, Bool.false_eq_true, Bool.true_eq_false, false_implies, and_true, beq_self_eq_true, Decidable.not_not, not_true_eq_false, not_false_eq_true]
    refine ⟨rfl, rfl, _, _, _, f1, rfl, rfl, _, _, _, f2, rfl, rfl, _, f3, fun hz => ⟨rfl, rfl, _, f4, fun hl => ⟨fun hc => ?_, fun hc => ?_⟩, fun hl => ?_⟩, fun hz => ?_⟩
    · rw [hw] at hz
      refine ⟨rfl, rfl, _, _, _, f1, rfl, rfl, ⟨⟨by rw [hw2]; omega, by omega, by rw [hw2]; omega, by decide⟩, fun n hn => ⟨?_, rfl, rfl, ?_, ?_⟩⟩, ⟨?_, ⟨by rw [hw2]; omega, by omega, by rw [hw2]; omega, by decide⟩, fun n hn => ⟨rfl, rfl, ?_, ?_⟩⟩⟩
      all_goals try rw [hw3]
      · have hbn : b ≠ n := fun e => by rw [← e, hT.1] at hn; cases hn
        exact ⟨b, 2, _, _, rfl, by rw [Pool.put_ne hbn]; exact hT.1, by simp⟩
      · have hbn : b ≠ n := fun e => by rw [← e, hT.1] at hn; cases hn
        have h1 := (Pool.put_ne (p := p) (T := 57) (cs := List.replicate (2 * L.B.length) (.ptr none)) hbn).trans hT.1
        show Pool.has (Pool.set _ (some (b, 2)) _) (some (b, 1)) 1
        rw [Pool.set_eq h1]; exact ⟨b, 1, _, _, rfl, Pool.put_self, by simp [setAt]⟩
      · have := go n hn (by omega) (by omega) (by omega)
        rw [← grow_pool1 hT hn] at this
        exact this
      · exact ⟨b, 2, _, _, rfl, hT.1, by simp⟩
      · have hn' : p n = none := by
          have hn : (p.set (some (b, 2)) _) n = none := hn
          rw [Pool.set_eq hT.1] at hn
          by_cases e : n = b
          · subst e; rw [Pool.put_self] at hn; cases hn
          · rwa [Pool.put_ne e] at hn
        have hbn : b ≠ n := fun e => by rw [← e, hT.1] at hn'; cases hn'
        show Pool.has (Pool.put (Pool.set _ (some (b, 2)) _) _ _ _) (some (b, 1)) 1
        rw [Pool.set_eq hT.1]; exact ⟨b, 1, _, _, rfl, by rw [Pool.put_ne hbn]; exact Pool.put_self, by simp [setAt]⟩
      · have hn' : p n = none := by
          have hn : (p.set (some (b, 2)) _) n = none := hn
          rw [Pool.set_eq hT.1] at hn
          by_cases e : n = b
          · subst e; rw [Pool.put_self] at hn; cases hn
          · rwa [Pool.put_ne e] at hn
        have := go n hn' (by omega) (by omega) (by omega)
        rw [← grow_pool2 hT hn'] at this
        exact this
    · exact ⟨_, _, _, H (p, L) ⟨hT, hF, (stay (by omega)).symm, Frame.refl _ _⟩, endPool (AV.sub_same _) rfl rfl⟩
    · exact ⟨_, _, _, H (p, L) ⟨hT, hF, (stay (by omega)).symm, Frame.refl _ _⟩, endPool (AV.sub_same _) rfl rfl⟩
    · rw [hw] at hz
      exact ⟨_, _, _, H (p, L) ⟨hT, hF, (stay (by omega)).symm, Frame.refl _ _⟩, endPool (AV.sub_same _) rfl rfl⟩
  · exact H.elim

end Sx
end Go.Proofs.Ytkadlfadmjhahaa

/-
  Tables: the runs of the machine.
-/
namespace Go.Proofs.Ytkadlfadmjhahaa
namespace Sx
open Go
set_option maxRecDepth 100000
set_option linter.unusedVariables false

noncomputable def hooksP : Nat → Option (HookS V) := fun g => match g with | 32 => some (hookPool [.val, .int .i64] runFind) | 31 => some (hookPool [.val] runMove) | 33 => some (hookPool [.val] runGrow) | _ => none
noncomputable def cfgP : Cfg Try.prog V := ⟨tab, kinds, fun _ => none, hooksP, fun _ _ => none⟩
theorem tput (p : Pool) (b : Nat) (e : Ent) : runF cfgP 60 11 Try.f11 [.rp (some (b, 0)), .agg (Ent.enc e)] [(0, .pool p)] 3 = Out.ex TL fun y => Out.need (TabAt p b y ∧ y.fits ∧ moveOk y.tm) (Out.all (Pool × TL) fun y_1 => Out.asm (TabAt y_1.fst b y_1.snd ∧ y_1.snd.fits ∧ y_1.snd.tm = y.tm.move ∧ Sx.Frame p y_1.fst y y_1.snd) (Out.ex TL fun y => Out.need (TabAt y_1.fst b y ∧ y.fits) (Out.need ((some (y.cell e.key)).isSome = true) (Out.ex (Option (Nat × Nat)) fun y_2 => Out.need (y_1.fst.at (some (y.cell e.key)) [PD.ptr y_2]) (Out.ite (!y_2.isNone) (Out.need (y_2.isSome = true) (Out.need (y_2.isSome = true) (Out.ex Int fun y => Out.ex Int fun y_3 => Out.ex Int fun y_4 => Out.ex Int fun y_5 => Out.need (y_1.fst.at (shiftA y_2 (0 : Nat)) [PD.int .i64 y, PD.int .i64 y_3, PD.int .i64 y_4, PD.int .i64 y_5]) (Out.need (y_2.isSome = true) (Out.need (y_2.isSome = true) (Out.need (y_1.fst.has (shiftA y_2 (0 : Nat)) (4 : Nat)) (Out.fin (.tup [.agg [.int .i64 y, .int .i64 y_3, .int .i64 y_4, .int .i64 y_5], .tt]) [((5 : Nat), .cells (29 : Nat) [.int .i64 y, .int .i64 y_3, .int .i64 y_4, .int .i64 y_5]), ((4 : Nat), .cells (29 : Nat) [.int .i64 y, .int .i64 y_3, .int .i64 y_4, .int .i64 y_5]), ((3 : Nat), .cells (29 : Nat) [.int .i64 e.key, .int .i64 e.value, .int .i64 e.weight, .int .i64 e.node]), ((0 : Nat), Blk.pool (y_1.fst.set (shiftA y_2 (0 : Nat)) [PD.int .i64 e.key, PD.int .i64 e.value, PD.int .i64 e.weight, PD.int .i64 e.node]))] (9 : Nat)))))))) (Out.all Nat fun y_3 => Out.asm (y_1.fst y_3 = none) (Out.need ((some (y.cell e.key)).isSome = true) (Out.need ((y_1.fst.put y_3 (59 : Nat) [PD.int .i64 e.key, PD.int .i64 e.value, PD.int .i64 e.weight, PD.int .i64 e.node, PD.ptr none]).has (some (y.cell e.key)) (1 : Nat)) (Out.need ((some (b, (0 : Nat))).isSome = true) (Out.need ((some (b, (0 : Nat))).isSome = true) (Out.ex Int fun y_4 => Out.need (((y_1.fst.put y_3 (59 : Nat) [PD.int .i64 e.key, PD.int .i64 e.value, PD.int .i64 e.weight, PD.int .i64 e.node, PD.ptr none]).set (some (y.cell e.key)) [PD.ptr (some (y_3, (0 : Nat)))]).at (shiftA (some (b, (0 : Nat))) (4 : Nat)) [PD.int .i64 y_4]) (Out.need ((some (b, (0 : Nat))).isSome = true) (Out.need ((some (b, (0 : Nat))).isSome = true) (Out.need (((y_1.fst.put y_3 (59 : Nat) [PD.int .i64 e.key, PD.int .i64 e.value, PD.int .i64 e.weight, PD.int .i64 e.node, PD.ptr none]).set (some (y.cell e.key)) [PD.ptr (some (y_3, (0 : Nat)))]).has (shiftA (some (b, (0 : Nat))) (4 : Nat)) (1 : Nat)) (Out.ex TL fun y_5 => Out.need (TabAt (((y_1.fst.put y_3 (59 : Nat) [PD.int .i64 e.key, PD.int .i64 e.value, PD.int .i64 e.weight, PD.int .i64 e.node, PD.ptr none]).set (some (y.cell e.key)) [PD.ptr (some (y_3, (0 : Nat)))]).set (shiftA (some (b, (0 : Nat))) (4 : Nat)) [PD.int .i64 (IntKind.i64.wrap (y_4 + (1 : Int)))]) b y_5 ∧ y_5.fits ∧ (y_5.O.length ≤ y_5.6 → y_5.O = [])) (Out.all (Pool × TL) fun y_6 => Out.asm (TabAt y_6.fst b y_6.snd ∧ y_6.snd.fits ∧ y_6.snd.tm = y_5.tm.grow ∧ Sx.Frame (((y_1.fst.put y_3 (59 : Nat) [PD.int .i64 e.key, PD.int .i64 e.value, PD.int .i64 e.weight, PD.int .i64 e.node, PD.ptr none]).set (some (y.cell e.key)) [PD.ptr (some (y_3, (0 : Nat)))]).set (shiftA (some (b, (0 : Nat))) (4 : Nat)) [PD.int .i64 (IntKind.i64.wrap (y_4 + (1 : Int)))]) y_6.fst y_5 y_6.snd) (Out.fin (.tup [.agg [.lit .i64 (0 : Int), .lit .i64 (0 : Int), .lit .i64 (0 : Int), .lit .i64 (0 : Int)], .ff]) [((4 : Nat), .cells (29 : Nat) [.lit .i64 (0 : Int), .lit .i64 (0 : Int), .lit .i64 (0 : Int), .lit .i64 (0 : Int)]), ((3 : Nat), .cells (29 : Nat) [.int .i64 e.key, .int .i64 e.value, .int .i64 e.weight, .int .i64 e.node]), ((0 : Nat), Blk.pool y_6.fst)] (9 : Nat)))))))))))))))))) := by kernel_rfl

theorem trem (p : Pool) (b : Nat) (k : Int) : runF cfgP 60 12 Try.f12 [.rp (some (b, 0)), .int .i64 k] [(0, .pool p)] 3 = Out.ex TL fun y => Out.need (TabAt p b y ∧ y.fits ∧ moveOk y.tm) (Out.all (Pool × TL) fun y_1 => Out.asm (TabAt y_1.fst b y_1.snd ∧ y_1.snd.fits ∧ y_1.snd.tm = y.tm.move ∧ Sx.Frame p y_1.fst y y_1.snd) (Out.ex TL fun y => Out.need (TabAt y_1.fst b y ∧ y.fits) (Out.need ((some (y.cell k)).isSome = true) (Out.ex (Option (Nat × Nat)) fun y_2 => Out.need (y_1.fst.at (some (y.cell k)) [PD.ptr y_2]) (Out.ite y_2.isNone (Out.fin (.tup [.agg [.lit .i64 (0 : Int), .lit .i64 (0 : Int), .lit .i64 (0 : Int), .lit .i64 (0 : Int)], .ff]) [((3 : Nat), .cells (29 : Nat) [.lit .i64 (0 : Int), .lit .i64 (0 : Int), .lit .i64 (0 : Int), .lit .i64 (0 : Int)]), ((0 : Nat), Blk.pool y_1.fst)] (5 : Nat)) (Out.need (y_2.isSome = true) (Out.need (y_2.isSome = true) (Out.ex (Option (Nat × Nat)) fun y_3 => Out.need (y_1.fst.at (shiftA y_2 (4 : Nat)) [PD.ptr y_3]) (Out.need ((some (y.cell k)).isSome = true) (Out.need (y_1.fst.has (some (y.cell k)) (1 : Nat)) (Out.need ((some (b, (0 : Nat))).isSome = true) (Out.need ((some (b, (0 : Nat))).isSome = true) (Out.ex Int fun y_4 => Out.need ((y_1.fst.set (some (y.cell k)) [PD.ptr y_3]).at (shiftA (some (b, (0 : Nat))) (4 : Nat)) [PD.int .i64 y_4]) (Out.need ((some (b, (0 : Nat))).isSome = true) (Out.need ((some (b, (0 : Nat))).isSome = true) (Out.need ((y_1.fst.set (some (y.cell k)) [PD.ptr y_3]).has (shiftA (some (b, (0 : Nat))) (4 : Nat)) (1 : Nat)) (Out.need (y_2.isSome = true) (Out.need (y_2.isSome = true) (Out.ex Int fun y_5 => Out.ex Int fun y_6 => Out.ex Int fun y_7 => Out.ex Int fun y_8 => Out.need (((y_1.fst.set (some (y.cell k)) [PD.ptr y_3]).set (shiftA (some (b, (0 : Nat))) (4 : Nat)) [PD.int .i64 (IntKind.i64.wrap (y_4 - (1 : Int)))]).at (shiftA y_2 (0 : Nat)) [PD.int .i64 y_5, PD.int .i64 y_6, PD.int .i64 y_7, PD.int .i64 y_8]) (Out.fin (.tup [.agg [.int .i64 y_5, .int .i64 y_6, .int .i64 y_7, .int .i64 y_8], .tt]) [((3 : Nat), .cells (29 : Nat) [.int .i64 y_5, .int .i64 y_6, .int .i64 y_7, .int .i64 y_8]), ((0 : Nat), Blk.pool ((y_1.fst.set (some (y.cell k)) [PD.ptr y_3]).set (shiftA (some (b, (0 : Nat))) (4 : Nat)) [PD.int .i64 (IntKind.i64.wrap (y_4 - (1 : Int)))]))] (7 : Nat))))))))))))))))))))) := by kernel_rfl

theorem tnewp (p : Pool) (s : Int) : runF cfgP 60 10 Try.f10 [.int .i64 s] [(0, .pool p)] 2 = Out.need ((0 : Int) ≤ (8 : Int) ∧ (8 : Int) ≤ (8 : Int) ∧ (8 : Int) ≤ (4294967296 : Int) ∧ (8 : Nat) ≤ (64 : Nat)) (Out.all Nat fun y => Out.asm (p y = none) (Out.all Nat fun y_1 => Out.asm (p.put y (57 : Nat) (List.replicate (8 : Nat) (PD.ptr none)) y_1 = none) (Out.fin (AV.rp (some (y_1, (0 : Nat)))) [((0 : Nat), Blk.pool ((p.put y (57 : Nat) (List.replicate (8 : Nat) (PD.ptr none))).put y_1 (54 : Nat) [PD.int .i64 s, PD.sl (some (y, (0 : Nat))) (8 : Nat) (8 : Nat), PD.sl none (0 : Nat) (0 : Nat), PD.int .i64 (0 : Int), PD.int .i64 (0 : Int)]))] (4 : Nat)))) := by kernel_rfl

end Sx
end Go.Proofs.Ytkadlfadmjhahaa

/-
  Tables: what Put, Remove and New do.
-/
namespace Go.Proofs.Ytkadlfadmjhahaa
namespace Sx
open Go
set_option linter.unusedSimpArgs false
set_option linter.unusedVariables false

theorem hooksP_ok : ∀ g H, hooksP g = some H → HookOk Try.prog g H := by
  intro g H h
  unfold hooksP at h
  split at h
  · cases h; exact hFind
  · cases h; exact hMove
  · cases h; exact hGrow
  · cases h
theorem cfgP_ok : cfgP.ok := ⟨tab_met, kinds_met, mixed_met, fun g fn h => (by cases h), hooksP_ok⟩

theorem TabAt.fresh {p : Pool} {b : Nat} {L : TL} (h : TabAt p b L) {n T : Nat} (hn : p n = none) (cs : List PD) : TabAt (p.put n T cs) b L := by
  obtain ⟨h1, h2, h3, h4, h5, h6⟩ := h
  have ne : ∀ x, L.lab x ≠ .no → x ≠ n := fun x hx e => h6 x hx (by rw [e]; exact hn)
  refine ⟨by rw [Pool.put_ne (ne b (by rw [h2]; simp))]; exact h1, h2, h3.frame fun x hx => ⟨Pool.put_ne (ne x ?_), rfl⟩, fun hO => (h4 hO).frame fun x hx => ⟨Pool.put_ne (ne x ?_), rfl⟩, h5, fun x hx => Pool.put_some (h6 x hx)⟩
  · rcases hx with e | ⟨i, _, e⟩ <;> rw [e] <;> simp
  · rcases hx with e | ⟨i, _, e⟩ <;> rw [e] <;> simp
theorem TabAt.noLab {p : Pool} {b : Nat} {L : TL} (h : TabAt p b L) {n : Nat} (hn : p n = none) : L.lab n = .no := by
  by_cases e : L.lab n = .no
  · exact e
  · exact absurd hn (h.2.2.2.2.2 n e)

/-- A new link at the end of its chain. -/
theorem TabAt.insert {p : Pool} {b : Nat} {L : TL} (h : TabAt p b L) (hf : L.fits) (e : Ent) {n : Nat} (hn : p n = none) (hpl : placeOf (L.chain e.key) e.key = (L.chain e.key).length) :
    ∃ L2 : TL, TabAt ((p.put n 59 (linkPD e none)).set (some (L.cell e.key)) [.ptr (some (n, 0))]) b L2 ∧ L2.fits ∧ L2.tm = insE L.tm e ∧ L2.len = L.len ∧ L2.moved = L.moved ∧ (p.put n 59 (linkPD e none)).has (some (L.cell e.key)) 1 ∧
      Frame p ((p.put n 59 (linkPD e none)).set (some (L.cell e.key)) [.ptr (some (n, 0))]) L L2 := by
  have hln := h.noLab hn
  have h1 := h.fresh (T := 59) hn (linkPD e none)
  have hcl : L.cell e.key = cellOf (L.head e.key) (L.chain e.key) (L.chain e.key).length := by unfold TL.cell; rw [hpl]
  obtain ⟨o, c1, s1, s2, s3⟩ := h1.chain hf e.key
  obtain ⟨hs, a1, a2, a3⟩ := h1.headArr hf e.key
  have hne : ∀ x, L.lab x ≠ .no → x ≠ n := fun x hx e' => hx (by rw [e']; exact hln)
  have hT2 := h1.cellSet hf e.key (i := (L.chain e.key).length) (Nat.le_refl _) (o2 := some (n, 0)) (c2 := [(n, e)]) (lab' := relab L.lab n (.lk (L.inOld e.key) (L.head e.key).2))
    ⟨rfl, none, Pool.put_self, rfl⟩ (fun y hy => by
      simp only [List.mem_singleton] at hy; subst hy
      intro hm
      obtain ⟨z, hz, hza⟩ := List.mem_map.1 hm
      exact hne z.1 (by rw [s2 z (List.mem_of_mem_take hz)]; simp) hza) (by simp) (fun y hy => by simp only [List.mem_singleton] at hy; subst hy; exact relab_self _ _ _)
    (fun y hy => by
      simp only [List.mem_singleton] at hy; subst hy
      exact fun e' => hne (L.head e.key).1 (by rw [a3]; simp) e'.symm)
    (fun x n1 n2 => relab_ne (hne x n1))
    (fun x hx => by
      by_cases ex : x = n
      · subst ex; rw [Pool.put_self]; simp
      · rw [relab_ne ex] at hx; exact h1.2.2.2.2.2 x hx)
  rw [List.take_length] at hT2
  obtain ⟨w1, w2, w3⟩ := TL.moved_with L e.key (L.chain e.key ++ [(n, e)]) (relab L.lab n (.lk (L.inOld e.key) (L.head e.key).2))
  rw [hcl]
  refine ⟨_, hT2, TL.fits_with hf _ _ _, ?_, w3, w1, ?_, fun x hx hp => ?_⟩
  · rw [tm_with]; unfold insE; rw [tm_chain, ents_append]; rfl
  · obtain ⟨o3, g1, g2⟩ := s1.cell c1 (Nat.le_refl _)
    obtain ⟨b', off, T', cs, e1, e2, e3, _⟩ := g1
    exact ⟨b', off, T', cs, e1, e2, e3⟩
  · have exn : x ≠ n := fun e' => hp (by rw [e']; exact hn)
    refine ⟨?_, by rw [w2, relab_ne exn]; exact hx⟩
    rw [Pool.set_ne (fun e' => ?_), Pool.put_ne exn]
    have := h1.cellLab hf e.key (i := (L.chain e.key).length) (Nat.le_refl _)
    rw [← e', hx] at this
    rcases this with g | g <;> cases g

/-! ## plain -/
def repl (c : List Ent) (e : Ent) : List Ent := c.set (c.findIdx fun x => decide (x.key = e.key)) e
def TM.put (t : TM) (e : Ent) : TM := match t.move.get e.key with
  | some _ => t.move.with_ e.key (repl (t.move.chain e.key) e)
  | none => { insE t.move e with len := t.move.len + 1 }.grow
def TM.remove (t : TM) (k : Int) : TM := match t.move.get k with
  | some _ => { t.move.with_ k ((t.move.chain k).eraseIdx ((t.move.chain k).findIdx fun x => decide (x.key = k))) with len := t.move.len - 1 }
  | none => t.move
theorem placeOf_ents (c : Chn) (k : Int) : (ents c).findIdx (fun x => decide (x.key = k)) = placeOf c k := by
  unfold ents placeOf; rw [List.findIdx_map]; rfl
theorem tm_len_upd (L : TL) (m l : Nat) : ({ L with moved := m, len := l } : TL).tm = { L.tm with moved := m, len := l } := rfl
theorem move_lens (t : TM) : t.move.B.length = t.B.length ∧ t.move.len = t.len ∧ t.move.seed = t.seed ∧ (t.move.O.length ≤ t.move.moved → t.O.length ≤ t.moved ∧ t.move = t ∨ t.move.O = []) := by
  obtain ⟨k1, k2, k3, k4, k5⟩ := insAll_len (t.O.getD t.moved []) { t with moved := t.moved + 1 }
  unfold TM.move
  split
  · rename_i h; exact ⟨rfl, rfl, rfl, fun _ => .inl ⟨h, rfl⟩⟩
  · split
    · exact ⟨k2, k4, k5, fun _ => .inr rfl⟩
    · refine ⟨k2, k4, k5, fun h => ?_⟩
      have h1 : t.stepMoved.O.length = t.O.length := k1
      have h2 : t.stepMoved.moved = t.moved + 1 := k3
      omega

def runPut : RunPool V := fun p ar K => match ar with
  | [.val (.rp o0), .el .ent e] => .ex Nat fun b => .need (o0 = some (b, 0)) (.ex TL fun L => .need (TabAt p b L ∧ L.fits ∧ moveOk L.tm ∧ (L.O.length ≤ L.moved → L.O = []) ∧ L.len < 1073741824)
      (.all (Pool × TL) fun y => .asm (TabAt y.1 b y.2 ∧ y.2.fits ∧ y.2.tm = L.tm.put e ∧ Frame p y.1 L y.2) (K (foundAV (L.tm.move.get e.key)) y.1 [])))
  | _ => .bad 500
theorem hPut : HookOk Try.prog 11 (hookPool [.val, .el Kd.ent] runPut) := by
  refine pool_hook (C := cfgP) cfgP_ok (n := 60) (fn := Try.f11) ⟨by kernel_rfl, by kernel_rfl⟩ (by kernel_rfl) ?_
  intro M p ar K0 H
  unfold runPut at H
  split at H
  · rename_i o0 e
    obtain ⟨b, rfl, L, ⟨hT, hF, hok, hz, hl⟩, H⟩ := H
    refine ⟨show 2 ≤ _ by decide +kernel, ?_⟩
    show (runF cfgP 60 11 Try.f11 [.rp (some (b, 0)), .agg (Ent.enc e)] [(0, .pool p)] 3).holds _
    rw [tput]
    simp only [Out.holds, decide_eq_true_eq, decide_eq_false_iff_not, beq_iff_eq, beq_eq_false_iff_ne, bne_iff_ne, ne_eq, bne_eq_false_iff_eq, Bool.true_and, Bool.and_true, Bool.not_eq_true', Bool.not_eq_false', Bool.and_eq_true, Bool.or_eq_true, Bool.and_eq_false_imp, true_implies, true_and, Bool.not_true, Bool.not_false, Bool.false_eq_true, Bool.true_eq_false, false_implies, and_true, beq_self_eq_true, Decidable.not_not, not_true_eq_false, not_false_eq_true]
    refine ⟨L, ⟨hT, hF, hok⟩, ?_⟩
    rintro ⟨p1, L1⟩ ⟨hT1, hF1, htm, hfr⟩
    dsimp only at hT1 hF1 htm hfr ⊢
    obtain ⟨o, c1, s1, s2, s3⟩ := hT1.chain hF1 e.key
    have hle := placeOf_le (L1.chain e.key) e.key
    obtain ⟨o', g1, g2⟩ := s1.cell c1 hle
    have eget : L.tm.move.get e.key = L1.tm.get e.key := by rw [htm]
    rw [eget, tm_get] at H
    refine ⟨L1, ⟨hT1, hF1⟩, rfl, o', g1, fun hn => ?_, fun hn => ?_⟩
    · have hlt : placeOf (L1.chain e.key) e.key < (L1.chain e.key).length := by
        rcases Nat.lt_or_ge (placeOf (L1.chain e.key) e.key) (L1.chain e.key).length with h | h
        · exact h
        · have := g2.over h; subst this; simp at hn
      rw [if_pos hlt] at H
      obtain ⟨rfl, o2, k1, k2⟩ := g2.split hlt
      have hset := hT1.entrySet hF1 e.key hlt e
      refine ⟨rfl, rfl, _, _, _, _, at_whole k1 0 (entPD _) rfl (by simp [linkPD, entPD]), rfl, rfl, ⟨_, 0, _, _, rfl, k1, by simp [linkPD]⟩, _, _, _, H (p1.set (some (((L1.chain e.key).getD (placeOf (L1.chain e.key) e.key) (0, e0)).1, 0)) (entPD e), L1.with_ e.key ((L1.chain e.key).set (placeOf (L1.chain e.key) e.key) (((L1.chain e.key).getD (placeOf (L1.chain e.key) e.key) (0, e0)).1, e)) L1.lab) ⟨hset, TL.fits_with hF1 _ _ _, ?_, hfr.trans fun x hx hp => ?_⟩, endPool (AV.sub_two (AV.sub_of_eq rfl) (AV.sub_tt rfl)) rfl rfl⟩
      · dsimp only
        rw [tm_with]
        unfold TM.put
        rw [← htm, tm_get, if_pos hlt]
        dsimp only
        congr 1
        unfold repl
        rw [tm_chain, placeOf_ents]
        unfold ents; rw [List.map_set]
      · dsimp only
        obtain ⟨w1, w2, w3⟩ := TL.moved_with L1 e.key ((L1.chain e.key).set (placeOf (L1.chain e.key) e.key) (((L1.chain e.key).getD (placeOf (L1.chain e.key) e.key) (0, e0)).1, e)) L1.lab
        refine ⟨Pool.set_ne (fun e' => ?_), by rw [w2]; exact hx⟩
        have := s2 _ (getD_mem hlt)
        rw [← show x = _ from e', hx] at this; cases this
    · have hge : ¬ placeOf (L1.chain e.key) e.key < (L1.chain e.key).length := fun h => by
        have e1 : o' = none := by simpa using hn
        rw [e1] at g2
        have := (g2.split h).1; cases this
      rw [if_neg hge] at H
      have hpl : placeOf (L1.chain e.key) e.key = (L1.chain e.key).length := by omega
      intro n hfree
      obtain ⟨L2, i1, i2, i3, i4, i5, i6, i7⟩ := hT1.insert hF1 e hfree hpl
      have f4 := i1.f4
      have ml := move_lens L.tm
      have hlen1 : L1.len = L.len := by have := congrArg TM.len htm; rw [ml.2.1] at this; exact this
      have hw : IntKind.wrap .i64 ((L2.len : Int) + 1) = ((L2.len + 1 : Nat) : Int) := wrap_nat (by rw [i4]; obtain ⟨_, _, _, q⟩ := hF1; omega)
      have hset4 : (((p1.put n 59 (linkPD e none)).set (some (L1.cell e.key)) [.ptr (some (n, 0))]).set (some (b, 4)) [.int .i64 (IntKind.wrap .i64 ((L2.len : Int) + 1))]) =
          ((p1.put n 59 (linkPD e none)).set (some (L1.cell e.key)) [.ptr (some (n, 0))]).put b 54 [.int .i64 L2.seed, .sl (some (L2.bb, 0)) L2.B.length L2.B.length, .sl L2.oo L2.O.length L2.O.length, .int .i64 (L2.moved : Int), .int .i64 ((L2.len + 1 : Nat) : Int)] := by
        rw [hw, Pool.set_eq i1.1]; rfl
      have i8 := i1.struct L2.moved (L2.len + 1) ⟨Nat.le_refl _, i1.2.2.2.2.1⟩
      rw [← hset4] at i8
      obtain ⟨b1, b2, b3, b4⟩ := i2
      have hO2 : L2.O.length ≤ L2.moved → L2.O = [] := by
        intro hh
        have e1 : L2.tm.O.length = L.tm.move.O.length := by rw [i3]; unfold insE; rw [(tm_with_len _ _ _).1, htm]
        have e2 : L2.tm.moved = L.tm.move.moved := by rw [i3]; unfold insE; rw [(tm_with_len _ _ _).2.2.1, htm]
        have e3 : L2.tm.O.length = L2.O.length := by simp [TL.tm]
        have e4 : L2.tm.moved = L2.moved := rfl
        rcases ml.2.2.2 (by omega) with ⟨q1, q2⟩ | q
        · have e5 : L.tm.O.length = L.O.length := by simp [TL.tm]
          have := hz (by rw [← e5]; exact q1)
          rw [q2, e5, this] at e1
          exact List.eq_nil_of_length_eq_zero (by rw [← e3, e1]; rfl)
        · rw [q] at e1; exact List.eq_nil_of_length_eq_zero (by rw [← e3, e1]; rfl)
      refine ⟨rfl, i6, rfl, rfl, _, f4, rfl, rfl, ⟨b, 4, _, _, rfl, i1.1, by simp⟩, { L2 with moved := L2.moved, len := L2.len + 1 }, ⟨i8, ⟨b1, b2, b3, by show L2.len + 1 ≤ _; rw [i4, hlen1]; omega⟩, hO2⟩, ?_⟩
      rintro ⟨p3, L3⟩ ⟨j1, j2, j3, j4⟩
      dsimp only at j1 j2 j3 j4 ⊢
      refine ⟨_, _, _, H (p3, L3) ⟨j1, j2, ?_, (hfr.trans i7).trans (Frame.trans (M := { L2 with moved := L2.moved, len := L2.len + 1 }) (fun x hx hp => ?_) j4)⟩, endPool (AV.sub_two (fun r v hv => hv) (AV.sub_ff rfl)) rfl rfl⟩
      · rw [j3]
        unfold TM.put
        rw [← htm, tm_get, if_neg hge]
        dsimp only
        congr 1
        rw [tm_len_upd, i3, i4]
        have q1 : (insE L1.tm e).moved = L2.moved := by rw [← i3]; rfl
        rw [← q1]; rfl
      · refine ⟨?_, hx⟩
        show ((((p1.put n 59 (linkPD e none)).set (some (L1.cell e.key)) [.ptr (some (n, 0))]).set (some (b, 4)) [.int .i64 (IntKind.wrap .i64 ((L2.len : Int) + 1))])) x = _
        rw [hset4]
        exact Pool.put_ne (fun e' => by rw [e', i1.2.1] at hx; cases hx)
  · exact H.elim

end Sx
end Go.Proofs.Ytkadlfadmjhahaa

/-
  Tables: what Remove and New do.
-/
namespace Go.Proofs.Ytkadlfadmjhahaa
namespace Sx
open Go
set_option linter.unusedSimpArgs false
set_option linter.unusedVariables false

theorem cell_ne {p : Pool} {b : Nat} {L : TL} (h : TabAt p b L) (hf : L.fits) (k : Int) {i : Nat} (hi : i < (L.chain k).length) : (cellOf (L.head k) (L.chain k) i).1 ≠ ((L.chain k).getD i (0, e0)).1 := by
  obtain ⟨o, c1, s1, s2, s3⟩ := h.chain hf k
  obtain ⟨hs, a1, a2, a3⟩ := h.headArr hf k
  have hla := s2 _ (getD_mem hi)
  cases i with
  | zero => intro e; have e : (L.head k).1 = _ := e; rw [← e, a3] at hla; cases hla
  | succ j =>
    intro e
    have e : ((L.chain k).getD j (0, e0)).1 = ((L.chain k).getD (j + 1) (0, e0)).1 := e
    have hj : j < (L.chain k).length := by omega
    have hn := List.pairwise_iff_getElem.1 s3 j (j + 1) (by simpa using hj) (by simpa using hi) (by omega)
    rw [List.getD_eq_getElem?_getD, List.getElem?_eq_getElem hj, List.getD_eq_getElem?_getD, List.getElem?_eq_getElem hi] at e
    exact hn (by simpa using e)

/-- A link taken out of its chain. -/
theorem TabAt.cut {p : Pool} {b : Nat} {L : TL} (h : TabAt p b L) (hf : L.fits) (k : Int) {i : Nat} (hi : i < (L.chain k).length) {o2 : Adr} (hs : Seg p o2 ((L.chain k).drop (i + 1))) :
    TabAt (p.set (some (cellOf (L.head k) (L.chain k) i)) [.ptr o2]) b (L.with_ k ((L.chain k).take i ++ (L.chain k).drop (i + 1)) L.lab) := by
  obtain ⟨o, c1, s1, s2, s3⟩ := h.chain hf k
  obtain ⟨hs', a1, a2, a3⟩ := h.headArr hf k
  have hsplit : (L.chain k).take i ++ (L.chain k).drop i = L.chain k := List.take_append_drop i _
  have hnd : (((L.chain k).take i ++ (L.chain k).drop i).map (·.1)).Nodup := by rw [hsplit]; exact s3
  rw [List.map_append, List.nodup_append] at hnd
  have hsub : ∀ x ∈ (L.chain k).drop (i + 1), x ∈ (L.chain k).drop i := fun x hx => by
    rw [← List.drop_drop] at hx; exact List.mem_of_mem_drop hx
  refine h.cellSet hf k (Nat.le_of_lt hi) hs (fun x hx hm => ?_) ?_ (fun x hx => s2 x (List.mem_of_mem_drop hx)) (fun x hx e => ?_) (fun n _ _ => rfl) h.2.2.2.2.2
  · exact hnd.2.2 x.1 hm x.1 (List.mem_map.2 ⟨x, hsub x hx, rfl⟩) rfl
  · rw [List.map_drop]; exact List.Nodup.sublist (List.drop_sublist _ _) s3
  · have := s2 x (List.mem_of_mem_drop hx); rw [e, a3] at this; cases this

def runRem : RunPool V := fun p ar K => match ar with
  | [.val (.rp o0), .int .i64 k] => .ex Nat fun b => .need (o0 = some (b, 0)) (.ex TL fun L => .need (TabAt p b L ∧ L.fits ∧ moveOk L.tm ∧ (L.tm.move.get k ≠ none → 1 ≤ L.len))
      (.all (Pool × TL) fun y => .asm (TabAt y.1 b y.2 ∧ y.2.fits ∧ y.2.tm = L.tm.remove k ∧ Frame p y.1 L y.2) (K (foundAV (L.tm.move.get k)) y.1 [])))
  | _ => .bad 500
theorem hRem : HookOk Try.prog 12 (hookPool [.val, .int .i64] runRem) := by
  refine pool_hook (C := cfgP) cfgP_ok (n := 60) (fn := Try.f12) ⟨by kernel_rfl, by kernel_rfl⟩ (by kernel_rfl) ?_
  intro M p ar K0 H
  unfold runRem at H
  split at H
  · rename_i o0 k
    obtain ⟨b, rfl, L, ⟨hT, hF, hok, hl⟩, H⟩ := H
    refine ⟨show 2 ≤ _ by decide +kernel, ?_⟩
    show (runF cfgP 60 12 Try.f12 [.rp (some (b, 0)), .int .i64 k] [(0, .pool p)] 3).holds _
    rw [trem]
    simp only [Out.holds, decide_eq_true_eq, decide_eq_false_iff_not, beq_iff_eq, beq_eq_false_iff_ne, bne_iff_ne, ne_eq, bne_eq_false_iff_eq, Bool.true_and, Bool.and_true, Bool.not_eq_true', Bool.not_eq_false', Bool.and_eq_true, Bool.or_eq_true, Bool.and_eq_false_imp, true_implies, true_and, Bool.not_true, Bool.not_false, Bool.false_eq_true, Bool.true_eq_false, false_implies, and_true, beq_self_eq_true, Decidable.not_not, not_true_eq_false, not_false_eq_true]
    refine ⟨L, ⟨hT, hF, hok⟩, ?_⟩
    rintro ⟨p1, L1⟩ ⟨hT1, hF1, htm, hfr⟩
    dsimp only at hT1 hF1 htm hfr ⊢
    obtain ⟨o, c1, s1, s2, s3⟩ := hT1.chain hF1 k
    have hle := placeOf_le (L1.chain k) k
    obtain ⟨o', g1, g2⟩ := s1.cell c1 hle
    have eget : L.tm.move.get k = L1.tm.get k := by rw [htm]
    rw [eget, tm_get] at H hl
    have ml := move_lens L.tm
    have hlen1 : L1.len = L.len := by have := congrArg TM.len htm; rw [ml.2.1] at this; exact this
    refine ⟨L1, ⟨hT1, hF1⟩, rfl, o', g1, fun hn => ?_, fun hn => ?_⟩
    · have hge : ¬ placeOf (L1.chain k) k < (L1.chain k).length := fun h => by
        have e1 : o' = none := by simpa using hn
        rw [e1] at g2
        have := (g2.split h).1; cases this
      rw [if_neg hge] at H
      refine ⟨_, _, _, H (p1, L1) ⟨hT1, hF1, ?_, hfr⟩, endPool (AV.sub_two (fun r v hv => hv) (AV.sub_ff rfl)) rfl rfl⟩
      unfold TM.remove
      rw [← htm, tm_get, if_neg hge]
    · have hlt : placeOf (L1.chain k) k < (L1.chain k).length := by
        rcases Nat.lt_or_ge (placeOf (L1.chain k) k) (L1.chain k).length with h | h
        · exact h
        · have := g2.over h; subst this; simp at hn
      rw [if_pos hlt] at H hl
      have hl1 : 1 ≤ L.len := hl (by simp)
      obtain ⟨rfl, o2, k1, k2⟩ := g2.split hlt
      have hcut := hT1.cut hF1 k hlt k2
      have hcl : L1.cell k = cellOf (L1.head k) (L1.chain k) (placeOf (L1.chain k) k) := rfl
      rw [← hcl] at hcut
      obtain ⟨w1, w2, w3⟩ := TL.moved_with L1 k ((L1.chain k).take (placeOf (L1.chain k) k) ++ (L1.chain k).drop (placeOf (L1.chain k) k + 1)) L1.lab
      generalize hL2 : L1.with_ k ((L1.chain k).take (placeOf (L1.chain k) k) ++ (L1.chain k).drop (placeOf (L1.chain k) k + 1)) L1.lab = L2 at hcut w1 w2 w3
      have f4 := hcut.f4
      have hw : IntKind.wrap .i64 ((L2.len : Int) - 1) = ((L2.len - 1 : Nat) : Int) := by
        rw [wrap_low (by omega) (by rw [w3]; obtain ⟨_, _, _, q⟩ := hF1; omega)]; omega
      have hset4 : (p1.set (some (L1.cell k)) [.ptr o2]).set (some (b, 4)) [.int .i64 (IntKind.wrap .i64 ((L2.len : Int) - 1))] =
          (p1.set (some (L1.cell k)) [.ptr o2]).put b 54 [.int .i64 L2.seed, .sl (some (L2.bb, 0)) L2.B.length L2.B.length, .sl L2.oo L2.O.length L2.O.length, .int .i64 (L2.moved : Int), .int .i64 ((L2.len - 1 : Nat) : Int)] := by
        rw [hw, Pool.set_eq hcut.1]; rfl
      have i8 := hcut.struct L2.moved (L2.len - 1) ⟨Nat.le_refl _, hcut.2.2.2.2.1⟩
      rw [← hset4] at i8
      have hla := s2 _ (getD_mem hlt)
      have hab : ((L1.chain k).getD (placeOf (L1.chain k) k) (0, e0)).1 ≠ b := fun e => by rw [e, hT1.2.1] at hla; cases hla
      have hp3 : ((p1.set (some (L1.cell k)) [.ptr o2]).set (some (b, 4)) [.int .i64 (IntKind.wrap .i64 ((L2.len : Int) - 1))]) ((L1.chain k).getD (placeOf (L1.chain k) k) (0, e0)).1 = some (59, linkPD ((L1.chain k).getD (placeOf (L1.chain k) k) (0, e0)).2 o2) := by
        rw [hset4, Pool.put_ne hab, Pool.set_ne (c := L1.cell k) (fun e => cell_ne hT1 hF1 k hlt (by rw [← hcl]; exact e.symm))]; exact k1
      obtain ⟨b', off, T', cs, q1, q2, q3, _⟩ := g1
      refine ⟨rfl, rfl, o2, at_whole k1 4 _ rfl (by simp [linkPD]), rfl, ⟨b', off, T', cs, q1, q2, q3⟩, rfl, rfl, _, f4, rfl, rfl, ⟨b, 4, _, _, rfl, hcut.1, by simp⟩, rfl, rfl, _, _, _, _, at_whole hp3 0 (entPD _) rfl (by simp [linkPD, entPD]),
        _, _, _, H (_, { L2 with moved := L2.moved, len := L2.len - 1 }) ⟨i8, ?_, ?_, hfr.trans fun x hx hp => ?_⟩, endPool (AV.sub_two (AV.sub_of_eq rfl) (AV.sub_tt rfl)) rfl rfl⟩
      · have := TL.fits_with hF1 k ((L1.chain k).take (placeOf (L1.chain k) k) ++ (L1.chain k).drop (placeOf (L1.chain k) k + 1)) L1.lab
        rw [hL2] at this
        obtain ⟨b1, b2, b3, b4⟩ := this
        exact ⟨b1, b2, b3, by show L2.len - 1 ≤ _; omega⟩
      · dsimp only
        unfold TM.remove
        rw [← htm, tm_get, if_pos hlt]
        dsimp only
        rw [tm_len_upd, ← hL2, tm_with, tm_chain, placeOf_ents]
        have e1 : ents ((L1.chain k).take (placeOf (L1.chain k) k) ++ (L1.chain k).drop (placeOf (L1.chain k) k + 1)) = (ents (L1.chain k)).eraseIdx (placeOf (L1.chain k) k) := by
          rw [List.eraseIdx_eq_take_drop_succ]; unfold ents; rw [List.map_append, List.map_take, List.map_drop]
        rw [e1]
        have e2 : (L1.with_ k ((L1.chain k).take (placeOf (L1.chain k) k) ++ (L1.chain k).drop (placeOf (L1.chain k) k + 1)) L1.lab).moved = (L1.tm.with_ k ((ents (L1.chain k)).eraseIdx (placeOf (L1.chain k) k))).moved := by
          rw [hL2, w1, (tm_with_len _ _ _).2.2.1]; rfl
        rw [e2]
        have e3 : (L1.with_ k ((L1.chain k).take (placeOf (L1.chain k) k) ++ (L1.chain k).drop (placeOf (L1.chain k) k + 1)) L1.lab).len = L1.tm.len := by rw [hL2, w3]; rfl
        rw [e3]
      · dsimp only
        refine ⟨?_, by rw [w2]; exact hx⟩
        show ((p1.set (some (L1.cell k)) [.ptr o2]).set (some (b, 4)) [.int .i64 (IntKind.wrap .i64 ((L2.len : Int) - 1))]) x = _
        rw [hset4, Pool.put_ne (fun e' => by rw [e', hT1.2.1] at hx; cases hx), Pool.set_ne (fun e' => ?_)]
        have := hT1.cellLab hF1 k (i := placeOf (L1.chain k) k) (Nat.le_of_lt hlt)
        rw [← hcl, ← e', hx] at this
        rcases this with g | g <;> cases g
  · exact H.elim

/-! ## a new table -/
theorem getD_repl {α : Type} (n i : Nat) (d : α) : (List.replicate n d).getD i d = d := by
  simp only [List.getD, List.getElem?_replicate]; split <;> rfl
def TM.new (s : Int) : TM := ⟨s, List.replicate 8 [], [], 0, 0⟩
def newLab (a b : Nat) : Nat → Lab := fun x => if x = b then .me else if x = a then .arr false else .no
def TL.new (s : Int) (a b : Nat) : TL := ⟨s, a, List.replicate 8 [], 0, [], 0, 0, newLab a b⟩
theorem tab_new {p : Pool} {a b : Nat} (s : Int) (ha : p a = none) (hb : (p.put a 57 (List.replicate 8 (.ptr none))) b = none) :
    TabAt ((p.put a 57 (List.replicate 8 (.ptr none))).put b 54 [.int .i64 s, .sl (some (a, 0)) 8 8, .sl none 0 0, .int .i64 0, .int .i64 0]) b (TL.new s a b) := by
  have hab : a ≠ b := fun e => by subst e; rw [Pool.put_self] at hb; cases hb
  refine ⟨by rw [Pool.put_self]; rfl, by simp [TL.new, newLab], ⟨List.replicate 8 none, ?_, by simp [TL.new], ?_, fun i _ hi => ?_⟩, fun h => absurd rfl h, Nat.le_refl _, fun n hn => ?_⟩
  · show _ = some _
    have : (TL.new s a b).bb = a := rfl
    rw [this, Pool.put_ne hab, Pool.put_self]; rfl
  · show newLab a b a = _; simp [newLab, hab]
  · have hi' : i < 8 := by simpa [TL.new] using hi
    have e1 : (List.replicate 8 (none : Adr)).getD i none = none := getD_repl 8 i none
    have e2 : (TL.new s a b).B.getD i [] = [] := getD_repl 8 i []
    rw [e1, e2]; exact ⟨rfl, fun x hx => (by cases hx), List.nodup_nil⟩
  · have hn : newLab a b n ≠ .no := hn
    unfold newLab at hn
    by_cases e : n = b
    · subst e; rw [Pool.put_self]; simp
    · rw [if_neg e] at hn
      by_cases e' : n = a
      · subst e'; rw [Pool.put_ne e, Pool.put_self]; simp
      · rw [if_neg e'] at hn; exact absurd rfl hn
def runNew : RunPool V := fun p ar K => match ar with
  | [.int .i64 s] => .all (Pool × Nat × TL) fun y => .asm (TabAt y.1 y.2.1 y.2.2 ∧ y.2.2.fits ∧ y.2.2.tm = TM.new s ∧ (∀ n, p n ≠ none → y.1 n = p n ∧ y.2.2.lab n = .no)) (K (.rp (some (y.2.1, 0))) y.1 [])
  | _ => .bad 500
theorem hNew : HookOk Try.prog 10 (hookPool [.int .i64] runNew) := by
  refine pool_hook (C := cfgP) cfgP_ok (n := 60) (fn := Try.f10) ⟨by kernel_rfl, by kernel_rfl⟩ (by kernel_rfl) ?_
  intro M p ar K0 H
  unfold runNew at H
  split at H
  · rename_i s
    refine ⟨show 1 ≤ _ by decide +kernel, ?_⟩
    show (runF cfgP 60 10 Try.f10 [.int .i64 s] [(0, .pool p)] 2).holds _
    rw [tnewp]
    refine ⟨⟨by decide, by decide, by decide, by decide⟩, fun a ha b hb => ⟨_, _, _, H ((p.put a 57 (List.replicate 8 (.ptr none))).put b 54 [.int .i64 s, .sl (some (a, 0)) 8 8, .sl none 0 0, .int .i64 0, .int .i64 0], b, TL.new s a b) ⟨tab_new s ha hb, ⟨by simp [TL.new], by simp [TL.new], by simp [TL.new], by simp [TL.new]⟩, ?_, fun n hn => ?_⟩, endPool (AV.sub_same _) rfl rfl⟩⟩
    · simp [TL.new, TL.tm, TM.new, ents]
    · have e1 : n ≠ a := fun e => hn (by rw [e]; exact ha)
      have e2 : n ≠ b := fun e => by subst e; rw [Pool.put_ne e1] at hb; exact hn hb
      refine ⟨by dsimp only; rw [Pool.put_ne e2, Pool.put_ne e1], ?_⟩
      show newLab a b n = _; unfold newLab; rw [if_neg e2, if_neg e1]
  · exact H.elim

end Sx
end Go.Proofs.Ytkadlfadmjhahaa

/-
  Plain tables: each key in its place, what they hold; no program in sight.
-/
namespace Go.Proofs.Ytkadlfadmjhahaa
namespace Sx
open Go
set_option linter.unusedSimpArgs false
set_option linter.unusedVariables false

abbrev Plc := Bool × Nat
def TM.pl (t : TM) (k : Int) : Plc := if t.inOld k then (true, idxN t.seed k t.O.length) else (false, idxN t.seed k t.B.length)
def TM.row (t : TM) (q : Plc) : List Ent := if q.1 then t.O.getD q.2 [] else t.B.getD q.2 []
def TM.setRow (t : TM) (q : Plc) (c : List Ent) : TM := if q.1 then { t with O := t.O.set q.2 c } else { t with B := t.B.set q.2 c }
def TM.live (t : TM) (q : Plc) : Prop := if q.1 then t.moved ≤ q.2 ∧ q.2 < t.O.length else q.2 < t.B.length
def fk (c : List Ent) (k : Int) : Option Ent := c.find? fun e => decide (e.key = k)
theorem TM.chain_row (t : TM) (k : Int) : t.chain k = t.row (t.pl k) := by unfold TM.chain TM.row TM.pl; split <;> rfl
theorem TM.with_row (t : TM) (k : Int) (c : List Ent) : t.with_ k c = t.setRow (t.pl k) c := by unfold TM.with_ TM.setRow TM.pl; split <;> rfl
theorem TM.get_row (t : TM) (k : Int) : t.get k = fk (t.row (t.pl k)) k := by unfold TM.get; rw [TM.chain_row]; rfl
theorem TM.setRow_same (t : TM) (q : Plc) (c : List Ent) : (t.setRow q c).B.length = t.B.length ∧ (t.setRow q c).O.length = t.O.length ∧ (t.setRow q c).moved = t.moved ∧ (t.setRow q c).seed = t.seed ∧ (t.setRow q c).len = t.len := by
  unfold TM.setRow; split <;> simp
theorem TM.pl_same {t u : TM} (h1 : u.B.length = t.B.length) (h2 : u.O.length = t.O.length) (h3 : u.moved = t.moved) (h4 : u.seed = t.seed) (k : Int) : u.pl k = t.pl k := by
  unfold TM.pl TM.inOld; rw [h1, h2, h3, h4]
theorem TM.pl_set (t : TM) (q : Plc) (c : List Ent) (k : Int) : (t.setRow q c).pl k = t.pl k := by
  obtain ⟨a, b, d, e, _⟩ := t.setRow_same q c; exact TM.pl_same a b d e k
theorem TM.live_set (t : TM) (q : Plc) (c : List Ent) (q' : Plc) : (t.setRow q c).live q' ↔ t.live q' := by
  obtain ⟨a, b, d, e, _⟩ := t.setRow_same q c; unfold TM.live; rw [a, b, d]
theorem TM.row_set {t : TM} {q : Plc} (h : t.live q) (c : List Ent) (q' : Plc) : (t.setRow q c).row q' = if q' = q then c else t.row q' := by
  obtain ⟨o, i⟩ := q
  obtain ⟨o', i'⟩ := q'
  unfold TM.live at h
  unfold TM.setRow TM.row
  cases o <;> cases o' <;> simp only [if_true, if_false, Bool.false_eq_true, reduceIte, Prod.mk.injEq, true_and, false_and] at h ⊢
  all_goals first
    | rfl
    | (by_cases e : i' = i
       · subst e; simp [List.getD, h]
       · simp [List.getD, e, List.getElem?_set, Ne.symm e])

structure TM.Core (t : TM) : Prop where
  b1 : 1 ≤ t.B.length
  b2 : t.B.length ≤ 131072
  b3 : t.O.length ≤ 131072
  mv : t.moved ≤ t.O.length
  home : ∀ q, t.live q → ∀ e ∈ t.row q, t.pl e.key = q
  nd : ∀ q, t.live q → ((t.row q).map (·.key)).Nodup
def TM.total (t : TM) : Nat := (t.B.map List.length).sum + ((t.O.drop t.moved).map List.length).sum
structure TM.Good (t : TM) : Prop where
  core : t.Core
  tight : t.O.length ≤ t.moved → t.O = []
  len : t.len = t.total

theorem TM.pl_live {t : TM} (h : t.Core) (k : Int) : t.live (t.pl k) := by
  unfold TM.pl TM.live
  by_cases hin : t.inOld k = true
  · have hin' := hin
    unfold TM.inOld at hin'
    simp only [Bool.and_eq_true, decide_eq_true_eq] at hin'
    simp only [hin, if_true]
    exact ⟨hin'.2, idxN_lt (by omega) (by have := h.b3; omega)⟩
  · simp only [hin, if_false, Bool.false_eq_true, reduceIte]
    exact idxN_lt h.b1 (by have := h.b2; omega)

/-! ## rows of one place -/
theorem fk_some {c : List Ent} {k : Int} {e : Ent} (h : fk c k = some e) : e ∈ c ∧ e.key = k := ⟨List.mem_of_find?_eq_some h, by have := List.find?_some h; simpa using this⟩
theorem fk_none {c : List Ent} {k : Int} : fk c k = none ↔ ∀ e ∈ c, e.key ≠ k := by unfold fk; rw [List.find?_eq_none]; simp
theorem fk_mem {c : List Ent} (hn : (c.map (·.key)).Nodup) {e : Ent} (h : e ∈ c) : fk c e.key = some e := by
  induction c with
  | nil => cases h
  | cons x c ih =>
    simp only [List.map_cons, List.nodup_cons] at hn
    unfold fk; rw [List.find?_cons]
    rcases List.mem_cons.1 h with rfl | h
    · simp
    · have : x.key ≠ e.key := fun e' => hn.1 (by rw [e']; exact List.mem_map.2 ⟨e, h, rfl⟩)
      simp only [this, decide_false]; exact ih hn.2 h
theorem fk_append (c : List Ent) (e : Ent) (k : Int) (h : fk c e.key = none) : fk (c ++ [e]) k = if k = e.key then some e else fk c k := by
  unfold fk at h ⊢
  rw [List.find?_append]
  by_cases hk : k = e.key
  · subst hk; rw [h]; simp
  · rw [if_neg hk]
    have : ([e].find? fun x => decide (x.key = k)) = none := by simp [Ne.symm hk]
    rw [this]; simp
theorem nodup_append1 {c : List Ent} {e : Ent} (hn : (c.map (·.key)).Nodup) (h : fk c e.key = none) : ((c ++ [e]).map (·.key)).Nodup := by
  rw [List.map_append, List.nodup_append]
  refine ⟨hn, by simp, fun x hx y hy => ?_⟩
  simp only [List.map_cons, List.map_nil, List.mem_singleton] at hy
  subst hy
  obtain ⟨z, hz, rfl⟩ := List.mem_map.1 hx
  exact fk_none.1 h z hz
theorem repl_spec {e : Ent} : ∀ {c : List Ent}, (c.map (·.key)).Nodup → fk c e.key ≠ none → (∀ k, fk (repl c e) k = if k = e.key then some e else fk c k) ∧ (repl c e).map (·.key) = c.map (·.key) ∧ (∀ x ∈ repl c e, x = e ∨ x ∈ c)
  | [], _, h => by simp [fk] at h
  | x :: c, hn, h => by
    simp only [List.map_cons, List.nodup_cons] at hn
    by_cases hx : x.key = e.key
    · have hr : repl (x :: c) e = e :: c := by unfold repl; simp [List.findIdx_cons, hx]
      rw [hr]
      refine ⟨fun k => ?_, by simp [hx], fun y hy => ?_⟩
      · unfold fk; rw [List.find?_cons, List.find?_cons]
        by_cases hk : k = e.key
        · subst hk; simp
        · simp [hx, Ne.symm hk, hk]
      · rcases List.mem_cons.1 hy with rfl | hy
        · exact .inl rfl
        · exact .inr (List.mem_cons_of_mem _ hy)
    · have hr : repl (x :: c) e = x :: repl c e := by unfold repl; simp [List.findIdx_cons, hx]
      have h' : fk c e.key ≠ none := by unfold fk at h ⊢; rw [List.find?_cons] at h; simpa [hx] using h
      obtain ⟨i1, i2, i3⟩ := repl_spec hn.2 h'
      rw [hr]
      refine ⟨fun k => ?_, by simp [i2], fun y hy => ?_⟩
      · have := i1 k
        unfold fk at this ⊢; rw [List.find?_cons, List.find?_cons]
        by_cases hk : x.key = k
        · subst hk; simp [hx]
        · simp only [hk, decide_false]; exact this
      · rcases List.mem_cons.1 hy with rfl | hy
        · exact .inr (List.mem_cons_self ..)
        · rcases i3 y hy with h | h
          · exact .inl h
          · exact .inr (List.mem_cons_of_mem _ h)
def erase1 (c : List Ent) (k : Int) : List Ent := c.eraseIdx (c.findIdx fun x => decide (x.key = k))
theorem erase_spec {k : Int} : ∀ {c : List Ent}, (c.map (·.key)).Nodup → (∀ j, fk (erase1 c k) j = if j = k then none else fk c j) ∧ ((erase1 c k).map (·.key)).Nodup ∧ (∀ x ∈ erase1 c k, x ∈ c) ∧ (fk c k ≠ none → (erase1 c k).length + 1 = c.length)
  | [], _ => ⟨fun j => by simp [erase1, fk], by simp [erase1], fun x hx => by simp [erase1] at hx, fun h => by simp [fk] at h⟩
  | x :: c, hn => by
    simp only [List.map_cons, List.nodup_cons] at hn
    by_cases hx : x.key = k
    · have hr : erase1 (x :: c) k = c := by unfold erase1; simp [List.findIdx_cons, hx]
      rw [hr]
      refine ⟨fun j => ?_, hn.2, fun y hy => List.mem_cons_of_mem _ hy, fun _ => rfl⟩
      by_cases hj : j = k
      · subst hj; rw [if_pos rfl]
        exact fk_none.2 fun y hy e => hn.1 (by rw [hx, ← e]; exact List.mem_map.2 ⟨y, hy, rfl⟩)
      · rw [if_neg hj]; unfold fk; rw [List.find?_cons]; simp [hx, Ne.symm hj]
    · have hr : erase1 (x :: c) k = x :: erase1 c k := by unfold erase1; simp [List.findIdx_cons, hx]
      obtain ⟨i1, i2, i3, i4⟩ := erase_spec (k := k) hn.2
      rw [hr]
      refine ⟨fun j => ?_, ?_, fun y hy => ?_, fun h => ?_⟩
      · have := i1 j
        unfold fk at this ⊢; rw [List.find?_cons, List.find?_cons]
        by_cases hj : x.key = j
        · subst hj; simp [hx]
        · simp only [hj, decide_false]; exact this
      · rw [List.map_cons, List.nodup_cons]
        exact ⟨fun hm => hn.1 (by obtain ⟨y, hy, e⟩ := List.mem_map.1 hm; exact List.mem_map.2 ⟨y, i3 y hy, e⟩), i2⟩
      · rcases List.mem_cons.1 hy with rfl | hy
        · exact List.mem_cons_self ..
        · exact List.mem_cons_of_mem _ (i3 y hy)
      · have h' : fk c k ≠ none := by unfold fk at h ⊢; rw [List.find?_cons] at h; simpa [hx] using h
        have := i4 h'
        simp only [List.length_cons]; omega

/-! ## a row turned -/
theorem TM.Core.set {t : TM} (h : t.Core) {k : Int} {c : List Ent} (hh : ∀ e ∈ c, t.pl e.key = t.pl k) (hn : (c.map (·.key)).Nodup) : (t.setRow (t.pl k) c).Core := by
  obtain ⟨a1, a2, a3, a4, a5⟩ := t.setRow_same (t.pl k) c
  have hl := TM.pl_live h k
  refine ⟨by rw [a1]; exact h.b1, by rw [a1]; exact h.b2, by rw [a2]; exact h.b3, by rw [a2, a3]; exact h.mv, fun q hq e he => ?_, fun q hq => ?_⟩
  · rw [TM.pl_set]
    rw [TM.live_set] at hq
    rw [TM.row_set hl] at he
    by_cases e' : q = t.pl k
    · rw [if_pos e'] at he; rw [e']; exact hh e he
    · rw [if_neg e'] at he; exact h.home q hq e he
  · rw [TM.live_set] at hq
    rw [TM.row_set hl]
    split
    · exact hn
    · exact h.nd q hq
theorem TM.get_set {t : TM} (h : t.Core) (k : Int) (c : List Ent) (j : Int) : (t.setRow (t.pl k) c).get j = if t.pl j = t.pl k then fk c j else t.get j := by
  rw [TM.get_row, TM.pl_set, TM.row_set (TM.pl_live h k), TM.get_row]
  split <;> rfl

theorem TM.get_some {t : TM} (h : t.Core) {k : Int} {e : Ent} (hg : t.get k = some e) : e.key = k ∧ t.live (t.pl k) ∧ e ∈ t.row (t.pl k) := by
  rw [TM.get_row] at hg
  obtain ⟨h1, h2⟩ := fk_some hg
  exact ⟨h2, TM.pl_live h k, h1⟩
theorem TM.get_mem {t : TM} (h : t.Core) {q : Plc} (hq : t.live q) {e : Ent} (he : e ∈ t.row q) : t.get e.key = some e := by
  rw [TM.get_row, h.home q hq e he]; exact fk_mem (h.nd q hq) he

theorem TM.ins_row (t : TM) (e : Ent) : insE t e = t.setRow (t.pl e.key) (t.row (t.pl e.key) ++ [e]) := by unfold insE; rw [TM.with_row, TM.chain_row]
theorem TM.Core.ins {t : TM} (h : t.Core) {e : Ent} (hg : t.get e.key = none) : (insE t e).Core ∧ ∀ j, (insE t e).get j = if j = e.key then some e else t.get j := by
  rw [TM.ins_row]
  rw [TM.get_row] at hg
  have hl := TM.pl_live h e.key
  refine ⟨h.set (fun x hx => ?_) (nodup_append1 (h.nd _ hl) hg), fun j => ?_⟩
  · rcases List.mem_append.1 hx with hx | hx
    · exact h.home _ hl x hx
    · simp only [List.mem_singleton] at hx; subst hx; rfl
  · rw [TM.get_set h, fk_append _ _ _ hg]
    by_cases hj : j = e.key
    · subst hj; simp
    · simp only [hj, if_false]
      split
      · rename_i hp; rw [TM.get_row, hp]
      · rfl
theorem TM.Core.insAll {t : TM} (h : t.Core) : ∀ (es : List Ent) , (∀ e ∈ es, t.get e.key = none) → (es.map (·.key)).Nodup → insOk t es ∧ (insAll t es).Core ∧ ∀ j, (insAll t es).get j = (fk es j).or (t.get j) := by
  intro es
  induction es generalizing t with
  | nil => intro _ _; exact ⟨trivial, h, fun j => by simp [Sx.insAll, fk]⟩
  | cons e es ih =>
    intro h1 h2
    simp only [List.map_cons, List.nodup_cons] at h2
    have hg := h1 e (List.mem_cons_self ..)
    obtain ⟨k1, k2⟩ := h.ins hg
    have hne : ∀ x ∈ es, x.key ≠ e.key := fun x hx e' => h2.1 (by rw [← e']; exact List.mem_map.2 ⟨x, hx, rfl⟩)
    obtain ⟨g1, g2, g3⟩ := ih k1 (fun x hx => by rw [k2, if_neg (hne x hx)]; exact h1 x (List.mem_cons_of_mem _ hx)) h2.2
    refine ⟨⟨hg, g1⟩, g2, fun j => ?_⟩
    show (Sx.insAll (insE t e) es).get j = _
    rw [g3, k2]
    unfold fk; rw [List.find?_cons]
    by_cases hj : e.key = j
    · subst hj
      have : (es.find? fun x => decide (x.key = e.key)) = none := fk_none.2 hne
      simp [this]
    · simp [hj, Ne.symm hj]

/-! ## moves -/
theorem TM.pl_next (t : TM) (h : t.moved < t.O.length) (hb : t.O.length ≤ 131072) (k : Int) : ({ t with moved := t.moved + 1 } : TM).pl k = if t.pl k = (true, t.moved) then (false, idxN t.seed k t.B.length) else t.pl k := by
  have hlt := idxN_lt (seed := t.seed) (key := k) (n := t.O.length) (by omega) (by omega)
  unfold TM.pl TM.inOld
  dsimp only
  by_cases h1 : t.moved ≤ idxN t.seed k t.O.length
  · by_cases h2 : idxN t.seed k t.O.length = t.moved
    · simp only [h, h2, decide_true, Nat.le_refl, Bool.and_true, if_true]
      rw [if_neg (by simp)]
    · have h3 : t.moved + 1 < t.O.length := by omega
      have h4 : t.moved + 1 ≤ idxN t.seed k t.O.length := by omega
      simp [h, h1, h3, h4, h2]
  · have h4 : ¬ t.moved + 1 ≤ idxN t.seed k t.O.length := by omega
    simp [h1, h4]
theorem TM.Core.next {t : TM} (h : t.Core) (hm : t.moved < t.O.length) : ({ t with moved := t.moved + 1 } : TM).Core ∧ ∀ k, ({ t with moved := t.moved + 1 } : TM).get k = if t.pl k = (true, t.moved) then none else t.get k := by
  have hlive : ∀ q, ({ t with moved := t.moved + 1 } : TM).live q → t.live q ∧ q ≠ (true, t.moved) := by
    rintro ⟨o, i⟩ hq
    unfold TM.live at hq ⊢
    cases o
    · simp only [if_false, Bool.false_eq_true, reduceIte] at hq ⊢; exact ⟨hq, by simp⟩
    · simp only [if_true] at hq ⊢
      exact ⟨⟨by omega, hq.2⟩, by simp; omega⟩
  have hrow : ∀ q, ({ t with moved := t.moved + 1 } : TM).row q = t.row q := fun q => rfl
  refine ⟨⟨h.b1, h.b2, h.b3, hm, fun q hq e he => ?_, fun q hq => ?_⟩, fun k => ?_⟩
  · obtain ⟨h1, h2⟩ := hlive q hq
    have := h.home q h1 e he
    rw [TM.pl_next t hm h.b3, this, if_neg h2]
  · exact h.nd q (hlive q hq).1
  · rw [TM.get_row, TM.pl_next t hm h.b3, TM.get_row]
    split
    · rename_i hp
      rw [hrow]
      refine fk_none.2 fun e he hk => ?_
      have hl : t.live (false, idxN t.seed k t.B.length) := by
        unfold TM.live; simp only [if_false, Bool.false_eq_true, reduceIte]; exact idxN_lt h.b1 (by have := h.b2; omega)
      have := h.home _ hl e he
      rw [hk, hp] at this; cases this
    · rfl

theorem sum_set {l : List (List Ent)} {i : Nat} (h : i < l.length) (c : List Ent) : ((l.set i c).map List.length).sum + (l.getD i []).length = (l.map List.length).sum + c.length := by
  induction l generalizing i with
  | nil => simp at h
  | cons x l ih =>
    cases i with
    | zero => simp; omega
    | succ i =>
      have := ih (i := i) (by simpa using h)
      simp only [List.set_cons_succ, List.map_cons, List.sum_cons, List.getD_cons_succ]
      omega
theorem TM.total_set {t : TM} {q : Plc} (h : t.live q) (c : List Ent) : (t.setRow q c).total + (t.row q).length = t.total + c.length := by
  obtain ⟨o, i⟩ := q
  unfold TM.live at h
  unfold TM.setRow TM.row TM.total
  cases o
  · simp only [if_false, Bool.false_eq_true, reduceIte] at h ⊢
    have := sum_set h c
    omega
  · simp only [if_true] at h ⊢
    have h1 : (t.O.set i c).drop t.moved = (t.O.drop t.moved).set (i - t.moved) c := by
      rw [List.drop_set, if_neg (by omega)]
    have h2 := sum_set (l := t.O.drop t.moved) (i := i - t.moved) (by rw [List.length_drop]; omega) c
    have h3 : (t.O.drop t.moved).getD (i - t.moved) [] = t.O.getD i [] := by
      simp only [List.getD, List.getElem?_drop]; rw [show t.moved + (i - t.moved) = i by omega]
    rw [h1]; rw [h3] at h2; omega
theorem TM.total_ins {t : TM} (h : t.Core) (e : Ent) : (insE t e).total = t.total + 1 := by
  rw [TM.ins_row]
  have := TM.total_set (TM.pl_live h e.key) (t.row (t.pl e.key) ++ [e])
  simp at this; omega
theorem TM.total_insAll {t : TM} (h : t.Core) : ∀ (es : List Ent), (∀ e ∈ es, t.get e.key = none) → (es.map (·.key)).Nodup → (Sx.insAll t es).total = t.total + es.length := by
  intro es
  induction es generalizing t with
  | nil => intro _ _; rfl
  | cons e es ih =>
    intro h1 h2
    simp only [List.map_cons, List.nodup_cons] at h2
    have hg := h1 e (List.mem_cons_self ..)
    obtain ⟨k1, k2⟩ := h.ins hg
    have hne : ∀ x ∈ es, x.key ≠ e.key := fun x hx e' => h2.1 (by rw [← e']; exact List.mem_map.2 ⟨x, hx, rfl⟩)
    have := ih k1 (fun x hx => by rw [k2, if_neg (hne x hx)]; exact h1 x (List.mem_cons_of_mem _ hx)) h2.2
    show (Sx.insAll (insE t e) es).total = _
    rw [this, TM.total_ins h]; simp; omega

end Sx
end Go.Proofs.Ytkadlfadmjhahaa

/-
  Plain tables: what Put, Remove and a move leave.
-/
namespace Go.Proofs.Ytkadlfadmjhahaa
namespace Sx
open Go
set_option linter.unusedSimpArgs false
set_option linter.unusedVariables false

/-- Tables of the same places and rows. -/
theorem TM.Core.same {t u : TM} (h : t.Core) (b1 : 1 ≤ u.B.length) (b2 : u.B.length ≤ 131072) (b3 : u.O.length ≤ 131072) (mv : u.moved ≤ u.O.length) (hl : ∀ q, u.live q → t.live q) (hr : ∀ q, u.live q → u.row q = t.row q) (hp : ∀ k, u.pl k = t.pl k) : u.Core ∧ ∀ k, u.get k = t.get k := by
  have hc : u.Core := ⟨b1, b2, b3, mv, fun q hq e he => by rw [hp]; rw [hr q hq] at he; exact h.home q (hl q hq) e he, fun q hq => by rw [hr q hq]; exact h.nd q (hl q hq)⟩
  refine ⟨hc, fun k => ?_⟩
  rw [TM.get_row, TM.get_row, hr _ (TM.pl_live hc k), hp]

theorem move_good {t : TM} (h : t.Good) : moveOk t ∧ t.move.Good ∧ ∀ k, t.move.get k = t.get k := by
  by_cases hm : t.moved < t.O.length
  · have hlv : t.live (true, t.moved) := by unfold TM.live; simp [hm]
    have hrow : t.row (true, t.moved) = t.O.getD t.moved [] := rfl
    obtain ⟨n1, n2⟩ := h.core.next hm
    have hpl : ∀ e ∈ t.O.getD t.moved [], t.pl e.key = (true, t.moved) := fun e he => h.core.home _ hlv e (by rw [hrow]; exact he)
    have hnone : ∀ e ∈ t.O.getD t.moved [], ({ t with moved := t.moved + 1 } : TM).get e.key = none := fun e he => by rw [n2, if_pos (hpl e he)]
    have hnd : ((t.O.getD t.moved []).map (·.key)).Nodup := h.core.nd _ hlv
    obtain ⟨g1, g2, g3⟩ := n1.insAll _ hnone hnd
    have htot := TM.total_insAll n1 _ hnone hnd
    obtain ⟨l1, l2, l3, l4, l5⟩ := insAll_len (t.O.getD t.moved []) { t with moved := t.moved + 1 }
    have hget : ∀ k, t.stepMoved.get k = t.get k := fun k => by
      show (insAll _ _).get k = _
      rw [g3, n2]
      by_cases hp : t.pl k = (true, t.moved)
      · rw [if_pos hp, TM.get_row, hp, hrow]; simp
      · rw [if_neg hp]
        have : fk (t.O.getD t.moved []) k = none := fk_none.2 fun e he hk => hp (by rw [← hk]; exact hpl e he)
        rw [this]; simp
    have ht1 : ({ t with moved := t.moved + 1 } : TM).total + (t.O.getD t.moved []).length = t.total := by
      unfold TM.total
      dsimp only
      rw [List.drop_eq_getElem_cons hm]
      have : t.O.getD t.moved [] = t.O[t.moved] := by rw [List.getD_eq_getElem?_getD, List.getElem?_eq_getElem hm]; rfl
      rw [this]; simp only [List.map_cons, List.sum_cons]; omega
    have hsm : t.stepMoved.total = t.total := by show (insAll _ _).total = _; omega
    have hsl : t.stepMoved.len = t.total := by show (insAll _ _).len = _; rw [l4]; exact h.len
    refine ⟨fun _ => g1, ?_⟩
    unfold TM.move
    rw [if_neg (by omega)]
    split
    · rename_i hlast
      have e1 : t.stepMoved.moved = t.stepMoved.O.length := by
        show (insAll _ _).moved = (insAll _ _).O.length
        rw [l3, l1]; show t.moved + 1 = t.O.length; omega
      have hin : ∀ k, t.stepMoved.inOld k = false := fun k => by unfold TM.inOld; rw [e1]; simp
      have hin' : ∀ k, ({ t.stepMoved with O := [], moved := 0 } : TM).inOld k = false := fun k => by unfold TM.inOld; simp
      have hpl' : ∀ k, ({ t.stepMoved with O := [], moved := 0 } : TM).pl k = t.stepMoved.pl k := fun k => by (unfold TM.pl; rw [if_neg (by rw [hin']; simp), if_neg (by rw [hin]; simp)])
      have hl' : ∀ q, ({ t.stepMoved with O := [], moved := 0 } : TM).live q → q.1 = false ∧ q.2 < t.stepMoved.B.length := by
        rintro ⟨o, i⟩ hq
        unfold TM.live at hq
        cases o
        · exact ⟨rfl, hq⟩
        · simp at hq
      have hcs : t.stepMoved.Core := g2
      obtain ⟨c1, c2⟩ := hcs.same (u := { t.stepMoved with O := [], moved := 0 }) hcs.b1 hcs.b2 (by simp) (Nat.zero_le _) (fun q hq => by
          obtain ⟨a, b⟩ := hl' q hq; unfold TM.live; rw [a]; exact b) (fun q hq => by
          obtain ⟨a, b⟩ := hl' q hq; unfold TM.row; rw [a]; rfl) hpl'
      refine ⟨⟨c1, fun _ => rfl, ?_⟩, fun k => by rw [c2]; exact hget k⟩
      show t.stepMoved.len = _
      rw [hsl, ← hsm]
      unfold TM.total
      dsimp only
      rw [e1, List.drop_length]; rfl
    · rename_i hnl
      refine ⟨⟨g2, fun hh => ?_, by rw [hsl, hsm]⟩, hget⟩
      exfalso
      have e1 : t.stepMoved.moved = t.moved + 1 := l3
      have e2 : t.stepMoved.O.length = t.O.length := l1
      omega
  · have hmv : t.move = t := by unfold TM.move; rw [if_pos (by omega)]
    rw [hmv]
    exact ⟨fun h' => absurd h' hm, h, fun _ => rfl⟩

theorem grow_good {t : TM} (h : t.Good) : t.grow.Good ∧ (∀ k, t.grow.get k = t.get k) ∧ t.grow.len = t.len := by
  unfold TM.grow
  split
  · rename_i hc
    have hO := h.tight hc.1
    have hm : t.moved = 0 := by have := h.core.mv; rw [hO] at this; simpa using this
    have hin : ∀ k, t.inOld k = false := fun k => by unfold TM.inOld; rw [hO]; simp
    have hB := h.core.b1
    have hin' : ∀ k, ({ t with O := t.B, B := List.replicate (2 * t.B.length) [] } : TM).inOld k = true := fun k => by unfold TM.inOld; dsimp only; rw [hm]; simp; omega
    have hp : ∀ k, t.pl k = (false, idxN t.seed k t.B.length) := fun k => by unfold TM.pl; rw [hin]; rfl
    have hp' : ∀ k, ({ t with O := t.B, B := List.replicate (2 * t.B.length) [] } : TM).pl k = (true, idxN t.seed k t.B.length) := fun k => by unfold TM.pl; rw [hin']; rfl
    have hempty : ∀ i, ({ t with O := t.B, B := List.replicate (2 * t.B.length) [] } : TM).row (false, i) = [] := fun i => getD_repl _ i []
    have hrow : ∀ i, ({ t with O := t.B, B := List.replicate (2 * t.B.length) [] } : TM).row (true, i) = t.row (false, i) := fun i => rfl
    refine ⟨⟨⟨by simp; omega, by simp; omega, h.core.b2, by dsimp only; omega, ?_, ?_⟩, fun hh => ?_, ?_⟩, fun k => ?_, rfl⟩
    · rintro ⟨o, i⟩ hq e he
      cases o
      · rw [hempty] at he; cases he
      · rw [hrow] at he
        have hq' : t.live (false, i) := by unfold TM.live at hq ⊢; simpa using hq.2
        have := h.core.home _ hq' e he
        rw [hp] at this
        rw [hp']; simp only [Prod.mk.injEq, true_and] at this ⊢; exact this
    · rintro ⟨o, i⟩ hq
      cases o
      · rw [hempty]; exact List.nodup_nil
      · rw [hrow]
        have hq' : t.live (false, i) := by unfold TM.live at hq ⊢; simpa using hq.2
        exact h.core.nd _ hq'
    · exfalso
      have hh : t.B.length ≤ t.moved := hh
      omega
    · show t.len = _
      rw [h.len]
      unfold TM.total
      dsimp only
      rw [hO, hm]; simp
    · rw [TM.get_row, TM.get_row, hp', hp, hrow]
  · exact ⟨h, fun _ => rfl, rfl⟩

theorem put_good {t : TM} (h : t.Good) (e : Ent) : (t.put e).Good ∧ (∀ k, (t.put e).get k = if k = e.key then some e else t.get k) ∧ (t.put e).len = t.len + (if t.get e.key = none then 1 else 0) := by
  obtain ⟨m1, m2, m3⟩ := move_good h
  have ml := (move_lens t).2.1
  unfold TM.put
  cases hg : t.move.get e.key with
  | some x =>
    dsimp only
    have hg' := hg
    rw [TM.get_row] at hg'
    have hlv := TM.pl_live m2.core e.key
    obtain ⟨r1, r2, r3⟩ := repl_spec (m2.core.nd _ hlv) (e := e) (by rw [hg']; simp)
    rw [TM.with_row, TM.chain_row]
    obtain ⟨a1, a2, a3, a4, a5⟩ := t.move.setRow_same (t.move.pl e.key) (repl (t.move.row (t.move.pl e.key)) e)
    have ht := TM.total_set hlv (repl (t.move.row (t.move.pl e.key)) e)
    have hll : (repl (t.move.row (t.move.pl e.key)) e).length = (t.move.row (t.move.pl e.key)).length := by have := congrArg List.length r2; simpa using this
    refine ⟨⟨m2.core.set (fun x hx => ?_) (by rw [r2]; exact m2.core.nd _ hlv), fun hh => ?_, ?_⟩, fun k => ?_, ?_⟩
    · rcases r3 x hx with rfl | hx
      · rfl
      · exact m2.core.home _ hlv x hx
    · rw [a2, a3] at hh
      have := m2.tight hh
      exact List.eq_nil_of_length_eq_zero (by rw [a2, this]; rfl)
    · rw [a5, m2.len]; omega
    · rw [TM.get_set m2.core, r1, ← m3]
      by_cases hk : k = e.key
      · subst hk; simp
      · simp only [hk, if_false]
        split
        · rename_i hp; rw [TM.get_row, hp]
        · rfl
    · rw [a5, ml, ← m3, hg]; simp
  | none =>
    dsimp only
    obtain ⟨i1, i2⟩ := m2.core.ins hg
    have i3 := TM.total_ins m2.core e
    have ill := tm_with_len t.move e.key (t.move.chain e.key ++ [e])
    have hgood : ({ insE t.move e with len := t.move.len + 1 } : TM).Good := by
      obtain ⟨c1, c2⟩ := i1.same (u := { insE t.move e with len := t.move.len + 1 }) i1.b1 i1.b2 i1.b3 i1.mv (fun q hq => hq) (fun q _ => rfl) (fun k => rfl)
      refine ⟨c1, fun hh => ?_, ?_⟩
      · have hh : (insE t.move e).O.length ≤ (insE t.move e).moved := hh
        have h1 : (insE t.move e).O.length = t.move.O.length := ill.1
        have h2 : (insE t.move e).moved = t.move.moved := ill.2.2.1
        have := m2.tight (by omega)
        exact List.eq_nil_of_length_eq_zero (by show (insE t.move e).O.length = 0; rw [h1, this]; rfl)
      · show t.move.len + 1 = (insE t.move e).total
        rw [i3, m2.len]
    obtain ⟨g1, g2, g3⟩ := grow_good hgood
    refine ⟨g1, fun k => ?_, ?_⟩
    · rw [g2, ← m3]
      show (insE t.move e).get k = _
      rw [i2]
    · rw [g3, ← m3, hg]; show t.move.len + 1 = _; rw [ml]; simp

theorem remove_good {t : TM} (h : t.Good) (k : Int) : (t.remove k).Good ∧ (∀ j, (t.remove k).get j = if j = k then none else t.get j) ∧ (t.remove k).len = t.len - (if t.get k = none then 0 else 1) ∧ (t.get k ≠ none → 1 ≤ t.len) := by
  obtain ⟨m1, m2, m3⟩ := move_good h
  have ml := (move_lens t).2.1
  unfold TM.remove
  cases hg : t.move.get k with
  | some x =>
    dsimp only
    have hg' := hg
    rw [TM.get_row] at hg'
    have hlv := TM.pl_live m2.core k
    obtain ⟨r1, r2, r3, r4⟩ := erase_spec (k := k) (m2.core.nd _ hlv)
    have r4 := r4 (by rw [hg']; simp)
    rw [TM.with_row, TM.chain_row]
    have he : (t.move.row (t.move.pl k)).eraseIdx ((t.move.row (t.move.pl k)).findIdx fun x => decide (x.key = k)) = erase1 (t.move.row (t.move.pl k)) k := rfl
    rw [he]
    obtain ⟨a1, a2, a3, a4, a5⟩ := t.move.setRow_same (t.move.pl k) (erase1 (t.move.row (t.move.pl k)) k)
    have ht := TM.total_set hlv (erase1 (t.move.row (t.move.pl k)) k)
    have hcs := m2.core.set (k := k) (c := erase1 (t.move.row (t.move.pl k)) k) (fun x hx => m2.core.home _ hlv x (r3 x hx)) r2
    obtain ⟨c1, c2⟩ := hcs.same (u := { t.move.setRow (t.move.pl k) (erase1 (t.move.row (t.move.pl k)) k) with len := t.move.len - 1 }) hcs.b1 hcs.b2 hcs.b3 hcs.mv (fun q hq => hq) (fun q _ => rfl) (fun k => rfl)
    refine ⟨⟨c1, fun hh => ?_, ?_⟩, fun j => ?_, ?_, fun _ => ?_⟩
    · have hh : (t.move.setRow (t.move.pl k) (erase1 (t.move.row (t.move.pl k)) k)).O.length ≤ (t.move.setRow (t.move.pl k) (erase1 (t.move.row (t.move.pl k)) k)).moved := hh
      rw [a2, a3] at hh
      have := m2.tight hh
      exact List.eq_nil_of_length_eq_zero (by show (t.move.setRow (t.move.pl k) (erase1 (t.move.row (t.move.pl k)) k)).O.length = 0; rw [a2, this]; rfl)
    · show t.move.len - 1 = (t.move.setRow (t.move.pl k) (erase1 (t.move.row (t.move.pl k)) k)).total
      rw [m2.len]; omega
    · rw [c2, TM.get_set m2.core, r1, ← m3]
      by_cases hj : j = k
      · subst hj; simp
      · simp only [hj, if_false]
        split
        · rename_i hp; rw [TM.get_row, hp]
        · rfl
    · show t.move.len - 1 = _
      rw [ml, ← m3, hg]; simp
    · rw [← ml, m2.len]; omega
  | none =>
    refine ⟨m2, fun j => ?_, ?_, fun hn => ?_⟩
    · rw [m3]
      split
      · rename_i hj; rw [hj, ← m3, hg]
      · rfl
    · rw [ml, ← m3, hg]; simp
    · rw [← m3, hg] at hn; exact absurd rfl hn
theorem new_good (s : Int) : (TM.new s).Good ∧ ∀ k, (TM.new s).get k = none := by
  have hrow : ∀ q, (TM.new s).row q = [] := by
    rintro ⟨o, i⟩; unfold TM.row TM.new; cases o
    · exact getD_repl 8 i []
    · simp
  refine ⟨⟨⟨by simp [TM.new], by simp [TM.new], by simp [TM.new], Nat.le_refl _, fun q _ e he => (by rw [hrow] at he; cases he), fun q _ => by rw [hrow]; exact List.nodup_nil⟩, fun _ => rfl, by simp [TM.new, TM.total]⟩, fun k => by rw [TM.get_row, hrow]; rfl⟩

end Sx
end Go.Proofs.Ytkadlfadmjhahaa

/-
  Rows of entries compared: the runs of the machine.
-/
namespace Go.Proofs.Ytkadlfadmjhahaa
namespace Sx
open Go
set_option maxRecDepth 100000
set_option linter.unusedVariables false

structure PSm where
  xs : List Ent
  c : Nat
  ys : List Ent
  d : Nat
  hl : xs.length = ys.length
  hb : xs.length ≤ 1099511627776
def ISm (p : PSm) (i : Nat) : St V := ⟨[(0, .sl false 0 0 4 p.xs.length p.c), (1, .sl false 1 0 4 p.ys.length p.d), (5, .int .i64 (i : Int))], [(0, .ro Kd.ent p.xs), (1, .ro Kd.ent p.ys)], 2, 26, [0, 1, 2, 3, 4, 5, 6, 7]⟩
def RSm (p : PSm) : St V := ⟨[(4, .ff)], [(0, .ro Kd.ent p.xs), (1, .ro Kd.ent p.ys)], 2, 26, [0, 1, 2, 3, 4, 5, 6, 7]⟩
def LSm : LoopS V := loopS 2 (fun p : PSm => ISm p 0) (fun p _ => p.xs = p.ys) (fun p (_ : Unit) => ISm p p.xs.length) (fun p _ => p.xs ≠ p.ys) (fun p (_ : Unit) => RSm p)
noncomputable def cfgSm : Cfg Try.prog V := ⟨tab, kinds, fun _ => none, fun _ => none, fun _ _ => none⟩
noncomputable def cfgSm1 : Cfg Try.prog V := ⟨tab, kinds, fun _ => none, fun _ => none, fun f id => match f, id with | 18, 0 => some LSm | _, _ => none⟩
theorem bsame (p : PSm) (i : Nat) : runCode cfgSm 40 18 (loopOf Try.f18 0) (ISm p i) Out.stop = Out.ite (decide ((↑i : Int) < (↑p.xs.length : Int))) (Out.need (0 ≤ (↑i : Int) ∧ (↑i : Int) < (↑p.xs.length : Int)) (Out.need (0 + i < p.xs.length) (Out.need (0 ≤ (↑i : Int) ∧ (↑i : Int) < (↑p.ys.length : Int)) (Out.need (0 + i < p.ys.length) (Out.ite (!((p.xs.getD (0 + i) (V.enc Kd.ent).dflt).key == (p.ys.getD (0 + i) (V.enc Kd.ent).dflt).key && ((p.xs.getD (0 + i) (V.enc Kd.ent).dflt).value == (p.ys.getD (0 + i) (V.enc Kd.ent).dflt).value && ((p.xs.getD (0 + i) (V.enc Kd.ent).dflt).weight == (p.ys.getD (0 + i) (V.enc Kd.ent).dflt).weight && ((p.xs.getD (0 + i) (V.enc Kd.ent).dflt).node == (p.ys.getD (0 + i) (V.enc Kd.ent).dflt).node && true))))) (Out.stop EX.rt {env := [(4, .ff), (25, .bool !((p.xs.getD (0 + i) (V.enc Kd.ent).dflt).key == (p.ys.getD (0 + i) (V.enc Kd.ent).dflt).key && ((p.xs.getD (0 + i) (V.enc Kd.ent).dflt).value == (p.ys.getD (0 + i) (V.enc Kd.ent).dflt).value && ((p.xs.getD (0 + i) (V.enc Kd.ent).dflt).weight == (p.ys.getD (0 + i) (V.enc Kd.ent).dflt).weight && ((p.xs.getD (0 + i) (V.enc Kd.ent).dflt).node == (p.ys.getD (0 + i) (V.enc Kd.ent).dflt).node && true))))), (24, .agg [.int .i64 (p.ys.getD (0 + i) (V.enc Kd.ent).dflt).key, .int .i64 (p.ys.getD (0 + i) (V.enc Kd.ent).dflt).value, .int .i64 (p.ys.getD (0 + i) (V.enc Kd.ent).dflt).weight, .int .i64 (p.ys.getD (0 + i) (V.enc Kd.ent).dflt).node]), (23, .ptrR 1 (0 + i) 4 0), (22, .int .i64 (↑i : Int)), (21, .sl false 1 0 4 p.ys.length p.4), (20, .agg [.int .i64 (p.xs.getD (0 + i) (V.enc Kd.ent).dflt).key, .int .i64 (p.xs.getD (0 + i) (V.enc Kd.ent).dflt).value, .int .i64 (p.xs.getD (0 + i) (V.enc Kd.ent).dflt).weight, .int .i64 (p.xs.getD (0 + i) (V.enc Kd.ent).dflt).node]), (19, .ptrR 0 (0 + i) 4 0), (18, .int .i64 (↑i : Int)), (17, .sl false 0 0 4 p.xs.length p.2), (14, .bool (decide ((↑i : Int) < (↑p.xs.length : Int)))), (13, .int .i64 (↑p.xs.length : Int)), (12, .sl false 0 0 4 p.xs.length p.2), (11, .int .i64 (↑i : Int)), (0, .sl false 0 0 4 p.xs.length p.2), (1, .sl false 1 0 4 p.ys.length p.4), (5, .int .i64 (↑i : Int))], heap := [(0, .ro Kd.ent p.xs), (1, .ro Kd.ent p.ys)], nx := 2, nt := 26, tl := [0, 1, 2, 3, 4, 5, 6, 7] : St V }) (Out.stop EX.nx {env := [(5, .int .i64 (IntKind.i64.wrap ((↑i : Int) + 1))), (16, .int .i64 (IntKind.i64.wrap ((↑i : Int) + 1))), (15, .int .i64 (↑i : Int)), (25, .bool !((p.xs.getD (0 + i) (V.enc Kd.ent).dflt).key == (p.ys.getD (0 + i) (V.enc Kd.ent).dflt).key && ((p.xs.getD (0 + i) (V.enc Kd.ent).dflt).value == (p.ys.getD (0 + i) (V.enc Kd.ent).dflt).value && ((p.xs.getD (0 + i) (V.enc Kd.ent).dflt).weight == (p.ys.getD (0 + i) (V.enc Kd.ent).dflt).weight && ((p.xs.getD (0 + i) (V.enc Kd.ent).dflt).node == (p.ys.getD (0 + i) (V.enc Kd.ent).dflt).node && true))))), (24, .agg [.int .i64 (p.ys.getD (0 + i) (V.enc Kd.ent).dflt).key, .int .i64 (p.ys.getD (0 + i) (V.enc Kd.ent).dflt).value, .int .i64 (p.ys.getD (0 + i) (V.enc Kd.ent).dflt).weight, .int .i64 (p.ys.getD (0 + i) (V.enc Kd.ent).dflt).node]), (23, .ptrR 1 (0 + i) 4 0), (22, .int .i64 (↑i : Int)), (21, .sl false 1 0 4 p.ys.length p.4), (20, .agg [.int .i64 (p.xs.getD (0 + i) (V.enc Kd.ent).dflt).key, .int .i64 (p.xs.getD (0 + i) (V.enc Kd.ent).dflt).value, .int .i64 (p.xs.getD (0 + i) (V.enc Kd.ent).dflt).weight, .int .i64 (p.xs.getD (0 + i) (V.enc Kd.ent).dflt).node]), (19, .ptrR 0 (0 + i) 4 0), (18, .int .i64 (↑i : Int)), (17, .sl false 0 0 4 p.xs.length p.2), (14, .bool (decide ((↑i : Int) < (↑p.xs.length : Int)))), (13, .int .i64 (↑p.xs.length : Int)), (12, .sl false 0 0 4 p.xs.length p.2), (11, .int .i64 (↑i : Int)), (0, .sl false 0 0 4 p.xs.length p.2), (1, .sl false 1 0 4 p.ys.length p.4), (5, .int .i64 (↑i : Int))], heap := [(0, .ro Kd.ent p.xs), (1, .ro Kd.ent p.ys)], nx := 2, nt := 26, tl := [0, 1, 2, 3, 4, 5, 6, 7] : St V })))))) (Out.stop (EX.ex 0) {env := [(14, .bool (decide ((↑i : Int) < (↑p.xs.length : Int)))), (13, .int .i64 (↑p.xs.length : Int)), (12, .sl false 0 0 4 p.xs.length p.2), (11, .int .i64 (↑i : Int)), (0, .sl false 0 0 4 p.xs.length p.2), (1, .sl false 1 0 4 p.ys.length p.4), (5, .int .i64 (↑i : Int))], heap := [(0, .ro Kd.ent p.xs), (1, .ro Kd.ent p.ys)], nx := 2, nt := 26, tl := [0, 1, 2, 3, 4, 5, 6, 7] : St V }) := by kernel_rfl

theorem tsame (xs ys : List Ent) (c d : Nat) : runF cfgSm1 40 18 Try.f18 [.sl false 0 0 4 xs.length c, .sl false 1 0 4 ys.length d] [(0, .ro Kd.ent xs), (1, .ro Kd.ent ys)] 2 = Out.ite ((↑xs.length : Int) != (↑ys.length : Int)) (Out.fin .ff [(0, .ro Kd.ent xs), (1, .ro Kd.ent ys)] 2) (Out.need (LoopFor Try.prog 18 0 (loopOf Try.f18 0) LSm) (Out.ex PSm fun y => Out.ex (List (Nat × Nat)) fun y_1 => Out.need (2 ≤ 2 ∧ Wk 2 y_1 {env := [(5, .lit .i64 0), (10, .bool ((↑xs.length : Int) != (↑ys.length : Int))), (9, .int .i64 (↑ys.length : Int)), (8, .sl false 1 0 4 ys.length d), (7, .int .i64 (↑xs.length : Int)), (6, .sl false 0 0 4 xs.length c), (4, .ff), (0, .sl false 0 0 4 xs.length c), (1, .sl false 1 0 4 ys.length d)], heap := [(0, .ro Kd.ent xs), (1, .ro Kd.ent ys)], nx := 2, nt := 26, tl := [] : St V } ((fun p => ISm p 0) y)) ((Out.all Unit fun y_2 => Out.asm ((fun p x => p.xs = p.ys) y y_2) (Out.fin .tt [(0, .ro Kd.ent y.xs), (1, .ro Kd.ent y.ys)] 2)).both (Out.all Unit fun y_2 => Out.asm ((fun p x => p.xs ≠ p.ys) y y_2) (Out.fin .ff [(0, .ro Kd.ent y.xs), (1, .ro Kd.ent y.ys)] 2))))) := by kernel_rfl

end Sx
end Go.Proofs.Ytkadlfadmjhahaa

/-
  Rows of entries compared: the function tells whether they are the same.
-/
namespace Go.Proofs.Ytkadlfadmjhahaa
namespace Sx
open Go
set_option linter.unusedSimpArgs false
set_option linter.unusedVariables false

theorem cfgSm_ok : cfgSm.ok := ⟨tab_met, kinds_met, mixed_met, fun g fn h => (by cases h), fun g H h => (by cases h)⟩
theorem cfgSm1_ok : cfgSm1.ok := ⟨cfgSm_ok.τ, cfgSm_ok.κ, cfgSm_ok.mixed, cfgSm_ok.fns, cfgSm_ok.hooks⟩
theorem ent_ext (a b : Ent) : (a.key == b.key && (a.value == b.value && (a.weight == b.weight && (a.node == b.node && true)))) = true ↔ a = b := by
  obtain ⟨x1, x2, x3, x4⟩ := a
  obtain ⟨y1, y2, y3, y4⟩ := b
  simp

theorem lSm_ok : LoopOk Try.prog 0 (loopOf Try.f18 0) LSm := by
  refine loopS_ok (C := cfgSm) cfgSm_ok (f := 18) (n := 40) 2 ISm (fun p i => i ≤ p.xs.length ∧ p.xs.take i = p.ys.take i) (fun _ => 0) (fun p i => p.xs.length - i) (fun p _ => p.xs = p.ys) (fun p (_ : Unit) => ISm p p.xs.length) (fun p _ => p.xs ≠ p.ys) (fun p (_ : Unit) => RSm p) (fun p => ⟨Nat.zero_le _, rfl⟩) ?_
  intro p i ⟨hi, ht⟩
  rw [bsame]
  simp only [Out.holds, Nat.zero_add, decide_eq_true_eq, decide_eq_false_iff_not, Bool.not_eq_true', Bool.not_eq_false']
  have hb := p.hb
  have hl := p.hl
  have hx : ∀ (h : i < p.xs.length), p.xs.getD i (V.enc Kd.ent).dflt = p.xs[i] := fun h => by rw [List.getD_eq_getElem?_getD, List.getElem?_eq_getElem h]; rfl
  have hy : ∀ (h : i < p.ys.length), p.ys.getD i (V.enc Kd.ent).dflt = p.ys[i] := fun h => by rw [List.getD_eq_getElem?_getD, List.getElem?_eq_getElem h]; rfl
  refine ⟨fun h => ⟨by omega, by omega, by omega, by omega, fun h2 => ⟨(), [], ?_, ?_⟩, fun h2 => ⟨i + 1, [], ?_, ⟨by omega, ?_⟩, by omega⟩⟩, fun h => ⟨trivial, (), [], ?_, ?_⟩⟩
  · exact ⟨⟨AV.sub_same _, trivial⟩, ⟨.same _, .same _, trivial⟩, rfl, tl_ok rfl, ⟨.inr rfl, .inr rfl, trivial⟩, ⟨Nat.le_of_ble_eq_true rfl, rfl⟩⟩
  · intro hxy
    have := (ent_ext (p.xs.getD i (V.enc Kd.ent).dflt) (p.ys.getD i (V.enc Kd.ent).dflt)).2 (by rw [hxy])
    exact absurd (this.symm.trans h2) (by decide)
  · exact ⟨⟨AV.sub_same _, AV.sub_same _, AV.sub_int (wrap_nat (by omega)), trivial⟩, ⟨.same _, .same _, trivial⟩, rfl, tl_ok rfl, ⟨.inr rfl, .inr rfl, trivial⟩, ⟨Nat.le_of_ble_eq_true rfl, rfl⟩⟩
  · have h1 : i < p.xs.length := by omega
    have h3 : i < p.ys.length := by omega
    rw [List.take_succ_eq_append_getElem h1, List.take_succ_eq_append_getElem h3, ht, ← hx h1, ← hy h3]
    exact congrArg (fun z => List.take i p.ys ++ [z]) ((ent_ext _ _).1 h2)
  · exact ⟨⟨AV.sub_same _, AV.sub_same _, AV.sub_int (by omega), trivial⟩, ⟨.same _, .same _, trivial⟩, rfl, tl_ok rfl, ⟨.inr rfl, .inr rfl, trivial⟩, ⟨Nat.le_of_ble_eq_true rfl, rfl⟩⟩
  · have e1 : p.xs.take i = p.xs := List.take_of_length_le (by omega)
    have e2 : p.ys.take i = p.ys := List.take_of_length_le (by omega)
    rw [← e1, ht, e2]
def runSame : RunFree V := fun ar K => match ar with
  | [.rows .ent xs c, .rows .ent ys d] => .need (xs.length ≤ 1099511627776) (K (.bool (decide (xs = ys))) [])
  | _ => .bad 500
theorem hSame : HookOk Try.prog 18 (hookFree [.rows Kd.ent, .rows Kd.ent] runSame) := by
  refine free_hook (C := cfgSm1) cfgSm1_ok (n := 40) (fn := Try.f18) ⟨by kernel_rfl, by kernel_rfl⟩ (by kernel_rfl) ?_
  intro M ar K0 H
  unfold runSame at H
  split at H
  · rename_i xs c ys d
    obtain ⟨hb, H⟩ := H
    refine ⟨show 2 ≤ _ by decide +kernel, ?_⟩
    show (runF cfgSm1 40 18 Try.f18 [.sl false 0 0 4 xs.length c, .sl false 1 0 4 ys.length d] [(0, .ro Kd.ent xs), (1, .ro Kd.ent ys)] 2).holds _
    rw [tsame]
    refine ⟨fun h => ⟨_, _, H, endPlain ?_ rfl⟩, fun h => ?_⟩
    · refine fun r v hv => ?_
      rw [show decide (xs = ys) = false from decide_eq_false (fun e => by subst e; simp at h)]; exact hv
    · have hl : xs.length = ys.length := by
        have h' : (xs.length : Int) = (ys.length : Int) := by simpa using h
        omega
      refine ⟨lSm_ok, ⟨xs, c, ys, d, hl, hb⟩, [], ⟨Nat.le_refl _, ?_⟩, fun _ he => ⟨_, _, H, endPlain ?_ rfl⟩, fun _ he => ⟨_, _, H, endPlain ?_ rfl⟩⟩
      · exact ⟨⟨AV.sub_same _, AV.sub_same _, AV.sub_lit', trivial⟩, ⟨.same _, .same _, trivial⟩, rfl, tl_ok rfl, ⟨.inr rfl, .inr rfl, trivial⟩, ⟨Nat.le_of_ble_eq_true rfl, rfl⟩⟩
      · rw [show decide (xs = ys) = true from decide_eq_true he]; exact fun _ _ h => h
      · rw [show decide (xs = ys) = false from decide_eq_false he]; exact fun _ _ h => h
  · exact H.elim

end Sx
end Go.Proofs.Ytkadlfadmjhahaa

/-
  Rows that are kept in a bag: by their blocks' own numbers; a row lent out of it for a call.
-/
namespace Go.Proofs.Ytkadlfadmjhahaa
namespace Sx
open Go
set_option linter.unusedSimpArgs false
set_option linter.unusedVariables false

section
variable {P : Program}

/-- An empty bag. -/
def newBag : GhostS V := fun h nx K => K ((nx, .obj Bag.nil) :: h) (nx + 1) [nx]
/-- The row that a function tells is kept in the bag. -/
def hookKeep (bid : Nat) (H : HookS V) : HookS V := fun args h nx K => H args h nx fun v h2 nx2 T2 => match v with
  | .nilS => K (.rs none 0 0) h2 nx2 T2
  | .sl _ id 0 _ len cap => (match h2.get id, h2.get bid with
    | some (.arr T' k' xs sp), some (.obj m) => bif Nat.beq id bid then .bad 560 else
        .need (len = xs.length ∧ cap = xs.length + sp ∧ 0 < xs.length + sp) (.all Nat fun n => .asm (m n = none) (K (.rs (some (n, 0)) len cap) ((h2.del id).set bid (.obj (m.put n ⟨T', k', xs, sp⟩))) nx2 ([id, bid] ++ T2)))
    | _, _ => .bad 561)
  | _ => .bad 562
def Bag.less (m : Bag) (o : Option (Nat × Nat)) : Bag := match o with
  | none => m
  | some q => m.rem q.1
/-- A row of the bag is lent to a function that only reads it. -/
def hookLend (bid T : Nat) (k : Kd) (H : HookS V) : HookS V := fun args h nx K => match args with
  | [a0, .rs o len cap] => (match h.get bid with
    | some (.obj m) => .ex (List (kEl k) × Nat) fun q => .need ((o = none ∧ q = ([], 0) ∧ len = 0 ∧ cap = 0) ∨ ∃ n, o = some (n, 0) ∧ m n = some ⟨T, k, q.1, q.2⟩ ∧ len = q.1.length ∧ cap = q.1.length + q.2 ∧ 0 < cap)
        (H [a0, .sl false nx 0 (kEnc k).w q.1.length (q.1.length + q.2)] ((nx, .arr T k q.1 q.2) :: h.set bid (.obj (Bag.less m o))) (nx + 1) fun v h2 nx2 T2 =>
          match h2.get nx, h2.get bid with
          | some (.arr T' k' xs' sp'), some (.obj m') => bif Nat.beq nx bid then .bad 565 else
              .need ((⟨T', k', xs', sp'⟩ : BRow) = ⟨T, k, q.1, q.2⟩ ∧ m' = Bag.less m o) (K v ((h2.del nx).set bid (.obj m)) nx2 ([nx, bid] ++ T2))
          | _, _ => .bad 566)
    | _ => .bad 563)
  | _ => .bad 564
end
end Sx
end Go.Proofs.Ytkadlfadmjhahaa

