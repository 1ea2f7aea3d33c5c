/-
  The table of types of this seat, out of its translation, and that the program has these types.
-/
import Derived.Test.YtjackepkphdibaaSxQ
import Derived.Test.YtjackepkphdibaaRows
namespace Go.Proofs.Ytjackepkphdibaa
namespace Sx
open Go

def ifaceOf (P : Program) (t : Nat) : Array (String × TypeId) := match P.underlying t with | some (.interface ms) => ms | _ => #[]
def funcOf (P : Program) (t : Nat) : Array TypeId × Array TypeId × Bool := match P.underlying t with | some (.func a b c) => (a, b, c) | _ => (#[], #[], false)
theorem names_ok {P : Program} {t : Nat} (h : P.underlying t = some (.struct (P.fieldsOf t))) (k : ((P.fieldsOf t).toList.all fun f => !(f.name == "_")) = true) :
    ∀ fields, P.underlying t = some (.struct fields) → ∀ f ∈ fields.toList, f.name ≠ "_" := by
  intro fields hf f hm
  rw [h] at hf; cases hf
  have := List.all_eq_true.1 k f hm
  simpa using this

def RowsMet (P : Program) : Nat → List (Option TyRow) → Prop
  | _, [] => True
  | k, none :: l => RowsMet P (k + 1) l
  | k, some R :: l => R.met P k ∧ RowsMet P (k + 1) l
theorem rowsMet_get {P : Program} : ∀ (l : List (Option TyRow)) (k t : Nat) (R : TyRow), RowsMet P k l → l[t]?.join = some R → R.met P (k + t)
  | [], _, _, _, _, h => by simp at h
  | none :: l, k, t, R, hm, h => by
    cases t with
    | zero => simp at h
    | succ t => have := rowsMet_get l (k + 1) t R hm (by simpa using h); rwa [show k + 1 + t = k + (t + 1) by omega] at this
  | some R' :: l, k, t, R, hm, h => by
    cases t with
    | zero => simp at h; subst h; exact hm.1
    | succ t => have := rowsMet_get l (k + 1) t R hm.2 (by simpa using h); rwa [show k + 1 + t = k + (t + 1) by omega] at this

-- func()
def ty1 : TyRow := ⟨.func, 1, 8, [.nilF], false⟩
theorem ty1_met : ty1.met Try.prog 1 := ⟨⟨(funcOf Try.prog 1).1, (funcOf Try.prog 1).2.1, (funcOf Try.prog 1).2.2, by kernel_rfl⟩, ⟨(Try.prog.info? 1).getD default, .nilFunc, by kernel_rfl, by kernel_rfl, by kernel_rfl, by kernel_rfl, rfl, relL_cellAV _ [.nilFunc], relL_cellAV _ [.nilFunc]⟩, fun h => by cases h⟩
-- int64
def ty2 : TyRow := ⟨.int .i64, 1, 8, [.lit .i64 0], false⟩
theorem ty2_met : ty2.met Try.prog 2 := ⟨(show Try.prog.underlying 2 = some (.int .i64) by kernel_rfl), ⟨(Try.prog.info? 2).getD default, (.int .i64 0), by kernel_rfl, by kernel_rfl, by kernel_rfl, by kernel_rfl, rfl, relL_cellAV _ [(.int .i64 0)], relL_cellAV _ [(.int .i64 0)]⟩, fun h => by cases h⟩
-- int
def ty3 : TyRow := ⟨.int .i64, 1, 8, [.lit .i64 0], false⟩
theorem ty3_met : ty3.met Try.prog 3 := ⟨(show Try.prog.underlying 3 = some (.int .i64) by kernel_rfl), ⟨(Try.prog.info? 3).getD default, (.int .i64 0), by kernel_rfl, by kernel_rfl, by kernel_rfl, by kernel_rfl, rfl, relL_cellAV _ [(.int .i64 0)], relL_cellAV _ [(.int .i64 0)]⟩, fun h => by cases h⟩
-- bool
def ty4 : TyRow := ⟨.bool, 1, 1, [.ff], false⟩
theorem ty4_met : ty4.met Try.prog 4 := ⟨(show Try.prog.underlying 4 = some (.bool) by kernel_rfl), ⟨(Try.prog.info? 4).getD default, (.bool false), by kernel_rfl, by kernel_rfl, by kernel_rfl, by kernel_rfl, rfl, relL_cellAV _ [(.bool false)], relL_cellAV _ [(.bool false)]⟩, fun h => by cases h⟩
-- uint8
def ty5 : TyRow := ⟨.int .u8, 1, 1, [.lit .u8 0], false⟩
theorem ty5_met : ty5.met Try.prog 5 := ⟨(show Try.prog.underlying 5 = some (.int .u8) by kernel_rfl), ⟨(Try.prog.info? 5).getD default, (.int .u8 0), by kernel_rfl, by kernel_rfl, by kernel_rfl, by kernel_rfl, rfl, relL_cellAV _ [(.int .u8 0)], relL_cellAV _ [(.int .u8 0)]⟩, fun h => by cases h⟩
-- abi.BoundsErrorCode
def ty6 : TyRow := ⟨.int .u8, 1, 1, [.lit .u8 0], false⟩
theorem ty6_met : ty6.met Try.prog 6 := ⟨(show Try.prog.underlying 6 = some (.int .u8) by kernel_rfl), ⟨(Try.prog.info? 6).getD default, (.int .u8 0), by kernel_rfl, by kernel_rfl, by kernel_rfl, by kernel_rfl, rfl, relL_cellAV _ [(.int .u8 0)], relL_cellAV _ [(.int .u8 0)]⟩, fun h => by cases h⟩
-- struct { x int64; y int; signed bool; code abi.BoundsErrorCode }
def ty7 : TyRow := ⟨.struct [(0, 2), (1, 3), (2, 4), (3, 6)], 4, 24, [.lit .i64 0, .lit .i64 0, .ff, .lit .u8 0], true⟩
theorem ty7_met : ty7.met Try.prog 7 := ⟨⟨Try.prog.fieldsOf 7, by kernel_rfl, by kernel_rfl⟩, ⟨(Try.prog.info? 7).getD default, (.agg #[(.int .i64 0), (.int .i64 0), (.bool false), (.int .u8 0)]), by kernel_rfl, by kernel_rfl, by kernel_rfl, by kernel_rfl, rfl, ⟨[(.int .i64 0), (.int .i64 0), (.bool false), (.int .u8 0)], relL_cellAV _ [(.int .i64 0), (.int .i64 0), (.bool false), (.int .u8 0)], rfl⟩, relL_cellAV _ [(.int .i64 0), (.int .i64 0), (.bool false), (.int .u8 0)]⟩, fun _ => ⟨by kernel_rfl, by kernel_rfl, names_ok (by kernel_rfl) (by kernel_rfl)⟩⟩
-- runtime.boundsError
def ty8 : TyRow := ⟨.struct [(0, 2), (1, 3), (2, 4), (3, 6)], 4, 24, [.lit .i64 0, .lit .i64 0, .ff, .lit .u8 0], true⟩
theorem ty8_met : ty8.met Try.prog 8 := ⟨⟨Try.prog.fieldsOf 8, by kernel_rfl, by kernel_rfl⟩, ⟨(Try.prog.info? 8).getD default, (.agg #[(.int .i64 0), (.int .i64 0), (.bool false), (.int .u8 0)]), by kernel_rfl, by kernel_rfl, by kernel_rfl, by kernel_rfl, rfl, ⟨[(.int .i64 0), (.int .i64 0), (.bool false), (.int .u8 0)], relL_cellAV _ [(.int .i64 0), (.int .i64 0), (.bool false), (.int .u8 0)], rfl⟩, relL_cellAV _ [(.int .i64 0), (.int .i64 0), (.bool false), (.int .u8 0)]⟩, fun _ => ⟨by kernel_rfl, by kernel_rfl, names_ok (by kernel_rfl) (by kernel_rfl)⟩⟩
-- string
def ty9 : TyRow := ⟨.str, 1, 16, [.raw (.string (ByteArray.mk #[]))], false⟩
theorem ty9_met : ty9.met Try.prog 9 := ⟨(show Try.prog.underlying 9 = some (.string) by kernel_rfl), ⟨(Try.prog.info? 9).getD default, (.string (ByteArray.mk #[])), by kernel_rfl, by kernel_rfl, by kernel_rfl, by kernel_rfl, rfl, relL_cellAV _ [(.string (ByteArray.mk #[]))], relL_cellAV _ [(.string (ByteArray.mk #[]))]⟩, fun h => by cases h⟩
-- runtime.errorString
def ty10 : TyRow := ⟨.str, 1, 16, [.raw (.string (ByteArray.mk #[]))], false⟩
theorem ty10_met : ty10.met Try.prog 10 := ⟨(show Try.prog.underlying 10 = some (.string) by kernel_rfl), ⟨(Try.prog.info? 10).getD default, (.string (ByteArray.mk #[])), by kernel_rfl, by kernel_rfl, by kernel_rfl, by kernel_rfl, rfl, relL_cellAV _ [(.string (ByteArray.mk #[]))], relL_cellAV _ [(.string (ByteArray.mk #[]))]⟩, fun h => by cases h⟩
-- runtime.plainError
def ty11 : TyRow := ⟨.str, 1, 16, [.raw (.string (ByteArray.mk #[]))], false⟩
theorem ty11_met : ty11.met Try.prog 11 := ⟨(show Try.prog.underlying 11 = some (.string) by kernel_rfl), ⟨(Try.prog.info? 11).getD default, (.string (ByteArray.mk #[])), by kernel_rfl, by kernel_rfl, by kernel_rfl, by kernel_rfl, rfl, relL_cellAV _ [(.string (ByteArray.mk #[]))], relL_cellAV _ [(.string (ByteArray.mk #[]))]⟩, fun h => by cases h⟩
-- uintptr
def ty12 : TyRow := ⟨.int .u64, 1, 8, [.lit .u64 0], false⟩
theorem ty12_met : ty12.met Try.prog 12 := ⟨(show Try.prog.underlying 12 = some (.int .u64) by kernel_rfl), ⟨(Try.prog.info? 12).getD default, (.int .u64 0), by kernel_rfl, by kernel_rfl, by kernel_rfl, by kernel_rfl, rfl, relL_cellAV _ [(.int .u64 0)], relL_cellAV _ [(.int .u64 0)]⟩, fun h => by cases h⟩
-- struct { msg string; addr uintptr }
def ty13 : TyRow := ⟨.struct [(0, 9), (1, 12)], 2, 24, [.raw (.string (ByteArray.mk #[])), .lit .u64 0], false⟩
theorem ty13_met : ty13.met Try.prog 13 := ⟨⟨Try.prog.fieldsOf 13, by kernel_rfl, by kernel_rfl⟩, ⟨(Try.prog.info? 13).getD default, (.agg #[(.string (ByteArray.mk #[])), (.int .u64 0)]), by kernel_rfl, by kernel_rfl, by kernel_rfl, by kernel_rfl, rfl, ⟨[(.string (ByteArray.mk #[])), (.int .u64 0)], relL_cellAV _ [(.string (ByteArray.mk #[])), (.int .u64 0)], rfl⟩, relL_cellAV _ [(.string (ByteArray.mk #[])), (.int .u64 0)]⟩, fun h => by cases h⟩
-- runtime.errorAddressString
def ty14 : TyRow := ⟨.struct [(0, 9), (1, 12)], 2, 24, [.raw (.string (ByteArray.mk #[])), .lit .u64 0], false⟩
theorem ty14_met : ty14.met Try.prog 14 := ⟨⟨Try.prog.fieldsOf 14, by kernel_rfl, by kernel_rfl⟩, ⟨(Try.prog.info? 14).getD default, (.agg #[(.string (ByteArray.mk #[])), (.int .u64 0)]), by kernel_rfl, by kernel_rfl, by kernel_rfl, by kernel_rfl, rfl, ⟨[(.string (ByteArray.mk #[])), (.int .u64 0)], relL_cellAV _ [(.string (ByteArray.mk #[])), (.int .u64 0)], rfl⟩, relL_cellAV _ [(.string (ByteArray.mk #[])), (.int .u64 0)]⟩, fun h => by cases h⟩
-- *runtime.TypeAssertionError
def ty15 : TyRow := ⟨.ptr 70, 1, 8, [.nilP], false⟩
theorem ty15_met : ty15.met Try.prog 15 := ⟨(show Try.prog.underlying 15 = some (.pointer 70) by kernel_rfl), ⟨(Try.prog.info? 15).getD default, (.pointer none), by kernel_rfl, by kernel_rfl, by kernel_rfl, by kernel_rfl, rfl, relL_cellAV _ [(.pointer none)], relL_cellAV _ [(.pointer none)]⟩, fun h => by cases h⟩
-- *runtime.PanicNilError
def ty16 : TyRow := ⟨.ptr 73, 1, 8, [.nilP], false⟩
theorem ty16_met : ty16.met Try.prog 16 := ⟨(show Try.prog.underlying 16 = some (.pointer 73) by kernel_rfl), ⟨(Try.prog.info? 16).getD default, (.pointer none), by kernel_rfl, by kernel_rfl, by kernel_rfl, by kernel_rfl, rfl, relL_cellAV _ [(.pointer none)], relL_cellAV _ [(.pointer none)]⟩, fun h => by cases h⟩
-- *abi.Type
def ty17 : TyRow := ⟨.ptr 83, 1, 8, [.nilP], false⟩
theorem ty17_met : ty17.met Try.prog 17 := ⟨(show Try.prog.underlying 17 = some (.pointer 83) by kernel_rfl), ⟨(Try.prog.info? 17).getD default, (.pointer none), by kernel_rfl, by kernel_rfl, by kernel_rfl, by kernel_rfl, rfl, relL_cellAV _ [(.pointer none)], relL_cellAV _ [(.pointer none)]⟩, fun h => by cases h⟩
-- struct { typ *abi.Type }
def ty18 : TyRow := ⟨.struct [(0, 17)], 1, 8, [.nilP], false⟩
theorem ty18_met : ty18.met Try.prog 18 := ⟨⟨Try.prog.fieldsOf 18, by kernel_rfl, by kernel_rfl⟩, ⟨(Try.prog.info? 18).getD default, (.agg #[(.pointer none)]), by kernel_rfl, by kernel_rfl, by kernel_rfl, by kernel_rfl, rfl, ⟨[(.pointer none)], relL_cellAV _ [(.pointer none)], rfl⟩, relL_cellAV _ [(.pointer none)]⟩, fun h => by cases h⟩
-- maps.unhashableTypeError
def ty19 : TyRow := ⟨.struct [(0, 17)], 1, 8, [.nilP], false⟩
theorem ty19_met : ty19.met Try.prog 19 := ⟨⟨Try.prog.fieldsOf 19, by kernel_rfl, by kernel_rfl⟩, ⟨(Try.prog.info? 19).getD default, (.agg #[(.pointer none)]), by kernel_rfl, by kernel_rfl, by kernel_rfl, by kernel_rfl, rfl, ⟨[(.pointer none)], relL_cellAV _ [(.pointer none)], rfl⟩, relL_cellAV _ [(.pointer none)]⟩, fun h => by cases h⟩
-- interface {}
def ty20 : TyRow := ⟨.iface, 1, 16, [.nilI], false⟩
theorem ty20_met : ty20.met Try.prog 20 := ⟨⟨ifaceOf Try.prog 20, by kernel_rfl⟩, ⟨(Try.prog.info? 20).getD default, .nilIface, by kernel_rfl, by kernel_rfl, by kernel_rfl, by kernel_rfl, rfl, relL_cellAV _ [.nilIface], relL_cellAV _ [.nilIface]⟩, fun h => by cases h⟩
-- int32
def ty21 : TyRow := ⟨.int .i32, 1, 4, [.lit .i32 0], false⟩
theorem ty21_met : ty21.met Try.prog 21 := ⟨(show Try.prog.underlying 21 = some (.int .i32) by kernel_rfl), ⟨(Try.prog.info? 21).getD default, (.int .i32 0), by kernel_rfl, by kernel_rfl, by kernel_rfl, by kernel_rfl, rfl, relL_cellAV _ [(.int .i32 0)], relL_cellAV _ [(.int .i32 0)]⟩, fun h => by cases h⟩
-- []int
def ty22 : TyRow := ⟨.slice 3, 1, 24, [.nilS], false⟩
theorem ty22_met : ty22.met Try.prog 22 := ⟨(show Try.prog.underlying 22 = some (.slice 3) by kernel_rfl), ⟨(Try.prog.info? 22).getD default, (.slice none 0 0), by kernel_rfl, by kernel_rfl, by kernel_rfl, by kernel_rfl, rfl, relL_cellAV _ [(.slice none 0 0)], relL_cellAV _ [(.slice none 0 0)]⟩, fun h => by cases h⟩
-- func() bool
def ty23 : TyRow := ⟨.func, 1, 8, [.nilF], false⟩
theorem ty23_met : ty23.met Try.prog 23 := ⟨⟨(funcOf Try.prog 23).1, (funcOf Try.prog 23).2.1, (funcOf Try.prog 23).2.2, by kernel_rfl⟩, ⟨(Try.prog.info? 23).getD default, .nilFunc, by kernel_rfl, by kernel_rfl, by kernel_rfl, by kernel_rfl, rfl, relL_cellAV _ [.nilFunc], relL_cellAV _ [.nilFunc]⟩, fun h => by cases h⟩
-- *cells.Cells
def ty24 : TyRow := ⟨.ptr 56, 1, 8, [.nilP], false⟩
theorem ty24_met : ty24.met Try.prog 24 := ⟨(show Try.prog.underlying 24 = some (.pointer 56) by kernel_rfl), ⟨(Try.prog.info? 24).getD default, (.pointer none), by kernel_rfl, by kernel_rfl, by kernel_rfl, by kernel_rfl, rfl, relL_cellAV _ [(.pointer none)], relL_cellAV _ [(.pointer none)]⟩, fun h => by cases h⟩
-- func(int, int) *cells.Cells
def ty25 : TyRow := ⟨.func, 1, 8, [.nilF], false⟩
theorem ty25_met : ty25.met Try.prog 25 := ⟨⟨(funcOf Try.prog 25).1, (funcOf Try.prog 25).2.1, (funcOf Try.prog 25).2.2, by kernel_rfl⟩, ⟨(Try.prog.info? 25).getD default, .nilFunc, by kernel_rfl, by kernel_rfl, by kernel_rfl, by kernel_rfl, rfl, relL_cellAV _ [.nilFunc], relL_cellAV _ [.nilFunc]⟩, fun h => by cases h⟩
-- api.Errno
def ty26 : TyRow := ⟨.int .i64, 1, 8, [.lit .i64 0], false⟩
theorem ty26_met : ty26.met Try.prog 26 := ⟨(show Try.prog.underlying 26 = some (.int .i64) by kernel_rfl), ⟨(Try.prog.info? 26).getD default, (.int .i64 0), by kernel_rfl, by kernel_rfl, by kernel_rfl, by kernel_rfl, rfl, relL_cellAV _ [(.int .i64 0)], relL_cellAV _ [(.int .i64 0)]⟩, fun h => by cases h⟩
-- func(int, int, int, int) (bool, api.Errno)
def ty28 : TyRow := ⟨.func, 1, 8, [.nilF], false⟩
theorem ty28_met : ty28.met Try.prog 28 := ⟨⟨(funcOf Try.prog 28).1, (funcOf Try.prog 28).2.1, (funcOf Try.prog 28).2.2, by kernel_rfl⟩, ⟨(Try.prog.info? 28).getD default, .nilFunc, by kernel_rfl, by kernel_rfl, by kernel_rfl, by kernel_rfl, rfl, relL_cellAV _ [.nilFunc], relL_cellAV _ [.nilFunc]⟩, fun h => by cases h⟩
-- func(int, int) api.Errno
def ty29 : TyRow := ⟨.func, 1, 8, [.nilF], false⟩
theorem ty29_met : ty29.met Try.prog 29 := ⟨⟨(funcOf Try.prog 29).1, (funcOf Try.prog 29).2.1, (funcOf Try.prog 29).2.2, by kernel_rfl⟩, ⟨(Try.prog.info? 29).getD default, .nilFunc, by kernel_rfl, by kernel_rfl, by kernel_rfl, by kernel_rfl, rfl, relL_cellAV _ [.nilFunc], relL_cellAV _ [.nilFunc]⟩, fun h => by cases h⟩
-- func(int) []int
def ty30 : TyRow := ⟨.func, 1, 8, [.nilF], false⟩
theorem ty30_met : ty30.met Try.prog 30 := ⟨⟨(funcOf Try.prog 30).1, (funcOf Try.prog 30).2.1, (funcOf Try.prog 30).2.2, by kernel_rfl⟩, ⟨(Try.prog.info? 30).getD default, .nilFunc, by kernel_rfl, by kernel_rfl, by kernel_rfl, by kernel_rfl, rfl, relL_cellAV _ [.nilFunc], relL_cellAV _ [.nilFunc]⟩, fun h => by cases h⟩
-- []api.Deed
def ty31 : TyRow := ⟨.slice 45, 1, 24, [.nilS], false⟩
theorem ty31_met : ty31.met Try.prog 31 := ⟨(show Try.prog.underlying 31 = some (.slice 45) by kernel_rfl), ⟨(Try.prog.info? 31).getD default, (.slice none 0 0), by kernel_rfl, by kernel_rfl, by kernel_rfl, by kernel_rfl, rfl, relL_cellAV _ [(.slice none 0 0)], relL_cellAV _ [(.slice none 0 0)]⟩, fun h => by cases h⟩
-- func() []api.Deed
def ty32 : TyRow := ⟨.func, 1, 8, [.nilF], false⟩
theorem ty32_met : ty32.met Try.prog 32 := ⟨⟨(funcOf Try.prog 32).1, (funcOf Try.prog 32).2.1, (funcOf Try.prog 32).2.2, by kernel_rfl⟩, ⟨(Try.prog.info? 32).getD default, .nilFunc, by kernel_rfl, by kernel_rfl, by kernel_rfl, by kernel_rfl, rfl, relL_cellAV _ [.nilFunc], relL_cellAV _ [.nilFunc]⟩, fun h => by cases h⟩
-- func([]int, int) bool
def ty33 : TyRow := ⟨.func, 1, 8, [.nilF], false⟩
theorem ty33_met : ty33.met Try.prog 33 := ⟨⟨(funcOf Try.prog 33).1, (funcOf Try.prog 33).2.1, (funcOf Try.prog 33).2.2, by kernel_rfl⟩, ⟨(Try.prog.info? 33).getD default, .nilFunc, by kernel_rfl, by kernel_rfl, by kernel_rfl, by kernel_rfl, rfl, relL_cellAV _ [.nilFunc], relL_cellAV _ [.nilFunc]⟩, fun h => by cases h⟩
-- [][5]int
def ty34 : TyRow := ⟨.slice 38, 1, 24, [.nilS], false⟩
theorem ty34_met : ty34.met Try.prog 34 := ⟨(show Try.prog.underlying 34 = some (.slice 38) by kernel_rfl), ⟨(Try.prog.info? 34).getD default, (.slice none 0 0), by kernel_rfl, by kernel_rfl, by kernel_rfl, by kernel_rfl, rfl, relL_cellAV _ [(.slice none 0 0)], relL_cellAV _ [(.slice none 0 0)]⟩, fun h => by cases h⟩
-- *pantryref19.Cells
def ty35 : TyRow := ⟨.ptr 43, 1, 8, [.nilP], false⟩
theorem ty35_met : ty35.met Try.prog 35 := ⟨(show Try.prog.underlying 35 = some (.pointer 43) by kernel_rfl), ⟨(Try.prog.info? 35).getD default, (.pointer none), by kernel_rfl, by kernel_rfl, by kernel_rfl, by kernel_rfl, rfl, relL_cellAV _ [(.pointer none)], relL_cellAV _ [(.pointer none)]⟩, fun h => by cases h⟩
-- func(int, int) *pantryref19.Cells
def ty36 : TyRow := ⟨.func, 1, 8, [.nilF], false⟩
theorem ty36_met : ty36.met Try.prog 36 := ⟨⟨(funcOf Try.prog 36).1, (funcOf Try.prog 36).2.1, (funcOf Try.prog 36).2.2, by kernel_rfl⟩, ⟨(Try.prog.info? 36).getD default, .nilFunc, by kernel_rfl, by kernel_rfl, by kernel_rfl, by kernel_rfl, rfl, relL_cellAV _ [.nilFunc], relL_cellAV _ [.nilFunc]⟩, fun h => by cases h⟩
-- func(*cells.Cells, *pantryref19.Cells, [5]int) bool
def ty37 : TyRow := ⟨.func, 1, 8, [.nilF], false⟩
theorem ty37_met : ty37.met Try.prog 37 := ⟨⟨(funcOf Try.prog 37).1, (funcOf Try.prog 37).2.1, (funcOf Try.prog 37).2.2, by kernel_rfl⟩, ⟨(Try.prog.info? 37).getD default, .nilFunc, by kernel_rfl, by kernel_rfl, by kernel_rfl, by kernel_rfl, rfl, relL_cellAV _ [.nilFunc], relL_cellAV _ [.nilFunc]⟩, fun h => by cases h⟩
-- [5]int
def ty38 : TyRow := ⟨.array 5 3, 5, 40, [.lit .i64 0, .lit .i64 0, .lit .i64 0, .lit .i64 0, .lit .i64 0], false⟩
theorem ty38_met : ty38.met Try.prog 38 := ⟨(show Try.prog.underlying 38 = some (.array 5 3) by kernel_rfl), ⟨(Try.prog.info? 38).getD default, (.agg #[(.int .i64 0), (.int .i64 0), (.int .i64 0), (.int .i64 0), (.int .i64 0)]), by kernel_rfl, by kernel_rfl, by kernel_rfl, by kernel_rfl, rfl, ⟨[(.int .i64 0), (.int .i64 0), (.int .i64 0), (.int .i64 0), (.int .i64 0)], relL_cellAV _ [(.int .i64 0), (.int .i64 0), (.int .i64 0), (.int .i64 0), (.int .i64 0)], rfl⟩, relL_cellAV _ [(.int .i64 0), (.int .i64 0), (.int .i64 0), (.int .i64 0), (.int .i64 0)]⟩, fun h => by cases h⟩
-- func(int) int
def ty39 : TyRow := ⟨.func, 1, 8, [.nilF], false⟩
theorem ty39_met : ty39.met Try.prog 39 := ⟨⟨(funcOf Try.prog 39).1, (funcOf Try.prog 39).2.1, (funcOf Try.prog 39).2.2, by kernel_rfl⟩, ⟨(Try.prog.info? 39).getD default, .nilFunc, by kernel_rfl, by kernel_rfl, by kernel_rfl, by kernel_rfl, rfl, relL_cellAV _ [.nilFunc], relL_cellAV _ [.nilFunc]⟩, fun h => by cases h⟩
-- func([]api.Deed, []api.Deed) bool
def ty40 : TyRow := ⟨.func, 1, 8, [.nilF], false⟩
theorem ty40_met : ty40.met Try.prog 40 := ⟨⟨(funcOf Try.prog 40).1, (funcOf Try.prog 40).2.1, (funcOf Try.prog 40).2.2, by kernel_rfl⟩, ⟨(Try.prog.info? 40).getD default, .nilFunc, by kernel_rfl, by kernel_rfl, by kernel_rfl, by kernel_rfl, rfl, relL_cellAV _ [.nilFunc], relL_cellAV _ [.nilFunc]⟩, fun h => by cases h⟩
-- []bool
def ty41 : TyRow := ⟨.slice 4, 1, 24, [.nilS], false⟩
theorem ty41_met : ty41.met Try.prog 41 := ⟨(show Try.prog.underlying 41 = some (.slice 4) by kernel_rfl), ⟨(Try.prog.info? 41).getD default, (.slice none 0 0), by kernel_rfl, by kernel_rfl, by kernel_rfl, by kernel_rfl, rfl, relL_cellAV _ [(.slice none 0 0)], relL_cellAV _ [(.slice none 0 0)]⟩, fun h => by cases h⟩
-- struct { W []int; H []bool; T []int; L []api.Deed }
def ty42 : TyRow := ⟨.struct [(0, 22), (1, 41), (2, 22), (3, 31)], 4, 96, [.nilS, .nilS, .nilS, .nilS], false⟩
theorem ty42_met : ty42.met Try.prog 42 := ⟨⟨Try.prog.fieldsOf 42, by kernel_rfl, by kernel_rfl⟩, ⟨(Try.prog.info? 42).getD default, (.agg #[(.slice none 0 0), (.slice none 0 0), (.slice none 0 0), (.slice none 0 0)]), by kernel_rfl, by kernel_rfl, by kernel_rfl, by kernel_rfl, rfl, ⟨[(.slice none 0 0), (.slice none 0 0), (.slice none 0 0), (.slice none 0 0)], relL_cellAV _ [(.slice none 0 0), (.slice none 0 0), (.slice none 0 0), (.slice none 0 0)], rfl⟩, relL_cellAV _ [(.slice none 0 0), (.slice none 0 0), (.slice none 0 0), (.slice none 0 0)]⟩, fun h => by cases h⟩
-- pantryref19.Cells
def ty43 : TyRow := ⟨.struct [(0, 22), (1, 41), (2, 22), (3, 31)], 4, 96, [.nilS, .nilS, .nilS, .nilS], false⟩
theorem ty43_met : ty43.met Try.prog 43 := ⟨⟨Try.prog.fieldsOf 43, by kernel_rfl, by kernel_rfl⟩, ⟨(Try.prog.info? 43).getD default, (.agg #[(.slice none 0 0), (.slice none 0 0), (.slice none 0 0), (.slice none 0 0)]), by kernel_rfl, by kernel_rfl, by kernel_rfl, by kernel_rfl, rfl, ⟨[(.slice none 0 0), (.slice none 0 0), (.slice none 0 0), (.slice none 0 0)], relL_cellAV _ [(.slice none 0 0), (.slice none 0 0), (.slice none 0 0), (.slice none 0 0)], rfl⟩, relL_cellAV _ [(.slice none 0 0), (.slice none 0 0), (.slice none 0 0), (.slice none 0 0)]⟩, fun h => by cases h⟩
-- struct { Thread int; Do int; Cell int; Before int; After int }
def ty44 : TyRow := ⟨.struct [(0, 3), (1, 3), (2, 3), (3, 3), (4, 3)], 5, 40, [.lit .i64 0, .lit .i64 0, .lit .i64 0, .lit .i64 0, .lit .i64 0], true⟩
theorem ty44_met : ty44.met Try.prog 44 := ⟨⟨Try.prog.fieldsOf 44, by kernel_rfl, by kernel_rfl⟩, ⟨(Try.prog.info? 44).getD default, (.agg #[(.int .i64 0), (.int .i64 0), (.int .i64 0), (.int .i64 0), (.int .i64 0)]), by kernel_rfl, by kernel_rfl, by kernel_rfl, by kernel_rfl, rfl, ⟨[(.int .i64 0), (.int .i64 0), (.int .i64 0), (.int .i64 0), (.int .i64 0)], relL_cellAV _ [(.int .i64 0), (.int .i64 0), (.int .i64 0), (.int .i64 0), (.int .i64 0)], rfl⟩, relL_cellAV _ [(.int .i64 0), (.int .i64 0), (.int .i64 0), (.int .i64 0), (.int .i64 0)]⟩, fun _ => ⟨by kernel_rfl, by kernel_rfl, names_ok (by kernel_rfl) (by kernel_rfl)⟩⟩
-- api.Deed
def ty45 : TyRow := ⟨.struct [(0, 3), (1, 3), (2, 3), (3, 3), (4, 3)], 5, 40, [.lit .i64 0, .lit .i64 0, .lit .i64 0, .lit .i64 0, .lit .i64 0], true⟩
theorem ty45_met : ty45.met Try.prog 45 := ⟨⟨Try.prog.fieldsOf 45, by kernel_rfl, by kernel_rfl⟩, ⟨(Try.prog.info? 45).getD default, (.agg #[(.int .i64 0), (.int .i64 0), (.int .i64 0), (.int .i64 0), (.int .i64 0)]), by kernel_rfl, by kernel_rfl, by kernel_rfl, by kernel_rfl, rfl, ⟨[(.int .i64 0), (.int .i64 0), (.int .i64 0), (.int .i64 0), (.int .i64 0)], relL_cellAV _ [(.int .i64 0), (.int .i64 0), (.int .i64 0), (.int .i64 0), (.int .i64 0)], rfl⟩, relL_cellAV _ [(.int .i64 0), (.int .i64 0), (.int .i64 0), (.int .i64 0), (.int .i64 0)]⟩, fun _ => ⟨by kernel_rfl, by kernel_rfl, names_ok (by kernel_rfl) (by kernel_rfl)⟩⟩
-- func([]int, []int) bool
def ty46 : TyRow := ⟨.func, 1, 8, [.nilF], false⟩
theorem ty46_met : ty46.met Try.prog 46 := ⟨⟨(funcOf Try.prog 46).1, (funcOf Try.prog 46).2.1, (funcOf Try.prog 46).2.2, by kernel_rfl⟩, ⟨(Try.prog.info? 46).getD default, .nilFunc, by kernel_rfl, by kernel_rfl, by kernel_rfl, by kernel_rfl, rfl, relL_cellAV _ [.nilFunc], relL_cellAV _ [.nilFunc]⟩, fun h => by cases h⟩
-- func(int, int, [][5]int) bool
def ty47 : TyRow := ⟨.func, 1, 8, [.nilF], false⟩
theorem ty47_met : ty47.met Try.prog 47 := ⟨⟨(funcOf Try.prog 47).1, (funcOf Try.prog 47).2.1, (funcOf Try.prog 47).2.2, by kernel_rfl⟩, ⟨(Try.prog.info? 47).getD default, .nilFunc, by kernel_rfl, by kernel_rfl, by kernel_rfl, by kernel_rfl, rfl, relL_cellAV _ [.nilFunc], relL_cellAV _ [.nilFunc]⟩, fun h => by cases h⟩
-- func(int, int) (int, api.Errno)
def ty49 : TyRow := ⟨.func, 1, 8, [.nilF], false⟩
theorem ty49_met : ty49.met Try.prog 49 := ⟨⟨(funcOf Try.prog 49).1, (funcOf Try.prog 49).2.1, (funcOf Try.prog 49).2.2, by kernel_rfl⟩, ⟨(Try.prog.info? 49).getD default, .nilFunc, by kernel_rfl, by kernel_rfl, by kernel_rfl, by kernel_rfl, rfl, relL_cellAV _ [.nilFunc], relL_cellAV _ [.nilFunc]⟩, fun h => by cases h⟩
-- func(int, int, int) api.Errno
def ty50 : TyRow := ⟨.func, 1, 8, [.nilF], false⟩
theorem ty50_met : ty50.met Try.prog 50 := ⟨⟨(funcOf Try.prog 50).1, (funcOf Try.prog 50).2.1, (funcOf Try.prog 50).2.2, by kernel_rfl⟩, ⟨(Try.prog.info? 50).getD default, .nilFunc, by kernel_rfl, by kernel_rfl, by kernel_rfl, by kernel_rfl, rfl, relL_cellAV _ [.nilFunc], relL_cellAV _ [.nilFunc]⟩, fun h => by cases h⟩
-- func(int, int) (bool, api.Errno)
def ty51 : TyRow := ⟨.func, 1, 8, [.nilF], false⟩
theorem ty51_met : ty51.met Try.prog 51 := ⟨⟨(funcOf Try.prog 51).1, (funcOf Try.prog 51).2.1, (funcOf Try.prog 51).2.2, by kernel_rfl⟩, ⟨(Try.prog.info? 51).getD default, .nilFunc, by kernel_rfl, by kernel_rfl, by kernel_rfl, by kernel_rfl, rfl, relL_cellAV _ [.nilFunc], relL_cellAV _ [.nilFunc]⟩, fun h => by cases h⟩
-- func([][5]int) bool
def ty52 : TyRow := ⟨.func, 1, 8, [.nilF], false⟩
theorem ty52_met : ty52.met Try.prog 52 := ⟨⟨(funcOf Try.prog 52).1, (funcOf Try.prog 52).2.1, (funcOf Try.prog 52).2.2, by kernel_rfl⟩, ⟨(Try.prog.info? 52).getD default, .nilFunc, by kernel_rfl, by kernel_rfl, by kernel_rfl, by kernel_rfl, rfl, relL_cellAV _ [.nilFunc], relL_cellAV _ [.nilFunc]⟩, fun h => by cases h⟩
-- func(int, int, int, int) bool
def ty53 : TyRow := ⟨.func, 1, 8, [.nilF], false⟩
theorem ty53_met : ty53.met Try.prog 53 := ⟨⟨(funcOf Try.prog 53).1, (funcOf Try.prog 53).2.1, (funcOf Try.prog 53).2.2, by kernel_rfl⟩, ⟨(Try.prog.info? 53).getD default, .nilFunc, by kernel_rfl, by kernel_rfl, by kernel_rfl, by kernel_rfl, rfl, relL_cellAV _ [.nilFunc], relL_cellAV _ [.nilFunc]⟩, fun h => by cases h⟩
-- []cells.holder
def ty54 : TyRow := ⟨.slice 62, 1, 24, [.nilS], false⟩
theorem ty54_met : ty54.met Try.prog 54 := ⟨(show Try.prog.underlying 54 = some (.slice 62) by kernel_rfl), ⟨(Try.prog.info? 54).getD default, (.slice none 0 0), by kernel_rfl, by kernel_rfl, by kernel_rfl, by kernel_rfl, rfl, relL_cellAV _ [(.slice none 0 0)], relL_cellAV _ [(.slice none 0 0)]⟩, fun h => by cases h⟩
-- struct { words []int; locks []cells.holder; log []api.Deed }
def ty55 : TyRow := ⟨.struct [(0, 22), (1, 54), (2, 31)], 3, 72, [.nilS, .nilS, .nilS], false⟩
theorem ty55_met : ty55.met Try.prog 55 := ⟨⟨Try.prog.fieldsOf 55, by kernel_rfl, by kernel_rfl⟩, ⟨(Try.prog.info? 55).getD default, (.agg #[(.slice none 0 0), (.slice none 0 0), (.slice none 0 0)]), by kernel_rfl, by kernel_rfl, by kernel_rfl, by kernel_rfl, rfl, ⟨[(.slice none 0 0), (.slice none 0 0), (.slice none 0 0)], relL_cellAV _ [(.slice none 0 0), (.slice none 0 0), (.slice none 0 0)], rfl⟩, relL_cellAV _ [(.slice none 0 0), (.slice none 0 0), (.slice none 0 0)]⟩, fun h => by cases h⟩
-- cells.Cells
def ty56 : TyRow := ⟨.struct [(0, 22), (1, 54), (2, 31)], 3, 72, [.nilS, .nilS, .nilS], false⟩
theorem ty56_met : ty56.met Try.prog 56 := ⟨⟨Try.prog.fieldsOf 56, by kernel_rfl, by kernel_rfl⟩, ⟨(Try.prog.info? 56).getD default, (.agg #[(.slice none 0 0), (.slice none 0 0), (.slice none 0 0)]), by kernel_rfl, by kernel_rfl, by kernel_rfl, by kernel_rfl, rfl, ⟨[(.slice none 0 0), (.slice none 0 0), (.slice none 0 0)], relL_cellAV _ [(.slice none 0 0), (.slice none 0 0), (.slice none 0 0)], rfl⟩, relL_cellAV _ [(.slice none 0 0), (.slice none 0 0), (.slice none 0 0)]⟩, fun h => by cases h⟩
-- *int
def ty57 : TyRow := ⟨.ptr 3, 1, 8, [.nilP], false⟩
theorem ty57_met : ty57.met Try.prog 57 := ⟨(show Try.prog.underlying 57 = some (.pointer 3) by kernel_rfl), ⟨(Try.prog.info? 57).getD default, (.pointer none), by kernel_rfl, by kernel_rfl, by kernel_rfl, by kernel_rfl, rfl, relL_cellAV _ [(.pointer none)], relL_cellAV _ [(.pointer none)]⟩, fun h => by cases h⟩
-- func(int) *int
def ty58 : TyRow := ⟨.func, 1, 8, [.nilF], false⟩
theorem ty58_met : ty58.met Try.prog 58 := ⟨⟨(funcOf Try.prog 58).1, (funcOf Try.prog 58).2.1, (funcOf Try.prog 58).2.2, by kernel_rfl⟩, ⟨(Try.prog.info? 58).getD default, .nilFunc, by kernel_rfl, by kernel_rfl, by kernel_rfl, by kernel_rfl, rfl, relL_cellAV _ [.nilFunc], relL_cellAV _ [.nilFunc]⟩, fun h => by cases h⟩
-- func(api.Deed)
def ty59 : TyRow := ⟨.func, 1, 8, [.nilF], false⟩
theorem ty59_met : ty59.met Try.prog 59 := ⟨⟨(funcOf Try.prog 59).1, (funcOf Try.prog 59).2.1, (funcOf Try.prog 59).2.2, by kernel_rfl⟩, ⟨(Try.prog.info? 59).getD default, .nilFunc, by kernel_rfl, by kernel_rfl, by kernel_rfl, by kernel_rfl, rfl, relL_cellAV _ [.nilFunc], relL_cellAV _ [.nilFunc]⟩, fun h => by cases h⟩
-- func(int, int, int) (bool, api.Errno)
def ty60 : TyRow := ⟨.func, 1, 8, [.nilF], false⟩
theorem ty60_met : ty60.met Try.prog 60 := ⟨⟨(funcOf Try.prog 60).1, (funcOf Try.prog 60).2.1, (funcOf Try.prog 60).2.2, by kernel_rfl⟩, ⟨(Try.prog.info? 60).getD default, .nilFunc, by kernel_rfl, by kernel_rfl, by kernel_rfl, by kernel_rfl, rfl, relL_cellAV _ [.nilFunc], relL_cellAV _ [.nilFunc]⟩, fun h => by cases h⟩
-- struct { thread int; held bool }
def ty61 : TyRow := ⟨.struct [(0, 3), (1, 4)], 2, 16, [.lit .i64 0, .ff], true⟩
theorem ty61_met : ty61.met Try.prog 61 := ⟨⟨Try.prog.fieldsOf 61, by kernel_rfl, by kernel_rfl⟩, ⟨(Try.prog.info? 61).getD default, (.agg #[(.int .i64 0), (.bool false)]), by kernel_rfl, by kernel_rfl, by kernel_rfl, by kernel_rfl, rfl, ⟨[(.int .i64 0), (.bool false)], relL_cellAV _ [(.int .i64 0), (.bool false)], rfl⟩, relL_cellAV _ [(.int .i64 0), (.bool false)]⟩, fun _ => ⟨by kernel_rfl, by kernel_rfl, names_ok (by kernel_rfl) (by kernel_rfl)⟩⟩
-- cells.holder
def ty62 : TyRow := ⟨.struct [(0, 3), (1, 4)], 2, 16, [.lit .i64 0, .ff], true⟩
theorem ty62_met : ty62.met Try.prog 62 := ⟨⟨Try.prog.fieldsOf 62, by kernel_rfl, by kernel_rfl⟩, ⟨(Try.prog.info? 62).getD default, (.agg #[(.int .i64 0), (.bool false)]), by kernel_rfl, by kernel_rfl, by kernel_rfl, by kernel_rfl, rfl, ⟨[(.int .i64 0), (.bool false)], relL_cellAV _ [(.int .i64 0), (.bool false)], rfl⟩, relL_cellAV _ [(.int .i64 0), (.bool false)]⟩, fun _ => ⟨by kernel_rfl, by kernel_rfl, names_ok (by kernel_rfl) (by kernel_rfl)⟩⟩
-- func([]api.Deed) []api.Deed
def ty63 : TyRow := ⟨.func, 1, 8, [.nilF], false⟩
theorem ty63_met : ty63.met Try.prog 63 := ⟨⟨(funcOf Try.prog 63).1, (funcOf Try.prog 63).2.1, (funcOf Try.prog 63).2.2, by kernel_rfl⟩, ⟨(Try.prog.info? 63).getD default, .nilFunc, by kernel_rfl, by kernel_rfl, by kernel_rfl, by kernel_rfl, rfl, relL_cellAV _ [.nilFunc], relL_cellAV _ [.nilFunc]⟩, fun h => by cases h⟩
-- *cells.holder
def ty64 : TyRow := ⟨.ptr 62, 1, 8, [.nilP], false⟩
theorem ty64_met : ty64.met Try.prog 64 := ⟨(show Try.prog.underlying 64 = some (.pointer 62) by kernel_rfl), ⟨(Try.prog.info? 64).getD default, (.pointer none), by kernel_rfl, by kernel_rfl, by kernel_rfl, by kernel_rfl, rfl, relL_cellAV _ [(.pointer none)], relL_cellAV _ [(.pointer none)]⟩, fun h => by cases h⟩
-- func(int) *cells.holder
def ty65 : TyRow := ⟨.func, 1, 8, [.nilF], false⟩
theorem ty65_met : ty65.met Try.prog 65 := ⟨⟨(funcOf Try.prog 65).1, (funcOf Try.prog 65).2.1, (funcOf Try.prog 65).2.2, by kernel_rfl⟩, ⟨(Try.prog.info? 65).getD default, .nilFunc, by kernel_rfl, by kernel_rfl, by kernel_rfl, by kernel_rfl, rfl, relL_cellAV _ [.nilFunc], relL_cellAV _ [.nilFunc]⟩, fun h => by cases h⟩
-- func(int) bool
def ty66 : TyRow := ⟨.func, 1, 8, [.nilF], false⟩
theorem ty66_met : ty66.met Try.prog 66 := ⟨⟨(funcOf Try.prog 66).1, (funcOf Try.prog 66).2.1, (funcOf Try.prog 66).2.2, by kernel_rfl⟩, ⟨(Try.prog.info? 66).getD default, .nilFunc, by kernel_rfl, by kernel_rfl, by kernel_rfl, by kernel_rfl, rfl, relL_cellAV _ [.nilFunc], relL_cellAV _ [.nilFunc]⟩, fun h => by cases h⟩
-- func(int, int, int, int, int)
def ty67 : TyRow := ⟨.func, 1, 8, [.nilF], false⟩
theorem ty67_met : ty67.met Try.prog 67 := ⟨⟨(funcOf Try.prog 67).1, (funcOf Try.prog 67).2.1, (funcOf Try.prog 67).2.2, by kernel_rfl⟩, ⟨(Try.prog.info? 67).getD default, .nilFunc, by kernel_rfl, by kernel_rfl, by kernel_rfl, by kernel_rfl, rfl, relL_cellAV _ [.nilFunc], relL_cellAV _ [.nilFunc]⟩, fun h => by cases h⟩
-- func() string
def ty68 : TyRow := ⟨.func, 1, 8, [.nilF], false⟩
theorem ty68_met : ty68.met Try.prog 68 := ⟨⟨(funcOf Try.prog 68).1, (funcOf Try.prog 68).2.1, (funcOf Try.prog 68).2.2, by kernel_rfl⟩, ⟨(Try.prog.info? 68).getD default, .nilFunc, by kernel_rfl, by kernel_rfl, by kernel_rfl, by kernel_rfl, rfl, relL_cellAV _ [.nilFunc], relL_cellAV _ [.nilFunc]⟩, fun h => by cases h⟩
-- struct { _interface *abi.Type; concrete *abi.Type; asserted *abi.Type; missingMethod string }
def ty69 : TyRow := ⟨.struct [(0, 17), (1, 17), (2, 17), (3, 9)], 4, 40, [.nilP, .nilP, .nilP, .raw (.string (ByteArray.mk #[]))], false⟩
theorem ty69_met : ty69.met Try.prog 69 := ⟨⟨Try.prog.fieldsOf 69, by kernel_rfl, by kernel_rfl⟩, ⟨(Try.prog.info? 69).getD default, (.agg #[(.pointer none), (.pointer none), (.pointer none), (.string (ByteArray.mk #[]))]), by kernel_rfl, by kernel_rfl, by kernel_rfl, by kernel_rfl, rfl, ⟨[(.pointer none), (.pointer none), (.pointer none), (.string (ByteArray.mk #[]))], relL_cellAV _ [(.pointer none), (.pointer none), (.pointer none), (.string (ByteArray.mk #[]))], rfl⟩, relL_cellAV _ [(.pointer none), (.pointer none), (.pointer none), (.string (ByteArray.mk #[]))]⟩, fun h => by cases h⟩
-- runtime.TypeAssertionError
def ty70 : TyRow := ⟨.struct [(0, 17), (1, 17), (2, 17), (3, 9)], 4, 40, [.nilP, .nilP, .nilP, .raw (.string (ByteArray.mk #[]))], false⟩
theorem ty70_met : ty70.met Try.prog 70 := ⟨⟨Try.prog.fieldsOf 70, by kernel_rfl, by kernel_rfl⟩, ⟨(Try.prog.info? 70).getD default, (.agg #[(.pointer none), (.pointer none), (.pointer none), (.string (ByteArray.mk #[]))]), by kernel_rfl, by kernel_rfl, by kernel_rfl, by kernel_rfl, rfl, ⟨[(.pointer none), (.pointer none), (.pointer none), (.string (ByteArray.mk #[]))], relL_cellAV _ [(.pointer none), (.pointer none), (.pointer none), (.string (ByteArray.mk #[]))], rfl⟩, relL_cellAV _ [(.pointer none), (.pointer none), (.pointer none), (.string (ByteArray.mk #[]))]⟩, fun h => by cases h⟩
-- [0]*runtime.PanicNilError
def ty71 : TyRow := ⟨.array 0 16, 0, 0, [], false⟩
theorem ty71_met : ty71.met Try.prog 71 := ⟨(show Try.prog.underlying 71 = some (.array 0 16) by kernel_rfl), ⟨(Try.prog.info? 71).getD default, (.agg #[]), by kernel_rfl, by kernel_rfl, by kernel_rfl, by kernel_rfl, rfl, ⟨[], relL_cellAV _ [], rfl⟩, relL_cellAV _ []⟩, fun h => by cases h⟩
-- struct { _ [0]*runtime.PanicNilError }
def ty72 : TyRow := ⟨.struct [(0, 71)], 0, 0, [], false⟩
theorem ty72_met : ty72.met Try.prog 72 := ⟨⟨Try.prog.fieldsOf 72, by kernel_rfl, by kernel_rfl⟩, ⟨(Try.prog.info? 72).getD default, (.agg #[]), by kernel_rfl, by kernel_rfl, by kernel_rfl, by kernel_rfl, rfl, ⟨[], relL_cellAV _ [], rfl⟩, relL_cellAV _ []⟩, fun h => by cases h⟩
-- runtime.PanicNilError
def ty73 : TyRow := ⟨.struct [(0, 71)], 0, 0, [], false⟩
theorem ty73_met : ty73.met Try.prog 73 := ⟨⟨Try.prog.fieldsOf 73, by kernel_rfl, by kernel_rfl⟩, ⟨(Try.prog.info? 73).getD default, (.agg #[]), by kernel_rfl, by kernel_rfl, by kernel_rfl, by kernel_rfl, rfl, ⟨[], relL_cellAV _ [], rfl⟩, relL_cellAV _ []⟩, fun h => by cases h⟩
-- func() int
def ty74 : TyRow := ⟨.func, 1, 8, [.nilF], false⟩
theorem ty74_met : ty74.met Try.prog 74 := ⟨⟨(funcOf Try.prog 74).1, (funcOf Try.prog 74).2.1, (funcOf Try.prog 74).2.2, by kernel_rfl⟩, ⟨(Try.prog.info? 74).getD default, .nilFunc, by kernel_rfl, by kernel_rfl, by kernel_rfl, by kernel_rfl, rfl, relL_cellAV _ [.nilFunc], relL_cellAV _ [.nilFunc]⟩, fun h => by cases h⟩
-- uint32
def ty75 : TyRow := ⟨.int .u32, 1, 4, [.lit .u32 0], false⟩
theorem ty75_met : ty75.met Try.prog 75 := ⟨(show Try.prog.underlying 75 = some (.int .u32) by kernel_rfl), ⟨(Try.prog.info? 75).getD default, (.int .u32 0), by kernel_rfl, by kernel_rfl, by kernel_rfl, by kernel_rfl, rfl, relL_cellAV _ [(.int .u32 0)], relL_cellAV _ [(.int .u32 0)]⟩, fun h => by cases h⟩
-- abi.TFlag
def ty76 : TyRow := ⟨.int .u8, 1, 1, [.lit .u8 0], false⟩
theorem ty76_met : ty76.met Try.prog 76 := ⟨(show Try.prog.underlying 76 = some (.int .u8) by kernel_rfl), ⟨(Try.prog.info? 76).getD default, (.int .u8 0), by kernel_rfl, by kernel_rfl, by kernel_rfl, by kernel_rfl, rfl, relL_cellAV _ [(.int .u8 0)], relL_cellAV _ [(.int .u8 0)]⟩, fun h => by cases h⟩
-- abi.Kind
def ty77 : TyRow := ⟨.int .u8, 1, 1, [.lit .u8 0], false⟩
theorem ty77_met : ty77.met Try.prog 77 := ⟨(show Try.prog.underlying 77 = some (.int .u8) by kernel_rfl), ⟨(Try.prog.info? 77).getD default, (.int .u8 0), by kernel_rfl, by kernel_rfl, by kernel_rfl, by kernel_rfl, rfl, relL_cellAV _ [(.int .u8 0)], relL_cellAV _ [(.int .u8 0)]⟩, fun h => by cases h⟩
-- func(unsafe.Pointer, unsafe.Pointer) bool
def ty78 : TyRow := ⟨.func, 1, 8, [.nilF], false⟩
theorem ty78_met : ty78.met Try.prog 78 := ⟨⟨(funcOf Try.prog 78).1, (funcOf Try.prog 78).2.1, (funcOf Try.prog 78).2.2, by kernel_rfl⟩, ⟨(Try.prog.info? 78).getD default, .nilFunc, by kernel_rfl, by kernel_rfl, by kernel_rfl, by kernel_rfl, rfl, relL_cellAV _ [.nilFunc], relL_cellAV _ [.nilFunc]⟩, fun h => by cases h⟩
-- *uint8
def ty79 : TyRow := ⟨.ptr 5, 1, 8, [.nilP], false⟩
theorem ty79_met : ty79.met Try.prog 79 := ⟨(show Try.prog.underlying 79 = some (.pointer 5) by kernel_rfl), ⟨(Try.prog.info? 79).getD default, (.pointer none), by kernel_rfl, by kernel_rfl, by kernel_rfl, by kernel_rfl, rfl, relL_cellAV _ [(.pointer none)], relL_cellAV _ [(.pointer none)]⟩, fun h => by cases h⟩
-- abi.NameOff
def ty80 : TyRow := ⟨.int .i32, 1, 4, [.lit .i32 0], false⟩
theorem ty80_met : ty80.met Try.prog 80 := ⟨(show Try.prog.underlying 80 = some (.int .i32) by kernel_rfl), ⟨(Try.prog.info? 80).getD default, (.int .i32 0), by kernel_rfl, by kernel_rfl, by kernel_rfl, by kernel_rfl, rfl, relL_cellAV _ [(.int .i32 0)], relL_cellAV _ [(.int .i32 0)]⟩, fun h => by cases h⟩
-- abi.TypeOff
def ty81 : TyRow := ⟨.int .i32, 1, 4, [.lit .i32 0], false⟩
theorem ty81_met : ty81.met Try.prog 81 := ⟨(show Try.prog.underlying 81 = some (.int .i32) by kernel_rfl), ⟨(Try.prog.info? 81).getD default, (.int .i32 0), by kernel_rfl, by kernel_rfl, by kernel_rfl, by kernel_rfl, rfl, relL_cellAV _ [(.int .i32 0)], relL_cellAV _ [(.int .i32 0)]⟩, fun h => by cases h⟩
-- struct { Size_ uintptr; PtrBytes uintptr; Hash uint32; TFlag abi.TFlag; Align_ uint8; FieldAlign_ ui
def ty82 : TyRow := ⟨.struct [(0, 12), (1, 12), (2, 75), (3, 76), (4, 5), (5, 5), (6, 77), (7, 78), (8, 79), (9, 80), (10, 81)], 11, 48, [.lit .u64 0, .lit .u64 0, .lit .u32 0, .lit .u8 0, .lit .u8 0, .lit .u8 0, .lit .u8 0, .nilF, .nilP, .lit .i32 0, .lit .i32 0], false⟩
theorem ty82_met : ty82.met Try.prog 82 := ⟨⟨Try.prog.fieldsOf 82, by kernel_rfl, by kernel_rfl⟩, ⟨(Try.prog.info? 82).getD default, (.agg #[(.int .u64 0), (.int .u64 0), (.int .u32 0), (.int .u8 0), (.int .u8 0), (.int .u8 0), (.int .u8 0), .nilFunc, (.pointer none), (.int .i32 0), (.int .i32 0)]), by kernel_rfl, by kernel_rfl, by kernel_rfl, by kernel_rfl, rfl, ⟨[(.int .u64 0), (.int .u64 0), (.int .u32 0), (.int .u8 0), (.int .u8 0), (.int .u8 0), (.int .u8 0), .nilFunc, (.pointer none), (.int .i32 0), (.int .i32 0)], relL_cellAV _ [(.int .u64 0), (.int .u64 0), (.int .u32 0), (.int .u8 0), (.int .u8 0), (.int .u8 0), (.int .u8 0), .nilFunc, (.pointer none), (.int .i32 0), (.int .i32 0)], rfl⟩, relL_cellAV _ [(.int .u64 0), (.int .u64 0), (.int .u32 0), (.int .u8 0), (.int .u8 0), (.int .u8 0), (.int .u8 0), .nilFunc, (.pointer none), (.int .i32 0), (.int .i32 0)]⟩, fun h => by cases h⟩
-- abi.Type
def ty83 : TyRow := ⟨.struct [(0, 12), (1, 12), (2, 75), (3, 76), (4, 5), (5, 5), (6, 77), (7, 78), (8, 79), (9, 80), (10, 81)], 11, 48, [.lit .u64 0, .lit .u64 0, .lit .u32 0, .lit .u8 0, .lit .u8 0, .lit .u8 0, .lit .u8 0, .nilF, .nilP, .lit .i32 0, .lit .i32 0], false⟩
theorem ty83_met : ty83.met Try.prog 83 := ⟨⟨Try.prog.fieldsOf 83, by kernel_rfl, by kernel_rfl⟩, ⟨(Try.prog.info? 83).getD default, (.agg #[(.int .u64 0), (.int .u64 0), (.int .u32 0), (.int .u8 0), (.int .u8 0), (.int .u8 0), (.int .u8 0), .nilFunc, (.pointer none), (.int .i32 0), (.int .i32 0)]), by kernel_rfl, by kernel_rfl, by kernel_rfl, by kernel_rfl, rfl, ⟨[(.int .u64 0), (.int .u64 0), (.int .u32 0), (.int .u8 0), (.int .u8 0), (.int .u8 0), (.int .u8 0), .nilFunc, (.pointer none), (.int .i32 0), (.int .i32 0)], relL_cellAV _ [(.int .u64 0), (.int .u64 0), (.int .u32 0), (.int .u8 0), (.int .u8 0), (.int .u8 0), (.int .u8 0), .nilFunc, (.pointer none), (.int .i32 0), (.int .i32 0)], rfl⟩, relL_cellAV _ [(.int .u64 0), (.int .u64 0), (.int .u32 0), (.int .u8 0), (.int .u8 0), (.int .u8 0), (.int .u8 0), .nilFunc, (.pointer none), (.int .i32 0), (.int .i32 0)]⟩, fun h => by cases h⟩

def tyRows : List (Option TyRow) := [none, some ty1, some ty2, some ty3, some ty4, some ty5, some ty6, some ty7, some ty8, some ty9, some ty10, some ty11, some ty12, some ty13, some ty14, some ty15, some ty16, some ty17, some ty18, some ty19, some ty20, some ty21, some ty22, some ty23, some ty24, some ty25, some ty26, none, some ty28, some ty29, some ty30, some ty31, some ty32, some ty33, some ty34, some ty35, some ty36, some ty37, some ty38, some ty39, some ty40, some ty41, some ty42, some ty43, some ty44, some ty45, some ty46, some ty47, none, some ty49, some ty50, some ty51, some ty52, some ty53, some ty54, some ty55, some ty56, some ty57, some ty58, some ty59, some ty60, some ty61, some ty62, some ty63, some ty64, some ty65, some ty66, some ty67, some ty68, some ty69, some ty70, some ty71, some ty72, some ty73, some ty74, some ty75, some ty76, some ty77, some ty78, some ty79, some ty80, some ty81, some ty82, some ty83]
def tab : Tab := fun t => (tyRows[t]?).join
theorem tyRows_met : RowsMet Try.prog 0 tyRows := ⟨ty1_met, ty2_met, ty3_met, ty4_met, ty5_met, ty6_met, ty7_met, ty8_met, ty9_met, ty10_met, ty11_met, ty12_met, ty13_met, ty14_met, ty15_met, ty16_met, ty17_met, ty18_met, ty19_met, ty20_met, ty21_met, ty22_met, ty23_met, ty24_met, ty25_met, ty26_met, ty28_met, ty29_met, ty30_met, ty31_met, ty32_met, ty33_met, ty34_met, ty35_met, ty36_met, ty37_met, ty38_met, ty39_met, ty40_met, ty41_met, ty42_met, ty43_met, ty44_met, ty45_met, ty46_met, ty47_met, ty49_met, ty50_met, ty51_met, ty52_met, ty53_met, ty54_met, ty55_met, ty56_met, ty57_met, ty58_met, ty59_met, ty60_met, ty61_met, ty62_met, ty63_met, ty64_met, ty65_met, ty66_met, ty67_met, ty68_met, ty69_met, ty70_met, ty71_met, ty72_met, ty73_met, ty74_met, ty75_met, ty76_met, ty77_met, ty78_met, ty79_met, ty80_met, ty81_met, ty82_met, ty83_met, trivial⟩
theorem tab_met : tab.met Try.prog := fun t R h => by simpa using rowsMet_get tyRows 0 t R tyRows_met h
end Sx
end Go.Proofs.Ytjackepkphdibaa
