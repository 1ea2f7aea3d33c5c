/-
  The table of types of this seat, out of its translation, and that the program has these types.
-/
import Derived.Test.YtemcdjdglcceiaaSxQ
import Derived.Test.YtemcdjdglcceiaaRows
namespace Go.Proofs.Ytemcdjdglcceiaa
namespace Sx
open Go

def ifaceOf (P : Program) (t : Nat) : Array (String × TypeId) := match P.underlying t with | some (.interface ms) => ms | _ => #[]
def funcOf (P : Program) (t : Nat) : Array TypeId × Array TypeId × Bool := match P.underlying t with | some (.func a b c) => (a, b, c) | _ => (#[], #[], false)
theorem names_ok {P : Program} {t : Nat} (h : P.underlying t = some (.struct (P.fieldsOf t))) (k : ((P.fieldsOf t).toList.all fun f => !(f.name == "_")) = true) :
    ∀ fields, P.underlying t = some (.struct fields) → ∀ f ∈ fields.toList, f.name ≠ "_" := by
  intro fields hf f hm
  rw [h] at hf; cases hf
  have := List.all_eq_true.1 k f hm
  simpa using this

def RowsMet (P : Program) : Nat → List (Option TyRow) → Prop
  | _, [] => True
  | k, none :: l => RowsMet P (k + 1) l
  | k, some R :: l => R.met P k ∧ RowsMet P (k + 1) l
theorem rowsMet_get {P : Program} : ∀ (l : List (Option TyRow)) (k t : Nat) (R : TyRow), RowsMet P k l → l[t]?.join = some R → R.met P (k + t)
  | [], _, _, _, _, h => by simp at h
  | none :: l, k, t, R, hm, h => by
    cases t with
    | zero => simp at h
    | succ t => have := rowsMet_get l (k + 1) t R hm (by simpa using h); rwa [show k + 1 + t = k + (t + 1) by omega] at this
  | some R' :: l, k, t, R, hm, h => by
    cases t with
    | zero => simp at h; subst h; exact hm.1
    | succ t => have := rowsMet_get l (k + 1) t R hm.2 (by simpa using h); rwa [show k + 1 + t = k + (t + 1) by omega] at this

-- func()
def ty1 : TyRow := ⟨.func, 1, 8, [.nilF], false⟩
theorem ty1_met : ty1.met Try.prog 1 := ⟨⟨(funcOf Try.prog 1).1, (funcOf Try.prog 1).2.1, (funcOf Try.prog 1).2.2, by kernel_rfl⟩, ⟨(Try.prog.info? 1).getD default, .nilFunc, by kernel_rfl, by kernel_rfl, by kernel_rfl, by kernel_rfl, rfl, relL_cellAV _ [.nilFunc], relL_cellAV _ [.nilFunc]⟩, fun h => by cases h⟩
-- int64
def ty2 : TyRow := ⟨.int .i64, 1, 8, [.lit .i64 0], false⟩
theorem ty2_met : ty2.met Try.prog 2 := ⟨(show Try.prog.underlying 2 = some (.int .i64) by kernel_rfl), ⟨(Try.prog.info? 2).getD default, (.int .i64 0), by kernel_rfl, by kernel_rfl, by kernel_rfl, by kernel_rfl, rfl, relL_cellAV _ [(.int .i64 0)], relL_cellAV _ [(.int .i64 0)]⟩, fun h => by cases h⟩
-- int
def ty3 : TyRow := ⟨.int .i64, 1, 8, [.lit .i64 0], false⟩
theorem ty3_met : ty3.met Try.prog 3 := ⟨(show Try.prog.underlying 3 = some (.int .i64) by kernel_rfl), ⟨(Try.prog.info? 3).getD default, (.int .i64 0), by kernel_rfl, by kernel_rfl, by kernel_rfl, by kernel_rfl, rfl, relL_cellAV _ [(.int .i64 0)], relL_cellAV _ [(.int .i64 0)]⟩, fun h => by cases h⟩
-- bool
def ty4 : TyRow := ⟨.bool, 1, 1, [.ff], false⟩
theorem ty4_met : ty4.met Try.prog 4 := ⟨(show Try.prog.underlying 4 = some (.bool) by kernel_rfl), ⟨(Try.prog.info? 4).getD default, (.bool false), by kernel_rfl, by kernel_rfl, by kernel_rfl, by kernel_rfl, rfl, relL_cellAV _ [(.bool false)], relL_cellAV _ [(.bool false)]⟩, fun h => by cases h⟩
-- uint8
def ty5 : TyRow := ⟨.int .u8, 1, 1, [.lit .u8 0], false⟩
theorem ty5_met : ty5.met Try.prog 5 := ⟨(show Try.prog.underlying 5 = some (.int .u8) by kernel_rfl), ⟨(Try.prog.info? 5).getD default, (.int .u8 0), by kernel_rfl, by kernel_rfl, by kernel_rfl, by kernel_rfl, rfl, relL_cellAV _ [(.int .u8 0)], relL_cellAV _ [(.int .u8 0)]⟩, fun h => by cases h⟩
-- abi.BoundsErrorCode
def ty6 : TyRow := ⟨.int .u8, 1, 1, [.lit .u8 0], false⟩
theorem ty6_met : ty6.met Try.prog 6 := ⟨(show Try.prog.underlying 6 = some (.int .u8) by kernel_rfl), ⟨(Try.prog.info? 6).getD default, (.int .u8 0), by kernel_rfl, by kernel_rfl, by kernel_rfl, by kernel_rfl, rfl, relL_cellAV _ [(.int .u8 0)], relL_cellAV _ [(.int .u8 0)]⟩, fun h => by cases h⟩
-- struct { x int64; y int; signed bool; code abi.BoundsErrorCode }
def ty7 : TyRow := ⟨.struct [(0, 2), (1, 3), (2, 4), (3, 6)], 4, 24, [.lit .i64 0, .lit .i64 0, .ff, .lit .u8 0], true⟩
theorem ty7_met : ty7.met Try.prog 7 := ⟨⟨Try.prog.fieldsOf 7, by kernel_rfl, by kernel_rfl⟩, ⟨(Try.prog.info? 7).getD default, (.agg #[(.int .i64 0), (.int .i64 0), (.bool false), (.int .u8 0)]), by kernel_rfl, by kernel_rfl, by kernel_rfl, by kernel_rfl, rfl, ⟨[(.int .i64 0), (.int .i64 0), (.bool false), (.int .u8 0)], relL_cellAV _ [(.int .i64 0), (.int .i64 0), (.bool false), (.int .u8 0)], rfl⟩, relL_cellAV _ [(.int .i64 0), (.int .i64 0), (.bool false), (.int .u8 0)]⟩, fun _ => ⟨by kernel_rfl, by kernel_rfl, names_ok (by kernel_rfl) (by kernel_rfl)⟩⟩
-- runtime.boundsError
def ty8 : TyRow := ⟨.struct [(0, 2), (1, 3), (2, 4), (3, 6)], 4, 24, [.lit .i64 0, .lit .i64 0, .ff, .lit .u8 0], true⟩
theorem ty8_met : ty8.met Try.prog 8 := ⟨⟨Try.prog.fieldsOf 8, by kernel_rfl, by kernel_rfl⟩, ⟨(Try.prog.info? 8).getD default, (.agg #[(.int .i64 0), (.int .i64 0), (.bool false), (.int .u8 0)]), by kernel_rfl, by kernel_rfl, by kernel_rfl, by kernel_rfl, rfl, ⟨[(.int .i64 0), (.int .i64 0), (.bool false), (.int .u8 0)], relL_cellAV _ [(.int .i64 0), (.int .i64 0), (.bool false), (.int .u8 0)], rfl⟩, relL_cellAV _ [(.int .i64 0), (.int .i64 0), (.bool false), (.int .u8 0)]⟩, fun _ => ⟨by kernel_rfl, by kernel_rfl, names_ok (by kernel_rfl) (by kernel_rfl)⟩⟩
-- string
def ty9 : TyRow := ⟨.str, 1, 16, [.raw (.string (ByteArray.mk #[]))], false⟩
theorem ty9_met : ty9.met Try.prog 9 := ⟨(show Try.prog.underlying 9 = some (.string) by kernel_rfl), ⟨(Try.prog.info? 9).getD default, (.string (ByteArray.mk #[])), by kernel_rfl, by kernel_rfl, by kernel_rfl, by kernel_rfl, rfl, relL_cellAV _ [(.string (ByteArray.mk #[]))], relL_cellAV _ [(.string (ByteArray.mk #[]))]⟩, fun h => by cases h⟩
-- runtime.errorString
def ty10 : TyRow := ⟨.str, 1, 16, [.raw (.string (ByteArray.mk #[]))], false⟩
theorem ty10_met : ty10.met Try.prog 10 := ⟨(show Try.prog.underlying 10 = some (.string) by kernel_rfl), ⟨(Try.prog.info? 10).getD default, (.string (ByteArray.mk #[])), by kernel_rfl, by kernel_rfl, by kernel_rfl, by kernel_rfl, rfl, relL_cellAV _ [(.string (ByteArray.mk #[]))], relL_cellAV _ [(.string (ByteArray.mk #[]))]⟩, fun h => by cases h⟩
-- runtime.plainError
def ty11 : TyRow := ⟨.str, 1, 16, [.raw (.string (ByteArray.mk #[]))], false⟩
theorem ty11_met : ty11.met Try.prog 11 := ⟨(show Try.prog.underlying 11 = some (.string) by kernel_rfl), ⟨(Try.prog.info? 11).getD default, (.string (ByteArray.mk #[])), by kernel_rfl, by kernel_rfl, by kernel_rfl, by kernel_rfl, rfl, relL_cellAV _ [(.string (ByteArray.mk #[]))], relL_cellAV _ [(.string (ByteArray.mk #[]))]⟩, fun h => by cases h⟩
-- uintptr
def ty12 : TyRow := ⟨.int .u64, 1, 8, [.lit .u64 0], false⟩
theorem ty12_met : ty12.met Try.prog 12 := ⟨(show Try.prog.underlying 12 = some (.int .u64) by kernel_rfl), ⟨(Try.prog.info? 12).getD default, (.int .u64 0), by kernel_rfl, by kernel_rfl, by kernel_rfl, by kernel_rfl, rfl, relL_cellAV _ [(.int .u64 0)], relL_cellAV _ [(.int .u64 0)]⟩, fun h => by cases h⟩
-- struct { msg string; addr uintptr }
def ty13 : TyRow := ⟨.struct [(0, 9), (1, 12)], 2, 24, [.raw (.string (ByteArray.mk #[])), .lit .u64 0], false⟩
theorem ty13_met : ty13.met Try.prog 13 := ⟨⟨Try.prog.fieldsOf 13, by kernel_rfl, by kernel_rfl⟩, ⟨(Try.prog.info? 13).getD default, (.agg #[(.string (ByteArray.mk #[])), (.int .u64 0)]), by kernel_rfl, by kernel_rfl, by kernel_rfl, by kernel_rfl, rfl, ⟨[(.string (ByteArray.mk #[])), (.int .u64 0)], relL_cellAV _ [(.string (ByteArray.mk #[])), (.int .u64 0)], rfl⟩, relL_cellAV _ [(.string (ByteArray.mk #[])), (.int .u64 0)]⟩, fun h => by cases h⟩
-- runtime.errorAddressString
def ty14 : TyRow := ⟨.struct [(0, 9), (1, 12)], 2, 24, [.raw (.string (ByteArray.mk #[])), .lit .u64 0], false⟩
theorem ty14_met : ty14.met Try.prog 14 := ⟨⟨Try.prog.fieldsOf 14, by kernel_rfl, by kernel_rfl⟩, ⟨(Try.prog.info? 14).getD default, (.agg #[(.string (ByteArray.mk #[])), (.int .u64 0)]), by kernel_rfl, by kernel_rfl, by kernel_rfl, by kernel_rfl, rfl, ⟨[(.string (ByteArray.mk #[])), (.int .u64 0)], relL_cellAV _ [(.string (ByteArray.mk #[])), (.int .u64 0)], rfl⟩, relL_cellAV _ [(.string (ByteArray.mk #[])), (.int .u64 0)]⟩, fun h => by cases h⟩
-- *runtime.TypeAssertionError
def ty15 : TyRow := ⟨.ptr 93, 1, 8, [.nilP], false⟩
theorem ty15_met : ty15.met Try.prog 15 := ⟨(show Try.prog.underlying 15 = some (.pointer 93) by kernel_rfl), ⟨(Try.prog.info? 15).getD default, (.pointer none), by kernel_rfl, by kernel_rfl, by kernel_rfl, by kernel_rfl, rfl, relL_cellAV _ [(.pointer none)], relL_cellAV _ [(.pointer none)]⟩, fun h => by cases h⟩
-- *runtime.PanicNilError
def ty16 : TyRow := ⟨.ptr 96, 1, 8, [.nilP], false⟩
theorem ty16_met : ty16.met Try.prog 16 := ⟨(show Try.prog.underlying 16 = some (.pointer 96) by kernel_rfl), ⟨(Try.prog.info? 16).getD default, (.pointer none), by kernel_rfl, by kernel_rfl, by kernel_rfl, by kernel_rfl, rfl, relL_cellAV _ [(.pointer none)], relL_cellAV _ [(.pointer none)]⟩, fun h => by cases h⟩
-- *abi.Type
def ty17 : TyRow := ⟨.ptr 106, 1, 8, [.nilP], false⟩
theorem ty17_met : ty17.met Try.prog 17 := ⟨(show Try.prog.underlying 17 = some (.pointer 106) by kernel_rfl), ⟨(Try.prog.info? 17).getD default, (.pointer none), by kernel_rfl, by kernel_rfl, by kernel_rfl, by kernel_rfl, rfl, relL_cellAV _ [(.pointer none)], relL_cellAV _ [(.pointer none)]⟩, fun h => by cases h⟩
-- struct { typ *abi.Type }
def ty18 : TyRow := ⟨.struct [(0, 17)], 1, 8, [.nilP], false⟩
theorem ty18_met : ty18.met Try.prog 18 := ⟨⟨Try.prog.fieldsOf 18, by kernel_rfl, by kernel_rfl⟩, ⟨(Try.prog.info? 18).getD default, (.agg #[(.pointer none)]), by kernel_rfl, by kernel_rfl, by kernel_rfl, by kernel_rfl, rfl, ⟨[(.pointer none)], relL_cellAV _ [(.pointer none)], rfl⟩, relL_cellAV _ [(.pointer none)]⟩, fun h => by cases h⟩
-- maps.unhashableTypeError
def ty19 : TyRow := ⟨.struct [(0, 17)], 1, 8, [.nilP], false⟩
theorem ty19_met : ty19.met Try.prog 19 := ⟨⟨Try.prog.fieldsOf 19, by kernel_rfl, by kernel_rfl⟩, ⟨(Try.prog.info? 19).getD default, (.agg #[(.pointer none)]), by kernel_rfl, by kernel_rfl, by kernel_rfl, by kernel_rfl, rfl, ⟨[(.pointer none)], relL_cellAV _ [(.pointer none)], rfl⟩, relL_cellAV _ [(.pointer none)]⟩, fun h => by cases h⟩
-- interface {}
def ty20 : TyRow := ⟨.iface, 1, 16, [.nilI], false⟩
theorem ty20_met : ty20.met Try.prog 20 := ⟨⟨ifaceOf Try.prog 20, by kernel_rfl⟩, ⟨(Try.prog.info? 20).getD default, .nilIface, by kernel_rfl, by kernel_rfl, by kernel_rfl, by kernel_rfl, rfl, relL_cellAV _ [.nilIface], relL_cellAV _ [.nilIface]⟩, fun h => by cases h⟩
-- int32
def ty21 : TyRow := ⟨.int .i32, 1, 4, [.lit .i32 0], false⟩
theorem ty21_met : ty21.met Try.prog 21 := ⟨(show Try.prog.underlying 21 = some (.int .i32) by kernel_rfl), ⟨(Try.prog.info? 21).getD default, (.int .i32 0), by kernel_rfl, by kernel_rfl, by kernel_rfl, by kernel_rfl, rfl, relL_cellAV _ [(.int .i32 0)], relL_cellAV _ [(.int .i32 0)]⟩, fun h => by cases h⟩
-- []api.Record
def ty22 : TyRow := ⟨.slice 30, 1, 24, [.nilS], false⟩
theorem ty22_met : ty22.met Try.prog 22 := ⟨(show Try.prog.underlying 22 = some (.slice 30) by kernel_rfl), ⟨(Try.prog.info? 22).getD default, (.slice none 0 0), by kernel_rfl, by kernel_rfl, by kernel_rfl, by kernel_rfl, rfl, relL_cellAV _ [(.slice none 0 0)], relL_cellAV _ [(.slice none 0 0)]⟩, fun h => by cases h⟩
-- func() bool
def ty23 : TyRow := ⟨.func, 1, 8, [.nilF], false⟩
theorem ty23_met : ty23.met Try.prog 23 := ⟨⟨(funcOf Try.prog 23).1, (funcOf Try.prog 23).2.1, (funcOf Try.prog 23).2.2, by kernel_rfl⟩, ⟨(Try.prog.info? 23).getD default, .nilFunc, by kernel_rfl, by kernel_rfl, by kernel_rfl, by kernel_rfl, rfl, relL_cellAV _ [.nilFunc], relL_cellAV _ [.nilFunc]⟩, fun h => by cases h⟩
-- func([]api.Record) []api.Record
def ty24 : TyRow := ⟨.func, 1, 8, [.nilF], false⟩
theorem ty24_met : ty24.met Try.prog 24 := ⟨⟨(funcOf Try.prog 24).1, (funcOf Try.prog 24).2.1, (funcOf Try.prog 24).2.2, by kernel_rfl⟩, ⟨(Try.prog.info? 24).getD default, .nilFunc, by kernel_rfl, by kernel_rfl, by kernel_rfl, by kernel_rfl, rfl, relL_cellAV _ [.nilFunc], relL_cellAV _ [.nilFunc]⟩, fun h => by cases h⟩
-- func([]api.Record, []api.Record) bool
def ty25 : TyRow := ⟨.func, 1, 8, [.nilF], false⟩
theorem ty25_met : ty25.met Try.prog 25 := ⟨⟨(funcOf Try.prog 25).1, (funcOf Try.prog 25).2.1, (funcOf Try.prog 25).2.2, by kernel_rfl⟩, ⟨(Try.prog.info? 25).getD default, .nilFunc, by kernel_rfl, by kernel_rfl, by kernel_rfl, by kernel_rfl, rfl, relL_cellAV _ [.nilFunc], relL_cellAV _ [.nilFunc]⟩, fun h => by cases h⟩
-- struct { Do int; Key int; Value int; Hit bool }
def ty26 : TyRow := ⟨.struct [(0, 3), (1, 3), (2, 3), (3, 4)], 4, 32, [.lit .i64 0, .lit .i64 0, .lit .i64 0, .ff], true⟩
theorem ty26_met : ty26.met Try.prog 26 := ⟨⟨Try.prog.fieldsOf 26, by kernel_rfl, by kernel_rfl⟩, ⟨(Try.prog.info? 26).getD default, (.agg #[(.int .i64 0), (.int .i64 0), (.int .i64 0), (.bool false)]), by kernel_rfl, by kernel_rfl, by kernel_rfl, by kernel_rfl, rfl, ⟨[(.int .i64 0), (.int .i64 0), (.int .i64 0), (.bool false)], relL_cellAV _ [(.int .i64 0), (.int .i64 0), (.int .i64 0), (.bool false)], rfl⟩, relL_cellAV _ [(.int .i64 0), (.int .i64 0), (.int .i64 0), (.bool false)]⟩, fun _ => ⟨by kernel_rfl, by kernel_rfl, names_ok (by kernel_rfl) (by kernel_rfl)⟩⟩
-- api.Commit
def ty27 : TyRow := ⟨.struct [(0, 3), (1, 3), (2, 3), (3, 4)], 4, 32, [.lit .i64 0, .lit .i64 0, .lit .i64 0, .ff], true⟩
theorem ty27_met : ty27.met Try.prog 27 := ⟨⟨Try.prog.fieldsOf 27, by kernel_rfl, by kernel_rfl⟩, ⟨(Try.prog.info? 27).getD default, (.agg #[(.int .i64 0), (.int .i64 0), (.int .i64 0), (.bool false)]), by kernel_rfl, by kernel_rfl, by kernel_rfl, by kernel_rfl, rfl, ⟨[(.int .i64 0), (.int .i64 0), (.int .i64 0), (.bool false)], relL_cellAV _ [(.int .i64 0), (.int .i64 0), (.int .i64 0), (.bool false)], rfl⟩, relL_cellAV _ [(.int .i64 0), (.int .i64 0), (.int .i64 0), (.bool false)]⟩, fun _ => ⟨by kernel_rfl, by kernel_rfl, names_ok (by kernel_rfl) (by kernel_rfl)⟩⟩
-- api.Errno
def ty28 : TyRow := ⟨.int .i64, 1, 8, [.lit .i64 0], false⟩
theorem ty28_met : ty28.met Try.prog 28 := ⟨(show Try.prog.underlying 28 = some (.int .i64) by kernel_rfl), ⟨(Try.prog.info? 28).getD default, (.int .i64 0), by kernel_rfl, by kernel_rfl, by kernel_rfl, by kernel_rfl, rfl, relL_cellAV _ [(.int .i64 0)], relL_cellAV _ [(.int .i64 0)]⟩, fun h => by cases h⟩
-- struct { Thread int; Op int; What int; Commit api.Commit; Err api.Errno }
def ty29 : TyRow := ⟨.struct [(0, 3), (1, 3), (2, 3), (3, 27), (7, 28)], 8, 64, [.lit .i64 0, .lit .i64 0, .lit .i64 0, .lit .i64 0, .lit .i64 0, .lit .i64 0, .ff, .lit .i64 0], true⟩
theorem ty29_met : ty29.met Try.prog 29 := ⟨⟨Try.prog.fieldsOf 29, by kernel_rfl, by kernel_rfl⟩, ⟨(Try.prog.info? 29).getD default, (.agg #[(.int .i64 0), (.int .i64 0), (.int .i64 0), (.int .i64 0), (.int .i64 0), (.int .i64 0), (.bool false), (.int .i64 0)]), by kernel_rfl, by kernel_rfl, by kernel_rfl, by kernel_rfl, rfl, ⟨[(.int .i64 0), (.int .i64 0), (.int .i64 0), (.int .i64 0), (.int .i64 0), (.int .i64 0), (.bool false), (.int .i64 0)], relL_cellAV _ [(.int .i64 0), (.int .i64 0), (.int .i64 0), (.int .i64 0), (.int .i64 0), (.int .i64 0), (.bool false), (.int .i64 0)], rfl⟩, relL_cellAV _ [(.int .i64 0), (.int .i64 0), (.int .i64 0), (.int .i64 0), (.int .i64 0), (.int .i64 0), (.bool false), (.int .i64 0)]⟩, fun _ => ⟨by kernel_rfl, by kernel_rfl, names_ok (by kernel_rfl) (by kernel_rfl)⟩⟩
-- api.Record
def ty30 : TyRow := ⟨.struct [(0, 3), (1, 3), (2, 3), (3, 27), (7, 28)], 8, 64, [.lit .i64 0, .lit .i64 0, .lit .i64 0, .lit .i64 0, .lit .i64 0, .lit .i64 0, .ff, .lit .i64 0], true⟩
theorem ty30_met : ty30.met Try.prog 30 := ⟨⟨Try.prog.fieldsOf 30, by kernel_rfl, by kernel_rfl⟩, ⟨(Try.prog.info? 30).getD default, (.agg #[(.int .i64 0), (.int .i64 0), (.int .i64 0), (.int .i64 0), (.int .i64 0), (.int .i64 0), (.bool false), (.int .i64 0)]), by kernel_rfl, by kernel_rfl, by kernel_rfl, by kernel_rfl, rfl, ⟨[(.int .i64 0), (.int .i64 0), (.int .i64 0), (.int .i64 0), (.int .i64 0), (.int .i64 0), (.bool false), (.int .i64 0)], relL_cellAV _ [(.int .i64 0), (.int .i64 0), (.int .i64 0), (.int .i64 0), (.int .i64 0), (.int .i64 0), (.bool false), (.int .i64 0)], rfl⟩, relL_cellAV _ [(.int .i64 0), (.int .i64 0), (.int .i64 0), (.int .i64 0), (.int .i64 0), (.int .i64 0), (.bool false), (.int .i64 0)]⟩, fun _ => ⟨by kernel_rfl, by kernel_rfl, names_ok (by kernel_rfl) (by kernel_rfl)⟩⟩
-- []api.Call
def ty31 : TyRow := ⟨.slice 35, 1, 24, [.nilS], false⟩
theorem ty31_met : ty31.met Try.prog 31 := ⟨(show Try.prog.underlying 31 = some (.slice 35) by kernel_rfl), ⟨(Try.prog.info? 31).getD default, (.slice none 0 0), by kernel_rfl, by kernel_rfl, by kernel_rfl, by kernel_rfl, rfl, relL_cellAV _ [(.slice none 0 0)], relL_cellAV _ [(.slice none 0 0)]⟩, fun h => by cases h⟩
-- func([]api.Record) []api.Call
def ty32 : TyRow := ⟨.func, 1, 8, [.nilF], false⟩
theorem ty32_met : ty32.met Try.prog 32 := ⟨⟨(funcOf Try.prog 32).1, (funcOf Try.prog 32).2.1, (funcOf Try.prog 32).2.2, by kernel_rfl⟩, ⟨(Try.prog.info? 32).getD default, .nilFunc, by kernel_rfl, by kernel_rfl, by kernel_rfl, by kernel_rfl, rfl, relL_cellAV _ [.nilFunc], relL_cellAV _ [.nilFunc]⟩, fun h => by cases h⟩
-- func(api.Call, api.Call) bool
def ty33 : TyRow := ⟨.func, 1, 8, [.nilF], false⟩
theorem ty33_met : ty33.met Try.prog 33 := ⟨⟨(funcOf Try.prog 33).1, (funcOf Try.prog 33).2.1, (funcOf Try.prog 33).2.2, by kernel_rfl⟩, ⟨(Try.prog.info? 33).getD default, .nilFunc, by kernel_rfl, by kernel_rfl, by kernel_rfl, by kernel_rfl, rfl, relL_cellAV _ [.nilFunc], relL_cellAV _ [.nilFunc]⟩, fun h => by cases h⟩
-- struct { Thread int; Op int; From int; At int; To int }
def ty34 : TyRow := ⟨.struct [(0, 3), (1, 3), (2, 3), (3, 3), (4, 3)], 5, 40, [.lit .i64 0, .lit .i64 0, .lit .i64 0, .lit .i64 0, .lit .i64 0], true⟩
theorem ty34_met : ty34.met Try.prog 34 := ⟨⟨Try.prog.fieldsOf 34, by kernel_rfl, by kernel_rfl⟩, ⟨(Try.prog.info? 34).getD default, (.agg #[(.int .i64 0), (.int .i64 0), (.int .i64 0), (.int .i64 0), (.int .i64 0)]), by kernel_rfl, by kernel_rfl, by kernel_rfl, by kernel_rfl, rfl, ⟨[(.int .i64 0), (.int .i64 0), (.int .i64 0), (.int .i64 0), (.int .i64 0)], relL_cellAV _ [(.int .i64 0), (.int .i64 0), (.int .i64 0), (.int .i64 0), (.int .i64 0)], rfl⟩, relL_cellAV _ [(.int .i64 0), (.int .i64 0), (.int .i64 0), (.int .i64 0), (.int .i64 0)]⟩, fun _ => ⟨by kernel_rfl, by kernel_rfl, names_ok (by kernel_rfl) (by kernel_rfl)⟩⟩
-- api.Call
def ty35 : TyRow := ⟨.struct [(0, 3), (1, 3), (2, 3), (3, 3), (4, 3)], 5, 40, [.lit .i64 0, .lit .i64 0, .lit .i64 0, .lit .i64 0, .lit .i64 0], true⟩
theorem ty35_met : ty35.met Try.prog 35 := ⟨⟨Try.prog.fieldsOf 35, by kernel_rfl, by kernel_rfl⟩, ⟨(Try.prog.info? 35).getD default, (.agg #[(.int .i64 0), (.int .i64 0), (.int .i64 0), (.int .i64 0), (.int .i64 0)]), by kernel_rfl, by kernel_rfl, by kernel_rfl, by kernel_rfl, rfl, ⟨[(.int .i64 0), (.int .i64 0), (.int .i64 0), (.int .i64 0), (.int .i64 0)], relL_cellAV _ [(.int .i64 0), (.int .i64 0), (.int .i64 0), (.int .i64 0), (.int .i64 0)], rfl⟩, relL_cellAV _ [(.int .i64 0), (.int .i64 0), (.int .i64 0), (.int .i64 0), (.int .i64 0)]⟩, fun _ => ⟨by kernel_rfl, by kernel_rfl, names_ok (by kernel_rfl) (by kernel_rfl)⟩⟩
-- func([]api.Record) bool
def ty36 : TyRow := ⟨.func, 1, 8, [.nilF], false⟩
theorem ty36_met : ty36.met Try.prog 36 := ⟨⟨(funcOf Try.prog 36).1, (funcOf Try.prog 36).2.1, (funcOf Try.prog 36).2.2, by kernel_rfl⟩, ⟨(Try.prog.info? 36).getD default, .nilFunc, by kernel_rfl, by kernel_rfl, by kernel_rfl, by kernel_rfl, rfl, relL_cellAV _ [.nilFunc], relL_cellAV _ [.nilFunc]⟩, fun h => by cases h⟩
-- func([]api.Call, []api.Call) bool
def ty37 : TyRow := ⟨.func, 1, 8, [.nilF], false⟩
theorem ty37_met : ty37.met Try.prog 37 := ⟨⟨(funcOf Try.prog 37).1, (funcOf Try.prog 37).2.1, (funcOf Try.prog 37).2.2, by kernel_rfl⟩, ⟨(Try.prog.info? 37).getD default, .nilFunc, by kernel_rfl, by kernel_rfl, by kernel_rfl, by kernel_rfl, rfl, relL_cellAV _ [.nilFunc], relL_cellAV _ [.nilFunc]⟩, fun h => by cases h⟩
-- func([]api.Commit, []api.Commit) bool
def ty38 : TyRow := ⟨.func, 1, 8, [.nilF], false⟩
theorem ty38_met : ty38.met Try.prog 38 := ⟨⟨(funcOf Try.prog 38).1, (funcOf Try.prog 38).2.1, (funcOf Try.prog 38).2.2, by kernel_rfl⟩, ⟨(Try.prog.info? 38).getD default, .nilFunc, by kernel_rfl, by kernel_rfl, by kernel_rfl, by kernel_rfl, rfl, relL_cellAV _ [.nilFunc], relL_cellAV _ [.nilFunc]⟩, fun h => by cases h⟩
-- []api.Commit
def ty39 : TyRow := ⟨.slice 27, 1, 24, [.nilS], false⟩
theorem ty39_met : ty39.met Try.prog 39 := ⟨(show Try.prog.underlying 39 = some (.slice 27) by kernel_rfl), ⟨(Try.prog.info? 39).getD default, (.slice none 0 0), by kernel_rfl, by kernel_rfl, by kernel_rfl, by kernel_rfl, rfl, relL_cellAV _ [(.slice none 0 0)], relL_cellAV _ [(.slice none 0 0)]⟩, fun h => by cases h⟩
-- func([]api.Record) []api.Commit
def ty40 : TyRow := ⟨.func, 1, 8, [.nilF], false⟩
theorem ty40_met : ty40.met Try.prog 40 := ⟨⟨(funcOf Try.prog 40).1, (funcOf Try.prog 40).2.1, (funcOf Try.prog 40).2.2, by kernel_rfl⟩, ⟨(Try.prog.info? 40).getD default, .nilFunc, by kernel_rfl, by kernel_rfl, by kernel_rfl, by kernel_rfl, rfl, relL_cellAV _ [.nilFunc], relL_cellAV _ [.nilFunc]⟩, fun h => by cases h⟩
-- func([]api.Record) int
def ty41 : TyRow := ⟨.func, 1, 8, [.nilF], false⟩
theorem ty41_met : ty41.met Try.prog 41 := ⟨⟨(funcOf Try.prog 41).1, (funcOf Try.prog 41).2.1, (funcOf Try.prog 41).2.2, by kernel_rfl⟩, ⟨(Try.prog.info? 41).getD default, .nilFunc, by kernel_rfl, by kernel_rfl, by kernel_rfl, by kernel_rfl, rfl, relL_cellAV _ [.nilFunc], relL_cellAV _ [.nilFunc]⟩, fun h => by cases h⟩
-- func([]api.Record, int) bool
def ty42 : TyRow := ⟨.func, 1, 8, [.nilF], false⟩
theorem ty42_met : ty42.met Try.prog 42 := ⟨⟨(funcOf Try.prog 42).1, (funcOf Try.prog 42).2.1, (funcOf Try.prog 42).2.2, by kernel_rfl⟩, ⟨(Try.prog.info? 42).getD default, .nilFunc, by kernel_rfl, by kernel_rfl, by kernel_rfl, by kernel_rfl, rfl, relL_cellAV _ [.nilFunc], relL_cellAV _ [.nilFunc]⟩, fun h => by cases h⟩
-- []int
def ty43 : TyRow := ⟨.slice 3, 1, 24, [.nilS], false⟩
theorem ty43_met : ty43.met Try.prog 43 := ⟨(show Try.prog.underlying 43 = some (.slice 3) by kernel_rfl), ⟨(Try.prog.info? 43).getD default, (.slice none 0 0), by kernel_rfl, by kernel_rfl, by kernel_rfl, by kernel_rfl, rfl, relL_cellAV _ [(.slice none 0 0)], relL_cellAV _ [(.slice none 0 0)]⟩, fun h => by cases h⟩
-- func([]int, []int) bool
def ty44 : TyRow := ⟨.func, 1, 8, [.nilF], false⟩
theorem ty44_met : ty44.met Try.prog 44 := ⟨⟨(funcOf Try.prog 44).1, (funcOf Try.prog 44).2.1, (funcOf Try.prog 44).2.2, by kernel_rfl⟩, ⟨(Try.prog.info? 44).getD default, .nilFunc, by kernel_rfl, by kernel_rfl, by kernel_rfl, by kernel_rfl, rfl, relL_cellAV _ [.nilFunc], relL_cellAV _ [.nilFunc]⟩, fun h => by cases h⟩
-- func([]api.Record) []int
def ty45 : TyRow := ⟨.func, 1, 8, [.nilF], false⟩
theorem ty45_met : ty45.met Try.prog 45 := ⟨⟨(funcOf Try.prog 45).1, (funcOf Try.prog 45).2.1, (funcOf Try.prog 45).2.2, by kernel_rfl⟩, ⟨(Try.prog.info? 45).getD default, .nilFunc, by kernel_rfl, by kernel_rfl, by kernel_rfl, by kernel_rfl, rfl, relL_cellAV _ [.nilFunc], relL_cellAV _ [.nilFunc]⟩, fun h => by cases h⟩
-- func([]api.Call, []int) bool
def ty46 : TyRow := ⟨.func, 1, 8, [.nilF], false⟩
theorem ty46_met : ty46.met Try.prog 46 := ⟨⟨(funcOf Try.prog 46).1, (funcOf Try.prog 46).2.1, (funcOf Try.prog 46).2.2, by kernel_rfl⟩, ⟨(Try.prog.info? 46).getD default, .nilFunc, by kernel_rfl, by kernel_rfl, by kernel_rfl, by kernel_rfl, rfl, relL_cellAV _ [.nilFunc], relL_cellAV _ [.nilFunc]⟩, fun h => by cases h⟩
-- func([]api.Record, []int) []api.Commit
def ty47 : TyRow := ⟨.func, 1, 8, [.nilF], false⟩
theorem ty47_met : ty47.met Try.prog 47 := ⟨⟨(funcOf Try.prog 47).1, (funcOf Try.prog 47).2.1, (funcOf Try.prog 47).2.2, by kernel_rfl⟩, ⟨(Try.prog.info? 47).getD default, .nilFunc, by kernel_rfl, by kernel_rfl, by kernel_rfl, by kernel_rfl, rfl, relL_cellAV _ [.nilFunc], relL_cellAV _ [.nilFunc]⟩, fun h => by cases h⟩
-- func([]api.Record) api.Errno
def ty48 : TyRow := ⟨.func, 1, 8, [.nilF], false⟩
theorem ty48_met : ty48.met Try.prog 48 := ⟨⟨(funcOf Try.prog 48).1, (funcOf Try.prog 48).2.1, (funcOf Try.prog 48).2.2, by kernel_rfl⟩, ⟨(Try.prog.info? 48).getD default, .nilFunc, by kernel_rfl, by kernel_rfl, by kernel_rfl, by kernel_rfl, rfl, relL_cellAV _ [.nilFunc], relL_cellAV _ [.nilFunc]⟩, fun h => by cases h⟩
-- func([]api.Record, []int) bool
def ty49 : TyRow := ⟨.func, 1, 8, [.nilF], false⟩
theorem ty49_met : ty49.met Try.prog 49 := ⟨⟨(funcOf Try.prog 49).1, (funcOf Try.prog 49).2.1, (funcOf Try.prog 49).2.2, by kernel_rfl⟩, ⟨(Try.prog.info? 49).getD default, .nilFunc, by kernel_rfl, by kernel_rfl, by kernel_rfl, by kernel_rfl, rfl, relL_cellAV _ [.nilFunc], relL_cellAV _ [.nilFunc]⟩, fun h => by cases h⟩
-- func() []api.Record
def ty50 : TyRow := ⟨.func, 1, 8, [.nilF], false⟩
theorem ty50_met : ty50.met Try.prog 50 := ⟨⟨(funcOf Try.prog 50).1, (funcOf Try.prog 50).2.1, (funcOf Try.prog 50).2.2, by kernel_rfl⟩, ⟨(Try.prog.info? 50).getD default, .nilFunc, by kernel_rfl, by kernel_rfl, by kernel_rfl, by kernel_rfl, rfl, relL_cellAV _ [.nilFunc], relL_cellAV _ [.nilFunc]⟩, fun h => by cases h⟩
-- func([]api.Record) ([]api.Call, bool)
def ty52 : TyRow := ⟨.func, 1, 8, [.nilF], false⟩
theorem ty52_met : ty52.met Try.prog 52 := ⟨⟨(funcOf Try.prog 52).1, (funcOf Try.prog 52).2.1, (funcOf Try.prog 52).2.2, by kernel_rfl⟩, ⟨(Try.prog.info? 52).getD default, .nilFunc, by kernel_rfl, by kernel_rfl, by kernel_rfl, by kernel_rfl, rfl, relL_cellAV _ [.nilFunc], relL_cellAV _ [.nilFunc]⟩, fun h => by cases h⟩
-- map[int]bool
def ty53 : TyRow := ⟨.map 3 4, 1, 8, [.nilM], false⟩
theorem ty53_met : ty53.met Try.prog 53 := ⟨(show Try.prog.underlying 53 = some (.map 3 4) by kernel_rfl), ⟨(Try.prog.info? 53).getD default, (.map none), by kernel_rfl, by kernel_rfl, by kernel_rfl, by kernel_rfl, rfl, relL_cellAV _ [(.map none)], relL_cellAV _ [(.map none)]⟩, fun h => by cases h⟩
-- func(api.Record, bool, api.Record) bool
def ty54 : TyRow := ⟨.func, 1, 8, [.nilF], false⟩
theorem ty54_met : ty54.met Try.prog 54 := ⟨⟨(funcOf Try.prog 54).1, (funcOf Try.prog 54).2.1, (funcOf Try.prog 54).2.2, by kernel_rfl⟩, ⟨(Try.prog.info? 54).getD default, .nilFunc, by kernel_rfl, by kernel_rfl, by kernel_rfl, by kernel_rfl, rfl, relL_cellAV _ [.nilFunc], relL_cellAV _ [.nilFunc]⟩, fun h => by cases h⟩
-- func(int) []api.Record
def ty55 : TyRow := ⟨.func, 1, 8, [.nilF], false⟩
theorem ty55_met : ty55.met Try.prog 55 := ⟨⟨(funcOf Try.prog 55).1, (funcOf Try.prog 55).2.1, (funcOf Try.prog 55).2.2, by kernel_rfl⟩, ⟨(Try.prog.info? 55).getD default, .nilFunc, by kernel_rfl, by kernel_rfl, by kernel_rfl, by kernel_rfl, rfl, relL_cellAV _ [.nilFunc], relL_cellAV _ [.nilFunc]⟩, fun h => by cases h⟩
-- map[int]int
def ty56 : TyRow := ⟨.map 3 3, 1, 8, [.nilM], false⟩
theorem ty56_met : ty56.met Try.prog 56 := ⟨(show Try.prog.underlying 56 = some (.map 3 3) by kernel_rfl), ⟨(Try.prog.info? 56).getD default, (.map none), by kernel_rfl, by kernel_rfl, by kernel_rfl, by kernel_rfl, rfl, relL_cellAV _ [(.map none)], relL_cellAV _ [(.map none)]⟩, fun h => by cases h⟩
-- func(int) bool
def ty57 : TyRow := ⟨.func, 1, 8, [.nilF], false⟩
theorem ty57_met : ty57.met Try.prog 57 := ⟨⟨(funcOf Try.prog 57).1, (funcOf Try.prog 57).2.1, (funcOf Try.prog 57).2.2, by kernel_rfl⟩, ⟨(Try.prog.info? 57).getD default, .nilFunc, by kernel_rfl, by kernel_rfl, by kernel_rfl, by kernel_rfl, rfl, relL_cellAV _ [.nilFunc], relL_cellAV _ [.nilFunc]⟩, fun h => by cases h⟩
-- func([]int, func(int) bool) bool
def ty58 : TyRow := ⟨.func, 1, 8, [.nilF], false⟩
theorem ty58_met : ty58.met Try.prog 58 := ⟨⟨(funcOf Try.prog 58).1, (funcOf Try.prog 58).2.1, (funcOf Try.prog 58).2.2, by kernel_rfl⟩, ⟨(Try.prog.info? 58).getD default, .nilFunc, by kernel_rfl, by kernel_rfl, by kernel_rfl, by kernel_rfl, rfl, relL_cellAV _ [.nilFunc], relL_cellAV _ [.nilFunc]⟩, fun h => by cases h⟩
-- func(api.Record) bool
def ty59 : TyRow := ⟨.func, 1, 8, [.nilF], false⟩
theorem ty59_met : ty59.met Try.prog 59 := ⟨⟨(funcOf Try.prog 59).1, (funcOf Try.prog 59).2.1, (funcOf Try.prog 59).2.2, by kernel_rfl⟩, ⟨(Try.prog.info? 59).getD default, .nilFunc, by kernel_rfl, by kernel_rfl, by kernel_rfl, by kernel_rfl, rfl, relL_cellAV _ [.nilFunc], relL_cellAV _ [.nilFunc]⟩, fun h => by cases h⟩
-- func(api.Call) bool
def ty60 : TyRow := ⟨.func, 1, 8, [.nilF], false⟩
theorem ty60_met : ty60.met Try.prog 60 := ⟨⟨(funcOf Try.prog 60).1, (funcOf Try.prog 60).2.1, (funcOf Try.prog 60).2.2, by kernel_rfl⟩, ⟨(Try.prog.info? 60).getD default, .nilFunc, by kernel_rfl, by kernel_rfl, by kernel_rfl, by kernel_rfl, rfl, relL_cellAV _ [.nilFunc], relL_cellAV _ [.nilFunc]⟩, fun h => by cases h⟩
-- func([]api.Call, func(api.Call) bool) bool
def ty61 : TyRow := ⟨.func, 1, 8, [.nilF], false⟩
theorem ty61_met : ty61.met Try.prog 61 := ⟨⟨(funcOf Try.prog 61).1, (funcOf Try.prog 61).2.1, (funcOf Try.prog 61).2.2, by kernel_rfl⟩, ⟨(Try.prog.info? 61).getD default, .nilFunc, by kernel_rfl, by kernel_rfl, by kernel_rfl, by kernel_rfl, rfl, relL_cellAV _ [.nilFunc], relL_cellAV _ [.nilFunc]⟩, fun h => by cases h⟩
-- func([]api.Commit) int
def ty62 : TyRow := ⟨.func, 1, 8, [.nilF], false⟩
theorem ty62_met : ty62.met Try.prog 62 := ⟨⟨(funcOf Try.prog 62).1, (funcOf Try.prog 62).2.1, (funcOf Try.prog 62).2.2, by kernel_rfl⟩, ⟨(Try.prog.info? 62).getD default, .nilFunc, by kernel_rfl, by kernel_rfl, by kernel_rfl, by kernel_rfl, rfl, relL_cellAV _ [.nilFunc], relL_cellAV _ [.nilFunc]⟩, fun h => by cases h⟩
-- func([]api.Commit) bool
def ty63 : TyRow := ⟨.func, 1, 8, [.nilF], false⟩
theorem ty63_met : ty63.met Try.prog 63 := ⟨⟨(funcOf Try.prog 63).1, (funcOf Try.prog 63).2.1, (funcOf Try.prog 63).2.2, by kernel_rfl⟩, ⟨(Try.prog.info? 63).getD default, .nilFunc, by kernel_rfl, by kernel_rfl, by kernel_rfl, by kernel_rfl, rfl, relL_cellAV _ [.nilFunc], relL_cellAV _ [.nilFunc]⟩, fun h => by cases h⟩
-- *hist.reader
def ty64 : TyRow := ⟨.ptr 67, 1, 8, [.nilP], false⟩
theorem ty64_met : ty64.met Try.prog 64 := ⟨(show Try.prog.underlying 64 = some (.pointer 67) by kernel_rfl), ⟨(Try.prog.info? 64).getD default, (.pointer none), by kernel_rfl, by kernel_rfl, by kernel_rfl, by kernel_rfl, rfl, relL_cellAV _ [(.pointer none)], relL_cellAV _ [(.pointer none)]⟩, fun h => by cases h⟩
-- map[int]hist.open
def ty65 : TyRow := ⟨.map 3 84, 1, 8, [.nilM], false⟩
theorem ty65_met : ty65.met Try.prog 65 := ⟨(show Try.prog.underlying 65 = some (.map 3 84) by kernel_rfl), ⟨(Try.prog.info? 65).getD default, (.map none), by kernel_rfl, by kernel_rfl, by kernel_rfl, by kernel_rfl, rfl, relL_cellAV _ [(.map none)], relL_cellAV _ [(.map none)]⟩, fun h => by cases h⟩
-- struct { at map[int]hist.open; calls []api.Call }
def ty66 : TyRow := ⟨.struct [(0, 65), (1, 31)], 2, 32, [.nilM, .nilS], false⟩
theorem ty66_met : ty66.met Try.prog 66 := ⟨⟨Try.prog.fieldsOf 66, by kernel_rfl, by kernel_rfl⟩, ⟨(Try.prog.info? 66).getD default, (.agg #[(.map none), (.slice none 0 0)]), by kernel_rfl, by kernel_rfl, by kernel_rfl, by kernel_rfl, rfl, ⟨[(.map none), (.slice none 0 0)], relL_cellAV _ [(.map none), (.slice none 0 0)], rfl⟩, relL_cellAV _ [(.map none), (.slice none 0 0)]⟩, fun h => by cases h⟩
-- hist.reader
def ty67 : TyRow := ⟨.struct [(0, 65), (1, 31)], 2, 32, [.nilM, .nilS], false⟩
theorem ty67_met : ty67.met Try.prog 67 := ⟨⟨Try.prog.fieldsOf 67, by kernel_rfl, by kernel_rfl⟩, ⟨(Try.prog.info? 67).getD default, (.agg #[(.map none), (.slice none 0 0)]), by kernel_rfl, by kernel_rfl, by kernel_rfl, by kernel_rfl, rfl, ⟨[(.map none), (.slice none 0 0)], relL_cellAV _ [(.map none), (.slice none 0 0)], rfl⟩, relL_cellAV _ [(.map none), (.slice none 0 0)]⟩, fun h => by cases h⟩
-- func(api.Record, int) bool
def ty68 : TyRow := ⟨.func, 1, 8, [.nilF], false⟩
theorem ty68_met : ty68.met Try.prog 68 := ⟨⟨(funcOf Try.prog 68).1, (funcOf Try.prog 68).2.1, (funcOf Try.prog 68).2.2, by kernel_rfl⟩, ⟨(Try.prog.info? 68).getD default, .nilFunc, by kernel_rfl, by kernel_rfl, by kernel_rfl, by kernel_rfl, rfl, relL_cellAV _ [.nilFunc], relL_cellAV _ [.nilFunc]⟩, fun h => by cases h⟩
-- func([]int, func(int) bool) int
def ty69 : TyRow := ⟨.func, 1, 8, [.nilF], false⟩
theorem ty69_met : ty69.met Try.prog 69 := ⟨⟨(funcOf Try.prog 69).1, (funcOf Try.prog 69).2.1, (funcOf Try.prog 69).2.2, by kernel_rfl⟩, ⟨(Try.prog.info? 69).getD default, .nilFunc, by kernel_rfl, by kernel_rfl, by kernel_rfl, by kernel_rfl, rfl, relL_cellAV _ [.nilFunc], relL_cellAV _ [.nilFunc]⟩, fun h => by cases h⟩
-- func([]api.Call, func(api.Call) bool) int
def ty70 : TyRow := ⟨.func, 1, 8, [.nilF], false⟩
theorem ty70_met : ty70.met Try.prog 70 := ⟨⟨(funcOf Try.prog 70).1, (funcOf Try.prog 70).2.1, (funcOf Try.prog 70).2.2, by kernel_rfl⟩, ⟨(Try.prog.info? 70).getD default, .nilFunc, by kernel_rfl, by kernel_rfl, by kernel_rfl, by kernel_rfl, rfl, relL_cellAV _ [.nilFunc], relL_cellAV _ [.nilFunc]⟩, fun h => by cases h⟩
-- spec.state
def ty71 : TyRow := ⟨.map 3 3, 1, 8, [.nilM], false⟩
theorem ty71_met : ty71.met Try.prog 71 := ⟨(show Try.prog.underlying 71 = some (.map 3 3) by kernel_rfl), ⟨(Try.prog.info? 71).getD default, (.map none), by kernel_rfl, by kernel_rfl, by kernel_rfl, by kernel_rfl, rfl, relL_cellAV _ [(.map none)], relL_cellAV _ [(.map none)]⟩, fun h => by cases h⟩
-- func([]api.Commit) (int, spec.state)
def ty73 : TyRow := ⟨.func, 1, 8, [.nilF], false⟩
theorem ty73_met : ty73.met Try.prog 73 := ⟨⟨(funcOf Try.prog 73).1, (funcOf Try.prog 73).2.1, (funcOf Try.prog 73).2.2, by kernel_rfl⟩, ⟨(Try.prog.info? 73).getD default, .nilFunc, by kernel_rfl, by kernel_rfl, by kernel_rfl, by kernel_rfl, rfl, relL_cellAV _ [.nilFunc], relL_cellAV _ [.nilFunc]⟩, fun h => by cases h⟩
-- [][2]int
def ty74 : TyRow := ⟨.slice 89, 1, 24, [.nilS], false⟩
theorem ty74_met : ty74.met Try.prog 74 := ⟨(show Try.prog.underlying 74 = some (.slice 89) by kernel_rfl), ⟨(Try.prog.info? 74).getD default, (.slice none 0 0), by kernel_rfl, by kernel_rfl, by kernel_rfl, by kernel_rfl, rfl, relL_cellAV _ [(.slice none 0 0)], relL_cellAV _ [(.slice none 0 0)]⟩, fun h => by cases h⟩
-- func([]api.Commit) (int, [][2]int)
def ty76 : TyRow := ⟨.func, 1, 8, [.nilF], false⟩
theorem ty76_met : ty76.met Try.prog 76 := ⟨⟨(funcOf Try.prog 76).1, (funcOf Try.prog 76).2.1, (funcOf Try.prog 76).2.2, by kernel_rfl⟩, ⟨(Try.prog.info? 76).getD default, .nilFunc, by kernel_rfl, by kernel_rfl, by kernel_rfl, by kernel_rfl, rfl, relL_cellAV _ [.nilFunc], relL_cellAV _ [.nilFunc]⟩, fun h => by cases h⟩
-- func([]api.Commit) []int
def ty77 : TyRow := ⟨.func, 1, 8, [.nilF], false⟩
theorem ty77_met : ty77.met Try.prog 77 := ⟨⟨(funcOf Try.prog 77).1, (funcOf Try.prog 77).2.1, (funcOf Try.prog 77).2.2, by kernel_rfl⟩, ⟨(Try.prog.info? 77).getD default, .nilFunc, by kernel_rfl, by kernel_rfl, by kernel_rfl, by kernel_rfl, rfl, relL_cellAV _ [.nilFunc], relL_cellAV _ [.nilFunc]⟩, fun h => by cases h⟩
-- func(int, int, int) (api.Commit, bool)
def ty79 : TyRow := ⟨.func, 1, 8, [.nilF], false⟩
theorem ty79_met : ty79.met Try.prog 79 := ⟨⟨(funcOf Try.prog 79).1, (funcOf Try.prog 79).2.1, (funcOf Try.prog 79).2.2, by kernel_rfl⟩, ⟨(Try.prog.info? 79).getD default, .nilFunc, by kernel_rfl, by kernel_rfl, by kernel_rfl, by kernel_rfl, rfl, relL_cellAV _ [.nilFunc], relL_cellAV _ [.nilFunc]⟩, fun h => by cases h⟩
-- func(api.Commit)
def ty80 : TyRow := ⟨.func, 1, 8, [.nilF], false⟩
theorem ty80_met : ty80.met Try.prog 80 := ⟨⟨(funcOf Try.prog 80).1, (funcOf Try.prog 80).2.1, (funcOf Try.prog 80).2.2, by kernel_rfl⟩, ⟨(Try.prog.info? 80).getD default, .nilFunc, by kernel_rfl, by kernel_rfl, by kernel_rfl, by kernel_rfl, rfl, relL_cellAV _ [.nilFunc], relL_cellAV _ [.nilFunc]⟩, fun h => by cases h⟩
-- func([][2]int, int, int, int) (api.Commit, [][2]int)
def ty82 : TyRow := ⟨.func, 1, 8, [.nilF], false⟩
theorem ty82_met : ty82.met Try.prog 82 := ⟨⟨(funcOf Try.prog 82).1, (funcOf Try.prog 82).2.1, (funcOf Try.prog 82).2.2, by kernel_rfl⟩, ⟨(Try.prog.info? 82).getD default, .nilFunc, by kernel_rfl, by kernel_rfl, by kernel_rfl, by kernel_rfl, rfl, relL_cellAV _ [.nilFunc], relL_cellAV _ [.nilFunc]⟩, fun h => by cases h⟩
-- struct { last api.Record; call int }
def ty83 : TyRow := ⟨.struct [(0, 30), (8, 3)], 9, 72, [.lit .i64 0, .lit .i64 0, .lit .i64 0, .lit .i64 0, .lit .i64 0, .lit .i64 0, .ff, .lit .i64 0, .lit .i64 0], true⟩
theorem ty83_met : ty83.met Try.prog 83 := ⟨⟨Try.prog.fieldsOf 83, by kernel_rfl, by kernel_rfl⟩, ⟨(Try.prog.info? 83).getD default, (.agg #[(.int .i64 0), (.int .i64 0), (.int .i64 0), (.int .i64 0), (.int .i64 0), (.int .i64 0), (.bool false), (.int .i64 0), (.int .i64 0)]), by kernel_rfl, by kernel_rfl, by kernel_rfl, by kernel_rfl, rfl, ⟨[(.int .i64 0), (.int .i64 0), (.int .i64 0), (.int .i64 0), (.int .i64 0), (.int .i64 0), (.bool false), (.int .i64 0), (.int .i64 0)], relL_cellAV _ [(.int .i64 0), (.int .i64 0), (.int .i64 0), (.int .i64 0), (.int .i64 0), (.int .i64 0), (.bool false), (.int .i64 0), (.int .i64 0)], rfl⟩, relL_cellAV _ [(.int .i64 0), (.int .i64 0), (.int .i64 0), (.int .i64 0), (.int .i64 0), (.int .i64 0), (.bool false), (.int .i64 0), (.int .i64 0)]⟩, fun _ => ⟨by kernel_rfl, by kernel_rfl, names_ok (by kernel_rfl) (by kernel_rfl)⟩⟩
-- hist.open
def ty84 : TyRow := ⟨.struct [(0, 30), (8, 3)], 9, 72, [.lit .i64 0, .lit .i64 0, .lit .i64 0, .lit .i64 0, .lit .i64 0, .lit .i64 0, .ff, .lit .i64 0, .lit .i64 0], true⟩
theorem ty84_met : ty84.met Try.prog 84 := ⟨⟨Try.prog.fieldsOf 84, by kernel_rfl, by kernel_rfl⟩, ⟨(Try.prog.info? 84).getD default, (.agg #[(.int .i64 0), (.int .i64 0), (.int .i64 0), (.int .i64 0), (.int .i64 0), (.int .i64 0), (.bool false), (.int .i64 0), (.int .i64 0)]), by kernel_rfl, by kernel_rfl, by kernel_rfl, by kernel_rfl, rfl, ⟨[(.int .i64 0), (.int .i64 0), (.int .i64 0), (.int .i64 0), (.int .i64 0), (.int .i64 0), (.bool false), (.int .i64 0), (.int .i64 0)], relL_cellAV _ [(.int .i64 0), (.int .i64 0), (.int .i64 0), (.int .i64 0), (.int .i64 0), (.int .i64 0), (.bool false), (.int .i64 0), (.int .i64 0)], rfl⟩, relL_cellAV _ [(.int .i64 0), (.int .i64 0), (.int .i64 0), (.int .i64 0), (.int .i64 0), (.int .i64 0), (.bool false), (.int .i64 0), (.int .i64 0)]⟩, fun _ => ⟨by kernel_rfl, by kernel_rfl, names_ok (by kernel_rfl) (by kernel_rfl)⟩⟩
-- *api.Call
def ty86 : TyRow := ⟨.ptr 35, 1, 8, [.nilP], false⟩
theorem ty86_met : ty86.met Try.prog 86 := ⟨(show Try.prog.underlying 86 = some (.pointer 35) by kernel_rfl), ⟨(Try.prog.info? 86).getD default, (.pointer none), by kernel_rfl, by kernel_rfl, by kernel_rfl, by kernel_rfl, rfl, relL_cellAV _ [(.pointer none)], relL_cellAV _ [(.pointer none)]⟩, fun h => by cases h⟩
-- func([][2]int, int) int
def ty88 : TyRow := ⟨.func, 1, 8, [.nilF], false⟩
theorem ty88_met : ty88.met Try.prog 88 := ⟨⟨(funcOf Try.prog 88).1, (funcOf Try.prog 88).2.1, (funcOf Try.prog 88).2.2, by kernel_rfl⟩, ⟨(Try.prog.info? 88).getD default, .nilFunc, by kernel_rfl, by kernel_rfl, by kernel_rfl, by kernel_rfl, rfl, relL_cellAV _ [.nilFunc], relL_cellAV _ [.nilFunc]⟩, fun h => by cases h⟩
-- [2]int
def ty89 : TyRow := ⟨.array 2 3, 2, 16, [.lit .i64 0, .lit .i64 0], false⟩
theorem ty89_met : ty89.met Try.prog 89 := ⟨(show Try.prog.underlying 89 = some (.array 2 3) by kernel_rfl), ⟨(Try.prog.info? 89).getD default, (.agg #[(.int .i64 0), (.int .i64 0)]), by kernel_rfl, by kernel_rfl, by kernel_rfl, by kernel_rfl, rfl, ⟨[(.int .i64 0), (.int .i64 0)], relL_cellAV _ [(.int .i64 0), (.int .i64 0)], rfl⟩, relL_cellAV _ [(.int .i64 0), (.int .i64 0)]⟩, fun h => by cases h⟩
-- func([][2]int, int) [][2]int
def ty90 : TyRow := ⟨.func, 1, 8, [.nilF], false⟩
theorem ty90_met : ty90.met Try.prog 90 := ⟨⟨(funcOf Try.prog 90).1, (funcOf Try.prog 90).2.1, (funcOf Try.prog 90).2.2, by kernel_rfl⟩, ⟨(Try.prog.info? 90).getD default, .nilFunc, by kernel_rfl, by kernel_rfl, by kernel_rfl, by kernel_rfl, rfl, relL_cellAV _ [.nilFunc], relL_cellAV _ [.nilFunc]⟩, fun h => by cases h⟩
-- func() string
def ty91 : TyRow := ⟨.func, 1, 8, [.nilF], false⟩
theorem ty91_met : ty91.met Try.prog 91 := ⟨⟨(funcOf Try.prog 91).1, (funcOf Try.prog 91).2.1, (funcOf Try.prog 91).2.2, by kernel_rfl⟩, ⟨(Try.prog.info? 91).getD default, .nilFunc, by kernel_rfl, by kernel_rfl, by kernel_rfl, by kernel_rfl, rfl, relL_cellAV _ [.nilFunc], relL_cellAV _ [.nilFunc]⟩, fun h => by cases h⟩
-- struct { _interface *abi.Type; concrete *abi.Type; asserted *abi.Type; missingMethod string }
def ty92 : TyRow := ⟨.struct [(0, 17), (1, 17), (2, 17), (3, 9)], 4, 40, [.nilP, .nilP, .nilP, .raw (.string (ByteArray.mk #[]))], false⟩
theorem ty92_met : ty92.met Try.prog 92 := ⟨⟨Try.prog.fieldsOf 92, by kernel_rfl, by kernel_rfl⟩, ⟨(Try.prog.info? 92).getD default, (.agg #[(.pointer none), (.pointer none), (.pointer none), (.string (ByteArray.mk #[]))]), by kernel_rfl, by kernel_rfl, by kernel_rfl, by kernel_rfl, rfl, ⟨[(.pointer none), (.pointer none), (.pointer none), (.string (ByteArray.mk #[]))], relL_cellAV _ [(.pointer none), (.pointer none), (.pointer none), (.string (ByteArray.mk #[]))], rfl⟩, relL_cellAV _ [(.pointer none), (.pointer none), (.pointer none), (.string (ByteArray.mk #[]))]⟩, fun h => by cases h⟩
-- runtime.TypeAssertionError
def ty93 : TyRow := ⟨.struct [(0, 17), (1, 17), (2, 17), (3, 9)], 4, 40, [.nilP, .nilP, .nilP, .raw (.string (ByteArray.mk #[]))], false⟩
theorem ty93_met : ty93.met Try.prog 93 := ⟨⟨Try.prog.fieldsOf 93, by kernel_rfl, by kernel_rfl⟩, ⟨(Try.prog.info? 93).getD default, (.agg #[(.pointer none), (.pointer none), (.pointer none), (.string (ByteArray.mk #[]))]), by kernel_rfl, by kernel_rfl, by kernel_rfl, by kernel_rfl, rfl, ⟨[(.pointer none), (.pointer none), (.pointer none), (.string (ByteArray.mk #[]))], relL_cellAV _ [(.pointer none), (.pointer none), (.pointer none), (.string (ByteArray.mk #[]))], rfl⟩, relL_cellAV _ [(.pointer none), (.pointer none), (.pointer none), (.string (ByteArray.mk #[]))]⟩, fun h => by cases h⟩
-- [0]*runtime.PanicNilError
def ty94 : TyRow := ⟨.array 0 16, 0, 0, [], false⟩
theorem ty94_met : ty94.met Try.prog 94 := ⟨(show Try.prog.underlying 94 = some (.array 0 16) by kernel_rfl), ⟨(Try.prog.info? 94).getD default, (.agg #[]), by kernel_rfl, by kernel_rfl, by kernel_rfl, by kernel_rfl, rfl, ⟨[], relL_cellAV _ [], rfl⟩, relL_cellAV _ []⟩, fun h => by cases h⟩
-- struct { _ [0]*runtime.PanicNilError }
def ty95 : TyRow := ⟨.struct [(0, 94)], 0, 0, [], false⟩
theorem ty95_met : ty95.met Try.prog 95 := ⟨⟨Try.prog.fieldsOf 95, by kernel_rfl, by kernel_rfl⟩, ⟨(Try.prog.info? 95).getD default, (.agg #[]), by kernel_rfl, by kernel_rfl, by kernel_rfl, by kernel_rfl, rfl, ⟨[], relL_cellAV _ [], rfl⟩, relL_cellAV _ []⟩, fun h => by cases h⟩
-- runtime.PanicNilError
def ty96 : TyRow := ⟨.struct [(0, 94)], 0, 0, [], false⟩
theorem ty96_met : ty96.met Try.prog 96 := ⟨⟨Try.prog.fieldsOf 96, by kernel_rfl, by kernel_rfl⟩, ⟨(Try.prog.info? 96).getD default, (.agg #[]), by kernel_rfl, by kernel_rfl, by kernel_rfl, by kernel_rfl, rfl, ⟨[], relL_cellAV _ [], rfl⟩, relL_cellAV _ []⟩, fun h => by cases h⟩
-- func() int
def ty97 : TyRow := ⟨.func, 1, 8, [.nilF], false⟩
theorem ty97_met : ty97.met Try.prog 97 := ⟨⟨(funcOf Try.prog 97).1, (funcOf Try.prog 97).2.1, (funcOf Try.prog 97).2.2, by kernel_rfl⟩, ⟨(Try.prog.info? 97).getD default, .nilFunc, by kernel_rfl, by kernel_rfl, by kernel_rfl, by kernel_rfl, rfl, relL_cellAV _ [.nilFunc], relL_cellAV _ [.nilFunc]⟩, fun h => by cases h⟩
-- uint32
def ty98 : TyRow := ⟨.int .u32, 1, 4, [.lit .u32 0], false⟩
theorem ty98_met : ty98.met Try.prog 98 := ⟨(show Try.prog.underlying 98 = some (.int .u32) by kernel_rfl), ⟨(Try.prog.info? 98).getD default, (.int .u32 0), by kernel_rfl, by kernel_rfl, by kernel_rfl, by kernel_rfl, rfl, relL_cellAV _ [(.int .u32 0)], relL_cellAV _ [(.int .u32 0)]⟩, fun h => by cases h⟩
-- abi.TFlag
def ty99 : TyRow := ⟨.int .u8, 1, 1, [.lit .u8 0], false⟩
theorem ty99_met : ty99.met Try.prog 99 := ⟨(show Try.prog.underlying 99 = some (.int .u8) by kernel_rfl), ⟨(Try.prog.info? 99).getD default, (.int .u8 0), by kernel_rfl, by kernel_rfl, by kernel_rfl, by kernel_rfl, rfl, relL_cellAV _ [(.int .u8 0)], relL_cellAV _ [(.int .u8 0)]⟩, fun h => by cases h⟩
-- abi.Kind
def ty100 : TyRow := ⟨.int .u8, 1, 1, [.lit .u8 0], false⟩
theorem ty100_met : ty100.met Try.prog 100 := ⟨(show Try.prog.underlying 100 = some (.int .u8) by kernel_rfl), ⟨(Try.prog.info? 100).getD default, (.int .u8 0), by kernel_rfl, by kernel_rfl, by kernel_rfl, by kernel_rfl, rfl, relL_cellAV _ [(.int .u8 0)], relL_cellAV _ [(.int .u8 0)]⟩, fun h => by cases h⟩
-- func(unsafe.Pointer, unsafe.Pointer) bool
def ty101 : TyRow := ⟨.func, 1, 8, [.nilF], false⟩
theorem ty101_met : ty101.met Try.prog 101 := ⟨⟨(funcOf Try.prog 101).1, (funcOf Try.prog 101).2.1, (funcOf Try.prog 101).2.2, by kernel_rfl⟩, ⟨(Try.prog.info? 101).getD default, .nilFunc, by kernel_rfl, by kernel_rfl, by kernel_rfl, by kernel_rfl, rfl, relL_cellAV _ [.nilFunc], relL_cellAV _ [.nilFunc]⟩, fun h => by cases h⟩
-- *uint8
def ty102 : TyRow := ⟨.ptr 5, 1, 8, [.nilP], false⟩
theorem ty102_met : ty102.met Try.prog 102 := ⟨(show Try.prog.underlying 102 = some (.pointer 5) by kernel_rfl), ⟨(Try.prog.info? 102).getD default, (.pointer none), by kernel_rfl, by kernel_rfl, by kernel_rfl, by kernel_rfl, rfl, relL_cellAV _ [(.pointer none)], relL_cellAV _ [(.pointer none)]⟩, fun h => by cases h⟩
-- abi.NameOff
def ty103 : TyRow := ⟨.int .i32, 1, 4, [.lit .i32 0], false⟩
theorem ty103_met : ty103.met Try.prog 103 := ⟨(show Try.prog.underlying 103 = some (.int .i32) by kernel_rfl), ⟨(Try.prog.info? 103).getD default, (.int .i32 0), by kernel_rfl, by kernel_rfl, by kernel_rfl, by kernel_rfl, rfl, relL_cellAV _ [(.int .i32 0)], relL_cellAV _ [(.int .i32 0)]⟩, fun h => by cases h⟩
-- abi.TypeOff
def ty104 : TyRow := ⟨.int .i32, 1, 4, [.lit .i32 0], false⟩
theorem ty104_met : ty104.met Try.prog 104 := ⟨(show Try.prog.underlying 104 = some (.int .i32) by kernel_rfl), ⟨(Try.prog.info? 104).getD default, (.int .i32 0), by kernel_rfl, by kernel_rfl, by kernel_rfl, by kernel_rfl, rfl, relL_cellAV _ [(.int .i32 0)], relL_cellAV _ [(.int .i32 0)]⟩, fun h => by cases h⟩
-- struct { Size_ uintptr; PtrBytes uintptr; Hash uint32; TFlag abi.TFlag; Align_ uint8; FieldAlign_ ui
def ty105 : TyRow := ⟨.struct [(0, 12), (1, 12), (2, 98), (3, 99), (4, 5), (5, 5), (6, 100), (7, 101), (8, 102), (9, 103), (10, 104)], 11, 48, [.lit .u64 0, .lit .u64 0, .lit .u32 0, .lit .u8 0, .lit .u8 0, .lit .u8 0, .lit .u8 0, .nilF, .nilP, .lit .i32 0, .lit .i32 0], false⟩
theorem ty105_met : ty105.met Try.prog 105 := ⟨⟨Try.prog.fieldsOf 105, by kernel_rfl, by kernel_rfl⟩, ⟨(Try.prog.info? 105).getD default, (.agg #[(.int .u64 0), (.int .u64 0), (.int .u32 0), (.int .u8 0), (.int .u8 0), (.int .u8 0), (.int .u8 0), .nilFunc, (.pointer none), (.int .i32 0), (.int .i32 0)]), by kernel_rfl, by kernel_rfl, by kernel_rfl, by kernel_rfl, rfl, ⟨[(.int .u64 0), (.int .u64 0), (.int .u32 0), (.int .u8 0), (.int .u8 0), (.int .u8 0), (.int .u8 0), .nilFunc, (.pointer none), (.int .i32 0), (.int .i32 0)], relL_cellAV _ [(.int .u64 0), (.int .u64 0), (.int .u32 0), (.int .u8 0), (.int .u8 0), (.int .u8 0), (.int .u8 0), .nilFunc, (.pointer none), (.int .i32 0), (.int .i32 0)], rfl⟩, relL_cellAV _ [(.int .u64 0), (.int .u64 0), (.int .u32 0), (.int .u8 0), (.int .u8 0), (.int .u8 0), (.int .u8 0), .nilFunc, (.pointer none), (.int .i32 0), (.int .i32 0)]⟩, fun h => by cases h⟩
-- abi.Type
def ty106 : TyRow := ⟨.struct [(0, 12), (1, 12), (2, 98), (3, 99), (4, 5), (5, 5), (6, 100), (7, 101), (8, 102), (9, 103), (10, 104)], 11, 48, [.lit .u64 0, .lit .u64 0, .lit .u32 0, .lit .u8 0, .lit .u8 0, .lit .u8 0, .lit .u8 0, .nilF, .nilP, .lit .i32 0, .lit .i32 0], false⟩
theorem ty106_met : ty106.met Try.prog 106 := ⟨⟨Try.prog.fieldsOf 106, by kernel_rfl, by kernel_rfl⟩, ⟨(Try.prog.info? 106).getD default, (.agg #[(.int .u64 0), (.int .u64 0), (.int .u32 0), (.int .u8 0), (.int .u8 0), (.int .u8 0), (.int .u8 0), .nilFunc, (.pointer none), (.int .i32 0), (.int .i32 0)]), by kernel_rfl, by kernel_rfl, by kernel_rfl, by kernel_rfl, rfl, ⟨[(.int .u64 0), (.int .u64 0), (.int .u32 0), (.int .u8 0), (.int .u8 0), (.int .u8 0), (.int .u8 0), .nilFunc, (.pointer none), (.int .i32 0), (.int .i32 0)], relL_cellAV _ [(.int .u64 0), (.int .u64 0), (.int .u32 0), (.int .u8 0), (.int .u8 0), (.int .u8 0), (.int .u8 0), .nilFunc, (.pointer none), (.int .i32 0), (.int .i32 0)], rfl⟩, relL_cellAV _ [(.int .u64 0), (.int .u64 0), (.int .u32 0), (.int .u8 0), (.int .u8 0), (.int .u8 0), (.int .u8 0), .nilFunc, (.pointer none), (.int .i32 0), (.int .i32 0)]⟩, fun h => by cases h⟩

def tyRows : List (Option TyRow) := [none, some ty1, some ty2, some ty3, some ty4, some ty5, some ty6, some ty7, some ty8, some ty9, some ty10, some ty11, some ty12, some ty13, some ty14, some ty15, some ty16, some ty17, some ty18, some ty19, some ty20, some ty21, some ty22, some ty23, some ty24, some ty25, some ty26, some ty27, some ty28, some ty29, some ty30, some ty31, some ty32, some ty33, some ty34, some ty35, some ty36, some ty37, some ty38, some ty39, some ty40, some ty41, some ty42, some ty43, some ty44, some ty45, some ty46, some ty47, some ty48, some ty49, some ty50, none, some ty52, some ty53, some ty54, some ty55, some ty56, some ty57, some ty58, some ty59, some ty60, some ty61, some ty62, some ty63, some ty64, some ty65, some ty66, some ty67, some ty68, some ty69, some ty70, some ty71, none, some ty73, some ty74, none, some ty76, some ty77, none, some ty79, some ty80, none, some ty82, some ty83, some ty84, none, some ty86, none, some ty88, some ty89, some ty90, some ty91, some ty92, some ty93, some ty94, some ty95, some ty96, some ty97, some ty98, some ty99, some ty100, some ty101, some ty102, some ty103, some ty104, some ty105, some ty106]
def tab : Tab := fun t => (tyRows[t]?).join
theorem tyRows_met : RowsMet Try.prog 0 tyRows := ⟨ty1_met, ty2_met, ty3_met, ty4_met, ty5_met, ty6_met, ty7_met, ty8_met, ty9_met, ty10_met, ty11_met, ty12_met, ty13_met, ty14_met, ty15_met, ty16_met, ty17_met, ty18_met, ty19_met, ty20_met, ty21_met, ty22_met, ty23_met, ty24_met, ty25_met, ty26_met, ty27_met, ty28_met, ty29_met, ty30_met, ty31_met, ty32_met, ty33_met, ty34_met, ty35_met, ty36_met, ty37_met, ty38_met, ty39_met, ty40_met, ty41_met, ty42_met, ty43_met, ty44_met, ty45_met, ty46_met, ty47_met, ty48_met, ty49_met, ty50_met, ty52_met, ty53_met, ty54_met, ty55_met, ty56_met, ty57_met, ty58_met, ty59_met, ty60_met, ty61_met, ty62_met, ty63_met, ty64_met, ty65_met, ty66_met, ty67_met, ty68_met, ty69_met, ty70_met, ty71_met, ty73_met, ty74_met, ty76_met, ty77_met, ty79_met, ty80_met, ty82_met, ty83_met, ty84_met, ty86_met, ty88_met, ty89_met, ty90_met, ty91_met, ty92_met, ty93_met, ty94_met, ty95_met, ty96_met, ty97_met, ty98_met, ty99_met, ty100_met, ty101_met, ty102_met, ty103_met, ty104_met, ty105_met, ty106_met, trivial⟩
theorem tab_met : tab.met Try.prog := fun t R h => by simpa using rowsMet_get tyRows 0 t R tyRows_met h
end Sx
end Go.Proofs.Ytemcdjdglcceiaa
