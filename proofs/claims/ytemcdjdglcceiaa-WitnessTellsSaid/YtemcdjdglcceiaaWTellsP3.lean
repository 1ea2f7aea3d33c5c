/-
  The table of types of this seat, out of its translation, and that the program has these types.
-/
import Derived.Test.YtemcdjdglcceiaaWTellsP2
import Derived.Test.YtemcdjdglcceiaaRows
namespace Go.Proofs.Ytemcdjdglcceiaa
namespace Sx
open Go

def ifaceOf (P : Program) (t : Nat) : Array (String × TypeId) := match P.underlying t with | some (.interface ms) => ms | _ => #[]
def funcOf (P : Program) (t : Nat) : Array TypeId × Array TypeId × Bool := match P.underlying t with | some (.func a b c) => (a, b, c) | _ => (#[], #[], false)
theorem names_ok {P : Program} {t : Nat} (h : P.underlying t = some (.struct (P.fieldsOf t))) (k : ((P.fieldsOf t).toList.all fun f => !(f.name == "_")) = true) :
    ∀ fields, P.underlying t = some (.struct fields) → ∀ f ∈ fields.toList, f.name ≠ "_" := by
  intro fields hf f hm
  rw [h] at hf; cases hf
  have := List.all_eq_true.1 k f hm
  simpa using this

def RowsMet (P : Program) : Nat → List (Option TyRow) → Prop
  | _, [] => True
  | k, none :: l => RowsMet P (k + 1) l
  | k, some R :: l => R.met P k ∧ RowsMet P (k + 1) l
theorem rowsMet_get {P : Program} : ∀ (l : List (Option TyRow)) (k t : Nat) (R : TyRow), RowsMet P k l → l[t]?.join = some R → R.met P (k + t)
  | [], _, _, _, _, h => by simp at h
  | none :: l, k, t, R, hm, h => by
    cases t with
    | zero => simp at h
    | succ t => have := rowsMet_get l (k + 1) t R hm (by simpa using h); rwa [show k + 1 + t = k + (t + 1) by omega] at this
  | some R' :: l, k, t, R, hm, h => by
    cases t with
    | zero => simp at h; subst h; exact hm.1
    | succ t => have := rowsMet_get l (k + 1) t R hm.2 (by simpa using h); rwa [show k + 1 + t = k + (t + 1) by omega] at this

-- func()
def ty1 : TyRow := ⟨.func, 1, 8, [.nilF], false⟩
theorem ty1_met : ty1.met Try.prog 1 := ⟨⟨(funcOf Try.prog 1).1, (funcOf Try.prog 1).2.1, (funcOf Try.prog 1).2.2, by kernel_rfl⟩, ⟨(Try.prog.info? 1).getD default, .nilFunc, by kernel_rfl, by kernel_rfl, by kernel_rfl, by kernel_rfl, rfl, relL_cellAV _ [.nilFunc], relL_cellAV _ [.nilFunc]⟩, fun h => by cases h⟩
-- int64
def ty2 : TyRow := ⟨.int .i64, 1, 8, [.lit .i64 0], false⟩
theorem ty2_met : ty2.met Try.prog 2 := ⟨(show Try.prog.underlying 2 = some (.int .i64) by kernel_rfl), ⟨(Try.prog.info? 2).getD default, (.int .i64 0), by kernel_rfl, by kernel_rfl, by kernel_rfl, by kernel_rfl, rfl, relL_cellAV _ [(.int .i64 0)], relL_cellAV _ [(.int .i64 0)]⟩, fun h => by cases h⟩
-- int
def ty3 : TyRow := ⟨.int .i64, 1, 8, [.lit .i64 0], false⟩
theorem ty3_met : ty3.met Try.prog 3 := ⟨(show Try.prog.underlying 3 = some (.int .i64) by kernel_rfl), ⟨(Try.prog.info? 3).getD default, (.int .i64 0), by kernel_rfl, by kernel_rfl, by kernel_rfl, by kernel_rfl, rfl, relL_cellAV _ [(.int .i64 0)], relL_cellAV _ [(.int .i64 0)]⟩, fun h => by cases h⟩
-- bool
def ty4 : TyRow := ⟨.bool, 1, 1, [.ff], false⟩
theorem ty4_met : ty4.met Try.prog 4 := ⟨(show Try.prog.underlying 4 = some (.bool) by kernel_rfl), ⟨(Try.prog.info? 4).getD default, (.bool false), by kernel_rfl, by kernel_rfl, by kernel_rfl, by kernel_rfl, rfl, relL_cellAV _ [(.bool false)], relL_cellAV _ [(.bool false)]⟩, fun h => by cases h⟩
-- uint8
def ty5 : TyRow := ⟨.int .u8, 1, 1, [.lit .u8 0], false⟩
theorem ty5_met : ty5.met Try.prog 5 := ⟨(show Try.prog.underlying 5 = some (.int .u8) by kernel_rfl), ⟨(Try.prog.info? 5).getD default, (.int .u8 0), by kernel_rfl, by kernel_rfl, by kernel_rfl, by kernel_rfl, rfl, relL_cellAV _ [(.int .u8 0)], relL_cellAV _ [(.int .u8 0)]⟩, fun h => by cases h⟩
-- abi.BoundsErrorCode
def ty6 : TyRow := ⟨.int .u8, 1, 1, [.lit .u8 0], false⟩
theorem ty6_met : ty6.met Try.prog 6 := ⟨(show Try.prog.underlying 6 = some (.int .u8) by kernel_rfl), ⟨(Try.prog.info? 6).getD default, (.int .u8 0), by kernel_rfl, by kernel_rfl, by kernel_rfl, by kernel_rfl, rfl, relL_cellAV _ [(.int .u8 0)], relL_cellAV _ [(.int .u8 0)]⟩, fun h => by cases h⟩
-- struct { x int64; y int; signed bool; code abi.BoundsErrorCode }
def ty7 : TyRow := ⟨.struct [(0, 2), (1, 3), (2, 4), (3, 6)], 4, 24, [.lit .i64 0, .lit .i64 0, .ff, .lit .u8 0], true⟩
theorem ty7_met : ty7.met Try.prog 7 := ⟨⟨Try.prog.fieldsOf 7, by kernel_rfl, by kernel_rfl⟩, ⟨(Try.prog.info? 7).getD default, (.agg #[(.int .i64 0), (.int .i64 0), (.bool false), (.int .u8 0)]), by kernel_rfl, by kernel_rfl, by kernel_rfl, by kernel_rfl, rfl, ⟨[(.int .i64 0), (.int .i64 0), (.bool false), (.int .u8 0)], relL_cellAV _ [(.int .i64 0), (.int .i64 0), (.bool false), (.int .u8 0)], rfl⟩, relL_cellAV _ [(.int .i64 0), (.int .i64 0), (.bool false), (.int .u8 0)]⟩, fun _ => ⟨by kernel_rfl, by kernel_rfl, names_ok (by kernel_rfl) (by kernel_rfl)⟩⟩
-- runtime.boundsError
def ty8 : TyRow := ⟨.struct [(0, 2), (1, 3), (2, 4), (3, 6)], 4, 24, [.lit .i64 0, .lit .i64 0, .ff, .lit .u8 0], true⟩
theorem ty8_met : ty8.met Try.prog 8 := ⟨⟨Try.prog.fieldsOf 8, by kernel_rfl, by kernel_rfl⟩, ⟨(Try.prog.info? 8).getD default, (.agg #[(.int .i64 0), (.int .i64 0), (.bool false), (.int .u8 0)]), by kernel_rfl, by kernel_rfl, by kernel_rfl, by kernel_rfl, rfl, ⟨[(.int .i64 0), (.int .i64 0), (.bool false), (.int .u8 0)], relL_cellAV _ [(.int .i64 0), (.int .i64 0), (.bool false), (.int .u8 0)], rfl⟩, relL_cellAV _ [(.int .i64 0), (.int .i64 0), (.bool false), (.int .u8 0)]⟩, fun _ => ⟨by kernel_rfl, by kernel_rfl, names_ok (by kernel_rfl) (by kernel_rfl)⟩⟩
-- string
def ty9 : TyRow := ⟨.str, 1, 16, [.raw (.string (ByteArray.mk #[]))], false⟩
theorem ty9_met : ty9.met Try.prog 9 := ⟨(show Try.prog.underlying 9 = some (.string) by kernel_rfl), ⟨(Try.prog.info? 9).getD default, (.string (ByteArray.mk #[])), by kernel_rfl, by kernel_rfl, by kernel_rfl, by kernel_rfl, rfl, relL_cellAV _ [(.string (ByteArray.mk #[]))], relL_cellAV _ [(.string (ByteArray.mk #[]))]⟩, fun h => by cases h⟩
-- runtime.errorString
def ty10 : TyRow := ⟨.str, 1, 16, [.raw (.string (ByteArray.mk #[]))], false⟩
theorem ty10_met : ty10.met Try.prog 10 := ⟨(show Try.prog.underlying 10 = some (.string) by kernel_rfl), ⟨(Try.prog.info? 10).getD default, (.string (ByteArray.mk #[])), by kernel_rfl, by kernel_rfl, by kernel_rfl, by kernel_rfl, rfl, relL_cellAV _ [(.string (ByteArray.mk #[]))], relL_cellAV _ [(.string (ByteArray.mk #[]))]⟩, fun h => by cases h⟩
-- runtime.plainError
def ty11 : TyRow := ⟨.str, 1, 16, [.raw (.string (ByteArray.mk #[]))], false⟩
theorem ty11_met : ty11.met Try.prog 11 := ⟨(show Try.prog.underlying 11 = some (.string) by kernel_rfl), ⟨(Try.prog.info? 11).getD default, (.string (ByteArray.mk #[])), by kernel_rfl, by kernel_rfl, by kernel_rfl, by kernel_rfl, rfl, relL_cellAV _ [(.string (ByteArray.mk #[]))], relL_cellAV _ [(.string (ByteArray.mk #[]))]⟩, fun h => by cases h⟩
-- uintptr
def ty12 : TyRow := ⟨.int .u64, 1, 8, [.lit .u64 0], false⟩
theorem ty12_met : ty12.met Try.prog 12 := ⟨(show Try.prog.underlying 12 = some (.int .u64) by kernel_rfl), ⟨(Try.prog.info? 12).getD default, (.int .u64 0), by kernel_rfl, by kernel_rfl, by kernel_rfl, by kernel_rfl, rfl, relL_cellAV _ [(.int .u64 0)], relL_cellAV _ [(.int .u64 0)]⟩, fun h => by cases h⟩
-- struct { msg string; addr uintptr }
def ty13 : TyRow := ⟨.struct [(0, 9), (1, 12)], 2, 24, [.raw (.string (ByteArray.mk #[])), .lit .u64 0], false⟩
theorem ty13_met : ty13.met Try.prog 13 := ⟨⟨Try.prog.fieldsOf 13, by kernel_rfl, by kernel_rfl⟩, ⟨(Try.prog.info? 13).getD default, (.agg #[(.string (ByteArray.mk #[])), (.int .u64 0)]), by kernel_rfl, by kernel_rfl, by kernel_rfl, by kernel_rfl, rfl, ⟨[(.string (ByteArray.mk #[])), (.int .u64 0)], relL_cellAV _ [(.string (ByteArray.mk #[])), (.int .u64 0)], rfl⟩, relL_cellAV _ [(.string (ByteArray.mk #[])), (.int .u64 0)]⟩, fun h => by cases h⟩
-- runtime.errorAddressString
def ty14 : TyRow := ⟨.struct [(0, 9), (1, 12)], 2, 24, [.raw (.string (ByteArray.mk #[])), .lit .u64 0], false⟩
theorem ty14_met : ty14.met Try.prog 14 := ⟨⟨Try.prog.fieldsOf 14, by kernel_rfl, by kernel_rfl⟩, ⟨(Try.prog.info? 14).getD default, (.agg #[(.string (ByteArray.mk #[])), (.int .u64 0)]), by kernel_rfl, by kernel_rfl, by kernel_rfl, by kernel_rfl, rfl, ⟨[(.string (ByteArray.mk #[])), (.int .u64 0)], relL_cellAV _ [(.string (ByteArray.mk #[])), (.int .u64 0)], rfl⟩, relL_cellAV _ [(.string (ByteArray.mk #[])), (.int .u64 0)]⟩, fun h => by cases h⟩
-- *runtime.TypeAssertionError
def ty15 : TyRow := ⟨.ptr 93, 1, 8, [.nilP], false⟩
theorem ty15_met : ty15.met Try.prog 15 := ⟨(show Try.prog.underlying 15 = some (.pointer 93) by kernel_rfl), ⟨(Try.prog.info? 15).getD default, (.pointer none), by kernel_rfl, by kernel_rfl, by kernel_rfl, by kernel_rfl, rfl, relL_cellAV _ [(.pointer none)], relL_cellAV _ [(.pointer none)]⟩, fun h => by cases h⟩
-- *runtime.PanicNilError
def ty16 : TyRow := ⟨.ptr 96, 1, 8, [.nilP], false⟩
theorem ty16_met : ty16.met Try.prog 16 := ⟨(show Try.prog.underlying 16 = some (.pointer 96) by kernel_rfl), ⟨(Try.prog.info? 16).getD default, (.pointer none), by kernel_rfl, by kernel_rfl, by kernel_rfl, by kernel_rfl, rfl, relL_cellAV _ [(.pointer none)], relL_cellAV _ [(.pointer none)]⟩, fun h => by cases h⟩
-- *abi.Type
def ty17 : TyRow := ⟨.ptr 106, 1, 8, [.nilP], false⟩
theorem ty17_met : ty17.met Try.prog 17 := ⟨(show Try.prog.underlying 17 = some (.pointer 106) by kernel_rfl), ⟨(Try.prog.info? 17).getD default, (.pointer none), by kernel_rfl, by kernel_rfl, by kernel_rfl, by kernel_rfl, rfl, relL_cellAV _ [(.pointer none)], relL_cellAV _ [(.pointer none)]⟩, fun h => by cases h⟩
-- struct { typ *abi.Type }
def ty18 : TyRow := ⟨.struct [(0, 17)], 1, 8, [.nilP], false⟩
theorem ty18_met : ty18.met Try.prog 18 := ⟨⟨Try.prog.fieldsOf 18, by kernel_rfl, by kernel_rfl⟩, ⟨(Try.prog.info? 18).getD default, (.agg #[(.pointer none)]), by kernel_rfl, by kernel_rfl, by kernel_rfl, by kernel_rfl, rfl, ⟨[(.pointer none)], relL_cellAV _ [(.pointer none)], rfl⟩, relL_cellAV _ [(.pointer none)]⟩, fun h => by cases h⟩
-- maps.unhashableTypeError
def ty19 : TyRow := ⟨.struct [(0, 17)], 1, 8, [.nilP], false⟩
theorem ty19_met : ty19.met Try.prog 19 := ⟨⟨Try.prog.fieldsOf 19, by kernel_rfl, by kernel_rfl⟩, ⟨(Try.prog.info? 19).getD default, (.agg #[(.pointer none)]), by kernel_rfl, by kernel_rfl, by kernel_rfl, by kernel_rfl, rfl, ⟨[(.pointer none)], relL_cellAV _ [(.pointer none)], rfl⟩, relL_cellAV _ [(.pointer none)]⟩, fun h => by cases h⟩
-- interface {}
def ty20 : TyRow := ⟨.iface, 1, 16, [.nilI], false⟩
theorem ty20_met : ty20.met Try.prog 20 := ⟨⟨ifaceOf Try.prog 20, by kernel_rfl⟩, ⟨(Try.prog.info? 20).getD default, .nilIface, by kernel_rfl, by kernel_rfl, by kernel_rfl, by kernel_rfl, rfl, relL_cellAV _ [.nilIface], relL_cellAV _ [.nilIface]⟩, fun h => by cases h⟩
-- int32
def ty21 : TyRow := ⟨.int .i32, 1, 4, [.lit .i32 0], false⟩
theorem ty21_met : ty21.met Try.prog 21 := ⟨(show Try.prog.underlying 21 = some (.int .i32) by kernel_rfl), ⟨(Try.prog.info? 21).getD default, (.int .i32 0), by kernel_rfl, by kernel_rfl, by kernel_rfl, by kernel_rfl, rfl, relL_cellAV _ [(.int .i32 0)], relL_cellAV _ [(.int .i32 0)]⟩, fun h => by cases h⟩
-- []api.Record
def ty22 : TyRow := ⟨.slice 30, 1, 24, [.nilS], false⟩
theorem ty22_met : ty22.met Try.prog 22 := ⟨(show Try.prog.underlying 22 = some (.slice 30) by kernel_rfl), ⟨(Try.prog.info? 22).getD default, (.slice none 0 0), by kernel_rfl, by kernel_rfl, by kernel_rfl, by kernel_rfl, rfl, relL_cellAV _ [(.slice none 0 0)], relL_cellAV _ [(.slice none 0 0)]⟩, fun h => by cases h⟩
-- func() bool
def ty23 : TyRow := ⟨.func, 1, 8, [.nilF], false⟩
theorem ty23_met : ty23.met Try.prog 23 := ⟨⟨(funcOf Try.prog 23).1, (funcOf Try.prog 23).2.1, (funcOf Try.prog 23).2.2, by kernel_rfl⟩, ⟨(Try.prog.info? 23).getD default, .nilFunc, by kernel_rfl, by kernel_rfl, by kernel_rfl, by kernel_rfl, rfl, relL_cellAV _ [.nilFunc], relL_cellAV _ [.nilFunc]⟩, fun h => by cases h⟩
-- func([]api.Record) []api.Record
def ty24 : TyRow := ⟨.func, 1, 8, [.nilF], false⟩
theorem ty24_met : ty24.met Try.prog 24 := ⟨⟨(funcOf Try.prog 24).1, (funcOf Try.prog 24).2.1, (funcOf Try.prog 24).2.2, by kernel_rfl⟩, ⟨(Try.prog.info? 24).getD default, .nilFunc, by kernel_rfl, by kernel_rfl, by kernel_rfl, by kernel_rfl, rfl, relL_cellAV _ [.nilFunc], relL_cellAV _ [.nilFunc]⟩, fun h => by cases h⟩
-- func([]api.Record, []api.Record) bool
def ty25 : TyRow := ⟨.func, 1, 8, [.nilF], false⟩
theorem ty25_met : ty25.met Try.prog 25 := ⟨⟨(funcOf Try.prog 25).1, (funcOf Try.prog 25).2.1, (funcOf Try.prog 25).2.2, by kernel_rfl⟩, ⟨(Try.prog.info? 25).getD default, .nilFunc, by kernel_rfl, by kernel_rfl, by kernel_rfl, by kernel_rfl, rfl, relL_cellAV _ [.nilFunc], relL_cellAV _ [.nilFunc]⟩, fun h => by cases h⟩
-- struct { Do int; Key int; Value int; Hit bool }
def ty26 : TyRow := ⟨.struct [(0, 3), (1, 3), (2, 3), (3, 4)], 4, 32, [.lit .i64 0, .lit .i64 0, .lit .i64 0, .ff], true⟩
theorem ty26_met : ty26.met Try.prog 26 := ⟨⟨Try.prog.fieldsOf 26, by kernel_rfl, by kernel_rfl⟩, ⟨(Try.prog.info? 26).getD default, (.agg #[(.int .i64 0), (.int .i64 0), (.int .i64 0), (.bool false)]), by kernel_rfl, by kernel_rfl, by kernel_rfl, by kernel_rfl, rfl, ⟨[(.int .i64 0), (.int .i64 0), (.int .i64 0), (.bool false)], relL_cellAV _ [(.int .i64 0), (.int .i64 0), (.int .i64 0), (.bool false)], rfl⟩, relL_cellAV _ [(.int .i64 0), (.int .i64 0), (.int .i64 0), (.bool false)]⟩, fun _ => ⟨by kernel_rfl, by kernel_rfl, names_ok (by kernel_rfl) (by kernel_rfl)⟩⟩
-- api.Commit
def ty27 : TyRow := ⟨.struct [(0, 3), (1, 3), (2, 3), (3, 4)], 4, 32, [.lit .i64 0, .lit .i64 0, .lit .i64 0, .ff], true⟩
theorem ty27_met : ty27.met Try.prog 27 := ⟨⟨Try.prog.fieldsOf 27, by kernel_rfl, by kernel_rfl⟩, ⟨(Try.prog.info? 27).getD default, (.agg #[(.int .i64 0), (.int .i64 0), (.int .i64 0), (.bool false)]), by kernel_rfl, by kernel_rfl, by kernel_rfl, by kernel_rfl, rfl, ⟨[(.int .i64 0), (.int .i64 0), (.int .i64 0), (.bool false)], relL_cellAV _ [(.int .i64 0), (.int .i64 0), (.int .i64 0), (.bool false)], rfl⟩, relL_cellAV _ [(.int .i64 0), (.int .i64 0), (.int .i64 0), (.bool false)]⟩, fun _ => ⟨by kernel_rfl, by kernel_rfl, names_ok (by kernel_rfl) (by kernel_rfl)⟩⟩
-- api.Errno
def ty28 : TyRow := ⟨.int .i64, 1, 8, [.lit .i64 0], false⟩
theorem ty28_met : ty28.met Try.prog 28 := ⟨(show Try.prog.underlying 28 = some (.int .i64) by kernel_rfl), ⟨(Try.prog.info? 28).getD default, (.int .i64 0), by kernel_rfl, by kernel_rfl, by kernel_rfl, by kernel_rfl, rfl, relL_cellAV _ [(.int .i64 0)], relL_cellAV _ [(.int .i64 0)]⟩, fun h => by cases h⟩
-- struct { Thread int; Op int; What int; Commit api.Commit; Err api.Errno }
def ty29 : TyRow := ⟨.struct [(0, 3), (1, 3), (2, 3), (3, 27), (7, 28)], 8, 64, [.lit .i64 0, .lit .i64 0, .lit .i64 0, .lit .i64 0, .lit .i64 0, .lit .i64 0, .ff, .lit .i64 0], true⟩
theorem ty29_met : ty29.met Try.prog 29 := ⟨⟨Try.prog.fieldsOf 29, by kernel_rfl, by kernel_rfl⟩, ⟨(Try.prog.info? 29).getD default, (.agg #[(.int .i64 0), (.int .i64 0), (.int .i64 0), (.int .i64 0), (.int .i64 0), (.int .i64 0), (.bool false), (.int .i64 0)]), by kernel_rfl, by kernel_rfl, by kernel_rfl, by kernel_rfl, rfl, ⟨[(.int .i64 0), (.int .i64 0), (.int .i64 0), (.int .i64 0), (.int .i64 0), (.int .i64 0), (.bool false), (.int .i64 0)], relL_cellAV _ [(.int .i64 0), (.int .i64 0), (.int .i64 0), (.int .i64 0), (.int .i64 0), (.int .i64 0), (.bool false), (.int .i64 0)], rfl⟩, relL_cellAV _ [(.int .i64 0), (.int .i64 0), (.int .i64 0), (.int .i64 0), (.int .i64 0), (.int .i64 0), (.bool false), (.int .i64 0)]⟩, fun _ => ⟨by kernel_rfl, by kernel_rfl, names_ok (by kernel_rfl) (by kernel_rfl)⟩⟩
-- api.Record
def ty30 : TyRow := ⟨.struct [(0, 3), (1, 3), (2, 3), (3, 27), (7, 28)], 8, 64, [.lit .i64 0, .lit .i64 0, .lit .i64 0, .lit .i64 0, .lit .i64 0, .lit .i64 0, .ff, .lit .i64 0], true⟩
theorem ty30_met : ty30.met Try.prog 30 := ⟨⟨Try.prog.fieldsOf 30, by kernel_rfl, by kernel_rfl⟩, ⟨(Try.prog.info? 30).getD default, (.agg #[(.int .i64 0), (.int .i64 0), (.int .i64 0), (.int .i64 0), (.int .i64 0), (.int .i64 0), (.bool false), (.int .i64 0)]), by kernel_rfl, by kernel_rfl, by kernel_rfl, by kernel_rfl, rfl, ⟨[(.int .i64 0), (.int .i64 0), (.int .i64 0), (.int .i64 0), (.int .i64 0), (.int .i64 0), (.bool false), (.int .i64 0)], relL_cellAV _ [(.int .i64 0), (.int .i64 0), (.int .i64 0), (.int .i64 0), (.int .i64 0), (.int .i64 0), (.bool false), (.int .i64 0)], rfl⟩, relL_cellAV _ [(.int .i64 0), (.int .i64 0), (.int .i64 0), (.int .i64 0), (.int .i64 0), (.int .i64 0), (.bool false), (.int .i64 0)]⟩, fun _ => ⟨by kernel_rfl, by kernel_rfl, names_ok (by kernel_rfl) (by kernel_rfl)⟩⟩
-- []api.Call
def ty31 : TyRow := ⟨.slice 35, 1, 24, [.nilS], false⟩
theorem ty31_met : ty31.met Try.prog 31 := ⟨(show Try.prog.underlying 31 = some (.slice 35) by kernel_rfl), ⟨(Try.prog.info? 31).getD default, (.slice none 0 0), by kernel_rfl, by kernel_rfl, by kernel_rfl, by kernel_rfl, rfl, relL_cellAV _ [(.slice none 0 0)], relL_cellAV _ [(.slice none 0 0)]⟩, fun h => by cases h⟩
-- func([]api.Record) []api.Call
def ty32 : TyRow := ⟨.func, 1, 8, [.nilF], false⟩
theorem ty32_met : ty32.met Try.prog 32 := ⟨⟨(funcOf Try.prog 32).1, (funcOf Try.prog 32).2.1, (funcOf Try.prog 32).2.2, by kernel_rfl⟩, ⟨(Try.prog.info? 32).getD default, .nilFunc, by kernel_rfl, by kernel_rfl, by kernel_rfl, by kernel_rfl, rfl, relL_cellAV _ [.nilFunc], relL_cellAV _ [.nilFunc]⟩, fun h => by cases h⟩
-- func(api.Call, api.Call) bool
def ty33 : TyRow := ⟨.func, 1, 8, [.nilF], false⟩
theorem ty33_met : ty33.met Try.prog 33 := ⟨⟨(funcOf Try.prog 33).1, (funcOf Try.prog 33).2.1, (funcOf Try.prog 33).2.2, by kernel_rfl⟩, ⟨(Try.prog.info? 33).getD default, .nilFunc, by kernel_rfl, by kernel_rfl, by kernel_rfl, by kernel_rfl, rfl, relL_cellAV _ [.nilFunc], relL_cellAV _ [.nilFunc]⟩, fun h => by cases h⟩
-- struct { Thread int; Op int; From int; At int; To int }
def ty34 : TyRow := ⟨.struct [(0, 3), (1, 3), (2, 3), (3, 3), (4, 3)], 5, 40, [.lit .i64 0, .lit .i64 0, .lit .i64 0, .lit .i64 0, .lit .i64 0], true⟩
theorem ty34_met : ty34.met Try.prog 34 := ⟨⟨Try.prog.fieldsOf 34, by kernel_rfl, by kernel_rfl⟩, ⟨(Try.prog.info? 34).getD default, (.agg #[(.int .i64 0), (.int .i64 0), (.int .i64 0), (.int .i64 0), (.int .i64 0)]), by kernel_rfl, by kernel_rfl, by kernel_rfl, by kernel_rfl, rfl, ⟨[(.int .i64 0), (.int .i64 0), (.int .i64 0), (.int .i64 0), (.int .i64 0)], relL_cellAV _ [(.int .i64 0), (.int .i64 0), (.int .i64 0), (.int .i64 0), (.int .i64 0)], rfl⟩, relL_cellAV _ [(.int .i64 0), (.int .i64 0), (.int .i64 0), (.int .i64 0), (.int .i64 0)]⟩, fun _ => ⟨by kernel_rfl, by kernel_rfl, names_ok (by kernel_rfl) (by kernel_rfl)⟩⟩
-- api.Call
def ty35 : TyRow := ⟨.struct [(0, 3), (1, 3), (2, 3), (3, 3), (4, 3)], 5, 40, [.lit .i64 0, .lit .i64 0, .lit .i64 0, .lit .i64 0, .lit .i64 0], true⟩
theorem ty35_met : ty35.met Try.prog 35 := ⟨⟨Try.prog.fieldsOf 35, by kernel_rfl, by kernel_rfl⟩, ⟨(Try.prog.info? 35).getD default, (.agg #[(.int .i64 0), (.int .i64 0), (.int .i64 0), (.int .i64 0), (.int .i64 0)]), by kernel_rfl, by kernel_rfl, by kernel_rfl, by kernel_rfl, rfl, ⟨[(.int .i64 0), (.int .i64 0), (.int .i64 0), (.int .i64 0), (.int .i64 0)], relL_cellAV _ [(.int .i64 0), (.int .i64 0), (.int .i64 0), (.int .i64 0), (.int .i64 0)], rfl⟩, relL_cellAV _ [(.int .i64 0), (.int .i64 0), (.int .i64 0), (.int .i64 0), (.int .i64 0)]⟩, fun _ => ⟨by kernel_rfl, by kernel_rfl, names_ok (by kernel_rfl) (by kernel_rfl)⟩⟩
-- func([]api.Record) bool
def ty36 : TyRow := ⟨.func, 1, 8, [.nilF], false⟩
theorem ty36_met : ty36.met Try.prog 36 := ⟨⟨(funcOf Try.prog 36).1, (funcOf Try.prog 36).2.1, (funcOf Try.prog 36).2.2, by kernel_rfl⟩, ⟨(Try.prog.info? 36).getD default, .nilFunc, by kernel_rfl, by kernel_rfl, by kernel_rfl, by kernel_rfl, rfl, relL_cellAV _ [.nilFunc], relL_cellAV _ [.nilFunc]⟩, fun h => by cases h⟩
-- func([]api.Call, []api.Call) bool
def ty37 : TyRow := ⟨.func, 1, 8, [.nilF], false⟩
theorem ty37_met : ty37.met Try.prog 37 := ⟨⟨(funcOf Try.prog 37).1, (funcOf Try.prog 37).2.1, (funcOf Try.prog 37).2.2, by kernel_rfl⟩, ⟨(Try.prog.info? 37).getD default, .nilFunc, by kernel_rfl, by kernel_rfl, by kernel_rfl, by kernel_rfl, rfl, relL_cellAV _ [.nilFunc], relL_cellAV _ [.nilFunc]⟩, fun h => by cases h⟩
-- func([]api.Commit, []api.Commit) bool
def ty38 : TyRow := ⟨.func, 1, 8, [.nilF], false⟩
theorem ty38_met : ty38.met Try.prog 38 := ⟨⟨(funcOf Try.prog 38).1, (funcOf Try.prog 38).2.1, (funcOf Try.prog 38).2.2, by kernel_rfl⟩, ⟨(Try.prog.info? 38).getD default, .nilFunc, by kernel_rfl, by kernel_rfl, by kernel_rfl, by kernel_rfl, rfl, relL_cellAV _ [.nilFunc], relL_cellAV _ [.nilFunc]⟩, fun h => by cases h⟩
-- []api.Commit
def ty39 : TyRow := ⟨.slice 27, 1, 24, [.nilS], false⟩
theorem ty39_met : ty39.met Try.prog 39 := ⟨(show Try.prog.underlying 39 = some (.slice 27) by kernel_rfl), ⟨(Try.prog.info? 39).getD default, (.slice none 0 0), by kernel_rfl, by kernel_rfl, by kernel_rfl, by kernel_rfl, rfl, relL_cellAV _ [(.slice none 0 0)], relL_cellAV _ [(.slice none 0 0)]⟩, fun h => by cases h⟩
-- func([]api.Record) []api.Commit
def ty40 : TyRow := ⟨.func, 1, 8, [.nilF], false⟩
theorem ty40_met : ty40.met Try.prog 40 := ⟨⟨(funcOf Try.prog 40).1, (funcOf Try.prog 40).2.1, (funcOf Try.prog 40).2.2, by kernel_rfl⟩, ⟨(Try.prog.info? 40).getD default, .nilFunc, by kernel_rfl, by kernel_rfl, by kernel_rfl, by kernel_rfl, rfl, relL_cellAV _ [.nilFunc], relL_cellAV _ [.nilFunc]⟩, fun h => by cases h⟩
-- func([]api.Record) int
def ty41 : TyRow := ⟨.func, 1, 8, [.nilF], false⟩
theorem ty41_met : ty41.met Try.prog 41 := ⟨⟨(funcOf Try.prog 41).1, (funcOf Try.prog 41).2.1, (funcOf Try.prog 41).2.2, by kernel_rfl⟩, ⟨(Try.prog.info? 41).getD default, .nilFunc, by kernel_rfl, by kernel_rfl, by kernel_rfl, by kernel_rfl, rfl, relL_cellAV _ [.nilFunc], relL_cellAV _ [.nilFunc]⟩, fun h => by cases h⟩
-- func([]api.Record, int) bool
def ty42 : TyRow := ⟨.func, 1, 8, [.nilF], false⟩
theorem ty42_met : ty42.met Try.prog 42 := ⟨⟨(funcOf Try.prog 42).1, (funcOf Try.prog 42).2.1, (funcOf Try.prog 42).2.2, by kernel_rfl⟩, ⟨(Try.prog.info? 42).getD default, .nilFunc, by kernel_rfl, by kernel_rfl, by kernel_rfl, by kernel_rfl, rfl, relL_cellAV _ [.nilFunc], relL_cellAV _ [.nilFunc]⟩, fun h => by cases h⟩
-- []int
def ty43 : TyRow := ⟨.slice 3, 1, 24, [.nilS], false⟩
theorem ty43_met : ty43.met Try.prog 43 := ⟨(show Try.prog.underlying 43 = some (.slice 3) by kernel_rfl), ⟨(Try.prog.info? 43).getD default, (.slice none 0 0), by kernel_rfl, by kernel_rfl, by kernel_rfl, by kernel_rfl, rfl, relL_cellAV _ [(.slice none 0 0)], relL_cellAV _ [(.slice none 0 0)]⟩, fun h => by cases h⟩
-- func([]int, []int) bool
def ty44 : TyRow := ⟨.func, 1, 8, [.nilF], false⟩
theorem ty44_met : ty44.met Try.prog 44 := ⟨⟨(funcOf Try.prog 44).1, (funcOf Try.prog 44).2.1, (funcOf Try.prog 44).2.2, by kernel_rfl⟩, ⟨(Try.prog.info? 44).getD default, .nilFunc, by kernel_rfl, by kernel_rfl, by kernel_rfl, by kernel_rfl, rfl, relL_cellAV _ [.nilFunc], relL_cellAV _ [.nilFunc]⟩, fun h => by cases h⟩
-- func([]api.Record) []int
def ty45 : TyRow := ⟨.func, 1, 8, [.nilF], false⟩
theorem ty45_met : ty45.met Try.prog 45 := ⟨⟨(funcOf Try.prog 45).1, (funcOf Try.prog 45).2.1, (funcOf Try.prog 45).2.2, by kernel_rfl⟩, ⟨(Try.prog.info? 45).getD default, .nilFunc, by kernel_rfl, by kernel_rfl, by kernel_rfl, by kernel_rfl, rfl, relL_cellAV _ [.nilFunc], relL_cellAV _ [.nilFunc]⟩, fun h => by cases h⟩
-- func([]api.Call, []int) bool
def ty46 : TyRow := ⟨.func, 1, 8, [.nilF], false⟩
theorem ty46_met : ty46.met Try.prog 46 := ⟨⟨(funcOf Try.prog 46).1, (funcOf Try.prog 46).2.1, (funcOf Try.prog 46).2.2, by kernel_rfl⟩, ⟨(Try.prog.info? 46).getD default, .nilFunc, by kernel_rfl, by kernel_rfl, by kernel_rfl, by kernel_rfl, rfl, relL_cellAV _ [.nilFunc], relL_cellAV _ [.nilFunc]⟩, fun h => by cases h⟩
-- func([]api.Record, []int) []api.Commit
def ty47 : TyRow := ⟨.func, 1, 8, [.nilF], false⟩
theorem ty47_met : ty47.met Try.prog 47 := ⟨⟨(funcOf Try.prog 47).1, (funcOf Try.prog 47).2.1, (funcOf Try.prog 47).2.2, by kernel_rfl⟩, ⟨(Try.prog.info? 47).getD default, .nilFunc, by kernel_rfl, by kernel_rfl, by kernel_rfl, by kernel_rfl, rfl, relL_cellAV _ [.nilFunc], relL_cellAV _ [.nilFunc]⟩, fun h => by cases h⟩
-- func([]api.Record) api.Errno
def ty48 : TyRow := ⟨.func, 1, 8, [.nilF], false⟩
theorem ty48_met : ty48.met Try.prog 48 := ⟨⟨(funcOf Try.prog 48).1, (funcOf Try.prog 48).2.1, (funcOf Try.prog 48).2.2, by kernel_rfl⟩, ⟨(Try.prog.info? 48).getD default, .nilFunc, by kernel_rfl, by kernel_rfl, by kernel_rfl, by kernel_rfl, rfl, relL_cellAV _ [.nilFunc], relL_cellAV _ [.nilFunc]⟩, fun h => by cases h⟩
-- func([]api.Record, []int) bool
def ty49 : TyRow := ⟨.func, 1, 8, [.nilF], false⟩
theorem ty49_met : ty49.met Try.prog 49 := ⟨⟨(funcOf Try.prog 49).1, (funcOf Try.prog 49).2.1, (funcOf Try.prog 49).2.2, by kernel_rfl⟩, ⟨(Try.prog.info? 49).getD default, .nilFunc, by kernel_rfl, by kernel_rfl, by kernel_rfl, by kernel_rfl, rfl, relL_cellAV _ [.nilFunc], relL_cellAV _ [.nilFunc]⟩, fun h => by cases h⟩
-- func() []api.Record
def ty50 : TyRow := ⟨.func, 1, 8, [.nilF], false⟩
theorem ty50_met : ty50.met Try.prog 50 := ⟨⟨(funcOf Try.prog 50).1, (funcOf Try.prog 50).2.1, (funcOf Try.prog 50).2.2, by kernel_rfl⟩, ⟨(Try.prog.info? 50).getD default, .nilFunc, by kernel_rfl, by kernel_rfl, by kernel_rfl, by kernel_rfl, rfl, relL_cellAV _ [.nilFunc], relL_cellAV _ [.nilFunc]⟩, fun h => by cases h⟩
-- func([]api.Record) ([]api.Call, bool)
def ty52 : TyRow := ⟨.func, 1, 8, [.nilF], false⟩
theorem ty52_met : ty52.met Try.prog 52 := ⟨⟨(funcOf Try.prog 52).1, (funcOf Try.prog 52).2.1, (funcOf Try.prog 52).2.2, by kernel_rfl⟩, ⟨(Try.prog.info? 52).getD default, .nilFunc, by kernel_rfl, by kernel_rfl, by kernel_rfl, by kernel_rfl, rfl, relL_cellAV _ [.nilFunc], relL_cellAV _ [.nilFunc]⟩, fun h => by cases h⟩
-- map[int]bool
def ty53 : TyRow := ⟨.map 3 4, 1, 8, [.nilM], false⟩
theorem ty53_met : ty53.met Try.prog 53 := ⟨(show Try.prog.underlying 53 = some (.map 3 4) by kernel_rfl), ⟨(Try.prog.info? 53).getD default, (.map none), by kernel_rfl, by kernel_rfl, by kernel_rfl, by kernel_rfl, rfl, relL_cellAV _ [(.map none)], relL_cellAV _ [(.map none)]⟩, fun h => by cases h⟩
-- func(api.Record, bool, api.Record) bool
def ty54 : TyRow := ⟨.func, 1, 8, [.nilF], false⟩
theorem ty54_met : ty54.met Try.prog 54 := ⟨⟨(funcOf Try.prog 54).1, (funcOf Try.prog 54).2.1, (funcOf Try.prog 54).2.2, by kernel_rfl⟩, ⟨(Try.prog.info? 54).getD default, .nilFunc, by kernel_rfl, by kernel_rfl, by kernel_rfl, by kernel_rfl, rfl, relL_cellAV _ [.nilFunc], relL_cellAV _ [.nilFunc]⟩, fun h => by cases h⟩
-- func(int) []api.Record
def ty55 : TyRow := ⟨.func, 1, 8, [.nilF], false⟩
theorem ty55_met : ty55.met Try.prog 55 := ⟨⟨(funcOf Try.prog 55).1, (funcOf Try.prog 55).2.1, (funcOf Try.prog 55).2.2, by kernel_rfl⟩, ⟨(Try.prog.info? 55).getD default, .nilFunc, by kernel_rfl, by kernel_rfl, by kernel_rfl, by kernel_rfl, rfl, relL_cellAV _ [.nilFunc], relL_cellAV _ [.nilFunc]⟩, fun h => by cases h⟩
-- map[int]int
def ty56 : TyRow := ⟨.map 3 3, 1, 8, [.nilM], false⟩
theorem ty56_met : ty56.met Try.prog 56 := ⟨(show Try.prog.underlying 56 = some (.map 3 3) by kernel_rfl), ⟨(Try.prog.info? 56).getD default, (.map none), by kernel_rfl, by kernel_rfl, by kernel_rfl, by kernel_rfl, rfl, relL_cellAV _ [(.map none)], relL_cellAV _ [(.map none)]⟩, fun h => by cases h⟩
-- func(int) bool
def ty57 : TyRow := ⟨.func, 1, 8, [.nilF], false⟩
theorem ty57_met : ty57.met Try.prog 57 := ⟨⟨(funcOf Try.prog 57).1, (funcOf Try.prog 57).2.1, (funcOf Try.prog 57).2.2, by kernel_rfl⟩, ⟨(Try.prog.info? 57).getD default, .nilFunc, by kernel_rfl, by kernel_rfl, by kernel_rfl, by kernel_rfl, rfl, relL_cellAV _ [.nilFunc], relL_cellAV _ [.nilFunc]⟩, fun h => by cases h⟩
-- func([]int, func(int) bool) bool
def ty58 : TyRow := ⟨.func, 1, 8, [.nilF], false⟩
theorem ty58_met : ty58.met Try.prog 58 := ⟨⟨(funcOf Try.prog 58).1, (funcOf Try.prog 58).2.1, (funcOf Try.prog 58).2.2, by kernel_rfl⟩, ⟨(Try.prog.info? 58).getD default, .nilFunc, by kernel_rfl, by kernel_rfl, by kernel_rfl, by kernel_rfl, rfl, relL_cellAV _ [.nilFunc], relL_cellAV _ [.nilFunc]⟩, fun h => by cases h⟩
-- func(api.Record) bool
def ty59 : TyRow := ⟨.func, 1, 8, [.nilF], false⟩
theorem ty59_met : ty59.met Try.prog 59 := ⟨⟨(funcOf Try.prog 59).1, (funcOf Try.prog 59).2.1, (funcOf Try.prog 59).2.2, by kernel_rfl⟩, ⟨(Try.prog.info? 59).getD default, .nilFunc, by kernel_rfl, by kernel_rfl, by kernel_rfl, by kernel_rfl, rfl, relL_cellAV _ [.nilFunc], relL_cellAV _ [.nilFunc]⟩, fun h => by cases h⟩
-- func(api.Call) bool
def ty60 : TyRow := ⟨.func, 1, 8, [.nilF], false⟩
theorem ty60_met : ty60.met Try.prog 60 := ⟨⟨(funcOf Try.prog 60).1, (funcOf Try.prog 60).2.1, (funcOf Try.prog 60).2.2, by kernel_rfl⟩, ⟨(Try.prog.info? 60).getD default, .nilFunc, by kernel_rfl, by kernel_rfl, by kernel_rfl, by kernel_rfl, rfl, relL_cellAV _ [.nilFunc], relL_cellAV _ [.nilFunc]⟩, fun h => by cases h⟩
-- func([]api.Call, func(api.Call) bool) bool
def ty61 : TyRow := ⟨.func, 1, 8, [.nilF], false⟩
theorem ty61_met : ty61.met Try.prog 61 := ⟨⟨(funcOf Try.prog 61).1, (funcOf Try.prog 61).2.1, (funcOf Try.prog 61).2.2, by kernel_rfl⟩, ⟨(Try.prog.info? 61).getD default, .nilFunc, by kernel_rfl, by kernel_rfl, by kernel_rfl, by kernel_rfl, rfl, relL_cellAV _ [.nilFunc], relL_cellAV _ [.nilFunc]⟩, fun h => by cases h⟩
-- func([]api.Commit) int
def ty62 : TyRow := ⟨.func, 1, 8, [.nilF], false⟩
theorem ty62_met : ty62.met Try.prog 62 := ⟨⟨(funcOf Try.prog 62).1, (funcOf Try.prog 62).2.1, (funcOf Try.prog 62).2.2, by kernel_rfl⟩, ⟨(Try.prog.info? 62).getD default, .nilFunc, by kernel_rfl, by kernel_rfl, by kernel_rfl, by kernel_rfl, rfl, relL_cellAV _ [.nilFunc], relL_cellAV _ [.nilFunc]⟩, fun h => by cases h⟩
-- func([]api.Commit) bool
def ty63 : TyRow := ⟨.func, 1, 8, [.nilF], false⟩
theorem ty63_met : ty63.met Try.prog 63 := ⟨⟨(funcOf Try.prog 63).1, (funcOf Try.prog 63).2.1, (funcOf Try.prog 63).2.2, by kernel_rfl⟩, ⟨(Try.prog.info? 63).getD default, .nilFunc, by kernel_rfl, by kernel_rfl, by kernel_rfl, by kernel_rfl, rfl, relL_cellAV _ [.nilFunc], relL_cellAV _ [.nilFunc]⟩, fun h => by cases h⟩
-- *hist.reader
def ty64 : TyRow := ⟨.ptr 67, 1, 8, [.nilP], false⟩
theorem ty64_met : ty64.met Try.prog 64 := ⟨(show Try.prog.underlying 64 = some (.pointer 67) by kernel_rfl), ⟨(Try.prog.info? 64).getD default, (.pointer none), by kernel_rfl, by kernel_rfl, by kernel_rfl, by kernel_rfl, rfl, relL_cellAV _ [(.pointer none)], relL_cellAV _ [(.pointer none)]⟩, fun h => by cases h⟩
-- map[int]hist.open
def ty65 : TyRow := ⟨.map 3 84, 1, 8, [.nilM], false⟩
theorem ty65_met : ty65.met Try.prog 65 := ⟨(show Try.prog.underlying 65 = some (.map 3 84) by kernel_rfl), ⟨(Try.prog.info? 65).getD default, (.map none), by kernel_rfl, by kernel_rfl, by kernel_rfl, by kernel_rfl, rfl, relL_cellAV _ [(.map none)], relL_cellAV _ [(.map none)]⟩, fun h => by cases h⟩
-- struct { at map[int]hist.open; calls []api.Call }
def ty66 : TyRow := ⟨.struct [(0, 65), (1, 31)], 2, 32, [.nilM, .nilS], false⟩
theorem ty66_met : ty66.met Try.prog 66 := ⟨⟨Try.prog.fieldsOf 66, by kernel_rfl, by kernel_rfl⟩, ⟨(Try.prog.info? 66).getD default, (.agg #[(.map none), (.slice none 0 0)]), by kernel_rfl, by kernel_rfl, by kernel_rfl, by kernel_rfl, rfl, ⟨[(.map none), (.slice none 0 0)], relL_cellAV _ [(.map none), (.slice none 0 0)], rfl⟩, relL_cellAV _ [(.map none), (.slice none 0 0)]⟩, fun h => by cases h⟩
-- hist.reader
def ty67 : TyRow := ⟨.struct [(0, 65), (1, 31)], 2, 32, [.nilM, .nilS], false⟩
theorem ty67_met : ty67.met Try.prog 67 := ⟨⟨Try.prog.fieldsOf 67, by kernel_rfl, by kernel_rfl⟩, ⟨(Try.prog.info? 67).getD default, (.agg #[(.map none), (.slice none 0 0)]), by kernel_rfl, by kernel_rfl, by kernel_rfl, by kernel_rfl, rfl, ⟨[(.map none), (.slice none 0 0)], relL_cellAV _ [(.map none), (.slice none 0 0)], rfl⟩, relL_cellAV _ [(.map none), (.slice none 0 0)]⟩, fun h => by cases h⟩
-- func(api.Record, int) bool
def ty68 : TyRow := ⟨.func, 1, 8, [.nilF], false⟩
theorem ty68_met : ty68.met Try.prog 68 := ⟨⟨(funcOf Try.prog 68).1, (funcOf Try.prog 68).2.1, (funcOf Try.prog 68).2.2, by kernel_rfl⟩, ⟨(Try.prog.info? 68).getD default, .nilFunc, by kernel_rfl, by kernel_rfl, by kernel_rfl, by kernel_rfl, rfl, relL_cellAV _ [.nilFunc], relL_cellAV _ [.nilFunc]⟩, fun h => by cases h⟩
-- func([]int, func(int) bool) int
def ty69 : TyRow := ⟨.func, 1, 8, [.nilF], false⟩
theorem ty69_met : ty69.met Try.prog 69 := ⟨⟨(funcOf Try.prog 69).1, (funcOf Try.prog 69).2.1, (funcOf Try.prog 69).2.2, by kernel_rfl⟩, ⟨(Try.prog.info? 69).getD default, .nilFunc, by kernel_rfl, by kernel_rfl, by kernel_rfl, by kernel_rfl, rfl, relL_cellAV _ [.nilFunc], relL_cellAV _ [.nilFunc]⟩, fun h => by cases h⟩
-- func([]api.Call, func(api.Call) bool) int
def ty70 : TyRow := ⟨.func, 1, 8, [.nilF], false⟩
theorem ty70_met : ty70.met Try.prog 70 := ⟨⟨(funcOf Try.prog 70).1, (funcOf Try.prog 70).2.1, (funcOf Try.prog 70).2.2, by kernel_rfl⟩, ⟨(Try.prog.info? 70).getD default, .nilFunc, by kernel_rfl, by kernel_rfl, by kernel_rfl, by kernel_rfl, rfl, relL_cellAV _ [.nilFunc], relL_cellAV _ [.nilFunc]⟩, fun h => by cases h⟩
-- spec.state
def ty71 : TyRow := ⟨.map 3 3, 1, 8, [.nilM], false⟩
theorem ty71_met : ty71.met Try.prog 71 := ⟨(show Try.prog.underlying 71 = some (.map 3 3) by kernel_rfl), ⟨(Try.prog.info? 71).getD default, (.map none), by kernel_rfl, by kernel_rfl, by kernel_rfl, by kernel_rfl, rfl, relL_cellAV _ [(.map none)], relL_cellAV _ [(.map none)]⟩, fun h => by cases h⟩
-- func([]api.Commit) (int, spec.state)
def ty73 : TyRow := ⟨.func, 1, 8, [.nilF], false⟩
theorem ty73_met : ty73.met Try.prog 73 := ⟨⟨(funcOf Try.prog 73).1, (funcOf Try.prog 73).2.1, (funcOf Try.prog 73).2.2, by kernel_rfl⟩, ⟨(Try.prog.info? 73).getD default, .nilFunc, by kernel_rfl, by kernel_rfl, by kernel_rfl, by kernel_rfl, rfl, relL_cellAV _ [.nilFunc], relL_cellAV _ [.nilFunc]⟩, fun h => by cases h⟩
-- [][2]int
def ty74 : TyRow := ⟨.slice 89, 1, 24, [.nilS], false⟩
theorem ty74_met : ty74.met Try.prog 74 := ⟨(show Try.prog.underlying 74 = some (.slice 89) by kernel_rfl), ⟨(Try.prog.info? 74).getD default, (.slice none 0 0), by kernel_rfl, by kernel_rfl, by kernel_rfl, by kernel_rfl, rfl, relL_cellAV _ [(.slice none 0 0)], relL_cellAV _ [(.slice none 0 0)]⟩, fun h => by cases h⟩
-- func([]api.Commit) (int, [][2]int)
def ty76 : TyRow := ⟨.func, 1, 8, [.nilF], false⟩
theorem ty76_met : ty76.met Try.prog 76 := ⟨⟨(funcOf Try.prog 76).1, (funcOf Try.prog 76).2.1, (funcOf Try.prog 76).2.2, by kernel_rfl⟩, ⟨(Try.prog.info? 76).getD default, .nilFunc, by kernel_rfl, by kernel_rfl, by kernel_rfl, by kernel_rfl, rfl, relL_cellAV _ [.nilFunc], relL_cellAV _ [.nilFunc]⟩, fun h => by cases h⟩
-- func([]api.Commit) []int
def ty77 : TyRow := ⟨.func, 1, 8, [.nilF], false⟩
theorem ty77_met : ty77.met Try.prog 77 := ⟨⟨(funcOf Try.prog 77).1, (funcOf Try.prog 77).2.1, (funcOf Try.prog 77).2.2, by kernel_rfl⟩, ⟨(Try.prog.info? 77).getD default, .nilFunc, by kernel_rfl, by kernel_rfl, by kernel_rfl, by kernel_rfl, rfl, relL_cellAV _ [.nilFunc], relL_cellAV _ [.nilFunc]⟩, fun h => by cases h⟩
-- func(int, int, int) (api.Commit, bool)
def ty79 : TyRow := ⟨.func, 1, 8, [.nilF], false⟩
theorem ty79_met : ty79.met Try.prog 79 := ⟨⟨(funcOf Try.prog 79).1, (funcOf Try.prog 79).2.1, (funcOf Try.prog 79).2.2, by kernel_rfl⟩, ⟨(Try.prog.info? 79).getD default, .nilFunc, by kernel_rfl, by kernel_rfl, by kernel_rfl, by kernel_rfl, rfl, relL_cellAV _ [.nilFunc], relL_cellAV _ [.nilFunc]⟩, fun h => by cases h⟩
-- func(api.Commit)
def ty80 : TyRow := ⟨.func, 1, 8, [.nilF], false⟩
theorem ty80_met : ty80.met Try.prog 80 := ⟨⟨(funcOf Try.prog 80).1, (funcOf Try.prog 80).2.1, (funcOf Try.prog 80).2.2, by kernel_rfl⟩, ⟨(Try.prog.info? 80).getD default, .nilFunc, by kernel_rfl, by kernel_rfl, by kernel_rfl, by kernel_rfl, rfl, relL_cellAV _ [.nilFunc], relL_cellAV _ [.nilFunc]⟩, fun h => by cases h⟩
-- func([][2]int, int, int, int) (api.Commit, [][2]int)
def ty82 : TyRow := ⟨.func, 1, 8, [.nilF], false⟩
theorem ty82_met : ty82.met Try.prog 82 := ⟨⟨(funcOf Try.prog 82).1, (funcOf Try.prog 82).2.1, (funcOf Try.prog 82).2.2, by kernel_rfl⟩, ⟨(Try.prog.info? 82).getD default, .nilFunc, by kernel_rfl, by kernel_rfl, by kernel_rfl, by kernel_rfl, rfl, relL_cellAV _ [.nilFunc], relL_cellAV _ [.nilFunc]⟩, fun h => by cases h⟩
-- struct { last api.Record; call int }
def ty83 : TyRow := ⟨.struct [(0, 30), (8, 3)], 9, 72, [.lit .i64 0, .lit .i64 0, .lit .i64 0, .lit .i64 0, .lit .i64 0, .lit .i64 0, .ff, .lit .i64 0, .lit .i64 0], true⟩
theorem ty83_met : ty83.met Try.prog 83 := ⟨⟨Try.prog.fieldsOf 83, by kernel_rfl, by kernel_rfl⟩, ⟨(Try.prog.info? 83).getD default, (.agg #[(.int .i64 0), (.int .i64 0), (.int .i64 0), (.int .i64 0), (.int .i64 0), (.int .i64 0), (.bool false), (.int .i64 0), (.int .i64 0)]), by kernel_rfl, by kernel_rfl, by kernel_rfl, by kernel_rfl, rfl, ⟨[(.int .i64 0), (.int .i64 0), (.int .i64 0), (.int .i64 0), (.int .i64 0), (.int .i64 0), (.bool false), (.int .i64 0), (.int .i64 0)], relL_cellAV _ [(.int .i64 0), (.int .i64 0), (.int .i64 0), (.int .i64 0), (.int .i64 0), (.int .i64 0), (.bool false), (.int .i64 0), (.int .i64 0)], rfl⟩, relL_cellAV _ [(.int .i64 0), (.int .i64 0), (.int .i64 0), (.int .i64 0), (.int .i64 0), (.int .i64 0), (.bool false), (.int .i64 0), (.int .i64 0)]⟩, fun _ => ⟨by kernel_rfl, by kernel_rfl, names_ok (by kernel_rfl) (by kernel_rfl)⟩⟩
-- hist.open
def ty84 : TyRow := ⟨.struct [(0, 30), (8, 3)], 9, 72, [.lit .i64 0, .lit .i64 0, .lit .i64 0, .lit .i64 0, .lit .i64 0, .lit .i64 0, .ff, .lit .i64 0, .lit .i64 0], true⟩
theorem ty84_met : ty84.met Try.prog 84 := ⟨⟨Try.prog.fieldsOf 84, by kernel_rfl, by kernel_rfl⟩, ⟨(Try.prog.info? 84).getD default, (.agg #[(.int .i64 0), (.int .i64 0), (.int .i64 0), (.int .i64 0), (.int .i64 0), (.int .i64 0), (.bool false), (.int .i64 0), (.int .i64 0)]), by kernel_rfl, by kernel_rfl, by kernel_rfl, by kernel_rfl, rfl, ⟨[(.int .i64 0), (.int .i64 0), (.int .i64 0), (.int .i64 0), (.int .i64 0), (.int .i64 0), (.bool false), (.int .i64 0), (.int .i64 0)], relL_cellAV _ [(.int .i64 0), (.int .i64 0), (.int .i64 0), (.int .i64 0), (.int .i64 0), (.int .i64 0), (.bool false), (.int .i64 0), (.int .i64 0)], rfl⟩, relL_cellAV _ [(.int .i64 0), (.int .i64 0), (.int .i64 0), (.int .i64 0), (.int .i64 0), (.int .i64 0), (.bool false), (.int .i64 0), (.int .i64 0)]⟩, fun _ => ⟨by kernel_rfl, by kernel_rfl, names_ok (by kernel_rfl) (by kernel_rfl)⟩⟩
-- *api.Call
def ty86 : TyRow := ⟨.ptr 35, 1, 8, [.nilP], false⟩
theorem ty86_met : ty86.met Try.prog 86 := ⟨(show Try.prog.underlying 86 = some (.pointer 35) by kernel_rfl), ⟨(Try.prog.info? 86).getD default, (.pointer none), by kernel_rfl, by kernel_rfl, by kernel_rfl, by kernel_rfl, rfl, relL_cellAV _ [(.pointer none)], relL_cellAV _ [(.pointer none)]⟩, fun h => by cases h⟩
-- func([][2]int, int) int
def ty88 : TyRow := ⟨.func, 1, 8, [.nilF], false⟩
theorem ty88_met : ty88.met Try.prog 88 := ⟨⟨(funcOf Try.prog 88).1, (funcOf Try.prog 88).2.1, (funcOf Try.prog 88).2.2, by kernel_rfl⟩, ⟨(Try.prog.info? 88).getD default, .nilFunc, by kernel_rfl, by kernel_rfl, by kernel_rfl, by kernel_rfl, rfl, relL_cellAV _ [.nilFunc], relL_cellAV _ [.nilFunc]⟩, fun h => by cases h⟩
-- [2]int
def ty89 : TyRow := ⟨.array 2 3, 2, 16, [.lit .i64 0, .lit .i64 0], false⟩
theorem ty89_met : ty89.met Try.prog 89 := ⟨(show Try.prog.underlying 89 = some (.array 2 3) by kernel_rfl), ⟨(Try.prog.info? 89).getD default, (.agg #[(.int .i64 0), (.int .i64 0)]), by kernel_rfl, by kernel_rfl, by kernel_rfl, by kernel_rfl, rfl, ⟨[(.int .i64 0), (.int .i64 0)], relL_cellAV _ [(.int .i64 0), (.int .i64 0)], rfl⟩, relL_cellAV _ [(.int .i64 0), (.int .i64 0)]⟩, fun h => by cases h⟩
-- func([][2]int, int) [][2]int
def ty90 : TyRow := ⟨.func, 1, 8, [.nilF], false⟩
theorem ty90_met : ty90.met Try.prog 90 := ⟨⟨(funcOf Try.prog 90).1, (funcOf Try.prog 90).2.1, (funcOf Try.prog 90).2.2, by kernel_rfl⟩, ⟨(Try.prog.info? 90).getD default, .nilFunc, by kernel_rfl, by kernel_rfl, by kernel_rfl, by kernel_rfl, rfl, relL_cellAV _ [.nilFunc], relL_cellAV _ [.nilFunc]⟩, fun h => by cases h⟩
-- func() string
def ty91 : TyRow := ⟨.func, 1, 8, [.nilF], false⟩
theorem ty91_met : ty91.met Try.prog 91 := ⟨⟨(funcOf Try.prog 91).1, (funcOf Try.prog 91).2.1, (funcOf Try.prog 91).2.2, by kernel_rfl⟩, ⟨(Try.prog.info? 91).getD default, .nilFunc, by kernel_rfl, by kernel_rfl, by kernel_rfl, by kernel_rfl, rfl, relL_cellAV _ [.nilFunc], relL_cellAV _ [.nilFunc]⟩, fun h => by cases h⟩
-- struct { _interface *abi.Type; concrete *abi.Type; asserted *abi.Type; missingMethod string }
def ty92 : TyRow := ⟨.struct [(0, 17), (1, 17), (2, 17), (3, 9)], 4, 40, [.nilP, .nilP, .nilP, .raw (.string (ByteArray.mk #[]))], false⟩
theorem ty92_met : ty92.met Try.prog 92 := ⟨⟨Try.prog.fieldsOf 92, by kernel_rfl, by kernel_rfl⟩, ⟨(Try.prog.info? 92).getD default, (.agg #[(.pointer none), (.pointer none), (.pointer none), (.string (ByteArray.mk #[]))]), by kernel_rfl, by kernel_rfl, by kernel_rfl, by kernel_rfl, rfl, ⟨[(.pointer none), (.pointer none), (.pointer none), (.string (ByteArray.mk #[]))], relL_cellAV _ [(.pointer none), (.pointer none), (.pointer none), (.string (ByteArray.mk #[]))], rfl⟩, relL_cellAV _ [(.pointer none), (.pointer none), (.pointer none), (.string (ByteArray.mk #[]))]⟩, fun h => by cases h⟩
-- runtime.TypeAssertionError
def ty93 : TyRow := ⟨.struct [(0, 17), (1, 17), (2, 17), (3, 9)], 4, 40, [.nilP, .nilP, .nilP, .raw (.string (ByteArray.mk #[]))], false⟩
theorem ty93_met : ty93.met Try.prog 93 := ⟨⟨Try.prog.fieldsOf 93, by kernel_rfl, by kernel_rfl⟩, ⟨(Try.prog.info? 93).getD default, (.agg #[(.pointer none), (.pointer none), (.pointer none), (.string (ByteArray.mk #[]))]), by kernel_rfl, by kernel_rfl, by kernel_rfl, by kernel_rfl, rfl, ⟨[(.pointer none), (.pointer none), (.pointer none), (.string (ByteArray.mk #[]))], relL_cellAV _ [(.pointer none), (.pointer none), (.pointer none), (.string (ByteArray.mk #[]))], rfl⟩, relL_cellAV _ [(.pointer none), (.pointer none), (.pointer none), (.string (ByteArray.mk #[]))]⟩, fun h => by cases h⟩
-- [0]*runtime.PanicNilError
def ty94 : TyRow := ⟨.array 0 16, 0, 0, [], false⟩
theorem ty94_met : ty94.met Try.prog 94 := ⟨(show Try.prog.underlying 94 = some (.array 0 16) by kernel_rfl), ⟨(Try.prog.info? 94).getD default, (.agg #[]), by kernel_rfl, by kernel_rfl, by kernel_rfl, by kernel_rfl, rfl, ⟨[], relL_cellAV _ [], rfl⟩, relL_cellAV _ []⟩, fun h => by cases h⟩
-- struct { _ [0]*runtime.PanicNilError }
def ty95 : TyRow := ⟨.struct [(0, 94)], 0, 0, [], false⟩
theorem ty95_met : ty95.met Try.prog 95 := ⟨⟨Try.prog.fieldsOf 95, by kernel_rfl, by kernel_rfl⟩, ⟨(Try.prog.info? 95).getD default, (.agg #[]), by kernel_rfl, by kernel_rfl, by kernel_rfl, by kernel_rfl, rfl, ⟨[], relL_cellAV _ [], rfl⟩, relL_cellAV _ []⟩, fun h => by cases h⟩
-- runtime.PanicNilError
def ty96 : TyRow := ⟨.struct [(0, 94)], 0, 0, [], false⟩
theorem ty96_met : ty96.met Try.prog 96 := ⟨⟨Try.prog.fieldsOf 96, by kernel_rfl, by kernel_rfl⟩, ⟨(Try.prog.info? 96).getD default, (.agg #[]), by kernel_rfl, by kernel_rfl, by kernel_rfl, by kernel_rfl, rfl, ⟨[], relL_cellAV _ [], rfl⟩, relL_cellAV _ []⟩, fun h => by cases h⟩
-- func() int
def ty97 : TyRow := ⟨.func, 1, 8, [.nilF], false⟩
theorem ty97_met : ty97.met Try.prog 97 := ⟨⟨(funcOf Try.prog 97).1, (funcOf Try.prog 97).2.1, (funcOf Try.prog 97).2.2, by kernel_rfl⟩, ⟨(Try.prog.info? 97).getD default, .nilFunc, by kernel_rfl, by kernel_rfl, by kernel_rfl, by kernel_rfl, rfl, relL_cellAV _ [.nilFunc], relL_cellAV _ [.nilFunc]⟩, fun h => by cases h⟩
-- uint32
def ty98 : TyRow := ⟨.int .u32, 1, 4, [.lit .u32 0], false⟩
theorem ty98_met : ty98.met Try.prog 98 := ⟨(show Try.prog.underlying 98 = some (.int .u32) by kernel_rfl), ⟨(Try.prog.info? 98).getD default, (.int .u32 0), by kernel_rfl, by kernel_rfl, by kernel_rfl, by kernel_rfl, rfl, relL_cellAV _ [(.int .u32 0)], relL_cellAV _ [(.int .u32 0)]⟩, fun h => by cases h⟩
-- abi.TFlag
def ty99 : TyRow := ⟨.int .u8, 1, 1, [.lit .u8 0], false⟩
theorem ty99_met : ty99.met Try.prog 99 := ⟨(show Try.prog.underlying 99 = some (.int .u8) by kernel_rfl), ⟨(Try.prog.info? 99).getD default, (.int .u8 0), by kernel_rfl, by kernel_rfl, by kernel_rfl, by kernel_rfl, rfl, relL_cellAV _ [(.int .u8 0)], relL_cellAV _ [(.int .u8 0)]⟩, fun h => by cases h⟩
-- abi.Kind
def ty100 : TyRow := ⟨.int .u8, 1, 1, [.lit .u8 0], false⟩
theorem ty100_met : ty100.met Try.prog 100 := ⟨(show Try.prog.underlying 100 = some (.int .u8) by kernel_rfl), ⟨(Try.prog.info? 100).getD default, (.int .u8 0), by kernel_rfl, by kernel_rfl, by kernel_rfl, by kernel_rfl, rfl, relL_cellAV _ [(.int .u8 0)], relL_cellAV _ [(.int .u8 0)]⟩, fun h => by cases h⟩
-- func(unsafe.Pointer, unsafe.Pointer) bool
def ty101 : TyRow := ⟨.func, 1, 8, [.nilF], false⟩
theorem ty101_met : ty101.met Try.prog 101 := ⟨⟨(funcOf Try.prog 101).1, (funcOf Try.prog 101).2.1, (funcOf Try.prog 101).2.2, by kernel_rfl⟩, ⟨(Try.prog.info? 101).getD default, .nilFunc, by kernel_rfl, by kernel_rfl, by kernel_rfl, by kernel_rfl, rfl, relL_cellAV _ [.nilFunc], relL_cellAV _ [.nilFunc]⟩, fun h => by cases h⟩
-- *uint8
def ty102 : TyRow := ⟨.ptr 5, 1, 8, [.nilP], false⟩
theorem ty102_met : ty102.met Try.prog 102 := ⟨(show Try.prog.underlying 102 = some (.pointer 5) by kernel_rfl), ⟨(Try.prog.info? 102).getD default, (.pointer none), by kernel_rfl, by kernel_rfl, by kernel_rfl, by kernel_rfl, rfl, relL_cellAV _ [(.pointer none)], relL_cellAV _ [(.pointer none)]⟩, fun h => by cases h⟩
-- abi.NameOff
def ty103 : TyRow := ⟨.int .i32, 1, 4, [.lit .i32 0], false⟩
theorem ty103_met : ty103.met Try.prog 103 := ⟨(show Try.prog.underlying 103 = some (.int .i32) by kernel_rfl), ⟨(Try.prog.info? 103).getD default, (.int .i32 0), by kernel_rfl, by kernel_rfl, by kernel_rfl, by kernel_rfl, rfl, relL_cellAV _ [(.int .i32 0)], relL_cellAV _ [(.int .i32 0)]⟩, fun h => by cases h⟩
-- abi.TypeOff
def ty104 : TyRow := ⟨.int .i32, 1, 4, [.lit .i32 0], false⟩
theorem ty104_met : ty104.met Try.prog 104 := ⟨(show Try.prog.underlying 104 = some (.int .i32) by kernel_rfl), ⟨(Try.prog.info? 104).getD default, (.int .i32 0), by kernel_rfl, by kernel_rfl, by kernel_rfl, by kernel_rfl, rfl, relL_cellAV _ [(.int .i32 0)], relL_cellAV _ [(.int .i32 0)]⟩, fun h => by cases h⟩
-- struct { Size_ uintptr; PtrBytes uintptr; Hash uint32; TFlag abi.TFlag; Align_ uint8; FieldAlign_ ui
def ty105 : TyRow := ⟨.struct [(0, 12), (1, 12), (2, 98), (3, 99), (4, 5), (5, 5), (6, 100), (7, 101), (8, 102), (9, 103), (10, 104)], 11, 48, [.lit .u64 0, .lit .u64 0, .lit .u32 0, .lit .u8 0, .lit .u8 0, .lit .u8 0, .lit .u8 0, .nilF, .nilP, .lit .i32 0, .lit .i32 0], false⟩
theorem ty105_met : ty105.met Try.prog 105 := ⟨⟨Try.prog.fieldsOf 105, by kernel_rfl, by kernel_rfl⟩, ⟨(Try.prog.info? 105).getD default, (.agg #[(.int .u64 0), (.int .u64 0), (.int .u32 0), (.int .u8 0), (.int .u8 0), (.int .u8 0), (.int .u8 0), .nilFunc, (.pointer none), (.int .i32 0), (.int .i32 0)]), by kernel_rfl, by kernel_rfl, by kernel_rfl, by kernel_rfl, rfl, ⟨[(.int .u64 0), (.int .u64 0), (.int .u32 0), (.int .u8 0), (.int .u8 0), (.int .u8 0), (.int .u8 0), .nilFunc, (.pointer none), (.int .i32 0), (.int .i32 0)], relL_cellAV _ [(.int .u64 0), (.int .u64 0), (.int .u32 0), (.int .u8 0), (.int .u8 0), (.int .u8 0), (.int .u8 0), .nilFunc, (.pointer none), (.int .i32 0), (.int .i32 0)], rfl⟩, relL_cellAV _ [(.int .u64 0), (.int .u64 0), (.int .u32 0), (.int .u8 0), (.int .u8 0), (.int .u8 0), (.int .u8 0), .nilFunc, (.pointer none), (.int .i32 0), (.int .i32 0)]⟩, fun h => by cases h⟩
-- abi.Type
def ty106 : TyRow := ⟨.struct [(0, 12), (1, 12), (2, 98), (3, 99), (4, 5), (5, 5), (6, 100), (7, 101), (8, 102), (9, 103), (10, 104)], 11, 48, [.lit .u64 0, .lit .u64 0, .lit .u32 0, .lit .u8 0, .lit .u8 0, .lit .u8 0, .lit .u8 0, .nilF, .nilP, .lit .i32 0, .lit .i32 0], false⟩
theorem ty106_met : ty106.met Try.prog 106 := ⟨⟨Try.prog.fieldsOf 106, by kernel_rfl, by kernel_rfl⟩, ⟨(Try.prog.info? 106).getD default, (.agg #[(.int .u64 0), (.int .u64 0), (.int .u32 0), (.int .u8 0), (.int .u8 0), (.int .u8 0), (.int .u8 0), .nilFunc, (.pointer none), (.int .i32 0), (.int .i32 0)]), by kernel_rfl, by kernel_rfl, by kernel_rfl, by kernel_rfl, rfl, ⟨[(.int .u64 0), (.int .u64 0), (.int .u32 0), (.int .u8 0), (.int .u8 0), (.int .u8 0), (.int .u8 0), .nilFunc, (.pointer none), (.int .i32 0), (.int .i32 0)], relL_cellAV _ [(.int .u64 0), (.int .u64 0), (.int .u32 0), (.int .u8 0), (.int .u8 0), (.int .u8 0), (.int .u8 0), .nilFunc, (.pointer none), (.int .i32 0), (.int .i32 0)], rfl⟩, relL_cellAV _ [(.int .u64 0), (.int .u64 0), (.int .u32 0), (.int .u8 0), (.int .u8 0), (.int .u8 0), (.int .u8 0), .nilFunc, (.pointer none), (.int .i32 0), (.int .i32 0)]⟩, fun h => by cases h⟩

def tyRows : List (Option TyRow) := [none, some ty1, some ty2, some ty3, some ty4, some ty5, some ty6, some ty7, some ty8, some ty9, some ty10, some ty11, some ty12, some ty13, some ty14, some ty15, some ty16, some ty17, some ty18, some ty19, some ty20, some ty21, some ty22, some ty23, some ty24, some ty25, some ty26, some ty27, some ty28, some ty29, some ty30, some ty31, some ty32, some ty33, some ty34, some ty35, some ty36, some ty37, some ty38, some ty39, some ty40, some ty41, some ty42, some ty43, some ty44, some ty45, some ty46, some ty47, some ty48, some ty49, some ty50, none, some ty52, some ty53, some ty54, some ty55, some ty56, some ty57, some ty58, some ty59, some ty60, some ty61, some ty62, some ty63, some ty64, some ty65, some ty66, some ty67, some ty68, some ty69, some ty70, some ty71, none, some ty73, some ty74, none, some ty76, some ty77, none, some ty79, some ty80, none, some ty82, some ty83, some ty84, none, some ty86, none, some ty88, some ty89, some ty90, some ty91, some ty92, some ty93, some ty94, some ty95, some ty96, some ty97, some ty98, some ty99, some ty100, some ty101, some ty102, some ty103, some ty104, some ty105, some ty106]
def tab : Tab := fun t => (tyRows[t]?).join
theorem tyRows_met : RowsMet Try.prog 0 tyRows := ⟨ty1_met, ty2_met, ty3_met, ty4_met, ty5_met, ty6_met, ty7_met, ty8_met, ty9_met, ty10_met, ty11_met, ty12_met, ty13_met, ty14_met, ty15_met, ty16_met, ty17_met, ty18_met, ty19_met, ty20_met, ty21_met, ty22_met, ty23_met, ty24_met, ty25_met, ty26_met, ty27_met, ty28_met, ty29_met, ty30_met, ty31_met, ty32_met, ty33_met, ty34_met, ty35_met, ty36_met, ty37_met, ty38_met, ty39_met, ty40_met, ty41_met, ty42_met, ty43_met, ty44_met, ty45_met, ty46_met, ty47_met, ty48_met, ty49_met, ty50_met, ty52_met, ty53_met, ty54_met, ty55_met, ty56_met, ty57_met, ty58_met, ty59_met, ty60_met, ty61_met, ty62_met, ty63_met, ty64_met, ty65_met, ty66_met, ty67_met, ty68_met, ty69_met, ty70_met, ty71_met, ty73_met, ty74_met, ty76_met, ty77_met, ty79_met, ty80_met, ty82_met, ty83_met, ty84_met, ty86_met, ty88_met, ty89_met, ty90_met, ty91_met, ty92_met, ty93_met, ty94_met, ty95_met, ty96_met, ty97_met, ty98_met, ty99_met, ty100_met, ty101_met, ty102_met, ty103_met, ty104_met, ty105_met, ty106_met, trivial⟩
theorem tab_met : tab.met Try.prog := fun t R h => by simpa using rowsMet_get tyRows 0 t R tyRows_met h
end Sx
end Go.Proofs.Ytemcdjdglcceiaa

/-
  The records of this seat, and how they lie in cells.
-/
namespace Go.Proofs.Ytemcdjdglcceiaa
namespace Sx
open Go

def decI (x : AV) : Option Int := match x.num with | some (.i64, n, _) => some n | _ => none
def decB (x : AV) : Option Bool := match x.bl with | some (b, _) => some b | none => none
theorem decI_ok {x : AV} {n : Int} (h : decI x = some n) {r : Nm} {v : Value} (e : rel r x v) : rel r (.int .i64 n) v := by
  unfold decI at h
  split at h
  · rename_i m l hx; cases h; exact rel_num hx e
  · cases h
theorem decB_ok {x : AV} {b : Bool} (h : decB x = some b) {r : Nm} {v : Value} (e : rel r x v) : rel r (.bool b) v := by
  unfold decB at h
  split at h
  · rename_i m l hx; cases h; exact rel_bl hx e
  · cases h
def intDec : List AV → Option Int
  | [x] => decI x
  | _ => none
theorem intBack (cs : List AV) (a : Int) (h : intDec cs = some a) (r : Nm) (vs : List Value) (hr : relL r cs vs) : relL r [.int .i64 a] vs := by
  unfold intDec at h
  split at h
  · simp only [relL] at hr; obtain ⟨v, us, rfl, h1, rfl⟩ := hr; exact relL_cons.2 ⟨decI_ok h h1, relL_nil⟩
  · cases h
def intLay : Enc Int := ⟨1, false, fun n => [.int .i64 n], intDec, 0, fun _ => rfl, intBack, fun a r vs h => relL_one (xs := [.int .i64 a]) rfl h, by decide⟩
def boolDec : List AV → Option Bool
  | [x] => decB x
  | _ => none
theorem boolBack (cs : List AV) (a : Bool) (h : boolDec cs = some a) (r : Nm) (vs : List Value) (hr : relL r cs vs) : relL r [.bool a] vs := by
  unfold boolDec at h
  split at h
  · simp only [relL] at hr; obtain ⟨v, us, rfl, h1, rfl⟩ := hr; exact relL_cons.2 ⟨decB_ok h h1, relL_nil⟩
  · cases h
def boolLay : Enc Bool := ⟨1, false, fun n => [.bool n], boolDec, false, fun _ => rfl, boolBack, fun a r vs h => relL_one (xs := [.bool a]) rfl h, by decide⟩

structure Com where
  act : Int
  key : Int
  value : Int
  hit : Bool
  deriving DecidableEq
def Com.enc (a : Com) : List AV := [.int .i64 a.act, .int .i64 a.key, .int .i64 a.value, .bool a.hit]
def Com.dec : List AV → Option Com
  | [x0, x1, x2, x3] => (decI x0).bind fun n0 => (decI x1).bind fun n1 => (decI x2).bind fun n2 => (decB x3).bind fun n3 => some (⟨n0, n1, n2, n3⟩ : Com)
  | _ => none
theorem Com.back (cs : List AV) (a : Com) (h : Com.dec cs = some a) (r : Nm) (vs : List Value) (hr : relL r cs vs) : relL r (Com.enc a) vs := by
  unfold Com.dec at h
  split at h
  · simp only [relL] at hr
    obtain ⟨v0, u0, rfl, h0, ⟨v1, u1, rfl, h1, ⟨v2, u2, rfl, h2, ⟨v3, u3, rfl, h3, rfl⟩⟩⟩⟩ := hr
    obtain ⟨n0, e0, h⟩ := Option.bind_eq_some_iff.1 h
    obtain ⟨n1, e1, h⟩ := Option.bind_eq_some_iff.1 h
    obtain ⟨n2, e2, h⟩ := Option.bind_eq_some_iff.1 h
    obtain ⟨n3, e3, h⟩ := Option.bind_eq_some_iff.1 h
    cases h
    simp only [Com.enc]
    exact relL_cons.2 ⟨decI_ok e0 h0, relL_cons.2 ⟨decI_ok e1 h1, relL_cons.2 ⟨decI_ok e2 h2, relL_cons.2 ⟨decB_ok e3 h3, relL_nil⟩⟩⟩⟩
  · cases h
def Com.lay : Enc Com := ⟨4, true, Com.enc, Com.dec, ⟨0, 0, 0, false⟩, fun _ => rfl, Com.back, fun a r vs h => relL_one (xs := Com.enc a) rfl h, by decide⟩
structure Rec where
  thread : Int
  op : Int
  what : Int
  act : Int
  key : Int
  value : Int
  hit : Bool
  err : Int
  deriving DecidableEq
def Rec.enc (a : Rec) : List AV := [.int .i64 a.thread, .int .i64 a.op, .int .i64 a.what, .int .i64 a.act, .int .i64 a.key, .int .i64 a.value, .bool a.hit, .int .i64 a.err]
def Rec.dec : List AV → Option Rec
  | [x0, x1, x2, x3, x4, x5, x6, x7] => (decI x0).bind fun n0 => (decI x1).bind fun n1 => (decI x2).bind fun n2 => (decI x3).bind fun n3 => (decI x4).bind fun n4 => (decI x5).bind fun n5 => (decB x6).bind fun n6 => (decI x7).bind fun n7 => some (⟨n0, n1, n2, n3, n4, n5, n6, n7⟩ : Rec)
  | _ => none
theorem Rec.back (cs : List AV) (a : Rec) (h : Rec.dec cs = some a) (r : Nm) (vs : List Value) (hr : relL r cs vs) : relL r (Rec.enc a) vs := by
  unfold Rec.dec at h
  split at h
  · simp only [relL] at hr
    obtain ⟨v0, u0, rfl, h0, ⟨v1, u1, rfl, h1, ⟨v2, u2, rfl, h2, ⟨v3, u3, rfl, h3, ⟨v4, u4, rfl, h4, ⟨v5, u5, rfl, h5, ⟨v6, u6, rfl, h6, ⟨v7, u7, rfl, h7, rfl⟩⟩⟩⟩⟩⟩⟩⟩ := hr
    obtain ⟨n0, e0, h⟩ := Option.bind_eq_some_iff.1 h
    obtain ⟨n1, e1, h⟩ := Option.bind_eq_some_iff.1 h
    obtain ⟨n2, e2, h⟩ := Option.bind_eq_some_iff.1 h
    obtain ⟨n3, e3, h⟩ := Option.bind_eq_some_iff.1 h
    obtain ⟨n4, e4, h⟩ := Option.bind_eq_some_iff.1 h
    obtain ⟨n5, e5, h⟩ := Option.bind_eq_some_iff.1 h
    obtain ⟨n6, e6, h⟩ := Option.bind_eq_some_iff.1 h
    obtain ⟨n7, e7, h⟩ := Option.bind_eq_some_iff.1 h
    cases h
    simp only [Rec.enc]
    exact relL_cons.2 ⟨decI_ok e0 h0, relL_cons.2 ⟨decI_ok e1 h1, relL_cons.2 ⟨decI_ok e2 h2, relL_cons.2 ⟨decI_ok e3 h3, relL_cons.2 ⟨decI_ok e4 h4, relL_cons.2 ⟨decI_ok e5 h5, relL_cons.2 ⟨decB_ok e6 h6, relL_cons.2 ⟨decI_ok e7 h7, relL_nil⟩⟩⟩⟩⟩⟩⟩⟩
  · cases h
def Rec.lay : Enc Rec := ⟨8, true, Rec.enc, Rec.dec, ⟨0, 0, 0, 0, 0, 0, false, 0⟩, fun _ => rfl, Rec.back, fun a r vs h => relL_one (xs := Rec.enc a) rfl h, by decide⟩
structure Cal where
  thread : Int
  op : Int
  frm : Int
  at_ : Int
  to_ : Int
  deriving DecidableEq
def Cal.enc (a : Cal) : List AV := [.int .i64 a.thread, .int .i64 a.op, .int .i64 a.frm, .int .i64 a.at_, .int .i64 a.to_]
def Cal.dec : List AV → Option Cal
  | [x0, x1, x2, x3, x4] => (decI x0).bind fun n0 => (decI x1).bind fun n1 => (decI x2).bind fun n2 => (decI x3).bind fun n3 => (decI x4).bind fun n4 => some (⟨n0, n1, n2, n3, n4⟩ : Cal)
  | _ => none
theorem Cal.back (cs : List AV) (a : Cal) (h : Cal.dec cs = some a) (r : Nm) (vs : List Value) (hr : relL r cs vs) : relL r (Cal.enc a) vs := by
  unfold Cal.dec at h
  split at h
  · simp only [relL] at hr
    obtain ⟨v0, u0, rfl, h0, ⟨v1, u1, rfl, h1, ⟨v2, u2, rfl, h2, ⟨v3, u3, rfl, h3, ⟨v4, u4, rfl, h4, rfl⟩⟩⟩⟩⟩ := hr
    obtain ⟨n0, e0, h⟩ := Option.bind_eq_some_iff.1 h
    obtain ⟨n1, e1, h⟩ := Option.bind_eq_some_iff.1 h
    obtain ⟨n2, e2, h⟩ := Option.bind_eq_some_iff.1 h
    obtain ⟨n3, e3, h⟩ := Option.bind_eq_some_iff.1 h
    obtain ⟨n4, e4, h⟩ := Option.bind_eq_some_iff.1 h
    cases h
    simp only [Cal.enc]
    exact relL_cons.2 ⟨decI_ok e0 h0, relL_cons.2 ⟨decI_ok e1 h1, relL_cons.2 ⟨decI_ok e2 h2, relL_cons.2 ⟨decI_ok e3 h3, relL_cons.2 ⟨decI_ok e4 h4, relL_nil⟩⟩⟩⟩⟩
  · cases h
def Cal.lay : Enc Cal := ⟨5, true, Cal.enc, Cal.dec, ⟨0, 0, 0, 0, 0⟩, fun _ => rfl, Cal.back, fun a r vs h => relL_one (xs := Cal.enc a) rfl h, by decide⟩
structure Opn where
  thread : Int
  op : Int
  what : Int
  act : Int
  key : Int
  value : Int
  hit : Bool
  err : Int
  call : Int
  deriving DecidableEq
def Opn.enc (a : Opn) : List AV := [.int .i64 a.thread, .int .i64 a.op, .int .i64 a.what, .int .i64 a.act, .int .i64 a.key, .int .i64 a.value, .bool a.hit, .int .i64 a.err, .int .i64 a.call]
def Opn.dec : List AV → Option Opn
  | [x0, x1, x2, x3, x4, x5, x6, x7, x8] => (decI x0).bind fun n0 => (decI x1).bind fun n1 => (decI x2).bind fun n2 => (decI x3).bind fun n3 => (decI x4).bind fun n4 => (decI x5).bind fun n5 => (decB x6).bind fun n6 => (decI x7).bind fun n7 => (decI x8).bind fun n8 => some (⟨n0, n1, n2, n3, n4, n5, n6, n7, n8⟩ : Opn)
  | _ => none
theorem Opn.back (cs : List AV) (a : Opn) (h : Opn.dec cs = some a) (r : Nm) (vs : List Value) (hr : relL r cs vs) : relL r (Opn.enc a) vs := by
  unfold Opn.dec at h
  split at h
  · simp only [relL] at hr
    obtain ⟨v0, u0, rfl, h0, ⟨v1, u1, rfl, h1, ⟨v2, u2, rfl, h2, ⟨v3, u3, rfl, h3, ⟨v4, u4, rfl, h4, ⟨v5, u5, rfl, h5, ⟨v6, u6, rfl, h6, ⟨v7, u7, rfl, h7, ⟨v8, u8, rfl, h8, rfl⟩⟩⟩⟩⟩⟩⟩⟩⟩ := hr
    obtain ⟨n0, e0, h⟩ := Option.bind_eq_some_iff.1 h
    obtain ⟨n1, e1, h⟩ := Option.bind_eq_some_iff.1 h
    obtain ⟨n2, e2, h⟩ := Option.bind_eq_some_iff.1 h
    obtain ⟨n3, e3, h⟩ := Option.bind_eq_some_iff.1 h
    obtain ⟨n4, e4, h⟩ := Option.bind_eq_some_iff.1 h
    obtain ⟨n5, e5, h⟩ := Option.bind_eq_some_iff.1 h
    obtain ⟨n6, e6, h⟩ := Option.bind_eq_some_iff.1 h
    obtain ⟨n7, e7, h⟩ := Option.bind_eq_some_iff.1 h
    obtain ⟨n8, e8, h⟩ := Option.bind_eq_some_iff.1 h
    cases h
    simp only [Opn.enc]
    exact relL_cons.2 ⟨decI_ok e0 h0, relL_cons.2 ⟨decI_ok e1 h1, relL_cons.2 ⟨decI_ok e2 h2, relL_cons.2 ⟨decI_ok e3 h3, relL_cons.2 ⟨decI_ok e4 h4, relL_cons.2 ⟨decI_ok e5 h5, relL_cons.2 ⟨decB_ok e6 h6, relL_cons.2 ⟨decI_ok e7 h7, relL_cons.2 ⟨decI_ok e8 h8, relL_nil⟩⟩⟩⟩⟩⟩⟩⟩⟩
  · cases h
def Opn.lay : Enc Opn := ⟨9, true, Opn.enc, Opn.dec, ⟨0, 0, 0, 0, 0, 0, false, 0, 0⟩, fun _ => rfl, Opn.back, fun a r vs h => relL_one (xs := Opn.enc a) rfl h, by decide⟩
structure Pr where
  k : Int
  v : Int
  deriving DecidableEq
def Pr.enc (a : Pr) : List AV := [.int .i64 a.k, .int .i64 a.v]
def Pr.dec : List AV → Option Pr
  | [x0, x1] => (decI x0).bind fun n0 => (decI x1).bind fun n1 => some (⟨n0, n1⟩ : Pr)
  | _ => none
theorem Pr.back (cs : List AV) (a : Pr) (h : Pr.dec cs = some a) (r : Nm) (vs : List Value) (hr : relL r cs vs) : relL r (Pr.enc a) vs := by
  unfold Pr.dec at h
  split at h
  · simp only [relL] at hr
    obtain ⟨v0, u0, rfl, h0, ⟨v1, u1, rfl, h1, rfl⟩⟩ := hr
    obtain ⟨n0, e0, h⟩ := Option.bind_eq_some_iff.1 h
    obtain ⟨n1, e1, h⟩ := Option.bind_eq_some_iff.1 h
    cases h
    simp only [Pr.enc]
    exact relL_cons.2 ⟨decI_ok e0 h0, relL_cons.2 ⟨decI_ok e1 h1, relL_nil⟩⟩
  · cases h
def Pr.lay : Enc Pr := ⟨2, true, Pr.enc, Pr.dec, ⟨0, 0⟩, fun _ => rfl, Pr.back, fun a r vs h => relL_one (xs := Pr.enc a) rfl h, by decide⟩
end Sx
end Go.Proofs.Ytemcdjdglcceiaa

/-
  What records tell, as plain data.
-/
namespace Go.Proofs.Ytemcdjdglcceiaa
namespace Sx
open Go

def Rec.com (r : Rec) : Com := ⟨r.act, r.key, r.value, r.hit⟩
def Opn.of (r : Rec) (c : Int) : Opn := ⟨r.thread, r.op, r.what, r.act, r.key, r.value, r.hit, r.err, c⟩
abbrev r0 : Rec := ⟨0, 0, 0, 0, 0, 0, false, 0⟩
abbrev c0 : Cal := ⟨0, 0, 0, 0, 0⟩
structure RD where
  at_ : List (Int × Opn)
  cs : List Cal
namespace RD
def push (s : RD) (r : Rec) (i : Nat) : RD := ⟨mput s.at_ r.thread (Opn.of r s.cs.length), s.cs ++ [⟨r.thread, r.op, i, -1, -1⟩]⟩
def may (s : RD) (r : Rec) : Prop := match mget s.at_ r.thread with
  | none => r.op = 0
  | some o => o.what = 3 ∧ r.op = IntKind.wrap .i64 (o.op + 1)
instance (s : RD) (r : Rec) : Decidable (s.may r) := by unfold may; split <;> infer_instance
def invoke (s : RD) (r : Rec) (i : Nat) : Option RD := if s.may r ∧ r.err = 0 then some (s.push r i) else none
def upd (s : RD) (r : Rec) (o : Opn) (f : Cal → Cal) : RD := ⟨mput s.at_ r.thread (Opn.of r o.call), s.cs.set o.call.toNat (f (s.cs.getD o.call.toNat c0))⟩
def follow (s : RD) (r : Rec) (i : Nat) : Option RD := match mget s.at_ r.thread with
  | none => none
  | some o =>
    if o.what = 3 ∨ r.op ≠ o.op ∨ r.act ≠ o.act ∨ r.key ≠ o.key then none
    else if r.what = 2 then (if o.what = 1 ∧ r.err = 0 then some (s.upd r o fun c => { c with at_ := i }) else none)
    else if r.what = 3 then (if o.what = 1 ∨ (r.value = o.value ∧ r.hit = o.hit ∧ r.err = 0) then some (s.upd r o fun c => { c with to_ := i }) else none)
    else none
def step (s : RD) (r : Rec) (i : Nat) : Option RD :=
  if r.thread < 0 ∨ r.thread ≥ 64 then none
  else if r.op < 0 then (if r.op = -1 ∧ r.what = 2 ∧ r.act = 4 ∧ r.err = 0 then some s else none)
  else if r.what = 1 then s.invoke r i else s.follow r i
end RD
def readTo (l : List Rec) : Nat → Option RD
  | 0 => some ⟨[], []⟩
  | n + 1 => (readTo l n).bind fun s => s.step (l.getD n r0) n
def hCalls (l : List Rec) : Option (List Cal) := (readTo l l.length).map RD.cs
def hRight (l : List Rec) : Bool := (hCalls l).isSome
def hCallsOf (l : List Rec) : List Cal := (hCalls l).getD []
def hBefore (a b : Cal) : Bool := decide (a.to_ ≥ 0) && decide (a.to_ < b.frm)
def hCommits (l : List Rec) : List Com := if hRight l then (l.filter fun r => decide (r.what = 2)).map Rec.com else []
def hLeftOf (cs : List Cal) : Nat := (cs.filter fun c => decide (c.to_ = -1)).length
def hLeft (l : List Rec) : Nat := hLeftOf (hCallsOf l)
def hDrop (cs : List Cal) (i : Nat) : Bool := cs.any fun c => decide (c.to_ = -1 ∧ c.at_ = -1 ∧ c.frm = i)
def hLate (cs : List Cal) (i : Nat) : Bool := cs.any fun c => decide (c.to_ = -1 ∧ c.at_ ≠ -1 ∧ c.at_ = i)
def hOut (l : List Rec) (cs : List Cal) (n : Nat) : List Rec := ((List.range n).filter fun i => !hDrop cs i).map fun i => l.getD i r0
def hMore (l : List Rec) (cs : List Cal) (n : Nat) : List Rec := ((List.range n).filter fun i => hLate cs i).map fun i => { l.getD i r0 with what := 3 }
def hComplete (l : List Rec) : List Rec := match hCalls l with
  | none => []
  | some cs => hOut l cs l.length ++ hMore l cs l.length

theorem readTo_none {l : List Rec} {n m : Nat} (h : readTo l n = none) (hm : n ≤ m) : readTo l m = none := by
  obtain ⟨d, rfl⟩ := Nat.exists_eq_add_of_le hm
  clear hm
  induction d with
  | zero => exact h
  | succ d ih => show (readTo l (n + d)).bind _ = none; rw [ih]; rfl

/-! ## what holds of all that is read -/
/-- The calls of a thread, and the last record of it. -/
structure RInv (l : List Rec) (n : Nat) (s : RD) : Prop where
  len : s.cs.length ≤ n
  frm : ∀ (j : Nat) (c : Cal), s.cs[j]? = some c → 0 ≤ c.frm ∧ c.frm < n ∧ (l.getD c.frm.toNat r0).what = 1 ∧ (l.getD c.frm.toNat r0).thread = c.thread ∧ (l.getD c.frm.toNat r0).op = c.op ∧ 0 ≤ c.op
  at_ : ∀ (j : Nat) (c : Cal), s.cs[j]? = some c → c.at_ = -1 ∨ (c.frm < c.at_ ∧ c.at_ < n ∧ (l.getD c.at_.toNat r0).what = 2 ∧ (l.getD c.at_.toNat r0).thread = c.thread ∧ (l.getD c.at_.toNat r0).op = c.op)
  to_ : ∀ (j : Nat) (c : Cal), s.cs[j]? = some c → c.to_ = -1 ∨ (c.frm < c.to_ ∧ c.at_ < c.to_ ∧ c.to_ < n ∧ (l.getD c.to_.toNat r0).what = 3 ∧ (l.getD c.to_.toNat r0).thread = c.thread ∧ (l.getD c.to_.toNat r0).op = c.op)
  up : ∀ (j k : Nat) (c d : Cal), j < k → s.cs[j]? = some c → s.cs[k]? = some d → c.frm < d.frm
  /-- What a thread is at is its last call. -/
  last : ∀ t o, mget s.at_ t = some o → o.thread = t ∧ 0 ≤ o.call ∧ o.call.toNat < s.cs.length ∧ (o.what = 1 ∨ o.what = 2 ∨ o.what = 3) ∧
    ∃ c, s.cs[o.call.toNat]? = some c ∧ c.thread = t ∧ c.op = o.op ∧ (o.what = 1 ↔ c.at_ = -1 ∧ c.to_ = -1) ∧ (o.what = 2 ↔ c.at_ ≠ -1 ∧ c.to_ = -1) ∧ (o.what = 3 ↔ c.to_ ≠ -1)
  own : ∀ (j : Nat) (c : Cal), s.cs[j]? = some c → ∃ o, mget s.at_ c.thread = some o ∧ j ≤ o.call.toNat ∧ c.op ≤ o.op
  /-- Two calls of one thread. -/
  two : ∀ (j k : Nat) (c d : Cal), j < k → s.cs[j]? = some c → s.cs[k]? = some d → c.thread = d.thread → c.to_ ≠ -1 ∧ c.to_ < d.frm ∧ c.op < d.op

end Sx
end Go.Proofs.Ytemcdjdglcceiaa

/-
  The kinds of elements of this seat.
-/
namespace Go.Proofs.Ytemcdjdglcceiaa
namespace Sx
open Go

inductive Kd where
  | int | bool | com | rcd | cal | opn | pr
  deriving DecidableEq

@[reducible] def kEl : Kd → Type
  | .int => Int
  | .bool => Bool
  | .com => Com
  | .rcd => Rec
  | .cal => Cal
  | .opn => Opn
  | .pr => Pr
@[reducible] def kEnc : (k : Kd) → Enc (kEl k)
  | .int => intLay
  | .bool => boolLay
  | .com => Com.lay
  | .rcd => Rec.lay
  | .cal => Cal.lay
  | .opn => Opn.lay
  | .pr => Pr.lay
abbrev V : Uni := ⟨Kd, inferInstance, kEl, kEnc, Empty, fun x => x.elim⟩
instance plainV : Plain V := ⟨fun k a f => by cases k <;> rfl⟩
instance bareV : Bare V := ⟨fun k a => by cases k <;> rfl⟩

def kinds : Kinds V := fun t => match t with
  | 3 => some .int
  | 4 => some .bool
  | 27 => some .com
  | 30 => some .rcd
  | 35 => some .cal
  | 84 => some .opn
  | 89 => some .pr
  | _ => none
theorem kinds_met : kinds.met tab := by
  intro e k h
  unfold kinds at h
  split at h <;> cases h
  · exact ⟨ty3, rfl, rfl, rfl, by decide, fun r vs h => h⟩
  · exact ⟨ty4, rfl, rfl, rfl, by decide, fun r vs h => h⟩
  · exact ⟨ty27, rfl, rfl, rfl, by decide, fun r vs h => h⟩
  · exact ⟨ty30, rfl, rfl, rfl, by decide, fun r vs h => h⟩
  · exact ⟨ty35, rfl, rfl, rfl, by decide, fun r vs h => h⟩
  · exact ⟨ty84, rfl, rfl, rfl, by decide, fun r vs h => h⟩
  · exact ⟨ty89, rfl, rfl, rfl, by decide, fun r vs h => h⟩
theorem mixed_met : Try.prog.follows .mixedOrders = true := by kernel_rfl

noncomputable def fnsOf (l : List (Nat × Func)) : Nat → Option Func := fun g => l.lookup g
end Sx
end Go.Proofs.Ytemcdjdglcceiaa

/-
  Records read: the runs of the machine.
-/
namespace Go.Proofs.Ytemcdjdglcceiaa
namespace Sx
open Go
set_option maxRecDepth 100000
set_option linter.unusedVariables false

noncomputable def fnsA : Nat → Option Func := fun g => match g with | 56 => some Try.f56 | 63 => some Try.f63 | 64 => some Try.f64 | 65 => some Try.f65 | _ => none
noncomputable def cfgA : Cfg Try.prog V := ⟨tab, kinds, fnsA, fun _ => none, fun _ _ => none⟩
structure PL where
  l : List Rec
  c : Nat
  hb : l.length ≤ 1099511627776
def I42 (p : PL) (x : Nat × RD × Nat) : St V :=
  ⟨[(4, .ptr 2 0), (10, .sl false 0 0 8 p.l.length p.c), (11, .int .i64 (p.l.length : Int)), (12, .int .i64 (x.1 : Int))],
   [(2, .cells 67 [.mp 1, .sl false 3 0 5 x.2.1.cs.length (x.2.1.cs.length + x.2.2)]), (1, .mp .i64 Kd.opn x.2.1.at_), (3, .arr 35 Kd.cal x.2.1.cs x.2.2), (0, .ro Kd.rcd p.l)], 4, 27, [1, 2, 3, 4, 5, 6, 7, 8, 9, 10, 11, 12, 13, 14, 15, 16]⟩
def R42 (p : PL) : St V := ⟨[(2, .nilS), (3, .ff)], [(0, .ro Kd.rcd p.l)], 4, 27, [1, 2, 3, 4, 5, 6, 7, 8, 9, 10, 11, 12, 13, 14, 15, 16]⟩
def L42 : LoopS V := trimLoop (trimSt [2, 3, 4, 10, 11, 12] [0, 1, 2, 3]) (loopG 3 (fun p : PL => I42 p (0, ⟨[], []⟩, 0)) (fun p (x : RD × Nat) => readTo p.l p.l.length = some x.1) (fun p x => I42 p (p.l.length, x)) (fun p (_ : Unit) => readTo p.l p.l.length = none) (fun p _ => R42 p))
noncomputable def cfgB : Cfg Try.prog V := ⟨tab, kinds, fnsA, fun _ => none, fun f id => match f, id with | 42, 0 => some L42 | _, _ => none⟩
theorem t42 (l : List Rec) (c : Nat) : runF cfgB 40 42 Try.f42 [.sl false 0 0 8 l.length c] [(0, .ro Kd.rcd l)] 1 = Out.need (LoopFor Try.prog 42 0 (loopOf Try.f42 0) L42) (Out.ex (PL → Prop) fun y => Out.need (3 ≤ 3 ∧ SImp 3 {env := [(2, .nilS), (3, .ff), (4, .ptr 2 0), (10, .sl false 0 0 8 l.length c), (11, .int .i64 (↑l.length : Int)), (12, .lit .i64 0)], heap := [(2, .cells 67 [.mp 1, .nilS]), (1, .mp .i64 Kd.opn []), (0, .ro Kd.rcd l)], nx := 3, nt := 27, tl := [] : St V } (fun p => I42 p (0, {at_ := [], cs := [] : RD }, 0)) y) (Out.all PL fun y_1 => Out.asm (y y_1) ((Out.all (RD × Nat) fun y => Out.asm ((fun p x => readTo p.l p.l.length = some x.fst) y_1 y) (Out.fin (.tup [.sl false 3 0 5 (y_1.l.length, y).snd.fst.cs.length ((y_1.l.length, y).snd.fst.cs.length + (y_1.l.length, y).snd.snd), .tt]) [(2, .cells 67 [.mp 1, .sl false 3 0 5 (y_1.l.length, y).snd.fst.cs.length ((y_1.l.length, y).snd.fst.cs.length + (y_1.l.length, y).snd.snd)]), (1, .mp .i64 Kd.opn (y_1.l.length, y).snd.fst.at_), (3, .arr 35 Kd.cal (y_1.l.length, y).snd.fst.cs (y_1.l.length, y).snd.snd), (0, .ro Kd.rcd y_1.l)] 4)).both (Out.all Unit fun y => Out.asm ((fun p x => readTo p.l p.l.length = none) y_1 y) (Out.fin (.tup [.nilS, .ff]) [(0, .ro Kd.rcd y_1.l)] 4))))) := by kernel_rfl

theorem b42 (p : PL) (x : Nat × RD × Nat) : runCode cfgA 60 42 (loopOf Try.f42 0) (I42 p x) (stopT (trimSt [2, 3, 4, 10, 11, 12] [0, 1, 2, 3, 12])) = Out.ite (decide ((↑x.1 : Int) < (↑p.l.length : Int))) (Out.need (0 ≤ (↑x.1 : Int) ∧ (↑x.1 : Int) < (↑p.l.length : Int)) (Out.need (0 + x.1 < p.l.length) (Out.ite (decide ((p.l.getD (0 + x.1) (V.enc Kd.rcd).dflt).thread < 0)) (Out.stop EX.rt {env := [(2, .nilS), (3, .ff), (4, .ptr 2 0), (10, .sl false 0 0 8 p.l.length p.2), (11, .int .i64 (↑p.l.length : Int)), (12, .int .i64 (↑x.1 : Int))], heap := [(2, .cells 67 [.mp 1, .sl false 3 0 5 x.snd.fst.cs.length (x.snd.fst.cs.length + x.snd.2)]), (1, .mp .i64 Kd.opn x.snd.fst.at_), (3, .arr 35 Kd.cal x.snd.fst.cs x.snd.2), (0, .ro Kd.rcd p.l)], nx := 7, nt := 27, tl := [6, 4, 4, 1, 2, 3, 4, 5, 6, 7, 8, 9, 10, 11, 12, 13, 14, 15, 16] : St V }) (Out.ite (decide ((p.l.getD (0 + x.1) (V.enc Kd.rcd).dflt).thread ≥ 64)) (Out.stop EX.rt {env := [(2, .nilS), (3, .ff), (4, .ptr 2 0), (10, .sl false 0 0 8 p.l.length p.2), (11, .int .i64 (↑p.l.length : Int)), (12, .int .i64 (↑x.1 : Int))], heap := [(2, .cells 67 [.mp 1, .sl false 3 0 5 x.snd.fst.cs.length (x.snd.fst.cs.length + x.snd.2)]), (1, .mp .i64 Kd.opn x.snd.fst.at_), (3, .arr 35 Kd.cal x.snd.fst.cs x.snd.2), (0, .ro Kd.rcd p.l)], nx := 7, nt := 27, tl := [6, 4, 4, 1, 2, 3, 4, 5, 6, 7, 8, 9, 10, 11, 12, 13, 14, 15, 16] : St V }) (Out.ite (decide ((p.l.getD (0 + x.1) (V.enc Kd.rcd).dflt).op < 0)) (Out.ite ((p.l.getD (0 + x.1) (V.enc Kd.rcd).dflt).op == -1) (Out.ite ((p.l.getD (0 + x.1) (V.enc Kd.rcd).dflt).what == 2) (Out.ite ((p.l.getD (0 + x.1) (V.enc Kd.rcd).dflt).act == 4) (Out.ite (!(p.l.getD (0 + x.1) (V.enc Kd.rcd).dflt).err == 0) (Out.stop EX.rt {env := [(2, .nilS), (3, .ff), (4, .ptr 2 0), (10, .sl false 0 0 8 p.l.length p.2), (11, .int .i64 (↑p.l.length : Int)), (12, .int .i64 (↑x.1 : Int))], heap := [(2, .cells 67 [.mp 1, .sl false 3 0 5 x.snd.fst.cs.length (x.snd.fst.cs.length + x.snd.2)]), (1, .mp .i64 Kd.opn x.snd.fst.at_), (3, .arr 35 Kd.cal x.snd.fst.cs x.snd.2), (0, .ro Kd.rcd p.l)], nx := 8, nt := 27, tl := [7, 6, 4, 4, 1, 2, 3, 4, 5, 6, 7, 8, 9, 10, 11, 12, 13, 14, 15, 16] : St V }) (Out.stop EX.nx {env := [(2, .und), (3, .und), (4, .ptr 2 0), (10, .sl false 0 0 8 p.l.length p.2), (11, .int .i64 (↑p.l.length : Int)), (12, .int .i64 (IntKind.i64.wrap ((↑x.1 : Int) + 1)))], heap := [(2, .cells 67 [.mp 1, .sl false 3 0 5 x.snd.fst.cs.length (x.snd.fst.cs.length + x.snd.2)]), (1, .mp .i64 Kd.opn x.snd.fst.at_), (3, .arr 35 Kd.cal x.snd.fst.cs x.snd.2), (0, .ro Kd.rcd p.l)], nx := 8, nt := 27, tl := [7, 6, 4, 4, 1, 2, 3, 4, 5, 6, 7, 8, 9, 10, 11, 12, 13, 14, 15, 16] : St V })) (Out.stop EX.rt {env := [(2, .nilS), (3, .ff), (4, .ptr 2 0), (10, .sl false 0 0 8 p.l.length p.2), (11, .int .i64 (↑p.l.length : Int)), (12, .int .i64 (↑x.1 : Int))], heap := [(2, .cells 67 [.mp 1, .sl false 3 0 5 x.snd.fst.cs.length (x.snd.fst.cs.length + x.snd.2)]), (1, .mp .i64 Kd.opn x.snd.fst.at_), (3, .arr 35 Kd.cal x.snd.fst.cs x.snd.2), (0, .ro Kd.rcd p.l)], nx := 8, nt := 27, tl := [7, 6, 4, 4, 1, 2, 3, 4, 5, 6, 7, 8, 9, 10, 11, 12, 13, 14, 15, 16] : St V })) (Out.stop EX.rt {env := [(2, .nilS), (3, .ff), (4, .ptr 2 0), (10, .sl false 0 0 8 p.l.length p.2), (11, .int .i64 (↑p.l.length : Int)), (12, .int .i64 (↑x.1 : Int))], heap := [(2, .cells 67 [.mp 1, .sl false 3 0 5 x.snd.fst.cs.length (x.snd.fst.cs.length + x.snd.2)]), (1, .mp .i64 Kd.opn x.snd.fst.at_), (3, .arr 35 Kd.cal x.snd.fst.cs x.snd.2), (0, .ro Kd.rcd p.l)], nx := 8, nt := 27, tl := [7, 6, 4, 4, 1, 2, 3, 4, 5, 6, 7, 8, 9, 10, 11, 12, 13, 14, 15, 16] : St V })) (Out.stop EX.rt {env := [(2, .nilS), (3, .ff), (4, .ptr 2 0), (10, .sl false 0 0 8 p.l.length p.2), (11, .int .i64 (↑p.l.length : Int)), (12, .int .i64 (↑x.1 : Int))], heap := [(2, .cells 67 [.mp 1, .sl false 3 0 5 x.snd.fst.cs.length (x.snd.fst.cs.length + x.snd.2)]), (1, .mp .i64 Kd.opn x.snd.fst.at_), (3, .arr 35 Kd.cal x.snd.fst.cs x.snd.2), (0, .ro Kd.rcd p.l)], nx := 8, nt := 27, tl := [7, 6, 4, 4, 1, 2, 3, 4, 5, 6, 7, 8, 9, 10, 11, 12, 13, 14, 15, 16] : St V })) (Out.ite ((p.l.getD (0 + x.1) (V.enc Kd.rcd).dflt).what == 1) (Out.ite (!(mget x.snd.fst.at_ (p.l.getD (0 + x.1) (V.enc Kd.rcd).dflt).thread).isSome) (Out.ite (!(p.l.getD (0 + x.1) (V.enc Kd.rcd).dflt).op == 0) (Out.ite (!(mget x.snd.fst.at_ (p.l.getD (0 + x.1) (V.enc Kd.rcd).dflt).thread).isSome) (Out.stop EX.rt {env := [(2, .nilS), (3, .ff), (4, .ptr 2 0), (10, .sl false 0 0 8 p.l.length p.2), (11, .int .i64 (↑p.l.length : Int)), (12, .int .i64 (↑x.1 : Int))], heap := [(2, .cells 67 [.mp 1, .sl false 3 0 5 x.snd.fst.cs.length (x.snd.fst.cs.length + x.snd.2)]), (1, .mp .i64 Kd.opn x.snd.fst.at_), (3, .arr 35 Kd.cal x.snd.fst.cs x.snd.2), (0, .ro Kd.rcd p.l)], nx := 10, nt := 27, tl := [8, 7, 6, 4, 8, 4, 1, 2, 3, 4, 5, 6, 7, 8, 9, 10, 11, 12, 13, 14, 15, 16] : St V }) (Out.ite (((mget x.snd.fst.at_ (p.l.getD (0 + x.1) (V.enc Kd.rcd).dflt).thread).getD (V.enc Kd.opn).dflt).what != 3) (Out.stop EX.rt {env := [(2, .nilS), (3, .ff), (4, .ptr 2 0), (10, .sl false 0 0 8 p.l.length p.2), (11, .int .i64 (↑p.l.length : Int)), (12, .int .i64 (↑x.1 : Int))], heap := [(2, .cells 67 [.mp 1, .sl false 3 0 5 x.snd.fst.cs.length (x.snd.fst.cs.length + x.snd.2)]), (1, .mp .i64 Kd.opn x.snd.fst.at_), (3, .arr 35 Kd.cal x.snd.fst.cs x.snd.2), (0, .ro Kd.rcd p.l)], nx := 10, nt := 27, tl := [8, 7, 6, 4, 8, 4, 1, 2, 3, 4, 5, 6, 7, 8, 9, 10, 11, 12, 13, 14, 15, 16] : St V }) (Out.ite ((p.l.getD (0 + x.1) (V.enc Kd.rcd).dflt).op != IntKind.i64.wrap (((mget x.snd.fst.at_ (p.l.getD (0 + x.1) (V.enc Kd.rcd).dflt).thread).getD (V.enc Kd.opn).dflt).op + 1)) (Out.stop EX.rt {env := [(2, .nilS), (3, .ff), (4, .ptr 2 0), (10, .sl false 0 0 8 p.l.length p.2), (11, .int .i64 (↑p.l.length : Int)), (12, .int .i64 (↑x.1 : Int))], heap := [(2, .cells 67 [.mp 1, .sl false 3 0 5 x.snd.fst.cs.length (x.snd.fst.cs.length + x.snd.2)]), (1, .mp .i64 Kd.opn x.snd.fst.at_), (3, .arr 35 Kd.cal x.snd.fst.cs x.snd.2), (0, .ro Kd.rcd p.l)], nx := 10, nt := 27, tl := [8, 7, 6, 4, 8, 4, 1, 2, 3, 4, 5, 6, 7, 8, 9, 10, 11, 12, 13, 14, 15, 16] : St V }) (Out.need (0 = 0 ∧ x.snd.fst.cs.length = x.snd.fst.cs.length ∧ x.snd.fst.cs.length + x.snd.2 = x.snd.fst.cs.length + x.snd.2 ∧ (x.snd.fst.cs.length + 1) * 40 ≤ 140737488355328) (Out.all Nat fun y => Out.ite (!(p.l.getD (0 + x.1) (V.enc Kd.rcd).dflt).err == 0) (Out.stop EX.rt {env := [(2, .nilS), (3, .ff), (4, .ptr 2 0), (10, .sl false 0 0 8 p.l.length p.2), (11, .int .i64 (↑p.l.length : Int)), (12, .int .i64 (↑x.1 : Int))], heap := [(12, .arr 35 Kd.cal (x.snd.fst.cs ++ [{thread := (p.l.getD (0 + x.1) (V.enc Kd.rcd).dflt).thread, op := (p.l.getD (0 + x.1) (V.enc Kd.rcd).dflt).op, frm := (↑x.1 : Int), at_ := -1, to_ := -1 : Cal }]) y), (2, .cells 67 [.mp 1, .sl false 12 0 5 (x.snd.fst.cs.length + 1) (x.snd.fst.cs.length + 1 + y)]), (1, .mp .i64 Kd.opn (mput x.snd.fst.at_ (p.l.getD (0 + x.1) (V.enc Kd.rcd).dflt).thread {thread := (p.l.getD (0 + x.1) (V.enc Kd.rcd).dflt).thread, op := (p.l.getD (0 + x.1) (V.enc Kd.rcd).dflt).op, what := (p.l.getD (0 + x.1) (V.enc Kd.rcd).dflt).what, act := (p.l.getD (0 + x.1) (V.enc Kd.rcd).dflt).act, key := (p.l.getD (0 + x.1) (V.enc Kd.rcd).dflt).key, value := (p.l.getD (0 + x.1) (V.enc Kd.rcd).dflt).value, hit := (p.l.getD (0 + x.1) (V.enc Kd.rcd).dflt).hit, err := (p.l.getD (0 + x.1) (V.enc Kd.rcd).dflt).err, call := (↑x.snd.fst.cs.length : Int) : Opn })), (0, .ro Kd.rcd p.l)], nx := 14, nt := 27, tl := [11, 8, 7, 6, 4, 2, 3, 1, 8, 4, 1, 2, 3, 4, 5, 6, 7, 8, 9, 10, 11, 12, 13, 14, 15, 16] : St V }) (Out.stop EX.nx {env := [(2, .und), (3, .und), (4, .ptr 2 0), (10, .sl false 0 0 8 p.l.length p.2), (11, .int .i64 (↑p.l.length : Int)), (12, .int .i64 (IntKind.i64.wrap ((↑x.1 : Int) + 1)))], heap := [(12, .arr 35 Kd.cal (x.snd.fst.cs ++ [{thread := (p.l.getD (0 + x.1) (V.enc Kd.rcd).dflt).thread, op := (p.l.getD (0 + x.1) (V.enc Kd.rcd).dflt).op, frm := (↑x.1 : Int), at_ := -1, to_ := -1 : Cal }]) y), (2, .cells 67 [.mp 1, .sl false 12 0 5 (x.snd.fst.cs.length + 1) (x.snd.fst.cs.length + 1 + y)]), (1, .mp .i64 Kd.opn (mput x.snd.fst.at_ (p.l.getD (0 + x.1) (V.enc Kd.rcd).dflt).thread {thread := (p.l.getD (0 + x.1) (V.enc Kd.rcd).dflt).thread, op := (p.l.getD (0 + x.1) (V.enc Kd.rcd).dflt).op, what := (p.l.getD (0 + x.1) (V.enc Kd.rcd).dflt).what, act := (p.l.getD (0 + x.1) (V.enc Kd.rcd).dflt).act, key := (p.l.getD (0 + x.1) (V.enc Kd.rcd).dflt).key, value := (p.l.getD (0 + x.1) (V.enc Kd.rcd).dflt).value, hit := (p.l.getD (0 + x.1) (V.enc Kd.rcd).dflt).hit, err := (p.l.getD (0 + x.1) (V.enc Kd.rcd).dflt).err, call := (↑x.snd.fst.cs.length : Int) : Opn })), (0, .ro Kd.rcd p.l)], nx := 14, nt := 27, tl := [11, 8, 7, 6, 4, 2, 3, 1, 8, 4, 1, 2, 3, 4, 5, 6, 7, 8, 9, 10, 11, 12, 13, 14, 15, 16] : St V })))))) (Out.need (0 = 0 ∧ x.snd.fst.cs.length = x.snd.fst.cs.length ∧ x.snd.fst.cs.length + x.snd.2 = x.snd.fst.cs.length + x.snd.2 ∧ (x.snd.fst.cs.length + 1) * 40 ≤ 140737488355328) (Out.all Nat fun y => Out.ite (!(p.l.getD (0 + x.1) (V.enc Kd.rcd).dflt).err == 0) (Out.stop EX.rt {env := [(2, .nilS), (3, .ff), (4, .ptr 2 0), (10, .sl false 0 0 8 p.l.length p.2), (11, .int .i64 (↑p.l.length : Int)), (12, .int .i64 (↑x.1 : Int))], heap := [(12, .arr 35 Kd.cal (x.snd.fst.cs ++ [{thread := (p.l.getD (0 + x.1) (V.enc Kd.rcd).dflt).thread, op := (p.l.getD (0 + x.1) (V.enc Kd.rcd).dflt).op, frm := (↑x.1 : Int), at_ := -1, to_ := -1 : Cal }]) y), (2, .cells 67 [.mp 1, .sl false 12 0 5 (x.snd.fst.cs.length + 1) (x.snd.fst.cs.length + 1 + y)]), (1, .mp .i64 Kd.opn (mput x.snd.fst.at_ (p.l.getD (0 + x.1) (V.enc Kd.rcd).dflt).thread {thread := (p.l.getD (0 + x.1) (V.enc Kd.rcd).dflt).thread, op := (p.l.getD (0 + x.1) (V.enc Kd.rcd).dflt).op, what := (p.l.getD (0 + x.1) (V.enc Kd.rcd).dflt).what, act := (p.l.getD (0 + x.1) (V.enc Kd.rcd).dflt).act, key := (p.l.getD (0 + x.1) (V.enc Kd.rcd).dflt).key, value := (p.l.getD (0 + x.1) (V.enc Kd.rcd).dflt).value, hit := (p.l.getD (0 + x.1) (V.enc Kd.rcd).dflt).hit, err := (p.l.getD (0 + x.1) (V.enc Kd.rcd).dflt).err, call := (↑x.snd.fst.cs.length : Int) : Opn })), (0, .ro Kd.rcd p.l)], nx := 14, nt := 27, tl := [11, 8, 7, 6, 4, 2, 3, 1, 8, 4, 1, 2, 3, 4, 5, 6, 7, 8, 9, 10, 11, 12, 13, 14, 15, 16] : St V }) (Out.stop EX.nx {env := [(2, .und), (3, .und), (4, .ptr 2 0), (10, .sl false 0 0 8 p.l.length p.2), (11, .int .i64 (↑p.l.length : Int)), (12, .int .i64 (IntKind.i64.wrap ((↑x.1 : Int) + 1)))], heap := [(12, .arr 35 Kd.cal (x.snd.fst.cs ++ [{thread := (p.l.getD (0 + x.1) (V.enc Kd.rcd).dflt).thread, op := (p.l.getD (0 + x.1) (V.enc Kd.rcd).dflt).op, frm := (↑x.1 : Int), at_ := -1, to_ := -1 : Cal }]) y), (2, .cells 67 [.mp 1, .sl false 12 0 5 (x.snd.fst.cs.length + 1) (x.snd.fst.cs.length + 1 + y)]), (1, .mp .i64 Kd.opn (mput x.snd.fst.at_ (p.l.getD (0 + x.1) (V.enc Kd.rcd).dflt).thread {thread := (p.l.getD (0 + x.1) (V.enc Kd.rcd).dflt).thread, op := (p.l.getD (0 + x.1) (V.enc Kd.rcd).dflt).op, what := (p.l.getD (0 + x.1) (V.enc Kd.rcd).dflt).what, act := (p.l.getD (0 + x.1) (V.enc Kd.rcd).dflt).act, key := (p.l.getD (0 + x.1) (V.enc Kd.rcd).dflt).key, value := (p.l.getD (0 + x.1) (V.enc Kd.rcd).dflt).value, hit := (p.l.getD (0 + x.1) (V.enc Kd.rcd).dflt).hit, err := (p.l.getD (0 + x.1) (V.enc Kd.rcd).dflt).err, call := (↑x.snd.fst.cs.length : Int) : Opn })), (0, .ro Kd.rcd p.l)], nx := 14, nt := 27, tl := [11, 8, 7, 6, 4, 2, 3, 1, 8, 4, 1, 2, 3, 4, 5, 6, 7, 8, 9, 10, 11, 12, 13, 14, 15, 16] : St V })))) (Out.ite (!(mget x.snd.fst.at_ (p.l.getD (0 + x.1) (V.enc Kd.rcd).dflt).thread).isSome) (Out.stop EX.rt {env := [(2, .nilS), (3, .ff), (4, .ptr 2 0), (10, .sl false 0 0 8 p.l.length p.2), (11, .int .i64 (↑p.l.length : Int)), (12, .int .i64 (↑x.1 : Int))], heap := [(2, .cells 67 [.mp 1, .sl false 3 0 5 x.snd.fst.cs.length (x.snd.fst.cs.length + x.snd.2)]), (1, .mp .i64 Kd.opn x.snd.fst.at_), (3, .arr 35 Kd.cal x.snd.fst.cs x.snd.2), (0, .ro Kd.rcd p.l)], nx := 10, nt := 27, tl := [8, 7, 6, 4, 8, 4, 1, 2, 3, 4, 5, 6, 7, 8, 9, 10, 11, 12, 13, 14, 15, 16] : St V }) (Out.ite (((mget x.snd.fst.at_ (p.l.getD (0 + x.1) (V.enc Kd.rcd).dflt).thread).getD (V.enc Kd.opn).dflt).what != 3) (Out.stop EX.rt {env := [(2, .nilS), (3, .ff), (4, .ptr 2 0), (10, .sl false 0 0 8 p.l.length p.2), (11, .int .i64 (↑p.l.length : Int)), (12, .int .i64 (↑x.1 : Int))], heap := [(2, .cells 67 [.mp 1, .sl false 3 0 5 x.snd.fst.cs.length (x.snd.fst.cs.length + x.snd.2)]), (1, .mp .i64 Kd.opn x.snd.fst.at_), (3, .arr 35 Kd.cal x.snd.fst.cs x.snd.2), (0, .ro Kd.rcd p.l)], nx := 10, nt := 27, tl := [8, 7, 6, 4, 8, 4, 1, 2, 3, 4, 5, 6, 7, 8, 9, 10, 11, 12, 13, 14, 15, 16] : St V }) (Out.ite ((p.l.getD (0 + x.1) (V.enc Kd.rcd).dflt).op != IntKind.i64.wrap (((mget x.snd.fst.at_ (p.l.getD (0 + x.1) (V.enc Kd.rcd).dflt).thread).getD (V.enc Kd.opn).dflt).op + 1)) (Out.stop EX.rt {env := [(2, .nilS), (3, .ff), (4, .ptr 2 0), (10, .sl false 0 0 8 p.l.length p.2), (11, .int .i64 (↑p.l.length : Int)), (12, .int .i64 (↑x.1 : Int))], heap := [(2, .cells 67 [.mp 1, .sl false 3 0 5 x.snd.fst.cs.length (x.snd.fst.cs.length + x.snd.2)]), (1, .mp .i64 Kd.opn x.snd.fst.at_), (3, .arr 35 Kd.cal x.snd.fst.cs x.snd.2), (0, .ro Kd.rcd p.l)], nx := 10, nt := 27, tl := [8, 7, 6, 4, 8, 4, 1, 2, 3, 4, 5, 6, 7, 8, 9, 10, 11, 12, 13, 14, 15, 16] : St V }) (Out.need (0 = 0 ∧ x.snd.fst.cs.length = x.snd.fst.cs.length ∧ x.snd.fst.cs.length + x.snd.2 = x.snd.fst.cs.length + x.snd.2 ∧ (x.snd.fst.cs.length + 1) * 40 ≤ 140737488355328) (Out.all Nat fun y => Out.ite (!(p.l.getD (0 + x.1) (V.enc Kd.rcd).dflt).err == 0) (Out.stop EX.rt {env := [(2, .nilS), (3, .ff), (4, .ptr 2 0), (10, .sl false 0 0 8 p.l.length p.2), (11, .int .i64 (↑p.l.length : Int)), (12, .int .i64 (↑x.1 : Int))], heap := [(12, .arr 35 Kd.cal (x.snd.fst.cs ++ [{thread := (p.l.getD (0 + x.1) (V.enc Kd.rcd).dflt).thread, op := (p.l.getD (0 + x.1) (V.enc Kd.rcd).dflt).op, frm := (↑x.1 : Int), at_ := -1, to_ := -1 : Cal }]) y), (2, .cells 67 [.mp 1, .sl false 12 0 5 (x.snd.fst.cs.length + 1) (x.snd.fst.cs.length + 1 + y)]), (1, .mp .i64 Kd.opn (mput x.snd.fst.at_ (p.l.getD (0 + x.1) (V.enc Kd.rcd).dflt).thread {thread := (p.l.getD (0 + x.1) (V.enc Kd.rcd).dflt).thread, op := (p.l.getD (0 + x.1) (V.enc Kd.rcd).dflt).op, what := (p.l.getD (0 + x.1) (V.enc Kd.rcd).dflt).what, act := (p.l.getD (0 + x.1) (V.enc Kd.rcd).dflt).act, key := (p.l.getD (0 + x.1) (V.enc Kd.rcd).dflt).key, value := (p.l.getD (0 + x.1) (V.enc Kd.rcd).dflt).value, hit := (p.l.getD (0 + x.1) (V.enc Kd.rcd).dflt).hit, err := (p.l.getD (0 + x.1) (V.enc Kd.rcd).dflt).err, call := (↑x.snd.fst.cs.length : Int) : Opn })), (0, .ro Kd.rcd p.l)], nx := 14, nt := 27, tl := [11, 8, 7, 6, 4, 2, 3, 1, 8, 4, 1, 2, 3, 4, 5, 6, 7, 8, 9, 10, 11, 12, 13, 14, 15, 16] : St V }) (Out.stop EX.nx {env := [(2, .und), (3, .und), (4, .ptr 2 0), (10, .sl false 0 0 8 p.l.length p.2), (11, .int .i64 (↑p.l.length : Int)), (12, .int .i64 (IntKind.i64.wrap ((↑x.1 : Int) + 1)))], heap := [(12, .arr 35 Kd.cal (x.snd.fst.cs ++ [{thread := (p.l.getD (0 + x.1) (V.enc Kd.rcd).dflt).thread, op := (p.l.getD (0 + x.1) (V.enc Kd.rcd).dflt).op, frm := (↑x.1 : Int), at_ := -1, to_ := -1 : Cal }]) y), (2, .cells 67 [.mp 1, .sl false 12 0 5 (x.snd.fst.cs.length + 1) (x.snd.fst.cs.length + 1 + y)]), (1, .mp .i64 Kd.opn (mput x.snd.fst.at_ (p.l.getD (0 + x.1) (V.enc Kd.rcd).dflt).thread {thread := (p.l.getD (0 + x.1) (V.enc Kd.rcd).dflt).thread, op := (p.l.getD (0 + x.1) (V.enc Kd.rcd).dflt).op, what := (p.l.getD (0 + x.1) (V.enc Kd.rcd).dflt).what, act := (p.l.getD (0 + x.1) (V.enc Kd.rcd).dflt).act, key := (p.l.getD (0 + x.1) (V.enc Kd.rcd).dflt).key, value := (p.l.getD (0 + x.1) (V.enc Kd.rcd).dflt).value, hit := (p.l.getD (0 + x.1) (V.enc Kd.rcd).dflt).hit, err := (p.l.getD (0 + x.1) (V.enc Kd.rcd).dflt).err, call := (↑x.snd.fst.cs.length : Int) : Opn })), (0, .ro Kd.rcd p.l)], nx := 14, nt := 27, tl := [11, 8, 7, 6, 4, 2, 3, 1, 8, 4, 1, 2, 3, 4, 5, 6, 7, 8, 9, 10, 11, 12, 13, 14, 15, 16] : St V }))))))) (Out.ite (!(mget x.snd.fst.at_ (p.l.getD (0 + x.1) (V.enc Kd.rcd).dflt).thread).isSome) (Out.stop EX.rt {env := [(2, .nilS), (3, .ff), (4, .ptr 2 0), (10, .sl false 0 0 8 p.l.length p.2), (11, .int .i64 (↑p.l.length : Int)), (12, .int .i64 (↑x.1 : Int))], heap := [(2, .cells 67 [.mp 1, .sl false 3 0 5 x.snd.fst.cs.length (x.snd.fst.cs.length + x.snd.2)]), (1, .mp .i64 Kd.opn x.snd.fst.at_), (3, .arr 35 Kd.cal x.snd.fst.cs x.snd.2), (0, .ro Kd.rcd p.l)], nx := 12, nt := 27, tl := [10, 8, 7, 6, 4, 10, 8, 4, 1, 2, 3, 4, 5, 6, 7, 8, 9, 10, 11, 12, 13, 14, 15, 16] : St V }) (Out.ite (((mget x.snd.fst.at_ (p.l.getD (0 + x.1) (V.enc Kd.rcd).dflt).thread).getD (V.enc Kd.opn).dflt).what == 3) (Out.stop EX.rt {env := [(2, .nilS), (3, .ff), (4, .ptr 2 0), (10, .sl false 0 0 8 p.l.length p.2), (11, .int .i64 (↑p.l.length : Int)), (12, .int .i64 (↑x.1 : Int))], heap := [(2, .cells 67 [.mp 1, .sl false 3 0 5 x.snd.fst.cs.length (x.snd.fst.cs.length + x.snd.2)]), (1, .mp .i64 Kd.opn x.snd.fst.at_), (3, .arr 35 Kd.cal x.snd.fst.cs x.snd.2), (0, .ro Kd.rcd p.l)], nx := 12, nt := 27, tl := [10, 8, 7, 6, 4, 10, 8, 4, 1, 2, 3, 4, 5, 6, 7, 8, 9, 10, 11, 12, 13, 14, 15, 16] : St V }) (Out.ite ((p.l.getD (0 + x.1) (V.enc Kd.rcd).dflt).op != ((mget x.snd.fst.at_ (p.l.getD (0 + x.1) (V.enc Kd.rcd).dflt).thread).getD (V.enc Kd.opn).dflt).op) (Out.stop EX.rt {env := [(2, .nilS), (3, .ff), (4, .ptr 2 0), (10, .sl false 0 0 8 p.l.length p.2), (11, .int .i64 (↑p.l.length : Int)), (12, .int .i64 (↑x.1 : Int))], heap := [(2, .cells 67 [.mp 1, .sl false 3 0 5 x.snd.fst.cs.length (x.snd.fst.cs.length + x.snd.2)]), (1, .mp .i64 Kd.opn x.snd.fst.at_), (3, .arr 35 Kd.cal x.snd.fst.cs x.snd.2), (0, .ro Kd.rcd p.l)], nx := 12, nt := 27, tl := [10, 8, 7, 6, 4, 10, 8, 4, 1, 2, 3, 4, 5, 6, 7, 8, 9, 10, 11, 12, 13, 14, 15, 16] : St V }) (Out.ite ((p.l.getD (0 + x.1) (V.enc Kd.rcd).dflt).act != ((mget x.snd.fst.at_ (p.l.getD (0 + x.1) (V.enc Kd.rcd).dflt).thread).getD (V.enc Kd.opn).dflt).act) (Out.stop EX.rt {env := [(2, .nilS), (3, .ff), (4, .ptr 2 0), (10, .sl false 0 0 8 p.l.length p.2), (11, .int .i64 (↑p.l.length : Int)), (12, .int .i64 (↑x.1 : Int))], heap := [(2, .cells 67 [.mp 1, .sl false 3 0 5 x.snd.fst.cs.length (x.snd.fst.cs.length + x.snd.2)]), (1, .mp .i64 Kd.opn x.snd.fst.at_), (3, .arr 35 Kd.cal x.snd.fst.cs x.snd.2), (0, .ro Kd.rcd p.l)], nx := 12, nt := 27, tl := [10, 8, 7, 6, 4, 10, 8, 4, 1, 2, 3, 4, 5, 6, 7, 8, 9, 10, 11, 12, 13, 14, 15, 16] : St V }) (Out.ite ((p.l.getD (0 + x.1) (V.enc Kd.rcd).dflt).key != ((mget x.snd.fst.at_ (p.l.getD (0 + x.1) (V.enc Kd.rcd).dflt).thread).getD (V.enc Kd.opn).dflt).key) (Out.stop EX.rt {env := [(2, .nilS), (3, .ff), (4, .ptr 2 0), (10, .sl false 0 0 8 p.l.length p.2), (11, .int .i64 (↑p.l.length : Int)), (12, .int .i64 (↑x.1 : Int))], heap := [(2, .cells 67 [.mp 1, .sl false 3 0 5 x.snd.fst.cs.length (x.snd.fst.cs.length + x.snd.2)]), (1, .mp .i64 Kd.opn x.snd.fst.at_), (3, .arr 35 Kd.cal x.snd.fst.cs x.snd.2), (0, .ro Kd.rcd p.l)], nx := 12, nt := 27, tl := [10, 8, 7, 6, 4, 10, 8, 4, 1, 2, 3, 4, 5, 6, 7, 8, 9, 10, 11, 12, 13, 14, 15, 16] : St V }) (Out.need (0 ≤ ((mget x.snd.fst.at_ (p.l.getD (0 + x.1) (V.enc Kd.rcd).dflt).thread).getD (V.enc Kd.opn).dflt).call ∧ ((mget x.snd.fst.at_ (p.l.getD (0 + x.1) (V.enc Kd.rcd).dflt).thread).getD (V.enc Kd.opn).dflt).call < (↑x.snd.fst.cs.length : Int)) (Out.ite ((p.l.getD (0 + x.1) (V.enc Kd.rcd).dflt).what == 2) (Out.need (0 + ((mget x.snd.fst.at_ (p.l.getD (0 + x.1) (V.enc Kd.rcd).dflt).thread).getD (V.enc Kd.opn).dflt).call.toNat < x.snd.fst.cs.length) (Out.ite (((mget x.snd.fst.at_ (p.l.getD (0 + x.1) (V.enc Kd.rcd).dflt).thread).getD (V.enc Kd.opn).dflt).what == 1) (Out.ite (!(p.l.getD (0 + x.1) (V.enc Kd.rcd).dflt).err == 0) (Out.stop EX.rt {env := [(2, .nilS), (3, .ff), (4, .ptr 2 0), (10, .sl false 0 0 8 p.l.length p.2), (11, .int .i64 (↑p.l.length : Int)), (12, .int .i64 (↑x.1 : Int))], heap := [(2, .cells 67 [.mp 1, .sl false 3 0 5 x.snd.fst.cs.length (x.snd.fst.cs.length + x.snd.2)]), (1, .mp .i64 Kd.opn (mput x.snd.fst.at_ (p.l.getD (0 + x.1) (V.enc Kd.rcd).dflt).thread {thread := (p.l.getD (0 + x.1) (V.enc Kd.rcd).dflt).thread, op := (p.l.getD (0 + x.1) (V.enc Kd.rcd).dflt).op, what := (p.l.getD (0 + x.1) (V.enc Kd.rcd).dflt).what, act := (p.l.getD (0 + x.1) (V.enc Kd.rcd).dflt).act, key := (p.l.getD (0 + x.1) (V.enc Kd.rcd).dflt).key, value := (p.l.getD (0 + x.1) (V.enc Kd.rcd).dflt).value, hit := (p.l.getD (0 + x.1) (V.enc Kd.rcd).dflt).hit, err := (p.l.getD (0 + x.1) (V.enc Kd.rcd).dflt).err, call := ((mget x.snd.fst.at_ (p.l.getD (0 + x.1) (V.enc Kd.rcd).dflt).thread).getD (V.enc Kd.opn).dflt).call : Opn })), (3, .arr 35 Kd.cal (x.snd.fst.cs.set (0 + ((mget x.snd.fst.at_ (p.l.getD (0 + x.1) (V.enc Kd.rcd).dflt).thread).getD (V.enc Kd.opn).dflt).call.toNat) {thread := (x.snd.fst.cs.getD (0 + ((mget x.snd.fst.at_ (p.l.getD (0 + x.1) (V.enc Kd.rcd).dflt).thread).getD (V.enc Kd.opn).dflt).call.toNat) (V.enc Kd.cal).dflt).thread, op := (x.snd.fst.cs.getD (0 + ((mget x.snd.fst.at_ (p.l.getD (0 + x.1) (V.enc Kd.rcd).dflt).thread).getD (V.enc Kd.opn).dflt).call.toNat) (V.enc Kd.cal).dflt).op, frm := (x.snd.fst.cs.getD (0 + ((mget x.snd.fst.at_ (p.l.getD (0 + x.1) (V.enc Kd.rcd).dflt).thread).getD (V.enc Kd.opn).dflt).call.toNat) (V.enc Kd.cal).dflt).frm, at_ := (↑x.1 : Int), to_ := (x.snd.fst.cs.getD (0 + ((mget x.snd.fst.at_ (p.l.getD (0 + x.1) (V.enc Kd.rcd).dflt).thread).getD (V.enc Kd.opn).dflt).call.toNat) (V.enc Kd.cal).dflt).to_ : Cal }) x.snd.2), (0, .ro Kd.rcd p.l)], nx := 14, nt := 27, tl := [10, 8, 7, 6, 4, 3, 1, 10, 8, 4, 1, 2, 3, 4, 5, 6, 7, 8, 9, 10, 11, 12, 13, 14, 15, 16] : St V }) (Out.stop EX.nx {env := [(2, .und), (3, .und), (4, .ptr 2 0), (10, .sl false 0 0 8 p.l.length p.2), (11, .int .i64 (↑p.l.length : Int)), (12, .int .i64 (IntKind.i64.wrap ((↑x.1 : Int) + 1)))], heap := [(2, .cells 67 [.mp 1, .sl false 3 0 5 x.snd.fst.cs.length (x.snd.fst.cs.length + x.snd.2)]), (1, .mp .i64 Kd.opn (mput x.snd.fst.at_ (p.l.getD (0 + x.1) (V.enc Kd.rcd).dflt).thread {thread := (p.l.getD (0 + x.1) (V.enc Kd.rcd).dflt).thread, op := (p.l.getD (0 + x.1) (V.enc Kd.rcd).dflt).op, what := (p.l.getD (0 + x.1) (V.enc Kd.rcd).dflt).what, act := (p.l.getD (0 + x.1) (V.enc Kd.rcd).dflt).act, key := (p.l.getD (0 + x.1) (V.enc Kd.rcd).dflt).key, value := (p.l.getD (0 + x.1) (V.enc Kd.rcd).dflt).value, hit := (p.l.getD (0 + x.1) (V.enc Kd.rcd).dflt).hit, err := (p.l.getD (0 + x.1) (V.enc Kd.rcd).dflt).err, call := ((mget x.snd.fst.at_ (p.l.getD (0 + x.1) (V.enc Kd.rcd).dflt).thread).getD (V.enc Kd.opn).dflt).call : Opn })), (3, .arr 35 Kd.cal (x.snd.fst.cs.set (0 + ((mget x.snd.fst.at_ (p.l.getD (0 + x.1) (V.enc Kd.rcd).dflt).thread).getD (V.enc Kd.opn).dflt).call.toNat) {thread := (x.snd.fst.cs.getD (0 + ((mget x.snd.fst.at_ (p.l.getD (0 + x.1) (V.enc Kd.rcd).dflt).thread).getD (V.enc Kd.opn).dflt).call.toNat) (V.enc Kd.cal).dflt).thread, op := (x.snd.fst.cs.getD (0 + ((mget x.snd.fst.at_ (p.l.getD (0 + x.1) (V.enc Kd.rcd).dflt).thread).getD (V.enc Kd.opn).dflt).call.toNat) (V.enc Kd.cal).dflt).op, frm := (x.snd.fst.cs.getD (0 + ((mget x.snd.fst.at_ (p.l.getD (0 + x.1) (V.enc Kd.rcd).dflt).thread).getD (V.enc Kd.opn).dflt).call.toNat) (V.enc Kd.cal).dflt).frm, at_ := (↑x.1 : Int), to_ := (x.snd.fst.cs.getD (0 + ((mget x.snd.fst.at_ (p.l.getD (0 + x.1) (V.enc Kd.rcd).dflt).thread).getD (V.enc Kd.opn).dflt).call.toNat) (V.enc Kd.cal).dflt).to_ : Cal }) x.snd.2), (0, .ro Kd.rcd p.l)], nx := 14, nt := 27, tl := [10, 8, 7, 6, 4, 3, 1, 10, 8, 4, 1, 2, 3, 4, 5, 6, 7, 8, 9, 10, 11, 12, 13, 14, 15, 16] : St V })) (Out.stop EX.rt {env := [(2, .nilS), (3, .ff), (4, .ptr 2 0), (10, .sl false 0 0 8 p.l.length p.2), (11, .int .i64 (↑p.l.length : Int)), (12, .int .i64 (↑x.1 : Int))], heap := [(2, .cells 67 [.mp 1, .sl false 3 0 5 x.snd.fst.cs.length (x.snd.fst.cs.length + x.snd.2)]), (1, .mp .i64 Kd.opn (mput x.snd.fst.at_ (p.l.getD (0 + x.1) (V.enc Kd.rcd).dflt).thread {thread := (p.l.getD (0 + x.1) (V.enc Kd.rcd).dflt).thread, op := (p.l.getD (0 + x.1) (V.enc Kd.rcd).dflt).op, what := (p.l.getD (0 + x.1) (V.enc Kd.rcd).dflt).what, act := (p.l.getD (0 + x.1) (V.enc Kd.rcd).dflt).act, key := (p.l.getD (0 + x.1) (V.enc Kd.rcd).dflt).key, value := (p.l.getD (0 + x.1) (V.enc Kd.rcd).dflt).value, hit := (p.l.getD (0 + x.1) (V.enc Kd.rcd).dflt).hit, err := (p.l.getD (0 + x.1) (V.enc Kd.rcd).dflt).err, call := ((mget x.snd.fst.at_ (p.l.getD (0 + x.1) (V.enc Kd.rcd).dflt).thread).getD (V.enc Kd.opn).dflt).call : Opn })), (3, .arr 35 Kd.cal (x.snd.fst.cs.set (0 + ((mget x.snd.fst.at_ (p.l.getD (0 + x.1) (V.enc Kd.rcd).dflt).thread).getD (V.enc Kd.opn).dflt).call.toNat) {thread := (x.snd.fst.cs.getD (0 + ((mget x.snd.fst.at_ (p.l.getD (0 + x.1) (V.enc Kd.rcd).dflt).thread).getD (V.enc Kd.opn).dflt).call.toNat) (V.enc Kd.cal).dflt).thread, op := (x.snd.fst.cs.getD (0 + ((mget x.snd.fst.at_ (p.l.getD (0 + x.1) (V.enc Kd.rcd).dflt).thread).getD (V.enc Kd.opn).dflt).call.toNat) (V.enc Kd.cal).dflt).op, frm := (x.snd.fst.cs.getD (0 + ((mget x.snd.fst.at_ (p.l.getD (0 + x.1) (V.enc Kd.rcd).dflt).thread).getD (V.enc Kd.opn).dflt).call.toNat) (V.enc Kd.cal).dflt).frm, at_ := (↑x.1 : Int), to_ := (x.snd.fst.cs.getD (0 + ((mget x.snd.fst.at_ (p.l.getD (0 + x.1) (V.enc Kd.rcd).dflt).thread).getD (V.enc Kd.opn).dflt).call.toNat) (V.enc Kd.cal).dflt).to_ : Cal }) x.snd.2), (0, .ro Kd.rcd p.l)], nx := 14, nt := 27, tl := [10, 8, 7, 6, 4, 3, 1, 10, 8, 4, 1, 2, 3, 4, 5, 6, 7, 8, 9, 10, 11, 12, 13, 14, 15, 16] : St V }))) (Out.ite ((p.l.getD (0 + x.1) (V.enc Kd.rcd).dflt).what == 3) (Out.need (0 + ((mget x.snd.fst.at_ (p.l.getD (0 + x.1) (V.enc Kd.rcd).dflt).thread).getD (V.enc Kd.opn).dflt).call.toNat < x.snd.fst.cs.length) (Out.ite (((mget x.snd.fst.at_ (p.l.getD (0 + x.1) (V.enc Kd.rcd).dflt).thread).getD (V.enc Kd.opn).dflt).what == 1) (Out.stop EX.nx {env := [(2, .und), (3, .und), (4, .ptr 2 0), (10, .sl false 0 0 8 p.l.length p.2), (11, .int .i64 (↑p.l.length : Int)), (12, .int .i64 (IntKind.i64.wrap ((↑x.1 : Int) + 1)))], heap := [(2, .cells 67 [.mp 1, .sl false 3 0 5 x.snd.fst.cs.length (x.snd.fst.cs.length + x.snd.2)]), (1, .mp .i64 Kd.opn (mput x.snd.fst.at_ (p.l.getD (0 + x.1) (V.enc Kd.rcd).dflt).thread {thread := (p.l.getD (0 + x.1) (V.enc Kd.rcd).dflt).thread, op := (p.l.getD (0 + x.1) (V.enc Kd.rcd).dflt).op, what := (p.l.getD (0 + x.1) (V.enc Kd.rcd).dflt).what, act := (p.l.getD (0 + x.1) (V.enc Kd.rcd).dflt).act, key := (p.l.getD (0 + x.1) (V.enc Kd.rcd).dflt).key, value := (p.l.getD (0 + x.1) (V.enc Kd.rcd).dflt).value, hit := (p.l.getD (0 + x.1) (V.enc Kd.rcd).dflt).hit, err := (p.l.getD (0 + x.1) (V.enc Kd.rcd).dflt).err, call := ((mget x.snd.fst.at_ (p.l.getD (0 + x.1) (V.enc Kd.rcd).dflt).thread).getD (V.enc Kd.opn).dflt).call : Opn })), (3, .arr 35 Kd.cal (x.snd.fst.cs.set (0 + ((mget x.snd.fst.at_ (p.l.getD (0 + x.1) (V.enc Kd.rcd).dflt).thread).getD (V.enc Kd.opn).dflt).call.toNat) {thread := (x.snd.fst.cs.getD (0 + ((mget x.snd.fst.at_ (p.l.getD (0 + x.1) (V.enc Kd.rcd).dflt).thread).getD (V.enc Kd.opn).dflt).call.toNat) (V.enc Kd.cal).dflt).thread, op := (x.snd.fst.cs.getD (0 + ((mget x.snd.fst.at_ (p.l.getD (0 + x.1) (V.enc Kd.rcd).dflt).thread).getD (V.enc Kd.opn).dflt).call.toNat) (V.enc Kd.cal).dflt).op, frm := (x.snd.fst.cs.getD (0 + ((mget x.snd.fst.at_ (p.l.getD (0 + x.1) (V.enc Kd.rcd).dflt).thread).getD (V.enc Kd.opn).dflt).call.toNat) (V.enc Kd.cal).dflt).frm, at_ := (x.snd.fst.cs.getD (0 + ((mget x.snd.fst.at_ (p.l.getD (0 + x.1) (V.enc Kd.rcd).dflt).thread).getD (V.enc Kd.opn).dflt).call.toNat) (V.enc Kd.cal).dflt).at_, to_ := (↑x.1 : Int) : Cal }) x.snd.2), (0, .ro Kd.rcd p.l)], nx := 14, nt := 27, tl := [10, 8, 7, 6, 4, 3, 1, 10, 8, 4, 1, 2, 3, 4, 5, 6, 7, 8, 9, 10, 11, 12, 13, 14, 15, 16] : St V }) (Out.ite ((p.l.getD (0 + x.1) (V.enc Kd.rcd).dflt).act == ((mget x.snd.fst.at_ (p.l.getD (0 + x.1) (V.enc Kd.rcd).dflt).thread).getD (V.enc Kd.opn).dflt).act && ((p.l.getD (0 + x.1) (V.enc Kd.rcd).dflt).key == ((mget x.snd.fst.at_ (p.l.getD (0 + x.1) (V.enc Kd.rcd).dflt).thread).getD (V.enc Kd.opn).dflt).key && ((p.l.getD (0 + x.1) (V.enc Kd.rcd).dflt).value == ((mget x.snd.fst.at_ (p.l.getD (0 + x.1) (V.enc Kd.rcd).dflt).thread).getD (V.enc Kd.opn).dflt).value && ((p.l.getD (0 + x.1) (V.enc Kd.rcd).dflt).hit == ((mget x.snd.fst.at_ (p.l.getD (0 + x.1) (V.enc Kd.rcd).dflt).thread).getD (V.enc Kd.opn).dflt).hit && true)))) (Out.ite (!(p.l.getD (0 + x.1) (V.enc Kd.rcd).dflt).err == 0) (Out.stop EX.rt {env := [(2, .nilS), (3, .ff), (4, .ptr 2 0), (10, .sl false 0 0 8 p.l.length p.2), (11, .int .i64 (↑p.l.length : Int)), (12, .int .i64 (↑x.1 : Int))], heap := [(2, .cells 67 [.mp 1, .sl false 3 0 5 x.snd.fst.cs.length (x.snd.fst.cs.length + x.snd.2)]), (1, .mp .i64 Kd.opn (mput x.snd.fst.at_ (p.l.getD (0 + x.1) (V.enc Kd.rcd).dflt).thread {thread := (p.l.getD (0 + x.1) (V.enc Kd.rcd).dflt).thread, op := (p.l.getD (0 + x.1) (V.enc Kd.rcd).dflt).op, what := (p.l.getD (0 + x.1) (V.enc Kd.rcd).dflt).what, act := (p.l.getD (0 + x.1) (V.enc Kd.rcd).dflt).act, key := (p.l.getD (0 + x.1) (V.enc Kd.rcd).dflt).key, value := (p.l.getD (0 + x.1) (V.enc Kd.rcd).dflt).value, hit := (p.l.getD (0 + x.1) (V.enc Kd.rcd).dflt).hit, err := (p.l.getD (0 + x.1) (V.enc Kd.rcd).dflt).err, call := ((mget x.snd.fst.at_ (p.l.getD (0 + x.1) (V.enc Kd.rcd).dflt).thread).getD (V.enc Kd.opn).dflt).call : Opn })), (3, .arr 35 Kd.cal (x.snd.fst.cs.set (0 + ((mget x.snd.fst.at_ (p.l.getD (0 + x.1) (V.enc Kd.rcd).dflt).thread).getD (V.enc Kd.opn).dflt).call.toNat) {thread := (x.snd.fst.cs.getD (0 + ((mget x.snd.fst.at_ (p.l.getD (0 + x.1) (V.enc Kd.rcd).dflt).thread).getD (V.enc Kd.opn).dflt).call.toNat) (V.enc Kd.cal).dflt).thread, op := (x.snd.fst.cs.getD (0 + ((mget x.snd.fst.at_ (p.l.getD (0 + x.1) (V.enc Kd.rcd).dflt).thread).getD (V.enc Kd.opn).dflt).call.toNat) (V.enc Kd.cal).dflt).op, frm := (x.snd.fst.cs.getD (0 + ((mget x.snd.fst.at_ (p.l.getD (0 + x.1) (V.enc Kd.rcd).dflt).thread).getD (V.enc Kd.opn).dflt).call.toNat) (V.enc Kd.cal).dflt).frm, at_ := (x.snd.fst.cs.getD (0 + ((mget x.snd.fst.at_ (p.l.getD (0 + x.1) (V.enc Kd.rcd).dflt).thread).getD (V.enc Kd.opn).dflt).call.toNat) (V.enc Kd.cal).dflt).at_, to_ := (↑x.1 : Int) : Cal }) x.snd.2), (0, .ro Kd.rcd p.l)], nx := 14, nt := 27, tl := [10, 8, 7, 6, 4, 3, 1, 10, 8, 4, 1, 2, 3, 4, 5, 6, 7, 8, 9, 10, 11, 12, 13, 14, 15, 16] : St V }) (Out.stop EX.nx {env := [(2, .und), (3, .und), (4, .ptr 2 0), (10, .sl false 0 0 8 p.l.length p.2), (11, .int .i64 (↑p.l.length : Int)), (12, .int .i64 (IntKind.i64.wrap ((↑x.1 : Int) + 1)))], heap := [(2, .cells 67 [.mp 1, .sl false 3 0 5 x.snd.fst.cs.length (x.snd.fst.cs.length + x.snd.2)]), (1, .mp .i64 Kd.opn (mput x.snd.fst.at_ (p.l.getD (0 + x.1) (V.enc Kd.rcd).dflt).thread {thread := (p.l.getD (0 + x.1) (V.enc Kd.rcd).dflt).thread, op := (p.l.getD (0 + x.1) (V.enc Kd.rcd).dflt).op, what := (p.l.getD (0 + x.1) (V.enc Kd.rcd).dflt).what, act := (p.l.getD (0 + x.1) (V.enc Kd.rcd).dflt).act, key := (p.l.getD (0 + x.1) (V.enc Kd.rcd).dflt).key, value := (p.l.getD (0 + x.1) (V.enc Kd.rcd).dflt).value, hit := (p.l.getD (0 + x.1) (V.enc Kd.rcd).dflt).hit, err := (p.l.getD (0 + x.1) (V.enc Kd.rcd).dflt).err, call := ((mget x.snd.fst.at_ (p.l.getD (0 + x.1) (V.enc Kd.rcd).dflt).thread).getD (V.enc Kd.opn).dflt).call : Opn })), (3, .arr 35 Kd.cal (x.snd.fst.cs.set (0 + ((mget x.snd.fst.at_ (p.l.getD (0 + x.1) (V.enc Kd.rcd).dflt).thread).getD (V.enc Kd.opn).dflt).call.toNat) {thread := (x.snd.fst.cs.getD (0 + ((mget x.snd.fst.at_ (p.l.getD (0 + x.1) (V.enc Kd.rcd).dflt).thread).getD (V.enc Kd.opn).dflt).call.toNat) (V.enc Kd.cal).dflt).thread, op := (x.snd.fst.cs.getD (0 + ((mget x.snd.fst.at_ (p.l.getD (0 + x.1) (V.enc Kd.rcd).dflt).thread).getD (V.enc Kd.opn).dflt).call.toNat) (V.enc Kd.cal).dflt).op, frm := (x.snd.fst.cs.getD (0 + ((mget x.snd.fst.at_ (p.l.getD (0 + x.1) (V.enc Kd.rcd).dflt).thread).getD (V.enc Kd.opn).dflt).call.toNat) (V.enc Kd.cal).dflt).frm, at_ := (x.snd.fst.cs.getD (0 + ((mget x.snd.fst.at_ (p.l.getD (0 + x.1) (V.enc Kd.rcd).dflt).thread).getD (V.enc Kd.opn).dflt).call.toNat) (V.enc Kd.cal).dflt).at_, to_ := (↑x.1 : Int) : Cal }) x.snd.2), (0, .ro Kd.rcd p.l)], nx := 14, nt := 27, tl := [10, 8, 7, 6, 4, 3, 1, 10, 8, 4, 1, 2, 3, 4, 5, 6, 7, 8, 9, 10, 11, 12, 13, 14, 15, 16] : St V })) (Out.stop EX.rt {env := [(2, .nilS), (3, .ff), (4, .ptr 2 0), (10, .sl false 0 0 8 p.l.length p.2), (11, .int .i64 (↑p.l.length : Int)), (12, .int .i64 (↑x.1 : Int))], heap := [(2, .cells 67 [.mp 1, .sl false 3 0 5 x.snd.fst.cs.length (x.snd.fst.cs.length + x.snd.2)]), (1, .mp .i64 Kd.opn (mput x.snd.fst.at_ (p.l.getD (0 + x.1) (V.enc Kd.rcd).dflt).thread {thread := (p.l.getD (0 + x.1) (V.enc Kd.rcd).dflt).thread, op := (p.l.getD (0 + x.1) (V.enc Kd.rcd).dflt).op, what := (p.l.getD (0 + x.1) (V.enc Kd.rcd).dflt).what, act := (p.l.getD (0 + x.1) (V.enc Kd.rcd).dflt).act, key := (p.l.getD (0 + x.1) (V.enc Kd.rcd).dflt).key, value := (p.l.getD (0 + x.1) (V.enc Kd.rcd).dflt).value, hit := (p.l.getD (0 + x.1) (V.enc Kd.rcd).dflt).hit, err := (p.l.getD (0 + x.1) (V.enc Kd.rcd).dflt).err, call := ((mget x.snd.fst.at_ (p.l.getD (0 + x.1) (V.enc Kd.rcd).dflt).thread).getD (V.enc Kd.opn).dflt).call : Opn })), (3, .arr 35 Kd.cal (x.snd.fst.cs.set (0 + ((mget x.snd.fst.at_ (p.l.getD (0 + x.1) (V.enc Kd.rcd).dflt).thread).getD (V.enc Kd.opn).dflt).call.toNat) {thread := (x.snd.fst.cs.getD (0 + ((mget x.snd.fst.at_ (p.l.getD (0 + x.1) (V.enc Kd.rcd).dflt).thread).getD (V.enc Kd.opn).dflt).call.toNat) (V.enc Kd.cal).dflt).thread, op := (x.snd.fst.cs.getD (0 + ((mget x.snd.fst.at_ (p.l.getD (0 + x.1) (V.enc Kd.rcd).dflt).thread).getD (V.enc Kd.opn).dflt).call.toNat) (V.enc Kd.cal).dflt).op, frm := (x.snd.fst.cs.getD (0 + ((mget x.snd.fst.at_ (p.l.getD (0 + x.1) (V.enc Kd.rcd).dflt).thread).getD (V.enc Kd.opn).dflt).call.toNat) (V.enc Kd.cal).dflt).frm, at_ := (x.snd.fst.cs.getD (0 + ((mget x.snd.fst.at_ (p.l.getD (0 + x.1) (V.enc Kd.rcd).dflt).thread).getD (V.enc Kd.opn).dflt).call.toNat) (V.enc Kd.cal).dflt).at_, to_ := (↑x.1 : Int) : Cal }) x.snd.2), (0, .ro Kd.rcd p.l)], nx := 14, nt := 27, tl := [10, 8, 7, 6, 4, 3, 1, 10, 8, 4, 1, 2, 3, 4, 5, 6, 7, 8, 9, 10, 11, 12, 13, 14, 15, 16] : St V })))) (Out.stop EX.rt {env := [(2, .nilS), (3, .ff), (4, .ptr 2 0), (10, .sl false 0 0 8 p.l.length p.2), (11, .int .i64 (↑p.l.length : Int)), (12, .int .i64 (↑x.1 : Int))], heap := [(2, .cells 67 [.mp 1, .sl false 3 0 5 x.snd.fst.cs.length (x.snd.fst.cs.length + x.snd.2)]), (1, .mp .i64 Kd.opn (mput x.snd.fst.at_ (p.l.getD (0 + x.1) (V.enc Kd.rcd).dflt).thread {thread := (p.l.getD (0 + x.1) (V.enc Kd.rcd).dflt).thread, op := (p.l.getD (0 + x.1) (V.enc Kd.rcd).dflt).op, what := (p.l.getD (0 + x.1) (V.enc Kd.rcd).dflt).what, act := (p.l.getD (0 + x.1) (V.enc Kd.rcd).dflt).act, key := (p.l.getD (0 + x.1) (V.enc Kd.rcd).dflt).key, value := (p.l.getD (0 + x.1) (V.enc Kd.rcd).dflt).value, hit := (p.l.getD (0 + x.1) (V.enc Kd.rcd).dflt).hit, err := (p.l.getD (0 + x.1) (V.enc Kd.rcd).dflt).err, call := ((mget x.snd.fst.at_ (p.l.getD (0 + x.1) (V.enc Kd.rcd).dflt).thread).getD (V.enc Kd.opn).dflt).call : Opn })), (3, .arr 35 Kd.cal x.snd.fst.cs x.snd.2), (0, .ro Kd.rcd p.l)], nx := 13, nt := 27, tl := [10, 8, 7, 6, 4, 1, 10, 8, 4, 1, 2, 3, 4, 5, 6, 7, 8, 9, 10, 11, 12, 13, 14, 15, 16] : St V }))))))))))))))) (Out.stop (EX.ex 0) {env := [(2, .und), (3, .und), (4, .ptr 2 0), (10, .sl false 0 0 8 p.l.length p.2), (11, .int .i64 (↑p.l.length : Int)), (12, .int .i64 (↑x.1 : Int))], heap := [(2, .cells 67 [.mp 1, .sl false 3 0 5 x.snd.fst.cs.length (x.snd.fst.cs.length + x.snd.2)]), (1, .mp .i64 Kd.opn x.snd.fst.at_), (3, .arr 35 Kd.cal x.snd.fst.cs x.snd.2), (0, .ro Kd.rcd p.l)], nx := 4, nt := 27, tl := [1, 2, 3, 4, 5, 6, 7, 8, 9, 10, 11, 12, 13, 14, 15, 16] : St V }) := by kernel_rfl

end Sx
end Go.Proofs.Ytemcdjdglcceiaa

/-
  What holds of all calls that are read.
-/
namespace Go.Proofs.Ytemcdjdglcceiaa
namespace Sx
open Go
set_option linter.unusedVariables false
set_option linter.unusedSimpArgs false

theorem mget_put {α : Type} : ∀ (m : List (Int × α)) (n : Int) (x : α) (k : Int), mget (mput m n x) k = if k = n then some x else mget m k
  | [], n, x, k => rfl
  | (j, y) :: m, n, x, k => by
    unfold mput
    by_cases h : n = j
    · rw [if_pos h]
      show (if k = j then some x else mget m k) = if k = n then some x else (if k = j then some y else mget m k)
      subst h
      by_cases hk : k = n
      · rw [if_pos hk, if_pos hk]
      · rw [if_neg hk, if_neg hk, if_neg hk]
    · rw [if_neg h]
      show (if k = j then some y else mget (mput m n x) k) = if k = n then some x else (if k = j then some y else mget m k)
      rw [mget_put m n x k]
      by_cases hk : k = j
      · rw [if_pos hk, if_pos hk, if_neg (fun hh => h (hh.symm.trans hk))]
      · rw [if_neg hk, if_neg hk]

theorem get_push {α : Type} {cs : List α} {x c : α} {j : Nat} (h : (cs ++ [x])[j]? = some c) : cs[j]? = some c ∨ (j = cs.length ∧ c = x) := by
  rcases Nat.lt_or_ge j cs.length with hj | hj
  · rw [List.getElem?_append_left hj] at h; exact .inl h
  · rw [List.getElem?_append_right hj] at h
    have : j - cs.length < 1 := by have := (List.getElem?_eq_some_iff.1 h).1; simpa using this
    have e : j = cs.length := by omega
    subst e
    rw [Nat.sub_self] at h
    exact .inr ⟨rfl, (Option.some.inj h).symm⟩
theorem get_set {α : Type} {cs : List α} {x c : α} {j k : Nat} (h : (cs.set k x)[j]? = some c) : (j = k ∧ c = x) ∨ (j ≠ k ∧ cs[j]? = some c) := by
  rw [List.getElem?_set] at h
  split at h
  · rename_i e
    split at h
    · exact .inl ⟨e.symm, (Option.some.inj h).symm⟩
    · cases h
  · rename_i e; exact .inr ⟨fun hh => e hh.symm, h⟩
theorem get_lt {α : Type} {cs : List α} {c : α} {j : Nat} (h : cs[j]? = some c) : j < cs.length := (List.getElem?_eq_some_iff.1 h).1

theorem RInv.mono {l : List Rec} {n : Nat} {s : RD} (I : RInv l n s) : RInv l (n + 1) s := by
  refine ⟨by have := I.len; omega, fun j c h => ?_, fun j c h => ?_, fun j c h => ?_, I.up, I.last, I.own, I.two⟩
  · obtain ⟨a, b, d⟩ := I.frm j c h; exact ⟨a, by omega, d⟩
  · rcases I.at_ j c h with e | ⟨a, b, d⟩
    · exact .inl e
    · exact .inr ⟨a, by omega, d⟩
  · rcases I.to_ j c h with e | ⟨a, b, d, e⟩
    · exact .inl e
    · exact .inr ⟨a, b, by omega, e⟩

theorem RInv.push {l : List Rec} {n : Nat} {s : RD} (I : RInv l n s) {r : Rec} (hr : l.getD n r0 = r) (hw : r.what = 1) (hp : 0 ≤ r.op) (hm : s.may r) (hb : ∀ i, (l.getD i r0).op < 9223372036854775808) : RInv l (n + 1) (s.push r n) := by
  have hlen := I.len
  have old : ∀ {j : Nat} {c : Cal}, s.cs[j]? = some c → c.thread = r.thread → c.to_ ≠ -1 ∧ c.to_ < n ∧ c.op < r.op := by
    intro j c h ht
    obtain ⟨o, h1, h2, h3⟩ := I.own j c h
    rw [ht] at h1
    have hm' := hm
    unfold RD.may at hm'
    rw [h1] at hm'
    obtain ⟨m1, m2⟩ := hm'
    obtain ⟨k1, k2, k3, k4, c', k5, k6, k7, k8, k9, k10⟩ := I.last _ _ h1
    have hto := k10.1 m1
    obtain ⟨f1, f2, f3, f4, f5, f6⟩ := I.frm _ _ k5
    have hop : o.op < 9223372036854775808 := by rw [← k7, ← f5]; exact hb _
    have hop0 : 0 ≤ o.op := by rw [← k7]; exact f6
    have e : r.op = o.op + 1 := by
      have := m2
      simp only [IntKind.wrap, IntKind.bits, IntKind.signed] at this
      simp at this
      omega
    rcases Nat.lt_or_ge j o.call.toNat with hj | hj
    · obtain ⟨t1, t2, t3⟩ := I.two j _ c c' hj h k5 (by rw [ht, k6])
      exact ⟨t1, by omega, by omega⟩
    · have : j = o.call.toNat := by omega
      subst this
      rw [h] at k5; cases k5
      rcases I.to_ _ _ h with t | ⟨t1, t2, t3, _⟩
      · exact absurd t hto
      · exact ⟨hto, t3, by omega⟩
  refine ⟨?_, fun j c h => ?_, fun j c h => ?_, fun j c h => ?_, fun j k c d hjk h1 h2 => ?_, fun t o h => ?_, fun j c h => ?_, fun j k c d hjk h1 h2 ht => ?_⟩
  · show (s.cs ++ [_]).length ≤ n + 1
    simp; exact hlen
  · rcases get_push h with h | ⟨rfl, rfl⟩
    · exact I.mono.frm j c h
    · exact ⟨by show (0 : Int) ≤ (n : Int); omega, by show (n : Int) < ((n + 1 : Nat) : Int); omega, by show (l.getD (n : Int).toNat r0).what = 1; rw [Int.toNat_natCast, hr, hw], by show (l.getD (n : Int).toNat r0).thread = r.thread; rw [Int.toNat_natCast, hr], by show (l.getD (n : Int).toNat r0).op = r.op; rw [Int.toNat_natCast, hr], hp⟩
  · rcases get_push h with h | ⟨rfl, rfl⟩
    · exact I.mono.at_ j c h
    · exact .inl rfl
  · rcases get_push h with h | ⟨rfl, rfl⟩
    · exact I.mono.to_ j c h
    · exact .inl rfl
  · rcases get_push h2 with h2 | ⟨rfl, rfl⟩
    · rcases get_push h1 with h1 | ⟨rfl, rfl⟩
      · exact I.up j k c d hjk h1 h2
      · have := get_lt h2; omega
    · rcases get_push h1 with h1 | ⟨rfl, rfl⟩
      · exact (I.frm j c h1).2.1
      · omega
  · have h' : (if t = r.thread then some (Opn.of r s.cs.length) else mget s.at_ t) = some o := by rw [← mget_put]; exact h
    split at h'
    · rename_i e
      cases h'
      refine ⟨e.symm, by show (0 : Int) ≤ (s.cs.length : Int); omega, by show (s.cs.length : Int).toNat < (s.cs ++ [_]).length; simp, .inl hw, ⟨r.thread, r.op, n, -1, -1⟩, ?_, e.symm, rfl, ?_, ?_, ?_⟩
      · show (s.cs ++ [_])[(s.cs.length : Int).toNat]? = _
        rw [Int.toNat_natCast, List.getElem?_append_right (Nat.le_refl _), Nat.sub_self]; rfl
      · exact ⟨fun _ => ⟨rfl, rfl⟩, fun _ => hw⟩
      · exact ⟨fun h => by have h' : r.what = 2 := h; omega, fun h => absurd rfl h.1⟩
      · exact ⟨fun h => by have h' : r.what = 3 := h; omega, fun h => absurd rfl h⟩
    · obtain ⟨k1, k2, k3, k4, c', k5, k6⟩ := I.last _ _ h'
      refine ⟨k1, k2, by show _ < (s.cs ++ [_]).length; simp; omega, k4, c', ?_, k6⟩
      show (s.cs ++ [_])[_]? = _
      rw [List.getElem?_append_left k3]; exact k5
  · show ∃ o, mget (mput s.at_ r.thread (Opn.of r s.cs.length)) c.thread = some o ∧ _
    rw [mget_put]
    rcases get_push h with h | ⟨rfl, rfl⟩
    · by_cases e : c.thread = r.thread
      · rw [if_pos e]
        exact ⟨_, rfl, by show j ≤ (s.cs.length : Int).toNat; have := get_lt h; omega, by show c.op ≤ r.op; have := (old h e).2.2; omega⟩
      · rw [if_neg e]
        exact I.own j c h
    · rw [if_pos rfl]
      exact ⟨_, rfl, by show s.cs.length ≤ (s.cs.length : Int).toNat; omega, by show r.op ≤ r.op; omega⟩
  · rcases get_push h2 with h2 | ⟨rfl, rfl⟩
    · rcases get_push h1 with h1 | ⟨rfl, rfl⟩
      · exact I.two j k c d hjk h1 h2 ht
      · have := get_lt h2; omega
    · rcases get_push h1 with h1 | ⟨rfl, rfl⟩
      · exact old h1 ht
      · omega

theorem RInv.upd {l : List Rec} {n : Nat} {s : RD} (I : RInv l n s) {r : Rec} {o : Opn} (ho : mget s.at_ r.thread = some o) (hop : r.op = o.op) {f : Cal → Cal} (hf : ∀ c, (f c).thread = c.thread ∧ (f c).op = c.op ∧ (f c).frm = c.frm)
    (hwr : r.what = 1 ∨ r.what = 2 ∨ r.what = 3)
    (hat : ∀ c, s.cs[o.call.toNat]? = some c → (f c).at_ = -1 ∨ (c.frm < (f c).at_ ∧ (f c).at_ < (n + 1 : Nat) ∧ (l.getD (f c).at_.toNat r0).what = 2 ∧ (l.getD (f c).at_.toNat r0).thread = c.thread ∧ (l.getD (f c).at_.toNat r0).op = c.op))
    (hto : ∀ c, s.cs[o.call.toNat]? = some c → (f c).to_ = -1 ∨ (c.frm < (f c).to_ ∧ (f c).at_ < (f c).to_ ∧ (f c).to_ < (n + 1 : Nat) ∧ (l.getD (f c).to_.toNat r0).what = 3 ∧ (l.getD (f c).to_.toNat r0).thread = c.thread ∧ (l.getD (f c).to_.toNat r0).op = c.op))
    (hwh : ∀ c, s.cs[o.call.toNat]? = some c → (r.what = 1 ↔ (f c).at_ = -1 ∧ (f c).to_ = -1) ∧ (r.what = 2 ↔ (f c).at_ ≠ -1 ∧ (f c).to_ = -1) ∧ (r.what = 3 ↔ (f c).to_ ≠ -1)) : RInv l (n + 1) (s.upd r o f) := by
  obtain ⟨k1, k2, k3, k4, c1, k5, k6, k7, k8, k9, k10⟩ := I.last _ _ ho
  have hd : s.cs.getD o.call.toNat c0 = c1 := by rw [List.getD_eq_getElem?_getD, k5]; rfl
  obtain ⟨f1, f2, f3⟩ := hf c1
  have J := I.mono
  have ecs : (s.upd r o f).cs = s.cs.set o.call.toNat (f c1) := by show s.cs.set _ (f (s.cs.getD o.call.toNat c0)) = _; rw [hd]
  have eat : ∀ t, mget (s.upd r o f).at_ t = if t = r.thread then some (Opn.of r o.call) else mget s.at_ t := fun t => mget_put ..
  -- each call of the new row comes of one of the old row
  have old : ∀ {j : Nat} {c : Cal}, (s.upd r o f).cs[j]? = some c → (j = o.call.toNat ∧ c = f c1) ∨ (j ≠ o.call.toNat ∧ s.cs[j]? = some c) := fun h => get_set (by rw [← ecs]; exact h)
  have base : ∀ {j : Nat} {c : Cal}, (s.upd r o f).cs[j]? = some c → ∃ c' : Cal, s.cs[j]? = some c' ∧ c.thread = c'.thread ∧ c.op = c'.op ∧ c.frm = c'.frm := by
    intro j c h
    rcases old h with ⟨rfl, rfl⟩ | ⟨_, h⟩
    · exact ⟨c1, k5, f1, f2, f3⟩
    · exact ⟨c, h, rfl, rfl, rfl⟩
  refine ⟨?_, fun j c h => ?_, fun j c h => ?_, fun j c h => ?_, fun j k c d hjk h1 h2 => ?_, fun t o' h => ?_, fun j c h => ?_, fun j k c d hjk h1 h2 ht => ?_⟩
  · rw [ecs, List.length_set]; have := I.len; omega
  · obtain ⟨c', h', e1, e2, e3⟩ := base h
    have := J.frm j c' h'
    rw [e1, e2, e3]; exact this
  · rcases old h with ⟨rfl, rfl⟩ | ⟨_, h⟩
    · rw [f1, f2, f3]; exact hat c1 k5
    · exact J.at_ j c h
  · rcases old h with ⟨rfl, rfl⟩ | ⟨_, h⟩
    · rw [f1, f2, f3]; exact hto c1 k5
    · exact J.to_ j c h
  · obtain ⟨c', h1', _, _, e3⟩ := base h1
    obtain ⟨d', h2', _, _, e3'⟩ := base h2
    rw [e3, e3']; exact I.up j k c' d' hjk h1' h2'
  · rw [eat] at h
    split at h
    · rename_i e
      cases h
      refine ⟨e.symm, k2, by rw [ecs, List.length_set]; exact k3, hwr, f c1, ?_, by rw [f1, k6, e], by rw [f2, k7]; exact hop.symm, hwh c1 k5⟩
      show (s.upd r o f).cs[o.call.toNat]? = _
      rw [ecs, List.getElem?_set_self k3]
    · rename_i e
      obtain ⟨q1, q2, q3, q4, c', q5, q6, q7⟩ := I.last _ _ h
      refine ⟨q1, q2, by rw [ecs, List.length_set]; exact q3, q4, c', ?_, q6, q7⟩
      rw [ecs, List.getElem?_set_ne (fun hh => ?_)]
      · exact q5
      · rw [← hh, k5] at q5
        cases q5
        exact e (q6.symm.trans k6)
  · obtain ⟨c', h', e1, e2, e3⟩ := base h
    obtain ⟨o', p1, p2, p3⟩ := I.own j c' h'
    rw [eat, e1, e2]
    by_cases e : c'.thread = r.thread
    · rw [if_pos e]
      rw [e, ho] at p1
      cases p1
      exact ⟨_, rfl, p2, by show c'.op ≤ r.op; omega⟩
    · rw [if_neg e]; exact ⟨o', p1, p2, p3⟩
  · obtain ⟨c', h1', e1, e2, e3⟩ := base h1
    obtain ⟨d', h2', g1, g2, g3⟩ := base h2
    rw [e1, g1] at ht
    have T := I.two j k c' d' hjk h1' h2' ht
    rcases old h1 with ⟨rfl, rfl⟩ | ⟨_, h⟩
    · exfalso
      obtain ⟨o', p1, p2, _⟩ := I.own k d' h2'
      rw [h1'] at k5; cases k5
      rw [← ht, k6, ho] at p1
      cases p1
      omega
    · rw [h] at h1'; cases h1'
      rw [g2, g3]; exact T

theorem RInv.step {l : List Rec} {n : Nat} {s s' : RD} (I : RInv l n s) (hb : ∀ i, (l.getD i r0).op < 9223372036854775808) (e : s.step (l.getD n r0) n = some s') : RInv l (n + 1) s' := by
  generalize hr : l.getD n r0 = r at e
  unfold RD.step at e
  split at e
  · cases e
  · split at e
    · split at e
      · cases e; exact I.mono
      · cases e
    · rename_i hop
      split at e
      · rename_i hw
        unfold RD.invoke at e
        split at e
        · rename_i hm
          cases e
          exact I.push hr hw (by omega) hm.1 hb
        · cases e
      · rename_i hw
        unfold RD.follow at e
        split at e
        · cases e
        · rename_i o ho
          obtain ⟨k1, k2, k3, k4, c1, k5, k6, k7, k8, k9, k10⟩ := I.last _ _ ho
          obtain ⟨q1, q2, q3, q4, q5, q6⟩ := I.frm _ _ k5
          split at e
          · cases e
          · rename_i hn
            have hn3 : o.what ≠ 3 := fun h => hn (.inl h)
            have hno : r.op = o.op := Classical.byContradiction fun h => hn (.inr (.inl h))
            have to1 : c1.to_ = -1 := Classical.byContradiction fun h => hn3 (k10.2 h)
            split at e
            · rename_i hw2
              split at e
              · rename_i hm
                cases e
                obtain ⟨a1, a2⟩ := k8.1 hm.1
                refine I.upd ho hno (fun c => ⟨rfl, rfl, rfl⟩) (.inr (.inl hw2)) (fun c h => ?_) (fun c h => ?_) (fun c h => ?_)
                · rw [k5] at h; cases h
                  exact .inr ⟨q2, by show (n : Int) < ((n + 1 : Nat) : Int); omega, by show (l.getD (n : Int).toNat r0).what = 2; rw [Int.toNat_natCast, hr]; exact hw2, by show (l.getD (n : Int).toNat r0).thread = _; rw [Int.toNat_natCast, hr]; exact k6.symm, by show (l.getD (n : Int).toNat r0).op = _; rw [Int.toNat_natCast, hr, k7]; exact hno⟩
                · rw [k5] at h; cases h; exact .inl to1
                · rw [k5] at h; cases h
                  refine ⟨⟨fun h => absurd h hw, fun h => ?_⟩, ⟨fun _ => ⟨?_, to1⟩, fun _ => hw2⟩, ⟨fun h => by omega, fun h => absurd to1 h⟩⟩
                  · have h' : (n : Int) = -1 := h.1; omega
                  · show (n : Int) ≠ -1; omega
              · cases e
            · split at e
              · rename_i hw3
                split at e
                · cases e
                  refine I.upd ho hno (fun c => ⟨rfl, rfl, rfl⟩) (.inr (.inr hw3)) (fun c h => ?_) (fun c h => ?_) (fun c h => ?_)
                  · rw [k5] at h; cases h
                    rcases I.at_ _ _ k5 with h | ⟨p1, p2, p3⟩
                    · exact .inl h
                    · exact .inr ⟨p1, by show c1.at_ < ((n + 1 : Nat) : Int); omega, p3⟩
                  · rw [k5] at h; cases h
                    refine .inr ⟨q2, ?_, by show (n : Int) < ((n + 1 : Nat) : Int); omega, by show (l.getD (n : Int).toNat r0).what = 3; rw [Int.toNat_natCast, hr]; exact hw3, by show (l.getD (n : Int).toNat r0).thread = _; rw [Int.toNat_natCast, hr]; exact k6.symm, by show (l.getD (n : Int).toNat r0).op = _; rw [Int.toNat_natCast, hr, k7]; exact hno⟩
                    show c1.at_ < (n : Int)
                    rcases I.at_ _ _ k5 with h | ⟨p1, p2, p3⟩
                    · omega
                    · exact p2
                  · rw [k5] at h; cases h
                    have hn' : (n : Int) ≠ -1 := by omega
                    exact ⟨⟨fun h => absurd h hw, fun h => absurd h.2 hn'⟩, ⟨fun h => by omega, fun h => absurd h.2 hn'⟩, ⟨fun _ => hn', fun _ => hw3⟩⟩
                · cases e
              · cases e

theorem readTo_inv {l : List Rec} (hb : ∀ i, (l.getD i r0).op < 9223372036854775808) : ∀ {n : Nat} {s : RD}, readTo l n = some s → RInv l n s
  | 0, s, h => by
    cases h
    refine ⟨Nat.le_refl _, fun j c h => (by simp at h), fun j c h => (by simp at h), fun j c h => (by simp at h), fun j k c d _ h => (by simp at h), fun t o h => (by cases h), fun j c h => (by simp at h), fun j k c d _ h => (by simp at h)⟩
  | n + 1, s', h => by
    obtain ⟨s, h1, h2⟩ := Option.bind_eq_some_iff.1 h
    exact (readTo_inv hb h1).step hb h2

end Sx
end Go.Proofs.Ytemcdjdglcceiaa

/-
  What 'calls' does: it reads all records.
-/
namespace Go.Proofs.Ytemcdjdglcceiaa
namespace Sx
open Go
set_option linter.unusedSimpArgs false
set_option linter.unusedVariables false

theorem cfgA_ok : cfgA.ok := by
  refine ⟨tab_met, kinds_met, mixed_met, fun g fn h => ?_, fun g H h => by cases h⟩
  unfold cfgA fnsA at h
  simp only at h
  split at h <;> cases h <;> exact ⟨by kernel_rfl, by kernel_rfl⟩
theorem cfgB_ok : cfgB.ok := ⟨cfgA_ok.τ, cfgA_ok.κ, cfgA_ok.mixed, cfgA_ok.fns, cfgA_ok.hooks⟩

/-- The place of a thread's call is one. -/
structure RW (n : Nat) (s : RD) : Prop where
  len : s.cs.length ≤ n
  at_ : ∀ t o, mget s.at_ t = some o → 0 ≤ o.call ∧ o.call.toNat < s.cs.length

theorem RW.step {n : Nat} {s s' : RD} (W : RW n s) {r : Rec} {i : Nat} (e : s.step r i = some s') : RW (n + 1) s' := by
  have hpush : RW (n + 1) (s.push r i) := by
    refine ⟨by show (s.cs ++ [_]).length ≤ _; have := W.len; simp; omega, fun t o h => ?_⟩
    have h' : (if t = r.thread then some (Opn.of r s.cs.length) else mget s.at_ t) = some o := by rw [← mget_put]; exact h
    show _ ∧ _ < (s.cs ++ [_]).length
    split at h'
    · cases h'
      exact ⟨by show (0 : Int) ≤ (s.cs.length : Int); omega, by show (s.cs.length : Int).toNat < _; simp⟩
    · have := W.at_ t o h'; simp; omega
  have hupd : ∀ (o : Opn) (f : Cal → Cal), mget s.at_ r.thread = some o → RW (n + 1) (s.upd r o f) := by
    intro o f ho
    refine ⟨by show (s.cs.set _ _).length ≤ _; have := W.len; simp; omega, fun t o' h => ?_⟩
    have h' : (if t = r.thread then some (Opn.of r o.call) else mget s.at_ t) = some o' := by rw [← mget_put]; exact h
    show _ ∧ _ < (s.cs.set _ _).length
    rw [List.length_set]
    split at h'
    · cases h'; have := W.at_ _ _ ho; exact this
    · exact W.at_ t o' h'
  unfold RD.step at e
  split at e
  · cases e
  · split at e
    · split at e
      · cases e; exact ⟨by have := W.len; omega, W.at_⟩
      · cases e
    · split at e
      · unfold RD.invoke at e
        split at e
        · cases e; exact hpush
        · cases e
      · unfold RD.follow at e
        split at e
        · cases e
        · rename_i o ho
          split at e
          · cases e
          · split at e
            · split at e
              · cases e; exact hupd o _ ho
              · cases e
            · split at e
              · split at e
                · cases e; exact hupd o _ ho
                · cases e
              · cases e
theorem readTo_weak {l : List Rec} : ∀ {n : Nat} {s : RD}, readTo l n = some s → RW n s
  | 0, s, h => by cases h; exact ⟨Nat.le_refl _, fun t o h => (by cases h)⟩
  | n + 1, s', h => by
    obtain ⟨s, h1, h2⟩ := Option.bind_eq_some_iff.1 h
    exact (readTo_weak h1).step h2

theorem body42 (p : PL) (x : Nat × RD × Nat) (hi : x.1 ≤ p.l.length) (W : RW x.1 x.2.1) (Q : EX → St V → Prop) (F : AV → Heap V → Nat → Prop)
    (hrt : ∀ ST : St V, x.1 < p.l.length → x.2.1.step (p.l.getD x.1 r0) x.1 = none → Wk 3 [] ST (R42 p) → Q .rt ST)
    (hnx : ∀ (ST : St V) (s' : RD) (sp : Nat) (b : Nat), x.1 < p.l.length → x.2.1.step (p.l.getD x.1 r0) x.1 = some s' → Wk 3 [(3, b)] ST (I42 p (x.1 + 1, s', sp)) → Q .nx ST)
    (hex : ∀ ST : St V, x.1 = p.l.length → Wk 3 [(3, 3)] ST (I42 p x) → Q (.ex 0) ST) :
    (runCode cfgA 60 42 (loopOf Try.f42 0) (I42 p x) (stopT (trimSt [2, 3, 4, 10, 11, 12] [0, 1, 2, 3, 12]))).holds ⟨Q, F⟩ := by
  rw [b42]
  have hb := p.hb
  have hlen := W.len
  obtain ⟨i, s, sp⟩ := x
  simp only at hi W hrt hnx hex hlen ⊢
  simp only [Nat.zero_add]
  change ∀ ST : St V, i < p.l.length → s.step (p.l.getD i (V.enc Kd.rcd).dflt) i = none → Wk 3 [] ST (R42 p) → Q .rt ST at hrt
  change ∀ (ST : St V) (s' : RD) (sp : Nat) (b : Nat), i < p.l.length → s.step (p.l.getD i (V.enc Kd.rcd).dflt) i = some s' → Wk 3 [(3, b)] ST (I42 p (i + 1, s', sp)) → Q .nx ST at hnx
  generalize p.l.getD i (V.enc Kd.rcd).dflt = r at hrt hnx ⊢
  have hw : i < p.l.length → IntKind.wrap .i64 ((i : Int) + 1) = ((i + 1 : Nat) : Int) := fun h => wrap_nat (by omega)
  cases hg : mget s.at_ r.thread with
  | none =>
    simp only [Out.holds, Option.isSome_none, Bool.not_false, Bool.not_true, decide_eq_true_eq, decide_eq_false_iff_not, beq_iff_eq, beq_eq_false_iff_ne, bne_iff_ne, bne_eq_false_iff_eq, Bool.not_eq_true', Bool.not_eq_false', Bool.false_eq_true, false_implies, forall_const, true_implies, and_true, true_and, reduceCtorEq]
    repeat' first | apply And.intro | intro _
    all_goals first
      | trivial
      | omega
      | exact hrt _ (by omega) (by simp [RD.step, RD.invoke, RD.may, RD.follow, *] <;> intros <;> first | omega | simp_all) ⟨⟨AV.sub_same _, AV.sub_same _, trivial⟩, ⟨.same _, trivial⟩, rfl, tl_ok rfl, ⟨.inl (in_ok rfl), .inl (in_ok rfl), .inr rfl, trivial⟩, ⟨Nat.le_of_ble_eq_true rfl, rfl⟩⟩
      | exact hrt _ (by omega) (by simp [RD.step, RD.invoke, RD.may, RD.follow, *] <;> intros <;> first | omega | simp_all) ⟨⟨AV.sub_same _, AV.sub_same _, trivial⟩, ⟨.same _, trivial⟩, rfl, tl_ok rfl, ⟨.inl (in_ok rfl), .inl (in_ok rfl), .inl (in_ok rfl), .inr rfl, trivial⟩, ⟨Nat.le_of_ble_eq_true rfl, rfl⟩⟩
      | exact hrt _ (by omega) (by simp [RD.step, RD.invoke, RD.may, RD.follow, *] <;> intros <;> first | omega | simp_all) ⟨⟨AV.sub_same _, AV.sub_same _, trivial⟩, ⟨.same _, trivial⟩, rfl, tl_ok rfl, ⟨.inl (in_ok rfl), .inl (in_ok rfl), .inl (in_ok rfl), .inr rfl, trivial⟩, ⟨Nat.le_of_ble_eq_true rfl, rfl⟩⟩
      | exact hex _ (by show i = _; omega) ⟨⟨AV.sub_same _, AV.sub_same _, AV.sub_same _, AV.sub_same _, trivial⟩, ⟨.same _, .same _, .same _, .same _, trivial⟩, rfl, tl_ok rfl, ⟨.inl (in_ok rfl), .inl (in_ok rfl), .inl (in_ok rfl), .inr rfl, trivial⟩, ⟨Nat.le_of_ble_eq_true rfl, rfl⟩⟩
      | exact hnx _ (s) sp 3 (by omega) (by simp [RD.step, RD.invoke, RD.may, RD.follow, *] <;> intros <;> first | omega | simp_all) ⟨⟨AV.sub_same _, AV.sub_same _, AV.sub_same _, AV.sub_int (hw (by omega)), trivial⟩, ⟨BSub.cells 67 _ _ (AV.subL_cons (AV.sub_same _) (AV.subL_cons (AV.sub_sl (by simp [RD.push, RD.upd]) (by simp [RD.push, RD.upd])) AV.subL_nil)), .same _, .same _, .same _, trivial⟩, rfl, tl_ok rfl, ⟨.inl (in_ok rfl), .inl (in_ok rfl), .inl (in_ok rfl), .inr rfl, trivial⟩, ⟨Nat.le_of_ble_eq_true rfl, rfl⟩⟩
      | exact hnx _ (s.push r i) _ 12 (by omega) (by simp [RD.step, RD.invoke, RD.may, RD.follow, *] <;> intros <;> first | omega | simp_all) ⟨⟨AV.sub_same _, AV.sub_same _, AV.sub_same _, AV.sub_int (hw (by omega)), trivial⟩, ⟨BSub.cells 67 _ _ (AV.subL_cons (AV.sub_same _) (AV.subL_cons (AV.sub_sl (by simp [RD.push, RD.upd]) (by simp [RD.push, RD.upd])) AV.subL_nil)), .same _, .same _, .same _, trivial⟩, rfl, tl_ok rfl, ⟨.inl (in_ok rfl), .inl (in_ok rfl), .inl (in_ok rfl), .inr rfl, trivial⟩, ⟨Nat.le_of_ble_eq_true rfl, rfl⟩⟩
      | skip
  | some o =>
    obtain ⟨hc0, hc1⟩ := W.at_ _ _ hg
    simp only [Out.holds, Option.isSome_some, Option.getD_some, Bool.not_false, Bool.not_true, decide_eq_true_eq, decide_eq_false_iff_not, beq_iff_eq, beq_eq_false_iff_ne, bne_iff_ne, bne_eq_false_iff_eq, Bool.not_eq_true', Bool.not_eq_false', Bool.false_eq_true, false_implies, forall_const, true_implies, and_true, true_and, reduceCtorEq]
    repeat' first | apply And.intro | intro _
    all_goals first
      | trivial
      | omega
      | exact hrt _ (by omega) (by simp [RD.step, RD.invoke, RD.may, RD.follow, *] <;> intros <;> first | omega | simp_all) ⟨⟨AV.sub_same _, AV.sub_same _, trivial⟩, ⟨.same _, trivial⟩, rfl, tl_ok rfl, ⟨.inl (in_ok rfl), .inl (in_ok rfl), .inr rfl, trivial⟩, ⟨Nat.le_of_ble_eq_true rfl, rfl⟩⟩
      | exact hrt _ (by omega) (by simp [RD.step, RD.invoke, RD.may, RD.follow, *] <;> intros <;> first | omega | simp_all) ⟨⟨AV.sub_same _, AV.sub_same _, trivial⟩, ⟨.same _, trivial⟩, rfl, tl_ok rfl, ⟨.inl (in_ok rfl), .inl (in_ok rfl), .inl (in_ok rfl), .inr rfl, trivial⟩, ⟨Nat.le_of_ble_eq_true rfl, rfl⟩⟩
      | exact hrt _ (by omega) (by simp [RD.step, RD.invoke, RD.may, RD.follow, *] <;> intros <;> first | omega | simp_all) ⟨⟨AV.sub_same _, AV.sub_same _, trivial⟩, ⟨.same _, trivial⟩, rfl, tl_ok rfl, ⟨.inl (in_ok rfl), .inl (in_ok rfl), .inl (in_ok rfl), .inr rfl, trivial⟩, ⟨Nat.le_of_ble_eq_true rfl, rfl⟩⟩
      | exact hex _ (by show i = _; omega) ⟨⟨AV.sub_same _, AV.sub_same _, AV.sub_same _, AV.sub_same _, trivial⟩, ⟨.same _, .same _, .same _, .same _, trivial⟩, rfl, tl_ok rfl, ⟨.inl (in_ok rfl), .inl (in_ok rfl), .inl (in_ok rfl), .inr rfl, trivial⟩, ⟨Nat.le_of_ble_eq_true rfl, rfl⟩⟩
      | exact hnx _ (s) sp 3 (by omega) (by simp [RD.step, RD.invoke, RD.may, RD.follow, *] <;> intros <;> first | omega | simp_all) ⟨⟨AV.sub_same _, AV.sub_same _, AV.sub_same _, AV.sub_int (hw (by omega)), trivial⟩, ⟨BSub.cells 67 _ _ (AV.subL_cons (AV.sub_same _) (AV.subL_cons (AV.sub_sl (by simp [RD.push, RD.upd]) (by simp [RD.push, RD.upd])) AV.subL_nil)), .same _, .same _, .same _, trivial⟩, rfl, tl_ok rfl, ⟨.inl (in_ok rfl), .inl (in_ok rfl), .inl (in_ok rfl), .inr rfl, trivial⟩, ⟨Nat.le_of_ble_eq_true rfl, rfl⟩⟩
      | exact hnx _ (s.push r i) _ 12 (by omega) (by simp [RD.step, RD.invoke, RD.may, RD.follow, *] <;> intros <;> first | omega | simp_all) ⟨⟨AV.sub_same _, AV.sub_same _, AV.sub_same _, AV.sub_int (hw (by omega)), trivial⟩, ⟨BSub.cells 67 _ _ (AV.subL_cons (AV.sub_same _) (AV.subL_cons (AV.sub_sl (by simp [RD.push, RD.upd]) (by simp [RD.push, RD.upd])) AV.subL_nil)), .same _, .same _, .same _, trivial⟩, rfl, tl_ok rfl, ⟨.inl (in_ok rfl), .inl (in_ok rfl), .inl (in_ok rfl), .inr rfl, trivial⟩, ⟨Nat.le_of_ble_eq_true rfl, rfl⟩⟩
      | exact hnx _ (s.upd r o fun c => { c with at_ := i }) sp 3 (by omega) (by simp [RD.step, RD.invoke, RD.may, RD.follow, *] <;> intros <;> first | omega | simp_all) ⟨⟨AV.sub_same _, AV.sub_same _, AV.sub_same _, AV.sub_int (hw (by omega)), trivial⟩, ⟨BSub.cells 67 _ _ (AV.subL_cons (AV.sub_same _) (AV.subL_cons (AV.sub_sl (by simp [RD.push, RD.upd]) (by simp [RD.push, RD.upd])) AV.subL_nil)), .same _, .same _, .same _, trivial⟩, rfl, tl_ok rfl, ⟨.inl (in_ok rfl), .inl (in_ok rfl), .inl (in_ok rfl), .inr rfl, trivial⟩, ⟨Nat.le_of_ble_eq_true rfl, rfl⟩⟩
      | exact hnx _ (s.upd r o fun c => { c with to_ := i }) sp 3 (by omega) (by simp [RD.step, RD.invoke, RD.may, RD.follow, *] <;> intros <;> first | omega | simp_all) ⟨⟨AV.sub_same _, AV.sub_same _, AV.sub_same _, AV.sub_int (hw (by omega)), trivial⟩, ⟨BSub.cells 67 _ _ (AV.subL_cons (AV.sub_same _) (AV.subL_cons (AV.sub_sl (by simp [RD.push, RD.upd]) (by simp [RD.push, RD.upd])) AV.subL_nil)), .same _, .same _, .same _, trivial⟩, rfl, tl_ok rfl, ⟨.inl (in_ok rfl), .inl (in_ok rfl), .inl (in_ok rfl), .inr rfl, trivial⟩, ⟨Nat.le_of_ble_eq_true rfl, rfl⟩⟩
      | skip

theorem l42_ok : LoopOk Try.prog 0 (loopOf Try.f42 0) L42 := by
  refine trimLoop_ok (trim_ok _ _) (loopT_ok (C := cfgA) cfgA_ok (f := 42) (n := 60) (trim_ok [2, 3, 4, 10, 11, 12] [0, 1, 2, 3, 12]) 3 I42 (fun p x => x.1 ≤ p.l.length ∧ readTo p.l x.1 = some x.2.1) (fun p => (0, ⟨[], []⟩, 0)) (fun p x => p.l.length - x.1)
    (fun p (x : RD × Nat) => readTo p.l p.l.length = some x.1) (fun p x => I42 p (p.l.length, x)) (fun p (_ : Unit) => readTo p.l p.l.length = none) (fun p _ => R42 p) (fun p => ⟨Nat.zero_le _, rfl⟩) ?_)
  intro p x ⟨hi, hx⟩
  refine body42 p x hi (readTo_weak hx) _ _ (fun ST hlt hs hw => SImp.of_wk (ren := []) () hw ?_) (fun ST s' sp b hlt hs hw => SImp.of_wk (x.1 + 1, s', sp) hw ⟨⟨hlt, ?_⟩, ?_⟩) (fun ST he hw => ⟨rfl, SImp.of_wk (ren := [(3, 3)]) x.2 ?_ ?_⟩)
  · refine readTo_none (n := x.1 + 1) ?_ hlt
    show (readTo p.l x.1).bind _ = none
    rw [hx]; exact hs
  · show (readTo p.l x.1).bind _ = some s'
    rw [hx]; exact hs
  · show p.l.length - (x.1 + 1) < p.l.length - x.1; omega
  · obtain ⟨i, x⟩ := x
    simp only at he
    subst he; exact hw
  · rw [← he]; exact hx

def runCalls : RunFree V := fun ar K => match ar with
  | [.rows .rcd l c] => .need (l.length ≤ 1099511627776) (.ite (hRight l) (.all Nat fun sp => K (.tup [.sl false 0 0 5 (hCallsOf l).length ((hCallsOf l).length + sp), .tt]) [.arr 35 Kd.cal (hCallsOf l) sp]) (K (.tup [.nilS, .ff]) []))
  | _ => .bad 500

theorem right_some {l : List Rec} {s : RD} (h : readTo l l.length = some s) : hRight l = true ∧ hCallsOf l = s.cs := by
  unfold hRight hCallsOf hCalls; rw [h]; exact ⟨rfl, rfl⟩
theorem right_none {l : List Rec} (h : readTo l l.length = none) : hRight l = false ∧ hCallsOf l = [] := by
  unfold hRight hCallsOf hCalls; rw [h]; exact ⟨rfl, rfl⟩

theorem hCallsHook : HookOk Try.prog 42 (hookFree [.rows Kd.rcd] runCalls) := by
  refine free_hook (C := cfgB) cfgB_ok (n := 40) (fn := Try.f42) ⟨by kernel_rfl, by kernel_rfl⟩ (by kernel_rfl) ?_
  intro M ar K0 H
  unfold runCalls at H
  split at H
  · rename_i l c
    obtain ⟨hb, H1, H2⟩ := H
    refine ⟨show 1 ≤ _ by decide +kernel, ?_⟩
    show (runF cfgB 40 42 Try.f42 [.sl false 0 0 8 l.length c] [(0, .ro Kd.rcd l)] 1).holds _
    rw [t42]
    refine ⟨l42_ok, fun p => p = ⟨l, c, hb⟩, ⟨Nat.le_refl _, SImp.of_wk (ren := [(3, 99)]) ⟨l, c, hb⟩ ?_ rfl⟩, ?_⟩
    · exact ⟨⟨AV.sub_same _, AV.sub_same _, AV.sub_same _, AV.sub_lit', trivial⟩, ⟨BSub.cells 67 _ _ (AV.subL_cons (AV.sub_same _) (AV.subL_cons AV.sub_nilS AV.subL_nil)), .same _, .none _ _, .same _, trivial⟩, rfl, tl_ok rfl, ⟨.inl (in_ok rfl), .inl (in_ok rfl), .inr rfl, trivial⟩, ⟨Nat.le_of_ble_eq_true rfl, rfl⟩⟩
    · rintro _ rfl
      refine ⟨fun x hx => ?_, fun _ hx => ?_⟩
      · obtain ⟨e1, e2⟩ := right_some hx
        have h := H1 e1 x.2
        rw [e2] at h
        exact ⟨_, _, h, _, HImp.refl _ _, ⟨⟨fun _ => 3, ⟨.same _, trivial⟩, AV.sub_same _⟩, rfl, rfl⟩⟩
      · obtain ⟨e1, e2⟩ := right_none hx
        exact ⟨_, _, H2 e1, endPlain (AV.sub_same _) rfl⟩
  · exact H.elim

end Sx
end Go.Proofs.Ytemcdjdglcceiaa

/-
  Rows compared: the runs of the machine.
-/
namespace Go.Proofs.Ytemcdjdglcceiaa
namespace Sx
open Go
set_option maxRecDepth 100000
set_option linter.unusedVariables false

structure PR (α : Type) where
  xs : List α
  c : Nat
  ys : List α
  d : Nat
  hl : xs.length = ys.length
  hb : xs.length ≤ 1099511627776
def I13 (p : PR Rec) (i : Nat) : St V :=
  ⟨[(0, .sl false 0 0 8 p.xs.length p.c), (1, .sl false 1 0 8 p.ys.length p.d), (5, .int .i64 (i : Int))], [(0, .ro Kd.rcd p.xs), (1, .ro Kd.rcd p.ys)], 2, 26, [0, 1, 2, 3, 4, 5, 6, 7]⟩
def R13 (p : PR Rec) : St V := ⟨[(4, .ff)], [(0, .ro Kd.rcd p.xs), (1, .ro Kd.rcd p.ys)], 2, 26, [0, 1, 2, 3, 4, 5, 6, 7]⟩
def L13 : LoopS V := loopS 2 (fun p : PR Rec => I13 p 0) (fun p _ => p.xs = p.ys) (fun p (_ : Unit) => I13 p p.xs.length) (fun p _ => p.xs ≠ p.ys) (fun p (_ : Unit) => R13 p)
def I22 (p : PR Com) (i : Nat) : St V :=
  ⟨[(0, .sl false 0 0 4 p.xs.length p.c), (1, .sl false 1 0 4 p.ys.length p.d), (5, .int .i64 (i : Int))], [(0, .ro Kd.com p.xs), (1, .ro Kd.com p.ys)], 2, 26, [0, 1, 2, 3, 4, 5, 6, 7]⟩
def R22 (p : PR Com) : St V := ⟨[(4, .ff)], [(0, .ro Kd.com p.xs), (1, .ro Kd.com p.ys)], 2, 26, [0, 1, 2, 3, 4, 5, 6, 7]⟩
def L22 : LoopS V := loopS 2 (fun p : PR Com => I22 p 0) (fun p _ => p.xs = p.ys) (fun p (_ : Unit) => I22 p p.xs.length) (fun p _ => p.xs ≠ p.ys) (fun p (_ : Unit) => R22 p)
def I21 (p : PR Cal) (i : Nat) : St V :=
  ⟨[(0, .sl false 0 0 5 p.xs.length p.c), (1, .sl false 1 0 5 p.ys.length p.d), (5, .int .i64 (i : Int))], [(0, .ro Kd.cal p.xs), (1, .ro Kd.cal p.ys)], 2, 26, [0, 1, 2, 3, 4, 5, 6, 7]⟩
def R21 (p : PR Cal) : St V := ⟨[(4, .ff)], [(0, .ro Kd.cal p.xs), (1, .ro Kd.cal p.ys)], 2, 26, [0, 1, 2, 3, 4, 5, 6, 7]⟩
def L21 : LoopS V := loopS 2 (fun p : PR Cal => I21 p 0) (fun p _ => p.xs = p.ys) (fun p (_ : Unit) => I21 p p.xs.length) (fun p _ => p.xs ≠ p.ys) (fun p (_ : Unit) => R21 p)
noncomputable def cfgC : Cfg Try.prog V := ⟨tab, kinds, fun _ => none, fun _ => none, fun _ _ => none⟩
noncomputable def cfgD : Cfg Try.prog V := ⟨tab, kinds, fun _ => none, fun _ => none, fun f id => match f, id with | 13, 0 => some L13 | 22, 0 => some L22 | 21, 0 => some L21 | _, _ => none⟩
theorem b13 (p : PR Rec) (i : Nat) : runCode cfgC 40 13 (loopOf Try.f13 0) (I13 p i) Out.stop = Out.ite (decide ((↑i : Int) < (↑p.xs.length : Int))) (Out.need (0 ≤ (↑i : Int) ∧ (↑i : Int) < (↑p.xs.length : Int)) (Out.need (0 + i < p.xs.length) (Out.need (0 ≤ (↑i : Int) ∧ (↑i : Int) < (↑p.ys.length : Int)) (Out.need (0 + i < p.ys.length) (Out.ite (!((p.xs.getD (0 + i) (V.enc Kd.rcd).dflt).thread == (p.ys.getD (0 + i) (V.enc Kd.rcd).dflt).thread && ((p.xs.getD (0 + i) (V.enc Kd.rcd).dflt).op == (p.ys.getD (0 + i) (V.enc Kd.rcd).dflt).op && ((p.xs.getD (0 + i) (V.enc Kd.rcd).dflt).what == (p.ys.getD (0 + i) (V.enc Kd.rcd).dflt).what && ((p.xs.getD (0 + i) (V.enc Kd.rcd).dflt).act == (p.ys.getD (0 + i) (V.enc Kd.rcd).dflt).act && ((p.xs.getD (0 + i) (V.enc Kd.rcd).dflt).key == (p.ys.getD (0 + i) (V.enc Kd.rcd).dflt).key && ((p.xs.getD (0 + i) (V.enc Kd.rcd).dflt).value == (p.ys.getD (0 + i) (V.enc Kd.rcd).dflt).value && ((p.xs.getD (0 + i) (V.enc Kd.rcd).dflt).hit == (p.ys.getD (0 + i) (V.enc Kd.rcd).dflt).hit && true))) && ((p.xs.getD (0 + i) (V.enc Kd.rcd).dflt).err == (p.ys.getD (0 + i) (V.enc Kd.rcd).dflt).err && true)))))) (Out.stop EX.rt {env := [(4, .ff), (25, .bool !((p.xs.getD (0 + i) (V.enc Kd.rcd).dflt).thread == (p.ys.getD (0 + i) (V.enc Kd.rcd).dflt).thread && ((p.xs.getD (0 + i) (V.enc Kd.rcd).dflt).op == (p.ys.getD (0 + i) (V.enc Kd.rcd).dflt).op && ((p.xs.getD (0 + i) (V.enc Kd.rcd).dflt).what == (p.ys.getD (0 + i) (V.enc Kd.rcd).dflt).what && ((p.xs.getD (0 + i) (V.enc Kd.rcd).dflt).act == (p.ys.getD (0 + i) (V.enc Kd.rcd).dflt).act && ((p.xs.getD (0 + i) (V.enc Kd.rcd).dflt).key == (p.ys.getD (0 + i) (V.enc Kd.rcd).dflt).key && ((p.xs.getD (0 + i) (V.enc Kd.rcd).dflt).value == (p.ys.getD (0 + i) (V.enc Kd.rcd).dflt).value && ((p.xs.getD (0 + i) (V.enc Kd.rcd).dflt).hit == (p.ys.getD (0 + i) (V.enc Kd.rcd).dflt).hit && true))) && ((p.xs.getD (0 + i) (V.enc Kd.rcd).dflt).err == (p.ys.getD (0 + i) (V.enc Kd.rcd).dflt).err && true)))))), (24, .agg [.int .i64 (p.ys.getD (0 + i) (V.enc Kd.rcd).dflt).thread, .int .i64 (p.ys.getD (0 + i) (V.enc Kd.rcd).dflt).op, .int .i64 (p.ys.getD (0 + i) (V.enc Kd.rcd).dflt).what, .int .i64 (p.ys.getD (0 + i) (V.enc Kd.rcd).dflt).act, .int .i64 (p.ys.getD (0 + i) (V.enc Kd.rcd).dflt).key, .int .i64 (p.ys.getD (0 + i) (V.enc Kd.rcd).dflt).value, .bool (p.ys.getD (0 + i) (V.enc Kd.rcd).dflt).hit, .int .i64 (p.ys.getD (0 + i) (V.enc Kd.rcd).dflt).err]), (23, .ptrR 1 (0 + i) 8 0), (22, .int .i64 (↑i : Int)), (21, .sl false 1 0 8 p.ys.length p.4), (20, .agg [.int .i64 (p.xs.getD (0 + i) (V.enc Kd.rcd).dflt).thread, .int .i64 (p.xs.getD (0 + i) (V.enc Kd.rcd).dflt).op, .int .i64 (p.xs.getD (0 + i) (V.enc Kd.rcd).dflt).what, .int .i64 (p.xs.getD (0 + i) (V.enc Kd.rcd).dflt).act, .int .i64 (p.xs.getD (0 + i) (V.enc Kd.rcd).dflt).key, .int .i64 (p.xs.getD (0 + i) (V.enc Kd.rcd).dflt).value, .bool (p.xs.getD (0 + i) (V.enc Kd.rcd).dflt).hit, .int .i64 (p.xs.getD (0 + i) (V.enc Kd.rcd).dflt).err]), (19, .ptrR 0 (0 + i) 8 0), (18, .int .i64 (↑i : Int)), (17, .sl false 0 0 8 p.xs.length p.2), (14, .bool (decide ((↑i : Int) < (↑p.xs.length : Int)))), (13, .int .i64 (↑p.xs.length : Int)), (12, .sl false 0 0 8 p.xs.length p.2), (11, .int .i64 (↑i : Int)), (0, .sl false 0 0 8 p.xs.length p.2), (1, .sl false 1 0 8 p.ys.length p.4), (5, .int .i64 (↑i : Int))], heap := [(0, .ro Kd.rcd p.xs), (1, .ro Kd.rcd p.ys)], nx := 2, nt := 26, tl := [0, 1, 2, 3, 4, 5, 6, 7] : St V }) (Out.stop EX.nx {env := [(5, .int .i64 (IntKind.i64.wrap ((↑i : Int) + 1))), (16, .int .i64 (IntKind.i64.wrap ((↑i : Int) + 1))), (15, .int .i64 (↑i : Int)), (25, .bool !((p.xs.getD (0 + i) (V.enc Kd.rcd).dflt).thread == (p.ys.getD (0 + i) (V.enc Kd.rcd).dflt).thread && ((p.xs.getD (0 + i) (V.enc Kd.rcd).dflt).op == (p.ys.getD (0 + i) (V.enc Kd.rcd).dflt).op && ((p.xs.getD (0 + i) (V.enc Kd.rcd).dflt).what == (p.ys.getD (0 + i) (V.enc Kd.rcd).dflt).what && ((p.xs.getD (0 + i) (V.enc Kd.rcd).dflt).act == (p.ys.getD (0 + i) (V.enc Kd.rcd).dflt).act && ((p.xs.getD (0 + i) (V.enc Kd.rcd).dflt).key == (p.ys.getD (0 + i) (V.enc Kd.rcd).dflt).key && ((p.xs.getD (0 + i) (V.enc Kd.rcd).dflt).value == (p.ys.getD (0 + i) (V.enc Kd.rcd).dflt).value && ((p.xs.getD (0 + i) (V.enc Kd.rcd).dflt).hit == (p.ys.getD (0 + i) (V.enc Kd.rcd).dflt).hit && true))) && ((p.xs.getD (0 + i) (V.enc Kd.rcd).dflt).err == (p.ys.getD (0 + i) (V.enc Kd.rcd).dflt).err && true)))))), (24, .agg [.int .i64 (p.ys.getD (0 + i) (V.enc Kd.rcd).dflt).thread, .int .i64 (p.ys.getD (0 + i) (V.enc Kd.rcd).dflt).op, .int .i64 (p.ys.getD (0 + i) (V.enc Kd.rcd).dflt).what, .int .i64 (p.ys.getD (0 + i) (V.enc Kd.rcd).dflt).act, .int .i64 (p.ys.getD (0 + i) (V.enc Kd.rcd).dflt).key, .int .i64 (p.ys.getD (0 + i) (V.enc Kd.rcd).dflt).value, .bool (p.ys.getD (0 + i) (V.enc Kd.rcd).dflt).hit, .int .i64 (p.ys.getD (0 + i) (V.enc Kd.rcd).dflt).err]), (23, .ptrR 1 (0 + i) 8 0), (22, .int .i64 (↑i : Int)), (21, .sl false 1 0 8 p.ys.length p.4), (20, .agg [.int .i64 (p.xs.getD (0 + i) (V.enc Kd.rcd).dflt).thread, .int .i64 (p.xs.getD (0 + i) (V.enc Kd.rcd).dflt).op, .int .i64 (p.xs.getD (0 + i) (V.enc Kd.rcd).dflt).what, .int .i64 (p.xs.getD (0 + i) (V.enc Kd.rcd).dflt).act, .int .i64 (p.xs.getD (0 + i) (V.enc Kd.rcd).dflt).key, .int .i64 (p.xs.getD (0 + i) (V.enc Kd.rcd).dflt).value, .bool (p.xs.getD (0 + i) (V.enc Kd.rcd).dflt).hit, .int .i64 (p.xs.getD (0 + i) (V.enc Kd.rcd).dflt).err]), (19, .ptrR 0 (0 + i) 8 0), (18, .int .i64 (↑i : Int)), (17, .sl false 0 0 8 p.xs.length p.2), (14, .bool (decide ((↑i : Int) < (↑p.xs.length : Int)))), (13, .int .i64 (↑p.xs.length : Int)), (12, .sl false 0 0 8 p.xs.length p.2), (11, .int .i64 (↑i : Int)), (0, .sl false 0 0 8 p.xs.length p.2), (1, .sl false 1 0 8 p.ys.length p.4), (5, .int .i64 (↑i : Int))], heap := [(0, .ro Kd.rcd p.xs), (1, .ro Kd.rcd p.ys)], nx := 2, nt := 26, tl := [0, 1, 2, 3, 4, 5, 6, 7] : St V })))))) (Out.stop (EX.ex 0) {env := [(14, .bool (decide ((↑i : Int) < (↑p.xs.length : Int)))), (13, .int .i64 (↑p.xs.length : Int)), (12, .sl false 0 0 8 p.xs.length p.2), (11, .int .i64 (↑i : Int)), (0, .sl false 0 0 8 p.xs.length p.2), (1, .sl false 1 0 8 p.ys.length p.4), (5, .int .i64 (↑i : Int))], heap := [(0, .ro Kd.rcd p.xs), (1, .ro Kd.rcd p.ys)], nx := 2, nt := 26, tl := [0, 1, 2, 3, 4, 5, 6, 7] : St V }) := by kernel_rfl

theorem b22 (p : PR Com) (i : Nat) : runCode cfgC 40 22 (loopOf Try.f22 0) (I22 p i) Out.stop = Out.ite (decide ((↑i : Int) < (↑p.xs.length : Int))) (Out.need (0 ≤ (↑i : Int) ∧ (↑i : Int) < (↑p.xs.length : Int)) (Out.need (0 + i < p.xs.length) (Out.need (0 ≤ (↑i : Int) ∧ (↑i : Int) < (↑p.ys.length : Int)) (Out.need (0 + i < p.ys.length) (Out.ite (!((p.xs.getD (0 + i) (V.enc Kd.com).dflt).act == (p.ys.getD (0 + i) (V.enc Kd.com).dflt).act && ((p.xs.getD (0 + i) (V.enc Kd.com).dflt).key == (p.ys.getD (0 + i) (V.enc Kd.com).dflt).key && ((p.xs.getD (0 + i) (V.enc Kd.com).dflt).value == (p.ys.getD (0 + i) (V.enc Kd.com).dflt).value && ((p.xs.getD (0 + i) (V.enc Kd.com).dflt).hit == (p.ys.getD (0 + i) (V.enc Kd.com).dflt).hit && true))))) (Out.stop EX.rt {env := [(4, .ff), (25, .bool !((p.xs.getD (0 + i) (V.enc Kd.com).dflt).act == (p.ys.getD (0 + i) (V.enc Kd.com).dflt).act && ((p.xs.getD (0 + i) (V.enc Kd.com).dflt).key == (p.ys.getD (0 + i) (V.enc Kd.com).dflt).key && ((p.xs.getD (0 + i) (V.enc Kd.com).dflt).value == (p.ys.getD (0 + i) (V.enc Kd.com).dflt).value && ((p.xs.getD (0 + i) (V.enc Kd.com).dflt).hit == (p.ys.getD (0 + i) (V.enc Kd.com).dflt).hit && true))))), (24, .agg [.int .i64 (p.ys.getD (0 + i) (V.enc Kd.com).dflt).act, .int .i64 (p.ys.getD (0 + i) (V.enc Kd.com).dflt).key, .int .i64 (p.ys.getD (0 + i) (V.enc Kd.com).dflt).value, .bool (p.ys.getD (0 + i) (V.enc Kd.com).dflt).hit]), (23, .ptrR 1 (0 + i) 4 0), (22, .int .i64 (↑i : Int)), (21, .sl false 1 0 4 p.ys.length p.4), (20, .agg [.int .i64 (p.xs.getD (0 + i) (V.enc Kd.com).dflt).act, .int .i64 (p.xs.getD (0 + i) (V.enc Kd.com).dflt).key, .int .i64 (p.xs.getD (0 + i) (V.enc Kd.com).dflt).value, .bool (p.xs.getD (0 + i) (V.enc Kd.com).dflt).hit]), (19, .ptrR 0 (0 + i) 4 0), (18, .int .i64 (↑i : Int)), (17, .sl false 0 0 4 p.xs.length p.2), (14, .bool (decide ((↑i : Int) < (↑p.xs.length : Int)))), (13, .int .i64 (↑p.xs.length : Int)), (12, .sl false 0 0 4 p.xs.length p.2), (11, .int .i64 (↑i : Int)), (0, .sl false 0 0 4 p.xs.length p.2), (1, .sl false 1 0 4 p.ys.length p.4), (5, .int .i64 (↑i : Int))], heap := [(0, .ro Kd.com p.xs), (1, .ro Kd.com p.ys)], nx := 2, nt := 26, tl := [0, 1, 2, 3, 4, 5, 6, 7] : St V }) (Out.stop EX.nx {env := [(5, .int .i64 (IntKind.i64.wrap ((↑i : Int) + 1))), (16, .int .i64 (IntKind.i64.wrap ((↑i : Int) + 1))), (15, .int .i64 (↑i : Int)), (25, .bool !((p.xs.getD (0 + i) (V.enc Kd.com).dflt).act == (p.ys.getD (0 + i) (V.enc Kd.com).dflt).act && ((p.xs.getD (0 + i) (V.enc Kd.com).dflt).key == (p.ys.getD (0 + i) (V.enc Kd.com).dflt).key && ((p.xs.getD (0 + i) (V.enc Kd.com).dflt).value == (p.ys.getD (0 + i) (V.enc Kd.com).dflt).value && ((p.xs.getD (0 + i) (V.enc Kd.com).dflt).hit == (p.ys.getD (0 + i) (V.enc Kd.com).dflt).hit && true))))), (24, .agg [.int .i64 (p.ys.getD (0 + i) (V.enc Kd.com).dflt).act, .int .i64 (p.ys.getD (0 + i) (V.enc Kd.com).dflt).key, .int .i64 (p.ys.getD (0 + i) (V.enc Kd.com).dflt).value, .bool (p.ys.getD (0 + i) (V.enc Kd.com).dflt).hit]), (23, .ptrR 1 (0 + i) 4 0), (22, .int .i64 (↑i : Int)), (21, .sl false 1 0 4 p.ys.length p.4), (20, .agg [.int .i64 (p.xs.getD (0 + i) (V.enc Kd.com).dflt).act, .int .i64 (p.xs.getD (0 + i) (V.enc Kd.com).dflt).key, .int .i64 (p.xs.getD (0 + i) (V.enc Kd.com).dflt).value, .bool (p.xs.getD (0 + i) (V.enc Kd.com).dflt).hit]), (19, .ptrR 0 (0 + i) 4 0), (18, .int .i64 (↑i : Int)), (17, .sl false 0 0 4 p.xs.length p.2), (14, .bool (decide ((↑i : Int) < (↑p.xs.length : Int)))), (13, .int .i64 (↑p.xs.length : Int)), (12, .sl false 0 0 4 p.xs.length p.2), (11, .int .i64 (↑i : Int)), (0, .sl false 0 0 4 p.xs.length p.2), (1, .sl false 1 0 4 p.ys.length p.4), (5, .int .i64 (↑i : Int))], heap := [(0, .ro Kd.com p.xs), (1, .ro Kd.com p.ys)], nx := 2, nt := 26, tl := [0, 1, 2, 3, 4, 5, 6, 7] : St V })))))) (Out.stop (EX.ex 0) {env := [(14, .bool (decide ((↑i : Int) < (↑p.xs.length : Int)))), (13, .int .i64 (↑p.xs.length : Int)), (12, .sl false 0 0 4 p.xs.length p.2), (11, .int .i64 (↑i : Int)), (0, .sl false 0 0 4 p.xs.length p.2), (1, .sl false 1 0 4 p.ys.length p.4), (5, .int .i64 (↑i : Int))], heap := [(0, .ro Kd.com p.xs), (1, .ro Kd.com p.ys)], nx := 2, nt := 26, tl := [0, 1, 2, 3, 4, 5, 6, 7] : St V }) := by kernel_rfl

theorem b21 (p : PR Cal) (i : Nat) : runCode cfgC 40 21 (loopOf Try.f21 0) (I21 p i) Out.stop = Out.ite (decide ((↑i : Int) < (↑p.xs.length : Int))) (Out.need (0 ≤ (↑i : Int) ∧ (↑i : Int) < (↑p.xs.length : Int)) (Out.need (0 + i < p.xs.length) (Out.need (0 ≤ (↑i : Int) ∧ (↑i : Int) < (↑p.ys.length : Int)) (Out.need (0 + i < p.ys.length) (Out.ite (!((p.xs.getD (0 + i) (V.enc Kd.cal).dflt).thread == (p.ys.getD (0 + i) (V.enc Kd.cal).dflt).thread && ((p.xs.getD (0 + i) (V.enc Kd.cal).dflt).op == (p.ys.getD (0 + i) (V.enc Kd.cal).dflt).op && ((p.xs.getD (0 + i) (V.enc Kd.cal).dflt).frm == (p.ys.getD (0 + i) (V.enc Kd.cal).dflt).frm && ((p.xs.getD (0 + i) (V.enc Kd.cal).dflt).at_ == (p.ys.getD (0 + i) (V.enc Kd.cal).dflt).at_ && ((p.xs.getD (0 + i) (V.enc Kd.cal).dflt).to_ == (p.ys.getD (0 + i) (V.enc Kd.cal).dflt).to_ && true)))))) (Out.stop EX.rt {env := [(4, .ff), (25, .bool !((p.xs.getD (0 + i) (V.enc Kd.cal).dflt).thread == (p.ys.getD (0 + i) (V.enc Kd.cal).dflt).thread && ((p.xs.getD (0 + i) (V.enc Kd.cal).dflt).op == (p.ys.getD (0 + i) (V.enc Kd.cal).dflt).op && ((p.xs.getD (0 + i) (V.enc Kd.cal).dflt).frm == (p.ys.getD (0 + i) (V.enc Kd.cal).dflt).frm && ((p.xs.getD (0 + i) (V.enc Kd.cal).dflt).at_ == (p.ys.getD (0 + i) (V.enc Kd.cal).dflt).at_ && ((p.xs.getD (0 + i) (V.enc Kd.cal).dflt).to_ == (p.ys.getD (0 + i) (V.enc Kd.cal).dflt).to_ && true)))))), (24, .agg [.int .i64 (p.ys.getD (0 + i) (V.enc Kd.cal).dflt).thread, .int .i64 (p.ys.getD (0 + i) (V.enc Kd.cal).dflt).op, .int .i64 (p.ys.getD (0 + i) (V.enc Kd.cal).dflt).frm, .int .i64 (p.ys.getD (0 + i) (V.enc Kd.cal).dflt).at_, .int .i64 (p.ys.getD (0 + i) (V.enc Kd.cal).dflt).to_]), (23, .ptrR 1 (0 + i) 5 0), (22, .int .i64 (↑i : Int)), (21, .sl false 1 0 5 p.ys.length p.4), (20, .agg [.int .i64 (p.xs.getD (0 + i) (V.enc Kd.cal).dflt).thread, .int .i64 (p.xs.getD (0 + i) (V.enc Kd.cal).dflt).op, .int .i64 (p.xs.getD (0 + i) (V.enc Kd.cal).dflt).frm, .int .i64 (p.xs.getD (0 + i) (V.enc Kd.cal).dflt).at_, .int .i64 (p.xs.getD (0 + i) (V.enc Kd.cal).dflt).to_]), (19, .ptrR 0 (0 + i) 5 0), (18, .int .i64 (↑i : Int)), (17, .sl false 0 0 5 p.xs.length p.2), (14, .bool (decide ((↑i : Int) < (↑p.xs.length : Int)))), (13, .int .i64 (↑p.xs.length : Int)), (12, .sl false 0 0 5 p.xs.length p.2), (11, .int .i64 (↑i : Int)), (0, .sl false 0 0 5 p.xs.length p.2), (1, .sl false 1 0 5 p.ys.length p.4), (5, .int .i64 (↑i : Int))], heap := [(0, .ro Kd.cal p.xs), (1, .ro Kd.cal p.ys)], nx := 2, nt := 26, tl := [0, 1, 2, 3, 4, 5, 6, 7] : St V }) (Out.stop EX.nx {env := [(5, .int .i64 (IntKind.i64.wrap ((↑i : Int) + 1))), (16, .int .i64 (IntKind.i64.wrap ((↑i : Int) + 1))), (15, .int .i64 (↑i : Int)), (25, .bool !((p.xs.getD (0 + i) (V.enc Kd.cal).dflt).thread == (p.ys.getD (0 + i) (V.enc Kd.cal).dflt).thread && ((p.xs.getD (0 + i) (V.enc Kd.cal).dflt).op == (p.ys.getD (0 + i) (V.enc Kd.cal).dflt).op && ((p.xs.getD (0 + i) (V.enc Kd.cal).dflt).frm == (p.ys.getD (0 + i) (V.enc Kd.cal).dflt).frm && ((p.xs.getD (0 + i) (V.enc Kd.cal).dflt).at_ == (p.ys.getD (0 + i) (V.enc Kd.cal).dflt).at_ && ((p.xs.getD (0 + i) (V.enc Kd.cal).dflt).to_ == (p.ys.getD (0 + i) (V.enc Kd.cal).dflt).to_ && true)))))), (24, .agg [.int .i64 (p.ys.getD (0 + i) (V.enc Kd.cal).dflt).thread, .int .i64 (p.ys.getD (0 + i) (V.enc Kd.cal).dflt).op, .int .i64 (p.ys.getD (0 + i) (V.enc Kd.cal).dflt).frm, .int .i64 (p.ys.getD (0 + i) (V.enc Kd.cal).dflt).at_, .int .i64 (p.ys.getD (0 + i) (V.enc Kd.cal).dflt).to_]), (23, .ptrR 1 (0 + i) 5 0), (22, .int .i64 (↑i : Int)), (21, .sl false 1 0 5 p.ys.length p.4), (20, .agg [.int .i64 (p.xs.getD (0 + i) (V.enc Kd.cal).dflt).thread, .int .i64 (p.xs.getD (0 + i) (V.enc Kd.cal).dflt).op, .int .i64 (p.xs.getD (0 + i) (V.enc Kd.cal).dflt).frm, .int .i64 (p.xs.getD (0 + i) (V.enc Kd.cal).dflt).at_, .int .i64 (p.xs.getD (0 + i) (V.enc Kd.cal).dflt).to_]), (19, .ptrR 0 (0 + i) 5 0), (18, .int .i64 (↑i : Int)), (17, .sl false 0 0 5 p.xs.length p.2), (14, .bool (decide ((↑i : Int) < (↑p.xs.length : Int)))), (13, .int .i64 (↑p.xs.length : Int)), (12, .sl false 0 0 5 p.xs.length p.2), (11, .int .i64 (↑i : Int)), (0, .sl false 0 0 5 p.xs.length p.2), (1, .sl false 1 0 5 p.ys.length p.4), (5, .int .i64 (↑i : Int))], heap := [(0, .ro Kd.cal p.xs), (1, .ro Kd.cal p.ys)], nx := 2, nt := 26, tl := [0, 1, 2, 3, 4, 5, 6, 7] : St V })))))) (Out.stop (EX.ex 0) {env := [(14, .bool (decide ((↑i : Int) < (↑p.xs.length : Int)))), (13, .int .i64 (↑p.xs.length : Int)), (12, .sl false 0 0 5 p.xs.length p.2), (11, .int .i64 (↑i : Int)), (0, .sl false 0 0 5 p.xs.length p.2), (1, .sl false 1 0 5 p.ys.length p.4), (5, .int .i64 (↑i : Int))], heap := [(0, .ro Kd.cal p.xs), (1, .ro Kd.cal p.ys)], nx := 2, nt := 26, tl := [0, 1, 2, 3, 4, 5, 6, 7] : St V }) := by kernel_rfl

theorem t13 (xs ys : List Rec) (c d : Nat) : runF cfgD 40 13 Try.f13 [.sl false 0 0 8 xs.length c, .sl false 1 0 8 ys.length d] [(0, .ro Kd.rcd xs), (1, .ro Kd.rcd ys)] 2 = Out.ite ((↑xs.length : Int) != (↑ys.length : Int)) (Out.fin .ff [(0, .ro Kd.rcd xs), (1, .ro Kd.rcd ys)] 2) (Out.need (LoopFor Try.prog 13 0 (loopOf Try.f13 0) L13) (Out.ex (PR Rec) fun y => Out.ex (List (Nat × Nat)) fun y_1 => Out.need (2 ≤ 2 ∧ Wk 2 y_1 {env := [(5, .lit .i64 0), (10, .bool ((↑xs.length : Int) != (↑ys.length : Int))), (9, .int .i64 (↑ys.length : Int)), (8, .sl false 1 0 8 ys.length d), (7, .int .i64 (↑xs.length : Int)), (6, .sl false 0 0 8 xs.length c), (4, .ff), (0, .sl false 0 0 8 xs.length c), (1, .sl false 1 0 8 ys.length d)], heap := [(0, .ro Kd.rcd xs), (1, .ro Kd.rcd ys)], nx := 2, nt := 26, tl := [] : St V } ((fun p => I13 p 0) y)) ((Out.all Unit fun y_2 => Out.asm ((fun p x => p.xs = p.ys) y y_2) (Out.fin .tt [(0, .ro Kd.rcd y.xs), (1, .ro Kd.rcd y.ys)] 2)).both (Out.all Unit fun y_2 => Out.asm ((fun p x => p.xs ≠ p.ys) y y_2) (Out.fin .ff [(0, .ro Kd.rcd y.xs), (1, .ro Kd.rcd y.ys)] 2))))) := by kernel_rfl

theorem t22 (xs ys : List Com) (c d : Nat) : runF cfgD 40 22 Try.f22 [.sl false 0 0 4 xs.length c, .sl false 1 0 4 ys.length d] [(0, .ro Kd.com xs), (1, .ro Kd.com ys)] 2 = Out.ite ((↑xs.length : Int) != (↑ys.length : Int)) (Out.fin .ff [(0, .ro Kd.com xs), (1, .ro Kd.com ys)] 2) (Out.need (LoopFor Try.prog 22 0 (loopOf Try.f22 0) L22) (Out.ex (PR Com) fun y => Out.ex (List (Nat × Nat)) fun y_1 => Out.need (2 ≤ 2 ∧ Wk 2 y_1 {env := [(5, .lit .i64 0), (10, .bool ((↑xs.length : Int) != (↑ys.length : Int))), (9, .int .i64 (↑ys.length : Int)), (8, .sl false 1 0 4 ys.length d), (7, .int .i64 (↑xs.length : Int)), (6, .sl false 0 0 4 xs.length c), (4, .ff), (0, .sl false 0 0 4 xs.length c), (1, .sl false 1 0 4 ys.length d)], heap := [(0, .ro Kd.com xs), (1, .ro Kd.com ys)], nx := 2, nt := 26, tl := [] : St V } ((fun p => I22 p 0) y)) ((Out.all Unit fun y_2 => Out.asm ((fun p x => p.xs = p.ys) y y_2) (Out.fin .tt [(0, .ro Kd.com y.xs), (1, .ro Kd.com y.ys)] 2)).both (Out.all Unit fun y_2 => Out.asm ((fun p x => p.xs ≠ p.ys) y y_2) (Out.fin .ff [(0, .ro Kd.com y.xs), (1, .ro Kd.com y.ys)] 2))))) := by kernel_rfl

theorem t21 (xs ys : List Cal) (c d : Nat) : runF cfgD 40 21 Try.f21 [.sl false 0 0 5 xs.length c, .sl false 1 0 5 ys.length d] [(0, .ro Kd.cal xs), (1, .ro Kd.cal ys)] 2 = Out.ite ((↑xs.length : Int) != (↑ys.length : Int)) (Out.fin .ff [(0, .ro Kd.cal xs), (1, .ro Kd.cal ys)] 2) (Out.need (LoopFor Try.prog 21 0 (loopOf Try.f21 0) L21) (Out.ex (PR Cal) fun y => Out.ex (List (Nat × Nat)) fun y_1 => Out.need (2 ≤ 2 ∧ Wk 2 y_1 {env := [(5, .lit .i64 0), (10, .bool ((↑xs.length : Int) != (↑ys.length : Int))), (9, .int .i64 (↑ys.length : Int)), (8, .sl false 1 0 5 ys.length d), (7, .int .i64 (↑xs.length : Int)), (6, .sl false 0 0 5 xs.length c), (4, .ff), (0, .sl false 0 0 5 xs.length c), (1, .sl false 1 0 5 ys.length d)], heap := [(0, .ro Kd.cal xs), (1, .ro Kd.cal ys)], nx := 2, nt := 26, tl := [] : St V } ((fun p => I21 p 0) y)) ((Out.all Unit fun y_2 => Out.asm ((fun p x => p.xs = p.ys) y y_2) (Out.fin .tt [(0, .ro Kd.cal y.xs), (1, .ro Kd.cal y.ys)] 2)).both (Out.all Unit fun y_2 => Out.asm ((fun p x => p.xs ≠ p.ys) y y_2) (Out.fin .ff [(0, .ro Kd.cal y.xs), (1, .ro Kd.cal y.ys)] 2))))) := by kernel_rfl

end Sx
end Go.Proofs.Ytemcdjdglcceiaa

/-
  Rows compared: each such function tells whether they are the same.
-/
namespace Go.Proofs.Ytemcdjdglcceiaa
namespace Sx
open Go
set_option linter.unusedSimpArgs false
set_option linter.unusedVariables false

theorem cfgC_ok : cfgC.ok := ⟨tab_met, kinds_met, mixed_met, fun g fn h => (by cases h), fun g H h => (by cases h)⟩
theorem cfgD_ok : cfgD.ok := ⟨cfgC_ok.τ, cfgC_ok.κ, cfgC_ok.mixed, cfgC_ok.fns, cfgC_ok.hooks⟩
theorem rec_ext (a b : Rec) : (a.thread == b.thread && (a.op == b.op && (a.what == b.what && (a.act == b.act && (a.key == b.key && (a.value == b.value && (a.hit == b.hit && true))) && (a.err == b.err && true))))) = true ↔ a = b := by
  obtain ⟨x1, x2, x3, x4, x5, x6, x7, x8⟩ := a
  obtain ⟨y1, y2, y3, y4, y5, y6, y7, y8⟩ := b
  simp [and_assoc]
theorem com_ext (a b : Com) : (a.act == b.act && (a.key == b.key && (a.value == b.value && (a.hit == b.hit && true)))) = true ↔ a = b := by
  obtain ⟨x1, x2, x3, x4⟩ := a
  obtain ⟨y1, y2, y3, y4⟩ := b
  simp
theorem cal_ext (a b : Cal) : (a.thread == b.thread && (a.op == b.op && (a.frm == b.frm && (a.at_ == b.at_ && (a.to_ == b.to_ && true))))) = true ↔ a = b := by
  obtain ⟨x1, x2, x3, x4, x5⟩ := a
  obtain ⟨y1, y2, y3, y4, y5⟩ := b
  simp

theorem l13_ok : LoopOk Try.prog 0 (loopOf Try.f13 0) L13 := by
  refine loopS_ok (C := cfgC) cfgC_ok (f := 13) (n := 40) 2 I13 (fun p i => i ≤ p.xs.length ∧ p.xs.take i = p.ys.take i) (fun _ => 0) (fun p i => p.xs.length - i) (fun p _ => p.xs = p.ys) (fun p (_ : Unit) => I13 p p.xs.length) (fun p _ => p.xs ≠ p.ys) (fun p (_ : Unit) => R13 p) (fun p => ⟨Nat.zero_le _, rfl⟩) ?_
  intro p i ⟨hi, ht⟩
  rw [b13]
  simp only [Out.holds, Nat.zero_add, decide_eq_true_eq, decide_eq_false_iff_not, Bool.not_eq_true', Bool.not_eq_false']
  have hb := p.hb
  have hl := p.hl
  have hx : ∀ (h : i < p.xs.length), p.xs.getD i (V.enc Kd.rcd).dflt = p.xs[i] := fun h => by rw [List.getD_eq_getElem?_getD, List.getElem?_eq_getElem h]; rfl
  have hy : ∀ (h : i < p.ys.length), p.ys.getD i (V.enc Kd.rcd).dflt = p.ys[i] := fun h => by rw [List.getD_eq_getElem?_getD, List.getElem?_eq_getElem h]; rfl
  refine ⟨fun h => ⟨by omega, by omega, by omega, by omega, fun h2 => ⟨(), [], ?_, ?_⟩, fun h2 => ⟨i + 1, [], ?_, ⟨by omega, ?_⟩, by omega⟩⟩, fun h => ⟨trivial, (), [], ?_, ?_⟩⟩
  · exact ⟨⟨AV.sub_same _, trivial⟩, ⟨.same _, .same _, trivial⟩, rfl, tl_ok rfl, ⟨.inr rfl, .inr rfl, trivial⟩, ⟨Nat.le_of_ble_eq_true rfl, rfl⟩⟩
  · intro hxy
    have := (rec_ext (p.xs.getD i (V.enc Kd.rcd).dflt) (p.ys.getD i (V.enc Kd.rcd).dflt)).2 (by rw [hxy])
    exact absurd (this.symm.trans h2) (by decide)
  · exact ⟨⟨AV.sub_same _, AV.sub_same _, AV.sub_int (wrap_nat (by omega)), trivial⟩, ⟨.same _, .same _, trivial⟩, rfl, tl_ok rfl, ⟨.inr rfl, .inr rfl, trivial⟩, ⟨Nat.le_of_ble_eq_true rfl, rfl⟩⟩
  · have h1 : i < p.xs.length := by omega
    have h3 : i < p.ys.length := by omega
    rw [List.take_succ_eq_append_getElem h1, List.take_succ_eq_append_getElem h3, ht, ← hx h1, ← hy h3]
    exact congrArg (fun z => List.take i p.ys ++ [z]) ((rec_ext _ _).1 h2)
  · exact ⟨⟨AV.sub_same _, AV.sub_same _, AV.sub_int (by omega), trivial⟩, ⟨.same _, .same _, trivial⟩, rfl, tl_ok rfl, ⟨.inr rfl, .inr rfl, trivial⟩, ⟨Nat.le_of_ble_eq_true rfl, rfl⟩⟩
  · have e1 : p.xs.take i = p.xs := List.take_of_length_le (by omega)
    have e2 : p.ys.take i = p.ys := List.take_of_length_le (by omega)
    rw [← e1, ht, e2]
def runRecords : RunFree V := fun ar K => match ar with
  | [.rows .rcd xs c, .rows .rcd ys d] => .need (xs.length ≤ 1099511627776) (K (.bool (decide (xs = ys))) [])
  | _ => .bad 500
theorem hRecords : HookOk Try.prog 13 (hookFree [.rows Kd.rcd, .rows Kd.rcd] runRecords) := by
  refine free_hook (C := cfgD) cfgD_ok (n := 40) (fn := Try.f13) ⟨by kernel_rfl, by kernel_rfl⟩ (by kernel_rfl) ?_
  intro M ar K0 H
  unfold runRecords at H
  split at H
  · rename_i xs c ys d
    obtain ⟨hb, H⟩ := H
    refine ⟨show 2 ≤ _ by decide +kernel, ?_⟩
    show (runF cfgD 40 13 Try.f13 [.sl false 0 0 8 xs.length c, .sl false 1 0 8 ys.length d] [(0, .ro Kd.rcd xs), (1, .ro Kd.rcd ys)] 2).holds _
    rw [t13]
    refine ⟨fun h => ⟨_, _, H, endPlain ?_ rfl⟩, fun h => ?_⟩
    · refine fun r v hv => ?_
      rw [show decide (xs = ys) = false from decide_eq_false (fun e => by subst e; simp at h)]; exact hv
    · have hl : xs.length = ys.length := by
        have h' : (xs.length : Int) = (ys.length : Int) := by simpa using h
        omega
      refine ⟨l13_ok, ⟨xs, c, ys, d, hl, hb⟩, [], ⟨Nat.le_refl _, ?_⟩, fun _ he => ⟨_, _, H, endPlain ?_ rfl⟩, fun _ he => ⟨_, _, H, endPlain ?_ rfl⟩⟩
      · exact ⟨⟨AV.sub_same _, AV.sub_same _, AV.sub_lit', trivial⟩, ⟨.same _, .same _, trivial⟩, rfl, tl_ok rfl, ⟨.inr rfl, .inr rfl, trivial⟩, ⟨Nat.le_of_ble_eq_true rfl, rfl⟩⟩
      · rw [show decide (xs = ys) = true from decide_eq_true he]; exact fun _ _ h => h
      · rw [show decide (xs = ys) = false from decide_eq_false he]; exact fun _ _ h => h
  · exact H.elim

theorem l22_ok : LoopOk Try.prog 0 (loopOf Try.f22 0) L22 := by
  refine loopS_ok (C := cfgC) cfgC_ok (f := 22) (n := 40) 2 I22 (fun p i => i ≤ p.xs.length ∧ p.xs.take i = p.ys.take i) (fun _ => 0) (fun p i => p.xs.length - i) (fun p _ => p.xs = p.ys) (fun p (_ : Unit) => I22 p p.xs.length) (fun p _ => p.xs ≠ p.ys) (fun p (_ : Unit) => R22 p) (fun p => ⟨Nat.zero_le _, rfl⟩) ?_
  intro p i ⟨hi, ht⟩
  rw [b22]
  simp only [Out.holds, Nat.zero_add, decide_eq_true_eq, decide_eq_false_iff_not, Bool.not_eq_true', Bool.not_eq_false']
  have hb := p.hb
  have hl := p.hl
  have hx : ∀ (h : i < p.xs.length), p.xs.getD i (V.enc Kd.com).dflt = p.xs[i] := fun h => by rw [List.getD_eq_getElem?_getD, List.getElem?_eq_getElem h]; rfl
  have hy : ∀ (h : i < p.ys.length), p.ys.getD i (V.enc Kd.com).dflt = p.ys[i] := fun h => by rw [List.getD_eq_getElem?_getD, List.getElem?_eq_getElem h]; rfl
  refine ⟨fun h => ⟨by omega, by omega, by omega, by omega, fun h2 => ⟨(), [], ?_, ?_⟩, fun h2 => ⟨i + 1, [], ?_, ⟨by omega, ?_⟩, by omega⟩⟩, fun h => ⟨trivial, (), [], ?_, ?_⟩⟩
  · exact ⟨⟨AV.sub_same _, trivial⟩, ⟨.same _, .same _, trivial⟩, rfl, tl_ok rfl, ⟨.inr rfl, .inr rfl, trivial⟩, ⟨Nat.le_of_ble_eq_true rfl, rfl⟩⟩
  · intro hxy
    have := (com_ext (p.xs.getD i (V.enc Kd.com).dflt) (p.ys.getD i (V.enc Kd.com).dflt)).2 (by rw [hxy])
    exact absurd (this.symm.trans h2) (by decide)
  · exact ⟨⟨AV.sub_same _, AV.sub_same _, AV.sub_int (wrap_nat (by omega)), trivial⟩, ⟨.same _, .same _, trivial⟩, rfl, tl_ok rfl, ⟨.inr rfl, .inr rfl, trivial⟩, ⟨Nat.le_of_ble_eq_true rfl, rfl⟩⟩
  · have h1 : i < p.xs.length := by omega
    have h3 : i < p.ys.length := by omega
    rw [List.take_succ_eq_append_getElem h1, List.take_succ_eq_append_getElem h3, ht, ← hx h1, ← hy h3]
    exact congrArg (fun z => List.take i p.ys ++ [z]) ((com_ext _ _).1 h2)
  · exact ⟨⟨AV.sub_same _, AV.sub_same _, AV.sub_int (by omega), trivial⟩, ⟨.same _, .same _, trivial⟩, rfl, tl_ok rfl, ⟨.inr rfl, .inr rfl, trivial⟩, ⟨Nat.le_of_ble_eq_true rfl, rfl⟩⟩
  · have e1 : p.xs.take i = p.xs := List.take_of_length_le (by omega)
    have e2 : p.ys.take i = p.ys := List.take_of_length_le (by omega)
    rw [← e1, ht, e2]
def runComs : RunFree V := fun ar K => match ar with
  | [.rows .com xs c, .rows .com ys d] => .need (xs.length ≤ 1099511627776) (K (.bool (decide (xs = ys))) [])
  | _ => .bad 500
theorem hComs : HookOk Try.prog 22 (hookFree [.rows Kd.com, .rows Kd.com] runComs) := by
  refine free_hook (C := cfgD) cfgD_ok (n := 40) (fn := Try.f22) ⟨by kernel_rfl, by kernel_rfl⟩ (by kernel_rfl) ?_
  intro M ar K0 H
  unfold runComs at H
  split at H
  · rename_i xs c ys d
    obtain ⟨hb, H⟩ := H
    refine ⟨show 2 ≤ _ by decide +kernel, ?_⟩
    show (runF cfgD 40 22 Try.f22 [.sl false 0 0 4 xs.length c, .sl false 1 0 4 ys.length d] [(0, .ro Kd.com xs), (1, .ro Kd.com ys)] 2).holds _
    rw [t22]
    refine ⟨fun h => ⟨_, _, H, endPlain ?_ rfl⟩, fun h => ?_⟩
    · refine fun r v hv => ?_
      rw [show decide (xs = ys) = false from decide_eq_false (fun e => by subst e; simp at h)]; exact hv
    · have hl : xs.length = ys.length := by
        have h' : (xs.length : Int) = (ys.length : Int) := by simpa using h
        omega
      refine ⟨l22_ok, ⟨xs, c, ys, d, hl, hb⟩, [], ⟨Nat.le_refl _, ?_⟩, fun _ he => ⟨_, _, H, endPlain ?_ rfl⟩, fun _ he => ⟨_, _, H, endPlain ?_ rfl⟩⟩
      · exact ⟨⟨AV.sub_same _, AV.sub_same _, AV.sub_lit', trivial⟩, ⟨.same _, .same _, trivial⟩, rfl, tl_ok rfl, ⟨.inr rfl, .inr rfl, trivial⟩, ⟨Nat.le_of_ble_eq_true rfl, rfl⟩⟩
      · rw [show decide (xs = ys) = true from decide_eq_true he]; exact fun _ _ h => h
      · rw [show decide (xs = ys) = false from decide_eq_false he]; exact fun _ _ h => h
  · exact H.elim

theorem l21_ok : LoopOk Try.prog 0 (loopOf Try.f21 0) L21 := by
  refine loopS_ok (C := cfgC) cfgC_ok (f := 21) (n := 40) 2 I21 (fun p i => i ≤ p.xs.length ∧ p.xs.take i = p.ys.take i) (fun _ => 0) (fun p i => p.xs.length - i) (fun p _ => p.xs = p.ys) (fun p (_ : Unit) => I21 p p.xs.length) (fun p _ => p.xs ≠ p.ys) (fun p (_ : Unit) => R21 p) (fun p => ⟨Nat.zero_le _, rfl⟩) ?_
  intro p i ⟨hi, ht⟩
  rw [b21]
  simp only [Out.holds, Nat.zero_add, decide_eq_true_eq, decide_eq_false_iff_not, Bool.not_eq_true', Bool.not_eq_false']
  have hb := p.hb
  have hl := p.hl
  have hx : ∀ (h : i < p.xs.length), p.xs.getD i (V.enc Kd.cal).dflt = p.xs[i] := fun h => by rw [List.getD_eq_getElem?_getD, List.getElem?_eq_getElem h]; rfl
  have hy : ∀ (h : i < p.ys.length), p.ys.getD i (V.enc Kd.cal).dflt = p.ys[i] := fun h => by rw [List.getD_eq_getElem?_getD, List.getElem?_eq_getElem h]; rfl
  refine ⟨fun h => ⟨by omega, by omega, by omega, by omega, fun h2 => ⟨(), [], ?_, ?_⟩, fun h2 => ⟨i + 1, [], ?_, ⟨by omega, ?_⟩, by omega⟩⟩, fun h => ⟨trivial, (), [], ?_, ?_⟩⟩
  · exact ⟨⟨AV.sub_same _, trivial⟩, ⟨.same _, .same _, trivial⟩, rfl, tl_ok rfl, ⟨.inr rfl, .inr rfl, trivial⟩, ⟨Nat.le_of_ble_eq_true rfl, rfl⟩⟩
  · intro hxy
    have := (cal_ext (p.xs.getD i (V.enc Kd.cal).dflt) (p.ys.getD i (V.enc Kd.cal).dflt)).2 (by rw [hxy])
    exact absurd (this.symm.trans h2) (by decide)
  · exact ⟨⟨AV.sub_same _, AV.sub_same _, AV.sub_int (wrap_nat (by omega)), trivial⟩, ⟨.same _, .same _, trivial⟩, rfl, tl_ok rfl, ⟨.inr rfl, .inr rfl, trivial⟩, ⟨Nat.le_of_ble_eq_true rfl, rfl⟩⟩
  · have h1 : i < p.xs.length := by omega
    have h3 : i < p.ys.length := by omega
    rw [List.take_succ_eq_append_getElem h1, List.take_succ_eq_append_getElem h3, ht, ← hx h1, ← hy h3]
    exact congrArg (fun z => List.take i p.ys ++ [z]) ((cal_ext _ _).1 h2)
  · exact ⟨⟨AV.sub_same _, AV.sub_same _, AV.sub_int (by omega), trivial⟩, ⟨.same _, .same _, trivial⟩, rfl, tl_ok rfl, ⟨.inr rfl, .inr rfl, trivial⟩, ⟨Nat.le_of_ble_eq_true rfl, rfl⟩⟩
  · have e1 : p.xs.take i = p.xs := List.take_of_length_le (by omega)
    have e2 : p.ys.take i = p.ys := List.take_of_length_le (by omega)
    rw [← e1, ht, e2]
def runSame : RunFree V := fun ar K => match ar with
  | [.rows .cal xs c, .rows .cal ys d] => .need (xs.length ≤ 1099511627776) (K (.bool (decide (xs = ys))) [])
  | _ => .bad 500
theorem hSame : HookOk Try.prog 21 (hookFree [.rows Kd.cal, .rows Kd.cal] runSame) := by
  refine free_hook (C := cfgD) cfgD_ok (n := 40) (fn := Try.f21) ⟨by kernel_rfl, by kernel_rfl⟩ (by kernel_rfl) ?_
  intro M ar K0 H
  unfold runSame at H
  split at H
  · rename_i xs c ys d
    obtain ⟨hb, H⟩ := H
    refine ⟨show 2 ≤ _ by decide +kernel, ?_⟩
    show (runF cfgD 40 21 Try.f21 [.sl false 0 0 5 xs.length c, .sl false 1 0 5 ys.length d] [(0, .ro Kd.cal xs), (1, .ro Kd.cal ys)] 2).holds _
    rw [t21]
    refine ⟨fun h => ⟨_, _, H, endPlain ?_ rfl⟩, fun h => ?_⟩
    · refine fun r v hv => ?_
      rw [show decide (xs = ys) = false from decide_eq_false (fun e => by subst e; simp at h)]; exact hv
    · have hl : xs.length = ys.length := by
        have h' : (xs.length : Int) = (ys.length : Int) := by simpa using h
        omega
      refine ⟨l21_ok, ⟨xs, c, ys, d, hl, hb⟩, [], ⟨Nat.le_refl _, ?_⟩, fun _ he => ⟨_, _, H, endPlain ?_ rfl⟩, fun _ he => ⟨_, _, H, endPlain ?_ rfl⟩⟩
      · exact ⟨⟨AV.sub_same _, AV.sub_same _, AV.sub_lit', trivial⟩, ⟨.same _, .same _, trivial⟩, rfl, tl_ok rfl, ⟨.inr rfl, .inr rfl, trivial⟩, ⟨Nat.le_of_ble_eq_true rfl, rfl⟩⟩
      · rw [show decide (xs = ys) = true from decide_eq_true he]; exact fun _ _ h => h
      · rw [show decide (xs = ys) = false from decide_eq_false he]; exact fun _ _ h => h
  · exact H.elim

end Sx
end Go.Proofs.Ytemcdjdglcceiaa

/-
  Functions over what is read: the runs of the machine.
-/
namespace Go.Proofs.Ytemcdjdglcceiaa
namespace Sx
open Go
set_option maxRecDepth 100000
set_option linter.unusedVariables false

def hooksE : Nat → Option (HookS V) := fun g => match g with
  | 42 => some (hookFree [.rows Kd.rcd] runCalls)
  | 13 => some (hookFree [.rows Kd.rcd, .rows Kd.rcd] runRecords)
  | 22 => some (hookFree [.rows Kd.com, .rows Kd.com] runComs)
  | 21 => some (hookFree [.rows Kd.cal, .rows Kd.cal] runSame)
  | _ => none
noncomputable def cfgE : Cfg Try.prog V := ⟨tab, kinds, fun _ => none, hooksE, fun _ _ => none⟩
def runRight : RunFree V := fun ar K => match ar with
  | [.rows .rcd l c] => .need (l.length ≤ 1099511627776) (K (.bool (hRight l)) [])
  | _ => .bad 500
def runCallsOf : RunFree V := fun ar K => match ar with
  | [.rows .rcd l c] => .need (l.length ≤ 1099511627776) (.all Nat fun sp => K (.sl false 0 0 5 (hCallsOf l).length ((hCallsOf l).length + sp)) [.arr 35 Kd.cal (hCallsOf l) sp])
  | _ => .bad 500
def runBefore : RunFree V := fun ar K => match ar with
  | [.el .cal a, .el .cal b] => K (.bool (hBefore a b)) []
  | _ => .bad 500
def hooksF : Nat → Option (HookS V) := fun g => match g with
  | 19 => some (hookFree [.rows Kd.rcd] runRight)
  | 15 => some (hookFree [.rows Kd.rcd] runCallsOf)
  | 17 => some (hookFree [.el Kd.cal, .el Kd.cal] runBefore)
  | g => hooksE g
noncomputable def cfgF : Cfg Try.prog V := ⟨tab, kinds, fun _ => none, hooksF, fun _ _ => none⟩
theorem t19 (l : List Rec) (c : Nat) : runF cfgE 40 19 Try.f19 [.sl false 0 0 8 l.length c] [(0, .ro Kd.rcd l)] 1 = Out.need (0 + l.length ≤ l.length) (Out.need ((List.take l.length (List.drop 0 l)).length ≤ 1099511627776) (Out.ite (hRight (List.take l.length (List.drop 0 l))) (Out.all Nat fun y => Out.fin .tt [(1, .arr 35 Kd.cal (hCallsOf (List.take l.length (List.drop 0 l))) y), (0, .ro Kd.rcd l)] 2) (Out.fin .ff [(0, .ro Kd.rcd l)] 1))) := by kernel_rfl

theorem t15 (l : List Rec) (c : Nat) : runF cfgE 40 15 Try.f15 [.sl false 0 0 8 l.length c] [(0, .ro Kd.rcd l)] 1 = Out.need (0 + l.length ≤ l.length) (Out.need ((List.take l.length (List.drop 0 l)).length ≤ 1099511627776) (Out.ite (hRight (List.take l.length (List.drop 0 l))) (Out.all Nat fun y => Out.fin (.sl false 1 0 5 (hCallsOf (List.take l.length (List.drop 0 l))).length ((hCallsOf (List.take l.length (List.drop 0 l))).length + y)) [(1, .arr 35 Kd.cal (hCallsOf (List.take l.length (List.drop 0 l))) y), (0, .ro Kd.rcd l)] 2) (Out.fin .nilS [(0, .ro Kd.rcd l)] 1))) := by kernel_rfl

theorem t17 (a b : Cal) : runF cfgE 40 17 Try.f17 [.agg (Cal.lay.enc a), .agg (Cal.lay.enc b)] [] 2 = Out.ite (decide (a.to_ ≥ 0)) (Out.fin (.bool (decide (a.to_ < b.frm))) [(3, .cells 35 [.int .i64 b.thread, .int .i64 b.op, .int .i64 b.frm, .int .i64 b.at_, .int .i64 b.to_]), (2, .cells 35 [.int .i64 a.thread, .int .i64 a.op, .int .i64 a.frm, .int .i64 a.at_, .int .i64 a.to_])] 4) (Out.fin .ff [(3, .cells 35 [.int .i64 b.thread, .int .i64 b.op, .int .i64 b.frm, .int .i64 b.at_, .int .i64 b.to_]), (2, .cells 35 [.int .i64 a.thread, .int .i64 a.op, .int .i64 a.frm, .int .i64 a.at_, .int .i64 a.to_])] 4) := by kernel_rfl

end Sx
end Go.Proofs.Ytemcdjdglcceiaa

/-
  Functions that go through what is read: the runs of the machine.
-/
namespace Go.Proofs.Ytemcdjdglcceiaa
namespace Sx
open Go
set_option maxRecDepth 100000
set_option linter.unusedVariables false

def leftTo (cs : List Cal) (i : Nat) : Nat := hLeftOf (cs.take i)
structure PC where
  l : List Rec
  c : Nat
  cs : List Cal
  sp : Nat
  hb : cs.length ≤ 1099511627776
def I25 (p : PC) (i : Nat) : St V :=
  ⟨[(3, .int .i64 (leftTo p.cs i : Int)), (7, .sl false 1 0 5 p.cs.length (p.cs.length + p.sp)), (8, .int .i64 (p.cs.length : Int)), (9, .int .i64 (i : Int))],
   [(1, .arr 35 Kd.cal p.cs p.sp), (0, .ro Kd.rcd p.l)], 2, 20, [0, 1, 2, 3, 4, 5, 6, 7, 8]⟩
def L25 : LoopS V := trimLoop (trimSt [3, 7, 8, 9] [0, 1]) (loopH 2 (fun p : PC => I25 p 0) (fun _ (_ : Unit) => True) (fun p _ => I25 p p.cs.length))
def takesTo (l : List Rec) (i : Nat) : List Com := ((l.take i).filter fun r => decide (r.what = 2)).map Rec.com
def I23 (p : PL) (x : Nat × Nat) : St V :=
  ⟨[(3, .sl false 1 0 4 (takesTo p.l x.1).length ((takesTo p.l x.1).length + x.2)), (9, .sl false 0 0 8 p.l.length p.c), (10, .int .i64 (p.l.length : Int)), (11, .int .i64 (x.1 : Int))],
   [(1, .arr 27 Kd.com (takesTo p.l x.1) x.2), (0, .ro Kd.rcd p.l)], 2, 25, [0, 1, 2, 3, 4, 5, 6, 7, 8]⟩
def L23 : LoopS V := trimLoop (trimSt [3, 9, 10, 11] [0]) (loopH 1 (fun p : PL => I23 p (0, 0)) (fun _ (_ : Nat) => True) (fun p sp => I23 p (p.l.length, sp)))
def I12 (p : PC) (x : Nat × List (Int × Bool) × List (Int × Bool)) : St V :=
  ⟨[(0, .sl false 0 0 8 p.l.length p.c), (5, .mp 2), (6, .mp 3), (22, .sl false 1 0 5 p.cs.length (p.cs.length + p.sp)), (23, .int .i64 (p.cs.length : Int)), (24, .int .i64 (x.1 : Int))],
   [(3, .mp .i64 Kd.bool x.2.2), (2, .mp .i64 Kd.bool x.2.1), (1, .arr 35 Kd.cal p.cs p.sp), (0, .ro Kd.rcd p.l)], 4, 70, [0, 1, 2, 3, 4, 5, 6, 7, 8, 9, 10]⟩
def marks (m : List (Int × Bool)) (f : Int → Bool) : Prop := ∀ k, mget m k = if f k then some true else none
def dropTo (cs : List Cal) (i : Nat) (k : Int) : Bool := (cs.take i).any fun c => decide (c.to_ = -1 ∧ c.at_ = -1 ∧ c.frm = k)
def lateTo (cs : List Cal) (i : Nat) (k : Int) : Bool := (cs.take i).any fun c => decide (c.to_ = -1 ∧ c.at_ ≠ -1 ∧ c.at_ = k)
def L12 : LoopS V := trimLoop (trimSt [0, 5, 6, 22, 23, 24] [0, 1, 2, 3]) (loopH 4 (fun p : PC => I12 p (0, [], [])) (fun p (q : List (Int × Bool) × List (Int × Bool)) => marks q.1 (dropTo p.cs p.cs.length) ∧ marks q.2 (lateTo p.cs p.cs.length)) (fun p q => I12 p (p.cs.length, q)))
structure PD where
  l : List Rec
  c : Nat
  cs : List Cal
  sp : Nat
  md : List (Int × Bool)
  ml : List (Int × Bool)
  hb : l.length ≤ 1099511627776
  hd : marks md (dropTo cs cs.length)
  hm : marks ml (lateTo cs cs.length)
def J12 (p : PD) (x : Nat × Nat × Nat) : St V :=
  ⟨[(5, .mp 2), (6, .mp 3), (9, .sl false 4 0 8 (hOut p.l p.cs x.1).length ((hOut p.l p.cs x.1).length + x.2.1)), (10, .sl false 5 0 8 (hMore p.l p.cs x.1).length ((hMore p.l p.cs x.1).length + x.2.2)), (43, .sl false 0 0 8 p.l.length p.c), (44, .int .i64 (p.l.length : Int)), (45, .int .i64 (x.1 : Int))],
   [(4, .arr 30 Kd.rcd (hOut p.l p.cs x.1) x.2.1), (5, .arr 30 Kd.rcd (hMore p.l p.cs x.1) x.2.2), (3, .mp .i64 Kd.bool p.ml), (2, .mp .i64 Kd.bool p.md), (0, .ro Kd.rcd p.l)], 6, 70, [0, 1, 2, 3, 4, 5, 6, 7, 8, 9, 10, 11, 12, 13, 14, 15, 16, 17, 18]⟩
def M12 : LoopS V := trimLoop (trimSt [5, 6, 9, 10, 43, 44, 45] [0, 2, 3]) (loopH 4 (fun p : PD => J12 p (0, 0, 0)) (fun _ (_ : Nat × Nat) => True) (fun p q => J12 p (p.l.length, q)))
noncomputable def cfgG : Cfg Try.prog V := ⟨tab, kinds, fun _ => none, hooksF, fun f id => match f, id with | 12, 0 => some L12 | 12, 3 => some M12 | 23, 0 => some L23 | 25, 0 => some L25 | _, _ => none⟩
theorem b25 (p : PC) (i : Nat) : runCode cfgF 40 25 (loopOf Try.f25 0) (I25 p i) (stopT (trimSt [3, 7, 8, 9] [0, 1])) = Out.ite (decide ((↑i : Int) < (↑p.cs.length : Int))) (Out.need (0 ≤ (↑i : Int) ∧ (↑i : Int) < (↑p.cs.length : Int)) (Out.need (0 + i < p.cs.length) (Out.ite ((p.cs.getD (0 + i) (V.enc Kd.cal).dflt).to_ == -1) (Out.stop EX.nx {env := [(3, .int .i64 (IntKind.i64.wrap ((↑(leftTo p.cs i) : Int) + 1))), (7, .sl false 1 0 5 p.cs.length (p.cs.length + p.4)), (8, .int .i64 (↑p.cs.length : Int)), (9, .int .i64 (IntKind.i64.wrap ((↑i : Int) + 1)))], heap := [(1, .arr 35 Kd.cal p.cs p.4), (0, .ro Kd.rcd p.l)], nx := 4, nt := 20, tl := [2, 2, 0, 1, 2, 3, 4, 5, 6, 7, 8] : St V }) (Out.stop EX.nx {env := [(3, .int .i64 (↑(leftTo p.cs i) : Int)), (7, .sl false 1 0 5 p.cs.length (p.cs.length + p.4)), (8, .int .i64 (↑p.cs.length : Int)), (9, .int .i64 (IntKind.i64.wrap ((↑i : Int) + 1)))], heap := [(1, .arr 35 Kd.cal p.cs p.4), (0, .ro Kd.rcd p.l)], nx := 4, nt := 20, tl := [2, 2, 0, 1, 2, 3, 4, 5, 6, 7, 8] : St V })))) (Out.stop (EX.ex 0) {env := [(3, .int .i64 (↑(leftTo p.cs i) : Int)), (7, .sl false 1 0 5 p.cs.length (p.cs.length + p.4)), (8, .int .i64 (↑p.cs.length : Int)), (9, .int .i64 (↑i : Int))], heap := [(1, .arr 35 Kd.cal p.cs p.4), (0, .ro Kd.rcd p.l)], nx := 2, nt := 20, tl := [0, 1, 2, 3, 4, 5, 6, 7, 8] : St V }) := by kernel_rfl

theorem b23 (p : PL) (x : Nat × Nat) : runCode cfgF 40 23 (loopOf Try.f23 0) (I23 p x) (stopT (trimSt [3, 9, 10, 11] [0, 1, 2, 3, 4, 5, 6])) = Out.ite (decide ((↑x.1 : Int) < (↑p.l.length : Int))) (Out.need (0 ≤ (↑x.1 : Int) ∧ (↑x.1 : Int) < (↑p.l.length : Int)) (Out.need (0 + x.1 < p.l.length) (Out.ite ((p.l.getD (0 + x.1) (V.enc Kd.rcd).dflt).what == 2) (Out.need (0 = 0 ∧ (takesTo p.l x.1).length = (takesTo p.l x.1).length ∧ (takesTo p.l x.1).length + x.2 = (takesTo p.l x.1).length + x.2 ∧ ((takesTo p.l x.1).length + 1) * 32 ≤ 140737488355328) (Out.all Nat fun y => Out.stop EX.nx {env := [(3, .sl false 5 0 4 ((takesTo p.l x.1).length + 1) ((takesTo p.l x.1).length + 1 + y)), (9, .sl false 0 0 8 p.l.length p.2), (10, .int .i64 (↑p.l.length : Int)), (11, .int .i64 (IntKind.i64.wrap ((↑x.1 : Int) + 1)))], heap := [(5, .arr 27 Kd.com (takesTo p.l x.1 ++ [{act := (p.l.getD (0 + x.1) (V.enc Kd.rcd).dflt).act, key := (p.l.getD (0 + x.1) (V.enc Kd.rcd).dflt).key, value := (p.l.getD (0 + x.1) (V.enc Kd.rcd).dflt).value, hit := (p.l.getD (0 + x.1) (V.enc Kd.rcd).dflt).hit : Com }]) y), (4, .cells 27 [.int .i64 (p.l.getD (0 + x.1) (V.enc Kd.rcd).dflt).act, .int .i64 (p.l.getD (0 + x.1) (V.enc Kd.rcd).dflt).key, .int .i64 (p.l.getD (0 + x.1) (V.enc Kd.rcd).dflt).value, .bool (p.l.getD (0 + x.1) (V.enc Kd.rcd).dflt).hit]), (2, .cells 30 [.int .i64 (p.l.getD (0 + x.1) (V.enc Kd.rcd).dflt).thread, .int .i64 (p.l.getD (0 + x.1) (V.enc Kd.rcd).dflt).op, .int .i64 (p.l.getD (0 + x.1) (V.enc Kd.rcd).dflt).what, .int .i64 (p.l.getD (0 + x.1) (V.enc Kd.rcd).dflt).act, .int .i64 (p.l.getD (0 + x.1) (V.enc Kd.rcd).dflt).key, .int .i64 (p.l.getD (0 + x.1) (V.enc Kd.rcd).dflt).value, .bool (p.l.getD (0 + x.1) (V.enc Kd.rcd).dflt).hit, .int .i64 (p.l.getD (0 + x.1) (V.enc Kd.rcd).dflt).err]), (0, .ro Kd.rcd p.l)], nx := 6, nt := 25, tl := [1, 2, 0, 1, 2, 3, 4, 5, 6, 7, 8] : St V })) (Out.stop EX.nx {env := [(3, .sl false 1 0 4 (takesTo p.l x.1).length ((takesTo p.l x.1).length + x.2)), (9, .sl false 0 0 8 p.l.length p.2), (10, .int .i64 (↑p.l.length : Int)), (11, .int .i64 (IntKind.i64.wrap ((↑x.1 : Int) + 1)))], heap := [(2, .cells 30 [.int .i64 (p.l.getD (0 + x.1) (V.enc Kd.rcd).dflt).thread, .int .i64 (p.l.getD (0 + x.1) (V.enc Kd.rcd).dflt).op, .int .i64 (p.l.getD (0 + x.1) (V.enc Kd.rcd).dflt).what, .int .i64 (p.l.getD (0 + x.1) (V.enc Kd.rcd).dflt).act, .int .i64 (p.l.getD (0 + x.1) (V.enc Kd.rcd).dflt).key, .int .i64 (p.l.getD (0 + x.1) (V.enc Kd.rcd).dflt).value, .bool (p.l.getD (0 + x.1) (V.enc Kd.rcd).dflt).hit, .int .i64 (p.l.getD (0 + x.1) (V.enc Kd.rcd).dflt).err]), (1, .arr 27 Kd.com (takesTo p.l x.1) x.2), (0, .ro Kd.rcd p.l)], nx := 4, nt := 25, tl := [2, 0, 1, 2, 3, 4, 5, 6, 7, 8] : St V })))) (Out.stop (EX.ex 0) {env := [(3, .sl false 1 0 4 (takesTo p.l x.1).length ((takesTo p.l x.1).length + x.2)), (9, .sl false 0 0 8 p.l.length p.2), (10, .int .i64 (↑p.l.length : Int)), (11, .int .i64 (↑x.1 : Int))], heap := [(1, .arr 27 Kd.com (takesTo p.l x.1) x.2), (0, .ro Kd.rcd p.l)], nx := 2, nt := 25, tl := [0, 1, 2, 3, 4, 5, 6, 7, 8] : St V }) := by kernel_rfl

theorem b12 (p : PC) (x : Nat × List (Int × Bool) × List (Int × Bool)) : runCode cfgF 40 12 (loopOf Try.f12 0) (I12 p x) (stopT (trimSt [0, 5, 6, 22, 23, 24] [0, 1, 2, 3])) = Out.ite (decide ((↑x.1 : Int) < (↑p.cs.length : Int))) (Out.need (0 ≤ (↑x.1 : Int) ∧ (↑x.1 : Int) < (↑p.cs.length : Int)) (Out.need (0 + x.1 < p.cs.length) (Out.ite ((p.cs.getD (0 + x.1) (V.enc Kd.cal).dflt).to_ != -1) (Out.stop EX.nx {env := [(0, .sl false 0 0 8 p.l.length p.2), (5, .mp 2), (6, .mp 3), (22, .sl false 1 0 5 p.cs.length (p.cs.length + p.4)), (23, .int .i64 (↑p.cs.length : Int)), (24, .int .i64 (IntKind.i64.wrap ((↑x.1 : Int) + 1)))], heap := [(3, .mp .i64 Kd.bool x.snd.snd), (2, .mp .i64 Kd.bool x.snd.fst), (1, .arr 35 Kd.cal p.cs p.4), (0, .ro Kd.rcd p.l)], nx := 6, nt := 70, tl := [4, 4, 0, 1, 2, 3, 4, 5, 6, 7, 8, 9, 10] : St V }) (Out.ite ((p.cs.getD (0 + x.1) (V.enc Kd.cal).dflt).at_ == -1) (Out.stop EX.nx {env := [(0, .sl false 0 0 8 p.l.length p.2), (5, .mp 2), (6, .mp 3), (22, .sl false 1 0 5 p.cs.length (p.cs.length + p.4)), (23, .int .i64 (↑p.cs.length : Int)), (24, .int .i64 (IntKind.i64.wrap ((↑x.1 : Int) + 1)))], heap := [(3, .mp .i64 Kd.bool x.snd.snd), (2, .mp .i64 Kd.bool (mput x.snd.fst (p.cs.getD (0 + x.1) (V.enc Kd.cal).dflt).frm true)), (1, .arr 35 Kd.cal p.cs p.4), (0, .ro Kd.rcd p.l)], nx := 7, nt := 70, tl := [4, 2, 4, 0, 1, 2, 3, 4, 5, 6, 7, 8, 9, 10] : St V }) (Out.stop EX.nx {env := [(0, .sl false 0 0 8 p.l.length p.2), (5, .mp 2), (6, .mp 3), (22, .sl false 1 0 5 p.cs.length (p.cs.length + p.4)), (23, .int .i64 (↑p.cs.length : Int)), (24, .int .i64 (IntKind.i64.wrap ((↑x.1 : Int) + 1)))], heap := [(3, .mp .i64 Kd.bool (mput x.snd.snd (p.cs.getD (0 + x.1) (V.enc Kd.cal).dflt).at_ true)), (2, .mp .i64 Kd.bool x.snd.fst), (1, .arr 35 Kd.cal p.cs p.4), (0, .ro Kd.rcd p.l)], nx := 7, nt := 70, tl := [4, 3, 4, 0, 1, 2, 3, 4, 5, 6, 7, 8, 9, 10] : St V }))))) (Out.stop (EX.ex 0) {env := [(0, .sl false 0 0 8 p.l.length p.2), (5, .mp 2), (6, .mp 3), (22, .sl false 1 0 5 p.cs.length (p.cs.length + p.4)), (23, .int .i64 (↑p.cs.length : Int)), (24, .int .i64 (↑x.1 : Int))], heap := [(3, .mp .i64 Kd.bool x.snd.snd), (2, .mp .i64 Kd.bool x.snd.fst), (1, .arr 35 Kd.cal p.cs p.4), (0, .ro Kd.rcd p.l)], nx := 4, nt := 70, tl := [0, 1, 2, 3, 4, 5, 6, 7, 8, 9, 10] : St V }) := by kernel_rfl

theorem c12 (p : PD) (x : Nat × Nat × Nat) : runCode cfgF 40 12 (loopOf Try.f12 3) (J12 p x) (stopT (trimSt [5, 6, 9, 10, 43, 44, 45] [0, 2, 3, 4, 5, 9, 10, 11, 12])) = Out.ite (decide ((↑x.1 : Int) < (↑p.l.length : Int))) (Out.need (0 ≤ (↑x.1 : Int) ∧ (↑x.1 : Int) < (↑p.l.length : Int)) (Out.need (0 + x.1 < p.l.length) (Out.ite (!(mget p.md (↑x.1 : Int)).getD (V.enc Kd.bool).dflt) (Out.need (0 = 0 ∧ (hOut p.l p.cs x.1).length = (hOut p.l p.cs x.1).length ∧ (hOut p.l p.cs x.1).length + x.snd.1 = (hOut p.l p.cs x.1).length + x.snd.1 ∧ ((hOut p.l p.cs x.1).length + 1) * 64 ≤ 140737488355328) (Out.all Nat fun y => Out.ite ((mget p.ml (↑x.1 : Int)).getD (V.enc Kd.bool).dflt) (Out.need (0 = 0 ∧ (hMore p.l p.cs x.1).length = (hMore p.l p.cs x.1).length ∧ (hMore p.l p.cs x.1).length + x.snd.2 = (hMore p.l p.cs x.1).length + x.snd.2 ∧ ((hMore p.l p.cs x.1).length + 1) * 64 ≤ 140737488355328) (Out.all Nat fun y_1 => Out.stop EX.nx {env := [(5, .mp 2), (6, .mp 3), (9, .sl false 9 0 8 ((hOut p.l p.cs x.1).length + 1) ((hOut p.l p.cs x.1).length + 1 + y)), (10, .sl false 12 0 8 ((hMore p.l p.cs x.1).length + 1) ((hMore p.l p.cs x.1).length + 1 + y_1)), (43, .sl false 0 0 8 p.l.length p.2), (44, .int .i64 (↑p.l.length : Int)), (45, .int .i64 (IntKind.i64.wrap ((↑x.1 : Int) + 1)))], heap := [(12, .arr 30 Kd.rcd (hMore p.l p.cs x.1 ++ [{thread := (p.l.getD (0 + x.1) (V.enc Kd.rcd).dflt).thread, op := (p.l.getD (0 + x.1) (V.enc Kd.rcd).dflt).op, what := 3, act := (p.l.getD (0 + x.1) (V.enc Kd.rcd).dflt).act, key := (p.l.getD (0 + x.1) (V.enc Kd.rcd).dflt).key, value := (p.l.getD (0 + x.1) (V.enc Kd.rcd).dflt).value, hit := (p.l.getD (0 + x.1) (V.enc Kd.rcd).dflt).hit, err := (p.l.getD (0 + x.1) (V.enc Kd.rcd).dflt).err : Rec }]) y_1), (11, .cells 30 [.int .i64 (p.l.getD (0 + x.1) (V.enc Kd.rcd).dflt).thread, .int .i64 (p.l.getD (0 + x.1) (V.enc Kd.rcd).dflt).op, .lit .i64 3, .int .i64 (p.l.getD (0 + x.1) (V.enc Kd.rcd).dflt).act, .int .i64 (p.l.getD (0 + x.1) (V.enc Kd.rcd).dflt).key, .int .i64 (p.l.getD (0 + x.1) (V.enc Kd.rcd).dflt).value, .bool (p.l.getD (0 + x.1) (V.enc Kd.rcd).dflt).hit, .int .i64 (p.l.getD (0 + x.1) (V.enc Kd.rcd).dflt).err]), (9, .arr 30 Kd.rcd (hOut p.l p.cs x.1 ++ [{thread := (p.l.getD (0 + x.1) (V.enc Kd.rcd).dflt).thread, op := (p.l.getD (0 + x.1) (V.enc Kd.rcd).dflt).op, what := (p.l.getD (0 + x.1) (V.enc Kd.rcd).dflt).what, act := (p.l.getD (0 + x.1) (V.enc Kd.rcd).dflt).act, key := (p.l.getD (0 + x.1) (V.enc Kd.rcd).dflt).key, value := (p.l.getD (0 + x.1) (V.enc Kd.rcd).dflt).value, hit := (p.l.getD (0 + x.1) (V.enc Kd.rcd).dflt).hit, err := (p.l.getD (0 + x.1) (V.enc Kd.rcd).dflt).err : Rec }]) y), (3, .mp .i64 Kd.bool p.ml), (2, .mp .i64 Kd.bool p.md), (0, .ro Kd.rcd p.l)], nx := 13, nt := 70, tl := [8, 6, 5, 6, 4, 6, 0, 1, 2, 3, 4, 5, 6, 7, 8, 9, 10, 11, 12, 13, 14, 15, 16, 17, 18] : St V })) (Out.stop EX.nx {env := [(5, .mp 2), (6, .mp 3), (9, .sl false 9 0 8 ((hOut p.l p.cs x.1).length + 1) ((hOut p.l p.cs x.1).length + 1 + y)), (10, .sl false 5 0 8 (hMore p.l p.cs x.1).length ((hMore p.l p.cs x.1).length + x.snd.2)), (43, .sl false 0 0 8 p.l.length p.2), (44, .int .i64 (↑p.l.length : Int)), (45, .int .i64 (IntKind.i64.wrap ((↑x.1 : Int) + 1)))], heap := [(9, .arr 30 Kd.rcd (hOut p.l p.cs x.1 ++ [{thread := (p.l.getD (0 + x.1) (V.enc Kd.rcd).dflt).thread, op := (p.l.getD (0 + x.1) (V.enc Kd.rcd).dflt).op, what := (p.l.getD (0 + x.1) (V.enc Kd.rcd).dflt).what, act := (p.l.getD (0 + x.1) (V.enc Kd.rcd).dflt).act, key := (p.l.getD (0 + x.1) (V.enc Kd.rcd).dflt).key, value := (p.l.getD (0 + x.1) (V.enc Kd.rcd).dflt).value, hit := (p.l.getD (0 + x.1) (V.enc Kd.rcd).dflt).hit, err := (p.l.getD (0 + x.1) (V.enc Kd.rcd).dflt).err : Rec }]) y), (5, .arr 30 Kd.rcd (hMore p.l p.cs x.1) x.snd.2), (3, .mp .i64 Kd.bool p.ml), (2, .mp .i64 Kd.bool p.md), (0, .ro Kd.rcd p.l)], nx := 10, nt := 70, tl := [8, 6, 4, 6, 0, 1, 2, 3, 4, 5, 6, 7, 8, 9, 10, 11, 12, 13, 14, 15, 16, 17, 18] : St V }))) (Out.ite ((mget p.ml (↑x.1 : Int)).getD (V.enc Kd.bool).dflt) (Out.need (0 = 0 ∧ (hMore p.l p.cs x.1).length = (hMore p.l p.cs x.1).length ∧ (hMore p.l p.cs x.1).length + x.snd.2 = (hMore p.l p.cs x.1).length + x.snd.2 ∧ ((hMore p.l p.cs x.1).length + 1) * 64 ≤ 140737488355328) (Out.all Nat fun y => Out.stop EX.nx {env := [(5, .mp 2), (6, .mp 3), (9, .sl false 4 0 8 (hOut p.l p.cs x.1).length ((hOut p.l p.cs x.1).length + x.snd.1)), (10, .sl false 10 0 8 ((hMore p.l p.cs x.1).length + 1) ((hMore p.l p.cs x.1).length + 1 + y)), (43, .sl false 0 0 8 p.l.length p.2), (44, .int .i64 (↑p.l.length : Int)), (45, .int .i64 (IntKind.i64.wrap ((↑x.1 : Int) + 1)))], heap := [(10, .arr 30 Kd.rcd (hMore p.l p.cs x.1 ++ [{thread := (p.l.getD (0 + x.1) (V.enc Kd.rcd).dflt).thread, op := (p.l.getD (0 + x.1) (V.enc Kd.rcd).dflt).op, what := 3, act := (p.l.getD (0 + x.1) (V.enc Kd.rcd).dflt).act, key := (p.l.getD (0 + x.1) (V.enc Kd.rcd).dflt).key, value := (p.l.getD (0 + x.1) (V.enc Kd.rcd).dflt).value, hit := (p.l.getD (0 + x.1) (V.enc Kd.rcd).dflt).hit, err := (p.l.getD (0 + x.1) (V.enc Kd.rcd).dflt).err : Rec }]) y), (9, .cells 30 [.int .i64 (p.l.getD (0 + x.1) (V.enc Kd.rcd).dflt).thread, .int .i64 (p.l.getD (0 + x.1) (V.enc Kd.rcd).dflt).op, .lit .i64 3, .int .i64 (p.l.getD (0 + x.1) (V.enc Kd.rcd).dflt).act, .int .i64 (p.l.getD (0 + x.1) (V.enc Kd.rcd).dflt).key, .int .i64 (p.l.getD (0 + x.1) (V.enc Kd.rcd).dflt).value, .bool (p.l.getD (0 + x.1) (V.enc Kd.rcd).dflt).hit, .int .i64 (p.l.getD (0 + x.1) (V.enc Kd.rcd).dflt).err]), (4, .arr 30 Kd.rcd (hOut p.l p.cs x.1) x.snd.1), (3, .mp .i64 Kd.bool p.ml), (2, .mp .i64 Kd.bool p.md), (0, .ro Kd.rcd p.l)], nx := 11, nt := 70, tl := [6, 5, 6, 6, 0, 1, 2, 3, 4, 5, 6, 7, 8, 9, 10, 11, 12, 13, 14, 15, 16, 17, 18] : St V })) (Out.stop EX.nx {env := [(5, .mp 2), (6, .mp 3), (9, .sl false 4 0 8 (hOut p.l p.cs x.1).length ((hOut p.l p.cs x.1).length + x.snd.1)), (10, .sl false 5 0 8 (hMore p.l p.cs x.1).length ((hMore p.l p.cs x.1).length + x.snd.2)), (43, .sl false 0 0 8 p.l.length p.2), (44, .int .i64 (↑p.l.length : Int)), (45, .int .i64 (IntKind.i64.wrap ((↑x.1 : Int) + 1)))], heap := [(4, .arr 30 Kd.rcd (hOut p.l p.cs x.1) x.snd.1), (5, .arr 30 Kd.rcd (hMore p.l p.cs x.1) x.snd.2), (3, .mp .i64 Kd.bool p.ml), (2, .mp .i64 Kd.bool p.md), (0, .ro Kd.rcd p.l)], nx := 8, nt := 70, tl := [6, 6, 0, 1, 2, 3, 4, 5, 6, 7, 8, 9, 10, 11, 12, 13, 14, 15, 16, 17, 18] : St V }))))) (Out.stop (EX.ex 3) {env := [(5, .mp 2), (6, .mp 3), (9, .sl false 4 0 8 (hOut p.l p.cs x.1).length ((hOut p.l p.cs x.1).length + x.snd.1)), (10, .sl false 5 0 8 (hMore p.l p.cs x.1).length ((hMore p.l p.cs x.1).length + x.snd.2)), (43, .sl false 0 0 8 p.l.length p.2), (44, .int .i64 (↑p.l.length : Int)), (45, .int .i64 (↑x.1 : Int))], heap := [(4, .arr 30 Kd.rcd (hOut p.l p.cs x.1) x.snd.1), (5, .arr 30 Kd.rcd (hMore p.l p.cs x.1) x.snd.2), (3, .mp .i64 Kd.bool p.ml), (2, .mp .i64 Kd.bool p.md), (0, .ro Kd.rcd p.l)], nx := 6, nt := 70, tl := [0, 1, 2, 3, 4, 5, 6, 7, 8, 9, 10, 11, 12, 13, 14, 15, 16, 17, 18] : St V }) := by kernel_rfl

theorem t12 (l : List Rec) (c : Nat) : runF cfgG 40 12 Try.f12 [.sl false 0 0 8 l.length c] [(0, .ro Kd.rcd l)] 1 = Out.need (0 + l.length ≤ l.length) (Out.need ((List.take l.length (List.drop 0 l)).length ≤ 1099511627776) (Out.ite (hRight (List.take l.length (List.drop 0 l))) (Out.all Nat fun y => Out.need (LoopFor Try.prog 12 0 (loopOf Try.f12 0) L12) (Out.ex (PC → Prop) fun y_1 => Out.need (4 ≤ 4 ∧ SImp 4 {env := [(0, .sl false 0 0 8 l.length c), (5, .mp 2), (6, .mp 3), (22, .sl false 1 0 5 (hCallsOf (List.take l.length (List.drop 0 l))).length ((hCallsOf (List.take l.length (List.drop 0 l))).length + y)), (23, .int .i64 (↑(hCallsOf (List.take l.length (List.drop 0 l))).length : Int)), (24, .lit .i64 0)], heap := [(3, .mp .i64 Kd.bool []), (2, .mp .i64 Kd.bool []), (1, .arr 35 Kd.cal (hCallsOf (List.take l.length (List.drop 0 l))) y), (0, .ro Kd.rcd l)], nx := 4, nt := 70, tl := [] : St V } (fun p => I12 p (0, [], [])) y_1) (Out.all PC fun y => Out.asm (y_1 y) (Out.all (List (Int × Bool) × List (Int × Bool)) fun y_2 => Out.asm ((fun p q => marks q.fst (dropTo p.cs p.cs.length) ∧ marks q.snd (lateTo p.cs p.cs.length)) y y_2) (Out.need (LoopFor Try.prog 12 3 (loopOf Try.f12 3) M12) (Out.ex (PD → Prop) fun y_3 => Out.need (4 ≤ 4 ∧ SImp 4 {env := [(5, .mp 2), (6, .mp 3), (9, .nilS), (10, .nilS), (43, .sl false 0 0 8 y.l.length y.2), (44, .int .i64 (↑y.l.length : Int)), (45, .lit .i64 0)], heap := [(3, .mp .i64 Kd.bool (y.cs.length, y_2).snd.snd), (2, .mp .i64 Kd.bool (y.cs.length, y_2).snd.fst), (0, .ro Kd.rcd y.l)], nx := 4, nt := 70, tl := [1, 0, 1, 2, 3, 4, 5, 6, 7, 8, 9, 10] : St V } (fun p => J12 p (0, 0, 0)) y_3) (Out.all PD fun y => Out.asm (y_3 y) (Out.all (Nat × Nat) fun y_4 => Out.asm ((fun x x_1 => True) y y_4) (Out.need (0 + (hMore y.l y.cs (y.l.length, y_4).fst).length ≤ (hMore y.l y.cs (y.l.length, y_4).fst).length) (Out.need (0 = 0 ∧ (hOut y.l y.cs (y.l.length, y_4).fst).length = (hOut y.l y.cs (y.l.length, y_4).fst).length ∧ (hOut y.l y.cs (y.l.length, y_4).fst).length + (y.l.length, y_4).snd.fst = (hOut y.l y.cs (y.l.length, y_4).fst).length + (y.l.length, y_4).snd.fst ∧ ((hOut y.l y.cs (y.l.length, y_4).fst).length + (List.take (hMore y.l y.cs (y.l.length, y_4).fst).length (List.drop 0 (hMore y.l y.cs (y.l.length, y_4).fst))).length) * 64 ≤ 140737488355328) (Out.all Nat fun y_5 => Out.fin (.sl false 6 0 8 ((hOut y.l y.cs (y.l.length, y_4).fst).length + (List.take (hMore y.l y.cs (y.l.length, y_4).fst).length (List.drop 0 (hMore y.l y.cs (y.l.length, y_4).fst))).length) ((hOut y.l y.cs (y.l.length, y_4).fst).length + (List.take (hMore y.l y.cs (y.l.length, y_4).fst).length (List.drop 0 (hMore y.l y.cs (y.l.length, y_4).fst))).length + y_5)) [(6, .arr 30 Kd.rcd (hOut y.l y.cs (y.l.length, y_4).fst ++ List.take (hMore y.l y.cs (y.l.length, y_4).fst).length (List.drop 0 (hMore y.l y.cs (y.l.length, y_4).fst))) y_5), (5, .arr 30 Kd.rcd (hMore y.l y.cs (y.l.length, y_4).fst) (y.l.length, y_4).snd.snd), (3, .mp .i64 Kd.bool y.ml), (2, .mp .i64 Kd.bool y.md), (0, .ro Kd.rcd y.l)] 7))))))))))) (Out.fin .nilS [(0, .ro Kd.rcd l)] 1))) := by kernel_rfl

theorem t23 (l : List Rec) (c : Nat) : runF cfgG 40 23 Try.f23 [.sl false 0 0 8 l.length c] [(0, .ro Kd.rcd l)] 1 = Out.need (0 + l.length ≤ l.length) (Out.need ((List.take l.length (List.drop 0 l)).length ≤ 1099511627776) (Out.ite (!hRight (List.take l.length (List.drop 0 l))) (Out.fin .nilS [(0, .ro Kd.rcd l)] 1) (Out.need (LoopFor Try.prog 23 0 (loopOf Try.f23 0) L23) (Out.ex (PL → Prop) fun y => Out.need (1 ≤ 1 ∧ SImp 1 {env := [(3, .nilS), (9, .sl false 0 0 8 l.length c), (10, .int .i64 (↑l.length : Int)), (11, .lit .i64 0)], heap := [(0, .ro Kd.rcd l)], nx := 1, nt := 25, tl := [] : St V } (fun p => I23 p (0, 0)) y) (Out.all PL fun y_1 => Out.asm (y y_1) (Out.all Nat fun y => Out.asm ((fun x x_1 => True) y_1 y) (Out.fin (.sl false 1 0 4 (takesTo y_1.l (y_1.l.length, y).fst).length ((takesTo y_1.l (y_1.l.length, y).fst).length + y)) [(1, .arr 27 Kd.com (takesTo y_1.l (y_1.l.length, y).fst) y), (0, .ro Kd.rcd y_1.l)] 2))))))) := by kernel_rfl

theorem t25 (l : List Rec) (c : Nat) : runF cfgG 40 25 Try.f25 [.sl false 0 0 8 l.length c] [(0, .ro Kd.rcd l)] 1 = Out.need (0 + l.length ≤ l.length) (Out.need ((List.take l.length (List.drop 0 l)).length ≤ 1099511627776) (Out.all Nat fun y => Out.need (LoopFor Try.prog 25 0 (loopOf Try.f25 0) L25) (Out.ex (PC → Prop) fun y_1 => Out.need (2 ≤ 2 ∧ SImp 2 {env := [(3, .lit .i64 0), (7, .sl false 1 0 5 (hCallsOf (List.take l.length (List.drop 0 l))).length ((hCallsOf (List.take l.length (List.drop 0 l))).length + y)), (8, .int .i64 (↑(hCallsOf (List.take l.length (List.drop 0 l))).length : Int)), (9, .lit .i64 0)], heap := [(1, .arr 35 Kd.cal (hCallsOf (List.take l.length (List.drop 0 l))) y), (0, .ro Kd.rcd l)], nx := 2, nt := 20, tl := [] : St V } (fun p => I25 p 0) y_1) (Out.all PC fun y => Out.asm (y_1 y) (Out.all Unit fun y_2 => Out.asm ((fun x x_1 => True) y y_2) (Out.fin (.int .i64 (↑(leftTo y.cs y.cs.length) : Int)) [(1, .arr 35 Kd.cal y.cs y.4), (0, .ro Kd.rcd y.l)] 2)))))) := by kernel_rfl

end Sx
end Go.Proofs.Ytemcdjdglcceiaa

/-
  What the functions over records tell.
-/
namespace Go.Proofs.Ytemcdjdglcceiaa
namespace Sx
open Go
set_option linter.unusedSimpArgs false
set_option linter.unusedVariables false

theorem hooksE_ok : ∀ g H, hooksE g = some H → HookOk Try.prog g H := by
  intro g H h
  unfold hooksE at h
  split at h <;> cases h
  · exact hCallsHook
  · exact hRecords
  · exact hComs
  · exact hSame
theorem cfgE_ok : cfgE.ok := ⟨tab_met, kinds_met, mixed_met, fun g fn h => (by cases h), hooksE_ok⟩

theorem hRightHook : HookOk Try.prog 19 (hookFree [.rows Kd.rcd] runRight) := by
  refine free_hook (C := cfgE) cfgE_ok (n := 40) (fn := Try.f19) ⟨by kernel_rfl, by kernel_rfl⟩ (by kernel_rfl) ?_
  intro M ar K0 H
  unfold runRight at H
  split at H
  · rename_i l c
    obtain ⟨hb, H⟩ := H
    refine ⟨show 1 ≤ _ by decide +kernel, ?_⟩
    show (runF cfgE 40 19 Try.f19 [.sl false 0 0 8 l.length c] [(0, .ro Kd.rcd l)] 1).holds _
    rw [t19]
    simp only [List.drop_zero, List.take_length]
    exact ⟨by omega, hb, fun h => fun _ => ⟨_, _, H, endPlain (AV.sub_tt h) rfl⟩, fun h => ⟨_, _, H, endPlain (AV.sub_ff h) rfl⟩⟩
  · exact H.elim
theorem not_right {l : List Rec} (h : hRight l = false) : hCallsOf l = [] := by
  unfold hRight at h
  unfold hCallsOf
  cases e : hCalls l with
  | none => rfl
  | some cs => rw [e] at h; cases h
theorem hCallsOfHook : HookOk Try.prog 15 (hookFree [.rows Kd.rcd] runCallsOf) := by
  refine free_hook (C := cfgE) cfgE_ok (n := 40) (fn := Try.f15) ⟨by kernel_rfl, by kernel_rfl⟩ (by kernel_rfl) ?_
  intro M ar K0 H
  unfold runCallsOf at H
  split at H
  · rename_i l c
    obtain ⟨hb, H⟩ := H
    refine ⟨show 1 ≤ _ by decide +kernel, ?_⟩
    show (runF cfgE 40 15 Try.f15 [.sl false 0 0 8 l.length c] [(0, .ro Kd.rcd l)] 1).holds _
    rw [t15]
    simp only [List.drop_zero, List.take_length]
    refine ⟨by omega, hb, fun h => fun sp => ⟨_, _, H sp, _, HImp.refl _ _, ⟨⟨fun _ => 1, ⟨.same _, trivial⟩, AV.sub_same _⟩, rfl, rfl⟩⟩, fun h => ?_⟩
    have h0 := H 0
    rw [not_right h] at h0
    exact ⟨_, _, h0, _, HImp.refl _ _, ⟨⟨fun _ => 99, ⟨.none _ _, trivial⟩, AV.sub_nilS⟩, rfl, rfl⟩⟩
  · exact H.elim
theorem hBeforeHook : HookOk Try.prog 17 (hookFree [.el Kd.cal, .el Kd.cal] runBefore) := by
  refine free_hook (C := cfgE) cfgE_ok (n := 40) (fn := Try.f17) ⟨by kernel_rfl, by kernel_rfl⟩ (by kernel_rfl) ?_
  intro M ar K0 H
  unfold runBefore at H
  split at H
  · rename_i a b
    refine ⟨show 2 ≤ _ by decide +kernel, ?_⟩
    show (runF cfgE 40 17 Try.f17 [.agg (Cal.lay.enc a), .agg (Cal.lay.enc b)] [] 2).holds _
    rw [t17]
    refine ⟨fun h => ⟨_, _, H, endPlain (AV.sub_bool ?_) rfl⟩, fun h => ⟨_, _, H, endPlain (AV.sub_ff ?_) rfl⟩⟩
    · unfold hBefore; rw [h, Bool.true_and]
    · unfold hBefore; rw [h, Bool.false_and]
  · exact H.elim
theorem hooksF_ok : ∀ g H, hooksF g = some H → HookOk Try.prog g H := by
  intro g H h
  unfold hooksF at h
  split at h
  · cases h; exact hRightHook
  · cases h; exact hCallsOfHook
  · cases h; exact hBeforeHook
  · exact hooksE_ok _ H h
theorem cfgF_ok : cfgF.ok := ⟨tab_met, kinds_met, mixed_met, fun g fn h => (by cases h), hooksF_ok⟩
theorem cfgG_ok : cfgG.ok := ⟨tab_met, kinds_met, mixed_met, fun g fn h => (by cases h), hooksF_ok⟩

/-! ## Left -/
theorem getD_el {α : Type} {l : List α} {i : Nat} (d : α) (h : i < l.length) : l.getD i d = l[i] := by rw [List.getD_eq_getElem?_getD, List.getElem?_eq_getElem h]; rfl
theorem leftTo_succ {cs : List Cal} {i : Nat} (h : i < cs.length) : leftTo cs (i + 1) = leftTo cs i + if (cs.getD i c0).to_ = -1 then 1 else 0 := by
  unfold leftTo hLeftOf
  rw [List.take_succ_eq_append_getElem h, List.filter_append, List.length_append, getD_el c0 h]
  congr 1
  by_cases e : (cs[i]).to_ = -1 <;> simp [e]
theorem leftTo_le (cs : List Cal) (i : Nat) : leftTo cs i ≤ cs.length := by
  unfold leftTo hLeftOf
  exact Nat.le_trans (List.length_filter_le _ _) (by rw [List.length_take]; omega)
theorem body25 (p : PC) (i : Nat) (hi : i ≤ p.cs.length) (Q : EX → St V → Prop) (F : AV → Heap V → Nat → Prop)
    (hnx : ∀ ST : St V, i < p.cs.length → Wk 2 [] ST (I25 p (i + 1)) → Q .nx ST) (hex : ∀ ST : St V, i = p.cs.length → Wk 2 [] ST (I25 p i) → Q (.ex 0) ST) :
    (runCode cfgF 40 25 (loopOf Try.f25 0) (I25 p i) (stopT (trimSt [3, 7, 8, 9] [0, 1]))).holds ⟨Q, F⟩ := by
  rw [b25]
  have hb := p.hb
  have hle := leftTo_le p.cs i
  have hw : i < p.cs.length → IntKind.wrap .i64 ((i : Int) + 1) = ((i + 1 : Nat) : Int) := fun h => wrap_nat (by omega)
  have hs : i < p.cs.length → leftTo p.cs (i + 1) = leftTo p.cs i + if (p.cs.getD i (V.enc Kd.cal).dflt).to_ = -1 then 1 else 0 := leftTo_succ
  have hv : IntKind.wrap .i64 ((leftTo p.cs i : Int) + 1) = ((leftTo p.cs i + 1 : Nat) : Int) := wrap_nat (by omega)
  simp only [Out.holds, Nat.zero_add, decide_eq_true_eq, decide_eq_false_iff_not, beq_iff_eq, beq_eq_false_iff_ne]
  refine ⟨fun h => ⟨by omega, by omega, fun h2 => hnx _ (by omega) ?_, fun h2 => hnx _ (by omega) ?_⟩, fun h => hex _ (by omega) ?_⟩
  · exact ⟨⟨AV.sub_int (by rw [hv, hs (by omega), if_pos h2]), AV.sub_same _, AV.sub_same _, AV.sub_int (hw (by omega)), trivial⟩, ⟨.same _, .same _, trivial⟩, rfl, tl_ok rfl, ⟨.inr rfl, .inr rfl, trivial⟩, ⟨Nat.le_of_ble_eq_true rfl, rfl⟩⟩
  · exact ⟨⟨AV.sub_int (by rw [hs (by omega), if_neg h2]; rfl), AV.sub_same _, AV.sub_same _, AV.sub_int (hw (by omega)), trivial⟩, ⟨.same _, .same _, trivial⟩, rfl, tl_ok rfl, ⟨.inr rfl, .inr rfl, trivial⟩, ⟨Nat.le_of_ble_eq_true rfl, rfl⟩⟩
  · exact ⟨⟨AV.sub_same _, AV.sub_same _, AV.sub_same _, AV.sub_same _, trivial⟩, ⟨.same _, .same _, trivial⟩, rfl, tl_ok rfl, ⟨.inr rfl, .inr rfl, trivial⟩, ⟨Nat.le_of_ble_eq_true rfl, rfl⟩⟩
theorem l25_ok : LoopOk Try.prog 0 (loopOf Try.f25 0) L25 := by
  refine trimLoop_ok (trim_ok _ _) (loopTH_ok (C := cfgF) cfgF_ok (f := 25) (n := 40) (trim_ok [3, 7, 8, 9] [0, 1]) 2 I25 (fun p i => i ≤ p.cs.length) (fun _ => 0) (fun p i => p.cs.length - i) (fun _ (_ : Unit) => True) (fun p _ => I25 p p.cs.length) (fun p => Nat.zero_le _) ?_)
  intro p i hi
  exact body25 p i hi _ _ (fun ST hlt hw => SImp.of_wk (i + 1) hw ⟨hlt, by omega⟩) (fun ST he hw => ⟨rfl, SImp.of_wk () (by subst he; exact hw) trivial⟩)
def runLeft : RunFree V := fun ar K => match ar with
  | [.rows .rcd l c] => .need (l.length ≤ 1099511627776) (K (.int .i64 (hLeft l : Int)) [])
  | _ => .bad 500
theorem calls_len (l : List Rec) : (hCallsOf l).length ≤ l.length := by
  unfold hCallsOf hCalls
  cases e : readTo l l.length with
  | none => exact Nat.zero_le _
  | some s => exact (readTo_weak e).len
theorem hLeftHook : HookOk Try.prog 25 (hookFree [.rows Kd.rcd] runLeft) := by
  refine free_hook (C := cfgG) cfgG_ok (n := 40) (fn := Try.f25) ⟨by kernel_rfl, by kernel_rfl⟩ (by kernel_rfl) ?_
  intro M ar K0 H
  unfold runLeft at H
  split at H
  · rename_i l c
    obtain ⟨hb, H⟩ := H
    refine ⟨show 1 ≤ _ by decide +kernel, ?_⟩
    show (runF cfgG 40 25 Try.f25 [.sl false 0 0 8 l.length c] [(0, .ro Kd.rcd l)] 1).holds _
    rw [t25]
    simp only [List.drop_zero, List.take_length]
    have hcl := calls_len l
    refine ⟨by omega, hb, fun sp => ⟨l25_ok, fun p => p = ⟨l, c, hCallsOf l, sp, by omega⟩, ⟨Nat.le_refl _, SImp.of_wk (ren := []) ⟨l, c, hCallsOf l, sp, by omega⟩ ?_ rfl⟩, ?_⟩⟩
    · exact ⟨⟨AV.sub_lit rfl, AV.sub_same _, AV.sub_same _, AV.sub_lit', trivial⟩, ⟨.same _, .same _, trivial⟩, rfl, tl_ok rfl, ⟨.inr rfl, .inr rfl, trivial⟩, ⟨Nat.le_of_ble_eq_true rfl, rfl⟩⟩
    · rintro _ rfl _ _
      refine ⟨_, _, H, endPlain (AV.sub_int ?_) rfl⟩
      unfold hLeft leftTo
      rw [List.take_length]
  · exact H.elim

/-! ## Commits -/
theorem takesTo_succ {l : List Rec} {i : Nat} (h : i < l.length) : takesTo l (i + 1) = takesTo l i ++ if (l.getD i r0).what = 2 then [(l.getD i r0).com] else [] := by
  unfold takesTo
  rw [List.take_succ_eq_append_getElem h, List.filter_append, List.map_append, getD_el r0 h]
  congr 1
  by_cases e : (l[i]).what = 2 <;> simp [e]
theorem takesTo_le (l : List Rec) (i : Nat) : (takesTo l i).length ≤ l.length := by
  unfold takesTo
  rw [List.length_map]
  exact Nat.le_trans (List.length_filter_le _ _) (by rw [List.length_take]; omega)
theorem body23 (p : PL) (x : Nat × Nat) (hi : x.1 ≤ p.l.length) (Q : EX → St V → Prop) (F : AV → Heap V → Nat → Prop)
    (hnx : ∀ (ST : St V) (sp b : Nat), x.1 < p.l.length → Wk 1 [(1, b)] ST (I23 p (x.1 + 1, sp)) → Q .nx ST) (hex : ∀ ST : St V, x.1 = p.l.length → Wk 1 [(1, 1)] ST (I23 p x) → Q (.ex 0) ST) :
    (runCode cfgF 40 23 (loopOf Try.f23 0) (I23 p x) (stopT (trimSt [3, 9, 10, 11] [0, 1, 2, 3, 4, 5, 6]))).holds ⟨Q, F⟩ := by
  rw [b23]
  have hb := p.hb
  have hle := takesTo_le p.l x.1
  have hw : x.1 < p.l.length → IntKind.wrap .i64 ((x.1 : Int) + 1) = ((x.1 + 1 : Nat) : Int) := fun h => wrap_nat (by omega)
  have hs : x.1 < p.l.length → takesTo p.l (x.1 + 1) = takesTo p.l x.1 ++ if (p.l.getD x.1 (V.enc Kd.rcd).dflt).what = 2 then [(p.l.getD x.1 (V.enc Kd.rcd).dflt).com] else [] := takesTo_succ
  simp only [Out.holds, Nat.zero_add, decide_eq_true_eq, decide_eq_false_iff_not, beq_iff_eq, beq_eq_false_iff_ne]
  refine ⟨fun h => ⟨by omega, by omega, fun h2 => ⟨⟨trivial, trivial, trivial, by omega⟩, fun y => hnx _ y 5 (by omega) ?_⟩, fun h2 => hnx _ x.2 1 (by omega) ?_⟩, fun h => hex _ (by omega) ?_⟩
  · have e := hs (by omega)
    rw [if_pos h2] at e
    have el : (takesTo p.l x.1).length + 1 = (takesTo p.l (x.1 + 1)).length := by rw [e]; simp
    exact ⟨⟨AV.sub_sl el (by rw [el]), AV.sub_same _, AV.sub_same _, AV.sub_int (hw (by omega)), trivial⟩, ⟨BSub.of_eq (congrArg (fun z => some (Blk.arr 27 Kd.com z y : Blk V)) e.symm), .same _, trivial⟩, rfl, tl_ok rfl, ⟨.inl (in_ok rfl), .inl (in_ok rfl), .inl (in_ok rfl), .inr rfl, trivial⟩, ⟨Nat.le_of_ble_eq_true rfl, rfl⟩⟩
  · have e := hs (by omega)
    rw [if_neg h2, List.append_nil] at e
    exact ⟨⟨AV.sub_sl (by rw [e]) (by rw [e]), AV.sub_same _, AV.sub_same _, AV.sub_int (hw (by omega)), trivial⟩, ⟨BSub.of_eq (congrArg (fun z => some (Blk.arr 27 Kd.com z x.2 : Blk V)) e.symm), .same _, trivial⟩, rfl, tl_ok rfl, ⟨.inl (in_ok rfl), .inl (in_ok rfl), .inr rfl, trivial⟩, ⟨Nat.le_of_ble_eq_true rfl, rfl⟩⟩
  · exact ⟨⟨AV.sub_same _, AV.sub_same _, AV.sub_same _, AV.sub_same _, trivial⟩, ⟨.same _, .same _, trivial⟩, rfl, tl_ok rfl, ⟨.inl (in_ok rfl), .inr rfl, trivial⟩, ⟨Nat.le_of_ble_eq_true rfl, rfl⟩⟩
theorem l23_ok : LoopOk Try.prog 0 (loopOf Try.f23 0) L23 := by
  refine trimLoop_ok (trim_ok _ _) (loopTH_ok (C := cfgF) cfgF_ok (f := 23) (n := 40) (trim_ok [3, 9, 10, 11] [0, 1, 2, 3, 4, 5, 6]) 1 I23 (fun p x => x.1 ≤ p.l.length) (fun _ => (0, 0)) (fun p x => p.l.length - x.1) (fun _ (_ : Nat) => True) (fun p sp => I23 p (p.l.length, sp)) (fun p => Nat.zero_le _) ?_)
  intro p x hi
  refine body23 p x hi _ _ (fun ST sp b hlt hw => SImp.of_wk (x.1 + 1, sp) hw ⟨hlt, ?_⟩) (fun ST he hw => ⟨rfl, SImp.of_wk (ren := [(1, 1)]) x.2 ?_ trivial⟩)
  · show p.l.length - (x.1 + 1) < p.l.length - x.1; omega
  · obtain ⟨i, x⟩ := x; simp only at he; subst he; exact hw
def runCommits : RunFree V := fun ar K => match ar with
  | [.rows .rcd l c] => .need (l.length ≤ 1099511627776) (.all Nat fun sp => K (.sl false 0 0 4 (hCommits l).length ((hCommits l).length + sp)) [.arr 27 Kd.com (hCommits l) sp])
  | _ => .bad 500
theorem hCommitsHook : HookOk Try.prog 23 (hookFree [.rows Kd.rcd] runCommits) := by
  refine free_hook (C := cfgG) cfgG_ok (n := 40) (fn := Try.f23) ⟨by kernel_rfl, by kernel_rfl⟩ (by kernel_rfl) ?_
  intro M ar K0 H
  unfold runCommits at H
  split at H
  · rename_i l c
    obtain ⟨hb, H⟩ := H
    refine ⟨show 1 ≤ _ by decide +kernel, ?_⟩
    show (runF cfgG 40 23 Try.f23 [.sl false 0 0 8 l.length c] [(0, .ro Kd.rcd l)] 1).holds _
    rw [t23]
    simp only [List.drop_zero, List.take_length]
    refine ⟨by omega, hb, fun h => ?_, fun h => ⟨l23_ok, fun p => p = ⟨l, c, hb⟩, ⟨Nat.le_refl _, SImp.of_wk (ren := [(1, 99)]) ⟨l, c, hb⟩ ?_ rfl⟩, ?_⟩⟩
    · have h0 := H 0
      have e : hCommits l = [] := by unfold hCommits; rw [if_neg (by simpa using h)]
      rw [e] at h0
      exact ⟨_, _, h0, _, HImp.refl _ _, ⟨⟨fun _ => 99, ⟨.none _ _, trivial⟩, AV.sub_nilS⟩, rfl, rfl⟩⟩
    · exact ⟨⟨AV.sub_nilS, AV.sub_same _, AV.sub_same _, AV.sub_lit', trivial⟩, ⟨.none _ _, .same _, trivial⟩, rfl, tl_ok rfl, ⟨.inr rfl, trivial⟩, ⟨Nat.le_of_ble_eq_true rfl, rfl⟩⟩
    · rintro _ rfl sp _
      have e : takesTo l l.length = hCommits l := by unfold takesTo hCommits; rw [List.take_length, if_pos (by simpa using h)]
      have h0 := H sp
      rw [← e] at h0
      exact ⟨_, _, h0, _, HImp.refl _ _, ⟨⟨fun _ => 1, ⟨.same _, trivial⟩, AV.sub_same _⟩, rfl, rfl⟩⟩
  · exact H.elim

end Sx
end Go.Proofs.Ytemcdjdglcceiaa

/-
  What Complete does.
-/
namespace Go.Proofs.Ytemcdjdglcceiaa
namespace Sx
open Go
set_option linter.unusedSimpArgs false
set_option linter.unusedVariables false

theorem dropTo_succ {cs : List Cal} {i : Nat} (h : i < cs.length) (k : Int) : dropTo cs (i + 1) k = (dropTo cs i k || decide ((cs.getD i c0).to_ = -1 ∧ (cs.getD i c0).at_ = -1 ∧ (cs.getD i c0).frm = k)) := by
  unfold dropTo
  rw [List.take_succ_eq_append_getElem h, List.any_append, getD_el c0 h]
  simp
theorem lateTo_succ {cs : List Cal} {i : Nat} (h : i < cs.length) (k : Int) : lateTo cs (i + 1) k = (lateTo cs i k || decide ((cs.getD i c0).to_ = -1 ∧ (cs.getD i c0).at_ ≠ -1 ∧ (cs.getD i c0).at_ = k)) := by
  unfold lateTo
  rw [List.take_succ_eq_append_getElem h, List.any_append, getD_el c0 h]
  simp
theorem marks_keep {m : List (Int × Bool)} {f g : Int → Bool} (h : marks m f) (e : ∀ k, g k = f k) : marks m g := fun k => by rw [h k, e k]
theorem marks_put {m : List (Int × Bool)} {f g : Int → Bool} {n : Int} (h : marks m f) (e : ∀ k, g k = (f k || decide (n = k))) : marks (mput m n true) g := fun k => by
  rw [mget_put, h k, e k]
  by_cases hk : k = n
  · subst hk; simp
  · rw [if_neg hk]
    have : ¬ n = k := fun hh => hk hh.symm
    simp [this]

theorem body12 (p : PC) (x : Nat × List (Int × Bool) × List (Int × Bool)) (hi : x.1 ≤ p.cs.length) (h1 : marks x.2.1 (dropTo p.cs x.1)) (h2 : marks x.2.2 (lateTo p.cs x.1)) (Q : EX → St V → Prop) (F : AV → Heap V → Nat → Prop)
    (hnx : ∀ (ST : St V) (md ml : List (Int × Bool)), x.1 < p.cs.length → marks md (dropTo p.cs (x.1 + 1)) → marks ml (lateTo p.cs (x.1 + 1)) → Wk 4 [] ST (I12 p (x.1 + 1, md, ml)) → Q .nx ST) (hex : ∀ ST : St V, x.1 = p.cs.length → Wk 4 [] ST (I12 p x) → Q (.ex 0) ST) :
    (runCode cfgF 40 12 (loopOf Try.f12 0) (I12 p x) (stopT (trimSt [0, 5, 6, 22, 23, 24] [0, 1, 2, 3]))).holds ⟨Q, F⟩ := by
  rw [b12]
  have hb := p.hb
  have hw : x.1 < p.cs.length → IntKind.wrap .i64 ((x.1 : Int) + 1) = ((x.1 + 1 : Nat) : Int) := fun h => wrap_nat (by omega)
  simp only [Out.holds, Nat.zero_add, decide_eq_true_eq, decide_eq_false_iff_not, beq_iff_eq, beq_eq_false_iff_ne, bne_iff_ne, bne_eq_false_iff_eq]
  have hD : x.1 < p.cs.length → ∀ k, dropTo p.cs (x.1 + 1) k = (dropTo p.cs x.1 k || decide ((p.cs.getD x.1 (V.enc Kd.cal).dflt).to_ = -1 ∧ (p.cs.getD x.1 (V.enc Kd.cal).dflt).at_ = -1 ∧ (p.cs.getD x.1 (V.enc Kd.cal).dflt).frm = k)) := fun h k => dropTo_succ h k
  have hL : x.1 < p.cs.length → ∀ k, lateTo p.cs (x.1 + 1) k = (lateTo p.cs x.1 k || decide ((p.cs.getD x.1 (V.enc Kd.cal).dflt).to_ = -1 ∧ (p.cs.getD x.1 (V.enc Kd.cal).dflt).at_ ≠ -1 ∧ (p.cs.getD x.1 (V.enc Kd.cal).dflt).at_ = k)) := fun h k => lateTo_succ h k
  generalize p.cs.getD x.1 (V.enc Kd.cal).dflt = c at hD hL
  refine ⟨fun h => ⟨by omega, by omega, fun h3 => hnx _ x.2.1 x.2.2 (by omega) (marks_keep h1 fun k => ?_) (marks_keep h2 fun k => ?_) ?_, fun h3 => ⟨fun h4 => hnx _ (mput x.2.1 c.frm true) x.2.2 (by omega) (marks_put h1 fun k => ?_) (marks_keep h2 fun k => ?_) ?_, fun h4 => hnx _ x.2.1 (mput x.2.2 c.at_ true) (by omega) (marks_keep h1 fun k => ?_) (marks_put h2 fun k => ?_) ?_⟩⟩, fun h => hex _ (by omega) ?_⟩
  · rw [hD (by omega)]; simp [h3]
  · rw [hL (by omega)]; simp [h3]
  · exact ⟨⟨AV.sub_same _, AV.sub_same _, AV.sub_same _, AV.sub_same _, AV.sub_same _, AV.sub_int (hw (by omega)), trivial⟩, ⟨.same _, .same _, .same _, .same _, trivial⟩, rfl, tl_ok rfl, ⟨.inl (in_ok rfl), .inl (in_ok rfl), .inr rfl, .inr rfl, trivial⟩, ⟨Nat.le_of_ble_eq_true rfl, rfl⟩⟩
  · rw [hD (by omega)]; simp [h3, h4]
  · rw [hL (by omega)]; simp [h3, h4]
  · exact ⟨⟨AV.sub_same _, AV.sub_same _, AV.sub_same _, AV.sub_same _, AV.sub_same _, AV.sub_int (hw (by omega)), trivial⟩, ⟨.same _, .same _, .same _, .same _, trivial⟩, rfl, tl_ok rfl, ⟨.inl (in_ok rfl), .inl (in_ok rfl), .inr rfl, .inr rfl, trivial⟩, ⟨Nat.le_of_ble_eq_true rfl, rfl⟩⟩
  · rw [hD (by omega)]; simp [h3, h4]
  · rw [hL (by omega)]; simp [h3, h4]
  · exact ⟨⟨AV.sub_same _, AV.sub_same _, AV.sub_same _, AV.sub_same _, AV.sub_same _, AV.sub_int (hw (by omega)), trivial⟩, ⟨.same _, .same _, .same _, .same _, trivial⟩, rfl, tl_ok rfl, ⟨.inl (in_ok rfl), .inl (in_ok rfl), .inr rfl, .inr rfl, trivial⟩, ⟨Nat.le_of_ble_eq_true rfl, rfl⟩⟩
  · exact ⟨⟨AV.sub_same _, AV.sub_same _, AV.sub_same _, AV.sub_same _, AV.sub_same _, AV.sub_same _, trivial⟩, ⟨.same _, .same _, .same _, .same _, trivial⟩, rfl, tl_ok rfl, ⟨.inl (in_ok rfl), .inl (in_ok rfl), .inr rfl, .inr rfl, trivial⟩, ⟨Nat.le_of_ble_eq_true rfl, rfl⟩⟩
theorem l12_ok : LoopOk Try.prog 0 (loopOf Try.f12 0) L12 := by
  refine trimLoop_ok (trim_ok _ _) (loopTH_ok (C := cfgF) cfgF_ok (f := 12) (n := 40) (trim_ok [0, 5, 6, 22, 23, 24] [0, 1, 2, 3]) 4 I12 (fun p x => x.1 ≤ p.cs.length ∧ marks x.2.1 (dropTo p.cs x.1) ∧ marks x.2.2 (lateTo p.cs x.1)) (fun _ => (0, [], [])) (fun p x => p.cs.length - x.1)
    (fun p (q : List (Int × Bool) × List (Int × Bool)) => marks q.1 (dropTo p.cs p.cs.length) ∧ marks q.2 (lateTo p.cs p.cs.length)) (fun p q => I12 p (p.cs.length, q)) (fun p => ⟨Nat.zero_le _, fun k => rfl, fun k => rfl⟩) ?_)
  intro p x ⟨hi, h1, h2⟩
  refine body12 p x hi h1 h2 _ _ (fun ST md ml hlt k1 k2 hw => SImp.of_wk (x.1 + 1, md, ml) hw ⟨⟨hlt, k1, k2⟩, ?_⟩) (fun ST he hw => ⟨rfl, SImp.of_wk (ren := []) x.2 ?_ ?_⟩)
  · show p.cs.length - (x.1 + 1) < p.cs.length - x.1; omega
  · obtain ⟨i, x⟩ := x; simp only at he; subst he; exact hw
  · rw [← he]; exact ⟨h1, h2⟩

theorem hOut_succ (l : List Rec) (cs : List Cal) (i : Nat) : hOut l cs (i + 1) = hOut l cs i ++ if hDrop cs i = true then [] else [l.getD i r0] := by
  unfold hOut
  rw [List.range_succ, List.filter_append, List.map_append]
  congr 1
  cases h : hDrop cs i <;> simp [h]
theorem hMore_succ (l : List Rec) (cs : List Cal) (i : Nat) : hMore l cs (i + 1) = hMore l cs i ++ if hLate cs i = true then [{ l.getD i r0 with what := 3 }] else [] := by
  unfold hMore
  rw [List.range_succ, List.filter_append, List.map_append]
  congr 1
  cases h : hLate cs i <;> simp [h]
theorem hOut_le (l : List Rec) (cs : List Cal) (i : Nat) : (hOut l cs i).length ≤ i := by
  unfold hOut
  rw [List.length_map]
  exact Nat.le_trans (List.length_filter_le _ _) (by simp)
theorem hMore_le (l : List Rec) (cs : List Cal) (i : Nat) : (hMore l cs i).length ≤ i := by
  unfold hMore
  rw [List.length_map]
  exact Nat.le_trans (List.length_filter_le _ _) (by simp)

theorem bodyc12 (p : PD) (x : Nat × Nat × Nat) (hi : x.1 ≤ p.l.length) (Q : EX → St V → Prop) (F : AV → Heap V → Nat → Prop)
    (hnx : ∀ (ST : St V) (a b c d : Nat), x.1 < p.l.length → Wk 4 [(4, c), (5, d)] ST (J12 p (x.1 + 1, a, b)) → Q .nx ST) (hex : ∀ ST : St V, x.1 = p.l.length → Wk 4 [(4, 4), (5, 5)] ST (J12 p x) → Q (.ex 3) ST) :
    (runCode cfgF 40 12 (loopOf Try.f12 3) (J12 p x) (stopT (trimSt [5, 6, 9, 10, 43, 44, 45] [0, 2, 3, 4, 5, 9, 10, 11, 12]))).holds ⟨Q, F⟩ := by
  rw [c12]
  have hb := p.hb
  have ho := hOut_le p.l p.cs x.1
  have hm := hMore_le p.l p.cs x.1
  have hw : x.1 < p.l.length → IntKind.wrap .i64 ((x.1 : Int) + 1) = ((x.1 + 1 : Nat) : Int) := fun h => wrap_nat (by omega)
  have eD : (mget p.md (x.1 : Int)).getD (V.enc Kd.bool).dflt = hDrop p.cs x.1 := by
    rw [p.hd]; unfold dropTo hDrop; rw [List.take_length]
    generalize p.cs.any _ = b
    cases b <;> rfl
  have eL : (mget p.ml (x.1 : Int)).getD (V.enc Kd.bool).dflt = hLate p.cs x.1 := by
    rw [p.hm]; unfold lateTo hLate; rw [List.take_length]
    generalize p.cs.any _ = b
    cases b <;> rfl
  rw [eD, eL]
  have sO := hOut_succ p.l p.cs x.1
  have sM := hMore_succ p.l p.cs x.1
  change hOut p.l p.cs (x.1 + 1) = _ ++ if _ then [] else [p.l.getD x.1 (V.enc Kd.rcd).dflt] at sO
  change hMore p.l p.cs (x.1 + 1) = _ ++ if _ then [{ p.l.getD x.1 (V.enc Kd.rcd).dflt with what := 3 }] else [] at sM
  simp only [Out.holds, Nat.zero_add, decide_eq_true_eq, decide_eq_false_iff_not, Bool.not_eq_true', Bool.not_eq_false']
  have oY : hDrop p.cs x.1 = true → hOut p.l p.cs (x.1 + 1) = hOut p.l p.cs x.1 := fun h => by rw [sO, if_pos h, List.append_nil]
  have oN : hDrop p.cs x.1 = false → hOut p.l p.cs (x.1 + 1) = hOut p.l p.cs x.1 ++ [p.l.getD x.1 (V.enc Kd.rcd).dflt] := fun h => by rw [sO, if_neg (by rw [h]; decide)]
  have mY : hLate p.cs x.1 = true → hMore p.l p.cs (x.1 + 1) = hMore p.l p.cs x.1 ++ [{ p.l.getD x.1 (V.enc Kd.rcd).dflt with what := 3 }] := fun h => by rw [sM, if_pos h]
  have mN : hLate p.cs x.1 = false → hMore p.l p.cs (x.1 + 1) = hMore p.l p.cs x.1 := fun h => by rw [sM, if_neg (by rw [h]; decide), List.append_nil]
  have len1 : ∀ {a b : List Rec} {r : Rec}, b = a ++ [r] → a.length + 1 = b.length := fun h => by rw [h]; simp
  have blk : ∀ {a b : List Rec} {y : Nat}, a = b → BSub (some (.arr 30 Kd.rcd a y : Blk V)) (.arr 30 Kd.rcd b y) := fun h => by rw [h]; exact .same _
  refine ⟨fun h => ⟨by omega, by omega, fun d => ⟨⟨trivial, trivial, trivial, by omega⟩, fun y => ⟨fun t => ⟨⟨trivial, trivial, trivial, by omega⟩, fun z => hnx _ y z 9 12 (by omega) ?_⟩, fun t => hnx _ y x.2.2 9 5 (by omega) ?_⟩⟩, fun d => ⟨fun t => ⟨⟨trivial, trivial, trivial, by omega⟩, fun z => hnx _ x.2.1 z 4 10 (by omega) ?_⟩, fun t => hnx _ x.2.1 x.2.2 4 5 (by omega) ?_⟩⟩, fun h => hex _ (by omega) ?_⟩
  · have e1 := oN d
    have e2 := mY t
    exact ⟨⟨AV.sub_same _, AV.sub_same _, AV.sub_sl (len1 e1) (by rw [len1 e1]), AV.sub_sl (len1 e2) (by rw [len1 e2]), AV.sub_same _, AV.sub_same _, AV.sub_int (hw (by omega)), trivial⟩, ⟨blk e1.symm, blk e2.symm, .same _, .same _, .same _, trivial⟩, rfl, tl_ok rfl, ⟨.inl (in_ok rfl), .inl (in_ok rfl), .inl (in_ok rfl), .inr rfl, .inr rfl, .inr rfl, trivial⟩, ⟨Nat.le_of_ble_eq_true rfl, rfl⟩⟩
  · have e1 := oN d
    have e2 := mN t
    exact ⟨⟨AV.sub_same _, AV.sub_same _, AV.sub_sl (len1 e1) (by rw [len1 e1]), AV.sub_sl (by rw [e2]) (by rw [e2]), AV.sub_same _, AV.sub_same _, AV.sub_int (hw (by omega)), trivial⟩, ⟨blk e1.symm, blk e2.symm, .same _, .same _, .same _, trivial⟩, rfl, tl_ok rfl, ⟨.inl (in_ok rfl), .inl (in_ok rfl), .inr rfl, .inr rfl, .inr rfl, trivial⟩, ⟨Nat.le_of_ble_eq_true rfl, rfl⟩⟩
  · have e1 := oY d
    have e2 := mY t
    exact ⟨⟨AV.sub_same _, AV.sub_same _, AV.sub_sl (by rw [e1]) (by rw [e1]), AV.sub_sl (len1 e2) (by rw [len1 e2]), AV.sub_same _, AV.sub_same _, AV.sub_int (hw (by omega)), trivial⟩, ⟨blk e1.symm, blk e2.symm, .same _, .same _, .same _, trivial⟩, rfl, tl_ok rfl, ⟨.inl (in_ok rfl), .inl (in_ok rfl), .inl (in_ok rfl), .inr rfl, .inr rfl, .inr rfl, trivial⟩, ⟨Nat.le_of_ble_eq_true rfl, rfl⟩⟩
  · have e1 := oY d
    have e2 := mN t
    exact ⟨⟨AV.sub_same _, AV.sub_same _, AV.sub_sl (by rw [e1]) (by rw [e1]), AV.sub_sl (by rw [e2]) (by rw [e2]), AV.sub_same _, AV.sub_same _, AV.sub_int (hw (by omega)), trivial⟩, ⟨blk e1.symm, blk e2.symm, .same _, .same _, .same _, trivial⟩, rfl, tl_ok rfl, ⟨.inl (in_ok rfl), .inl (in_ok rfl), .inr rfl, .inr rfl, .inr rfl, trivial⟩, ⟨Nat.le_of_ble_eq_true rfl, rfl⟩⟩
  · exact ⟨⟨AV.sub_same _, AV.sub_same _, AV.sub_same _, AV.sub_same _, AV.sub_same _, AV.sub_same _, AV.sub_same _, trivial⟩, ⟨.same _, .same _, .same _, .same _, .same _, trivial⟩, rfl, tl_ok rfl, ⟨.inl (in_ok rfl), .inl (in_ok rfl), .inr rfl, .inr rfl, .inr rfl, trivial⟩, ⟨Nat.le_of_ble_eq_true rfl, rfl⟩⟩
theorem m12_ok : LoopOk Try.prog 3 (loopOf Try.f12 3) M12 := by
  refine trimLoop_ok (trim_ok _ _) (loopTH_ok (C := cfgF) cfgF_ok (f := 12) (n := 40) (trim_ok [5, 6, 9, 10, 43, 44, 45] [0, 2, 3, 4, 5, 9, 10, 11, 12]) 4 J12 (fun p x => x.1 ≤ p.l.length) (fun _ => (0, 0, 0)) (fun p x => p.l.length - x.1)
    (fun _ (_ : Nat × Nat) => True) (fun p q => J12 p (p.l.length, q)) (fun p => Nat.zero_le _) ?_)
  intro p x hi
  refine bodyc12 p x hi _ _ (fun ST a b c d hlt hw => SImp.of_wk (x.1 + 1, a, b) hw ⟨hlt, ?_⟩) (fun ST he hw => ⟨rfl, SImp.of_wk (ren := [(4, 4), (5, 5)]) x.2 ?_ trivial⟩)
  · show p.l.length - (x.1 + 1) < p.l.length - x.1; omega
  · obtain ⟨i, x⟩ := x; simp only at he; subst he; exact hw

def runComplete : RunFree V := fun ar K => match ar with
  | [.rows .rcd l c] => .need (l.length ≤ 1099511627776) (.all Nat fun sp => K (.sl false 0 0 8 (hComplete l).length ((hComplete l).length + sp)) [.arr 30 Kd.rcd (hComplete l) sp])
  | _ => .bad 500
theorem hComplete_eq {l : List Rec} (h : hRight l = true) : hComplete l = hOut l (hCallsOf l) l.length ++ hMore l (hCallsOf l) l.length := by
  unfold hRight at h
  unfold hComplete hCallsOf
  cases e : hCalls l with
  | none => rw [e] at h; cases h
  | some cs => rfl
theorem hComplete_not {l : List Rec} (h : hRight l = false) : hComplete l = [] := by
  unfold hRight at h
  unfold hComplete
  cases e : hCalls l with
  | none => rfl
  | some cs => rw [e] at h; cases h
theorem hCompleteHook : HookOk Try.prog 12 (hookFree [.rows Kd.rcd] runComplete) := by
  refine free_hook (C := cfgG) cfgG_ok (n := 40) (fn := Try.f12) ⟨by kernel_rfl, by kernel_rfl⟩ (by kernel_rfl) ?_
  intro M ar K0 H
  unfold runComplete at H
  split at H
  · rename_i l c
    obtain ⟨hb, H⟩ := H
    refine ⟨show 1 ≤ _ by decide +kernel, ?_⟩
    show (runF cfgG 40 12 Try.f12 [.sl false 0 0 8 l.length c] [(0, .ro Kd.rcd l)] 1).holds _
    rw [t12]
    simp only [List.drop_zero, List.take_length]
    have hcl := calls_len l
    have ho := hOut_le l (hCallsOf l) l.length
    have hm := hMore_le l (hCallsOf l) l.length
    refine ⟨by omega, hb, fun h => fun sp => ⟨l12_ok, fun p => p = ⟨l, c, hCallsOf l, sp, by omega⟩, ⟨Nat.le_refl _, SImp.of_wk (ren := []) ⟨l, c, hCallsOf l, sp, by omega⟩ ?_ rfl⟩, ?_⟩, fun h => ?_⟩
    · exact ⟨⟨AV.sub_same _, AV.sub_same _, AV.sub_same _, AV.sub_same _, AV.sub_same _, AV.sub_lit', trivial⟩, ⟨.same _, .same _, .same _, .same _, trivial⟩, rfl, tl_ok rfl, ⟨.inr rfl, .inr rfl, .inr rfl, .inr rfl, trivial⟩, ⟨Nat.le_of_ble_eq_true rfl, rfl⟩⟩
    · rintro _ rfl q ⟨h1, h2⟩
      refine ⟨m12_ok, fun p => p = ⟨l, c, hCallsOf l, sp, q.1, q.2, hb, h1, h2⟩, ⟨Nat.le_refl _, SImp.of_wk (ren := [(4, 98), (5, 99)]) ⟨l, c, hCallsOf l, sp, q.1, q.2, hb, h1, h2⟩ ?_ rfl⟩, ?_⟩
      · exact ⟨⟨AV.sub_same _, AV.sub_same _, AV.sub_nilS, AV.sub_nilS, AV.sub_same _, AV.sub_same _, AV.sub_lit', trivial⟩, ⟨.none _ _, .none _ _, .same _, .same _, .same _, trivial⟩, rfl, tl_ok rfl, ⟨.inr rfl, .inr rfl, .inr rfl, trivial⟩, ⟨Nat.le_of_ble_eq_true rfl, rfl⟩⟩
      · rintro _ rfl y _
        refine ⟨by omega, ⟨trivial, trivial, trivial, ?_⟩, fun z => ?_⟩
        · show ((hOut l (hCallsOf l) l.length).length + (hMore l (hCallsOf l) l.length).length) * 64 ≤ _
          omega
        · have h0 := H z
          have e := hComplete_eq h
          have el : (hComplete l).length = (hOut l (hCallsOf l) l.length).length + (hMore l (hCallsOf l) l.length).length := by rw [e, List.length_append]
          rw [el, e] at h0
          exact ⟨_, _, h0, _, HImp.refl _ _, ⟨⟨fun _ => 6, ⟨.same _, trivial⟩, AV.sub_same _⟩, rfl, rfl⟩⟩
    · have h0 := H 0
      rw [hComplete_not h] at h0
      exact ⟨_, _, h0, _, HImp.refl _ _, ⟨⟨fun _ => 99, ⟨.none _ _, trivial⟩, AV.sub_nilS⟩, rfl, rfl⟩⟩
  · exact H.elim

end Sx
end Go.Proofs.Ytemcdjdglcceiaa

/-
  The small case: the runs of the machine.
-/
namespace Go.Proofs.Ytemcdjdglcceiaa
namespace Sx
open Go
set_option maxRecDepth 100000
set_option linter.unusedVariables false

def hooksH : Nat → Option (HookS V) := fun g => match g with
  | 25 => some (hookFree [.rows Kd.rcd] runLeft)
  | 23 => some (hookFree [.rows Kd.rcd] runCommits)
  | 12 => some (hookFree [.rows Kd.rcd] runComplete)
  | g => hooksF g
noncomputable def fnsH : Nat → Option Func := fun g => match g with | 41 => some Try.f41 | _ => none
noncomputable def cfgH : Cfg Try.prog V := ⟨tab, kinds, fnsH, hooksH, fun _ _ => none⟩
def runSmall : RunFree V := fun ar K => match ar with
  | [] => K .tt []
  | _ => .bad 500
def hooksI : Nat → Option (HookS V) := fun g => match g with
  | 11 => some (hookFree [] runSmall)
  | g => hooksH g
noncomputable def cfgI : Cfg Try.prog V := ⟨tab, kinds, fun _ => none, hooksI, fun _ _ => none⟩
theorem t11  : runF cfgH 60 11 Try.f11 [] [] 0 = Out.need ((4 : Nat) ≤ (1099511627776 : Nat)) (Out.all Nat fun y => Out.need ((4 : Nat) ≤ (1099511627776 : Nat)) (Out.ite (hRight [{thread := (0 : Int), op := (0 : Int), what := (1 : Int), act := (2 : Int), key := (7 : Int), value := (1 : Int), hit := false, err := (0 : Int) : Rec }, {thread := (0 : Int), op := (0 : Int), what := (2 : Int), act := (2 : Int), key := (7 : Int), value := (1 : Int), hit := false, err := (0 : Int) : Rec }, {thread := (0 : Int), op := (0 : Int), what := (3 : Int), act := (2 : Int), key := (7 : Int), value := (1 : Int), hit := false, err := (0 : Int) : Rec }, {thread := (0 : Int), op := (1 : Int), what := (1 : Int), act := (2 : Int), key := (7 : Int), value := (1 : Int), hit := false, err := (0 : Int) : Rec }]) (Out.need ((2 : Nat) ≤ (2 : Nat)) (Out.need ((2 : Nat) ≤ (1099511627776 : Nat)) (Out.ite (decide (List.take (2 : Nat) (List.drop (0 : Nat) (hCallsOf [{thread := (0 : Int), op := (0 : Int), what := (1 : Int), act := (2 : Int), key := (7 : Int), value := (1 : Int), hit := false, err := (0 : Int) : Rec }, {thread := (0 : Int), op := (0 : Int), what := (2 : Int), act := (2 : Int), key := (7 : Int), value := (1 : Int), hit := false, err := (0 : Int) : Rec }, {thread := (0 : Int), op := (0 : Int), what := (3 : Int), act := (2 : Int), key := (7 : Int), value := (1 : Int), hit := false, err := (0 : Int) : Rec }, {thread := (0 : Int), op := (1 : Int), what := (1 : Int), act := (2 : Int), key := (7 : Int), value := (1 : Int), hit := false, err := (0 : Int) : Rec }])) = [{thread := (0 : Int), op := (0 : Int), frm := (0 : Int), at_ := (1 : Int), to_ := (2 : Int) : Cal }, {thread := (0 : Int), op := (1 : Int), frm := (3 : Int), at_ := (-1 : Int), to_ := (-1 : Int) : Cal }])) (Out.need ((4 : Nat) ≤ (1099511627776 : Nat)) (Out.ite ((1 : Int) == (1 : Int)) (Out.need ((4 : Nat) ≤ (1099511627776 : Nat)) (Out.all Nat fun y_1 => Out.ite ((3 : Int) == (3 : Int)) (Out.need ((4 : Nat) ≤ (1099511627776 : Nat)) (Out.all Nat fun y_2 => Out.ite ((1 : Int) == (1 : Int)) (Out.ite ((2 : Int) == (2 : Int)) (Out.need ((0 : Int) ≤ (0 : Int) ∧ (0 : Int) < (2 : Int)) (Out.need ((0 : Nat) < (2 : Nat)) (Out.need ((0 : Int) ≤ (1 : Int) ∧ (1 : Int) < (2 : Int)) (Out.need ((1 : Nat) < (2 : Nat)) (Out.ite (hBefore {thread := (0 : Int), op := (0 : Int), frm := (0 : Int), at_ := (1 : Int), to_ := (2 : Int) : Cal } {thread := (0 : Int), op := (1 : Int), frm := (3 : Int), at_ := (-1 : Int), to_ := (-1 : Int) : Cal }) (Out.need ((0 : Int) ≤ (1 : Int) ∧ (1 : Int) ≤ (4 : Int)) (Out.need ((3 : Nat) ≤ (1099511627776 : Nat)) (Out.fin (.bool !hRight [{thread := (0 : Int), op := (0 : Int), what := (2 : Int), act := (2 : Int), key := (7 : Int), value := (1 : Int), hit := false, err := (0 : Int) : Rec }, {thread := (0 : Int), op := (0 : Int), what := (3 : Int), act := (2 : Int), key := (7 : Int), value := (1 : Int), hit := false, err := (0 : Int) : Rec }, {thread := (0 : Int), op := (1 : Int), what := (1 : Int), act := (2 : Int), key := (7 : Int), value := (1 : Int), hit := false, err := (0 : Int) : Rec }]) [((6 : Nat), .arr (27 : Nat) Kd.com (hCommits [{thread := (0 : Int), op := (0 : Int), what := (1 : Int), act := (2 : Int), key := (7 : Int), value := (1 : Int), hit := false, err := (0 : Int) : Rec }, {thread := (0 : Int), op := (0 : Int), what := (2 : Int), act := (2 : Int), key := (7 : Int), value := (1 : Int), hit := false, err := (0 : Int) : Rec }, {thread := (0 : Int), op := (0 : Int), what := (3 : Int), act := (2 : Int), key := (7 : Int), value := (1 : Int), hit := false, err := (0 : Int) : Rec }, {thread := (0 : Int), op := (1 : Int), what := (1 : Int), act := (2 : Int), key := (7 : Int), value := (1 : Int), hit := false, err := (0 : Int) : Rec }]) y_2), ((5 : Nat), .arr (30 : Nat) Kd.rcd (hComplete [{thread := (0 : Int), op := (0 : Int), what := (1 : Int), act := (2 : Int), key := (7 : Int), value := (1 : Int), hit := false, err := (0 : Int) : Rec }, {thread := (0 : Int), op := (0 : Int), what := (2 : Int), act := (2 : Int), key := (7 : Int), value := (1 : Int), hit := false, err := (0 : Int) : Rec }, {thread := (0 : Int), op := (0 : Int), what := (3 : Int), act := (2 : Int), key := (7 : Int), value := (1 : Int), hit := false, err := (0 : Int) : Rec }, {thread := (0 : Int), op := (1 : Int), what := (1 : Int), act := (2 : Int), key := (7 : Int), value := (1 : Int), hit := false, err := (0 : Int) : Rec }]) y_1), ((4 : Nat), .cells (35 : Nat) [.lit .i64 (0 : Int), .lit .i64 (0 : Int), .lit .i64 (0 : Int), .lit .i64 (1 : Int), .lit .i64 (2 : Int), .lit .i64 (0 : Int), .lit .i64 (1 : Int), .lit .i64 (3 : Int), .lit .i64 (-1 : Int), .lit .i64 (-1 : Int)]), ((3 : Nat), .arr (35 : Nat) Kd.cal (hCallsOf [{thread := (0 : Int), op := (0 : Int), what := (1 : Int), act := (2 : Int), key := (7 : Int), value := (1 : Int), hit := false, err := (0 : Int) : Rec }, {thread := (0 : Int), op := (0 : Int), what := (2 : Int), act := (2 : Int), key := (7 : Int), value := (1 : Int), hit := false, err := (0 : Int) : Rec }, {thread := (0 : Int), op := (0 : Int), what := (3 : Int), act := (2 : Int), key := (7 : Int), value := (1 : Int), hit := false, err := (0 : Int) : Rec }, {thread := (0 : Int), op := (1 : Int), what := (1 : Int), act := (2 : Int), key := (7 : Int), value := (1 : Int), hit := false, err := (0 : Int) : Rec }]) y), ((2 : Nat), .cells (30 : Nat) [.lit .i64 (0 : Int), .lit .i64 (0 : Int), .lit .i64 (1 : Int), .lit .i64 (2 : Int), .lit .i64 (7 : Int), .lit .i64 (1 : Int), .ff, .lit .i64 (0 : Int), .lit .i64 (0 : Int), .lit .i64 (0 : Int), .lit .i64 (2 : Int), .lit .i64 (2 : Int), .lit .i64 (7 : Int), .lit .i64 (1 : Int), .ff, .lit .i64 (0 : Int), .lit .i64 (0 : Int), .lit .i64 (0 : Int), .lit .i64 (3 : Int), .lit .i64 (2 : Int), .lit .i64 (7 : Int), .lit .i64 (1 : Int), .ff, .lit .i64 (0 : Int), .lit .i64 (0 : Int), .lit .i64 (1 : Int), .lit .i64 (1 : Int), .lit .i64 (2 : Int), .lit .i64 (7 : Int), .lit .i64 (1 : Int), .ff, .lit .i64 (0 : Int)]), ((0 : Nat), .cells (27 : Nat) [.lit .i64 (2 : Int), .lit .i64 (7 : Int), .lit .i64 (1 : Int), .ff])] (7 : Nat)))) (Out.fin .ff [((6 : Nat), .arr (27 : Nat) Kd.com (hCommits [{thread := (0 : Int), op := (0 : Int), what := (1 : Int), act := (2 : Int), key := (7 : Int), value := (1 : Int), hit := false, err := (0 : Int) : Rec }, {thread := (0 : Int), op := (0 : Int), what := (2 : Int), act := (2 : Int), key := (7 : Int), value := (1 : Int), hit := false, err := (0 : Int) : Rec }, {thread := (0 : Int), op := (0 : Int), what := (3 : Int), act := (2 : Int), key := (7 : Int), value := (1 : Int), hit := false, err := (0 : Int) : Rec }, {thread := (0 : Int), op := (1 : Int), what := (1 : Int), act := (2 : Int), key := (7 : Int), value := (1 : Int), hit := false, err := (0 : Int) : Rec }]) y_2), ((5 : Nat), .arr (30 : Nat) Kd.rcd (hComplete [{thread := (0 : Int), op := (0 : Int), what := (1 : Int), act := (2 : Int), key := (7 : Int), value := (1 : Int), hit := false, err := (0 : Int) : Rec }, {thread := (0 : Int), op := (0 : Int), what := (2 : Int), act := (2 : Int), key := (7 : Int), value := (1 : Int), hit := false, err := (0 : Int) : Rec }, {thread := (0 : Int), op := (0 : Int), what := (3 : Int), act := (2 : Int), key := (7 : Int), value := (1 : Int), hit := false, err := (0 : Int) : Rec }, {thread := (0 : Int), op := (1 : Int), what := (1 : Int), act := (2 : Int), key := (7 : Int), value := (1 : Int), hit := false, err := (0 : Int) : Rec }]) y_1), ((4 : Nat), .cells (35 : Nat) [.lit .i64 (0 : Int), .lit .i64 (0 : Int), .lit .i64 (0 : Int), .lit .i64 (1 : Int), .lit .i64 (2 : Int), .lit .i64 (0 : Int), .lit .i64 (1 : Int), .lit .i64 (3 : Int), .lit .i64 (-1 : Int), .lit .i64 (-1 : Int)]), ((3 : Nat), .arr (35 : Nat) Kd.cal (hCallsOf [{thread := (0 : Int), op := (0 : Int), what := (1 : Int), act := (2 : Int), key := (7 : Int), value := (1 : Int), hit := false, err := (0 : Int) : Rec }, {thread := (0 : Int), op := (0 : Int), what := (2 : Int), act := (2 : Int), key := (7 : Int), value := (1 : Int), hit := false, err := (0 : Int) : Rec }, {thread := (0 : Int), op := (0 : Int), what := (3 : Int), act := (2 : Int), key := (7 : Int), value := (1 : Int), hit := false, err := (0 : Int) : Rec }, {thread := (0 : Int), op := (1 : Int), what := (1 : Int), act := (2 : Int), key := (7 : Int), value := (1 : Int), hit := false, err := (0 : Int) : Rec }]) y), ((2 : Nat), .cells (30 : Nat) [.lit .i64 (0 : Int), .lit .i64 (0 : Int), .lit .i64 (1 : Int), .lit .i64 (2 : Int), .lit .i64 (7 : Int), .lit .i64 (1 : Int), .ff, .lit .i64 (0 : Int), .lit .i64 (0 : Int), .lit .i64 (0 : Int), .lit .i64 (2 : Int), .lit .i64 (2 : Int), .lit .i64 (7 : Int), .lit .i64 (1 : Int), .ff, .lit .i64 (0 : Int), .lit .i64 (0 : Int), .lit .i64 (0 : Int), .lit .i64 (3 : Int), .lit .i64 (2 : Int), .lit .i64 (7 : Int), .lit .i64 (1 : Int), .ff, .lit .i64 (0 : Int), .lit .i64 (0 : Int), .lit .i64 (1 : Int), .lit .i64 (1 : Int), .lit .i64 (2 : Int), .lit .i64 (7 : Int), .lit .i64 (1 : Int), .ff, .lit .i64 (0 : Int)]), ((0 : Nat), .cells (27 : Nat) [.lit .i64 (2 : Int), .lit .i64 (7 : Int), .lit .i64 (1 : Int), .ff])] (7 : Nat))))))) (Out.fin .ff [((6 : Nat), .arr (27 : Nat) Kd.com (hCommits [{thread := (0 : Int), op := (0 : Int), what := (1 : Int), act := (2 : Int), key := (7 : Int), value := (1 : Int), hit := false, err := (0 : Int) : Rec }, {thread := (0 : Int), op := (0 : Int), what := (2 : Int), act := (2 : Int), key := (7 : Int), value := (1 : Int), hit := false, err := (0 : Int) : Rec }, {thread := (0 : Int), op := (0 : Int), what := (3 : Int), act := (2 : Int), key := (7 : Int), value := (1 : Int), hit := false, err := (0 : Int) : Rec }, {thread := (0 : Int), op := (1 : Int), what := (1 : Int), act := (2 : Int), key := (7 : Int), value := (1 : Int), hit := false, err := (0 : Int) : Rec }]) y_2), ((5 : Nat), .arr (30 : Nat) Kd.rcd (hComplete [{thread := (0 : Int), op := (0 : Int), what := (1 : Int), act := (2 : Int), key := (7 : Int), value := (1 : Int), hit := false, err := (0 : Int) : Rec }, {thread := (0 : Int), op := (0 : Int), what := (2 : Int), act := (2 : Int), key := (7 : Int), value := (1 : Int), hit := false, err := (0 : Int) : Rec }, {thread := (0 : Int), op := (0 : Int), what := (3 : Int), act := (2 : Int), key := (7 : Int), value := (1 : Int), hit := false, err := (0 : Int) : Rec }, {thread := (0 : Int), op := (1 : Int), what := (1 : Int), act := (2 : Int), key := (7 : Int), value := (1 : Int), hit := false, err := (0 : Int) : Rec }]) y_1), ((4 : Nat), .cells (35 : Nat) [.lit .i64 (0 : Int), .lit .i64 (0 : Int), .lit .i64 (0 : Int), .lit .i64 (1 : Int), .lit .i64 (2 : Int), .lit .i64 (0 : Int), .lit .i64 (1 : Int), .lit .i64 (3 : Int), .lit .i64 (-1 : Int), .lit .i64 (-1 : Int)]), ((3 : Nat), .arr (35 : Nat) Kd.cal (hCallsOf [{thread := (0 : Int), op := (0 : Int), what := (1 : Int), act := (2 : Int), key := (7 : Int), value := (1 : Int), hit := false, err := (0 : Int) : Rec }, {thread := (0 : Int), op := (0 : Int), what := (2 : Int), act := (2 : Int), key := (7 : Int), value := (1 : Int), hit := false, err := (0 : Int) : Rec }, {thread := (0 : Int), op := (0 : Int), what := (3 : Int), act := (2 : Int), key := (7 : Int), value := (1 : Int), hit := false, err := (0 : Int) : Rec }, {thread := (0 : Int), op := (1 : Int), what := (1 : Int), act := (2 : Int), key := (7 : Int), value := (1 : Int), hit := false, err := (0 : Int) : Rec }]) y), ((2 : Nat), .cells (30 : Nat) [.lit .i64 (0 : Int), .lit .i64 (0 : Int), .lit .i64 (1 : Int), .lit .i64 (2 : Int), .lit .i64 (7 : Int), .lit .i64 (1 : Int), .ff, .lit .i64 (0 : Int), .lit .i64 (0 : Int), .lit .i64 (0 : Int), .lit .i64 (2 : Int), .lit .i64 (2 : Int), .lit .i64 (7 : Int), .lit .i64 (1 : Int), .ff, .lit .i64 (0 : Int), .lit .i64 (0 : Int), .lit .i64 (0 : Int), .lit .i64 (3 : Int), .lit .i64 (2 : Int), .lit .i64 (7 : Int), .lit .i64 (1 : Int), .ff, .lit .i64 (0 : Int), .lit .i64 (0 : Int), .lit .i64 (1 : Int), .lit .i64 (1 : Int), .lit .i64 (2 : Int), .lit .i64 (7 : Int), .lit .i64 (1 : Int), .ff, .lit .i64 (0 : Int)]), ((0 : Nat), .cells (27 : Nat) [.lit .i64 (2 : Int), .lit .i64 (7 : Int), .lit .i64 (1 : Int), .ff])] (7 : Nat))) (Out.fin .ff [((6 : Nat), .arr (27 : Nat) Kd.com (hCommits [{thread := (0 : Int), op := (0 : Int), what := (1 : Int), act := (2 : Int), key := (7 : Int), value := (1 : Int), hit := false, err := (0 : Int) : Rec }, {thread := (0 : Int), op := (0 : Int), what := (2 : Int), act := (2 : Int), key := (7 : Int), value := (1 : Int), hit := false, err := (0 : Int) : Rec }, {thread := (0 : Int), op := (0 : Int), what := (3 : Int), act := (2 : Int), key := (7 : Int), value := (1 : Int), hit := false, err := (0 : Int) : Rec }, {thread := (0 : Int), op := (1 : Int), what := (1 : Int), act := (2 : Int), key := (7 : Int), value := (1 : Int), hit := false, err := (0 : Int) : Rec }]) y_2), ((5 : Nat), .arr (30 : Nat) Kd.rcd (hComplete [{thread := (0 : Int), op := (0 : Int), what := (1 : Int), act := (2 : Int), key := (7 : Int), value := (1 : Int), hit := false, err := (0 : Int) : Rec }, {thread := (0 : Int), op := (0 : Int), what := (2 : Int), act := (2 : Int), key := (7 : Int), value := (1 : Int), hit := false, err := (0 : Int) : Rec }, {thread := (0 : Int), op := (0 : Int), what := (3 : Int), act := (2 : Int), key := (7 : Int), value := (1 : Int), hit := false, err := (0 : Int) : Rec }, {thread := (0 : Int), op := (1 : Int), what := (1 : Int), act := (2 : Int), key := (7 : Int), value := (1 : Int), hit := false, err := (0 : Int) : Rec }]) y_1), ((4 : Nat), .cells (35 : Nat) [.lit .i64 (0 : Int), .lit .i64 (0 : Int), .lit .i64 (0 : Int), .lit .i64 (1 : Int), .lit .i64 (2 : Int), .lit .i64 (0 : Int), .lit .i64 (1 : Int), .lit .i64 (3 : Int), .lit .i64 (-1 : Int), .lit .i64 (-1 : Int)]), ((3 : Nat), .arr (35 : Nat) Kd.cal (hCallsOf [{thread := (0 : Int), op := (0 : Int), what := (1 : Int), act := (2 : Int), key := (7 : Int), value := (1 : Int), hit := false, err := (0 : Int) : Rec }, {thread := (0 : Int), op := (0 : Int), what := (2 : Int), act := (2 : Int), key := (7 : Int), value := (1 : Int), hit := false, err := (0 : Int) : Rec }, {thread := (0 : Int), op := (0 : Int), what := (3 : Int), act := (2 : Int), key := (7 : Int), value := (1 : Int), hit := false, err := (0 : Int) : Rec }, {thread := (0 : Int), op := (1 : Int), what := (1 : Int), act := (2 : Int), key := (7 : Int), value := (1 : Int), hit := false, err := (0 : Int) : Rec }]) y), ((2 : Nat), .cells (30 : Nat) [.lit .i64 (0 : Int), .lit .i64 (0 : Int), .lit .i64 (1 : Int), .lit .i64 (2 : Int), .lit .i64 (7 : Int), .lit .i64 (1 : Int), .ff, .lit .i64 (0 : Int), .lit .i64 (0 : Int), .lit .i64 (0 : Int), .lit .i64 (2 : Int), .lit .i64 (2 : Int), .lit .i64 (7 : Int), .lit .i64 (1 : Int), .ff, .lit .i64 (0 : Int), .lit .i64 (0 : Int), .lit .i64 (0 : Int), .lit .i64 (3 : Int), .lit .i64 (2 : Int), .lit .i64 (7 : Int), .lit .i64 (1 : Int), .ff, .lit .i64 (0 : Int), .lit .i64 (0 : Int), .lit .i64 (1 : Int), .lit .i64 (1 : Int), .lit .i64 (2 : Int), .lit .i64 (7 : Int), .lit .i64 (1 : Int), .ff, .lit .i64 (0 : Int)]), ((0 : Nat), .cells (27 : Nat) [.lit .i64 (2 : Int), .lit .i64 (7 : Int), .lit .i64 (1 : Int), .ff])] (7 : Nat)))) (Out.fin .ff [((5 : Nat), .arr (30 : Nat) Kd.rcd (hComplete [{thread := (0 : Int), op := (0 : Int), what := (1 : Int), act := (2 : Int), key := (7 : Int), value := (1 : Int), hit := false, err := (0 : Int) : Rec }, {thread := (0 : Int), op := (0 : Int), what := (2 : Int), act := (2 : Int), key := (7 : Int), value := (1 : Int), hit := false, err := (0 : Int) : Rec }, {thread := (0 : Int), op := (0 : Int), what := (3 : Int), act := (2 : Int), key := (7 : Int), value := (1 : Int), hit := false, err := (0 : Int) : Rec }, {thread := (0 : Int), op := (1 : Int), what := (1 : Int), act := (2 : Int), key := (7 : Int), value := (1 : Int), hit := false, err := (0 : Int) : Rec }]) y_1), ((4 : Nat), .cells (35 : Nat) [.lit .i64 (0 : Int), .lit .i64 (0 : Int), .lit .i64 (0 : Int), .lit .i64 (1 : Int), .lit .i64 (2 : Int), .lit .i64 (0 : Int), .lit .i64 (1 : Int), .lit .i64 (3 : Int), .lit .i64 (-1 : Int), .lit .i64 (-1 : Int)]), ((3 : Nat), .arr (35 : Nat) Kd.cal (hCallsOf [{thread := (0 : Int), op := (0 : Int), what := (1 : Int), act := (2 : Int), key := (7 : Int), value := (1 : Int), hit := false, err := (0 : Int) : Rec }, {thread := (0 : Int), op := (0 : Int), what := (2 : Int), act := (2 : Int), key := (7 : Int), value := (1 : Int), hit := false, err := (0 : Int) : Rec }, {thread := (0 : Int), op := (0 : Int), what := (3 : Int), act := (2 : Int), key := (7 : Int), value := (1 : Int), hit := false, err := (0 : Int) : Rec }, {thread := (0 : Int), op := (1 : Int), what := (1 : Int), act := (2 : Int), key := (7 : Int), value := (1 : Int), hit := false, err := (0 : Int) : Rec }]) y), ((2 : Nat), .cells (30 : Nat) [.lit .i64 (0 : Int), .lit .i64 (0 : Int), .lit .i64 (1 : Int), .lit .i64 (2 : Int), .lit .i64 (7 : Int), .lit .i64 (1 : Int), .ff, .lit .i64 (0 : Int), .lit .i64 (0 : Int), .lit .i64 (0 : Int), .lit .i64 (2 : Int), .lit .i64 (2 : Int), .lit .i64 (7 : Int), .lit .i64 (1 : Int), .ff, .lit .i64 (0 : Int), .lit .i64 (0 : Int), .lit .i64 (0 : Int), .lit .i64 (3 : Int), .lit .i64 (2 : Int), .lit .i64 (7 : Int), .lit .i64 (1 : Int), .ff, .lit .i64 (0 : Int), .lit .i64 (0 : Int), .lit .i64 (1 : Int), .lit .i64 (1 : Int), .lit .i64 (2 : Int), .lit .i64 (7 : Int), .lit .i64 (1 : Int), .ff, .lit .i64 (0 : Int)]), ((0 : Nat), .cells (27 : Nat) [.lit .i64 (2 : Int), .lit .i64 (7 : Int), .lit .i64 (1 : Int), .ff])] (6 : Nat)))) (Out.fin .ff [((4 : Nat), .cells (35 : Nat) [.lit .i64 (0 : Int), .lit .i64 (0 : Int), .lit .i64 (0 : Int), .lit .i64 (1 : Int), .lit .i64 (2 : Int), .lit .i64 (0 : Int), .lit .i64 (1 : Int), .lit .i64 (3 : Int), .lit .i64 (-1 : Int), .lit .i64 (-1 : Int)]), ((3 : Nat), .arr (35 : Nat) Kd.cal (hCallsOf [{thread := (0 : Int), op := (0 : Int), what := (1 : Int), act := (2 : Int), key := (7 : Int), value := (1 : Int), hit := false, err := (0 : Int) : Rec }, {thread := (0 : Int), op := (0 : Int), what := (2 : Int), act := (2 : Int), key := (7 : Int), value := (1 : Int), hit := false, err := (0 : Int) : Rec }, {thread := (0 : Int), op := (0 : Int), what := (3 : Int), act := (2 : Int), key := (7 : Int), value := (1 : Int), hit := false, err := (0 : Int) : Rec }, {thread := (0 : Int), op := (1 : Int), what := (1 : Int), act := (2 : Int), key := (7 : Int), value := (1 : Int), hit := false, err := (0 : Int) : Rec }]) y), ((2 : Nat), .cells (30 : Nat) [.lit .i64 (0 : Int), .lit .i64 (0 : Int), .lit .i64 (1 : Int), .lit .i64 (2 : Int), .lit .i64 (7 : Int), .lit .i64 (1 : Int), .ff, .lit .i64 (0 : Int), .lit .i64 (0 : Int), .lit .i64 (0 : Int), .lit .i64 (2 : Int), .lit .i64 (2 : Int), .lit .i64 (7 : Int), .lit .i64 (1 : Int), .ff, .lit .i64 (0 : Int), .lit .i64 (0 : Int), .lit .i64 (0 : Int), .lit .i64 (3 : Int), .lit .i64 (2 : Int), .lit .i64 (7 : Int), .lit .i64 (1 : Int), .ff, .lit .i64 (0 : Int), .lit .i64 (0 : Int), .lit .i64 (1 : Int), .lit .i64 (1 : Int), .lit .i64 (2 : Int), .lit .i64 (7 : Int), .lit .i64 (1 : Int), .ff, .lit .i64 (0 : Int)]), ((0 : Nat), .cells (27 : Nat) [.lit .i64 (2 : Int), .lit .i64 (7 : Int), .lit .i64 (1 : Int), .ff])] (5 : Nat)))) (Out.fin .ff [((4 : Nat), .cells (35 : Nat) [.lit .i64 (0 : Int), .lit .i64 (0 : Int), .lit .i64 (0 : Int), .lit .i64 (1 : Int), .lit .i64 (2 : Int), .lit .i64 (0 : Int), .lit .i64 (1 : Int), .lit .i64 (3 : Int), .lit .i64 (-1 : Int), .lit .i64 (-1 : Int)]), ((3 : Nat), .arr (35 : Nat) Kd.cal (hCallsOf [{thread := (0 : Int), op := (0 : Int), what := (1 : Int), act := (2 : Int), key := (7 : Int), value := (1 : Int), hit := false, err := (0 : Int) : Rec }, {thread := (0 : Int), op := (0 : Int), what := (2 : Int), act := (2 : Int), key := (7 : Int), value := (1 : Int), hit := false, err := (0 : Int) : Rec }, {thread := (0 : Int), op := (0 : Int), what := (3 : Int), act := (2 : Int), key := (7 : Int), value := (1 : Int), hit := false, err := (0 : Int) : Rec }, {thread := (0 : Int), op := (1 : Int), what := (1 : Int), act := (2 : Int), key := (7 : Int), value := (1 : Int), hit := false, err := (0 : Int) : Rec }]) y), ((2 : Nat), .cells (30 : Nat) [.lit .i64 (0 : Int), .lit .i64 (0 : Int), .lit .i64 (1 : Int), .lit .i64 (2 : Int), .lit .i64 (7 : Int), .lit .i64 (1 : Int), .ff, .lit .i64 (0 : Int), .lit .i64 (0 : Int), .lit .i64 (0 : Int), .lit .i64 (2 : Int), .lit .i64 (2 : Int), .lit .i64 (7 : Int), .lit .i64 (1 : Int), .ff, .lit .i64 (0 : Int), .lit .i64 (0 : Int), .lit .i64 (0 : Int), .lit .i64 (3 : Int), .lit .i64 (2 : Int), .lit .i64 (7 : Int), .lit .i64 (1 : Int), .ff, .lit .i64 (0 : Int), .lit .i64 (0 : Int), .lit .i64 (1 : Int), .lit .i64 (1 : Int), .lit .i64 (2 : Int), .lit .i64 (7 : Int), .lit .i64 (1 : Int), .ff, .lit .i64 (0 : Int)]), ((0 : Nat), .cells (27 : Nat) [.lit .i64 (2 : Int), .lit .i64 (7 : Int), .lit .i64 (1 : Int), .ff])] (5 : Nat))))) (Out.fin .ff [((3 : Nat), .arr (35 : Nat) Kd.cal (hCallsOf [{thread := (0 : Int), op := (0 : Int), what := (1 : Int), act := (2 : Int), key := (7 : Int), value := (1 : Int), hit := false, err := (0 : Int) : Rec }, {thread := (0 : Int), op := (0 : Int), what := (2 : Int), act := (2 : Int), key := (7 : Int), value := (1 : Int), hit := false, err := (0 : Int) : Rec }, {thread := (0 : Int), op := (0 : Int), what := (3 : Int), act := (2 : Int), key := (7 : Int), value := (1 : Int), hit := false, err := (0 : Int) : Rec }, {thread := (0 : Int), op := (1 : Int), what := (1 : Int), act := (2 : Int), key := (7 : Int), value := (1 : Int), hit := false, err := (0 : Int) : Rec }]) y), ((2 : Nat), .cells (30 : Nat) [.lit .i64 (0 : Int), .lit .i64 (0 : Int), .lit .i64 (1 : Int), .lit .i64 (2 : Int), .lit .i64 (7 : Int), .lit .i64 (1 : Int), .ff, .lit .i64 (0 : Int), .lit .i64 (0 : Int), .lit .i64 (0 : Int), .lit .i64 (2 : Int), .lit .i64 (2 : Int), .lit .i64 (7 : Int), .lit .i64 (1 : Int), .ff, .lit .i64 (0 : Int), .lit .i64 (0 : Int), .lit .i64 (0 : Int), .lit .i64 (3 : Int), .lit .i64 (2 : Int), .lit .i64 (7 : Int), .lit .i64 (1 : Int), .ff, .lit .i64 (0 : Int), .lit .i64 (0 : Int), .lit .i64 (1 : Int), .lit .i64 (1 : Int), .lit .i64 (2 : Int), .lit .i64 (7 : Int), .lit .i64 (1 : Int), .ff, .lit .i64 (0 : Int)]), ((0 : Nat), .cells (27 : Nat) [.lit .i64 (2 : Int), .lit .i64 (7 : Int), .lit .i64 (1 : Int), .ff])] (4 : Nat)))) := by kernel_rfl

end Sx
end Go.Proofs.Ytemcdjdglcceiaa

/-
  The small case comes out right.
-/
namespace Go.Proofs.Ytemcdjdglcceiaa
namespace Sx
open Go
set_option linter.unusedSimpArgs false
set_option linter.unusedVariables false

theorem hooksH_ok : ∀ g H, hooksH g = some H → HookOk Try.prog g H := by
  intro g H h
  unfold hooksH at h
  split at h
  · cases h; exact hLeftHook
  · cases h; exact hCommitsHook
  · cases h; exact hCompleteHook
  · exact hooksF_ok _ H h
theorem cfgH_ok : cfgH.ok := by
  refine ⟨tab_met, kinds_met, mixed_met, fun g fn h => ?_, hooksH_ok⟩
  unfold cfgH fnsH at h
  simp only at h
  split at h <;> cases h
  exact ⟨by kernel_rfl, by kernel_rfl⟩

theorem hSmall : HookOk Try.prog 11 (hookFree [] runSmall) := by
  refine free_hook (C := cfgH) cfgH_ok (n := 60) (fn := Try.f11) ⟨by kernel_rfl, by kernel_rfl⟩ (by kernel_rfl) ?_
  intro M ar K0 H
  unfold runSmall at H
  split at H
  · refine ⟨Nat.zero_le _, ?_⟩
    show (runF cfgH 60 11 Try.f11 [] [] 0).holds _
    rw [t11]
    have no : ∀ {p : Prop} {b : Bool}, b = true → b = false → p := fun h k => absurd (h.symm.trans k) (by decide)
    refine ⟨by decide, fun y => ⟨by decide, fun _ => ?_, fun h => no (by decide +kernel) h⟩⟩
    refine ⟨by decide, by decide, fun _ => ?_, fun h => no (by decide +kernel) h⟩
    refine ⟨by decide, fun _ => ?_, fun h => no (by decide +kernel) h⟩
    refine ⟨by decide, fun y1 => ⟨fun _ => ?_, fun h => no (by decide +kernel) h⟩⟩
    refine ⟨by decide, fun y2 => ⟨fun _ => ?_, fun h => no (by decide +kernel) h⟩⟩
    refine ⟨fun _ => ?_, fun h => no (by decide +kernel) h⟩
    refine ⟨by decide, by decide, by decide, by decide, fun _ => ?_, fun h => no (by decide +kernel) h⟩
    exact ⟨by decide, by decide, _, _, H, endPlain (fun r z hz => hz.trans (congrArg Value.bool (by decide +kernel))) rfl⟩
  · exact H.elim
theorem hooksI_ok : ∀ g H, hooksI g = some H → HookOk Try.prog g H := by
  intro g H h
  unfold hooksI at h
  split at h
  · cases h; exact hSmall
  · exact hooksH_ok _ H h
end Sx
end Go.Proofs.Ytemcdjdglcceiaa

/-
  The law of orders: the runs of the machine.
-/
namespace Go.Proofs.Ytemcdjdglcceiaa
namespace Sx
open Go
set_option maxRecDepth 100000
set_option linter.unusedVariables false

/-- What holds of all calls of a row. -/
structure Ord (cs : List Cal) : Prop where
  one : ∀ (i : Nat) (c : Cal), cs[i]? = some c → 0 ≤ c.frm ∧ (0 ≤ c.at_ → c.frm < c.at_) ∧ (0 ≤ c.to_ → c.frm < c.to_ ∧ c.at_ < c.to_)
  two : ∀ (i k : Nat) (c d : Cal), cs[i]? = some c → cs[k]? = some d → c.thread = d.thread → c.op < d.op → 0 ≤ c.to_ ∧ c.to_ < d.frm
structure PO where
  l : List Rec
  c : Nat
  cs : List Cal
  sp : Nat
  hb : cs.length ≤ 1099511627776
  O : Ord cs
structure PK extends PO where
  i : Nat
  hi : i < cs.length
structure PJ extends PK where
  k : Nat
  hk : k < cs.length
def H5 (p : PO) : Heap V := [(1, .arr 35 Kd.cal p.cs p.sp), (0, .ro Kd.rcd p.l)]
def I50 (p : PO) (i : Nat) : St V := ⟨[(0, .sl false 0 0 8 p.l.length p.c), (3, .tt), (4, .sl false 1 0 5 p.cs.length (p.cs.length + p.sp)), (5, .int .i64 (i : Int))], H5 p, 2, 193, [0, 1, 2, 3, 4, 5, 6, 7, 8]⟩
def I52 (p : PK) (k : Nat) : St V := ⟨[(0, .sl false 0 0 8 p.l.length p.c), (3, .tt), (4, .sl false 1 0 5 p.cs.length (p.cs.length + p.sp)), (5, .int .i64 (p.i : Int)), (6, .int .i64 (k : Int))], H5 p.toPO, 2, 193, [0, 1, 2, 3, 4, 5, 6, 7, 8]⟩
def I54 (p : PJ) (j : Nat) : St V := ⟨[(0, .sl false 0 0 8 p.l.length p.c), (3, .tt), (4, .sl false 1 0 5 p.cs.length (p.cs.length + p.sp)), (5, .int .i64 (p.i : Int)), (6, .int .i64 (p.k : Int)), (7, .int .i64 (j : Int))], H5 p.toPO, 2, 193, [0, 1, 2, 3, 4, 5, 6, 7, 8]⟩
def L54 : LoopS V := trimLoop (trimSt [0, 3, 4, 5, 6, 7] [0, 1]) (loopH 2 (fun p : PJ => I54 p 0) (fun _ (_ : Unit) => True) (fun p _ => I52 p.toPK p.k))
def L52 : LoopS V := trimLoop (trimSt [0, 3, 4, 5, 6] [0, 1]) (loopH 2 (fun p : PK => I52 p 0) (fun _ (_ : Unit) => True) (fun p _ => I50 p.toPO p.i))
def L50 : LoopS V := trimLoop (trimSt [0, 3, 4, 5] [0, 1]) (loopH 2 (fun p : PO => I50 p 0) (fun _ (_ : Unit) => True) (fun p _ => I50 p p.cs.length))
noncomputable def cfg54 : Cfg Try.prog V := ⟨tab, kinds, fun _ => none, hooksI, fun f id => match f, id with | 5, 4 => some L54 | _, _ => none⟩
noncomputable def cfg52 : Cfg Try.prog V := ⟨tab, kinds, fun _ => none, hooksI, fun f id => match f, id with | 5, 2 => some L52 | _, _ => none⟩
noncomputable def cfg50 : Cfg Try.prog V := ⟨tab, kinds, fun _ => none, hooksI, fun f id => match f, id with | 5, 0 => some L50 | _, _ => none⟩
end Sx
end Go.Proofs.Ytemcdjdglcceiaa

/-
  Before is a strict order, and of one thread's calls each is Before the next.
-/
namespace Go.Proofs.Ytemcdjdglcceiaa
namespace Sx
open Go
set_option linter.unusedSimpArgs false
set_option linter.unusedVariables false

theorem get_bound {l : List Rec} (hb : ∀ r ∈ l, r.op < 9223372036854775808) (i : Nat) : (l.getD i r0).op < 9223372036854775808 := by
  rcases Nat.lt_or_ge i l.length with h | h
  · rw [getD_el r0 h]; exact hb _ (List.getElem_mem h)
  · rw [List.getD_eq_getElem?_getD, List.getElem?_eq_none h]; decide
end Sx
end Go.Proofs.Ytemcdjdglcceiaa

/-
  The law of cuts: the runs of the machine.
-/
namespace Go.Proofs.Ytemcdjdglcceiaa
namespace Sx
open Go
set_option maxRecDepth 100000
set_option linter.unusedVariables false

def cut (c : Cal) (k : Nat) : Cal := { c with at_ := if c.at_ ≥ k then -1 else c.at_, to_ := if c.to_ ≥ k then -1 else c.to_ }
structure PU where
  k : Nat
  ar : List Cal
  bs : List Cal
  spa : Nat
  spb : Nat
  hb : ar.length ≤ 1000
  hk : k ≤ 1000
  hl : bs.length ≤ ar.length
  C : ∀ i, i < ar.length → (i < bs.length → (ar.getD i c0).frm < k ∧ bs.getD i c0 = cut (ar.getD i c0) k) ∧ (bs.length ≤ i → (k : Int) ≤ (ar.getD i c0).frm)
def I60 (p : PU) (i : Nat) : St V := ⟨[(1, .int .i64 (p.k : Int)), (5, .tt), (6, .sl false 1 0 5 p.ar.length (p.ar.length + p.spa)), (7, .sl false 2 0 5 p.bs.length (p.bs.length + p.spb)), (8, .int .i64 (i : Int))], [(2, .arr 35 Kd.cal p.bs p.spb), (1, .arr 35 Kd.cal p.ar p.spa)], 5, 110, [0, 1, 2, 3, 4, 5, 6, 7, 8, 9, 10, 11, 12]⟩
def R60 (p : PU) : St V := ⟨[(4, .tt)], [], 5, 110, [0, 1, 2, 3, 4, 5, 6, 7, 8, 9, 10, 11, 12]⟩
def L60 : LoopS V := trimLoop (trimSt [1, 4, 5, 6, 7, 8] [1, 2]) (loopG 5 (fun p : PU => I60 p 0) (fun p (_ : Unit) => p.ar.length ≤ p.bs.length) (fun p _ => I60 p p.ar.length) (fun _ (_ : Unit) => True) (fun p _ => R60 p))
noncomputable def cfg60 : Cfg Try.prog V := ⟨tab, kinds, fun _ => none, hooksI, fun f id => match f, id with | 6, 0 => some L60 | _, _ => none⟩
end Sx
end Go.Proofs.Ytemcdjdglcceiaa

