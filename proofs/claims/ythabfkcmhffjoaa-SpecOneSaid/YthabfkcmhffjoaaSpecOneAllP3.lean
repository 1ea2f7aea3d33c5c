/-
  The table of types of this seat, out of its translation, and that the program has these types.
-/
import Derived.Test.YthabfkcmhffjoaaSpecOneAllP2
import Derived.Test.YthabfkcmhffjoaaRows
namespace Go.Proofs.Ythabfkcmhffjoaa
namespace Sx
open Go

def ifaceOf (P : Program) (t : Nat) : Array (String × TypeId) := match P.underlying t with | some (.interface ms) => ms | _ => #[]
def funcOf (P : Program) (t : Nat) : Array TypeId × Array TypeId × Bool := match P.underlying t with | some (.func a b c) => (a, b, c) | _ => (#[], #[], false)
theorem names_ok {P : Program} {t : Nat} (h : P.underlying t = some (.struct (P.fieldsOf t))) (k : ((P.fieldsOf t).toList.all fun f => !(f.name == "_")) = true) :
    ∀ fields, P.underlying t = some (.struct fields) → ∀ f ∈ fields.toList, f.name ≠ "_" := by
  intro fields hf f hm
  rw [h] at hf; cases hf
  have := List.all_eq_true.1 k f hm
  simpa using this

def RowsMet (P : Program) : Nat → List (Option TyRow) → Prop
  | _, [] => True
  | k, none :: l => RowsMet P (k + 1) l
  | k, some R :: l => R.met P k ∧ RowsMet P (k + 1) l
theorem rowsMet_get {P : Program} : ∀ (l : List (Option TyRow)) (k t : Nat) (R : TyRow), RowsMet P k l → l[t]?.join = some R → R.met P (k + t)
  | [], _, _, _, _, h => by simp at h
  | none :: l, k, t, R, hm, h => by
    cases t with
    | zero => simp at h
    | succ t => have := rowsMet_get l (k + 1) t R hm (by simpa using h); rwa [show k + 1 + t = k + (t + 1) by omega] at this
  | some R' :: l, k, t, R, hm, h => by
    cases t with
    | zero => simp at h; subst h; exact hm.1
    | succ t => have := rowsMet_get l (k + 1) t R hm.2 (by simpa using h); rwa [show k + 1 + t = k + (t + 1) by omega] at this

-- func()
def ty1 : TyRow := ⟨.func, 1, 8, [.nilF], false, false⟩
theorem ty1_met : ty1.met Try.prog 1 := ⟨⟨(funcOf Try.prog 1).1, (funcOf Try.prog 1).2.1, (funcOf Try.prog 1).2.2, by kernel_rfl⟩, ⟨(Try.prog.info? 1).getD default, .nilFunc, by kernel_rfl, by kernel_rfl, by kernel_rfl, by kernel_rfl, rfl, relL_cellAV _ [.nilFunc], relL_cellAV _ [.nilFunc]⟩, fun h => by cases h⟩
-- int64
def ty2 : TyRow := ⟨.int .i64, 1, 8, [.lit .i64 0], false, false⟩
theorem ty2_met : ty2.met Try.prog 2 := ⟨(show Try.prog.underlying 2 = some (.int .i64) by kernel_rfl), ⟨(Try.prog.info? 2).getD default, (.int .i64 0), by kernel_rfl, by kernel_rfl, by kernel_rfl, by kernel_rfl, rfl, relL_cellAV _ [(.int .i64 0)], relL_cellAV _ [(.int .i64 0)]⟩, fun h => by cases h⟩
-- int
def ty3 : TyRow := ⟨.int .i64, 1, 8, [.lit .i64 0], false, false⟩
theorem ty3_met : ty3.met Try.prog 3 := ⟨(show Try.prog.underlying 3 = some (.int .i64) by kernel_rfl), ⟨(Try.prog.info? 3).getD default, (.int .i64 0), by kernel_rfl, by kernel_rfl, by kernel_rfl, by kernel_rfl, rfl, relL_cellAV _ [(.int .i64 0)], relL_cellAV _ [(.int .i64 0)]⟩, fun h => by cases h⟩
-- bool
def ty4 : TyRow := ⟨.bool, 1, 1, [.ff], false, false⟩
theorem ty4_met : ty4.met Try.prog 4 := ⟨(show Try.prog.underlying 4 = some (.bool) by kernel_rfl), ⟨(Try.prog.info? 4).getD default, (.bool false), by kernel_rfl, by kernel_rfl, by kernel_rfl, by kernel_rfl, rfl, relL_cellAV _ [(.bool false)], relL_cellAV _ [(.bool false)]⟩, fun h => by cases h⟩
-- uint8
def ty5 : TyRow := ⟨.int .u8, 1, 1, [.lit .u8 0], false, false⟩
theorem ty5_met : ty5.met Try.prog 5 := ⟨(show Try.prog.underlying 5 = some (.int .u8) by kernel_rfl), ⟨(Try.prog.info? 5).getD default, (.int .u8 0), by kernel_rfl, by kernel_rfl, by kernel_rfl, by kernel_rfl, rfl, relL_cellAV _ [(.int .u8 0)], relL_cellAV _ [(.int .u8 0)]⟩, fun h => by cases h⟩
-- abi.BoundsErrorCode
def ty6 : TyRow := ⟨.int .u8, 1, 1, [.lit .u8 0], false, false⟩
theorem ty6_met : ty6.met Try.prog 6 := ⟨(show Try.prog.underlying 6 = some (.int .u8) by kernel_rfl), ⟨(Try.prog.info? 6).getD default, (.int .u8 0), by kernel_rfl, by kernel_rfl, by kernel_rfl, by kernel_rfl, rfl, relL_cellAV _ [(.int .u8 0)], relL_cellAV _ [(.int .u8 0)]⟩, fun h => by cases h⟩
-- struct { x int64; y int; signed bool; code abi.BoundsErrorCode }
def ty7 : TyRow := ⟨.struct [(0, 2), (1, 3), (2, 4), (3, 6)], 4, 24, [.lit .i64 0, .lit .i64 0, .ff, .lit .u8 0], true, false⟩
theorem ty7_met : ty7.met Try.prog 7 := ⟨⟨Try.prog.fieldsOf 7, by kernel_rfl, by kernel_rfl⟩, ⟨(Try.prog.info? 7).getD default, (.agg #[(.int .i64 0), (.int .i64 0), (.bool false), (.int .u8 0)]), by kernel_rfl, by kernel_rfl, by kernel_rfl, by kernel_rfl, rfl, ⟨[(.int .i64 0), (.int .i64 0), (.bool false), (.int .u8 0)], relL_cellAV _ [(.int .i64 0), (.int .i64 0), (.bool false), (.int .u8 0)], rfl⟩, relL_cellAV _ [(.int .i64 0), (.int .i64 0), (.bool false), (.int .u8 0)]⟩, fun _ => ⟨by kernel_rfl, by kernel_rfl, names_ok (by kernel_rfl) (by kernel_rfl)⟩⟩
-- runtime.boundsError
def ty8 : TyRow := ⟨.struct [(0, 2), (1, 3), (2, 4), (3, 6)], 4, 24, [.lit .i64 0, .lit .i64 0, .ff, .lit .u8 0], true, false⟩
theorem ty8_met : ty8.met Try.prog 8 := ⟨⟨Try.prog.fieldsOf 8, by kernel_rfl, by kernel_rfl⟩, ⟨(Try.prog.info? 8).getD default, (.agg #[(.int .i64 0), (.int .i64 0), (.bool false), (.int .u8 0)]), by kernel_rfl, by kernel_rfl, by kernel_rfl, by kernel_rfl, rfl, ⟨[(.int .i64 0), (.int .i64 0), (.bool false), (.int .u8 0)], relL_cellAV _ [(.int .i64 0), (.int .i64 0), (.bool false), (.int .u8 0)], rfl⟩, relL_cellAV _ [(.int .i64 0), (.int .i64 0), (.bool false), (.int .u8 0)]⟩, fun _ => ⟨by kernel_rfl, by kernel_rfl, names_ok (by kernel_rfl) (by kernel_rfl)⟩⟩
-- string
def ty9 : TyRow := ⟨.str, 1, 16, [.raw (.string (ByteArray.mk #[]))], false, false⟩
theorem ty9_met : ty9.met Try.prog 9 := ⟨(show Try.prog.underlying 9 = some (.string) by kernel_rfl), ⟨(Try.prog.info? 9).getD default, (.string (ByteArray.mk #[])), by kernel_rfl, by kernel_rfl, by kernel_rfl, by kernel_rfl, rfl, relL_cellAV _ [(.string (ByteArray.mk #[]))], relL_cellAV _ [(.string (ByteArray.mk #[]))]⟩, fun h => by cases h⟩
-- runtime.errorString
def ty10 : TyRow := ⟨.str, 1, 16, [.raw (.string (ByteArray.mk #[]))], false, false⟩
theorem ty10_met : ty10.met Try.prog 10 := ⟨(show Try.prog.underlying 10 = some (.string) by kernel_rfl), ⟨(Try.prog.info? 10).getD default, (.string (ByteArray.mk #[])), by kernel_rfl, by kernel_rfl, by kernel_rfl, by kernel_rfl, rfl, relL_cellAV _ [(.string (ByteArray.mk #[]))], relL_cellAV _ [(.string (ByteArray.mk #[]))]⟩, fun h => by cases h⟩
-- runtime.plainError
def ty11 : TyRow := ⟨.str, 1, 16, [.raw (.string (ByteArray.mk #[]))], false, false⟩
theorem ty11_met : ty11.met Try.prog 11 := ⟨(show Try.prog.underlying 11 = some (.string) by kernel_rfl), ⟨(Try.prog.info? 11).getD default, (.string (ByteArray.mk #[])), by kernel_rfl, by kernel_rfl, by kernel_rfl, by kernel_rfl, rfl, relL_cellAV _ [(.string (ByteArray.mk #[]))], relL_cellAV _ [(.string (ByteArray.mk #[]))]⟩, fun h => by cases h⟩
-- uintptr
def ty12 : TyRow := ⟨.int .u64, 1, 8, [.lit .u64 0], false, false⟩
theorem ty12_met : ty12.met Try.prog 12 := ⟨(show Try.prog.underlying 12 = some (.int .u64) by kernel_rfl), ⟨(Try.prog.info? 12).getD default, (.int .u64 0), by kernel_rfl, by kernel_rfl, by kernel_rfl, by kernel_rfl, rfl, relL_cellAV _ [(.int .u64 0)], relL_cellAV _ [(.int .u64 0)]⟩, fun h => by cases h⟩
-- struct { msg string; addr uintptr }
def ty13 : TyRow := ⟨.struct [(0, 9), (1, 12)], 2, 24, [.raw (.string (ByteArray.mk #[])), .lit .u64 0], false, false⟩
theorem ty13_met : ty13.met Try.prog 13 := ⟨⟨Try.prog.fieldsOf 13, by kernel_rfl, by kernel_rfl⟩, ⟨(Try.prog.info? 13).getD default, (.agg #[(.string (ByteArray.mk #[])), (.int .u64 0)]), by kernel_rfl, by kernel_rfl, by kernel_rfl, by kernel_rfl, rfl, ⟨[(.string (ByteArray.mk #[])), (.int .u64 0)], relL_cellAV _ [(.string (ByteArray.mk #[])), (.int .u64 0)], rfl⟩, relL_cellAV _ [(.string (ByteArray.mk #[])), (.int .u64 0)]⟩, fun h => by cases h⟩
-- runtime.errorAddressString
def ty14 : TyRow := ⟨.struct [(0, 9), (1, 12)], 2, 24, [.raw (.string (ByteArray.mk #[])), .lit .u64 0], false, false⟩
theorem ty14_met : ty14.met Try.prog 14 := ⟨⟨Try.prog.fieldsOf 14, by kernel_rfl, by kernel_rfl⟩, ⟨(Try.prog.info? 14).getD default, (.agg #[(.string (ByteArray.mk #[])), (.int .u64 0)]), by kernel_rfl, by kernel_rfl, by kernel_rfl, by kernel_rfl, rfl, ⟨[(.string (ByteArray.mk #[])), (.int .u64 0)], relL_cellAV _ [(.string (ByteArray.mk #[])), (.int .u64 0)], rfl⟩, relL_cellAV _ [(.string (ByteArray.mk #[])), (.int .u64 0)]⟩, fun h => by cases h⟩
-- *runtime.TypeAssertionError
def ty15 : TyRow := ⟨.ptr 89, 1, 8, [.nilP], false, false⟩
theorem ty15_met : ty15.met Try.prog 15 := ⟨(show Try.prog.underlying 15 = some (.pointer 89) by kernel_rfl), ⟨(Try.prog.info? 15).getD default, (.pointer none), by kernel_rfl, by kernel_rfl, by kernel_rfl, by kernel_rfl, rfl, relL_cellAV _ [(.pointer none)], relL_cellAV _ [(.pointer none)]⟩, fun h => by cases h⟩
-- *runtime.PanicNilError
def ty16 : TyRow := ⟨.ptr 92, 1, 8, [.nilP], false, false⟩
theorem ty16_met : ty16.met Try.prog 16 := ⟨(show Try.prog.underlying 16 = some (.pointer 92) by kernel_rfl), ⟨(Try.prog.info? 16).getD default, (.pointer none), by kernel_rfl, by kernel_rfl, by kernel_rfl, by kernel_rfl, rfl, relL_cellAV _ [(.pointer none)], relL_cellAV _ [(.pointer none)]⟩, fun h => by cases h⟩
-- *abi.Type
def ty17 : TyRow := ⟨.ptr 101, 1, 8, [.nilP], false, false⟩
theorem ty17_met : ty17.met Try.prog 17 := ⟨(show Try.prog.underlying 17 = some (.pointer 101) by kernel_rfl), ⟨(Try.prog.info? 17).getD default, (.pointer none), by kernel_rfl, by kernel_rfl, by kernel_rfl, by kernel_rfl, rfl, relL_cellAV _ [(.pointer none)], relL_cellAV _ [(.pointer none)]⟩, fun h => by cases h⟩
-- struct { typ *abi.Type }
def ty18 : TyRow := ⟨.struct [(0, 17)], 1, 8, [.nilP], false, false⟩
theorem ty18_met : ty18.met Try.prog 18 := ⟨⟨Try.prog.fieldsOf 18, by kernel_rfl, by kernel_rfl⟩, ⟨(Try.prog.info? 18).getD default, (.agg #[(.pointer none)]), by kernel_rfl, by kernel_rfl, by kernel_rfl, by kernel_rfl, rfl, ⟨[(.pointer none)], relL_cellAV _ [(.pointer none)], rfl⟩, relL_cellAV _ [(.pointer none)]⟩, fun h => by cases h⟩
-- maps.unhashableTypeError
def ty19 : TyRow := ⟨.struct [(0, 17)], 1, 8, [.nilP], false, false⟩
theorem ty19_met : ty19.met Try.prog 19 := ⟨⟨Try.prog.fieldsOf 19, by kernel_rfl, by kernel_rfl⟩, ⟨(Try.prog.info? 19).getD default, (.agg #[(.pointer none)]), by kernel_rfl, by kernel_rfl, by kernel_rfl, by kernel_rfl, rfl, ⟨[(.pointer none)], relL_cellAV _ [(.pointer none)], rfl⟩, relL_cellAV _ [(.pointer none)]⟩, fun h => by cases h⟩
-- interface {}
def ty20 : TyRow := ⟨.iface, 1, 16, [.nilI], false, false⟩
theorem ty20_met : ty20.met Try.prog 20 := ⟨⟨ifaceOf Try.prog 20, by kernel_rfl⟩, ⟨(Try.prog.info? 20).getD default, .nilIface, by kernel_rfl, by kernel_rfl, by kernel_rfl, by kernel_rfl, rfl, relL_cellAV _ [.nilIface], relL_cellAV _ [.nilIface]⟩, fun h => by cases h⟩
-- int32
def ty21 : TyRow := ⟨.int .i32, 1, 4, [.lit .i32 0], false, false⟩
theorem ty21_met : ty21.met Try.prog 21 := ⟨(show Try.prog.underlying 21 = some (.int .i32) by kernel_rfl), ⟨(Try.prog.info? 21).getD default, (.int .i32 0), by kernel_rfl, by kernel_rfl, by kernel_rfl, by kernel_rfl, rfl, relL_cellAV _ [(.int .i32 0)], relL_cellAV _ [(.int .i32 0)]⟩, fun h => by cases h⟩
-- []api.Commit
def ty22 : TyRow := ⟨.slice 35, 1, 24, [.nilS], false, false⟩
theorem ty22_met : ty22.met Try.prog 22 := ⟨(show Try.prog.underlying 22 = some (.slice 35) by kernel_rfl), ⟨(Try.prog.info? 22).getD default, (.slice none 0 0), by kernel_rfl, by kernel_rfl, by kernel_rfl, by kernel_rfl, rfl, relL_cellAV _ [(.slice none 0 0)], relL_cellAV _ [(.slice none 0 0)]⟩, fun h => by cases h⟩
-- func() bool
def ty23 : TyRow := ⟨.func, 1, 8, [.nilF], false, false⟩
theorem ty23_met : ty23.met Try.prog 23 := ⟨⟨(funcOf Try.prog 23).1, (funcOf Try.prog 23).2.1, (funcOf Try.prog 23).2.2, by kernel_rfl⟩, ⟨(Try.prog.info? 23).getD default, .nilFunc, by kernel_rfl, by kernel_rfl, by kernel_rfl, by kernel_rfl, rfl, relL_cellAV _ [.nilFunc], relL_cellAV _ [.nilFunc]⟩, fun h => by cases h⟩
-- [][2]int
def ty24 : TyRow := ⟨.slice 27, 1, 24, [.nilS], false, false⟩
theorem ty24_met : ty24.met Try.prog 24 := ⟨(show Try.prog.underlying 24 = some (.slice 27) by kernel_rfl), ⟨(Try.prog.info? 24).getD default, (.slice none 0 0), by kernel_rfl, by kernel_rfl, by kernel_rfl, by kernel_rfl, rfl, relL_cellAV _ [(.slice none 0 0)], relL_cellAV _ [(.slice none 0 0)]⟩, fun h => by cases h⟩
-- func([]api.Commit) [][2]int
def ty25 : TyRow := ⟨.func, 1, 8, [.nilF], false, false⟩
theorem ty25_met : ty25.met Try.prog 25 := ⟨⟨(funcOf Try.prog 25).1, (funcOf Try.prog 25).2.1, (funcOf Try.prog 25).2.2, by kernel_rfl⟩, ⟨(Try.prog.info? 25).getD default, .nilFunc, by kernel_rfl, by kernel_rfl, by kernel_rfl, by kernel_rfl, rfl, relL_cellAV _ [.nilFunc], relL_cellAV _ [.nilFunc]⟩, fun h => by cases h⟩
-- func([][2]int, [][2]int) bool
def ty26 : TyRow := ⟨.func, 1, 8, [.nilF], false, false⟩
theorem ty26_met : ty26.met Try.prog 26 := ⟨⟨(funcOf Try.prog 26).1, (funcOf Try.prog 26).2.1, (funcOf Try.prog 26).2.2, by kernel_rfl⟩, ⟨(Try.prog.info? 26).getD default, .nilFunc, by kernel_rfl, by kernel_rfl, by kernel_rfl, by kernel_rfl, rfl, relL_cellAV _ [.nilFunc], relL_cellAV _ [.nilFunc]⟩, fun h => by cases h⟩
-- [2]int
def ty27 : TyRow := ⟨.array 2 3, 2, 16, [.lit .i64 0, .lit .i64 0], true, false⟩
theorem ty27_met : ty27.met Try.prog 27 := ⟨(show Try.prog.underlying 27 = some (.array 2 3) by kernel_rfl), ⟨(Try.prog.info? 27).getD default, (.agg #[(.int .i64 0), (.int .i64 0)]), by kernel_rfl, by kernel_rfl, by kernel_rfl, by kernel_rfl, rfl, ⟨[(.int .i64 0), (.int .i64 0)], relL_cellAV _ [(.int .i64 0), (.int .i64 0)], rfl⟩, relL_cellAV _ [(.int .i64 0), (.int .i64 0)]⟩, (fun _ => ⟨by kernel_rfl, by kernel_rfl, fun fields hf => by rw [(show Try.prog.underlying 27 = some (.array 2 3) by kernel_rfl)] at hf; cases hf⟩)⟩
-- func([]api.Commit) int
def ty28 : TyRow := ⟨.func, 1, 8, [.nilF], false, false⟩
theorem ty28_met : ty28.met Try.prog 28 := ⟨⟨(funcOf Try.prog 28).1, (funcOf Try.prog 28).2.1, (funcOf Try.prog 28).2.2, by kernel_rfl⟩, ⟨(Try.prog.info? 28).getD default, .nilFunc, by kernel_rfl, by kernel_rfl, by kernel_rfl, by kernel_rfl, rfl, relL_cellAV _ [.nilFunc], relL_cellAV _ [.nilFunc]⟩, fun h => by cases h⟩
-- func([]api.Commit) bool
def ty29 : TyRow := ⟨.func, 1, 8, [.nilF], false, false⟩
theorem ty29_met : ty29.met Try.prog 29 := ⟨⟨(funcOf Try.prog 29).1, (funcOf Try.prog 29).2.1, (funcOf Try.prog 29).2.2, by kernel_rfl⟩, ⟨(Try.prog.info? 29).getD default, .nilFunc, by kernel_rfl, by kernel_rfl, by kernel_rfl, by kernel_rfl, rfl, relL_cellAV _ [.nilFunc], relL_cellAV _ [.nilFunc]⟩, fun h => by cases h⟩
-- func([]int, []int) bool
def ty30 : TyRow := ⟨.func, 1, 8, [.nilF], false, false⟩
theorem ty30_met : ty30.met Try.prog 30 := ⟨⟨(funcOf Try.prog 30).1, (funcOf Try.prog 30).2.1, (funcOf Try.prog 30).2.2, by kernel_rfl⟩, ⟨(Try.prog.info? 30).getD default, .nilFunc, by kernel_rfl, by kernel_rfl, by kernel_rfl, by kernel_rfl, rfl, relL_cellAV _ [.nilFunc], relL_cellAV _ [.nilFunc]⟩, fun h => by cases h⟩
-- []int
def ty31 : TyRow := ⟨.slice 3, 1, 24, [.nilS], false, false⟩
theorem ty31_met : ty31.met Try.prog 31 := ⟨(show Try.prog.underlying 31 = some (.slice 3) by kernel_rfl), ⟨(Try.prog.info? 31).getD default, (.slice none 0 0), by kernel_rfl, by kernel_rfl, by kernel_rfl, by kernel_rfl, rfl, relL_cellAV _ [(.slice none 0 0)], relL_cellAV _ [(.slice none 0 0)]⟩, fun h => by cases h⟩
-- func([]api.Commit) []int
def ty32 : TyRow := ⟨.func, 1, 8, [.nilF], false, false⟩
theorem ty32_met : ty32.met Try.prog 32 := ⟨⟨(funcOf Try.prog 32).1, (funcOf Try.prog 32).2.1, (funcOf Try.prog 32).2.2, by kernel_rfl⟩, ⟨(Try.prog.info? 32).getD default, .nilFunc, by kernel_rfl, by kernel_rfl, by kernel_rfl, by kernel_rfl, rfl, relL_cellAV _ [.nilFunc], relL_cellAV _ [.nilFunc]⟩, fun h => by cases h⟩
-- func([]api.Commit, []api.Commit) bool
def ty33 : TyRow := ⟨.func, 1, 8, [.nilF], false, false⟩
theorem ty33_met : ty33.met Try.prog 33 := ⟨⟨(funcOf Try.prog 33).1, (funcOf Try.prog 33).2.1, (funcOf Try.prog 33).2.2, by kernel_rfl⟩, ⟨(Try.prog.info? 33).getD default, .nilFunc, by kernel_rfl, by kernel_rfl, by kernel_rfl, by kernel_rfl, rfl, relL_cellAV _ [.nilFunc], relL_cellAV _ [.nilFunc]⟩, fun h => by cases h⟩
-- struct { Do int; Key int; Value int; Hit bool }
def ty34 : TyRow := ⟨.struct [(0, 3), (1, 3), (2, 3), (3, 4)], 4, 32, [.lit .i64 0, .lit .i64 0, .lit .i64 0, .ff], true, false⟩
theorem ty34_met : ty34.met Try.prog 34 := ⟨⟨Try.prog.fieldsOf 34, by kernel_rfl, by kernel_rfl⟩, ⟨(Try.prog.info? 34).getD default, (.agg #[(.int .i64 0), (.int .i64 0), (.int .i64 0), (.bool false)]), by kernel_rfl, by kernel_rfl, by kernel_rfl, by kernel_rfl, rfl, ⟨[(.int .i64 0), (.int .i64 0), (.int .i64 0), (.bool false)], relL_cellAV _ [(.int .i64 0), (.int .i64 0), (.int .i64 0), (.bool false)], rfl⟩, relL_cellAV _ [(.int .i64 0), (.int .i64 0), (.int .i64 0), (.bool false)]⟩, fun _ => ⟨by kernel_rfl, by kernel_rfl, names_ok (by kernel_rfl) (by kernel_rfl)⟩⟩
-- api.Commit
def ty35 : TyRow := ⟨.struct [(0, 3), (1, 3), (2, 3), (3, 4)], 4, 32, [.lit .i64 0, .lit .i64 0, .lit .i64 0, .ff], true, false⟩
theorem ty35_met : ty35.met Try.prog 35 := ⟨⟨Try.prog.fieldsOf 35, by kernel_rfl, by kernel_rfl⟩, ⟨(Try.prog.info? 35).getD default, (.agg #[(.int .i64 0), (.int .i64 0), (.int .i64 0), (.bool false)]), by kernel_rfl, by kernel_rfl, by kernel_rfl, by kernel_rfl, rfl, ⟨[(.int .i64 0), (.int .i64 0), (.int .i64 0), (.bool false)], relL_cellAV _ [(.int .i64 0), (.int .i64 0), (.int .i64 0), (.bool false)], rfl⟩, relL_cellAV _ [(.int .i64 0), (.int .i64 0), (.int .i64 0), (.bool false)]⟩, fun _ => ⟨by kernel_rfl, by kernel_rfl, names_ok (by kernel_rfl) (by kernel_rfl)⟩⟩
-- func([][2]int, int, int, int) (api.Commit, [][2]int)
def ty37 : TyRow := ⟨.func, 1, 8, [.nilF], false, false⟩
theorem ty37_met : ty37.met Try.prog 37 := ⟨⟨(funcOf Try.prog 37).1, (funcOf Try.prog 37).2.1, (funcOf Try.prog 37).2.2, by kernel_rfl⟩, ⟨(Try.prog.info? 37).getD default, .nilFunc, by kernel_rfl, by kernel_rfl, by kernel_rfl, by kernel_rfl, rfl, relL_cellAV _ [.nilFunc], relL_cellAV _ [.nilFunc]⟩, fun h => by cases h⟩
-- func([]api.Commit, int, int, int) bool
def ty38 : TyRow := ⟨.func, 1, 8, [.nilF], false, false⟩
theorem ty38_met : ty38.met Try.prog 38 := ⟨⟨(funcOf Try.prog 38).1, (funcOf Try.prog 38).2.1, (funcOf Try.prog 38).2.2, by kernel_rfl⟩, ⟨(Try.prog.info? 38).getD default, .nilFunc, by kernel_rfl, by kernel_rfl, by kernel_rfl, by kernel_rfl, rfl, relL_cellAV _ [.nilFunc], relL_cellAV _ [.nilFunc]⟩, fun h => by cases h⟩
-- func([]api.Commit, api.Commit) bool
def ty39 : TyRow := ⟨.func, 1, 8, [.nilF], false, false⟩
theorem ty39_met : ty39.met Try.prog 39 := ⟨⟨(funcOf Try.prog 39).1, (funcOf Try.prog 39).2.1, (funcOf Try.prog 39).2.2, by kernel_rfl⟩, ⟨(Try.prog.info? 39).getD default, .nilFunc, by kernel_rfl, by kernel_rfl, by kernel_rfl, by kernel_rfl, rfl, relL_cellAV _ [.nilFunc], relL_cellAV _ [.nilFunc]⟩, fun h => by cases h⟩
-- func([]api.Commit, int) bool
def ty40 : TyRow := ⟨.func, 1, 8, [.nilF], false, false⟩
theorem ty40_met : ty40.met Try.prog 40 := ⟨⟨(funcOf Try.prog 40).1, (funcOf Try.prog 40).2.1, (funcOf Try.prog 40).2.2, by kernel_rfl⟩, ⟨(Try.prog.info? 40).getD default, .nilFunc, by kernel_rfl, by kernel_rfl, by kernel_rfl, by kernel_rfl, rfl, relL_cellAV _ [.nilFunc], relL_cellAV _ [.nilFunc]⟩, fun h => by cases h⟩
-- func() []api.Commit
def ty41 : TyRow := ⟨.func, 1, 8, [.nilF], false, false⟩
theorem ty41_met : ty41.met Try.prog 41 := ⟨⟨(funcOf Try.prog 41).1, (funcOf Try.prog 41).2.1, (funcOf Try.prog 41).2.2, by kernel_rfl⟩, ⟨(Try.prog.info? 41).getD default, .nilFunc, by kernel_rfl, by kernel_rfl, by kernel_rfl, by kernel_rfl, rfl, relL_cellAV _ [.nilFunc], relL_cellAV _ [.nilFunc]⟩, fun h => by cases h⟩
-- map[int]int
def ty42 : TyRow := ⟨.map 3 3, 1, 8, [.nilM], false, false⟩
theorem ty42_met : ty42.met Try.prog 42 := ⟨(show Try.prog.underlying 42 = some (.map 3 3) by kernel_rfl), ⟨(Try.prog.info? 42).getD default, (.map none), by kernel_rfl, by kernel_rfl, by kernel_rfl, by kernel_rfl, rfl, relL_cellAV _ [(.map none)], relL_cellAV _ [(.map none)]⟩, fun h => by cases h⟩
-- spec.state
def ty43 : TyRow := ⟨.map 3 3, 1, 8, [.nilM], false, false⟩
theorem ty43_met : ty43.met Try.prog 43 := ⟨(show Try.prog.underlying 43 = some (.map 3 3) by kernel_rfl), ⟨(Try.prog.info? 43).getD default, (.map none), by kernel_rfl, by kernel_rfl, by kernel_rfl, by kernel_rfl, rfl, relL_cellAV _ [(.map none)], relL_cellAV _ [(.map none)]⟩, fun h => by cases h⟩
-- func([]api.Commit) (int, spec.state)
def ty45 : TyRow := ⟨.func, 1, 8, [.nilF], false, false⟩
theorem ty45_met : ty45.met Try.prog 45 := ⟨⟨(funcOf Try.prog 45).1, (funcOf Try.prog 45).2.1, (funcOf Try.prog 45).2.2, by kernel_rfl⟩, ⟨(Try.prog.info? 45).getD default, .nilFunc, by kernel_rfl, by kernel_rfl, by kernel_rfl, by kernel_rfl, rfl, relL_cellAV _ [.nilFunc], relL_cellAV _ [.nilFunc]⟩, fun h => by cases h⟩
-- func() [][2]int
def ty46 : TyRow := ⟨.func, 1, 8, [.nilF], false, false⟩
theorem ty46_met : ty46.met Try.prog 46 := ⟨⟨(funcOf Try.prog 46).1, (funcOf Try.prog 46).2.1, (funcOf Try.prog 46).2.2, by kernel_rfl⟩, ⟨(Try.prog.info? 46).getD default, .nilFunc, by kernel_rfl, by kernel_rfl, by kernel_rfl, by kernel_rfl, rfl, relL_cellAV _ [.nilFunc], relL_cellAV _ [.nilFunc]⟩, fun h => by cases h⟩
-- func([]api.Commit) (int, [][2]int)
def ty48 : TyRow := ⟨.func, 1, 8, [.nilF], false, false⟩
theorem ty48_met : ty48.met Try.prog 48 := ⟨⟨(funcOf Try.prog 48).1, (funcOf Try.prog 48).2.1, (funcOf Try.prog 48).2.2, by kernel_rfl⟩, ⟨(Try.prog.info? 48).getD default, .nilFunc, by kernel_rfl, by kernel_rfl, by kernel_rfl, by kernel_rfl, rfl, relL_cellAV _ [.nilFunc], relL_cellAV _ [.nilFunc]⟩, fun h => by cases h⟩
-- func([][2]int) spec.state
def ty49 : TyRow := ⟨.func, 1, 8, [.nilF], false, false⟩
theorem ty49_met : ty49.met Try.prog 49 := ⟨⟨(funcOf Try.prog 49).1, (funcOf Try.prog 49).2.1, (funcOf Try.prog 49).2.2, by kernel_rfl⟩, ⟨(Try.prog.info? 49).getD default, .nilFunc, by kernel_rfl, by kernel_rfl, by kernel_rfl, by kernel_rfl, rfl, relL_cellAV _ [.nilFunc], relL_cellAV _ [.nilFunc]⟩, fun h => by cases h⟩
-- func(int, int, int) (api.Commit, bool)
def ty51 : TyRow := ⟨.func, 1, 8, [.nilF], false, false⟩
theorem ty51_met : ty51.met Try.prog 51 := ⟨⟨(funcOf Try.prog 51).1, (funcOf Try.prog 51).2.1, (funcOf Try.prog 51).2.2, by kernel_rfl⟩, ⟨(Try.prog.info? 51).getD default, .nilFunc, by kernel_rfl, by kernel_rfl, by kernel_rfl, by kernel_rfl, rfl, relL_cellAV _ [.nilFunc], relL_cellAV _ [.nilFunc]⟩, fun h => by cases h⟩
-- func(api.Commit)
def ty52 : TyRow := ⟨.func, 1, 8, [.nilF], false, false⟩
theorem ty52_met : ty52.met Try.prog 52 := ⟨⟨(funcOf Try.prog 52).1, (funcOf Try.prog 52).2.1, (funcOf Try.prog 52).2.2, by kernel_rfl⟩, ⟨(Try.prog.info? 52).getD default, .nilFunc, by kernel_rfl, by kernel_rfl, by kernel_rfl, by kernel_rfl, rfl, relL_cellAV _ [.nilFunc], relL_cellAV _ [.nilFunc]⟩, fun h => by cases h⟩
-- func([][2]int, int) int
def ty53 : TyRow := ⟨.func, 1, 8, [.nilF], false, false⟩
theorem ty53_met : ty53.met Try.prog 53 := ⟨⟨(funcOf Try.prog 53).1, (funcOf Try.prog 53).2.1, (funcOf Try.prog 53).2.2, by kernel_rfl⟩, ⟨(Try.prog.info? 53).getD default, .nilFunc, by kernel_rfl, by kernel_rfl, by kernel_rfl, by kernel_rfl, rfl, relL_cellAV _ [.nilFunc], relL_cellAV _ [.nilFunc]⟩, fun h => by cases h⟩
-- func([][2]int, int) [][2]int
def ty54 : TyRow := ⟨.func, 1, 8, [.nilF], false, false⟩
theorem ty54_met : ty54.met Try.prog 54 := ⟨⟨(funcOf Try.prog 54).1, (funcOf Try.prog 54).2.1, (funcOf Try.prog 54).2.2, by kernel_rfl⟩, ⟨(Try.prog.info? 54).getD default, .nilFunc, by kernel_rfl, by kernel_rfl, by kernel_rfl, by kernel_rfl, rfl, relL_cellAV _ [.nilFunc], relL_cellAV _ [.nilFunc]⟩, fun h => by cases h⟩
-- func(iter.Seq[int]) []int
def ty55 : TyRow := ⟨.func, 1, 8, [.nilF], false, false⟩
theorem ty55_met : ty55.met Try.prog 55 := ⟨⟨(funcOf Try.prog 55).1, (funcOf Try.prog 55).2.1, (funcOf Try.prog 55).2.2, by kernel_rfl⟩, ⟨(Try.prog.info? 55).getD default, .nilFunc, by kernel_rfl, by kernel_rfl, by kernel_rfl, by kernel_rfl, rfl, relL_cellAV _ [.nilFunc], relL_cellAV _ [.nilFunc]⟩, fun h => by cases h⟩
-- func(func(int) bool)
def ty56 : TyRow := ⟨.func, 1, 8, [.nilF], false, false⟩
theorem ty56_met : ty56.met Try.prog 56 := ⟨⟨(funcOf Try.prog 56).1, (funcOf Try.prog 56).2.1, (funcOf Try.prog 56).2.2, by kernel_rfl⟩, ⟨(Try.prog.info? 56).getD default, .nilFunc, by kernel_rfl, by kernel_rfl, by kernel_rfl, by kernel_rfl, rfl, relL_cellAV _ [.nilFunc], relL_cellAV _ [.nilFunc]⟩, fun h => by cases h⟩
-- iter.Seq[int]
def ty57 : TyRow := ⟨.func, 1, 8, [.nilF], false, false⟩
theorem ty57_met : ty57.met Try.prog 57 := ⟨⟨(funcOf Try.prog 57).1, (funcOf Try.prog 57).2.1, (funcOf Try.prog 57).2.2, by kernel_rfl⟩, ⟨(Try.prog.info? 57).getD default, .nilFunc, by kernel_rfl, by kernel_rfl, by kernel_rfl, by kernel_rfl, rfl, relL_cellAV _ [.nilFunc], relL_cellAV _ [.nilFunc]⟩, fun h => by cases h⟩
-- func(spec.state) iter.Seq[int]
def ty58 : TyRow := ⟨.func, 1, 8, [.nilF], false, false⟩
theorem ty58_met : ty58.met Try.prog 58 := ⟨⟨(funcOf Try.prog 58).1, (funcOf Try.prog 58).2.1, (funcOf Try.prog 58).2.2, by kernel_rfl⟩, ⟨(Try.prog.info? 58).getD default, .nilFunc, by kernel_rfl, by kernel_rfl, by kernel_rfl, by kernel_rfl, rfl, relL_cellAV _ [.nilFunc], relL_cellAV _ [.nilFunc]⟩, fun h => by cases h⟩
-- func([]int)
def ty60 : TyRow := ⟨.func, 1, 8, [.nilF], false, false⟩
theorem ty60_met : ty60.met Try.prog 60 := ⟨⟨(funcOf Try.prog 60).1, (funcOf Try.prog 60).2.1, (funcOf Try.prog 60).2.2, by kernel_rfl⟩, ⟨(Try.prog.info? 60).getD default, .nilFunc, by kernel_rfl, by kernel_rfl, by kernel_rfl, by kernel_rfl, rfl, relL_cellAV _ [.nilFunc], relL_cellAV _ [.nilFunc]⟩, fun h => by cases h⟩
-- func(int) bool
def ty61 : TyRow := ⟨.func, 1, 8, [.nilF], false, false⟩
theorem ty61_met : ty61.met Try.prog 61 := ⟨⟨(funcOf Try.prog 61).1, (funcOf Try.prog 61).2.1, (funcOf Try.prog 61).2.2, by kernel_rfl⟩, ⟨(Try.prog.info? 61).getD default, .nilFunc, by kernel_rfl, by kernel_rfl, by kernel_rfl, by kernel_rfl, rfl, relL_cellAV _ [.nilFunc], relL_cellAV _ [.nilFunc]⟩, fun h => by cases h⟩
-- func([]int, iter.Seq[int]) []int
def ty62 : TyRow := ⟨.func, 1, 8, [.nilF], false, false⟩
theorem ty62_met : ty62.met Try.prog 62 := ⟨⟨(funcOf Try.prog 62).1, (funcOf Try.prog 62).2.1, (funcOf Try.prog 62).2.2, by kernel_rfl⟩, ⟨(Try.prog.info? 62).getD default, .nilFunc, by kernel_rfl, by kernel_rfl, by kernel_rfl, by kernel_rfl, rfl, relL_cellAV _ [.nilFunc], relL_cellAV _ [.nilFunc]⟩, fun h => by cases h⟩
-- func([]int, int, int, int)
def ty63 : TyRow := ⟨.func, 1, 8, [.nilF], false, false⟩
theorem ty63_met : ty63.met Try.prog 63 := ⟨⟨(funcOf Try.prog 63).1, (funcOf Try.prog 63).2.1, (funcOf Try.prog 63).2.2, by kernel_rfl⟩, ⟨(Try.prog.info? 63).getD default, .nilFunc, by kernel_rfl, by kernel_rfl, by kernel_rfl, by kernel_rfl, rfl, relL_cellAV _ [.nilFunc], relL_cellAV _ [.nilFunc]⟩, fun h => by cases h⟩
-- func(uint) int
def ty64 : TyRow := ⟨.func, 1, 8, [.nilF], false, false⟩
theorem ty64_met : ty64.met Try.prog 64 := ⟨⟨(funcOf Try.prog 64).1, (funcOf Try.prog 64).2.1, (funcOf Try.prog 64).2.2, by kernel_rfl⟩, ⟨(Try.prog.info? 64).getD default, .nilFunc, by kernel_rfl, by kernel_rfl, by kernel_rfl, by kernel_rfl, rfl, relL_cellAV _ [.nilFunc], relL_cellAV _ [.nilFunc]⟩, fun h => by cases h⟩
-- uint
def ty65 : TyRow := ⟨.int .u64, 1, 8, [.lit .u64 0], false, false⟩
theorem ty65_met : ty65.met Try.prog 65 := ⟨(show Try.prog.underlying 65 = some (.int .u64) by kernel_rfl), ⟨(Try.prog.info? 65).getD default, (.int .u64 0), by kernel_rfl, by kernel_rfl, by kernel_rfl, by kernel_rfl, rfl, relL_cellAV _ [(.int .u64 0)], relL_cellAV _ [(.int .u64 0)]⟩, fun h => by cases h⟩
-- func([]int, int, int)
def ty66 : TyRow := ⟨.func, 1, 8, [.nilF], false, false⟩
theorem ty66_met : ty66.met Try.prog 66 := ⟨⟨(funcOf Try.prog 66).1, (funcOf Try.prog 66).2.1, (funcOf Try.prog 66).2.2, by kernel_rfl⟩, ⟨(Try.prog.info? 66).getD default, .nilFunc, by kernel_rfl, by kernel_rfl, by kernel_rfl, by kernel_rfl, rfl, relL_cellAV _ [.nilFunc], relL_cellAV _ [.nilFunc]⟩, fun h => by cases h⟩
-- slices.sortedHint
def ty67 : TyRow := ⟨.int .i64, 1, 8, [.lit .i64 0], false, false⟩
theorem ty67_met : ty67.met Try.prog 67 := ⟨(show Try.prog.underlying 67 = some (.int .i64) by kernel_rfl), ⟨(Try.prog.info? 67).getD default, (.int .i64 0), by kernel_rfl, by kernel_rfl, by kernel_rfl, by kernel_rfl, rfl, relL_cellAV _ [(.int .i64 0)], relL_cellAV _ [(.int .i64 0)]⟩, fun h => by cases h⟩
-- func([]int, int, int) (int, slices.sortedHint)
def ty69 : TyRow := ⟨.func, 1, 8, [.nilF], false, false⟩
theorem ty69_met : ty69.met Try.prog 69 := ⟨⟨(funcOf Try.prog 69).1, (funcOf Try.prog 69).2.1, (funcOf Try.prog 69).2.2, by kernel_rfl⟩, ⟨(Try.prog.info? 69).getD default, .nilFunc, by kernel_rfl, by kernel_rfl, by kernel_rfl, by kernel_rfl, rfl, relL_cellAV _ [.nilFunc], relL_cellAV _ [.nilFunc]⟩, fun h => by cases h⟩
-- func([]int, int, int) bool
def ty70 : TyRow := ⟨.func, 1, 8, [.nilF], false, false⟩
theorem ty70_met : ty70.met Try.prog 70 := ⟨⟨(funcOf Try.prog 70).1, (funcOf Try.prog 70).2.1, (funcOf Try.prog 70).2.2, by kernel_rfl⟩, ⟨(Try.prog.info? 70).getD default, .nilFunc, by kernel_rfl, by kernel_rfl, by kernel_rfl, by kernel_rfl, rfl, relL_cellAV _ [.nilFunc], relL_cellAV _ [.nilFunc]⟩, fun h => by cases h⟩
-- func(int, int) bool
def ty71 : TyRow := ⟨.func, 1, 8, [.nilF], false, false⟩
theorem ty71_met : ty71.met Try.prog 71 := ⟨⟨(funcOf Try.prog 71).1, (funcOf Try.prog 71).2.1, (funcOf Try.prog 71).2.2, by kernel_rfl⟩, ⟨(Try.prog.info? 71).getD default, .nilFunc, by kernel_rfl, by kernel_rfl, by kernel_rfl, by kernel_rfl, rfl, relL_cellAV _ [.nilFunc], relL_cellAV _ [.nilFunc]⟩, fun h => by cases h⟩
-- func([]int, int, int, int) int
def ty72 : TyRow := ⟨.func, 1, 8, [.nilF], false, false⟩
theorem ty72_met : ty72.met Try.prog 72 := ⟨⟨(funcOf Try.prog 72).1, (funcOf Try.prog 72).2.1, (funcOf Try.prog 72).2.2, by kernel_rfl⟩, ⟨(Try.prog.info? 72).getD default, .nilFunc, by kernel_rfl, by kernel_rfl, by kernel_rfl, by kernel_rfl, rfl, relL_cellAV _ [.nilFunc], relL_cellAV _ [.nilFunc]⟩, fun h => by cases h⟩
-- func([]int, int, int, int) (int, bool)
def ty73 : TyRow := ⟨.func, 1, 8, [.nilF], false, false⟩
theorem ty73_met : ty73.met Try.prog 73 := ⟨⟨(funcOf Try.prog 73).1, (funcOf Try.prog 73).2.1, (funcOf Try.prog 73).2.2, by kernel_rfl⟩, ⟨(Try.prog.info? 73).getD default, .nilFunc, by kernel_rfl, by kernel_rfl, by kernel_rfl, by kernel_rfl, rfl, relL_cellAV _ [.nilFunc], relL_cellAV _ [.nilFunc]⟩, fun h => by cases h⟩
-- func(uint32) int
def ty74 : TyRow := ⟨.func, 1, 8, [.nilF], false, false⟩
theorem ty74_met : ty74.met Try.prog 74 := ⟨⟨(funcOf Try.prog 74).1, (funcOf Try.prog 74).2.1, (funcOf Try.prog 74).2.2, by kernel_rfl⟩, ⟨(Try.prog.info? 74).getD default, .nilFunc, by kernel_rfl, by kernel_rfl, by kernel_rfl, by kernel_rfl, rfl, relL_cellAV _ [.nilFunc], relL_cellAV _ [.nilFunc]⟩, fun h => by cases h⟩
-- uint32
def ty75 : TyRow := ⟨.int .u32, 1, 4, [.lit .u32 0], false, false⟩
theorem ty75_met : ty75.met Try.prog 75 := ⟨(show Try.prog.underlying 75 = some (.int .u32) by kernel_rfl), ⟨(Try.prog.info? 75).getD default, (.int .u32 0), by kernel_rfl, by kernel_rfl, by kernel_rfl, by kernel_rfl, rfl, relL_cellAV _ [(.int .u32 0)], relL_cellAV _ [(.int .u32 0)]⟩, fun h => by cases h⟩
-- func(uint64) int
def ty76 : TyRow := ⟨.func, 1, 8, [.nilF], false, false⟩
theorem ty76_met : ty76.met Try.prog 76 := ⟨⟨(funcOf Try.prog 76).1, (funcOf Try.prog 76).2.1, (funcOf Try.prog 76).2.2, by kernel_rfl⟩, ⟨(Try.prog.info? 76).getD default, .nilFunc, by kernel_rfl, by kernel_rfl, by kernel_rfl, by kernel_rfl, rfl, relL_cellAV _ [.nilFunc], relL_cellAV _ [.nilFunc]⟩, fun h => by cases h⟩
-- uint64
def ty77 : TyRow := ⟨.int .u64, 1, 8, [.lit .u64 0], false, false⟩
theorem ty77_met : ty77.met Try.prog 77 := ⟨(show Try.prog.underlying 77 = some (.int .u64) by kernel_rfl), ⟨(Try.prog.info? 77).getD default, (.int .u64 0), by kernel_rfl, by kernel_rfl, by kernel_rfl, by kernel_rfl, rfl, relL_cellAV _ [(.int .u64 0)], relL_cellAV _ [(.int .u64 0)]⟩, fun h => by cases h⟩
-- slices.xorshift
def ty78 : TyRow := ⟨.int .u64, 1, 8, [.lit .u64 0], false, false⟩
theorem ty78_met : ty78.met Try.prog 78 := ⟨(show Try.prog.underlying 78 = some (.int .u64) by kernel_rfl), ⟨(Try.prog.info? 78).getD default, (.int .u64 0), by kernel_rfl, by kernel_rfl, by kernel_rfl, by kernel_rfl, rfl, relL_cellAV _ [(.int .u64 0)], relL_cellAV _ [(.int .u64 0)]⟩, fun h => by cases h⟩
-- func(int) uint
def ty79 : TyRow := ⟨.func, 1, 8, [.nilF], false, false⟩
theorem ty79_met : ty79.met Try.prog 79 := ⟨⟨(funcOf Try.prog 79).1, (funcOf Try.prog 79).2.1, (funcOf Try.prog 79).2.2, by kernel_rfl⟩, ⟨(Try.prog.info? 79).getD default, .nilFunc, by kernel_rfl, by kernel_rfl, by kernel_rfl, by kernel_rfl, rfl, relL_cellAV _ [.nilFunc], relL_cellAV _ [.nilFunc]⟩, fun h => by cases h⟩
-- func() uint64
def ty80 : TyRow := ⟨.func, 1, 8, [.nilF], false, false⟩
theorem ty80_met : ty80.met Try.prog 80 := ⟨⟨(funcOf Try.prog 80).1, (funcOf Try.prog 80).2.1, (funcOf Try.prog 80).2.2, by kernel_rfl⟩, ⟨(Try.prog.info? 80).getD default, .nilFunc, by kernel_rfl, by kernel_rfl, by kernel_rfl, by kernel_rfl, rfl, relL_cellAV _ [.nilFunc], relL_cellAV _ [.nilFunc]⟩, fun h => by cases h⟩
-- func([]int, int, *int) int
def ty81 : TyRow := ⟨.func, 1, 8, [.nilF], false, false⟩
theorem ty81_met : ty81.met Try.prog 81 := ⟨⟨(funcOf Try.prog 81).1, (funcOf Try.prog 81).2.1, (funcOf Try.prog 81).2.2, by kernel_rfl⟩, ⟨(Try.prog.info? 81).getD default, .nilFunc, by kernel_rfl, by kernel_rfl, by kernel_rfl, by kernel_rfl, rfl, relL_cellAV _ [.nilFunc], relL_cellAV _ [.nilFunc]⟩, fun h => by cases h⟩
-- *int
def ty82 : TyRow := ⟨.ptr 3, 1, 8, [.nilP], false, false⟩
theorem ty82_met : ty82.met Try.prog 82 := ⟨(show Try.prog.underlying 82 = some (.pointer 3) by kernel_rfl), ⟨(Try.prog.info? 82).getD default, (.pointer none), by kernel_rfl, by kernel_rfl, by kernel_rfl, by kernel_rfl, rfl, relL_cellAV _ [(.pointer none)], relL_cellAV _ [(.pointer none)]⟩, fun h => by cases h⟩
-- func([]int, int, int, int, *int) int
def ty83 : TyRow := ⟨.func, 1, 8, [.nilF], false, false⟩
theorem ty83_met : ty83.met Try.prog 83 := ⟨⟨(funcOf Try.prog 83).1, (funcOf Try.prog 83).2.1, (funcOf Try.prog 83).2.2, by kernel_rfl⟩, ⟨(Try.prog.info? 83).getD default, .nilFunc, by kernel_rfl, by kernel_rfl, by kernel_rfl, by kernel_rfl, rfl, relL_cellAV _ [.nilFunc], relL_cellAV _ [.nilFunc]⟩, fun h => by cases h⟩
-- *slices.xorshift
def ty84 : TyRow := ⟨.ptr 78, 1, 8, [.nilP], false, false⟩
theorem ty84_met : ty84.met Try.prog 84 := ⟨(show Try.prog.underlying 84 = some (.pointer 78) by kernel_rfl), ⟨(Try.prog.info? 84).getD default, (.pointer none), by kernel_rfl, by kernel_rfl, by kernel_rfl, by kernel_rfl, rfl, relL_cellAV _ [(.pointer none)], relL_cellAV _ [(.pointer none)]⟩, fun h => by cases h⟩
-- func([]int, int, int, *int) (int, int)
def ty86 : TyRow := ⟨.func, 1, 8, [.nilF], false, false⟩
theorem ty86_met : ty86.met Try.prog 86 := ⟨⟨(funcOf Try.prog 86).1, (funcOf Try.prog 86).2.1, (funcOf Try.prog 86).2.2, by kernel_rfl⟩, ⟨(Try.prog.info? 86).getD default, .nilFunc, by kernel_rfl, by kernel_rfl, by kernel_rfl, by kernel_rfl, rfl, relL_cellAV _ [.nilFunc], relL_cellAV _ [.nilFunc]⟩, fun h => by cases h⟩
-- func() string
def ty87 : TyRow := ⟨.func, 1, 8, [.nilF], false, false⟩
theorem ty87_met : ty87.met Try.prog 87 := ⟨⟨(funcOf Try.prog 87).1, (funcOf Try.prog 87).2.1, (funcOf Try.prog 87).2.2, by kernel_rfl⟩, ⟨(Try.prog.info? 87).getD default, .nilFunc, by kernel_rfl, by kernel_rfl, by kernel_rfl, by kernel_rfl, rfl, relL_cellAV _ [.nilFunc], relL_cellAV _ [.nilFunc]⟩, fun h => by cases h⟩
-- struct { _interface *abi.Type; concrete *abi.Type; asserted *abi.Type; missingMethod string }
def ty88 : TyRow := ⟨.struct [(0, 17), (1, 17), (2, 17), (3, 9)], 4, 40, [.nilP, .nilP, .nilP, .raw (.string (ByteArray.mk #[]))], false, false⟩
theorem ty88_met : ty88.met Try.prog 88 := ⟨⟨Try.prog.fieldsOf 88, by kernel_rfl, by kernel_rfl⟩, ⟨(Try.prog.info? 88).getD default, (.agg #[(.pointer none), (.pointer none), (.pointer none), (.string (ByteArray.mk #[]))]), by kernel_rfl, by kernel_rfl, by kernel_rfl, by kernel_rfl, rfl, ⟨[(.pointer none), (.pointer none), (.pointer none), (.string (ByteArray.mk #[]))], relL_cellAV _ [(.pointer none), (.pointer none), (.pointer none), (.string (ByteArray.mk #[]))], rfl⟩, relL_cellAV _ [(.pointer none), (.pointer none), (.pointer none), (.string (ByteArray.mk #[]))]⟩, fun h => by cases h⟩
-- runtime.TypeAssertionError
def ty89 : TyRow := ⟨.struct [(0, 17), (1, 17), (2, 17), (3, 9)], 4, 40, [.nilP, .nilP, .nilP, .raw (.string (ByteArray.mk #[]))], false, false⟩
theorem ty89_met : ty89.met Try.prog 89 := ⟨⟨Try.prog.fieldsOf 89, by kernel_rfl, by kernel_rfl⟩, ⟨(Try.prog.info? 89).getD default, (.agg #[(.pointer none), (.pointer none), (.pointer none), (.string (ByteArray.mk #[]))]), by kernel_rfl, by kernel_rfl, by kernel_rfl, by kernel_rfl, rfl, ⟨[(.pointer none), (.pointer none), (.pointer none), (.string (ByteArray.mk #[]))], relL_cellAV _ [(.pointer none), (.pointer none), (.pointer none), (.string (ByteArray.mk #[]))], rfl⟩, relL_cellAV _ [(.pointer none), (.pointer none), (.pointer none), (.string (ByteArray.mk #[]))]⟩, fun h => by cases h⟩
-- [0]*runtime.PanicNilError
def ty90 : TyRow := ⟨.array 0 16, 0, 0, [], false, false⟩
theorem ty90_met : ty90.met Try.prog 90 := ⟨(show Try.prog.underlying 90 = some (.array 0 16) by kernel_rfl), ⟨(Try.prog.info? 90).getD default, (.agg #[]), by kernel_rfl, by kernel_rfl, by kernel_rfl, by kernel_rfl, rfl, ⟨[], relL_cellAV _ [], rfl⟩, relL_cellAV _ []⟩, fun h => by cases h⟩
-- struct { _ [0]*runtime.PanicNilError }
def ty91 : TyRow := ⟨.struct [(0, 90)], 0, 0, [], false, false⟩
theorem ty91_met : ty91.met Try.prog 91 := ⟨⟨Try.prog.fieldsOf 91, by kernel_rfl, by kernel_rfl⟩, ⟨(Try.prog.info? 91).getD default, (.agg #[]), by kernel_rfl, by kernel_rfl, by kernel_rfl, by kernel_rfl, rfl, ⟨[], relL_cellAV _ [], rfl⟩, relL_cellAV _ []⟩, fun h => by cases h⟩
-- runtime.PanicNilError
def ty92 : TyRow := ⟨.struct [(0, 90)], 0, 0, [], false, false⟩
theorem ty92_met : ty92.met Try.prog 92 := ⟨⟨Try.prog.fieldsOf 92, by kernel_rfl, by kernel_rfl⟩, ⟨(Try.prog.info? 92).getD default, (.agg #[]), by kernel_rfl, by kernel_rfl, by kernel_rfl, by kernel_rfl, rfl, ⟨[], relL_cellAV _ [], rfl⟩, relL_cellAV _ []⟩, fun h => by cases h⟩
-- func() int
def ty93 : TyRow := ⟨.func, 1, 8, [.nilF], false, false⟩
theorem ty93_met : ty93.met Try.prog 93 := ⟨⟨(funcOf Try.prog 93).1, (funcOf Try.prog 93).2.1, (funcOf Try.prog 93).2.2, by kernel_rfl⟩, ⟨(Try.prog.info? 93).getD default, .nilFunc, by kernel_rfl, by kernel_rfl, by kernel_rfl, by kernel_rfl, rfl, relL_cellAV _ [.nilFunc], relL_cellAV _ [.nilFunc]⟩, fun h => by cases h⟩
-- abi.TFlag
def ty94 : TyRow := ⟨.int .u8, 1, 1, [.lit .u8 0], false, false⟩
theorem ty94_met : ty94.met Try.prog 94 := ⟨(show Try.prog.underlying 94 = some (.int .u8) by kernel_rfl), ⟨(Try.prog.info? 94).getD default, (.int .u8 0), by kernel_rfl, by kernel_rfl, by kernel_rfl, by kernel_rfl, rfl, relL_cellAV _ [(.int .u8 0)], relL_cellAV _ [(.int .u8 0)]⟩, fun h => by cases h⟩
-- abi.Kind
def ty95 : TyRow := ⟨.int .u8, 1, 1, [.lit .u8 0], false, false⟩
theorem ty95_met : ty95.met Try.prog 95 := ⟨(show Try.prog.underlying 95 = some (.int .u8) by kernel_rfl), ⟨(Try.prog.info? 95).getD default, (.int .u8 0), by kernel_rfl, by kernel_rfl, by kernel_rfl, by kernel_rfl, rfl, relL_cellAV _ [(.int .u8 0)], relL_cellAV _ [(.int .u8 0)]⟩, fun h => by cases h⟩
-- func(unsafe.Pointer, unsafe.Pointer) bool
def ty96 : TyRow := ⟨.func, 1, 8, [.nilF], false, false⟩
theorem ty96_met : ty96.met Try.prog 96 := ⟨⟨(funcOf Try.prog 96).1, (funcOf Try.prog 96).2.1, (funcOf Try.prog 96).2.2, by kernel_rfl⟩, ⟨(Try.prog.info? 96).getD default, .nilFunc, by kernel_rfl, by kernel_rfl, by kernel_rfl, by kernel_rfl, rfl, relL_cellAV _ [.nilFunc], relL_cellAV _ [.nilFunc]⟩, fun h => by cases h⟩
-- *uint8
def ty97 : TyRow := ⟨.ptr 5, 1, 8, [.nilP], false, false⟩
theorem ty97_met : ty97.met Try.prog 97 := ⟨(show Try.prog.underlying 97 = some (.pointer 5) by kernel_rfl), ⟨(Try.prog.info? 97).getD default, (.pointer none), by kernel_rfl, by kernel_rfl, by kernel_rfl, by kernel_rfl, rfl, relL_cellAV _ [(.pointer none)], relL_cellAV _ [(.pointer none)]⟩, fun h => by cases h⟩
-- abi.NameOff
def ty98 : TyRow := ⟨.int .i32, 1, 4, [.lit .i32 0], false, false⟩
theorem ty98_met : ty98.met Try.prog 98 := ⟨(show Try.prog.underlying 98 = some (.int .i32) by kernel_rfl), ⟨(Try.prog.info? 98).getD default, (.int .i32 0), by kernel_rfl, by kernel_rfl, by kernel_rfl, by kernel_rfl, rfl, relL_cellAV _ [(.int .i32 0)], relL_cellAV _ [(.int .i32 0)]⟩, fun h => by cases h⟩
-- abi.TypeOff
def ty99 : TyRow := ⟨.int .i32, 1, 4, [.lit .i32 0], false, false⟩
theorem ty99_met : ty99.met Try.prog 99 := ⟨(show Try.prog.underlying 99 = some (.int .i32) by kernel_rfl), ⟨(Try.prog.info? 99).getD default, (.int .i32 0), by kernel_rfl, by kernel_rfl, by kernel_rfl, by kernel_rfl, rfl, relL_cellAV _ [(.int .i32 0)], relL_cellAV _ [(.int .i32 0)]⟩, fun h => by cases h⟩
-- struct { Size_ uintptr; PtrBytes uintptr; Hash uint32; TFlag abi.TFlag; Align_ uint8; FieldAlign_ ui
def ty100 : TyRow := ⟨.struct [(0, 12), (1, 12), (2, 75), (3, 94), (4, 5), (5, 5), (6, 95), (7, 96), (8, 97), (9, 98), (10, 99)], 11, 48, [.lit .u64 0, .lit .u64 0, .lit .u32 0, .lit .u8 0, .lit .u8 0, .lit .u8 0, .lit .u8 0, .nilF, .nilP, .lit .i32 0, .lit .i32 0], false, false⟩
theorem ty100_met : ty100.met Try.prog 100 := ⟨⟨Try.prog.fieldsOf 100, by kernel_rfl, by kernel_rfl⟩, ⟨(Try.prog.info? 100).getD default, (.agg #[(.int .u64 0), (.int .u64 0), (.int .u32 0), (.int .u8 0), (.int .u8 0), (.int .u8 0), (.int .u8 0), .nilFunc, (.pointer none), (.int .i32 0), (.int .i32 0)]), by kernel_rfl, by kernel_rfl, by kernel_rfl, by kernel_rfl, rfl, ⟨[(.int .u64 0), (.int .u64 0), (.int .u32 0), (.int .u8 0), (.int .u8 0), (.int .u8 0), (.int .u8 0), .nilFunc, (.pointer none), (.int .i32 0), (.int .i32 0)], relL_cellAV _ [(.int .u64 0), (.int .u64 0), (.int .u32 0), (.int .u8 0), (.int .u8 0), (.int .u8 0), (.int .u8 0), .nilFunc, (.pointer none), (.int .i32 0), (.int .i32 0)], rfl⟩, relL_cellAV _ [(.int .u64 0), (.int .u64 0), (.int .u32 0), (.int .u8 0), (.int .u8 0), (.int .u8 0), (.int .u8 0), .nilFunc, (.pointer none), (.int .i32 0), (.int .i32 0)]⟩, fun h => by cases h⟩
-- abi.Type
def ty101 : TyRow := ⟨.struct [(0, 12), (1, 12), (2, 75), (3, 94), (4, 5), (5, 5), (6, 95), (7, 96), (8, 97), (9, 98), (10, 99)], 11, 48, [.lit .u64 0, .lit .u64 0, .lit .u32 0, .lit .u8 0, .lit .u8 0, .lit .u8 0, .lit .u8 0, .nilF, .nilP, .lit .i32 0, .lit .i32 0], false, false⟩
theorem ty101_met : ty101.met Try.prog 101 := ⟨⟨Try.prog.fieldsOf 101, by kernel_rfl, by kernel_rfl⟩, ⟨(Try.prog.info? 101).getD default, (.agg #[(.int .u64 0), (.int .u64 0), (.int .u32 0), (.int .u8 0), (.int .u8 0), (.int .u8 0), (.int .u8 0), .nilFunc, (.pointer none), (.int .i32 0), (.int .i32 0)]), by kernel_rfl, by kernel_rfl, by kernel_rfl, by kernel_rfl, rfl, ⟨[(.int .u64 0), (.int .u64 0), (.int .u32 0), (.int .u8 0), (.int .u8 0), (.int .u8 0), (.int .u8 0), .nilFunc, (.pointer none), (.int .i32 0), (.int .i32 0)], relL_cellAV _ [(.int .u64 0), (.int .u64 0), (.int .u32 0), (.int .u8 0), (.int .u8 0), (.int .u8 0), (.int .u8 0), .nilFunc, (.pointer none), (.int .i32 0), (.int .i32 0)], rfl⟩, relL_cellAV _ [(.int .u64 0), (.int .u64 0), (.int .u32 0), (.int .u8 0), (.int .u8 0), (.int .u8 0), (.int .u8 0), .nilFunc, (.pointer none), (.int .i32 0), (.int .i32 0)]⟩, fun h => by cases h⟩

def tyRows : List (Option TyRow) := [none, some ty1, some ty2, some ty3, some ty4, some ty5, some ty6, some ty7, some ty8, some ty9, some ty10, some ty11, some ty12, some ty13, some ty14, some ty15, some ty16, some ty17, some ty18, some ty19, some ty20, some ty21, some ty22, some ty23, some ty24, some ty25, some ty26, some ty27, some ty28, some ty29, some ty30, some ty31, some ty32, some ty33, some ty34, some ty35, none, some ty37, some ty38, some ty39, some ty40, some ty41, some ty42, some ty43, none, some ty45, some ty46, none, some ty48, some ty49, none, some ty51, some ty52, some ty53, some ty54, some ty55, some ty56, some ty57, some ty58, none, some ty60, some ty61, some ty62, some ty63, some ty64, some ty65, some ty66, some ty67, none, some ty69, some ty70, some ty71, some ty72, some ty73, some ty74, some ty75, some ty76, some ty77, some ty78, some ty79, some ty80, some ty81, some ty82, some ty83, some ty84, none, some ty86, some ty87, some ty88, some ty89, some ty90, some ty91, some ty92, some ty93, some ty94, some ty95, some ty96, some ty97, some ty98, some ty99, some ty100, some ty101]
def tab : Tab := fun t => (tyRows[t]?).join
theorem tyRows_met : RowsMet Try.prog 0 tyRows := ⟨ty1_met, ty2_met, ty3_met, ty4_met, ty5_met, ty6_met, ty7_met, ty8_met, ty9_met, ty10_met, ty11_met, ty12_met, ty13_met, ty14_met, ty15_met, ty16_met, ty17_met, ty18_met, ty19_met, ty20_met, ty21_met, ty22_met, ty23_met, ty24_met, ty25_met, ty26_met, ty27_met, ty28_met, ty29_met, ty30_met, ty31_met, ty32_met, ty33_met, ty34_met, ty35_met, ty37_met, ty38_met, ty39_met, ty40_met, ty41_met, ty42_met, ty43_met, ty45_met, ty46_met, ty48_met, ty49_met, ty51_met, ty52_met, ty53_met, ty54_met, ty55_met, ty56_met, ty57_met, ty58_met, ty60_met, ty61_met, ty62_met, ty63_met, ty64_met, ty65_met, ty66_met, ty67_met, ty69_met, ty70_met, ty71_met, ty72_met, ty73_met, ty74_met, ty75_met, ty76_met, ty77_met, ty78_met, ty79_met, ty80_met, ty81_met, ty82_met, ty83_met, ty84_met, ty86_met, ty87_met, ty88_met, ty89_met, ty90_met, ty91_met, ty92_met, ty93_met, ty94_met, ty95_met, ty96_met, ty97_met, ty98_met, ty99_met, ty100_met, ty101_met, trivial⟩
theorem tab_met : tab.met Try.prog := fun t R h => by simpa using rowsMet_get tyRows 0 t R tyRows_met h
end Sx
end Go.Proofs.Ythabfkcmhffjoaa

/-
  The records of this seat, and how they lie in cells.
-/
namespace Go.Proofs.Ythabfkcmhffjoaa
namespace Sx
open Go

def decI (x : AV) : Option Int := match x.num with | some (.i64, n, _) => some n | _ => none
def decB (x : AV) : Option Bool := match x.bl with | some (b, _) => some b | none => none
theorem decI_ok {x : AV} {n : Int} (h : decI x = some n) {r : Nm} {v : Value} (e : rel r x v) : rel r (.int .i64 n) v := by
  unfold decI at h
  split at h
  · rename_i m l hx; cases h; exact rel_num hx e
  · cases h
theorem decB_ok {x : AV} {b : Bool} (h : decB x = some b) {r : Nm} {v : Value} (e : rel r x v) : rel r (.bool b) v := by
  unfold decB at h
  split at h
  · rename_i m l hx; cases h; exact rel_bl hx e
  · cases h
def intDec : List AV → Option Int
  | [x] => decI x
  | _ => none
theorem intBack (cs : List AV) (a : Int) (h : intDec cs = some a) (r : Nm) (vs : List Value) (hr : relL r cs vs) : relL r [.int .i64 a] vs := by
  unfold intDec at h
  split at h
  · simp only [relL] at hr; obtain ⟨v, us, rfl, h1, rfl⟩ := hr; exact relL_cons.2 ⟨decI_ok h h1, relL_nil⟩
  · cases h
def intLay : Enc Int := ⟨1, false, fun n => [.int .i64 n], intDec, 0, fun _ => rfl, intBack, fun a r vs h => relL_one (xs := [.int .i64 a]) rfl h, by decide⟩
def ptrDec : List AV → Option (Option (Nat × Nat))
  | [.rp o] => some o
  | [.nilP] => some none
  | _ => none
theorem ptrBack (cs : List AV) (a : Option (Nat × Nat)) (h : ptrDec cs = some a) (r : Nm) (vs : List Value) (hr : relL r cs vs) : relL r [.rp a] vs := by
  unfold ptrDec at h
  split at h
  · cases h; exact hr
  · cases h; simp only [relL] at hr; obtain ⟨v, us, rfl, h1, rfl⟩ := hr; exact relL_cons.2 ⟨h1, relL_nil⟩
  · cases h
def ptrLay : Enc (Option (Nat × Nat)) := ⟨1, false, fun n => [.rp n], ptrDec, none, fun _ => rfl, ptrBack, fun a r vs h => relL_one (xs := [.rp a]) rfl h, by decide⟩
def boolDec : List AV → Option Bool
  | [x] => decB x
  | _ => none
theorem boolBack (cs : List AV) (a : Bool) (h : boolDec cs = some a) (r : Nm) (vs : List Value) (hr : relL r cs vs) : relL r [.bool a] vs := by
  unfold boolDec at h
  split at h
  · simp only [relL] at hr; obtain ⟨v, us, rfl, h1, rfl⟩ := hr; exact relL_cons.2 ⟨decB_ok h h1, relL_nil⟩
  · cases h
def boolLay : Enc Bool := ⟨1, false, fun n => [.bool n], boolDec, false, fun _ => rfl, boolBack, fun a r vs h => relL_one (xs := [.bool a]) rfl h, by decide⟩

structure Com where
  act : Int
  key : Int
  value : Int
  hit : Bool
  deriving DecidableEq
def Com.enc (a : Com) : List AV := [.int .i64 a.act, .int .i64 a.key, .int .i64 a.value, .bool a.hit]
def Com.dec : List AV → Option Com
  | [x0, x1, x2, x3] => (decI x0).bind fun n0 => (decI x1).bind fun n1 => (decI x2).bind fun n2 => (decB x3).bind fun n3 => some (⟨n0, n1, n2, n3⟩ : Com)
  | _ => none
theorem Com.back (cs : List AV) (a : Com) (h : Com.dec cs = some a) (r : Nm) (vs : List Value) (hr : relL r cs vs) : relL r (Com.enc a) vs := by
  unfold Com.dec at h
  split at h
  · simp only [relL] at hr
    obtain ⟨v0, u0, rfl, h0, ⟨v1, u1, rfl, h1, ⟨v2, u2, rfl, h2, ⟨v3, u3, rfl, h3, rfl⟩⟩⟩⟩ := hr
    obtain ⟨n0, e0, h⟩ := Option.bind_eq_some_iff.1 h
    obtain ⟨n1, e1, h⟩ := Option.bind_eq_some_iff.1 h
    obtain ⟨n2, e2, h⟩ := Option.bind_eq_some_iff.1 h
    obtain ⟨n3, e3, h⟩ := Option.bind_eq_some_iff.1 h
    cases h
    simp only [Com.enc]
    exact relL_cons.2 ⟨decI_ok e0 h0, relL_cons.2 ⟨decI_ok e1 h1, relL_cons.2 ⟨decI_ok e2 h2, relL_cons.2 ⟨decB_ok e3 h3, relL_nil⟩⟩⟩⟩
  · cases h
def Com.lay : Enc Com := ⟨4, true, Com.enc, Com.dec, ⟨0, 0, 0, false⟩, fun _ => rfl, Com.back, fun a r vs h => relL_one (xs := Com.enc a) rfl h, by decide⟩
structure Pr where
  k : Int
  v : Int
  deriving DecidableEq
def Pr.enc (a : Pr) : List AV := [.int .i64 a.k, .int .i64 a.v]
def Pr.dec : List AV → Option Pr
  | [x0, x1] => (decI x0).bind fun n0 => (decI x1).bind fun n1 => some (⟨n0, n1⟩ : Pr)
  | _ => none
theorem Pr.back (cs : List AV) (a : Pr) (h : Pr.dec cs = some a) (r : Nm) (vs : List Value) (hr : relL r cs vs) : relL r (Pr.enc a) vs := by
  unfold Pr.dec at h
  split at h
  · simp only [relL] at hr
    obtain ⟨v0, u0, rfl, h0, ⟨v1, u1, rfl, h1, rfl⟩⟩ := hr
    obtain ⟨n0, e0, h⟩ := Option.bind_eq_some_iff.1 h
    obtain ⟨n1, e1, h⟩ := Option.bind_eq_some_iff.1 h
    cases h
    simp only [Pr.enc]
    exact relL_cons.2 ⟨decI_ok e0 h0, relL_cons.2 ⟨decI_ok e1 h1, relL_nil⟩⟩
  · cases h
def Pr.lay : Enc Pr := ⟨2, true, Pr.enc, Pr.dec, ⟨0, 0⟩, fun _ => rfl, Pr.back, fun a r vs h => relL_one (xs := Pr.enc a) rfl h, by decide⟩
end Sx
end Go.Proofs.Ythabfkcmhffjoaa

/-
  The kinds of elements of this seat.
-/
namespace Go.Proofs.Ythabfkcmhffjoaa
namespace Sx
open Go

inductive Kd where
  | int | bool | com | pr
  deriving DecidableEq

@[reducible] def kEl : Kd → Type
  | .int => Int
  | .bool => Bool
  | .com => Com
  | .pr => Pr
@[reducible] def kEnc : (k : Kd) → Enc (kEl k)
  | .int => intLay
  | .bool => boolLay
  | .com => Com.lay
  | .pr => Pr.lay
abbrev V : Uni := ⟨Kd, inferInstance, kEl, kEnc, Empty, fun x => x.elim⟩
instance plainV : Plain V := ⟨fun k a f => by cases k <;> rfl⟩
instance bareV : Bare V := ⟨fun k a => by cases k <;> rfl⟩

def kinds : Kinds V := fun t => match t with
  | 3 => some .int
  | 4 => some .bool
  | 35 => some .com
  | 27 => some .pr
  | _ => none
theorem kinds_met : kinds.met tab := by
  intro e k h
  unfold kinds at h
  split at h <;> cases h
  · exact ⟨ty3, rfl, rfl, rfl, by decide, fun r vs h => h⟩
  · exact ⟨ty4, rfl, rfl, rfl, by decide, fun r vs h => h⟩
  · exact ⟨ty35, rfl, rfl, rfl, by decide, fun r vs h => h⟩
  · exact ⟨ty27, rfl, rfl, rfl, by decide, fun r vs h => h⟩
theorem mixed_met : Try.prog.follows .mixedOrders = true := by kernel_rfl

noncomputable def fnsOf (l : List (Nat × Func)) : Nat → Option Func := fun g => l.lookup g
end Sx
end Go.Proofs.Ythabfkcmhffjoaa

/-
  What is held, and which commits are legal, as plain data: by a map, and by a sorted row.
-/
namespace Go.Proofs.Ythabfkcmhffjoaa
namespace Sx
open Go
set_option linter.unusedSimpArgs false
set_option linter.unusedVariables false

abbrev cc0 : Com := ⟨0, 0, 0, false⟩
abbrev pr0 : Pr := ⟨0, 0⟩
/-- The commit that is legal where a key's value is this one. -/
def ansC (g : Option Int) (d k v : Int) : Com :=
  if d = 2 then ⟨2, k, v, false⟩
  else if d = 1 ∨ d = 3 then ⟨d, k, g.getD 0, g.isSome⟩
  else if d = 4 ∧ g.isSome = true then ⟨4, k, g.getD 0, true⟩
  else cc0
def okC (g : Option Int) (c : Com) : Prop := ansC g c.act c.key c.value = c ∧ c.act ≠ 0
instance (g : Option Int) (c : Com) : Decidable (okC g c) := by unfold okC; infer_instance
abbrev Mp := List (Int × Int)
def doM (m : Mp) (c : Com) : Mp := if c.act = 2 then mput m c.key c.value else if c.act = 3 ∨ c.act = 4 then mdel m c.key else m
def runM : List Com → Mp → Nat × Mp
  | [], m => (0, m)
  | c :: t, m => if okC (mget m c.key) c then ((runM t (doM m c)).1 + 1, (runM t (doM m c)).2) else (0, m)
def legal (l : List Com) : Nat := (runM l []).1
def evsOf (l : List Com) : List Int := (l.filter fun c => decide (c.act = 4)).map Com.key
def plainOf (l : List Com) : Bool := decide (legal l = l.length) && decide ((evsOf l).length = 0)

/-! ## a sorted row -/
def isK (k : Int) (p : Pr) : Bool := decide (p.k = k)
def fnd (l : List Pr) (k : Int) : Nat := l.findIdx (isK k)
def fndI (l : List Pr) (k : Int) : Int := if fnd l k < l.length then (fnd l k : Int) else -1
def rget (l : List Pr) (k : Int) : Option Int := if fnd l k < l.length then some (l.getD (fnd l k) pr0).v else none
def lowK (k : Int) (p : Pr) : Bool := decide (p.k < k)
def below (l : List Pr) (k : Int) : Nat := (l.takeWhile (lowK k)).length
def without (l : List Pr) (i : Nat) : List Pr := l.take i ++ l.drop (i + 1)
def away (l : List Pr) (k : Int) : List Pr := if fnd l k < l.length then without l (fnd l k) else l
def nextR (l : List Pr) (d k v : Int) : List Pr :=
  if d = 2 then (away l k).take (below (away l k) k) ++ [⟨k, v⟩] ++ (away l k).drop (below (away l k) k)
  else if d = 3 ∨ d = 4 then away l k else l
def runR : List Com → List Pr → Nat × List Pr
  | [], m => (0, m)
  | c :: t, m => if okC (rget m c.key) c then ((runR t (nextR m c.act c.key c.value)).1 + 1, (runR t (nextR m c.act c.key c.value)).2) else (0, m)

def Sorted (l : List Pr) : Prop := l.Pairwise fun a b => a.k < b.k

theorem fnd_le (l : List Pr) (k : Int) : fnd l k ≤ l.length := List.findIdx_le_length
theorem rget_cons (p : Pr) (l : List Pr) (k : Int) : rget (p :: l) k = if p.k = k then some p.v else rget l k := by
  unfold rget fnd
  rw [List.findIdx_cons]
  by_cases h : p.k = k
  · have : isK k p = true := decide_eq_true h
    rw [this, if_pos h]; simp
  · have : isK k p = false := decide_eq_false h
    rw [this, if_neg h]
    simp only [cond_false, List.length_cons, Nat.add_lt_add_iff_right, List.getD_cons_succ]
theorem fnd_cons (p : Pr) (l : List Pr) (k : Int) : fnd (p :: l) k = if p.k = k then 0 else fnd l k + 1 := by
  unfold fnd
  rw [List.findIdx_cons]
  by_cases h : p.k = k
  · have : isK k p = true := decide_eq_true h
    rw [this, if_pos h]; rfl
  · have : isK k p = false := decide_eq_false h
    rw [this, if_neg h]; rfl
theorem away_cons (p : Pr) (l : List Pr) (k : Int) : away (p :: l) k = if p.k = k then l else p :: away l k := by
  unfold away
  rw [fnd_cons]
  by_cases h : p.k = k
  · rw [if_pos h, if_pos h]; simp [without]
  · rw [if_neg h, if_neg h]
    by_cases h2 : fnd l k < l.length
    · rw [if_pos (by simp; exact h2), if_pos h2]; simp [without]
    · rw [if_neg (by simp; omega), if_neg h2]
theorem low_none {l : List Pr} {k : Int} (h : ∀ p ∈ l, k < p.k) : rget l k = none := by
  induction l with
  | nil => rfl
  | cons p l ih =>
    rw [rget_cons, if_neg (by have := h p (by simp); omega)]
    exact ih fun q hq => h q (by simp [hq])
theorem away_sub (l : List Pr) (k : Int) : (away l k).Sublist l := by
  induction l with
  | nil => exact List.Sublist.refl _
  | cons p l ih =>
    rw [away_cons]
    split
    · exact List.sublist_cons_self ..
    · exact ih.cons_cons p
theorem away_sorted {l : List Pr} (h : Sorted l) (k : Int) : Sorted (away l k) := List.Pairwise.sublist (away_sub l k) h
theorem away_get {l : List Pr} (h : Sorted l) (k j : Int) : rget (away l k) j = if j = k then none else rget l j := by
  induction l with
  | nil => simp [away, fnd, rget]
  | cons p l ih =>
    have h' := List.pairwise_cons.1 h
    rw [away_cons]
    by_cases hp : p.k = k
    · rw [if_pos hp, rget_cons]
      by_cases hj : j = k
      · rw [if_pos hj]
        exact low_none fun q hq => by have := h'.1 q hq; omega
      · rw [if_neg hj, if_neg (by omega)]
    · rw [if_neg hp, rget_cons, ih h'.2, rget_cons]
      by_cases hj : j = k
      · rw [if_pos hj, if_pos hj, if_neg (by omega)]
      · rw [if_neg hj, if_neg hj]
def putS (l : List Pr) (k v : Int) : List Pr := l.take (below l k) ++ [⟨k, v⟩] ++ l.drop (below l k)
theorem putS_nil (k v : Int) : putS [] k v = [⟨k, v⟩] := rfl
theorem putS_cons (p : Pr) (l : List Pr) (k v : Int) : putS (p :: l) k v = if p.k < k then p :: putS l k v else ⟨k, v⟩ :: p :: l := by
  unfold putS below
  by_cases h : p.k < k
  · have : lowK k p = true := decide_eq_true h
    rw [if_pos h, List.takeWhile_cons, if_pos this]; rfl
  · have : lowK k p = false := decide_eq_false h
    rw [if_neg h, List.takeWhile_cons, if_neg (by rw [this]; decide)]; rfl
theorem putS_mem {l : List Pr} {k v : Int} {q : Pr} (h : q ∈ putS l k v) : q = ⟨k, v⟩ ∨ q ∈ l := by
  unfold putS at h
  rcases List.mem_append.1 h with h | h
  · rcases List.mem_append.1 h with h | h
    · exact .inr (List.mem_of_mem_take h)
    · exact .inl (by simpa using h)
  · exact .inr (List.mem_of_mem_drop h)
theorem putS_sorted {l : List Pr} (h : Sorted l) {k v : Int} (hn : rget l k = none) : Sorted (putS l k v) := by
  induction l with
  | nil => exact List.pairwise_singleton _ _
  | cons p l ih =>
    have h' := List.pairwise_cons.1 h
    rw [rget_cons] at hn
    have hpk : p.k ≠ k := fun e => by rw [if_pos e] at hn; cases hn
    rw [if_neg hpk] at hn
    rw [putS_cons]
    split
    · rename_i hlt
      refine List.pairwise_cons.2 ⟨fun q hq => ?_, ih h'.2 hn⟩
      rcases putS_mem hq with rfl | hq
      · exact hlt
      · exact h'.1 q hq
    · rename_i hlt
      refine List.pairwise_cons.2 ⟨fun q hq => ?_, h⟩
      show k < q.k
      rcases List.mem_cons.1 hq with rfl | hq
      · omega
      · have := h'.1 q hq; omega
theorem putS_get {l : List Pr} {k v : Int} (hn : rget l k = none) (j : Int) : rget (putS l k v) j = if j = k then some v else rget l j := by
  induction l with
  | nil =>
    rw [putS_nil, rget_cons]
    by_cases h : j = k
    · rw [if_pos h, if_pos h.symm]
    · rw [if_neg h, if_neg fun e => h e.symm]
  | cons p l ih =>
    rw [rget_cons] at hn
    have hpk : p.k ≠ k := fun e => by rw [if_pos e] at hn; cases hn
    rw [if_neg hpk] at hn
    rw [putS_cons]
    split
    · rw [rget_cons, ih hn, rget_cons]
      by_cases h : j = k
      · rw [if_pos h, if_pos h, if_neg (by omega)]
      · rw [if_neg h, if_neg h]
    · rw [rget_cons]
      by_cases h : j = k
      · rw [if_pos h, if_pos h.symm]
      · rw [if_neg h, if_neg (fun e => h e.symm)]
theorem nextR_sorted {l : List Pr} (h : Sorted l) (d k v : Int) : Sorted (nextR l d k v) := by
  unfold nextR
  split
  · exact putS_sorted (away_sorted h k) (by rw [away_get h, if_pos rfl])
  · split
    · exact away_sorted h k
    · exact h
theorem nextR_get {l : List Pr} (h : Sorted l) (d k v j : Int) : rget (nextR l d k v) j = if j = k then (if d = 2 then some v else if d = 3 ∨ d = 4 then none else rget l k) else rget l j := by
  unfold nextR
  split
  · rw [show (away l k).take (below (away l k) k) ++ [⟨k, v⟩] ++ (away l k).drop (below (away l k) k) = putS (away l k) k v from rfl, putS_get (by rw [away_get h, if_pos rfl]), away_get h]
    by_cases hj : j = k
    · rw [if_pos hj, if_pos hj]
    · rw [if_neg hj, if_neg hj, if_neg hj]
  · split
    · rw [away_get h]
    · by_cases hj : j = k
      · rw [if_pos hj, hj]
      · rw [if_neg hj]

/-! ## both ways alike -/
theorem mgetput : ∀ (m : Mp) (n x k : Int), mget (mput m n x) k = if k = n then some x else mget m k
  | [], n, x, k => rfl
  | (j, y) :: m, n, x, k => by
    unfold mput
    by_cases h : n = j
    · rw [if_pos h]
      show (if k = j then some x else mget m k) = if k = n then some x else (if k = j then some y else mget m k)
      subst h
      by_cases hk : k = n
      · rw [if_pos hk, if_pos hk]
      · rw [if_neg hk, if_neg hk, if_neg hk]
    · rw [if_neg h]
      show (if k = j then some y else mget (mput m n x) k) = if k = n then some x else (if k = j then some y else mget m k)
      rw [mgetput m n x k]
      by_cases hk : k = j
      · rw [if_pos hk, if_pos hk, if_neg (fun hh => h (hh.symm.trans hk))]
      · rw [if_neg hk, if_neg hk]
def OneK (m : Mp) : Prop := (m.map (·.1)).Nodup
theorem mget_none : ∀ {m : Mp} {n : Int}, n ∉ m.map (·.1) → mget m n = none
  | [], _, _ => rfl
  | (j, y) :: m, n, h => by
    show (if n = j then some y else mget m n) = none
    rw [if_neg (fun e => h (by simp [e]))]
    exact mget_none fun hm => h (by simp at hm ⊢; exact .inr hm)
theorem mgetdel : ∀ {m : Mp}, OneK m → ∀ (n k : Int), mget (mdel m n) k = if k = n then none else mget m k
  | [], _, n, k => by show none = if k = n then none else none; split <;> rfl
  | (j, y) :: m, h, n, k => by
    have h' := List.nodup_cons.1 h
    unfold mdel
    by_cases hn : n = j
    · rw [if_pos hn]
      show mget m k = if k = n then none else (if k = j then some y else mget m k)
      by_cases hk : k = n
      · rw [if_pos hk, hk, hn]
        exact mget_none h'.1
      · rw [if_neg hk, if_neg (by omega)]
    · rw [if_neg hn]
      show (if k = j then some y else mget (mdel m n) k) = if k = n then none else (if k = j then some y else mget m k)
      rw [mgetdel h'.2 n k]
      by_cases hk : k = j
      · rw [if_pos hk, if_pos hk, if_neg (by omega)]
      · rw [if_neg hk, if_neg hk]
theorem mput_keys : ∀ (m : Mp) (n x k : Int), k ∈ (mput m n x).map (·.1) ↔ k = n ∨ k ∈ m.map (·.1)
  | [], n, x, k => by simp [mput]
  | (j, y) :: m, n, x, k => by
    unfold mput
    by_cases h : n = j
    · rw [if_pos h]; simp [h]
    · rw [if_neg h]
      have ih := mput_keys m n x k
      simp only [List.map_cons, List.mem_cons]
      rw [ih]
      constructor
      · rintro (h | h | h)
        · exact .inr (.inl h)
        · exact .inl h
        · exact .inr (.inr h)
      · rintro (h | h | h)
        · exact .inr (.inl h)
        · exact .inl h
        · exact .inr (.inr h)
theorem mput_one : ∀ {m : Mp}, OneK m → ∀ (n x : Int), OneK (mput m n x)
  | [], _, n, x => by simp [OneK, mput]
  | (j, y) :: m, h, n, x => by
    have h' := List.nodup_cons.1 h
    unfold mput
    by_cases hn : n = j
    · rw [if_pos hn]; exact h
    · rw [if_neg hn]
      refine List.nodup_cons.2 ⟨fun hm => ?_, mput_one h'.2 n x⟩
      rcases (mput_keys m n x j).1 hm with h1 | h1
      · exact hn h1.symm
      · exact h'.1 h1
theorem mdel_sub : ∀ (m : Mp) (n : Int), (mdel m n).Sublist m
  | [], n => List.Sublist.refl _
  | (j, y) :: m, n => by
    unfold mdel
    split
    · exact List.sublist_cons_self ..
    · exact (mdel_sub m n).cons_cons _
theorem mdel_one {m : Mp} (h : OneK m) (n : Int) : OneK (mdel m n) := List.Nodup.sublist ((mdel_sub m n).map _) h
theorem doM_one {m : Mp} (h : OneK m) (c : Com) : OneK (doM m c) := by
  unfold doM
  split
  · exact mput_one h _ _
  · split
    · exact mdel_one h _
    · exact h
theorem doM_get {m : Mp} (h : OneK m) (c : Com) (j : Int) : mget (doM m c) j = if j = c.key then (if c.act = 2 then some c.value else if c.act = 3 ∨ c.act = 4 then none else mget m c.key) else mget m j := by
  unfold doM
  split
  · rw [mgetput]
  · split
    · rw [mgetdel h]
    · split
      · rename_i e; rw [e]
      · rfl
structure Alike (m : Mp) (l : List Pr) : Prop where
  one : OneK m
  srt : Sorted l
  get : ∀ k, rget l k = mget m k
theorem Alike.nil : Alike [] [] := ⟨List.nodup_nil, List.Pairwise.nil, fun k => rfl⟩
theorem Alike.step {m : Mp} {l : List Pr} (A : Alike m l) (c : Com) : Alike (doM m c) (nextR l c.act c.key c.value) :=
  ⟨doM_one A.one c, nextR_sorted A.srt _ _ _, fun k => by rw [nextR_get A.srt, doM_get A.one, A.get, A.get]⟩
theorem run_alike : ∀ (t : List Com) {m : Mp} {l : List Pr}, Alike m l → (runR t l).1 = (runM t m).1 ∧ Alike (runM t m).2 (runR t l).2
  | [], m, l, A => ⟨rfl, A⟩
  | c :: t, m, l, A => by
    have ih := run_alike t (A.step c)
    unfold runR runM
    rw [A.get]
    split
    · exact ⟨congrArg (· + 1) ih.1, ih.2⟩
    · exact ⟨rfl, A⟩
theorem legal_alike (l : List Com) : (runR l []).1 = legal l := (run_alike l Alike.nil).1

theorem runM_le : ∀ (t : List Com) (m : Mp), (runM t m).1 ≤ t.length
  | [], m => Nat.le_refl _
  | c :: t, m => by
    have ih := runM_le t (doM m c)
    unfold runM
    split
    · show _ + 1 ≤ _ + 1; omega
    · exact Nat.zero_le _
theorem away_len (l : List Pr) (k : Int) : (away l k).length ≤ l.length := (away_sub l k).length_le
theorem putS_len (l : List Pr) (k v : Int) : (putS l k v).length = l.length + 1 := by
  unfold putS
  simp only [List.length_append, List.length_cons, List.length_nil, List.length_take, List.length_drop]
  omega
theorem nextR_len (l : List Pr) (d k v : Int) : (nextR l d k v).length ≤ l.length + 1 := by
  have := away_len l k
  unfold nextR
  split
  · have := putS_len (away l k) k v
    show (putS (away l k) k v).length ≤ _
    omega
  · split <;> omega
theorem drop_cons {α : Type} (l : List α) (d : α) {i : Nat} (h : i < l.length) : l.drop i = l.getD i d :: l.drop (i + 1) := by
  rw [List.drop_eq_getElem_cons h, List.getD_eq_getElem?_getD, List.getElem?_eq_getElem h]; rfl

end Sx
end Go.Proofs.Ythabfkcmhffjoaa

/-
  What commits are legal, by a map: the runs of the machine.
-/
namespace Go.Proofs.Ythabfkcmhffjoaa
namespace Sx
open Go
set_option maxRecDepth 100000
set_option linter.unusedVariables false

noncomputable def fnsQ : Nat → Option Func := fun g => match g with | 28 => some Try.f28 | 29 => some Try.f29 | _ => none
noncomputable def cfgQ0 : Cfg Try.prog V := ⟨tab, kinds, fnsQ, fun _ => none, fun _ _ => none⟩
abbrev TQ : List Nat := [0, 1, 2, 3, 4, 5, 6, 7, 8, 9, 10, 11, 12, 13, 14, 15, 16]
structure QPQ where
  l : List Com
  c : Nat
  hb : l.length ≤ 1099511627776
def QI1 (p : QPQ) (x : Nat × Mp) : St V := ⟨[(0, .sl false 0 0 4 p.l.length p.c), (4, .mp 1), (10, .sl false 0 0 4 p.l.length p.c), (11, .int .i64 (p.l.length : Int)), (12, .int .i64 (x.1 : Int))], [(1, .mp .i64 Kd.int x.2), (0, .ro Kd.com p.l)], 2, 44, TQ⟩
def QR1 (p : QPQ) (x : Nat × Mp) : St V := ⟨[(2, .int .i64 (x.1 : Int)), (3, .mp 1)], [(1, .mp .i64 Kd.int x.2), (0, .ro Kd.com p.l)], 2, 44, TQ⟩
def QL1 : LoopS V := trimLoop (trimSt [0, 4, 10, 11, 12] [0, 1]) (loopG 2 (fun p : QPQ => QI1 p (0, [])) (fun p (m : Mp) => runM p.l [] = (p.l.length, m)) (fun p m => QI1 p (p.l.length, m)) (fun p (z : Nat × Mp) => runM p.l [] = z) (fun p z => QR1 p z))
def QI2 (p : QPQ) (x : Nat × Nat) : St V := ⟨[(3, .sl false 1 0 1 (evsOf (p.l.take x.1)).length ((evsOf (p.l.take x.1)).length + x.2)), (6, .sl false 0 0 4 p.l.length p.c), (7, .int .i64 (p.l.length : Int)), (8, .int .i64 (x.1 : Int))], [(1, .arr 3 Kd.int (evsOf (p.l.take x.1)) x.2), (0, .ro Kd.com p.l)], 2, 22, TQ⟩
def QL2 : LoopS V := trimLoop (trimSt [3, 6, 7, 8] [0]) (loopH 1 (fun p : QPQ => QI2 p (0, 0)) (fun _ (_ : Nat) => True) (fun p s => QI2 p (p.l.length, s)))
noncomputable def cfgQ1 : Cfg Try.prog V := ⟨tab, kinds, fun _ => none, fun _ => none, fun f id => match f, id with | 24, 0 => some QL1 | 18, 0 => some QL2 | _, _ => none⟩
theorem qb1 (p : QPQ) (x : Nat × Mp) : runCode cfgQ0 60 24 (loopOf Try.f24 0) (QI1 p x) (stopT (trimSt [0, 2, 3, 4, 10, 11, 12] [0, 1])) = Out.ite (decide ((↑x.1 : Int) < (↑p.l.length : Int))) (Out.need (0 ≤ (↑x.1 : Int) ∧ (↑x.1 : Int) < (↑p.l.length : Int)) (Out.need (0 + x.1 < p.l.length) (Out.ite ((p.l.getD (0 + x.1) (V.enc Kd.com).dflt).act == 2) (Out.ite (!((p.l.getD (0 + x.1) (V.enc Kd.com).dflt).act == (p.l.getD (0 + x.1) (V.enc Kd.com).dflt).act && ((p.l.getD (0 + x.1) (V.enc Kd.com).dflt).key == (p.l.getD (0 + x.1) (V.enc Kd.com).dflt).key && ((p.l.getD (0 + x.1) (V.enc Kd.com).dflt).value == (p.l.getD (0 + x.1) (V.enc Kd.com).dflt).value && (false == (p.l.getD (0 + x.1) (V.enc Kd.com).dflt).hit && true))))) (Out.stop EX.rt {env := [(0, .sl false 0 0 4 p.l.length p.2), (2, .int .i64 (↑x.1 : Int)), (3, .mp 1), (4, .mp 1), (10, .sl false 0 0 4 p.l.length p.2), (11, .int .i64 (↑p.l.length : Int)), (12, .int .i64 (↑x.1 : Int))], heap := [(1, .mp .i64 Kd.int x.snd), (0, .ro Kd.com p.l)], nx := 10, nt := 44, tl := [8, 5, 4, 2, 8, 4, 5, 2, 0, 1, 2, 3, 4, 5, 6, 7, 8, 9, 10, 11, 12, 13, 14, 15, 16] : St V }) (Out.ite ((p.l.getD (0 + x.1) (V.enc Kd.com).dflt).act == 2) (Out.stop EX.nx {env := [(0, .sl false 0 0 4 p.l.length p.2), (2, .und), (3, .und), (4, .mp 1), (10, .sl false 0 0 4 p.l.length p.2), (11, .int .i64 (↑p.l.length : Int)), (12, .int .i64 (IntKind.i64.wrap ((↑x.1 : Int) + 1)))], heap := [(1, .mp .i64 Kd.int (mput x.snd (p.l.getD (0 + x.1) (V.enc Kd.com).dflt).key (p.l.getD (0 + x.1) (V.enc Kd.com).dflt).value)), (0, .ro Kd.com p.l)], nx := 12, nt := 44, tl := [10, 8, 5, 4, 2, 1, 8, 4, 5, 2, 0, 1, 2, 3, 4, 5, 6, 7, 8, 9, 10, 11, 12, 13, 14, 15, 16] : St V }) (Out.ite ((p.l.getD (0 + x.1) (V.enc Kd.com).dflt).act == 3) (Out.ite ((p.l.getD (0 + x.1) (V.enc Kd.com).dflt).act == 3) (Out.stop EX.nx {env := [(0, .sl false 0 0 4 p.l.length p.2), (2, .und), (3, .und), (4, .mp 1), (10, .sl false 0 0 4 p.l.length p.2), (11, .int .i64 (↑p.l.length : Int)), (12, .int .i64 (IntKind.i64.wrap ((↑x.1 : Int) + 1)))], heap := [(1, .mp .i64 Kd.int (mdel x.snd (p.l.getD (0 + x.1) (V.enc Kd.com).dflt).key)), (0, .ro Kd.com p.l)], nx := 12, nt := 44, tl := [10, 8, 5, 4, 2, 1, 8, 4, 5, 2, 0, 1, 2, 3, 4, 5, 6, 7, 8, 9, 10, 11, 12, 13, 14, 15, 16] : St V }) (Out.stop EX.nx {env := [(0, .sl false 0 0 4 p.l.length p.2), (2, .und), (3, .und), (4, .mp 1), (10, .sl false 0 0 4 p.l.length p.2), (11, .int .i64 (↑p.l.length : Int)), (12, .int .i64 (IntKind.i64.wrap ((↑x.1 : Int) + 1)))], heap := [(1, .mp .i64 Kd.int x.snd), (0, .ro Kd.com p.l)], nx := 11, nt := 44, tl := [10, 8, 5, 4, 2, 8, 4, 5, 2, 0, 1, 2, 3, 4, 5, 6, 7, 8, 9, 10, 11, 12, 13, 14, 15, 16] : St V })) (Out.ite ((p.l.getD (0 + x.1) (V.enc Kd.com).dflt).act == 4) (Out.stop EX.nx {env := [(0, .sl false 0 0 4 p.l.length p.2), (2, .und), (3, .und), (4, .mp 1), (10, .sl false 0 0 4 p.l.length p.2), (11, .int .i64 (↑p.l.length : Int)), (12, .int .i64 (IntKind.i64.wrap ((↑x.1 : Int) + 1)))], heap := [(1, .mp .i64 Kd.int (mdel x.snd (p.l.getD (0 + x.1) (V.enc Kd.com).dflt).key)), (0, .ro Kd.com p.l)], nx := 12, nt := 44, tl := [10, 8, 5, 4, 2, 1, 8, 4, 5, 2, 0, 1, 2, 3, 4, 5, 6, 7, 8, 9, 10, 11, 12, 13, 14, 15, 16] : St V }) (Out.stop EX.nx {env := [(0, .sl false 0 0 4 p.l.length p.2), (2, .und), (3, .und), (4, .mp 1), (10, .sl false 0 0 4 p.l.length p.2), (11, .int .i64 (↑p.l.length : Int)), (12, .int .i64 (IntKind.i64.wrap ((↑x.1 : Int) + 1)))], heap := [(1, .mp .i64 Kd.int x.snd), (0, .ro Kd.com p.l)], nx := 11, nt := 44, tl := [10, 8, 5, 4, 2, 8, 4, 5, 2, 0, 1, 2, 3, 4, 5, 6, 7, 8, 9, 10, 11, 12, 13, 14, 15, 16] : St V }))))) (Out.ite ((p.l.getD (0 + x.1) (V.enc Kd.com).dflt).act == 1) (Out.ite ((p.l.getD (0 + x.1) (V.enc Kd.com).dflt).act == 1) (Out.ite (!((p.l.getD (0 + x.1) (V.enc Kd.com).dflt).act == (p.l.getD (0 + x.1) (V.enc Kd.com).dflt).act && ((p.l.getD (0 + x.1) (V.enc Kd.com).dflt).key == (p.l.getD (0 + x.1) (V.enc Kd.com).dflt).key && ((mget x.snd (p.l.getD (0 + x.1) (V.enc Kd.com).dflt).key).getD (V.enc Kd.int).dflt == (p.l.getD (0 + x.1) (V.enc Kd.com).dflt).value && ((mget x.snd (p.l.getD (0 + x.1) (V.enc Kd.com).dflt).key).isSome == (p.l.getD (0 + x.1) (V.enc Kd.com).dflt).hit && true))))) (Out.stop EX.rt {env := [(0, .sl false 0 0 4 p.l.length p.2), (2, .int .i64 (↑x.1 : Int)), (3, .mp 1), (4, .mp 1), (10, .sl false 0 0 4 p.l.length p.2), (11, .int .i64 (↑p.l.length : Int)), (12, .int .i64 (↑x.1 : Int))], heap := [(1, .mp .i64 Kd.int x.snd), (0, .ro Kd.com p.l)], nx := 10, nt := 44, tl := [8, 5, 4, 2, 8, 4, 5, 2, 0, 1, 2, 3, 4, 5, 6, 7, 8, 9, 10, 11, 12, 13, 14, 15, 16] : St V }) (Out.ite ((p.l.getD (0 + x.1) (V.enc Kd.com).dflt).act == 2) (Out.stop EX.nx {env := [(0, .sl false 0 0 4 p.l.length p.2), (2, .und), (3, .und), (4, .mp 1), (10, .sl false 0 0 4 p.l.length p.2), (11, .int .i64 (↑p.l.length : Int)), (12, .int .i64 (IntKind.i64.wrap ((↑x.1 : Int) + 1)))], heap := [(1, .mp .i64 Kd.int (mput x.snd (p.l.getD (0 + x.1) (V.enc Kd.com).dflt).key (p.l.getD (0 + x.1) (V.enc Kd.com).dflt).value)), (0, .ro Kd.com p.l)], nx := 12, nt := 44, tl := [10, 8, 5, 4, 2, 1, 8, 4, 5, 2, 0, 1, 2, 3, 4, 5, 6, 7, 8, 9, 10, 11, 12, 13, 14, 15, 16] : St V }) (Out.ite ((p.l.getD (0 + x.1) (V.enc Kd.com).dflt).act == 3) (Out.ite ((p.l.getD (0 + x.1) (V.enc Kd.com).dflt).act == 3) (Out.stop EX.nx {env := [(0, .sl false 0 0 4 p.l.length p.2), (2, .und), (3, .und), (4, .mp 1), (10, .sl false 0 0 4 p.l.length p.2), (11, .int .i64 (↑p.l.length : Int)), (12, .int .i64 (IntKind.i64.wrap ((↑x.1 : Int) + 1)))], heap := [(1, .mp .i64 Kd.int (mdel x.snd (p.l.getD (0 + x.1) (V.enc Kd.com).dflt).key)), (0, .ro Kd.com p.l)], nx := 12, nt := 44, tl := [10, 8, 5, 4, 2, 1, 8, 4, 5, 2, 0, 1, 2, 3, 4, 5, 6, 7, 8, 9, 10, 11, 12, 13, 14, 15, 16] : St V }) (Out.stop EX.nx {env := [(0, .sl false 0 0 4 p.l.length p.2), (2, .und), (3, .und), (4, .mp 1), (10, .sl false 0 0 4 p.l.length p.2), (11, .int .i64 (↑p.l.length : Int)), (12, .int .i64 (IntKind.i64.wrap ((↑x.1 : Int) + 1)))], heap := [(1, .mp .i64 Kd.int x.snd), (0, .ro Kd.com p.l)], nx := 11, nt := 44, tl := [10, 8, 5, 4, 2, 8, 4, 5, 2, 0, 1, 2, 3, 4, 5, 6, 7, 8, 9, 10, 11, 12, 13, 14, 15, 16] : St V })) (Out.ite ((p.l.getD (0 + x.1) (V.enc Kd.com).dflt).act == 4) (Out.stop EX.nx {env := [(0, .sl false 0 0 4 p.l.length p.2), (2, .und), (3, .und), (4, .mp 1), (10, .sl false 0 0 4 p.l.length p.2), (11, .int .i64 (↑p.l.length : Int)), (12, .int .i64 (IntKind.i64.wrap ((↑x.1 : Int) + 1)))], heap := [(1, .mp .i64 Kd.int (mdel x.snd (p.l.getD (0 + x.1) (V.enc Kd.com).dflt).key)), (0, .ro Kd.com p.l)], nx := 12, nt := 44, tl := [10, 8, 5, 4, 2, 1, 8, 4, 5, 2, 0, 1, 2, 3, 4, 5, 6, 7, 8, 9, 10, 11, 12, 13, 14, 15, 16] : St V }) (Out.stop EX.nx {env := [(0, .sl false 0 0 4 p.l.length p.2), (2, .und), (3, .und), (4, .mp 1), (10, .sl false 0 0 4 p.l.length p.2), (11, .int .i64 (↑p.l.length : Int)), (12, .int .i64 (IntKind.i64.wrap ((↑x.1 : Int) + 1)))], heap := [(1, .mp .i64 Kd.int x.snd), (0, .ro Kd.com p.l)], nx := 11, nt := 44, tl := [10, 8, 5, 4, 2, 8, 4, 5, 2, 0, 1, 2, 3, 4, 5, 6, 7, 8, 9, 10, 11, 12, 13, 14, 15, 16] : St V }))))) (Out.ite ((p.l.getD (0 + x.1) (V.enc Kd.com).dflt).act == 4) (Out.ite (!(mget x.snd (p.l.getD (0 + x.1) (V.enc Kd.com).dflt).key).isSome) (Out.stop EX.rt {env := [(0, .sl false 0 0 4 p.l.length p.2), (2, .int .i64 (↑x.1 : Int)), (3, .mp 1), (4, .mp 1), (10, .sl false 0 0 4 p.l.length p.2), (11, .int .i64 (↑p.l.length : Int)), (12, .int .i64 (↑x.1 : Int))], heap := [(1, .mp .i64 Kd.int x.snd), (0, .ro Kd.com p.l)], nx := 10, nt := 44, tl := [8, 5, 4, 2, 8, 4, 5, 2, 0, 1, 2, 3, 4, 5, 6, 7, 8, 9, 10, 11, 12, 13, 14, 15, 16] : St V }) (Out.ite (!((p.l.getD (0 + x.1) (V.enc Kd.com).dflt).act == (p.l.getD (0 + x.1) (V.enc Kd.com).dflt).act && ((p.l.getD (0 + x.1) (V.enc Kd.com).dflt).key == (p.l.getD (0 + x.1) (V.enc Kd.com).dflt).key && ((mget x.snd (p.l.getD (0 + x.1) (V.enc Kd.com).dflt).key).getD (V.enc Kd.int).dflt == (p.l.getD (0 + x.1) (V.enc Kd.com).dflt).value && ((mget x.snd (p.l.getD (0 + x.1) (V.enc Kd.com).dflt).key).isSome == (p.l.getD (0 + x.1) (V.enc Kd.com).dflt).hit && true))))) (Out.stop EX.rt {env := [(0, .sl false 0 0 4 p.l.length p.2), (2, .int .i64 (↑x.1 : Int)), (3, .mp 1), (4, .mp 1), (10, .sl false 0 0 4 p.l.length p.2), (11, .int .i64 (↑p.l.length : Int)), (12, .int .i64 (↑x.1 : Int))], heap := [(1, .mp .i64 Kd.int x.snd), (0, .ro Kd.com p.l)], nx := 10, nt := 44, tl := [8, 5, 4, 2, 8, 4, 5, 2, 0, 1, 2, 3, 4, 5, 6, 7, 8, 9, 10, 11, 12, 13, 14, 15, 16] : St V }) (Out.ite ((p.l.getD (0 + x.1) (V.enc Kd.com).dflt).act == 2) (Out.stop EX.nx {env := [(0, .sl false 0 0 4 p.l.length p.2), (2, .und), (3, .und), (4, .mp 1), (10, .sl false 0 0 4 p.l.length p.2), (11, .int .i64 (↑p.l.length : Int)), (12, .int .i64 (IntKind.i64.wrap ((↑x.1 : Int) + 1)))], heap := [(1, .mp .i64 Kd.int (mput x.snd (p.l.getD (0 + x.1) (V.enc Kd.com).dflt).key (p.l.getD (0 + x.1) (V.enc Kd.com).dflt).value)), (0, .ro Kd.com p.l)], nx := 12, nt := 44, tl := [10, 8, 5, 4, 2, 1, 8, 4, 5, 2, 0, 1, 2, 3, 4, 5, 6, 7, 8, 9, 10, 11, 12, 13, 14, 15, 16] : St V }) (Out.ite ((p.l.getD (0 + x.1) (V.enc Kd.com).dflt).act == 3) (Out.ite ((p.l.getD (0 + x.1) (V.enc Kd.com).dflt).act == 3) (Out.stop EX.nx {env := [(0, .sl false 0 0 4 p.l.length p.2), (2, .und), (3, .und), (4, .mp 1), (10, .sl false 0 0 4 p.l.length p.2), (11, .int .i64 (↑p.l.length : Int)), (12, .int .i64 (IntKind.i64.wrap ((↑x.1 : Int) + 1)))], heap := [(1, .mp .i64 Kd.int (mdel x.snd (p.l.getD (0 + x.1) (V.enc Kd.com).dflt).key)), (0, .ro Kd.com p.l)], nx := 12, nt := 44, tl := [10, 8, 5, 4, 2, 1, 8, 4, 5, 2, 0, 1, 2, 3, 4, 5, 6, 7, 8, 9, 10, 11, 12, 13, 14, 15, 16] : St V }) (Out.stop EX.nx {env := [(0, .sl false 0 0 4 p.l.length p.2), (2, .und), (3, .und), (4, .mp 1), (10, .sl false 0 0 4 p.l.length p.2), (11, .int .i64 (↑p.l.length : Int)), (12, .int .i64 (IntKind.i64.wrap ((↑x.1 : Int) + 1)))], heap := [(1, .mp .i64 Kd.int x.snd), (0, .ro Kd.com p.l)], nx := 11, nt := 44, tl := [10, 8, 5, 4, 2, 8, 4, 5, 2, 0, 1, 2, 3, 4, 5, 6, 7, 8, 9, 10, 11, 12, 13, 14, 15, 16] : St V })) (Out.ite ((p.l.getD (0 + x.1) (V.enc Kd.com).dflt).act == 4) (Out.stop EX.nx {env := [(0, .sl false 0 0 4 p.l.length p.2), (2, .und), (3, .und), (4, .mp 1), (10, .sl false 0 0 4 p.l.length p.2), (11, .int .i64 (↑p.l.length : Int)), (12, .int .i64 (IntKind.i64.wrap ((↑x.1 : Int) + 1)))], heap := [(1, .mp .i64 Kd.int (mdel x.snd (p.l.getD (0 + x.1) (V.enc Kd.com).dflt).key)), (0, .ro Kd.com p.l)], nx := 12, nt := 44, tl := [10, 8, 5, 4, 2, 1, 8, 4, 5, 2, 0, 1, 2, 3, 4, 5, 6, 7, 8, 9, 10, 11, 12, 13, 14, 15, 16] : St V }) (Out.stop EX.nx {env := [(0, .sl false 0 0 4 p.l.length p.2), (2, .und), (3, .und), (4, .mp 1), (10, .sl false 0 0 4 p.l.length p.2), (11, .int .i64 (↑p.l.length : Int)), (12, .int .i64 (IntKind.i64.wrap ((↑x.1 : Int) + 1)))], heap := [(1, .mp .i64 Kd.int x.snd), (0, .ro Kd.com p.l)], nx := 11, nt := 44, tl := [10, 8, 5, 4, 2, 8, 4, 5, 2, 0, 1, 2, 3, 4, 5, 6, 7, 8, 9, 10, 11, 12, 13, 14, 15, 16] : St V })))))) (Out.stop EX.rt {env := [(0, .sl false 0 0 4 p.l.length p.2), (2, .int .i64 (↑x.1 : Int)), (3, .mp 1), (4, .mp 1), (10, .sl false 0 0 4 p.l.length p.2), (11, .int .i64 (↑p.l.length : Int)), (12, .int .i64 (↑x.1 : Int))], heap := [(1, .mp .i64 Kd.int x.snd), (0, .ro Kd.com p.l)], nx := 10, nt := 44, tl := [8, 5, 4, 2, 8, 4, 5, 2, 0, 1, 2, 3, 4, 5, 6, 7, 8, 9, 10, 11, 12, 13, 14, 15, 16] : St V }))) (Out.ite ((p.l.getD (0 + x.1) (V.enc Kd.com).dflt).act == 3) (Out.ite (!((p.l.getD (0 + x.1) (V.enc Kd.com).dflt).act == (p.l.getD (0 + x.1) (V.enc Kd.com).dflt).act && ((p.l.getD (0 + x.1) (V.enc Kd.com).dflt).key == (p.l.getD (0 + x.1) (V.enc Kd.com).dflt).key && ((mget x.snd (p.l.getD (0 + x.1) (V.enc Kd.com).dflt).key).getD (V.enc Kd.int).dflt == (p.l.getD (0 + x.1) (V.enc Kd.com).dflt).value && ((mget x.snd (p.l.getD (0 + x.1) (V.enc Kd.com).dflt).key).isSome == (p.l.getD (0 + x.1) (V.enc Kd.com).dflt).hit && true))))) (Out.stop EX.rt {env := [(0, .sl false 0 0 4 p.l.length p.2), (2, .int .i64 (↑x.1 : Int)), (3, .mp 1), (4, .mp 1), (10, .sl false 0 0 4 p.l.length p.2), (11, .int .i64 (↑p.l.length : Int)), (12, .int .i64 (↑x.1 : Int))], heap := [(1, .mp .i64 Kd.int x.snd), (0, .ro Kd.com p.l)], nx := 10, nt := 44, tl := [8, 5, 4, 2, 8, 4, 5, 2, 0, 1, 2, 3, 4, 5, 6, 7, 8, 9, 10, 11, 12, 13, 14, 15, 16] : St V }) (Out.ite ((p.l.getD (0 + x.1) (V.enc Kd.com).dflt).act == 2) (Out.stop EX.nx {env := [(0, .sl false 0 0 4 p.l.length p.2), (2, .und), (3, .und), (4, .mp 1), (10, .sl false 0 0 4 p.l.length p.2), (11, .int .i64 (↑p.l.length : Int)), (12, .int .i64 (IntKind.i64.wrap ((↑x.1 : Int) + 1)))], heap := [(1, .mp .i64 Kd.int (mput x.snd (p.l.getD (0 + x.1) (V.enc Kd.com).dflt).key (p.l.getD (0 + x.1) (V.enc Kd.com).dflt).value)), (0, .ro Kd.com p.l)], nx := 12, nt := 44, tl := [10, 8, 5, 4, 2, 1, 8, 4, 5, 2, 0, 1, 2, 3, 4, 5, 6, 7, 8, 9, 10, 11, 12, 13, 14, 15, 16] : St V }) (Out.ite ((p.l.getD (0 + x.1) (V.enc Kd.com).dflt).act == 3) (Out.ite ((p.l.getD (0 + x.1) (V.enc Kd.com).dflt).act == 3) (Out.stop EX.nx {env := [(0, .sl false 0 0 4 p.l.length p.2), (2, .und), (3, .und), (4, .mp 1), (10, .sl false 0 0 4 p.l.length p.2), (11, .int .i64 (↑p.l.length : Int)), (12, .int .i64 (IntKind.i64.wrap ((↑x.1 : Int) + 1)))], heap := [(1, .mp .i64 Kd.int (mdel x.snd (p.l.getD (0 + x.1) (V.enc Kd.com).dflt).key)), (0, .ro Kd.com p.l)], nx := 12, nt := 44, tl := [10, 8, 5, 4, 2, 1, 8, 4, 5, 2, 0, 1, 2, 3, 4, 5, 6, 7, 8, 9, 10, 11, 12, 13, 14, 15, 16] : St V }) (Out.stop EX.nx {env := [(0, .sl false 0 0 4 p.l.length p.2), (2, .und), (3, .und), (4, .mp 1), (10, .sl false 0 0 4 p.l.length p.2), (11, .int .i64 (↑p.l.length : Int)), (12, .int .i64 (IntKind.i64.wrap ((↑x.1 : Int) + 1)))], heap := [(1, .mp .i64 Kd.int x.snd), (0, .ro Kd.com p.l)], nx := 11, nt := 44, tl := [10, 8, 5, 4, 2, 8, 4, 5, 2, 0, 1, 2, 3, 4, 5, 6, 7, 8, 9, 10, 11, 12, 13, 14, 15, 16] : St V })) (Out.ite ((p.l.getD (0 + x.1) (V.enc Kd.com).dflt).act == 4) (Out.stop EX.nx {env := [(0, .sl false 0 0 4 p.l.length p.2), (2, .und), (3, .und), (4, .mp 1), (10, .sl false 0 0 4 p.l.length p.2), (11, .int .i64 (↑p.l.length : Int)), (12, .int .i64 (IntKind.i64.wrap ((↑x.1 : Int) + 1)))], heap := [(1, .mp .i64 Kd.int (mdel x.snd (p.l.getD (0 + x.1) (V.enc Kd.com).dflt).key)), (0, .ro Kd.com p.l)], nx := 12, nt := 44, tl := [10, 8, 5, 4, 2, 1, 8, 4, 5, 2, 0, 1, 2, 3, 4, 5, 6, 7, 8, 9, 10, 11, 12, 13, 14, 15, 16] : St V }) (Out.stop EX.nx {env := [(0, .sl false 0 0 4 p.l.length p.2), (2, .und), (3, .und), (4, .mp 1), (10, .sl false 0 0 4 p.l.length p.2), (11, .int .i64 (↑p.l.length : Int)), (12, .int .i64 (IntKind.i64.wrap ((↑x.1 : Int) + 1)))], heap := [(1, .mp .i64 Kd.int x.snd), (0, .ro Kd.com p.l)], nx := 11, nt := 44, tl := [10, 8, 5, 4, 2, 8, 4, 5, 2, 0, 1, 2, 3, 4, 5, 6, 7, 8, 9, 10, 11, 12, 13, 14, 15, 16] : St V }))))) (Out.ite ((p.l.getD (0 + x.1) (V.enc Kd.com).dflt).act == 4) (Out.ite (!(mget x.snd (p.l.getD (0 + x.1) (V.enc Kd.com).dflt).key).isSome) (Out.stop EX.rt {env := [(0, .sl false 0 0 4 p.l.length p.2), (2, .int .i64 (↑x.1 : Int)), (3, .mp 1), (4, .mp 1), (10, .sl false 0 0 4 p.l.length p.2), (11, .int .i64 (↑p.l.length : Int)), (12, .int .i64 (↑x.1 : Int))], heap := [(1, .mp .i64 Kd.int x.snd), (0, .ro Kd.com p.l)], nx := 10, nt := 44, tl := [8, 5, 4, 2, 8, 4, 5, 2, 0, 1, 2, 3, 4, 5, 6, 7, 8, 9, 10, 11, 12, 13, 14, 15, 16] : St V }) (Out.ite (!((p.l.getD (0 + x.1) (V.enc Kd.com).dflt).act == (p.l.getD (0 + x.1) (V.enc Kd.com).dflt).act && ((p.l.getD (0 + x.1) (V.enc Kd.com).dflt).key == (p.l.getD (0 + x.1) (V.enc Kd.com).dflt).key && ((mget x.snd (p.l.getD (0 + x.1) (V.enc Kd.com).dflt).key).getD (V.enc Kd.int).dflt == (p.l.getD (0 + x.1) (V.enc Kd.com).dflt).value && ((mget x.snd (p.l.getD (0 + x.1) (V.enc Kd.com).dflt).key).isSome == (p.l.getD (0 + x.1) (V.enc Kd.com).dflt).hit && true))))) (Out.stop EX.rt {env := [(0, .sl false 0 0 4 p.l.length p.2), (2, .int .i64 (↑x.1 : Int)), (3, .mp 1), (4, .mp 1), (10, .sl false 0 0 4 p.l.length p.2), (11, .int .i64 (↑p.l.length : Int)), (12, .int .i64 (↑x.1 : Int))], heap := [(1, .mp .i64 Kd.int x.snd), (0, .ro Kd.com p.l)], nx := 10, nt := 44, tl := [8, 5, 4, 2, 8, 4, 5, 2, 0, 1, 2, 3, 4, 5, 6, 7, 8, 9, 10, 11, 12, 13, 14, 15, 16] : St V }) (Out.ite ((p.l.getD (0 + x.1) (V.enc Kd.com).dflt).act == 2) (Out.stop EX.nx {env := [(0, .sl false 0 0 4 p.l.length p.2), (2, .und), (3, .und), (4, .mp 1), (10, .sl false 0 0 4 p.l.length p.2), (11, .int .i64 (↑p.l.length : Int)), (12, .int .i64 (IntKind.i64.wrap ((↑x.1 : Int) + 1)))], heap := [(1, .mp .i64 Kd.int (mput x.snd (p.l.getD (0 + x.1) (V.enc Kd.com).dflt).key (p.l.getD (0 + x.1) (V.enc Kd.com).dflt).value)), (0, .ro Kd.com p.l)], nx := 12, nt := 44, tl := [10, 8, 5, 4, 2, 1, 8, 4, 5, 2, 0, 1, 2, 3, 4, 5, 6, 7, 8, 9, 10, 11, 12, 13, 14, 15, 16] : St V }) (Out.ite ((p.l.getD (0 + x.1) (V.enc Kd.com).dflt).act == 3) (Out.ite ((p.l.getD (0 + x.1) (V.enc Kd.com).dflt).act == 3) (Out.stop EX.nx {env := [(0, .sl false 0 0 4 p.l.length p.2), (2, .und), (3, .und), (4, .mp 1), (10, .sl false 0 0 4 p.l.length p.2), (11, .int .i64 (↑p.l.length : Int)), (12, .int .i64 (IntKind.i64.wrap ((↑x.1 : Int) + 1)))], heap := [(1, .mp .i64 Kd.int (mdel x.snd (p.l.getD (0 + x.1) (V.enc Kd.com).dflt).key)), (0, .ro Kd.com p.l)], nx := 12, nt := 44, tl := [10, 8, 5, 4, 2, 1, 8, 4, 5, 2, 0, 1, 2, 3, 4, 5, 6, 7, 8, 9, 10, 11, 12, 13, 14, 15, 16] : St V }) (Out.stop EX.nx {env := [(0, .sl false 0 0 4 p.l.length p.2), (2, .und), (3, .und), (4, .mp 1), (10, .sl false 0 0 4 p.l.length p.2), (11, .int .i64 (↑p.l.length : Int)), (12, .int .i64 (IntKind.i64.wrap ((↑x.1 : Int) + 1)))], heap := [(1, .mp .i64 Kd.int x.snd), (0, .ro Kd.com p.l)], nx := 11, nt := 44, tl := [10, 8, 5, 4, 2, 8, 4, 5, 2, 0, 1, 2, 3, 4, 5, 6, 7, 8, 9, 10, 11, 12, 13, 14, 15, 16] : St V })) (Out.ite ((p.l.getD (0 + x.1) (V.enc Kd.com).dflt).act == 4) (Out.stop EX.nx {env := [(0, .sl false 0 0 4 p.l.length p.2), (2, .und), (3, .und), (4, .mp 1), (10, .sl false 0 0 4 p.l.length p.2), (11, .int .i64 (↑p.l.length : Int)), (12, .int .i64 (IntKind.i64.wrap ((↑x.1 : Int) + 1)))], heap := [(1, .mp .i64 Kd.int (mdel x.snd (p.l.getD (0 + x.1) (V.enc Kd.com).dflt).key)), (0, .ro Kd.com p.l)], nx := 12, nt := 44, tl := [10, 8, 5, 4, 2, 1, 8, 4, 5, 2, 0, 1, 2, 3, 4, 5, 6, 7, 8, 9, 10, 11, 12, 13, 14, 15, 16] : St V }) (Out.stop EX.nx {env := [(0, .sl false 0 0 4 p.l.length p.2), (2, .und), (3, .und), (4, .mp 1), (10, .sl false 0 0 4 p.l.length p.2), (11, .int .i64 (↑p.l.length : Int)), (12, .int .i64 (IntKind.i64.wrap ((↑x.1 : Int) + 1)))], heap := [(1, .mp .i64 Kd.int x.snd), (0, .ro Kd.com p.l)], nx := 11, nt := 44, tl := [10, 8, 5, 4, 2, 8, 4, 5, 2, 0, 1, 2, 3, 4, 5, 6, 7, 8, 9, 10, 11, 12, 13, 14, 15, 16] : St V })))))) (Out.stop EX.rt {env := [(0, .sl false 0 0 4 p.l.length p.2), (2, .int .i64 (↑x.1 : Int)), (3, .mp 1), (4, .mp 1), (10, .sl false 0 0 4 p.l.length p.2), (11, .int .i64 (↑p.l.length : Int)), (12, .int .i64 (↑x.1 : Int))], heap := [(1, .mp .i64 Kd.int x.snd), (0, .ro Kd.com p.l)], nx := 10, nt := 44, tl := [8, 5, 4, 2, 8, 4, 5, 2, 0, 1, 2, 3, 4, 5, 6, 7, 8, 9, 10, 11, 12, 13, 14, 15, 16] : St V }))))))) (Out.stop (EX.ex 0) {env := [(0, .sl false 0 0 4 p.l.length p.2), (2, .und), (3, .und), (4, .mp 1), (10, .sl false 0 0 4 p.l.length p.2), (11, .int .i64 (↑p.l.length : Int)), (12, .int .i64 (↑x.1 : Int))], heap := [(1, .mp .i64 Kd.int x.snd), (0, .ro Kd.com p.l)], nx := 2, nt := 44, tl := [0, 1, 2, 3, 4, 5, 6, 7, 8, 9, 10, 11, 12, 13, 14, 15, 16] : St V }) := by kernel_rfl

theorem qb2 (p : QPQ) (x : Nat × Nat) : runCode cfgQ0 60 18 (loopOf Try.f18 0) (QI2 p x) (stopT (trimSt [3, 6, 7, 8] [0, 1, 2, 3, 4, 5, 6])) = Out.ite (decide ((↑x.1 : Int) < (↑p.l.length : Int))) (Out.need (0 ≤ (↑x.1 : Int) ∧ (↑x.1 : Int) < (↑p.l.length : Int)) (Out.need (0 + x.1 < p.l.length) (Out.ite ((p.l.getD (0 + x.1) (V.enc Kd.com).dflt).act == 4) (Out.need (0 = 0 ∧ (evsOf (List.take x.1 p.l)).length = (evsOf (List.take x.1 p.l)).length ∧ (evsOf (List.take x.1 p.l)).length + x.2 = (evsOf (List.take x.1 p.l)).length + x.2 ∧ ((evsOf (List.take x.1 p.l)).length + 1) * 8 ≤ 140737488355328) (Out.all Nat fun y => Out.stop EX.nx {env := [(3, .sl false 5 0 1 ((evsOf (List.take x.1 p.l)).length + 1) ((evsOf (List.take x.1 p.l)).length + 1 + y)), (6, .sl false 0 0 4 p.l.length p.2), (7, .int .i64 (↑p.l.length : Int)), (8, .int .i64 (IntKind.i64.wrap ((↑x.1 : Int) + 1)))], heap := [(5, .arr 3 Kd.int (evsOf (List.take x.1 p.l) ++ [(p.l.getD (0 + x.1) (V.enc Kd.com).dflt).key]) y), (4, .cells 3 [.int .i64 (p.l.getD (0 + x.1) (V.enc Kd.com).dflt).key]), (2, .cells 35 [.int .i64 (p.l.getD (0 + x.1) (V.enc Kd.com).dflt).act, .int .i64 (p.l.getD (0 + x.1) (V.enc Kd.com).dflt).key, .int .i64 (p.l.getD (0 + x.1) (V.enc Kd.com).dflt).value, .bool (p.l.getD (0 + x.1) (V.enc Kd.com).dflt).hit]), (0, .ro Kd.com p.l)], nx := 6, nt := 22, tl := [1, 2, 0, 1, 2, 3, 4, 5, 6, 7, 8, 9, 10, 11, 12, 13, 14, 15, 16] : St V })) (Out.stop EX.nx {env := [(3, .sl false 1 0 1 (evsOf (List.take x.1 p.l)).length ((evsOf (List.take x.1 p.l)).length + x.2)), (6, .sl false 0 0 4 p.l.length p.2), (7, .int .i64 (↑p.l.length : Int)), (8, .int .i64 (IntKind.i64.wrap ((↑x.1 : Int) + 1)))], heap := [(2, .cells 35 [.int .i64 (p.l.getD (0 + x.1) (V.enc Kd.com).dflt).act, .int .i64 (p.l.getD (0 + x.1) (V.enc Kd.com).dflt).key, .int .i64 (p.l.getD (0 + x.1) (V.enc Kd.com).dflt).value, .bool (p.l.getD (0 + x.1) (V.enc Kd.com).dflt).hit]), (1, .arr 3 Kd.int (evsOf (List.take x.1 p.l)) x.2), (0, .ro Kd.com p.l)], nx := 4, nt := 22, tl := [2, 0, 1, 2, 3, 4, 5, 6, 7, 8, 9, 10, 11, 12, 13, 14, 15, 16] : St V })))) (Out.stop (EX.ex 0) {env := [(3, .sl false 1 0 1 (evsOf (List.take x.1 p.l)).length ((evsOf (List.take x.1 p.l)).length + x.2)), (6, .sl false 0 0 4 p.l.length p.2), (7, .int .i64 (↑p.l.length : Int)), (8, .int .i64 (↑x.1 : Int))], heap := [(1, .arr 3 Kd.int (evsOf (List.take x.1 p.l)) x.2), (0, .ro Kd.com p.l)], nx := 2, nt := 22, tl := [0, 1, 2, 3, 4, 5, 6, 7, 8, 9, 10, 11, 12, 13, 14, 15, 16] : St V }) := by kernel_rfl

theorem qt1 (l : List Com) (c : Nat) : runF cfgQ1 60 24 Try.f24 [.sl false 0 0 4 l.length c] [(0, .ro Kd.com l)] 1 = Out.need (LoopFor Try.prog 24 0 (loopOf Try.f24 0) QL1) (Out.ex (QPQ → Prop) fun y => Out.need (2 ≤ 2 ∧ SImp 2 {env := [(0, .sl false 0 0 4 l.length c), (4, .mp 1), (10, .sl false 0 0 4 l.length c), (11, .int .i64 (↑l.length : Int)), (12, .lit .i64 0)], heap := [(1, .mp .i64 Kd.int []), (0, .ro Kd.com l)], nx := 2, nt := 44, tl := [] : St V } (fun p => QI1 p (0, [])) y) (Out.all QPQ fun y_1 => Out.asm (y y_1) ((Out.all Mp fun y => Out.asm ((fun p m => runM p.l [] = (p.l.length, m)) y_1 y) (Out.fin (.tup [.int .i64 (↑y_1.l.length : Int), .mp 1]) [(1, .mp .i64 Kd.int (y_1.l.length, y).snd), (0, .ro Kd.com y_1.l)] 2)).both (Out.all (Nat × Mp) fun y => Out.asm ((fun p z => runM p.l [] = z) y_1 y) (Out.fin (.tup [.int .i64 (↑y.1 : Int), .mp 1]) [(1, .mp .i64 Kd.int y.snd), (0, .ro Kd.com y_1.l)] 2))))) := by kernel_rfl

theorem qt2 (l : List Com) (c : Nat) : runF cfgQ1 60 18 Try.f18 [.sl false 0 0 4 l.length c] [(0, .ro Kd.com l)] 1 = Out.need (LoopFor Try.prog 18 0 (loopOf Try.f18 0) QL2) (Out.ex (QPQ → Prop) fun y => Out.need (1 ≤ 1 ∧ SImp 1 {env := [(3, .nilS), (6, .sl false 0 0 4 l.length c), (7, .int .i64 (↑l.length : Int)), (8, .lit .i64 0)], heap := [(0, .ro Kd.com l)], nx := 1, nt := 22, tl := [] : St V } (fun p => QI2 p (0, 0)) y) (Out.all QPQ fun y_1 => Out.asm (y y_1) (Out.all Nat fun y => Out.asm ((fun x x_1 => True) y_1 y) (Out.fin (.sl false 1 0 1 (evsOf (List.take (y_1.l.length, y).fst y_1.l)).length ((evsOf (List.take (y_1.l.length, y).fst y_1.l)).length + y)) [(1, .arr 3 Kd.int (evsOf (List.take (y_1.l.length, y).fst y_1.l)) y), (0, .ro Kd.com y_1.l)] 2)))) := by kernel_rfl

end Sx
end Go.Proofs.Ythabfkcmhffjoaa

/-
  What commits are legal, by a map: what the functions do.
-/
namespace Go.Proofs.Ythabfkcmhffjoaa
namespace Sx
open Go
set_option linter.unusedSimpArgs false
set_option linter.unusedVariables false

theorem cfgQ0_ok : cfgQ0.ok := by
  refine ⟨tab_met, kinds_met, mixed_met, fun g fn h => ?_, fun g H h => (by cases h)⟩
  unfold cfgQ0 fnsQ at h
  simp only at h
  split at h <;> cases h <;> exact ⟨by kernel_rfl, by kernel_rfl⟩
theorem cfgQ1_ok : cfgQ1.ok := ⟨tab_met, kinds_met, mixed_met, fun g fn h => (by cases h), fun g H h => (by cases h)⟩

theorem okC_iff (g : Option Int) (c : Com) : okC g c ↔ (c.act = 2 ∧ c.hit = false) ∨ ((c.act = 1 ∨ c.act = 3) ∧ g.getD 0 = c.value ∧ g.isSome = c.hit) ∨ (c.act = 4 ∧ g.isSome = true ∧ g.getD 0 = c.value ∧ c.hit = true) := by
  obtain ⟨a, k, v, h⟩ := c
  unfold okC ansC cc0
  simp only
  by_cases h2 : a = 2
  · subst h2; cases h <;> simp
  · by_cases h1 : a = 1
    · subst h1; simp
    · by_cases h3 : a = 3
      · subst h3; simp
      · by_cases h4 : a = 4
        · subst h4
          cases hg : g.isSome <;> cases h <;> simp
        · simp [h1, h2, h3, h4]
          intro e _ _ _
          exact e.symm

theorem qbody1 (p : QPQ) (x : Nat × Mp) (hi : x.1 ≤ p.l.length) (Q : EX → St V → Prop) (F : AV → Heap V → Nat → Prop)
    (hrt : ∀ ST : St V, x.1 < p.l.length → ¬ okC (mget x.2 (p.l.getD x.1 cc0).key) (p.l.getD x.1 cc0) → Wk 2 [] ST (QR1 p x) → Q .rt ST)
    (hnx : ∀ ST : St V, x.1 < p.l.length → okC (mget x.2 (p.l.getD x.1 cc0).key) (p.l.getD x.1 cc0) → Wk 2 [] ST (QI1 p (x.1 + 1, doM x.2 (p.l.getD x.1 cc0))) → Q .nx ST)
    (hex : ∀ ST : St V, x.1 = p.l.length → Wk 2 [] ST (QI1 p x) → Q (.ex 0) ST) :
    (runCode cfgQ0 60 24 (loopOf Try.f24 0) (QI1 p x) (stopT (trimSt [0, 2, 3, 4, 10, 11, 12] [0, 1]))).holds ⟨Q, F⟩ := by
  rw [qb1]
  have hb := p.hb
  have hw : x.1 < p.l.length → IntKind.wrap .i64 ((x.1 : Int) + 1) = ((x.1 + 1 : Nat) : Int) := fun h => wrap_nat (by omega)
  rw [show (0 + x.1) = x.1 from Nat.zero_add _, show p.l.getD x.1 (V.enc Kd.com).dflt = p.l.getD x.1 cc0 from rfl, show (V.enc Kd.int).dflt = (0 : Int) from rfl]
  generalize p.l.getD x.1 cc0 = c at hrt hnx ⊢
  rw [okC_iff] at hrt hnx
  have em : ∀ {m m' : Mp}, m = m' → BSub (some (.mp .i64 Kd.int m : Blk V)) (.mp .i64 Kd.int m') := fun h => by rw [h]; exact .same _
  simp only [Out.holds, decide_eq_true_eq, decide_eq_false_iff_not, beq_iff_eq, beq_eq_false_iff_ne, beq_self_eq_true, Bool.true_and, Bool.and_true, Bool.not_eq_true', Bool.not_eq_false', Bool.and_eq_true, Bool.and_eq_false_imp]
  by_cases hlt : x.1 < p.l.length
  · refine ⟨fun _ => ⟨by omega, hlt, ?_⟩, fun h => absurd hlt (by omega)⟩
    generalize mget x.2 c.key = g at hrt hnx ⊢
    repeat' first | apply And.intro | intro _
    all_goals first
      | (exfalso; omega)
      | exact hrt _ hlt (by simp_all) ⟨⟨AV.sub_same _, AV.sub_same _, trivial⟩, ⟨.same _, .same _, trivial⟩, rfl, tl_ok rfl, ⟨.inl (in_ok rfl), .inr rfl, trivial⟩, ⟨Nat.le_of_ble_eq_true rfl, rfl⟩⟩
      | exact hnx _ hlt (by simp_all) ⟨⟨AV.sub_same _, AV.sub_same _, AV.sub_same _, AV.sub_same _, AV.sub_int (hw hlt), trivial⟩, ⟨em (by unfold doM; simp_all), .same _, trivial⟩, rfl, tl_ok rfl, ⟨.inl (in_ok rfl), .inr rfl, trivial⟩, ⟨Nat.le_of_ble_eq_true rfl, rfl⟩⟩
      | skip
  · exact ⟨fun h => absurd h (by omega), fun h => hex _ (by omega) ⟨⟨AV.sub_same _, AV.sub_same _, AV.sub_same _, AV.sub_same _, AV.sub_same _, trivial⟩, ⟨.same _, .same _, trivial⟩, rfl, tl_ok rfl, ⟨.inl (in_ok rfl), .inr rfl, trivial⟩, ⟨Nat.le_of_ble_eq_true rfl, rfl⟩⟩⟩
theorem ql1_ok : LoopOk Try.prog 0 (loopOf Try.f24 0) QL1 := by
  refine trimLoop_ok (trim_ok _ _) (loopT_ok (C := cfgQ0) cfgQ0_ok (f := 24) (n := 60) (trim_ok [0, 2, 3, 4, 10, 11, 12] [0, 1]) 2 QI1 (fun p x => x.1 ≤ p.l.length ∧ runM p.l [] = (x.1 + (runM (p.l.drop x.1) x.2).1, (runM (p.l.drop x.1) x.2).2)) (fun _ => (0, [])) (fun p x => p.l.length - x.1)
    (fun p (m : Mp) => runM p.l [] = (p.l.length, m)) (fun p m => QI1 p (p.l.length, m)) (fun p (z : Nat × Mp) => runM p.l [] = z) (fun p z => QR1 p z) (fun p => ⟨Nat.zero_le _, by simp⟩) ?_)
  intro p x ⟨hi, hx⟩
  have st : x.1 < p.l.length → runM (p.l.drop x.1) x.2 = if okC (mget x.2 (p.l.getD x.1 cc0).key) (p.l.getD x.1 cc0) then ((runM (p.l.drop (x.1 + 1)) (doM x.2 (p.l.getD x.1 cc0))).1 + 1, (runM (p.l.drop (x.1 + 1)) (doM x.2 (p.l.getD x.1 cc0))).2) else (0, x.2) := fun h => by rw [drop_cons p.l cc0 h]; rfl
  refine qbody1 p x hi _ _ (fun ST hlt hn hw => SImp.of_wk x hw ?_) (fun ST hlt ho hw => SImp.of_wk (x.1 + 1, doM x.2 (p.l.getD x.1 cc0)) hw ⟨⟨hlt, ?_⟩, ?_⟩) (fun ST he hw => ⟨rfl, SImp.of_wk (ren := []) x.2 ?_ ?_⟩)
  · rw [hx, st hlt, if_neg hn]; rfl
  · rw [hx, st hlt, if_pos ho]
    exact Prod.ext (by dsimp only; omega) rfl
  · show p.l.length - (x.1 + 1) < p.l.length - x.1; omega
  · obtain ⟨i, m⟩ := x; simp only at he; subst he; exact hw
  · rw [hx, he, List.drop_length]; rfl
def runSpecRun : RunFree V := fun ar K => match ar with
  | [.rows .com l c] => .need (l.length ≤ 1099511627776) (K (.tup [.int .i64 ((runM l []).1 : Int), .mp 0]) [.mp .i64 Kd.int (runM l []).2])
  | _ => .bad 500
theorem hSpecRun : HookOk Try.prog 24 (hookFree [.rows Kd.com] runSpecRun) := by
  refine free_hook (C := cfgQ1) cfgQ1_ok (n := 60) (fn := Try.f24) ⟨by kernel_rfl, by kernel_rfl⟩ (by kernel_rfl) ?_
  intro M ar K0 H
  unfold runSpecRun at H
  split at H
  · rename_i l c
    obtain ⟨hb, H⟩ := H
    refine ⟨show 1 ≤ _ by decide +kernel, ?_⟩
    show (runF cfgQ1 60 24 Try.f24 [.sl false 0 0 4 l.length c] [(0, .ro Kd.com l)] 1).holds _
    rw [qt1]
    refine ⟨ql1_ok, fun p => p = ⟨l, c, hb⟩, ⟨Nat.le_refl _, SImp.of_wk (ren := []) ⟨l, c, hb⟩ ?_ rfl⟩, ?_⟩
    · exact ⟨⟨AV.sub_same _, AV.sub_same _, AV.sub_same _, AV.sub_same _, AV.sub_lit', trivial⟩, ⟨.same _, .same _, trivial⟩, rfl, tl_ok rfl, ⟨.inr rfl, .inr rfl, trivial⟩, ⟨Nat.le_of_ble_eq_true rfl, rfl⟩⟩
    · rintro _ rfl
      refine ⟨fun m hm => ?_, fun z hz => ?_⟩
      · rw [show runM l [] = (l.length, m) from hm] at H
        exact ⟨_, _, H, _, HImp.refl _ _, ⟨⟨fun _ => 1, ⟨.same _, trivial⟩, AV.sub_same _⟩, rfl, rfl⟩⟩
      · rw [show runM l [] = z from hz] at H
        exact ⟨_, _, H, _, HImp.refl _ _, ⟨⟨fun _ => 1, ⟨.same _, trivial⟩, AV.sub_same _⟩, rfl, rfl⟩⟩
  · exact H.elim

theorem evs_succ {l : List Com} {i : Nat} (h : i < l.length) : evsOf (l.take (i + 1)) = evsOf (l.take i) ++ if (l.getD i cc0).act = 4 then [(l.getD i cc0).key] else [] := by
  have e : l.getD i cc0 = l[i] := by rw [List.getD_eq_getElem?_getD, List.getElem?_eq_getElem h]; rfl
  unfold evsOf
  rw [List.take_succ_eq_append_getElem h, List.filter_append, List.map_append, e]
  congr 1
  by_cases e : (l[i]).act = 4 <;> simp [e]
theorem evs_le (l : List Com) (i : Nat) : (evsOf (l.take i)).length ≤ l.length := by
  unfold evsOf
  rw [List.length_map]
  exact Nat.le_trans (List.length_filter_le _ _) (by rw [List.length_take]; omega)
theorem qbody2 (p : QPQ) (x : Nat × Nat) (hi : x.1 ≤ p.l.length) (Q : EX → St V → Prop) (F : AV → Heap V → Nat → Prop)
    (hnx : ∀ (ST : St V) (sp b : Nat), x.1 < p.l.length → Wk 1 [(1, b)] ST (QI2 p (x.1 + 1, sp)) → Q .nx ST) (hex : ∀ ST : St V, x.1 = p.l.length → Wk 1 [(1, 1)] ST (QI2 p x) → Q (.ex 0) ST) :
    (runCode cfgQ0 60 18 (loopOf Try.f18 0) (QI2 p x) (stopT (trimSt [3, 6, 7, 8] [0, 1, 2, 3, 4, 5, 6]))).holds ⟨Q, F⟩ := by
  rw [qb2]
  have hb := p.hb
  have hle := evs_le p.l x.1
  have hw : x.1 < p.l.length → IntKind.wrap .i64 ((x.1 : Int) + 1) = ((x.1 + 1 : Nat) : Int) := fun h => wrap_nat (by omega)
  have hs : x.1 < p.l.length → evsOf (p.l.take (x.1 + 1)) = evsOf (p.l.take x.1) ++ if (p.l.getD x.1 (V.enc Kd.com).dflt).act = 4 then [(p.l.getD x.1 (V.enc Kd.com).dflt).key] else [] := evs_succ
  have blk : ∀ {a b : List Int} {s : Nat}, a = b → BSub (some (.arr 3 Kd.int a s : Blk V)) (.arr 3 Kd.int b s) := fun h => by rw [h]; exact .same _
  simp only [Out.holds, Nat.zero_add, decide_eq_true_eq, decide_eq_false_iff_not, beq_iff_eq, beq_eq_false_iff_ne]
  refine ⟨fun h => ⟨by omega, by omega, fun h2 => ⟨⟨trivial, trivial, trivial, by omega⟩, fun y => hnx _ y 5 (by omega) ?_⟩, fun h2 => hnx _ x.2 1 (by omega) ?_⟩, fun h => hex _ (by omega) ?_⟩
  · have e := hs (by omega)
    rw [if_pos h2] at e
    have el : (evsOf (p.l.take x.1)).length + 1 = (evsOf (p.l.take (x.1 + 1))).length := by rw [e]; simp
    exact ⟨⟨AV.sub_sl el (by rw [el]), AV.sub_same _, AV.sub_same _, AV.sub_int (hw (by omega)), trivial⟩, ⟨blk e.symm, .same _, trivial⟩, rfl, tl_ok rfl, ⟨.inl (in_ok rfl), .inl (in_ok rfl), .inl (in_ok rfl), .inr rfl, trivial⟩, ⟨Nat.le_of_ble_eq_true rfl, rfl⟩⟩
  · have e := hs (by omega)
    rw [if_neg h2, List.append_nil] at e
    exact ⟨⟨AV.sub_sl (by rw [e]) (by rw [e]), AV.sub_same _, AV.sub_same _, AV.sub_int (hw (by omega)), trivial⟩, ⟨blk e.symm, .same _, trivial⟩, rfl, tl_ok rfl, ⟨.inl (in_ok rfl), .inl (in_ok rfl), .inr rfl, trivial⟩, ⟨Nat.le_of_ble_eq_true rfl, rfl⟩⟩
  · exact ⟨⟨AV.sub_same _, AV.sub_same _, AV.sub_same _, AV.sub_same _, trivial⟩, ⟨.same _, .same _, trivial⟩, rfl, tl_ok rfl, ⟨.inl (in_ok rfl), .inr rfl, trivial⟩, ⟨Nat.le_of_ble_eq_true rfl, rfl⟩⟩
theorem ql2_ok : LoopOk Try.prog 0 (loopOf Try.f18 0) QL2 := by
  refine trimLoop_ok (trim_ok _ _) (loopTH_ok (C := cfgQ0) cfgQ0_ok (f := 18) (n := 60) (trim_ok [3, 6, 7, 8] [0, 1, 2, 3, 4, 5, 6]) 1 QI2 (fun p x => x.1 ≤ p.l.length) (fun _ => (0, 0)) (fun p x => p.l.length - x.1) (fun _ (_ : Nat) => True) (fun p sp => QI2 p (p.l.length, sp)) (fun p => Nat.zero_le _) ?_)
  intro p x hi
  refine qbody2 p x hi _ _ (fun ST sp b hlt hw => SImp.of_wk (x.1 + 1, sp) hw ⟨hlt, ?_⟩) (fun ST he hw => ⟨rfl, SImp.of_wk (ren := [(1, 1)]) x.2 ?_ trivial⟩)
  · show p.l.length - (x.1 + 1) < p.l.length - x.1; omega
  · obtain ⟨i, x⟩ := x; simp only at he; subst he; exact hw
def runEvicted : RunFree V := fun ar K => match ar with
  | [.rows .com l c] => .need (l.length ≤ 1099511627776) (.all Nat fun sp => K (.sl false 0 0 1 (evsOf l).length ((evsOf l).length + sp)) [.arr 3 Kd.int (evsOf l) sp])
  | _ => .bad 500
theorem hSpecEvicted : HookOk Try.prog 18 (hookFree [.rows Kd.com] runEvicted) := by
  refine free_hook (C := cfgQ1) cfgQ1_ok (n := 60) (fn := Try.f18) ⟨by kernel_rfl, by kernel_rfl⟩ (by kernel_rfl) ?_
  intro M ar K0 H
  unfold runEvicted at H
  split at H
  · rename_i l c
    obtain ⟨hb, H⟩ := H
    refine ⟨show 1 ≤ _ by decide +kernel, ?_⟩
    show (runF cfgQ1 60 18 Try.f18 [.sl false 0 0 4 l.length c] [(0, .ro Kd.com l)] 1).holds _
    rw [qt2]
    refine ⟨ql2_ok, fun p => p = ⟨l, c, hb⟩, ⟨Nat.le_refl _, SImp.of_wk (ren := [(1, 99)]) ⟨l, c, hb⟩ ?_ rfl⟩, ?_⟩
    · exact ⟨⟨AV.sub_nilS, AV.sub_same _, AV.sub_same _, AV.sub_lit', trivial⟩, ⟨.none _ _, .same _, trivial⟩, rfl, tl_ok rfl, ⟨.inr rfl, trivial⟩, ⟨Nat.le_of_ble_eq_true rfl, rfl⟩⟩
    · rintro _ rfl sp _
      have e : evsOf (l.take l.length) = evsOf l := by rw [List.take_length]
      dsimp only
      rw [e]
      exact ⟨_, _, H sp, _, HImp.refl _ _, ⟨⟨fun _ => 1, ⟨.same _, trivial⟩, AV.sub_same _⟩, rfl, rfl⟩⟩
  · exact H.elim
end Sx
end Go.Proofs.Ythabfkcmhffjoaa

/-
  The sorted row of the document: the runs of the machine.
-/
namespace Go.Proofs.Ythabfkcmhffjoaa
namespace Sx
open Go
set_option maxRecDepth 100000
set_option linter.unusedVariables false

noncomputable def cfgS0 : Cfg Try.prog V := ⟨tab, kinds, fun _ => none, fun _ => none, fun _ _ => none⟩
structure QPR where
  l : List Pr
  c : Nat
  k : Int
  hb : l.length ≤ 1099511627776
def QI3 (p : QPR) (i : Nat) : St V := ⟨[(0, .sl false 0 0 2 p.l.length p.c), (1, .int .i64 p.k), (5, .int .i64 (i : Int))], [(0, .ro Kd.pr p.l)], 2, 20, TQ⟩
def QR3 (p : QPR) (i : Nat) : St V := ⟨[(4, .int .i64 (i : Int))], [(0, .ro Kd.pr p.l)], 2, 20, TQ⟩
def QL3 : LoopS V := trimLoop (trimSt [0, 1, 5] [0]) (loopG 2 (fun p : QPR => QI3 p 0) (fun p (_ : Unit) => fnd p.l p.k = p.l.length) (fun p _ => QI3 p p.l.length) (fun p (_ : Unit) => fnd p.l p.k < p.l.length) (fun p _ => QR3 p (fnd p.l p.k)))
noncomputable def cfgS1 : Cfg Try.prog V := ⟨tab, kinds, fun _ => none, fun _ => none, fun f id => match f, id with | 30, 0 => some QL3 | _, _ => none⟩
def runFind : RunFree V := fun ar K => match ar with
  | [.rows .pr l c, .int .i64 k] => .need (l.length ≤ 1099511627776) (K (.int .i64 (fndI l k)) [])
  | _ => .bad 500
def runWithout : RunFree V := fun ar K => match ar with
  | [.rows .pr l c, .int .i64 k] => .need (l.length ≤ 1099511627776 ∧ 0 ≤ k ∧ k < (l.length : Int) ∧ k ≤ (c : Int)) (.all Nat fun sp => K (.sl false 0 0 2 (without l k.toNat).length ((without l k.toNat).length + sp)) [.arr 27 Kd.pr (without l k.toNat) sp])
  | _ => .bad 500
def hooksS2 : Nat → Option (HookS V) := fun g => match g with
  | 30 => some (hookFree [.rows Kd.pr, .int .i64] runFind)
  | 31 => some (hookFree [.rows Kd.pr, .int .i64] runWithout)
  | _ => none
structure QPS where
  k : Int
  v : Int
  own : List Pr
  sp : Nat
  hb : own.length ≤ 1099511627776
def QI4 (p : QPS) (i : Nat) : St V := ⟨[(2, .int .i64 p.k), (3, .int .i64 p.v), (8, .ptr 4 0), (11, .sl false 30 0 2 p.own.length (p.own.length + p.sp)), (13, .int .i64 (i : Int))], [(30, .arr 27 Kd.pr p.own p.sp), (4, .cells 35 [.lit .i64 0, .lit .i64 0, .lit .i64 0, .ff])], 31, 92, TQ⟩
def QL4 : LoopS V := trimLoop (trimSt [2, 3, 8, 11, 13] [4, 6, 10]) (loopH 30 (fun p : QPS => QI4 p 0) (fun _ (_ : Unit) => True) (fun p _ => QI4 p (below p.own p.k)))
noncomputable def cfgS2 : Cfg Try.prog V := ⟨tab, kinds, fun _ => none, hooksS2, fun _ _ => none⟩
noncomputable def cfgS3 : Cfg Try.prog V := ⟨tab, kinds, fun _ => none, hooksS2, fun f id => match f, id with | 22, 1 => some QL4 | _, _ => none⟩
theorem qb3 (p : QPR) (i : Nat) : runCode cfgS0 60 30 (loopOf Try.f30 0) (QI3 p i) (stopT (trimSt [0, 1, 4, 5] [0])) = Out.ite (decide ((↑i : Int) < (↑p.l.length : Int))) (Out.need (0 ≤ (↑i : Int) ∧ (↑i : Int) < (↑p.l.length : Int)) (Out.need (0 + i < p.l.length) (Out.ite ((p.l.getD (0 + i) (V.enc Kd.pr).dflt).k == p.k) (Out.stop EX.rt {env := [(0, .sl false 0 0 2 p.l.length p.2), (1, .int .i64 p.k), (4, .int .i64 (↑i : Int)), (5, .int .i64 (↑i : Int))], heap := [(0, .ro Kd.pr p.l)], nx := 2, nt := 20, tl := [0, 1, 2, 3, 4, 5, 6, 7, 8, 9, 10, 11, 12, 13, 14, 15, 16] : St V }) (Out.stop EX.nx {env := [(0, .sl false 0 0 2 p.l.length p.2), (1, .int .i64 p.k), (4, .und), (5, .int .i64 (IntKind.i64.wrap ((↑i : Int) + 1)))], heap := [(0, .ro Kd.pr p.l)], nx := 2, nt := 20, tl := [0, 1, 2, 3, 4, 5, 6, 7, 8, 9, 10, 11, 12, 13, 14, 15, 16] : St V })))) (Out.stop (EX.ex 0) {env := [(0, .sl false 0 0 2 p.l.length p.2), (1, .int .i64 p.k), (4, .und), (5, .int .i64 (↑i : Int))], heap := [(0, .ro Kd.pr p.l)], nx := 2, nt := 20, tl := [0, 1, 2, 3, 4, 5, 6, 7, 8, 9, 10, 11, 12, 13, 14, 15, 16] : St V }) := by kernel_rfl

theorem qt3 (l : List Pr) (c : Nat) (k : Int) : runF cfgS1 60 30 Try.f30 [.sl false 0 0 2 l.length c, .int .i64 k] [(0, .ro Kd.pr l)] 2 = Out.need (LoopFor Try.prog 30 0 (loopOf Try.f30 0) QL3) (Out.ex (QPR → Prop) fun y => Out.need (2 ≤ 2 ∧ SImp 2 {env := [(0, .sl false 0 0 2 l.length c), (1, .int .i64 k), (5, .lit .i64 0)], heap := [(0, .ro Kd.pr l)], nx := 2, nt := 20, tl := [] : St V } (fun p => QI3 p 0) y) (Out.all QPR fun y_1 => Out.asm (y y_1) ((Out.all Unit fun y => Out.asm ((fun p x => fnd p.l p.k = p.l.length) y_1 y) (Out.fin (.lit .i64 (-1)) [(0, .ro Kd.pr y_1.l)] 2)).both (Out.all Unit fun y => Out.asm ((fun p x => fnd p.l p.k < p.l.length) y_1 y) (Out.fin (.int .i64 (↑(fnd y_1.l y_1.k) : Int)) [(0, .ro Kd.pr y_1.l)] 2))))) := by kernel_rfl

theorem qt5 (l : List Pr) (c : Nat) (k : Int) : runF cfgS1 60 31 Try.f31 [.sl false 0 0 2 l.length c, .int .i64 k] [(0, .ro Kd.pr l)] 2 = Out.need (0 ≤ k ∧ k ≤ (↑c : Int)) (Out.need (0 ≤ IntKind.i64.wrap (k + 1) ∧ IntKind.i64.wrap (k + 1) ≤ (↑l.length : Int)) (Out.need (0 + k.toNat ≤ l.length) (Out.need ((List.take k.toNat (List.drop 0 l)).length * 16 ≤ 140737488355328) (Out.all Nat fun y => Out.need (0 + (IntKind.i64.wrap (k + 1)).toNat + (l.length - (IntKind.i64.wrap (k + 1)).toNat) ≤ l.length) (Out.need (0 = 0 ∧ (List.take k.toNat (List.drop 0 l)).length = (List.take k.toNat (List.drop 0 l)).length ∧ (List.take k.toNat (List.drop 0 l)).length + y = (List.take k.toNat (List.drop 0 l)).length + y ∧ ((List.take k.toNat (List.drop 0 l)).length + (List.take (l.length - (IntKind.i64.wrap (k + 1)).toNat) (List.drop (0 + (IntKind.i64.wrap (k + 1)).toNat) l)).length) * 16 ≤ 140737488355328) (Out.all Nat fun y => Out.fin (.sl false 4 0 2 ((List.take k.toNat (List.drop 0 l)).length + (List.take (l.length - (IntKind.i64.wrap (k + 1)).toNat) (List.drop (0 + (IntKind.i64.wrap (k + 1)).toNat) l)).length) ((List.take k.toNat (List.drop 0 l)).length + (List.take (l.length - (IntKind.i64.wrap (k + 1)).toNat) (List.drop (0 + (IntKind.i64.wrap (k + 1)).toNat) l)).length + y)) [(4, .arr 27 Kd.pr (List.take k.toNat (List.drop 0 l) ++ List.take (l.length - (IntKind.i64.wrap (k + 1)).toNat) (List.drop (0 + (IntKind.i64.wrap (k + 1)).toNat) l)) y), (2, .cells 27 []), (0, .ro Kd.pr l)] 5)))))) := by kernel_rfl

theorem qb4 (p : QPS) (i : Nat) : runCode cfgS2 60 22 (loopOf Try.f22 1) (QI4 p i) (stopT (trimSt [2, 3, 8, 11, 13] [4, 30])) = Out.ite (decide ((↑i : Int) < (↑p.own.length : Int))) (Out.need (0 ≤ (↑i : Int) ∧ (↑i : Int) < (↑p.own.length : Int)) (Out.need (0 + i < p.own.length) (Out.ite (decide ((p.own.getD (0 + i) (V.enc Kd.pr).dflt).k < p.k)) (Out.stop EX.nx {env := [(2, .int .i64 p.k), (3, .int .i64 p.v), (8, .ptr 4 0), (11, .sl false 30 0 2 p.own.length (p.own.length + p.4)), (13, .int .i64 (IntKind.i64.wrap ((↑i : Int) + 1)))], heap := [(30, .arr 27 Kd.pr p.own p.4), (4, .cells 35 [.lit .i64 0, .lit .i64 0, .lit .i64 0, .ff])], nx := 31, nt := 92, tl := [0, 1, 2, 3, 4, 5, 6, 7, 8, 9, 10, 11, 12, 13, 14, 15, 16] : St V }) (Out.stop (EX.ex 1) {env := [(2, .int .i64 p.k), (3, .int .i64 p.v), (8, .ptr 4 0), (11, .sl false 30 0 2 p.own.length (p.own.length + p.4)), (13, .int .i64 (↑i : Int))], heap := [(30, .arr 27 Kd.pr p.own p.4), (4, .cells 35 [.lit .i64 0, .lit .i64 0, .lit .i64 0, .ff])], nx := 31, nt := 92, tl := [0, 1, 2, 3, 4, 5, 6, 7, 8, 9, 10, 11, 12, 13, 14, 15, 16] : St V })))) (Out.stop (EX.ex 1) {env := [(2, .int .i64 p.k), (3, .int .i64 p.v), (8, .ptr 4 0), (11, .sl false 30 0 2 p.own.length (p.own.length + p.4)), (13, .int .i64 (↑i : Int))], heap := [(30, .arr 27 Kd.pr p.own p.4), (4, .cells 35 [.lit .i64 0, .lit .i64 0, .lit .i64 0, .ff])], nx := 31, nt := 92, tl := [0, 1, 2, 3, 4, 5, 6, 7, 8, 9, 10, 11, 12, 13, 14, 15, 16] : St V }) := by kernel_rfl

theorem qt4 (m : List Pr) (c : Nat) (d k v : Int) : runF cfgS3 60 22 Try.f22 [.sl false 0 0 2 m.length c, .int .i64 d, .int .i64 k, .int .i64 v] [(0, .ro Kd.pr m)] 4 = Out.need (0 + m.length ≤ m.length) (Out.need ((List.take m.length (List.drop 0 m)).length ≤ 1099511627776) (Out.need (0 + m.length ≤ m.length) (Out.need ((List.take m.length (List.drop 0 m)).length * 16 ≤ 140737488355328) (Out.all Nat fun y => Out.ite (decide (fndI (List.take m.length (List.drop 0 m)) k ≥ 0)) (Out.need (0 ≤ fndI (List.take m.length (List.drop 0 m)) k ∧ fndI (List.take m.length (List.drop 0 m)) k < (↑m.length : Int)) (Out.need (0 + (fndI (List.take m.length (List.drop 0 m)) k).toNat < m.length) (Out.ite (d == 1) (Out.fin (.tup [.agg [.int .i64 d, .int .i64 k, .int .i64 (m.getD (0 + (fndI (List.take m.length (List.drop 0 m)) k).toNat) (V.enc Kd.pr).dflt).v, .bool (decide (fndI (List.take m.length (List.drop 0 m)) k ≥ 0))], .sl false 6 0 2 (List.take m.length (List.drop 0 m)).length ((List.take m.length (List.drop 0 m)).length + y)]) [(7, .cells 35 [.int .i64 d, .int .i64 k, .int .i64 (m.getD (0 + (fndI (List.take m.length (List.drop 0 m)) k).toNat) (V.enc Kd.pr).dflt).v, .bool (decide (fndI (List.take m.length (List.drop 0 m)) k ≥ 0))]), (6, .arr 27 Kd.pr (List.take m.length (List.drop 0 m)) y), (5, .cells 27 []), (4, .cells 35 [.int .i64 d, .int .i64 k, .int .i64 (m.getD (0 + (fndI (List.take m.length (List.drop 0 m)) k).toNat) (V.enc Kd.pr).dflt).v, .bool (decide (fndI (List.take m.length (List.drop 0 m)) k ≥ 0))]), (0, .ro Kd.pr m)] 11) (Out.ite (d == 2) (Out.ite (decide (fndI (List.take m.length (List.drop 0 m)) k ≥ 0)) (Out.need (0 + (List.take m.length (List.drop 0 m)).length ≤ (List.take m.length (List.drop 0 m)).length) (Out.need ((List.take (List.take m.length (List.drop 0 m)).length (List.drop 0 (List.take m.length (List.drop 0 m)))).length ≤ 1099511627776 ∧ 0 ≤ fndI (List.take m.length (List.drop 0 m)) k ∧ fndI (List.take m.length (List.drop 0 m)) k < (↑(List.take (List.take m.length (List.drop 0 m)).length (List.drop 0 (List.take m.length (List.drop 0 m)))).length : Int) ∧ fndI (List.take m.length (List.drop 0 m)) k ≤ (↑((List.take m.length (List.drop 0 m)).length + y) : Int)) (Out.all Nat fun y_1 => Out.need (LoopFor Try.prog 22 1 (loopOf Try.f22 1) QL4) (Out.ex (QPS → Prop) fun y_2 => Out.need (11 ≤ 30 ∧ SImp 30 {env := [(2, .int .i64 k), (3, .int .i64 v), (8, .ptr 4 0), (11, .sl false 10 0 2 (without (List.take (List.take m.length (List.drop 0 m)).length (List.drop 0 (List.take m.length (List.drop 0 m)))) (fndI (List.take m.length (List.drop 0 m)) k).toNat).length ((without (List.take (List.take m.length (List.drop 0 m)).length (List.drop 0 (List.take m.length (List.drop 0 m)))) (fndI (List.take m.length (List.drop 0 m)) k).toNat).length + y_1)), (13, .lit .i64 0)], heap := [(10, .arr 27 Kd.pr (without (List.take (List.take m.length (List.drop 0 m)).length (List.drop 0 (List.take m.length (List.drop 0 m)))) (fndI (List.take m.length (List.drop 0 m)) k).toNat) y_1), (6, .arr 27 Kd.pr (List.take m.length (List.drop 0 m)) y), (4, .cells 35 [.lit .i64 0, .lit .i64 0, .lit .i64 0, .ff])], nx := 11, nt := 92, tl := [7, 5, 0, 7, 7] : St V } (fun p => QI4 p 0) y_2) (Out.all QPS fun y => Out.asm (y_2 y) (Out.all Unit fun y_3 => Out.asm ((fun x x_1 => True) y y_3) (Out.need (0 ≤ (↑(below y.own y.k) : Int) ∧ (↑(below y.own y.k) : Int) ≤ (↑(y.own.length + y.4) : Int)) (Out.need (0 ≤ (↑(below y.own y.k) : Int) ∧ (↑(below y.own y.k) : Int) ≤ (↑y.own.length : Int)) (((Out.need (0 + (↑(below y.own y.k) : Int).toNat ≤ y.own.length) (Out.need ((List.take (↑(below y.own y.k) : Int).toNat (List.drop 0 y.own)).length * 16 ≤ 140737488355328) (Out.all Nat fun y_4 => Out.need (0 = 0 ∧ (List.take (↑(below y.own y.k) : Int).toNat (List.drop 0 y.own)).length = (List.take (↑(below y.own y.k) : Int).toNat (List.drop 0 y.own)).length ∧ (List.take (↑(below y.own y.k) : Int).toNat (List.drop 0 y.own)).length + y_4 = (List.take (↑(below y.own y.k) : Int).toNat (List.drop 0 y.own)).length + y_4 ∧ ((List.take (↑(below y.own y.k) : Int).toNat (List.drop 0 y.own)).length + 1) * 16 ≤ 140737488355328) (Out.all Nat fun y_5 => Out.need (0 + (↑(below y.own y.k) : Int).toNat + (y.own.length - (↑(below y.own y.k) : Int).toNat) ≤ y.own.length) (Out.need (0 = 0 ∧ (List.take (↑(below y.own y.k) : Int).toNat (List.drop 0 y.own)).length + 1 = (List.take (↑(below y.own y.k) : Int).toNat (List.drop 0 y.own) ++ [{k := y.k, v := y.v : Pr }]).length ∧ (List.take (↑(below y.own y.k) : Int).toNat (List.drop 0 y.own)).length + 1 + y_5 = (List.take (↑(below y.own y.k) : Int).toNat (List.drop 0 y.own) ++ [{k := y.k, v := y.v : Pr }]).length + y_5 ∧ ((List.take (↑(below y.own y.k) : Int).toNat (List.drop 0 y.own) ++ [{k := y.k, v := y.v : Pr }]).length + (List.take (y.own.length - (↑(below y.own y.k) : Int).toNat) (List.drop (0 + (↑(below y.own y.k) : Int).toNat) y.own)).length) * 16 ≤ 140737488355328) (Out.all Nat fun y_6 => Out.fin (.tup [.agg [.lit .i64 2, .int .i64 y.k, .int .i64 y.v, .ff], .sl false 35 0 2 ((List.take (↑(below y.own y.k) : Int).toNat (List.drop 0 y.own) ++ [{k := y.k, v := y.v : Pr }]).length + (List.take (y.own.length - (↑(below y.own y.k) : Int).toNat) (List.drop (0 + (↑(below y.own y.k) : Int).toNat) y.own)).length) ((List.take (↑(below y.own y.k) : Int).toNat (List.drop 0 y.own) ++ [{k := y.k, v := y.v : Pr }]).length + (List.take (y.own.length - (↑(below y.own y.k) : Int).toNat) (List.drop (0 + (↑(below y.own y.k) : Int).toNat) y.own)).length + y_6)]) [(35, .arr 27 Kd.pr (List.take (↑(below y.own y.k) : Int).toNat (List.drop 0 y.own) ++ [{k := y.k, v := y.v : Pr }] ++ List.take (y.own.length - (↑(below y.own y.k) : Int).toNat) (List.drop (0 + (↑(below y.own y.k) : Int).toNat) y.own)) y_6), (33, .cells 27 [.int .i64 y.k, .int .i64 y.v]), (31, .cells 27 []), (30, .arr 27 Kd.pr y.own y.4), (4, .cells 35 [.lit .i64 2, .int .i64 y.k, .int .i64 y.v, .ff])] 37)))))).both (Out.need (0 + (↑(below y.own y.k) : Int).toNat ≤ y.own.length) (Out.need ((List.take (↑(below y.own y.k) : Int).toNat (List.drop 0 y.own)).length * 16 ≤ 140737488355328) (Out.all Nat fun y_4 => Out.need (0 = 0 ∧ (List.take (↑(below y.own y.k) : Int).toNat (List.drop 0 y.own)).length = (List.take (↑(below y.own y.k) : Int).toNat (List.drop 0 y.own)).length ∧ (List.take (↑(below y.own y.k) : Int).toNat (List.drop 0 y.own)).length + y_4 = (List.take (↑(below y.own y.k) : Int).toNat (List.drop 0 y.own)).length + y_4 ∧ ((List.take (↑(below y.own y.k) : Int).toNat (List.drop 0 y.own)).length + 1) * 16 ≤ 140737488355328) (Out.all Nat fun y_5 => Out.need (0 + (↑(below y.own y.k) : Int).toNat + (y.own.length - (↑(below y.own y.k) : Int).toNat) ≤ y.own.length) (Out.need (0 = 0 ∧ (List.take (↑(below y.own y.k) : Int).toNat (List.drop 0 y.own)).length + 1 = (List.take (↑(below y.own y.k) : Int).toNat (List.drop 0 y.own) ++ [{k := y.k, v := y.v : Pr }]).length ∧ (List.take (↑(below y.own y.k) : Int).toNat (List.drop 0 y.own)).length + 1 + y_5 = (List.take (↑(below y.own y.k) : Int).toNat (List.drop 0 y.own) ++ [{k := y.k, v := y.v : Pr }]).length + y_5 ∧ ((List.take (↑(below y.own y.k) : Int).toNat (List.drop 0 y.own) ++ [{k := y.k, v := y.v : Pr }]).length + (List.take (y.own.length - (↑(below y.own y.k) : Int).toNat) (List.drop (0 + (↑(below y.own y.k) : Int).toNat) y.own)).length) * 16 ≤ 140737488355328) (Out.all Nat fun y_6 => Out.fin (.tup [.agg [.lit .i64 2, .int .i64 y.k, .int .i64 y.v, .ff], .sl false 35 0 2 ((List.take (↑(below y.own y.k) : Int).toNat (List.drop 0 y.own) ++ [{k := y.k, v := y.v : Pr }]).length + (List.take (y.own.length - (↑(below y.own y.k) : Int).toNat) (List.drop (0 + (↑(below y.own y.k) : Int).toNat) y.own)).length) ((List.take (↑(below y.own y.k) : Int).toNat (List.drop 0 y.own) ++ [{k := y.k, v := y.v : Pr }]).length + (List.take (y.own.length - (↑(below y.own y.k) : Int).toNat) (List.drop (0 + (↑(below y.own y.k) : Int).toNat) y.own)).length + y_6)]) [(35, .arr 27 Kd.pr (List.take (↑(below y.own y.k) : Int).toNat (List.drop 0 y.own) ++ [{k := y.k, v := y.v : Pr }] ++ List.take (y.own.length - (↑(below y.own y.k) : Int).toNat) (List.drop (0 + (↑(below y.own y.k) : Int).toNat) y.own)) y_6), (32, .cells 27 [.int .i64 y.k, .int .i64 y.v]), (31, .cells 27 []), (30, .arr 27 Kd.pr y.own y.4), (4, .cells 35 [.lit .i64 2, .int .i64 y.k, .int .i64 y.v, .ff])] 37))))))).both (Out.need (0 + (↑(below y.own y.k) : Int).toNat ≤ y.own.length) (Out.need ((List.take (↑(below y.own y.k) : Int).toNat (List.drop 0 y.own)).length * 16 ≤ 140737488355328) (Out.all Nat fun y_4 => Out.need (0 = 0 ∧ (List.take (↑(below y.own y.k) : Int).toNat (List.drop 0 y.own)).length = (List.take (↑(below y.own y.k) : Int).toNat (List.drop 0 y.own)).length ∧ (List.take (↑(below y.own y.k) : Int).toNat (List.drop 0 y.own)).length + y_4 = (List.take (↑(below y.own y.k) : Int).toNat (List.drop 0 y.own)).length + y_4 ∧ ((List.take (↑(below y.own y.k) : Int).toNat (List.drop 0 y.own)).length + 1) * 16 ≤ 140737488355328) (Out.all Nat fun y_5 => Out.need (0 + (↑(below y.own y.k) : Int).toNat + (y.own.length - (↑(below y.own y.k) : Int).toNat) ≤ y.own.length) (Out.need (0 = 0 ∧ (List.take (↑(below y.own y.k) : Int).toNat (List.drop 0 y.own)).length + 1 = (List.take (↑(below y.own y.k) : Int).toNat (List.drop 0 y.own) ++ [{k := y.k, v := y.v : Pr }]).length ∧ (List.take (↑(below y.own y.k) : Int).toNat (List.drop 0 y.own)).length + 1 + y_5 = (List.take (↑(below y.own y.k) : Int).toNat (List.drop 0 y.own) ++ [{k := y.k, v := y.v : Pr }]).length + y_5 ∧ ((List.take (↑(below y.own y.k) : Int).toNat (List.drop 0 y.own) ++ [{k := y.k, v := y.v : Pr }]).length + (List.take (y.own.length - (↑(below y.own y.k) : Int).toNat) (List.drop (0 + (↑(below y.own y.k) : Int).toNat) y.own)).length) * 16 ≤ 140737488355328) (Out.all Nat fun y_6 => Out.fin (.tup [.agg [.lit .i64 2, .int .i64 y.k, .int .i64 y.v, .ff], .sl false 35 0 2 ((List.take (↑(below y.own y.k) : Int).toNat (List.drop 0 y.own) ++ [{k := y.k, v := y.v : Pr }]).length + (List.take (y.own.length - (↑(below y.own y.k) : Int).toNat) (List.drop (0 + (↑(below y.own y.k) : Int).toNat) y.own)).length) ((List.take (↑(below y.own y.k) : Int).toNat (List.drop 0 y.own) ++ [{k := y.k, v := y.v : Pr }]).length + (List.take (y.own.length - (↑(below y.own y.k) : Int).toNat) (List.drop (0 + (↑(below y.own y.k) : Int).toNat) y.own)).length + y_6)]) [(35, .arr 27 Kd.pr (List.take (↑(below y.own y.k) : Int).toNat (List.drop 0 y.own) ++ [{k := y.k, v := y.v : Pr }] ++ List.take (y.own.length - (↑(below y.own y.k) : Int).toNat) (List.drop (0 + (↑(below y.own y.k) : Int).toNat) y.own)) y_6), (32, .cells 27 []), (31, .cells 27 [.int .i64 y.k, .int .i64 y.v]), (30, .arr 27 Kd.pr y.own y.4), (4, .cells 35 [.lit .i64 2, .int .i64 y.k, .int .i64 y.v, .ff])] 37))))))))))))))) (Out.need (LoopFor Try.prog 22 1 (loopOf Try.f22 1) QL4) (Out.ex (QPS → Prop) fun y_1 => Out.need (10 ≤ 30 ∧ SImp 30 {env := [(2, .int .i64 k), (3, .int .i64 v), (8, .ptr 4 0), (11, .sl false 6 0 2 (List.take m.length (List.drop 0 m)).length ((List.take m.length (List.drop 0 m)).length + y)), (13, .lit .i64 0)], heap := [(6, .arr 27 Kd.pr (List.take m.length (List.drop 0 m)) y), (4, .cells 35 [.lit .i64 0, .lit .i64 0, .lit .i64 0, .ff])], nx := 10, nt := 92, tl := [7, 5, 0, 7, 7] : St V } (fun p => QI4 p 0) y_1) (Out.all QPS fun y => Out.asm (y_1 y) (Out.all Unit fun y_2 => Out.asm ((fun x x_1 => True) y y_2) (Out.need (0 ≤ (↑(below y.own y.k) : Int) ∧ (↑(below y.own y.k) : Int) ≤ (↑(y.own.length + y.4) : Int)) (Out.need (0 ≤ (↑(below y.own y.k) : Int) ∧ (↑(below y.own y.k) : Int) ≤ (↑y.own.length : Int)) (((Out.need (0 + (↑(below y.own y.k) : Int).toNat ≤ y.own.length) (Out.need ((List.take (↑(below y.own y.k) : Int).toNat (List.drop 0 y.own)).length * 16 ≤ 140737488355328) (Out.all Nat fun y_3 => Out.need (0 = 0 ∧ (List.take (↑(below y.own y.k) : Int).toNat (List.drop 0 y.own)).length = (List.take (↑(below y.own y.k) : Int).toNat (List.drop 0 y.own)).length ∧ (List.take (↑(below y.own y.k) : Int).toNat (List.drop 0 y.own)).length + y_3 = (List.take (↑(below y.own y.k) : Int).toNat (List.drop 0 y.own)).length + y_3 ∧ ((List.take (↑(below y.own y.k) : Int).toNat (List.drop 0 y.own)).length + 1) * 16 ≤ 140737488355328) (Out.all Nat fun y_4 => Out.need (0 + (↑(below y.own y.k) : Int).toNat + (y.own.length - (↑(below y.own y.k) : Int).toNat) ≤ y.own.length) (Out.need (0 = 0 ∧ (List.take (↑(below y.own y.k) : Int).toNat (List.drop 0 y.own)).length + 1 = (List.take (↑(below y.own y.k) : Int).toNat (List.drop 0 y.own) ++ [{k := y.k, v := y.v : Pr }]).length ∧ (List.take (↑(below y.own y.k) : Int).toNat (List.drop 0 y.own)).length + 1 + y_4 = (List.take (↑(below y.own y.k) : Int).toNat (List.drop 0 y.own) ++ [{k := y.k, v := y.v : Pr }]).length + y_4 ∧ ((List.take (↑(below y.own y.k) : Int).toNat (List.drop 0 y.own) ++ [{k := y.k, v := y.v : Pr }]).length + (List.take (y.own.length - (↑(below y.own y.k) : Int).toNat) (List.drop (0 + (↑(below y.own y.k) : Int).toNat) y.own)).length) * 16 ≤ 140737488355328) (Out.all Nat fun y_5 => Out.fin (.tup [.agg [.lit .i64 2, .int .i64 y.k, .int .i64 y.v, .ff], .sl false 35 0 2 ((List.take (↑(below y.own y.k) : Int).toNat (List.drop 0 y.own) ++ [{k := y.k, v := y.v : Pr }]).length + (List.take (y.own.length - (↑(below y.own y.k) : Int).toNat) (List.drop (0 + (↑(below y.own y.k) : Int).toNat) y.own)).length) ((List.take (↑(below y.own y.k) : Int).toNat (List.drop 0 y.own) ++ [{k := y.k, v := y.v : Pr }]).length + (List.take (y.own.length - (↑(below y.own y.k) : Int).toNat) (List.drop (0 + (↑(below y.own y.k) : Int).toNat) y.own)).length + y_5)]) [(35, .arr 27 Kd.pr (List.take (↑(below y.own y.k) : Int).toNat (List.drop 0 y.own) ++ [{k := y.k, v := y.v : Pr }] ++ List.take (y.own.length - (↑(below y.own y.k) : Int).toNat) (List.drop (0 + (↑(below y.own y.k) : Int).toNat) y.own)) y_5), (33, .cells 27 [.int .i64 y.k, .int .i64 y.v]), (31, .cells 27 []), (30, .arr 27 Kd.pr y.own y.4), (4, .cells 35 [.lit .i64 2, .int .i64 y.k, .int .i64 y.v, .ff])] 37)))))).both (Out.need (0 + (↑(below y.own y.k) : Int).toNat ≤ y.own.length) (Out.need ((List.take (↑(below y.own y.k) : Int).toNat (List.drop 0 y.own)).length * 16 ≤ 140737488355328) (Out.all Nat fun y_3 => Out.need (0 = 0 ∧ (List.take (↑(below y.own y.k) : Int).toNat (List.drop 0 y.own)).length = (List.take (↑(below y.own y.k) : Int).toNat (List.drop 0 y.own)).length ∧ (List.take (↑(below y.own y.k) : Int).toNat (List.drop 0 y.own)).length + y_3 = (List.take (↑(below y.own y.k) : Int).toNat (List.drop 0 y.own)).length + y_3 ∧ ((List.take (↑(below y.own y.k) : Int).toNat (List.drop 0 y.own)).length + 1) * 16 ≤ 140737488355328) (Out.all Nat fun y_4 => Out.need (0 + (↑(below y.own y.k) : Int).toNat + (y.own.length - (↑(below y.own y.k) : Int).toNat) ≤ y.own.length) (Out.need (0 = 0 ∧ (List.take (↑(below y.own y.k) : Int).toNat (List.drop 0 y.own)).length + 1 = (List.take (↑(below y.own y.k) : Int).toNat (List.drop 0 y.own) ++ [{k := y.k, v := y.v : Pr }]).length ∧ (List.take (↑(below y.own y.k) : Int).toNat (List.drop 0 y.own)).length + 1 + y_4 = (List.take (↑(below y.own y.k) : Int).toNat (List.drop 0 y.own) ++ [{k := y.k, v := y.v : Pr }]).length + y_4 ∧ ((List.take (↑(below y.own y.k) : Int).toNat (List.drop 0 y.own) ++ [{k := y.k, v := y.v : Pr }]).length + (List.take (y.own.length - (↑(below y.own y.k) : Int).toNat) (List.drop (0 + (↑(below y.own y.k) : Int).toNat) y.own)).length) * 16 ≤ 140737488355328) (Out.all Nat fun y_5 => Out.fin (.tup [.agg [.lit .i64 2, .int .i64 y.k, .int .i64 y.v, .ff], .sl false 35 0 2 ((List.take (↑(below y.own y.k) : Int).toNat (List.drop 0 y.own) ++ [{k := y.k, v := y.v : Pr }]).length + (List.take (y.own.length - (↑(below y.own y.k) : Int).toNat) (List.drop (0 + (↑(below y.own y.k) : Int).toNat) y.own)).length) ((List.take (↑(below y.own y.k) : Int).toNat (List.drop 0 y.own) ++ [{k := y.k, v := y.v : Pr }]).length + (List.take (y.own.length - (↑(below y.own y.k) : Int).toNat) (List.drop (0 + (↑(below y.own y.k) : Int).toNat) y.own)).length + y_5)]) [(35, .arr 27 Kd.pr (List.take (↑(below y.own y.k) : Int).toNat (List.drop 0 y.own) ++ [{k := y.k, v := y.v : Pr }] ++ List.take (y.own.length - (↑(below y.own y.k) : Int).toNat) (List.drop (0 + (↑(below y.own y.k) : Int).toNat) y.own)) y_5), (32, .cells 27 [.int .i64 y.k, .int .i64 y.v]), (31, .cells 27 []), (30, .arr 27 Kd.pr y.own y.4), (4, .cells 35 [.lit .i64 2, .int .i64 y.k, .int .i64 y.v, .ff])] 37))))))).both (Out.need (0 + (↑(below y.own y.k) : Int).toNat ≤ y.own.length) (Out.need ((List.take (↑(below y.own y.k) : Int).toNat (List.drop 0 y.own)).length * 16 ≤ 140737488355328) (Out.all Nat fun y_3 => Out.need (0 = 0 ∧ (List.take (↑(below y.own y.k) : Int).toNat (List.drop 0 y.own)).length = (List.take (↑(below y.own y.k) : Int).toNat (List.drop 0 y.own)).length ∧ (List.take (↑(below y.own y.k) : Int).toNat (List.drop 0 y.own)).length + y_3 = (List.take (↑(below y.own y.k) : Int).toNat (List.drop 0 y.own)).length + y_3 ∧ ((List.take (↑(below y.own y.k) : Int).toNat (List.drop 0 y.own)).length + 1) * 16 ≤ 140737488355328) (Out.all Nat fun y_4 => Out.need (0 + (↑(below y.own y.k) : Int).toNat + (y.own.length - (↑(below y.own y.k) : Int).toNat) ≤ y.own.length) (Out.need (0 = 0 ∧ (List.take (↑(below y.own y.k) : Int).toNat (List.drop 0 y.own)).length + 1 = (List.take (↑(below y.own y.k) : Int).toNat (List.drop 0 y.own) ++ [{k := y.k, v := y.v : Pr }]).length ∧ (List.take (↑(below y.own y.k) : Int).toNat (List.drop 0 y.own)).length + 1 + y_4 = (List.take (↑(below y.own y.k) : Int).toNat (List.drop 0 y.own) ++ [{k := y.k, v := y.v : Pr }]).length + y_4 ∧ ((List.take (↑(below y.own y.k) : Int).toNat (List.drop 0 y.own) ++ [{k := y.k, v := y.v : Pr }]).length + (List.take (y.own.length - (↑(below y.own y.k) : Int).toNat) (List.drop (0 + (↑(below y.own y.k) : Int).toNat) y.own)).length) * 16 ≤ 140737488355328) (Out.all Nat fun y_5 => Out.fin (.tup [.agg [.lit .i64 2, .int .i64 y.k, .int .i64 y.v, .ff], .sl false 35 0 2 ((List.take (↑(below y.own y.k) : Int).toNat (List.drop 0 y.own) ++ [{k := y.k, v := y.v : Pr }]).length + (List.take (y.own.length - (↑(below y.own y.k) : Int).toNat) (List.drop (0 + (↑(below y.own y.k) : Int).toNat) y.own)).length) ((List.take (↑(below y.own y.k) : Int).toNat (List.drop 0 y.own) ++ [{k := y.k, v := y.v : Pr }]).length + (List.take (y.own.length - (↑(below y.own y.k) : Int).toNat) (List.drop (0 + (↑(below y.own y.k) : Int).toNat) y.own)).length + y_5)]) [(35, .arr 27 Kd.pr (List.take (↑(below y.own y.k) : Int).toNat (List.drop 0 y.own) ++ [{k := y.k, v := y.v : Pr }] ++ List.take (y.own.length - (↑(below y.own y.k) : Int).toNat) (List.drop (0 + (↑(below y.own y.k) : Int).toNat) y.own)) y_5), (32, .cells 27 []), (31, .cells 27 [.int .i64 y.k, .int .i64 y.v]), (30, .arr 27 Kd.pr y.own y.4), (4, .cells 35 [.lit .i64 2, .int .i64 y.k, .int .i64 y.v, .ff])] 37)))))))))))))) (Out.ite (d == 3) (Out.ite (d == 3) (Out.ite (decide (fndI (List.take m.length (List.drop 0 m)) k ≥ 0)) (Out.need (0 + (List.take m.length (List.drop 0 m)).length ≤ (List.take m.length (List.drop 0 m)).length) (Out.need ((List.take (List.take m.length (List.drop 0 m)).length (List.drop 0 (List.take m.length (List.drop 0 m)))).length ≤ 1099511627776 ∧ 0 ≤ fndI (List.take m.length (List.drop 0 m)) k ∧ fndI (List.take m.length (List.drop 0 m)) k < (↑(List.take (List.take m.length (List.drop 0 m)).length (List.drop 0 (List.take m.length (List.drop 0 m)))).length : Int) ∧ fndI (List.take m.length (List.drop 0 m)) k ≤ (↑((List.take m.length (List.drop 0 m)).length + y) : Int)) (Out.all Nat fun y_1 => Out.fin (.tup [.agg [.int .i64 d, .int .i64 k, .int .i64 (m.getD (0 + (fndI (List.take m.length (List.drop 0 m)) k).toNat) (V.enc Kd.pr).dflt).v, .bool (decide (fndI (List.take m.length (List.drop 0 m)) k ≥ 0))], .sl false 10 0 2 (without (List.take (List.take m.length (List.drop 0 m)).length (List.drop 0 (List.take m.length (List.drop 0 m)))) (fndI (List.take m.length (List.drop 0 m)) k).toNat).length ((without (List.take (List.take m.length (List.drop 0 m)).length (List.drop 0 (List.take m.length (List.drop 0 m)))) (fndI (List.take m.length (List.drop 0 m)) k).toNat).length + y_1)]) [(10, .arr 27 Kd.pr (without (List.take (List.take m.length (List.drop 0 m)).length (List.drop 0 (List.take m.length (List.drop 0 m)))) (fndI (List.take m.length (List.drop 0 m)) k).toNat) y_1), (7, .cells 35 [.int .i64 d, .int .i64 k, .int .i64 (m.getD (0 + (fndI (List.take m.length (List.drop 0 m)) k).toNat) (V.enc Kd.pr).dflt).v, .bool (decide (fndI (List.take m.length (List.drop 0 m)) k ≥ 0))]), (6, .arr 27 Kd.pr (List.take m.length (List.drop 0 m)) y), (5, .cells 27 []), (4, .cells 35 [.int .i64 d, .int .i64 k, .int .i64 (m.getD (0 + (fndI (List.take m.length (List.drop 0 m)) k).toNat) (V.enc Kd.pr).dflt).v, .bool (decide (fndI (List.take m.length (List.drop 0 m)) k ≥ 0))]), (0, .ro Kd.pr m)] 12))) (Out.ite (d == 3) (Out.fin (.tup [.agg [.int .i64 d, .int .i64 k, .int .i64 (m.getD (0 + (fndI (List.take m.length (List.drop 0 m)) k).toNat) (V.enc Kd.pr).dflt).v, .bool (decide (fndI (List.take m.length (List.drop 0 m)) k ≥ 0))], .sl false 6 0 2 (List.take m.length (List.drop 0 m)).length ((List.take m.length (List.drop 0 m)).length + y)]) [(7, .cells 35 [.int .i64 d, .int .i64 k, .int .i64 (m.getD (0 + (fndI (List.take m.length (List.drop 0 m)) k).toNat) (V.enc Kd.pr).dflt).v, .bool (decide (fndI (List.take m.length (List.drop 0 m)) k ≥ 0))]), (6, .arr 27 Kd.pr (List.take m.length (List.drop 0 m)) y), (5, .cells 27 []), (4, .cells 35 [.int .i64 d, .int .i64 k, .int .i64 (m.getD (0 + (fndI (List.take m.length (List.drop 0 m)) k).toNat) (V.enc Kd.pr).dflt).v, .bool (decide (fndI (List.take m.length (List.drop 0 m)) k ≥ 0))]), (0, .ro Kd.pr m)] 11) (Out.fin (.tup [.agg [.lit .i64 0, .lit .i64 0, .lit .i64 0, .ff], .sl false 6 0 2 (List.take m.length (List.drop 0 m)).length ((List.take m.length (List.drop 0 m)).length + y)]) [(7, .cells 35 [.int .i64 d, .int .i64 k, .int .i64 (m.getD (0 + (fndI (List.take m.length (List.drop 0 m)) k).toNat) (V.enc Kd.pr).dflt).v, .bool (decide (fndI (List.take m.length (List.drop 0 m)) k ≥ 0))]), (6, .arr 27 Kd.pr (List.take m.length (List.drop 0 m)) y), (5, .cells 27 []), (4, .cells 35 [.lit .i64 0, .lit .i64 0, .lit .i64 0, .ff]), (0, .ro Kd.pr m)] 11))) (Out.fin (.tup [.agg [.lit .i64 0, .lit .i64 0, .lit .i64 0, .ff], .sl false 6 0 2 (List.take m.length (List.drop 0 m)).length ((List.take m.length (List.drop 0 m)).length + y)]) [(7, .cells 35 [.int .i64 d, .int .i64 k, .int .i64 (m.getD (0 + (fndI (List.take m.length (List.drop 0 m)) k).toNat) (V.enc Kd.pr).dflt).v, .bool (decide (fndI (List.take m.length (List.drop 0 m)) k ≥ 0))]), (6, .arr 27 Kd.pr (List.take m.length (List.drop 0 m)) y), (5, .cells 27 []), (4, .cells 35 [.lit .i64 0, .lit .i64 0, .lit .i64 0, .ff]), (0, .ro Kd.pr m)] 11)) (Out.ite (d == 4) (Out.ite (decide (fndI (List.take m.length (List.drop 0 m)) k ≥ 0)) (Out.need (0 + (List.take m.length (List.drop 0 m)).length ≤ (List.take m.length (List.drop 0 m)).length) (Out.need ((List.take (List.take m.length (List.drop 0 m)).length (List.drop 0 (List.take m.length (List.drop 0 m)))).length ≤ 1099511627776 ∧ 0 ≤ fndI (List.take m.length (List.drop 0 m)) k ∧ fndI (List.take m.length (List.drop 0 m)) k < (↑(List.take (List.take m.length (List.drop 0 m)).length (List.drop 0 (List.take m.length (List.drop 0 m)))).length : Int) ∧ fndI (List.take m.length (List.drop 0 m)) k ≤ (↑((List.take m.length (List.drop 0 m)).length + y) : Int)) (Out.all Nat fun y_1 => Out.fin (.tup [.agg [.int .i64 d, .int .i64 k, .int .i64 (m.getD (0 + (fndI (List.take m.length (List.drop 0 m)) k).toNat) (V.enc Kd.pr).dflt).v, .bool (decide (fndI (List.take m.length (List.drop 0 m)) k ≥ 0))], .sl false 10 0 2 (without (List.take (List.take m.length (List.drop 0 m)).length (List.drop 0 (List.take m.length (List.drop 0 m)))) (fndI (List.take m.length (List.drop 0 m)) k).toNat).length ((without (List.take (List.take m.length (List.drop 0 m)).length (List.drop 0 (List.take m.length (List.drop 0 m)))) (fndI (List.take m.length (List.drop 0 m)) k).toNat).length + y_1)]) [(10, .arr 27 Kd.pr (without (List.take (List.take m.length (List.drop 0 m)).length (List.drop 0 (List.take m.length (List.drop 0 m)))) (fndI (List.take m.length (List.drop 0 m)) k).toNat) y_1), (7, .cells 35 [.int .i64 d, .int .i64 k, .int .i64 (m.getD (0 + (fndI (List.take m.length (List.drop 0 m)) k).toNat) (V.enc Kd.pr).dflt).v, .bool (decide (fndI (List.take m.length (List.drop 0 m)) k ≥ 0))]), (6, .arr 27 Kd.pr (List.take m.length (List.drop 0 m)) y), (5, .cells 27 []), (4, .cells 35 [.int .i64 d, .int .i64 k, .int .i64 (m.getD (0 + (fndI (List.take m.length (List.drop 0 m)) k).toNat) (V.enc Kd.pr).dflt).v, .bool (decide (fndI (List.take m.length (List.drop 0 m)) k ≥ 0))]), (0, .ro Kd.pr m)] 12))) (Out.ite (d == 3) (Out.fin (.tup [.agg [.int .i64 d, .int .i64 k, .int .i64 (m.getD (0 + (fndI (List.take m.length (List.drop 0 m)) k).toNat) (V.enc Kd.pr).dflt).v, .bool (decide (fndI (List.take m.length (List.drop 0 m)) k ≥ 0))], .sl false 6 0 2 (List.take m.length (List.drop 0 m)).length ((List.take m.length (List.drop 0 m)).length + y)]) [(7, .cells 35 [.int .i64 d, .int .i64 k, .int .i64 (m.getD (0 + (fndI (List.take m.length (List.drop 0 m)) k).toNat) (V.enc Kd.pr).dflt).v, .bool (decide (fndI (List.take m.length (List.drop 0 m)) k ≥ 0))]), (6, .arr 27 Kd.pr (List.take m.length (List.drop 0 m)) y), (5, .cells 27 []), (4, .cells 35 [.int .i64 d, .int .i64 k, .int .i64 (m.getD (0 + (fndI (List.take m.length (List.drop 0 m)) k).toNat) (V.enc Kd.pr).dflt).v, .bool (decide (fndI (List.take m.length (List.drop 0 m)) k ≥ 0))]), (0, .ro Kd.pr m)] 11) (Out.fin (.tup [.agg [.lit .i64 0, .lit .i64 0, .lit .i64 0, .ff], .sl false 6 0 2 (List.take m.length (List.drop 0 m)).length ((List.take m.length (List.drop 0 m)).length + y)]) [(7, .cells 35 [.int .i64 d, .int .i64 k, .int .i64 (m.getD (0 + (fndI (List.take m.length (List.drop 0 m)) k).toNat) (V.enc Kd.pr).dflt).v, .bool (decide (fndI (List.take m.length (List.drop 0 m)) k ≥ 0))]), (6, .arr 27 Kd.pr (List.take m.length (List.drop 0 m)) y), (5, .cells 27 []), (4, .cells 35 [.lit .i64 0, .lit .i64 0, .lit .i64 0, .ff]), (0, .ro Kd.pr m)] 11))) (Out.fin (.tup [.agg [.lit .i64 0, .lit .i64 0, .lit .i64 0, .ff], .sl false 6 0 2 (List.take m.length (List.drop 0 m)).length ((List.take m.length (List.drop 0 m)).length + y)]) [(7, .cells 35 [.int .i64 d, .int .i64 k, .int .i64 (m.getD (0 + (fndI (List.take m.length (List.drop 0 m)) k).toNat) (V.enc Kd.pr).dflt).v, .bool (decide (fndI (List.take m.length (List.drop 0 m)) k ≥ 0))]), (6, .arr 27 Kd.pr (List.take m.length (List.drop 0 m)) y), (5, .cells 27 []), (4, .cells 35 [.lit .i64 0, .lit .i64 0, .lit .i64 0, .ff]), (0, .ro Kd.pr m)] 11))))))) (Out.ite (d == 1) (Out.fin (.tup [.agg [.int .i64 d, .int .i64 k, .lit .i64 0, .bool (decide (fndI (List.take m.length (List.drop 0 m)) k ≥ 0))], .sl false 6 0 2 (List.take m.length (List.drop 0 m)).length ((List.take m.length (List.drop 0 m)).length + y)]) [(7, .cells 35 [.int .i64 d, .int .i64 k, .lit .i64 0, .bool (decide (fndI (List.take m.length (List.drop 0 m)) k ≥ 0))]), (6, .arr 27 Kd.pr (List.take m.length (List.drop 0 m)) y), (5, .cells 27 []), (4, .cells 35 [.int .i64 d, .int .i64 k, .lit .i64 0, .bool (decide (fndI (List.take m.length (List.drop 0 m)) k ≥ 0))]), (0, .ro Kd.pr m)] 10) (Out.ite (d == 2) (Out.ite (decide (fndI (List.take m.length (List.drop 0 m)) k ≥ 0)) (Out.need (0 + (List.take m.length (List.drop 0 m)).length ≤ (List.take m.length (List.drop 0 m)).length) (Out.need ((List.take (List.take m.length (List.drop 0 m)).length (List.drop 0 (List.take m.length (List.drop 0 m)))).length ≤ 1099511627776 ∧ 0 ≤ fndI (List.take m.length (List.drop 0 m)) k ∧ fndI (List.take m.length (List.drop 0 m)) k < (↑(List.take (List.take m.length (List.drop 0 m)).length (List.drop 0 (List.take m.length (List.drop 0 m)))).length : Int) ∧ fndI (List.take m.length (List.drop 0 m)) k ≤ (↑((List.take m.length (List.drop 0 m)).length + y) : Int)) (Out.all Nat fun y_1 => Out.need (LoopFor Try.prog 22 1 (loopOf Try.f22 1) QL4) (Out.ex (QPS → Prop) fun y_2 => Out.need (10 ≤ 30 ∧ SImp 30 {env := [(2, .int .i64 k), (3, .int .i64 v), (8, .ptr 4 0), (11, .sl false 9 0 2 (without (List.take (List.take m.length (List.drop 0 m)).length (List.drop 0 (List.take m.length (List.drop 0 m)))) (fndI (List.take m.length (List.drop 0 m)) k).toNat).length ((without (List.take (List.take m.length (List.drop 0 m)).length (List.drop 0 (List.take m.length (List.drop 0 m)))) (fndI (List.take m.length (List.drop 0 m)) k).toNat).length + y_1)), (13, .lit .i64 0)], heap := [(6, .arr 27 Kd.pr (List.take m.length (List.drop 0 m)) y), (4, .cells 35 [.lit .i64 0, .lit .i64 0, .lit .i64 0, .ff])], nx := 10, nt := 92, tl := [9, 7, 5, 0, 7] : St V } (fun p => QI4 p 0) y_2) (Out.all QPS fun y => Out.asm (y_2 y) (Out.all Unit fun y_3 => Out.asm ((fun x x_1 => True) y y_3) (Out.need (0 ≤ (↑(below y.own y.k) : Int) ∧ (↑(below y.own y.k) : Int) ≤ (↑(y.own.length + y.4) : Int)) (Out.need (0 ≤ (↑(below y.own y.k) : Int) ∧ (↑(below y.own y.k) : Int) ≤ (↑y.own.length : Int)) (((Out.need (0 + (↑(below y.own y.k) : Int).toNat ≤ y.own.length) (Out.need ((List.take (↑(below y.own y.k) : Int).toNat (List.drop 0 y.own)).length * 16 ≤ 140737488355328) (Out.all Nat fun y_4 => Out.need (0 = 0 ∧ (List.take (↑(below y.own y.k) : Int).toNat (List.drop 0 y.own)).length = (List.take (↑(below y.own y.k) : Int).toNat (List.drop 0 y.own)).length ∧ (List.take (↑(below y.own y.k) : Int).toNat (List.drop 0 y.own)).length + y_4 = (List.take (↑(below y.own y.k) : Int).toNat (List.drop 0 y.own)).length + y_4 ∧ ((List.take (↑(below y.own y.k) : Int).toNat (List.drop 0 y.own)).length + 1) * 16 ≤ 140737488355328) (Out.all Nat fun y_5 => Out.need (0 + (↑(below y.own y.k) : Int).toNat + (y.own.length - (↑(below y.own y.k) : Int).toNat) ≤ y.own.length) (Out.need (0 = 0 ∧ (List.take (↑(below y.own y.k) : Int).toNat (List.drop 0 y.own)).length + 1 = (List.take (↑(below y.own y.k) : Int).toNat (List.drop 0 y.own) ++ [{k := y.k, v := y.v : Pr }]).length ∧ (List.take (↑(below y.own y.k) : Int).toNat (List.drop 0 y.own)).length + 1 + y_5 = (List.take (↑(below y.own y.k) : Int).toNat (List.drop 0 y.own) ++ [{k := y.k, v := y.v : Pr }]).length + y_5 ∧ ((List.take (↑(below y.own y.k) : Int).toNat (List.drop 0 y.own) ++ [{k := y.k, v := y.v : Pr }]).length + (List.take (y.own.length - (↑(below y.own y.k) : Int).toNat) (List.drop (0 + (↑(below y.own y.k) : Int).toNat) y.own)).length) * 16 ≤ 140737488355328) (Out.all Nat fun y_6 => Out.fin (.tup [.agg [.lit .i64 2, .int .i64 y.k, .int .i64 y.v, .ff], .sl false 35 0 2 ((List.take (↑(below y.own y.k) : Int).toNat (List.drop 0 y.own) ++ [{k := y.k, v := y.v : Pr }]).length + (List.take (y.own.length - (↑(below y.own y.k) : Int).toNat) (List.drop (0 + (↑(below y.own y.k) : Int).toNat) y.own)).length) ((List.take (↑(below y.own y.k) : Int).toNat (List.drop 0 y.own) ++ [{k := y.k, v := y.v : Pr }]).length + (List.take (y.own.length - (↑(below y.own y.k) : Int).toNat) (List.drop (0 + (↑(below y.own y.k) : Int).toNat) y.own)).length + y_6)]) [(35, .arr 27 Kd.pr (List.take (↑(below y.own y.k) : Int).toNat (List.drop 0 y.own) ++ [{k := y.k, v := y.v : Pr }] ++ List.take (y.own.length - (↑(below y.own y.k) : Int).toNat) (List.drop (0 + (↑(below y.own y.k) : Int).toNat) y.own)) y_6), (33, .cells 27 [.int .i64 y.k, .int .i64 y.v]), (31, .cells 27 []), (30, .arr 27 Kd.pr y.own y.4), (4, .cells 35 [.lit .i64 2, .int .i64 y.k, .int .i64 y.v, .ff])] 37)))))).both (Out.need (0 + (↑(below y.own y.k) : Int).toNat ≤ y.own.length) (Out.need ((List.take (↑(below y.own y.k) : Int).toNat (List.drop 0 y.own)).length * 16 ≤ 140737488355328) (Out.all Nat fun y_4 => Out.need (0 = 0 ∧ (List.take (↑(below y.own y.k) : Int).toNat (List.drop 0 y.own)).length = (List.take (↑(below y.own y.k) : Int).toNat (List.drop 0 y.own)).length ∧ (List.take (↑(below y.own y.k) : Int).toNat (List.drop 0 y.own)).length + y_4 = (List.take (↑(below y.own y.k) : Int).toNat (List.drop 0 y.own)).length + y_4 ∧ ((List.take (↑(below y.own y.k) : Int).toNat (List.drop 0 y.own)).length + 1) * 16 ≤ 140737488355328) (Out.all Nat fun y_5 => Out.need (0 + (↑(below y.own y.k) : Int).toNat + (y.own.length - (↑(below y.own y.k) : Int).toNat) ≤ y.own.length) (Out.need (0 = 0 ∧ (List.take (↑(below y.own y.k) : Int).toNat (List.drop 0 y.own)).length + 1 = (List.take (↑(below y.own y.k) : Int).toNat (List.drop 0 y.own) ++ [{k := y.k, v := y.v : Pr }]).length ∧ (List.take (↑(below y.own y.k) : Int).toNat (List.drop 0 y.own)).length + 1 + y_5 = (List.take (↑(below y.own y.k) : Int).toNat (List.drop 0 y.own) ++ [{k := y.k, v := y.v : Pr }]).length + y_5 ∧ ((List.take (↑(below y.own y.k) : Int).toNat (List.drop 0 y.own) ++ [{k := y.k, v := y.v : Pr }]).length + (List.take (y.own.length - (↑(below y.own y.k) : Int).toNat) (List.drop (0 + (↑(below y.own y.k) : Int).toNat) y.own)).length) * 16 ≤ 140737488355328) (Out.all Nat fun y_6 => Out.fin (.tup [.agg [.lit .i64 2, .int .i64 y.k, .int .i64 y.v, .ff], .sl false 35 0 2 ((List.take (↑(below y.own y.k) : Int).toNat (List.drop 0 y.own) ++ [{k := y.k, v := y.v : Pr }]).length + (List.take (y.own.length - (↑(below y.own y.k) : Int).toNat) (List.drop (0 + (↑(below y.own y.k) : Int).toNat) y.own)).length) ((List.take (↑(below y.own y.k) : Int).toNat (List.drop 0 y.own) ++ [{k := y.k, v := y.v : Pr }]).length + (List.take (y.own.length - (↑(below y.own y.k) : Int).toNat) (List.drop (0 + (↑(below y.own y.k) : Int).toNat) y.own)).length + y_6)]) [(35, .arr 27 Kd.pr (List.take (↑(below y.own y.k) : Int).toNat (List.drop 0 y.own) ++ [{k := y.k, v := y.v : Pr }] ++ List.take (y.own.length - (↑(below y.own y.k) : Int).toNat) (List.drop (0 + (↑(below y.own y.k) : Int).toNat) y.own)) y_6), (32, .cells 27 [.int .i64 y.k, .int .i64 y.v]), (31, .cells 27 []), (30, .arr 27 Kd.pr y.own y.4), (4, .cells 35 [.lit .i64 2, .int .i64 y.k, .int .i64 y.v, .ff])] 37))))))).both (Out.need (0 + (↑(below y.own y.k) : Int).toNat ≤ y.own.length) (Out.need ((List.take (↑(below y.own y.k) : Int).toNat (List.drop 0 y.own)).length * 16 ≤ 140737488355328) (Out.all Nat fun y_4 => Out.need (0 = 0 ∧ (List.take (↑(below y.own y.k) : Int).toNat (List.drop 0 y.own)).length = (List.take (↑(below y.own y.k) : Int).toNat (List.drop 0 y.own)).length ∧ (List.take (↑(below y.own y.k) : Int).toNat (List.drop 0 y.own)).length + y_4 = (List.take (↑(below y.own y.k) : Int).toNat (List.drop 0 y.own)).length + y_4 ∧ ((List.take (↑(below y.own y.k) : Int).toNat (List.drop 0 y.own)).length + 1) * 16 ≤ 140737488355328) (Out.all Nat fun y_5 => Out.need (0 + (↑(below y.own y.k) : Int).toNat + (y.own.length - (↑(below y.own y.k) : Int).toNat) ≤ y.own.length) (Out.need (0 = 0 ∧ (List.take (↑(below y.own y.k) : Int).toNat (List.drop 0 y.own)).length + 1 = (List.take (↑(below y.own y.k) : Int).toNat (List.drop 0 y.own) ++ [{k := y.k, v := y.v : Pr }]).length ∧ (List.take (↑(below y.own y.k) : Int).toNat (List.drop 0 y.own)).length + 1 + y_5 = (List.take (↑(below y.own y.k) : Int).toNat (List.drop 0 y.own) ++ [{k := y.k, v := y.v : Pr }]).length + y_5 ∧ ((List.take (↑(below y.own y.k) : Int).toNat (List.drop 0 y.own) ++ [{k := y.k, v := y.v : Pr }]).length + (List.take (y.own.length - (↑(below y.own y.k) : Int).toNat) (List.drop (0 + (↑(below y.own y.k) : Int).toNat) y.own)).length) * 16 ≤ 140737488355328) (Out.all Nat fun y_6 => Out.fin (.tup [.agg [.lit .i64 2, .int .i64 y.k, .int .i64 y.v, .ff], .sl false 35 0 2 ((List.take (↑(below y.own y.k) : Int).toNat (List.drop 0 y.own) ++ [{k := y.k, v := y.v : Pr }]).length + (List.take (y.own.length - (↑(below y.own y.k) : Int).toNat) (List.drop (0 + (↑(below y.own y.k) : Int).toNat) y.own)).length) ((List.take (↑(below y.own y.k) : Int).toNat (List.drop 0 y.own) ++ [{k := y.k, v := y.v : Pr }]).length + (List.take (y.own.length - (↑(below y.own y.k) : Int).toNat) (List.drop (0 + (↑(below y.own y.k) : Int).toNat) y.own)).length + y_6)]) [(35, .arr 27 Kd.pr (List.take (↑(below y.own y.k) : Int).toNat (List.drop 0 y.own) ++ [{k := y.k, v := y.v : Pr }] ++ List.take (y.own.length - (↑(below y.own y.k) : Int).toNat) (List.drop (0 + (↑(below y.own y.k) : Int).toNat) y.own)) y_6), (32, .cells 27 []), (31, .cells 27 [.int .i64 y.k, .int .i64 y.v]), (30, .arr 27 Kd.pr y.own y.4), (4, .cells 35 [.lit .i64 2, .int .i64 y.k, .int .i64 y.v, .ff])] 37))))))))))))))) (Out.need (LoopFor Try.prog 22 1 (loopOf Try.f22 1) QL4) (Out.ex (QPS → Prop) fun y_1 => Out.need (9 ≤ 30 ∧ SImp 30 {env := [(2, .int .i64 k), (3, .int .i64 v), (8, .ptr 4 0), (11, .sl false 6 0 2 (List.take m.length (List.drop 0 m)).length ((List.take m.length (List.drop 0 m)).length + y)), (13, .lit .i64 0)], heap := [(6, .arr 27 Kd.pr (List.take m.length (List.drop 0 m)) y), (4, .cells 35 [.lit .i64 0, .lit .i64 0, .lit .i64 0, .ff])], nx := 9, nt := 92, tl := [7, 5, 0, 7] : St V } (fun p => QI4 p 0) y_1) (Out.all QPS fun y => Out.asm (y_1 y) (Out.all Unit fun y_2 => Out.asm ((fun x x_1 => True) y y_2) (Out.need (0 ≤ (↑(below y.own y.k) : Int) ∧ (↑(below y.own y.k) : Int) ≤ (↑(y.own.length + y.4) : Int)) (Out.need (0 ≤ (↑(below y.own y.k) : Int) ∧ (↑(below y.own y.k) : Int) ≤ (↑y.own.length : Int)) (((Out.need (0 + (↑(below y.own y.k) : Int).toNat ≤ y.own.length) (Out.need ((List.take (↑(below y.own y.k) : Int).toNat (List.drop 0 y.own)).length * 16 ≤ 140737488355328) (Out.all Nat fun y_3 => Out.need (0 = 0 ∧ (List.take (↑(below y.own y.k) : Int).toNat (List.drop 0 y.own)).length = (List.take (↑(below y.own y.k) : Int).toNat (List.drop 0 y.own)).length ∧ (List.take (↑(below y.own y.k) : Int).toNat (List.drop 0 y.own)).length + y_3 = (List.take (↑(below y.own y.k) : Int).toNat (List.drop 0 y.own)).length + y_3 ∧ ((List.take (↑(below y.own y.k) : Int).toNat (List.drop 0 y.own)).length + 1) * 16 ≤ 140737488355328) (Out.all Nat fun y_4 => Out.need (0 + (↑(below y.own y.k) : Int).toNat + (y.own.length - (↑(below y.own y.k) : Int).toNat) ≤ y.own.length) (Out.need (0 = 0 ∧ (List.take (↑(below y.own y.k) : Int).toNat (List.drop 0 y.own)).length + 1 = (List.take (↑(below y.own y.k) : Int).toNat (List.drop 0 y.own) ++ [{k := y.k, v := y.v : Pr }]).length ∧ (List.take (↑(below y.own y.k) : Int).toNat (List.drop 0 y.own)).length + 1 + y_4 = (List.take (↑(below y.own y.k) : Int).toNat (List.drop 0 y.own) ++ [{k := y.k, v := y.v : Pr }]).length + y_4 ∧ ((List.take (↑(below y.own y.k) : Int).toNat (List.drop 0 y.own) ++ [{k := y.k, v := y.v : Pr }]).length + (List.take (y.own.length - (↑(below y.own y.k) : Int).toNat) (List.drop (0 + (↑(below y.own y.k) : Int).toNat) y.own)).length) * 16 ≤ 140737488355328) (Out.all Nat fun y_5 => Out.fin (.tup [.agg [.lit .i64 2, .int .i64 y.k, .int .i64 y.v, .ff], .sl false 35 0 2 ((List.take (↑(below y.own y.k) : Int).toNat (List.drop 0 y.own) ++ [{k := y.k, v := y.v : Pr }]).length + (List.take (y.own.length - (↑(below y.own y.k) : Int).toNat) (List.drop (0 + (↑(below y.own y.k) : Int).toNat) y.own)).length) ((List.take (↑(below y.own y.k) : Int).toNat (List.drop 0 y.own) ++ [{k := y.k, v := y.v : Pr }]).length + (List.take (y.own.length - (↑(below y.own y.k) : Int).toNat) (List.drop (0 + (↑(below y.own y.k) : Int).toNat) y.own)).length + y_5)]) [(35, .arr 27 Kd.pr (List.take (↑(below y.own y.k) : Int).toNat (List.drop 0 y.own) ++ [{k := y.k, v := y.v : Pr }] ++ List.take (y.own.length - (↑(below y.own y.k) : Int).toNat) (List.drop (0 + (↑(below y.own y.k) : Int).toNat) y.own)) y_5), (33, .cells 27 [.int .i64 y.k, .int .i64 y.v]), (31, .cells 27 []), (30, .arr 27 Kd.pr y.own y.4), (4, .cells 35 [.lit .i64 2, .int .i64 y.k, .int .i64 y.v, .ff])] 37)))))).both (Out.need (0 + (↑(below y.own y.k) : Int).toNat ≤ y.own.length) (Out.need ((List.take (↑(below y.own y.k) : Int).toNat (List.drop 0 y.own)).length * 16 ≤ 140737488355328) (Out.all Nat fun y_3 => Out.need (0 = 0 ∧ (List.take (↑(below y.own y.k) : Int).toNat (List.drop 0 y.own)).length = (List.take (↑(below y.own y.k) : Int).toNat (List.drop 0 y.own)).length ∧ (List.take (↑(below y.own y.k) : Int).toNat (List.drop 0 y.own)).length + y_3 = (List.take (↑(below y.own y.k) : Int).toNat (List.drop 0 y.own)).length + y_3 ∧ ((List.take (↑(below y.own y.k) : Int).toNat (List.drop 0 y.own)).length + 1) * 16 ≤ 140737488355328) (Out.all Nat fun y_4 => Out.need (0 + (↑(below y.own y.k) : Int).toNat + (y.own.length - (↑(below y.own y.k) : Int).toNat) ≤ y.own.length) (Out.need (0 = 0 ∧ (List.take (↑(below y.own y.k) : Int).toNat (List.drop 0 y.own)).length + 1 = (List.take (↑(below y.own y.k) : Int).toNat (List.drop 0 y.own) ++ [{k := y.k, v := y.v : Pr }]).length ∧ (List.take (↑(below y.own y.k) : Int).toNat (List.drop 0 y.own)).length + 1 + y_4 = (List.take (↑(below y.own y.k) : Int).toNat (List.drop 0 y.own) ++ [{k := y.k, v := y.v : Pr }]).length + y_4 ∧ ((List.take (↑(below y.own y.k) : Int).toNat (List.drop 0 y.own) ++ [{k := y.k, v := y.v : Pr }]).length + (List.take (y.own.length - (↑(below y.own y.k) : Int).toNat) (List.drop (0 + (↑(below y.own y.k) : Int).toNat) y.own)).length) * 16 ≤ 140737488355328) (Out.all Nat fun y_5 => Out.fin (.tup [.agg [.lit .i64 2, .int .i64 y.k, .int .i64 y.v, .ff], .sl false 35 0 2 ((List.take (↑(below y.own y.k) : Int).toNat (List.drop 0 y.own) ++ [{k := y.k, v := y.v : Pr }]).length + (List.take (y.own.length - (↑(below y.own y.k) : Int).toNat) (List.drop (0 + (↑(below y.own y.k) : Int).toNat) y.own)).length) ((List.take (↑(below y.own y.k) : Int).toNat (List.drop 0 y.own) ++ [{k := y.k, v := y.v : Pr }]).length + (List.take (y.own.length - (↑(below y.own y.k) : Int).toNat) (List.drop (0 + (↑(below y.own y.k) : Int).toNat) y.own)).length + y_5)]) [(35, .arr 27 Kd.pr (List.take (↑(below y.own y.k) : Int).toNat (List.drop 0 y.own) ++ [{k := y.k, v := y.v : Pr }] ++ List.take (y.own.length - (↑(below y.own y.k) : Int).toNat) (List.drop (0 + (↑(below y.own y.k) : Int).toNat) y.own)) y_5), (32, .cells 27 [.int .i64 y.k, .int .i64 y.v]), (31, .cells 27 []), (30, .arr 27 Kd.pr y.own y.4), (4, .cells 35 [.lit .i64 2, .int .i64 y.k, .int .i64 y.v, .ff])] 37))))))).both (Out.need (0 + (↑(below y.own y.k) : Int).toNat ≤ y.own.length) (Out.need ((List.take (↑(below y.own y.k) : Int).toNat (List.drop 0 y.own)).length * 16 ≤ 140737488355328) (Out.all Nat fun y_3 => Out.need (0 = 0 ∧ (List.take (↑(below y.own y.k) : Int).toNat (List.drop 0 y.own)).length = (List.take (↑(below y.own y.k) : Int).toNat (List.drop 0 y.own)).length ∧ (List.take (↑(below y.own y.k) : Int).toNat (List.drop 0 y.own)).length + y_3 = (List.take (↑(below y.own y.k) : Int).toNat (List.drop 0 y.own)).length + y_3 ∧ ((List.take (↑(below y.own y.k) : Int).toNat (List.drop 0 y.own)).length + 1) * 16 ≤ 140737488355328) (Out.all Nat fun y_4 => Out.need (0 + (↑(below y.own y.k) : Int).toNat + (y.own.length - (↑(below y.own y.k) : Int).toNat) ≤ y.own.length) (Out.need (0 = 0 ∧ (List.take (↑(below y.own y.k) : Int).toNat (List.drop 0 y.own)).length + 1 = (List.take (↑(below y.own y.k) : Int).toNat (List.drop 0 y.own) ++ [{k := y.k, v := y.v : Pr }]).length ∧ (List.take (↑(below y.own y.k) : Int).toNat (List.drop 0 y.own)).length + 1 + y_4 = (List.take (↑(below y.own y.k) : Int).toNat (List.drop 0 y.own) ++ [{k := y.k, v := y.v : Pr }]).length + y_4 ∧ ((List.take (↑(below y.own y.k) : Int).toNat (List.drop 0 y.own) ++ [{k := y.k, v := y.v : Pr }]).length + (List.take (y.own.length - (↑(below y.own y.k) : Int).toNat) (List.drop (0 + (↑(below y.own y.k) : Int).toNat) y.own)).length) * 16 ≤ 140737488355328) (Out.all Nat fun y_5 => Out.fin (.tup [.agg [.lit .i64 2, .int .i64 y.k, .int .i64 y.v, .ff], .sl false 35 0 2 ((List.take (↑(below y.own y.k) : Int).toNat (List.drop 0 y.own) ++ [{k := y.k, v := y.v : Pr }]).length + (List.take (y.own.length - (↑(below y.own y.k) : Int).toNat) (List.drop (0 + (↑(below y.own y.k) : Int).toNat) y.own)).length) ((List.take (↑(below y.own y.k) : Int).toNat (List.drop 0 y.own) ++ [{k := y.k, v := y.v : Pr }]).length + (List.take (y.own.length - (↑(below y.own y.k) : Int).toNat) (List.drop (0 + (↑(below y.own y.k) : Int).toNat) y.own)).length + y_5)]) [(35, .arr 27 Kd.pr (List.take (↑(below y.own y.k) : Int).toNat (List.drop 0 y.own) ++ [{k := y.k, v := y.v : Pr }] ++ List.take (y.own.length - (↑(below y.own y.k) : Int).toNat) (List.drop (0 + (↑(below y.own y.k) : Int).toNat) y.own)) y_5), (32, .cells 27 []), (31, .cells 27 [.int .i64 y.k, .int .i64 y.v]), (30, .arr 27 Kd.pr y.own y.4), (4, .cells 35 [.lit .i64 2, .int .i64 y.k, .int .i64 y.v, .ff])] 37)))))))))))))) (Out.ite (d == 3) (Out.ite (d == 3) (Out.ite (decide (fndI (List.take m.length (List.drop 0 m)) k ≥ 0)) (Out.need (0 + (List.take m.length (List.drop 0 m)).length ≤ (List.take m.length (List.drop 0 m)).length) (Out.need ((List.take (List.take m.length (List.drop 0 m)).length (List.drop 0 (List.take m.length (List.drop 0 m)))).length ≤ 1099511627776 ∧ 0 ≤ fndI (List.take m.length (List.drop 0 m)) k ∧ fndI (List.take m.length (List.drop 0 m)) k < (↑(List.take (List.take m.length (List.drop 0 m)).length (List.drop 0 (List.take m.length (List.drop 0 m)))).length : Int) ∧ fndI (List.take m.length (List.drop 0 m)) k ≤ (↑((List.take m.length (List.drop 0 m)).length + y) : Int)) (Out.all Nat fun y_1 => Out.fin (.tup [.agg [.int .i64 d, .int .i64 k, .lit .i64 0, .bool (decide (fndI (List.take m.length (List.drop 0 m)) k ≥ 0))], .sl false 9 0 2 (without (List.take (List.take m.length (List.drop 0 m)).length (List.drop 0 (List.take m.length (List.drop 0 m)))) (fndI (List.take m.length (List.drop 0 m)) k).toNat).length ((without (List.take (List.take m.length (List.drop 0 m)).length (List.drop 0 (List.take m.length (List.drop 0 m)))) (fndI (List.take m.length (List.drop 0 m)) k).toNat).length + y_1)]) [(9, .arr 27 Kd.pr (without (List.take (List.take m.length (List.drop 0 m)).length (List.drop 0 (List.take m.length (List.drop 0 m)))) (fndI (List.take m.length (List.drop 0 m)) k).toNat) y_1), (7, .cells 35 [.int .i64 d, .int .i64 k, .lit .i64 0, .bool (decide (fndI (List.take m.length (List.drop 0 m)) k ≥ 0))]), (6, .arr 27 Kd.pr (List.take m.length (List.drop 0 m)) y), (5, .cells 27 []), (4, .cells 35 [.int .i64 d, .int .i64 k, .lit .i64 0, .bool (decide (fndI (List.take m.length (List.drop 0 m)) k ≥ 0))]), (0, .ro Kd.pr m)] 11))) (Out.ite (d == 3) (Out.fin (.tup [.agg [.int .i64 d, .int .i64 k, .lit .i64 0, .bool (decide (fndI (List.take m.length (List.drop 0 m)) k ≥ 0))], .sl false 6 0 2 (List.take m.length (List.drop 0 m)).length ((List.take m.length (List.drop 0 m)).length + y)]) [(7, .cells 35 [.int .i64 d, .int .i64 k, .lit .i64 0, .bool (decide (fndI (List.take m.length (List.drop 0 m)) k ≥ 0))]), (6, .arr 27 Kd.pr (List.take m.length (List.drop 0 m)) y), (5, .cells 27 []), (4, .cells 35 [.int .i64 d, .int .i64 k, .lit .i64 0, .bool (decide (fndI (List.take m.length (List.drop 0 m)) k ≥ 0))]), (0, .ro Kd.pr m)] 10) (Out.fin (.tup [.agg [.lit .i64 0, .lit .i64 0, .lit .i64 0, .ff], .sl false 6 0 2 (List.take m.length (List.drop 0 m)).length ((List.take m.length (List.drop 0 m)).length + y)]) [(7, .cells 35 [.int .i64 d, .int .i64 k, .lit .i64 0, .bool (decide (fndI (List.take m.length (List.drop 0 m)) k ≥ 0))]), (6, .arr 27 Kd.pr (List.take m.length (List.drop 0 m)) y), (5, .cells 27 []), (4, .cells 35 [.lit .i64 0, .lit .i64 0, .lit .i64 0, .ff]), (0, .ro Kd.pr m)] 10))) (Out.fin (.tup [.agg [.lit .i64 0, .lit .i64 0, .lit .i64 0, .ff], .sl false 6 0 2 (List.take m.length (List.drop 0 m)).length ((List.take m.length (List.drop 0 m)).length + y)]) [(7, .cells 35 [.int .i64 d, .int .i64 k, .lit .i64 0, .bool (decide (fndI (List.take m.length (List.drop 0 m)) k ≥ 0))]), (6, .arr 27 Kd.pr (List.take m.length (List.drop 0 m)) y), (5, .cells 27 []), (4, .cells 35 [.lit .i64 0, .lit .i64 0, .lit .i64 0, .ff]), (0, .ro Kd.pr m)] 10)) (Out.ite (d == 4) (Out.ite (decide (fndI (List.take m.length (List.drop 0 m)) k ≥ 0)) (Out.need (0 + (List.take m.length (List.drop 0 m)).length ≤ (List.take m.length (List.drop 0 m)).length) (Out.need ((List.take (List.take m.length (List.drop 0 m)).length (List.drop 0 (List.take m.length (List.drop 0 m)))).length ≤ 1099511627776 ∧ 0 ≤ fndI (List.take m.length (List.drop 0 m)) k ∧ fndI (List.take m.length (List.drop 0 m)) k < (↑(List.take (List.take m.length (List.drop 0 m)).length (List.drop 0 (List.take m.length (List.drop 0 m)))).length : Int) ∧ fndI (List.take m.length (List.drop 0 m)) k ≤ (↑((List.take m.length (List.drop 0 m)).length + y) : Int)) (Out.all Nat fun y_1 => Out.fin (.tup [.agg [.int .i64 d, .int .i64 k, .lit .i64 0, .bool (decide (fndI (List.take m.length (List.drop 0 m)) k ≥ 0))], .sl false 9 0 2 (without (List.take (List.take m.length (List.drop 0 m)).length (List.drop 0 (List.take m.length (List.drop 0 m)))) (fndI (List.take m.length (List.drop 0 m)) k).toNat).length ((without (List.take (List.take m.length (List.drop 0 m)).length (List.drop 0 (List.take m.length (List.drop 0 m)))) (fndI (List.take m.length (List.drop 0 m)) k).toNat).length + y_1)]) [(9, .arr 27 Kd.pr (without (List.take (List.take m.length (List.drop 0 m)).length (List.drop 0 (List.take m.length (List.drop 0 m)))) (fndI (List.take m.length (List.drop 0 m)) k).toNat) y_1), (7, .cells 35 [.int .i64 d, .int .i64 k, .lit .i64 0, .bool (decide (fndI (List.take m.length (List.drop 0 m)) k ≥ 0))]), (6, .arr 27 Kd.pr (List.take m.length (List.drop 0 m)) y), (5, .cells 27 []), (4, .cells 35 [.int .i64 d, .int .i64 k, .lit .i64 0, .bool (decide (fndI (List.take m.length (List.drop 0 m)) k ≥ 0))]), (0, .ro Kd.pr m)] 11))) (Out.ite (d == 3) (Out.fin (.tup [.agg [.int .i64 d, .int .i64 k, .lit .i64 0, .bool (decide (fndI (List.take m.length (List.drop 0 m)) k ≥ 0))], .sl false 6 0 2 (List.take m.length (List.drop 0 m)).length ((List.take m.length (List.drop 0 m)).length + y)]) [(7, .cells 35 [.int .i64 d, .int .i64 k, .lit .i64 0, .bool (decide (fndI (List.take m.length (List.drop 0 m)) k ≥ 0))]), (6, .arr 27 Kd.pr (List.take m.length (List.drop 0 m)) y), (5, .cells 27 []), (4, .cells 35 [.int .i64 d, .int .i64 k, .lit .i64 0, .bool (decide (fndI (List.take m.length (List.drop 0 m)) k ≥ 0))]), (0, .ro Kd.pr m)] 10) (Out.fin (.tup [.agg [.lit .i64 0, .lit .i64 0, .lit .i64 0, .ff], .sl false 6 0 2 (List.take m.length (List.drop 0 m)).length ((List.take m.length (List.drop 0 m)).length + y)]) [(7, .cells 35 [.int .i64 d, .int .i64 k, .lit .i64 0, .bool (decide (fndI (List.take m.length (List.drop 0 m)) k ≥ 0))]), (6, .arr 27 Kd.pr (List.take m.length (List.drop 0 m)) y), (5, .cells 27 []), (4, .cells 35 [.lit .i64 0, .lit .i64 0, .lit .i64 0, .ff]), (0, .ro Kd.pr m)] 10))) (Out.fin (.tup [.agg [.lit .i64 0, .lit .i64 0, .lit .i64 0, .ff], .sl false 6 0 2 (List.take m.length (List.drop 0 m)).length ((List.take m.length (List.drop 0 m)).length + y)]) [(7, .cells 35 [.int .i64 d, .int .i64 k, .lit .i64 0, .bool (decide (fndI (List.take m.length (List.drop 0 m)) k ≥ 0))]), (6, .arr 27 Kd.pr (List.take m.length (List.drop 0 m)) y), (5, .cells 27 []), (4, .cells 35 [.lit .i64 0, .lit .i64 0, .lit .i64 0, .ff]), (0, .ro Kd.pr m)] 10))))))))) := by kernel_rfl

end Sx
end Go.Proofs.Ythabfkcmhffjoaa

/-
  The sorted row of the document: what its functions do.
-/
namespace Go.Proofs.Ythabfkcmhffjoaa
namespace Sx
open Go
set_option linter.unusedSimpArgs false
set_option linter.unusedVariables false

theorem cfgS0_ok : cfgS0.ok := ⟨tab_met, kinds_met, mixed_met, fun g fn h => (by cases h), fun g H h => (by cases h)⟩
theorem cfgS1_ok : cfgS1.ok := ⟨tab_met, kinds_met, mixed_met, fun g fn h => (by cases h), fun g H h => (by cases h)⟩

theorem fnd_at {l : List Pr} {k : Int} {i : Nat} (hi : i < l.length) (hp : i ≤ fnd l k) (h : (l.getD i pr0).k = k) : fnd l k = i := by
  have e : l.getD i pr0 = l[i] := by rw [List.getD_eq_getElem?_getD, List.getElem?_eq_getElem hi]; rfl
  rw [e] at h
  unfold fnd at hp ⊢
  rcases Nat.lt_or_ge i (l.findIdx (isK k)) with h2 | h2
  · have := List.not_of_lt_findIdx h2
    simp [isK, h] at this
  · omega
theorem fnd_next {l : List Pr} {k : Int} {i : Nat} (hi : i < l.length) (hp : i ≤ fnd l k) (h : ¬ (l.getD i pr0).k = k) : i + 1 ≤ fnd l k := by
  have e : l.getD i pr0 = l[i] := by rw [List.getD_eq_getElem?_getD, List.getElem?_eq_getElem hi]; rfl
  rw [e] at h
  rcases Nat.lt_or_ge i (fnd l k) with h2 | h2
  · exact h2
  · have h3 : fnd l k = i := by omega
    have h4 : l.findIdx (isK k) < l.length := by unfold fnd at h3; omega
    have := List.findIdx_getElem (w := h4)
    have e2 : l[l.findIdx (isK k)] = l[i] := by congr 1
    rw [e2] at this
    exact absurd (of_decide_eq_true this) h
theorem qbody3 (p : QPR) (i : Nat) (hi : i ≤ p.l.length) (Q : EX → St V → Prop) (F : AV → Heap V → Nat → Prop)
    (hrt : ∀ ST : St V, i < p.l.length → (p.l.getD i pr0).k = p.k → Wk 2 [] ST (QR3 p i) → Q .rt ST)
    (hnx : ∀ ST : St V, i < p.l.length → ¬ (p.l.getD i pr0).k = p.k → Wk 2 [] ST (QI3 p (i + 1)) → Q .nx ST)
    (hex : ∀ ST : St V, i = p.l.length → Wk 2 [] ST (QI3 p i) → Q (.ex 0) ST) :
    (runCode cfgS0 60 30 (loopOf Try.f30 0) (QI3 p i) (stopT (trimSt [0, 1, 4, 5] [0]))).holds ⟨Q, F⟩ := by
  rw [qb3]
  have hb := p.hb
  have hw : i < p.l.length → IntKind.wrap .i64 ((i : Int) + 1) = ((i + 1 : Nat) : Int) := fun h => wrap_nat (by omega)
  rw [show (0 + i) = i from Nat.zero_add _, show p.l.getD i (V.enc Kd.pr).dflt = p.l.getD i pr0 from rfl]
  simp only [Out.holds, decide_eq_true_eq, decide_eq_false_iff_not, beq_iff_eq, beq_eq_false_iff_ne]
  by_cases hlt : i < p.l.length
  · refine ⟨fun _ => ⟨by omega, hlt, fun h2 => hrt _ hlt h2 ?_, fun h2 => hnx _ hlt h2 ?_⟩, fun h => absurd hlt (by omega)⟩
    · exact ⟨⟨AV.sub_same _, trivial⟩, ⟨.same _, trivial⟩, rfl, tl_ok rfl, ⟨.inr rfl, trivial⟩, ⟨Nat.le_of_ble_eq_true rfl, rfl⟩⟩
    · exact ⟨⟨AV.sub_same _, AV.sub_same _, AV.sub_int (hw hlt), trivial⟩, ⟨.same _, trivial⟩, rfl, tl_ok rfl, ⟨.inr rfl, trivial⟩, ⟨Nat.le_of_ble_eq_true rfl, rfl⟩⟩
  · exact ⟨fun h => absurd h (by omega), fun h => hex _ (by omega) ⟨⟨AV.sub_same _, AV.sub_same _, AV.sub_same _, trivial⟩, ⟨.same _, trivial⟩, rfl, tl_ok rfl, ⟨.inr rfl, trivial⟩, ⟨Nat.le_of_ble_eq_true rfl, rfl⟩⟩⟩
theorem ql3_ok : LoopOk Try.prog 0 (loopOf Try.f30 0) QL3 := by
  refine trimLoop_ok (trim_ok _ _) (loopT_ok (C := cfgS0) cfgS0_ok (f := 30) (n := 60) (trim_ok [0, 1, 4, 5] [0]) 2 QI3 (fun p i => i ≤ p.l.length ∧ i ≤ fnd p.l p.k) (fun _ => 0) (fun p i => p.l.length - i)
    (fun p (_ : Unit) => fnd p.l p.k = p.l.length) (fun p _ => QI3 p p.l.length) (fun p (_ : Unit) => fnd p.l p.k < p.l.length) (fun p _ => QR3 p (fnd p.l p.k)) (fun p => ⟨Nat.zero_le _, Nat.zero_le _⟩) ?_)
  intro p i ⟨hi, hp⟩
  have hle := fnd_le p.l p.k
  refine qbody3 p i hi _ _ (fun ST hlt h hw => SImp.of_wk (ren := []) () (by rw [fnd_at hlt hp h]; exact hw) (by rw [fnd_at hlt hp h]; exact hlt)) (fun ST hlt h hw => SImp.of_wk (i + 1) hw ⟨⟨hlt, fnd_next hlt hp h⟩, by omega⟩) (fun ST he hw => ⟨rfl, SImp.of_wk (ren := []) () (by subst he; exact hw) (by omega)⟩)
theorem hFind : HookOk Try.prog 30 (hookFree [.rows Kd.pr, .int .i64] runFind) := by
  refine free_hook (C := cfgS1) cfgS1_ok (n := 60) (fn := Try.f30) ⟨by kernel_rfl, by kernel_rfl⟩ (by kernel_rfl) ?_
  intro M ar K0 H
  unfold runFind at H
  split at H
  · rename_i l c k
    obtain ⟨hb, H⟩ := H
    refine ⟨show 2 ≤ _ by decide +kernel, ?_⟩
    show (runF cfgS1 60 30 Try.f30 [.sl false 0 0 2 l.length c, .int .i64 k] [(0, .ro Kd.pr l)] 2).holds _
    rw [qt3]
    refine ⟨ql3_ok, fun p => p = ⟨l, c, k, hb⟩, ⟨Nat.le_refl _, SImp.of_wk (ren := []) ⟨l, c, k, hb⟩ ?_ rfl⟩, ?_⟩
    · exact ⟨⟨AV.sub_same _, AV.sub_same _, AV.sub_lit', trivial⟩, ⟨.same _, trivial⟩, rfl, tl_ok rfl, ⟨.inr rfl, trivial⟩, ⟨Nat.le_of_ble_eq_true rfl, rfl⟩⟩
    · rintro _ rfl
      unfold fndI at H
      refine ⟨fun _ h => ?_, fun _ h => ?_⟩
      · dsimp only at h
        rw [if_neg (by omega)] at H
        exact ⟨_, _, H, endPlain AV.sub_lit' rfl⟩
      · dsimp only at h
        rw [if_pos h] at H
        exact ⟨_, _, H, endPlain (AV.sub_same _) rfl⟩
  · exact H.elim
theorem hWithout : HookOk Try.prog 31 (hookFree [.rows Kd.pr, .int .i64] runWithout) := by
  refine free_hook (C := cfgS1) cfgS1_ok (n := 60) (fn := Try.f31) ⟨by kernel_rfl, by kernel_rfl⟩ (by kernel_rfl) ?_
  intro M ar K0 H
  unfold runWithout at H
  split at H
  · rename_i l c k
    obtain ⟨⟨hb, h0, h1, h2⟩, H⟩ := H
    refine ⟨show 2 ≤ _ by decide +kernel, ?_⟩
    show (runF cfgS1 60 31 Try.f31 [.sl false 0 0 2 l.length c, .int .i64 k] [(0, .ro Kd.pr l)] 2).holds _
    rw [qt5]
    have hk : IntKind.wrap .i64 (k + 1) = ((k.toNat + 1 : Nat) : Int) := by
      rw [show k = ((k.toNat : Nat) : Int) from (Int.toNat_of_nonneg h0).symm, Int.toNat_natCast]
      exact wrap_nat (by omega)
    rw [hk]
    rw [Int.toNat_natCast]
    have e1 : List.take (l.length - (k.toNat + 1)) (List.drop (0 + (k.toNat + 1)) l) = l.drop (k.toNat + 1) := by
      rw [Nat.zero_add, List.take_of_length_le (by rw [List.length_drop]; omega)]
    have e2 : List.take k.toNat (List.drop 0 l) = l.take k.toNat := rfl
    rw [e1, e2]
    have ew : l.take k.toNat ++ l.drop (k.toNat + 1) = without l k.toNat := rfl
    have l1 : (l.take k.toNat).length = k.toNat := by rw [List.length_take]; omega
    have l2 : (l.drop (k.toNat + 1)).length = l.length - (k.toNat + 1) := List.length_drop
    have lw : (l.take k.toNat).length + (l.drop (k.toNat + 1)).length = (without l k.toNat).length := by unfold without; rw [List.length_append]
    refine ⟨⟨h0, h2⟩, ⟨by omega, by omega⟩, by omega, by omega, fun y => ⟨by omega, ⟨rfl, rfl, rfl, by omega⟩, fun z => ?_⟩⟩
    rw [lw, ew]
    exact ⟨_, _, H z, _, HImp.refl _ _, ⟨⟨fun _ => 4, ⟨.same _, trivial⟩, AV.sub_same _⟩, rfl, rfl⟩⟩
  · exact H.elim
theorem hooksS2_ok : ∀ g H, hooksS2 g = some H → HookOk Try.prog g H := by
  intro g H h
  unfold hooksS2 at h
  split at h
  · cases h; exact hFind
  · cases h; exact hWithout
  · cases h
theorem cfgS2_ok : cfgS2.ok := ⟨tab_met, kinds_met, mixed_met, fun g fn h => (by cases h), hooksS2_ok⟩
theorem cfgS3_ok : cfgS3.ok := ⟨tab_met, kinds_met, mixed_met, fun g fn h => (by cases h), hooksS2_ok⟩

/-! ## Answer -/
theorem below_le (l : List Pr) (k : Int) : below l k ≤ l.length := by
  unfold below; exact (List.takeWhile_sublist _).length_le
theorem below_cons (p : Pr) (l : List Pr) (k : Int) : below (p :: l) k = if p.k < k then below l k + 1 else 0 := by
  unfold below
  rw [List.takeWhile_cons]
  by_cases h : p.k < k
  · rw [if_pos (show lowK k p = true from decide_eq_true h), if_pos h]; rfl
  · rw [if_neg (by unfold lowK; simpa using h), if_neg h]; rfl
theorem below_at : ∀ {l : List Pr} {k : Int} {i : Nat}, i < l.length → i ≤ below l k → ((l.getD i pr0).k < k → i + 1 ≤ below l k) ∧ (¬ (l.getD i pr0).k < k → below l k = i)
  | [], k, i, h, _ => absurd h (Nat.not_lt_zero _)
  | p :: l, k, 0, h, hb => by
    rw [below_cons]
    show (p.k < k → _) ∧ (¬ p.k < k → _)
    refine ⟨fun h2 => by rw [if_pos h2]; omega, fun h2 => if_neg h2⟩
  | p :: l, k, i + 1, h, hb => by
    rw [below_cons] at hb ⊢
    have hp : p.k < k := Classical.byContradiction fun h2 => by rw [if_neg h2] at hb; omega
    rw [if_pos hp] at hb ⊢
    have ih := below_at (l := l) (k := k) (i := i) (by simpa using h) (by omega)
    show ((l.getD i pr0).k < k → _) ∧ (¬ (l.getD i pr0).k < k → _)
    exact ⟨fun h2 => by have := ih.1 h2; omega, fun h2 => by have := ih.2 h2; omega⟩
theorem qbody4 (p : QPS) (i : Nat) (hi : i ≤ p.own.length) (Q : EX → St V → Prop) (F : AV → Heap V → Nat → Prop)
    (hnx : ∀ ST : St V, i < p.own.length → (p.own.getD i pr0).k < p.k → Wk 30 [(30, 30)] ST (QI4 p (i + 1)) → Q .nx ST)
    (hex : ∀ ST : St V, (i < p.own.length → ¬ (p.own.getD i pr0).k < p.k) → Wk 30 [(30, 30)] ST (QI4 p i) → Q (.ex 1) ST) :
    (runCode cfgS2 60 22 (loopOf Try.f22 1) (QI4 p i) (stopT (trimSt [2, 3, 8, 11, 13] [4, 30]))).holds ⟨Q, F⟩ := by
  rw [qb4]
  have hb := p.hb
  have hw : i < p.own.length → IntKind.wrap .i64 ((i : Int) + 1) = ((i + 1 : Nat) : Int) := fun h => wrap_nat (by omega)
  rw [show (0 + i) = i from Nat.zero_add _, show p.own.getD i (V.enc Kd.pr).dflt = p.own.getD i pr0 from rfl]
  simp only [Out.holds, decide_eq_true_eq, decide_eq_false_iff_not]
  by_cases hlt : i < p.own.length
  · refine ⟨fun _ => ⟨by omega, hlt, fun h2 => hnx _ hlt h2 ?_, fun h2 => hex _ (fun _ => h2) ?_⟩, fun h => absurd hlt (by omega)⟩
    · exact ⟨⟨AV.sub_same _, AV.sub_same _, AV.sub_same _, AV.sub_same _, AV.sub_int (hw hlt), trivial⟩, ⟨.same _, .same _, trivial⟩, rfl, tl_ok rfl, ⟨.inr rfl, .inr rfl, trivial⟩, ⟨Nat.le_of_ble_eq_true rfl, rfl⟩⟩
    · exact ⟨⟨AV.sub_same _, AV.sub_same _, AV.sub_same _, AV.sub_same _, AV.sub_same _, trivial⟩, ⟨.same _, .same _, trivial⟩, rfl, tl_ok rfl, ⟨.inr rfl, .inr rfl, trivial⟩, ⟨Nat.le_of_ble_eq_true rfl, rfl⟩⟩
  · exact ⟨fun h => absurd h (by omega), fun h => hex _ (fun h2 => absurd h2 hlt) ⟨⟨AV.sub_same _, AV.sub_same _, AV.sub_same _, AV.sub_same _, AV.sub_same _, trivial⟩, ⟨.same _, .same _, trivial⟩, rfl, tl_ok rfl, ⟨.inr rfl, .inr rfl, trivial⟩, ⟨Nat.le_of_ble_eq_true rfl, rfl⟩⟩⟩
theorem ql4_ok : LoopOk Try.prog 1 (loopOf Try.f22 1) QL4 := by
  refine trimLoop_ok (trim_ok _ _) (loopTH_ok (C := cfgS2) cfgS2_ok (f := 22) (n := 60) (trim_ok [2, 3, 8, 11, 13] [4, 30]) 30 QI4 (fun p i => i ≤ p.own.length ∧ i ≤ below p.own p.k) (fun _ => 0) (fun p i => p.own.length - i) (fun _ (_ : Unit) => True) (fun p _ => QI4 p (below p.own p.k)) (fun p => ⟨Nat.zero_le _, Nat.zero_le _⟩) ?_)
  intro p i ⟨hi, hp⟩
  have hle := below_le p.own p.k
  refine qbody4 p i hi _ _ (fun ST hlt h hw => SImp.of_wk (i + 1) hw ⟨⟨hlt, (below_at hlt hp).1 h⟩, by omega⟩) (fun ST he hw => ⟨rfl, SImp.of_wk (ren := [(30, 30)]) () ?_ trivial⟩)
  have : below p.own p.k = i := by
    rcases Nat.lt_or_ge i p.own.length with h | h
    · exact (below_at h hp).2 (he h)
    · omega
  rw [this]; exact hw

end Sx
end Go.Proofs.Ythabfkcmhffjoaa

/-
  The document's answer of what is legal, over a sorted row.
-/
namespace Go.Proofs.Ythabfkcmhffjoaa
namespace Sx
open Go
set_option linter.unusedSimpArgs false
set_option linter.unusedVariables false
set_option maxRecDepth 100000

def comAV (c : Com) : AV := .agg [.int .i64 c.act, .int .i64 c.key, .int .i64 c.value, .bool c.hit]
def runAnswer : RunFree V := fun ar K => match ar with
  | [.rows .pr l c, .int .i64 d, .int .i64 k, .int .i64 v] => .need (l.length ≤ 1073741824 ∧ l.length ≤ c) (.all Nat fun sp => K (.tup [comAV (ansC (rget l k) d k v), .sl false 0 0 2 (nextR l d k v).length ((nextR l d k v).length + sp)]) [.arr 27 Kd.pr (nextR l d k v) sp])
  | _ => .bad 500
theorem AV.sub_agg {xs bs : List AV} (h : ∀ r vs, relL r xs vs → relL r bs vs) : (AV.agg xs).sub (.agg bs) := fun r v ⟨vs, e, k⟩ => ⟨vs, h r vs e, k⟩

theorem without_len {l : List Pr} {i : Nat} (h : i < l.length) : (without l i).length + 1 = l.length := by
  unfold without; rw [List.length_append, List.length_take, List.length_drop]; omega
set_option maxHeartbeats 4000000 in
theorem hAnswer : HookOk Try.prog 22 (hookFree [.rows Kd.pr, .int .i64, .int .i64, .int .i64] runAnswer) := by
  refine free_hook (C := cfgS3) cfgS3_ok (n := 60) (fn := Try.f22) ⟨by kernel_rfl, by kernel_rfl⟩ (by kernel_rfl) ?_
  intro M ar K0 H
  unfold runAnswer at H
  split at H
  · rename_i m c d k v
    obtain ⟨⟨hb, hc⟩, H⟩ := H
    refine ⟨show 4 ≤ _ by decide +kernel, ?_⟩
    show (runF cfgS3 60 22 Try.f22 [.sl false 0 0 2 m.length c, .int .i64 d, .int .i64 k, .int .i64 v] [(0, .ro Kd.pr m)] 4).holds _
    rw [qt4]
    simp only [show List.take m.length (List.drop 0 m) = m from List.take_length ..]
    refine ⟨by omega, by omega, by omega, by omega, fun y => ?_⟩
    by_cases hf : fnd m k < m.length
    · have e : fndI m k = (fnd m k : Int) := if_pos hf
      have e2 : decide (fndI m k ≥ 0) = true := by rw [e]; exact decide_eq_true (by omega)
      have e3 : decide ((fnd m k : Int) ≥ 0) = true := decide_eq_true (by omega)
      have eg : rget m k = some (m.getD (fnd m k) pr0).v := if_pos hf
      have ea : without m (fnd m k) = away m k := (if_pos hf).symm
      have wl := without_len hf
      simp only [e2, e, e3, Int.toNat_natCast, Nat.zero_add]
      refine ⟨fun _ => ⟨by omega, hf, ?_⟩, fun h => by cases h⟩
      rw [show m.getD (fnd m k) (V.enc Kd.pr).dflt = m.getD (fnd m k) pr0 from rfl]
      rw [ea] at wl
      by_cases d1 : d = 1
      · subst d1
        simp only [Out.holds, beq_self_eq_true, Int.reduceBEq, true_implies, false_implies, Bool.true_eq_false, Bool.false_eq_true, and_true, true_and]
        rw [show ansC (rget m k) 1 k v = ⟨1, k, (rget m k).getD 0, (rget m k).isSome⟩ from rfl, eg, show nextR m 1 k v = m from rfl] at H
        exact ⟨_, _, H _, _, HImp.refl _ _, ⟨⟨fun _ => 6, ⟨.same _, trivial⟩, AV.sub_two (AV.sub_agg (AV.subL_cons (AV.sub_same _) (AV.subL_cons (AV.sub_same _) (AV.subL_cons (AV.sub_same _) (AV.subL_cons (AV.sub_tt rfl) AV.subL_nil))))) (AV.sub_same _)⟩, rfl, rfl⟩⟩
      by_cases d2 : d = 2
      · subst d2
        simp only [Out.holds, beq_self_eq_true, Int.reduceBEq, true_implies, false_implies, Bool.true_eq_false, Bool.false_eq_true, and_true, true_and]
        rw [ea]
        rw [show ansC (rget m k) 2 k v = ⟨2, k, v, false⟩ from if_pos rfl, show nextR m 2 k v = putS (away m k) k v from if_pos rfl] at H
        have hbl := below_le (away m k) k
        have hal := away_len m k
        have a1 : ((away m k).take (below (away m k) k)).length = below (away m k) k := by rw [List.length_take]; omega
        have a2 : ((away m k).drop (below (away m k) k)).length = (away m k).length - below (away m k) k := List.length_drop
        have a3 : ((away m k).take (below (away m k) k) ++ [(⟨k, v⟩ : Pr)]).length = below (away m k) k + 1 := by rw [List.length_append, a1]; rfl
        have lw : ((away m k).take (below (away m k) k) ++ [(⟨k, v⟩ : Pr)]).length + ((away m k).drop (below (away m k) k)).length = (putS (away m k) k v).length := List.length_append.symm
        refine ⟨by omega, ⟨by omega, by omega, by omega, by omega⟩, fun sp => ⟨ql4_ok, fun p => p = ⟨k, v, away m k, sp, by omega⟩, ⟨by omega, SImp.of_wk (ren := [(30, 10)]) ⟨k, v, away m k, sp, by omega⟩ ?_ rfl⟩, ?_⟩⟩
        · exact ⟨⟨AV.sub_same _, AV.sub_same _, AV.sub_same _, AV.sub_same _, AV.sub_lit', trivial⟩, ⟨.same _, .same _, trivial⟩, rfl, tl_ok rfl, ⟨.inl (in_ok rfl), .inl (in_ok rfl), .inr rfl, trivial⟩, ⟨Nat.le_of_ble_eq_true rfl, rfl⟩⟩
        · rintro _ rfl _
          dsimp only
          rw [show List.take (below (away m k) k) (List.drop 0 (away m k)) = (away m k).take (below (away m k) k) from rfl]
          rw [show List.take ((away m k).length - below (away m k) k) (List.drop (below (away m k) k) (away m k)) = (away m k).drop (below (away m k) k) from List.take_of_length_le (by rw [List.length_drop]; omega)]
          repeat' first | apply And.intro | intro _
          all_goals first
            | omega
            | exact ⟨_, _, H _, _, HImp.refl _ _, ⟨⟨fun _ => 35, ⟨.same _, trivial⟩, AV.sub_two (AV.sub_agg (AV.subL_cons AV.sub_lit' (AV.subL_cons (AV.sub_same _) (AV.subL_cons (AV.sub_same _) (AV.subL_cons (AV.sub_ff rfl) AV.subL_nil))))) (AV.sub_sl lw (by rw [lw]))⟩, rfl, rfl⟩⟩
      by_cases d3 : d = 3
      · subst d3
        simp only [Out.holds, beq_self_eq_true, Int.reduceBEq, true_implies, false_implies, Bool.true_eq_false, Bool.false_eq_true, and_true, true_and]
        rw [show ansC (rget m k) 3 k v = ⟨3, k, (rget m k).getD 0, (rget m k).isSome⟩ from rfl, eg, show nextR m 3 k v = away m k from rfl, ← ea] at H
        refine ⟨by omega, ⟨by omega, by omega, by omega, by omega⟩, fun sp => ?_⟩
        exact ⟨_, _, H _, _, HImp.refl _ _, ⟨⟨fun _ => 10, ⟨.same _, trivial⟩, AV.sub_two (AV.sub_agg (AV.subL_cons (AV.sub_same _) (AV.subL_cons (AV.sub_same _) (AV.subL_cons (AV.sub_same _) (AV.subL_cons (AV.sub_tt rfl) AV.subL_nil))))) (AV.sub_same _)⟩, rfl, rfl⟩⟩
      by_cases d4 : d = 4
      · subst d4
        simp only [Out.holds, beq_self_eq_true, Int.reduceBEq, true_implies, false_implies, Bool.true_eq_false, Bool.false_eq_true, and_true, true_and]
        rw [eg, show ansC (some (m.getD (fnd m k) pr0).v) 4 k v = ⟨4, k, (m.getD (fnd m k) pr0).v, true⟩ from rfl, show nextR m 4 k v = away m k from rfl, ← ea] at H
        refine ⟨by omega, ⟨by omega, by omega, by omega, by omega⟩, fun sp => ?_⟩
        exact ⟨_, _, H _, _, HImp.refl _ _, ⟨⟨fun _ => 10, ⟨.same _, trivial⟩, AV.sub_two (AV.sub_agg (AV.subL_cons (AV.sub_same _) (AV.subL_cons (AV.sub_same _) (AV.subL_cons (AV.sub_same _) (AV.subL_cons (AV.sub_tt rfl) AV.subL_nil))))) (AV.sub_same _)⟩, rfl, rfl⟩⟩
      · have b1 : (d == 1) = false := beq_false_of_ne d1
        have b2 : (d == 2) = false := beq_false_of_ne d2
        have b3 : (d == 3) = false := beq_false_of_ne d3
        have b4 : (d == 4) = false := beq_false_of_ne d4
        simp only [Out.holds, b1, b2, b3, b4, true_implies, false_implies, Bool.true_eq_false, Bool.false_eq_true, and_true, true_and]
        rw [show ansC (rget m k) d k v = cc0 by unfold ansC; rw [if_neg d2, if_neg (by omega), if_neg (fun h => d4 h.1)], show nextR m d k v = m by unfold nextR; rw [if_neg d2, if_neg (by omega)]] at H
        exact ⟨_, _, H _, _, HImp.refl _ _, ⟨⟨fun _ => 6, ⟨.same _, trivial⟩, AV.sub_two (AV.sub_agg (AV.subL_cons AV.sub_lit' (AV.subL_cons AV.sub_lit' (AV.subL_cons AV.sub_lit' (AV.subL_cons (AV.sub_ff rfl) AV.subL_nil))))) (AV.sub_same _)⟩, rfl, rfl⟩⟩
    · have e : fndI m k = -1 := if_neg hf
      have e2 : decide (fndI m k ≥ 0) = false := by rw [e]; exact decide_eq_false (by omega)
      have e3 : decide ((-1 : Int) ≥ 0) = false := decide_eq_false (by omega)
      have eg : rget m k = none := if_neg hf
      have ea : away m k = m := if_neg hf
      simp only [e2, e, e3, Int.toNat_natCast, Nat.zero_add]
      refine ⟨(fun h => by cases h), fun _ => ?_⟩
      by_cases d1 : d = 1
      · subst d1
        simp only [Out.holds, beq_self_eq_true, Int.reduceBEq, true_implies, false_implies, Bool.true_eq_false, Bool.false_eq_true, and_true, true_and]
        rw [show ansC (rget m k) 1 k v = ⟨1, k, (rget m k).getD 0, (rget m k).isSome⟩ from rfl, eg, show nextR m 1 k v = m from rfl] at H
        exact ⟨_, _, H _, _, HImp.refl _ _, ⟨⟨fun _ => 6, ⟨.same _, trivial⟩, AV.sub_two (AV.sub_agg (AV.subL_cons (AV.sub_same _) (AV.subL_cons (AV.sub_same _) (AV.subL_cons AV.sub_lit' (AV.subL_cons (AV.sub_ff rfl) AV.subL_nil))))) (AV.sub_same _)⟩, rfl, rfl⟩⟩
      by_cases d2 : d = 2
      · subst d2
        simp only [Out.holds, beq_self_eq_true, Int.reduceBEq, true_implies, false_implies, Bool.true_eq_false, Bool.false_eq_true, and_true, true_and]
        rw [show ansC (rget m k) 2 k v = ⟨2, k, v, false⟩ from if_pos rfl, show nextR m 2 k v = putS (away m k) k v from if_pos rfl] at H
        have hbl := below_le (away m k) k
        have hal := away_len m k
        have a1 : ((away m k).take (below (away m k) k)).length = below (away m k) k := by rw [List.length_take]; omega
        have a2 : ((away m k).drop (below (away m k) k)).length = (away m k).length - below (away m k) k := List.length_drop
        have a3 : ((away m k).take (below (away m k) k) ++ [(⟨k, v⟩ : Pr)]).length = below (away m k) k + 1 := by rw [List.length_append, a1]; rfl
        have lw : ((away m k).take (below (away m k) k) ++ [(⟨k, v⟩ : Pr)]).length + ((away m k).drop (below (away m k) k)).length = (putS (away m k) k v).length := List.length_append.symm
        rw [ea] at *
        refine ⟨ql4_ok, fun p => p = ⟨k, v, m, y, by omega⟩, ⟨by omega, SImp.of_wk (ren := [(30, 6)]) ⟨k, v, m, y, by omega⟩ ?_ rfl⟩, ?_⟩
        · exact ⟨⟨AV.sub_same _, AV.sub_same _, AV.sub_same _, AV.sub_same _, AV.sub_lit', trivial⟩, ⟨.same _, .same _, trivial⟩, rfl, tl_ok rfl, ⟨.inl (in_ok rfl), .inr rfl, trivial⟩, ⟨Nat.le_of_ble_eq_true rfl, rfl⟩⟩
        · rintro _ rfl _
          dsimp only
          rw [show List.take (below m k) (List.drop 0 m) = m.take (below m k) from rfl]
          rw [show List.take (m.length - below m k) (List.drop (below m k) m) = m.drop (below m k) from List.take_of_length_le (by rw [List.length_drop]; omega)]
          repeat' first | apply And.intro | intro _
          all_goals first
            | omega
            | exact ⟨_, _, H _, _, HImp.refl _ _, ⟨⟨fun _ => 35, ⟨.same _, trivial⟩, AV.sub_two (AV.sub_agg (AV.subL_cons AV.sub_lit' (AV.subL_cons (AV.sub_same _) (AV.subL_cons (AV.sub_same _) (AV.subL_cons (AV.sub_ff rfl) AV.subL_nil))))) (AV.sub_sl lw (by rw [lw]))⟩, rfl, rfl⟩⟩
      by_cases d3 : d = 3
      · subst d3
        simp only [Out.holds, beq_self_eq_true, Int.reduceBEq, true_implies, false_implies, Bool.true_eq_false, Bool.false_eq_true, and_true, true_and]
        rw [show ansC (rget m k) 3 k v = ⟨3, k, (rget m k).getD 0, (rget m k).isSome⟩ from rfl, eg, show nextR m 3 k v = away m k from rfl, ea] at H
        exact ⟨_, _, H _, _, HImp.refl _ _, ⟨⟨fun _ => 6, ⟨.same _, trivial⟩, AV.sub_two (AV.sub_agg (AV.subL_cons (AV.sub_same _) (AV.subL_cons (AV.sub_same _) (AV.subL_cons AV.sub_lit' (AV.subL_cons (AV.sub_ff rfl) AV.subL_nil))))) (AV.sub_same _)⟩, rfl, rfl⟩⟩
      by_cases d4 : d = 4
      · subst d4
        simp only [Out.holds, beq_self_eq_true, Int.reduceBEq, true_implies, false_implies, Bool.true_eq_false, Bool.false_eq_true, and_true, true_and]
        rw [eg, show ansC none 4 k v = cc0 from rfl, show nextR m 4 k v = away m k from rfl, ea] at H
        exact ⟨_, _, H _, _, HImp.refl _ _, ⟨⟨fun _ => 6, ⟨.same _, trivial⟩, AV.sub_two (AV.sub_agg (AV.subL_cons AV.sub_lit' (AV.subL_cons AV.sub_lit' (AV.subL_cons AV.sub_lit' (AV.subL_cons (AV.sub_ff rfl) AV.subL_nil))))) (AV.sub_same _)⟩, rfl, rfl⟩⟩
      · have b1 : (d == 1) = false := beq_false_of_ne d1
        have b2 : (d == 2) = false := beq_false_of_ne d2
        have b3 : (d == 3) = false := beq_false_of_ne d3
        have b4 : (d == 4) = false := beq_false_of_ne d4
        simp only [Out.holds, b1, b2, b3, b4, true_implies, false_implies, Bool.true_eq_false, Bool.false_eq_true, and_true, true_and]
        rw [show ansC (rget m k) d k v = cc0 by unfold ansC; rw [if_neg d2, if_neg (by omega), if_neg (fun h => d4 h.1)], show nextR m d k v = m by unfold nextR; rw [if_neg d2, if_neg (by omega)]] at H
        exact ⟨_, _, H _, _, HImp.refl _ _, ⟨⟨fun _ => 6, ⟨.same _, trivial⟩, AV.sub_two (AV.sub_agg (AV.subL_cons AV.sub_lit' (AV.subL_cons AV.sub_lit' (AV.subL_cons AV.sub_lit' (AV.subL_cons (AV.sub_ff rfl) AV.subL_nil))))) (AV.sub_same _)⟩, rfl, rfl⟩⟩
  · exact H.elim
end Sx
end Go.Proofs.Ythabfkcmhffjoaa

/-
  The document: which commits are legal: the runs of the machine.
-/
namespace Go.Proofs.Ythabfkcmhffjoaa
namespace Sx
open Go
set_option maxRecDepth 100000
set_option linter.unusedVariables false

def hooksS4 : Nat → Option (HookS V) := fun g => match g with
  | 22 => some (hookFree [.rows Kd.pr, .int .i64, .int .i64, .int .i64] runAnswer)
  | _ => none
noncomputable def cfgS4 : Cfg Try.prog V := ⟨tab, kinds, fun _ => none, hooksS4, fun _ _ => none⟩
structure QPT where
  l : List Com
  c : Nat
  hb : l.length ≤ 1073741824
def QI5 (p : QPT) (x : Nat × List Pr × Nat) : St V := ⟨[(0, .sl false 0 0 4 p.l.length p.c), (4, .sl false 1 0 2 x.2.1.length (x.2.1.length + x.2.2)), (5, .int .i64 (x.1 : Int))], [(1, .arr 27 Kd.pr x.2.1 x.2.2), (0, .ro Kd.com p.l)], 2, 51, TQ⟩
def QR5 (p : QPT) (x : Nat × List Pr × Nat) : St V := ⟨[(2, .int .i64 (x.1 : Int)), (3, .sl false 1 0 2 x.2.1.length (x.2.1.length + x.2.2))], [(1, .arr 27 Kd.pr x.2.1 x.2.2), (0, .ro Kd.com p.l)], 2, 51, TQ⟩
def QL5 : LoopS V := trimLoop (trimSt [0, 4, 5] [0]) (loopG 1 (fun p : QPT => QI5 p (0, [], 0)) (fun p (y : List Pr × Nat) => runR p.l [] = (p.l.length, y.1)) (fun p y => QI5 p (p.l.length, y)) (fun p (y : Nat × List Pr × Nat) => runR p.l [] = (y.1, y.2.1)) (fun p y => QR5 p y))
def QI6 (p : QPQ) (x : Nat × Nat) : St V := ⟨[(0, .sl false 0 0 4 p.l.length p.c), (3, .sl false 1 0 1 (evsOf (p.l.take x.1)).length ((evsOf (p.l.take x.1)).length + x.2)), (4, .int .i64 (x.1 : Int))], [(1, .arr 3 Kd.int (evsOf (p.l.take x.1)) x.2), (0, .ro Kd.com p.l)], 2, 26, TQ⟩
def QL6 : LoopS V := trimLoop (trimSt [0, 3, 4] [0]) (loopH 1 (fun p : QPQ => QI6 p (0, 0)) (fun _ (_ : Nat) => True) (fun p s => QI6 p (p.l.length, s)))
noncomputable def cfgS5 : Cfg Try.prog V := ⟨tab, kinds, fun _ => none, hooksS4, fun f id => match f, id with | 26, 0 => some QL5 | 19, 0 => some QL6 | _, _ => none⟩
def runRefRun : RunFree V := fun ar K => match ar with
  | [.rows .com l c] => .need (l.length ≤ 1073741824) (.all Nat fun sp => K (.tup [.int .i64 ((runR l []).1 : Int), .sl false 0 0 2 (runR l []).2.length ((runR l []).2.length + sp)]) [.arr 27 Kd.pr (runR l []).2 sp])
  | _ => .bad 500
def hooksS6 : Nat → Option (HookS V) := fun g => match g with
  | 26 => some (hookFree [.rows Kd.com] runRefRun)
  | 19 => some (hookFree [.rows Kd.com] runEvicted)
  | 24 => some (hookFree [.rows Kd.com] runSpecRun)
  | 18 => some (hookFree [.rows Kd.com] runEvicted)
  | g => hooksS4 g
noncomputable def fnsS6 : Nat → Option Func := fun g => match g with | 13 => some Try.f13 | _ => none
noncomputable def cfgS6 : Cfg Try.prog V := ⟨tab, kinds, fnsS6, hooksS6, fun _ _ => none⟩
theorem qb5 (p : QPT) (x : Nat × List Pr × Nat) : runCode cfgS4 60 26 (loopOf Try.f26 0) (QI5 p x) (stopT (trimSt [0, 2, 3, 4, 5] [0, 1, 2, 3, 4, 5, 6, 7, 8])) = Out.ite (decide ((↑x.1 : Int) < (↑p.l.length : Int))) (Out.need (0 ≤ (↑x.1 : Int) ∧ (↑x.1 : Int) < (↑p.l.length : Int)) (Out.need (0 + x.1 < p.l.length) (Out.need (0 ≤ (↑x.1 : Int) ∧ (↑x.1 : Int) < (↑p.l.length : Int)) (Out.need (0 + x.1 < p.l.length) (Out.need (0 ≤ (↑x.1 : Int) ∧ (↑x.1 : Int) < (↑p.l.length : Int)) (Out.need (0 + x.1 < p.l.length) ((Out.need (0 + x.snd.fst.length ≤ x.snd.fst.length) (Out.need ((List.take x.snd.fst.length (List.drop 0 x.snd.fst)).length ≤ 1073741824 ∧ (List.take x.snd.fst.length (List.drop 0 x.snd.fst)).length ≤ x.snd.fst.length + x.snd.2) (Out.all Nat fun y => Out.need (0 ≤ (↑x.1 : Int) ∧ (↑x.1 : Int) < (↑p.l.length : Int)) (Out.need (0 + x.1 < p.l.length) (Out.ite (!((ansC (rget (List.take x.snd.fst.length (List.drop 0 x.snd.fst)) (p.l.getD (0 + x.1) (V.enc Kd.com).dflt).key) (p.l.getD (0 + x.1) (V.enc Kd.com).dflt).act (p.l.getD (0 + x.1) (V.enc Kd.com).dflt).key (p.l.getD (0 + x.1) (V.enc Kd.com).dflt).value).act == (p.l.getD (0 + x.1) (V.enc Kd.com).dflt).act && ((ansC (rget (List.take x.snd.fst.length (List.drop 0 x.snd.fst)) (p.l.getD (0 + x.1) (V.enc Kd.com).dflt).key) (p.l.getD (0 + x.1) (V.enc Kd.com).dflt).act (p.l.getD (0 + x.1) (V.enc Kd.com).dflt).key (p.l.getD (0 + x.1) (V.enc Kd.com).dflt).value).key == (p.l.getD (0 + x.1) (V.enc Kd.com).dflt).key && ((ansC (rget (List.take x.snd.fst.length (List.drop 0 x.snd.fst)) (p.l.getD (0 + x.1) (V.enc Kd.com).dflt).key) (p.l.getD (0 + x.1) (V.enc Kd.com).dflt).act (p.l.getD (0 + x.1) (V.enc Kd.com).dflt).key (p.l.getD (0 + x.1) (V.enc Kd.com).dflt).value).value == (p.l.getD (0 + x.1) (V.enc Kd.com).dflt).value && ((ansC (rget (List.take x.snd.fst.length (List.drop 0 x.snd.fst)) (p.l.getD (0 + x.1) (V.enc Kd.com).dflt).key) (p.l.getD (0 + x.1) (V.enc Kd.com).dflt).act (p.l.getD (0 + x.1) (V.enc Kd.com).dflt).key (p.l.getD (0 + x.1) (V.enc Kd.com).dflt).value).hit == (p.l.getD (0 + x.1) (V.enc Kd.com).dflt).hit && true))))) (Out.stop EX.rt {env := [(0, .sl false 0 0 4 p.l.length p.2), (2, .int .i64 (↑x.1 : Int)), (3, .sl false 1 0 2 x.snd.fst.length (x.snd.fst.length + x.snd.2)), (4, .sl false 1 0 2 x.snd.fst.length (x.snd.fst.length + x.snd.2)), (5, .int .i64 (↑x.1 : Int))], heap := [(3, .cells 35 [.int .i64 (ansC (rget (List.take x.snd.fst.length (List.drop 0 x.snd.fst)) (p.l.getD (0 + x.1) (V.enc Kd.com).dflt).key) (p.l.getD (0 + x.1) (V.enc Kd.com).dflt).act (p.l.getD (0 + x.1) (V.enc Kd.com).dflt).key (p.l.getD (0 + x.1) (V.enc Kd.com).dflt).value).act, .int .i64 (ansC (rget (List.take x.snd.fst.length (List.drop 0 x.snd.fst)) (p.l.getD (0 + x.1) (V.enc Kd.com).dflt).key) (p.l.getD (0 + x.1) (V.enc Kd.com).dflt).act (p.l.getD (0 + x.1) (V.enc Kd.com).dflt).key (p.l.getD (0 + x.1) (V.enc Kd.com).dflt).value).key, .int .i64 (ansC (rget (List.take x.snd.fst.length (List.drop 0 x.snd.fst)) (p.l.getD (0 + x.1) (V.enc Kd.com).dflt).key) (p.l.getD (0 + x.1) (V.enc Kd.com).dflt).act (p.l.getD (0 + x.1) (V.enc Kd.com).dflt).key (p.l.getD (0 + x.1) (V.enc Kd.com).dflt).value).value, .bool (ansC (rget (List.take x.snd.fst.length (List.drop 0 x.snd.fst)) (p.l.getD (0 + x.1) (V.enc Kd.com).dflt).key) (p.l.getD (0 + x.1) (V.enc Kd.com).dflt).act (p.l.getD (0 + x.1) (V.enc Kd.com).dflt).key (p.l.getD (0 + x.1) (V.enc Kd.com).dflt).value).hit]), (2, .arr 27 Kd.pr (nextR (List.take x.snd.fst.length (List.drop 0 x.snd.fst)) (p.l.getD (0 + x.1) (V.enc Kd.com).dflt).act (p.l.getD (0 + x.1) (V.enc Kd.com).dflt).key (p.l.getD (0 + x.1) (V.enc Kd.com).dflt).value) y), (1, .arr 27 Kd.pr x.snd.fst x.snd.2), (0, .ro Kd.com p.l)], nx := 5, nt := 51, tl := [3, 0, 1, 2, 3, 4, 5, 6, 7, 8, 9, 10, 11, 12, 13, 14, 15, 16] : St V }) (Out.ite ((ansC (rget (List.take x.snd.fst.length (List.drop 0 x.snd.fst)) (p.l.getD (0 + x.1) (V.enc Kd.com).dflt).key) (p.l.getD (0 + x.1) (V.enc Kd.com).dflt).act (p.l.getD (0 + x.1) (V.enc Kd.com).dflt).key (p.l.getD (0 + x.1) (V.enc Kd.com).dflt).value).act == 0) (Out.stop EX.rt {env := [(0, .sl false 0 0 4 p.l.length p.2), (2, .int .i64 (↑x.1 : Int)), (3, .sl false 1 0 2 x.snd.fst.length (x.snd.fst.length + x.snd.2)), (4, .sl false 1 0 2 x.snd.fst.length (x.snd.fst.length + x.snd.2)), (5, .int .i64 (↑x.1 : Int))], heap := [(3, .cells 35 [.int .i64 (ansC (rget (List.take x.snd.fst.length (List.drop 0 x.snd.fst)) (p.l.getD (0 + x.1) (V.enc Kd.com).dflt).key) (p.l.getD (0 + x.1) (V.enc Kd.com).dflt).act (p.l.getD (0 + x.1) (V.enc Kd.com).dflt).key (p.l.getD (0 + x.1) (V.enc Kd.com).dflt).value).act, .int .i64 (ansC (rget (List.take x.snd.fst.length (List.drop 0 x.snd.fst)) (p.l.getD (0 + x.1) (V.enc Kd.com).dflt).key) (p.l.getD (0 + x.1) (V.enc Kd.com).dflt).act (p.l.getD (0 + x.1) (V.enc Kd.com).dflt).key (p.l.getD (0 + x.1) (V.enc Kd.com).dflt).value).key, .int .i64 (ansC (rget (List.take x.snd.fst.length (List.drop 0 x.snd.fst)) (p.l.getD (0 + x.1) (V.enc Kd.com).dflt).key) (p.l.getD (0 + x.1) (V.enc Kd.com).dflt).act (p.l.getD (0 + x.1) (V.enc Kd.com).dflt).key (p.l.getD (0 + x.1) (V.enc Kd.com).dflt).value).value, .bool (ansC (rget (List.take x.snd.fst.length (List.drop 0 x.snd.fst)) (p.l.getD (0 + x.1) (V.enc Kd.com).dflt).key) (p.l.getD (0 + x.1) (V.enc Kd.com).dflt).act (p.l.getD (0 + x.1) (V.enc Kd.com).dflt).key (p.l.getD (0 + x.1) (V.enc Kd.com).dflt).value).hit]), (2, .arr 27 Kd.pr (nextR (List.take x.snd.fst.length (List.drop 0 x.snd.fst)) (p.l.getD (0 + x.1) (V.enc Kd.com).dflt).act (p.l.getD (0 + x.1) (V.enc Kd.com).dflt).key (p.l.getD (0 + x.1) (V.enc Kd.com).dflt).value) y), (1, .arr 27 Kd.pr x.snd.fst x.snd.2), (0, .ro Kd.com p.l)], nx := 5, nt := 51, tl := [3, 0, 1, 2, 3, 4, 5, 6, 7, 8, 9, 10, 11, 12, 13, 14, 15, 16] : St V }) (Out.stop EX.nx {env := [(0, .sl false 0 0 4 p.l.length p.2), (2, .und), (3, .und), (4, .sl false 2 0 2 (nextR (List.take x.snd.fst.length (List.drop 0 x.snd.fst)) (p.l.getD (0 + x.1) (V.enc Kd.com).dflt).act (p.l.getD (0 + x.1) (V.enc Kd.com).dflt).key (p.l.getD (0 + x.1) (V.enc Kd.com).dflt).value).length ((nextR (List.take x.snd.fst.length (List.drop 0 x.snd.fst)) (p.l.getD (0 + x.1) (V.enc Kd.com).dflt).act (p.l.getD (0 + x.1) (V.enc Kd.com).dflt).key (p.l.getD (0 + x.1) (V.enc Kd.com).dflt).value).length + y)), (5, .int .i64 (IntKind.i64.wrap ((↑x.1 : Int) + 1)))], heap := [(3, .cells 35 [.int .i64 (ansC (rget (List.take x.snd.fst.length (List.drop 0 x.snd.fst)) (p.l.getD (0 + x.1) (V.enc Kd.com).dflt).key) (p.l.getD (0 + x.1) (V.enc Kd.com).dflt).act (p.l.getD (0 + x.1) (V.enc Kd.com).dflt).key (p.l.getD (0 + x.1) (V.enc Kd.com).dflt).value).act, .int .i64 (ansC (rget (List.take x.snd.fst.length (List.drop 0 x.snd.fst)) (p.l.getD (0 + x.1) (V.enc Kd.com).dflt).key) (p.l.getD (0 + x.1) (V.enc Kd.com).dflt).act (p.l.getD (0 + x.1) (V.enc Kd.com).dflt).key (p.l.getD (0 + x.1) (V.enc Kd.com).dflt).value).key, .int .i64 (ansC (rget (List.take x.snd.fst.length (List.drop 0 x.snd.fst)) (p.l.getD (0 + x.1) (V.enc Kd.com).dflt).key) (p.l.getD (0 + x.1) (V.enc Kd.com).dflt).act (p.l.getD (0 + x.1) (V.enc Kd.com).dflt).key (p.l.getD (0 + x.1) (V.enc Kd.com).dflt).value).value, .bool (ansC (rget (List.take x.snd.fst.length (List.drop 0 x.snd.fst)) (p.l.getD (0 + x.1) (V.enc Kd.com).dflt).key) (p.l.getD (0 + x.1) (V.enc Kd.com).dflt).act (p.l.getD (0 + x.1) (V.enc Kd.com).dflt).key (p.l.getD (0 + x.1) (V.enc Kd.com).dflt).value).hit]), (2, .arr 27 Kd.pr (nextR (List.take x.snd.fst.length (List.drop 0 x.snd.fst)) (p.l.getD (0 + x.1) (V.enc Kd.com).dflt).act (p.l.getD (0 + x.1) (V.enc Kd.com).dflt).key (p.l.getD (0 + x.1) (V.enc Kd.com).dflt).value) y), (1, .arr 27 Kd.pr x.snd.fst x.snd.2), (0, .ro Kd.com p.l)], nx := 5, nt := 51, tl := [3, 0, 1, 2, 3, 4, 5, 6, 7, 8, 9, 10, 11, 12, 13, 14, 15, 16] : St V }))))))).both (Out.need (0 + x.snd.fst.length ≤ x.snd.fst.length) (Out.need ((List.take x.snd.fst.length (List.drop 0 x.snd.fst)).length ≤ 1073741824 ∧ (List.take x.snd.fst.length (List.drop 0 x.snd.fst)).length ≤ x.snd.fst.length + x.snd.2) (Out.all Nat fun y => Out.need (0 ≤ (↑x.1 : Int) ∧ (↑x.1 : Int) < (↑p.l.length : Int)) (Out.need (0 + x.1 < p.l.length) (Out.ite (!((ansC (rget (List.take x.snd.fst.length (List.drop 0 x.snd.fst)) (p.l.getD (0 + x.1) (V.enc Kd.com).dflt).key) (p.l.getD (0 + x.1) (V.enc Kd.com).dflt).act (p.l.getD (0 + x.1) (V.enc Kd.com).dflt).key (p.l.getD (0 + x.1) (V.enc Kd.com).dflt).value).act == (p.l.getD (0 + x.1) (V.enc Kd.com).dflt).act && ((ansC (rget (List.take x.snd.fst.length (List.drop 0 x.snd.fst)) (p.l.getD (0 + x.1) (V.enc Kd.com).dflt).key) (p.l.getD (0 + x.1) (V.enc Kd.com).dflt).act (p.l.getD (0 + x.1) (V.enc Kd.com).dflt).key (p.l.getD (0 + x.1) (V.enc Kd.com).dflt).value).key == (p.l.getD (0 + x.1) (V.enc Kd.com).dflt).key && ((ansC (rget (List.take x.snd.fst.length (List.drop 0 x.snd.fst)) (p.l.getD (0 + x.1) (V.enc Kd.com).dflt).key) (p.l.getD (0 + x.1) (V.enc Kd.com).dflt).act (p.l.getD (0 + x.1) (V.enc Kd.com).dflt).key (p.l.getD (0 + x.1) (V.enc Kd.com).dflt).value).value == (p.l.getD (0 + x.1) (V.enc Kd.com).dflt).value && ((ansC (rget (List.take x.snd.fst.length (List.drop 0 x.snd.fst)) (p.l.getD (0 + x.1) (V.enc Kd.com).dflt).key) (p.l.getD (0 + x.1) (V.enc Kd.com).dflt).act (p.l.getD (0 + x.1) (V.enc Kd.com).dflt).key (p.l.getD (0 + x.1) (V.enc Kd.com).dflt).value).hit == (p.l.getD (0 + x.1) (V.enc Kd.com).dflt).hit && true))))) (Out.stop EX.rt {env := [(0, .sl false 0 0 4 p.l.length p.2), (2, .int .i64 (↑x.1 : Int)), (3, .sl false 1 0 2 x.snd.fst.length (x.snd.fst.length + x.snd.2)), (4, .sl false 1 0 2 x.snd.fst.length (x.snd.fst.length + x.snd.2)), (5, .int .i64 (↑x.1 : Int))], heap := [(3, .arr 27 Kd.pr (nextR (List.take x.snd.fst.length (List.drop 0 x.snd.fst)) (p.l.getD (0 + x.1) (V.enc Kd.com).dflt).act (p.l.getD (0 + x.1) (V.enc Kd.com).dflt).key (p.l.getD (0 + x.1) (V.enc Kd.com).dflt).value) y), (2, .cells 35 [.int .i64 (ansC (rget (List.take x.snd.fst.length (List.drop 0 x.snd.fst)) (p.l.getD (0 + x.1) (V.enc Kd.com).dflt).key) (p.l.getD (0 + x.1) (V.enc Kd.com).dflt).act (p.l.getD (0 + x.1) (V.enc Kd.com).dflt).key (p.l.getD (0 + x.1) (V.enc Kd.com).dflt).value).act, .int .i64 (ansC (rget (List.take x.snd.fst.length (List.drop 0 x.snd.fst)) (p.l.getD (0 + x.1) (V.enc Kd.com).dflt).key) (p.l.getD (0 + x.1) (V.enc Kd.com).dflt).act (p.l.getD (0 + x.1) (V.enc Kd.com).dflt).key (p.l.getD (0 + x.1) (V.enc Kd.com).dflt).value).key, .int .i64 (ansC (rget (List.take x.snd.fst.length (List.drop 0 x.snd.fst)) (p.l.getD (0 + x.1) (V.enc Kd.com).dflt).key) (p.l.getD (0 + x.1) (V.enc Kd.com).dflt).act (p.l.getD (0 + x.1) (V.enc Kd.com).dflt).key (p.l.getD (0 + x.1) (V.enc Kd.com).dflt).value).value, .bool (ansC (rget (List.take x.snd.fst.length (List.drop 0 x.snd.fst)) (p.l.getD (0 + x.1) (V.enc Kd.com).dflt).key) (p.l.getD (0 + x.1) (V.enc Kd.com).dflt).act (p.l.getD (0 + x.1) (V.enc Kd.com).dflt).key (p.l.getD (0 + x.1) (V.enc Kd.com).dflt).value).hit]), (1, .arr 27 Kd.pr x.snd.fst x.snd.2), (0, .ro Kd.com p.l)], nx := 5, nt := 51, tl := [2, 0, 1, 2, 3, 4, 5, 6, 7, 8, 9, 10, 11, 12, 13, 14, 15, 16] : St V }) (Out.ite ((ansC (rget (List.take x.snd.fst.length (List.drop 0 x.snd.fst)) (p.l.getD (0 + x.1) (V.enc Kd.com).dflt).key) (p.l.getD (0 + x.1) (V.enc Kd.com).dflt).act (p.l.getD (0 + x.1) (V.enc Kd.com).dflt).key (p.l.getD (0 + x.1) (V.enc Kd.com).dflt).value).act == 0) (Out.stop EX.rt {env := [(0, .sl false 0 0 4 p.l.length p.2), (2, .int .i64 (↑x.1 : Int)), (3, .sl false 1 0 2 x.snd.fst.length (x.snd.fst.length + x.snd.2)), (4, .sl false 1 0 2 x.snd.fst.length (x.snd.fst.length + x.snd.2)), (5, .int .i64 (↑x.1 : Int))], heap := [(3, .arr 27 Kd.pr (nextR (List.take x.snd.fst.length (List.drop 0 x.snd.fst)) (p.l.getD (0 + x.1) (V.enc Kd.com).dflt).act (p.l.getD (0 + x.1) (V.enc Kd.com).dflt).key (p.l.getD (0 + x.1) (V.enc Kd.com).dflt).value) y), (2, .cells 35 [.int .i64 (ansC (rget (List.take x.snd.fst.length (List.drop 0 x.snd.fst)) (p.l.getD (0 + x.1) (V.enc Kd.com).dflt).key) (p.l.getD (0 + x.1) (V.enc Kd.com).dflt).act (p.l.getD (0 + x.1) (V.enc Kd.com).dflt).key (p.l.getD (0 + x.1) (V.enc Kd.com).dflt).value).act, .int .i64 (ansC (rget (List.take x.snd.fst.length (List.drop 0 x.snd.fst)) (p.l.getD (0 + x.1) (V.enc Kd.com).dflt).key) (p.l.getD (0 + x.1) (V.enc Kd.com).dflt).act (p.l.getD (0 + x.1) (V.enc Kd.com).dflt).key (p.l.getD (0 + x.1) (V.enc Kd.com).dflt).value).key, .int .i64 (ansC (rget (List.take x.snd.fst.length (List.drop 0 x.snd.fst)) (p.l.getD (0 + x.1) (V.enc Kd.com).dflt).key) (p.l.getD (0 + x.1) (V.enc Kd.com).dflt).act (p.l.getD (0 + x.1) (V.enc Kd.com).dflt).key (p.l.getD (0 + x.1) (V.enc Kd.com).dflt).value).value, .bool (ansC (rget (List.take x.snd.fst.length (List.drop 0 x.snd.fst)) (p.l.getD (0 + x.1) (V.enc Kd.com).dflt).key) (p.l.getD (0 + x.1) (V.enc Kd.com).dflt).act (p.l.getD (0 + x.1) (V.enc Kd.com).dflt).key (p.l.getD (0 + x.1) (V.enc Kd.com).dflt).value).hit]), (1, .arr 27 Kd.pr x.snd.fst x.snd.2), (0, .ro Kd.com p.l)], nx := 5, nt := 51, tl := [2, 0, 1, 2, 3, 4, 5, 6, 7, 8, 9, 10, 11, 12, 13, 14, 15, 16] : St V }) (Out.stop EX.nx {env := [(0, .sl false 0 0 4 p.l.length p.2), (2, .und), (3, .und), (4, .sl false 3 0 2 (nextR (List.take x.snd.fst.length (List.drop 0 x.snd.fst)) (p.l.getD (0 + x.1) (V.enc Kd.com).dflt).act (p.l.getD (0 + x.1) (V.enc Kd.com).dflt).key (p.l.getD (0 + x.1) (V.enc Kd.com).dflt).value).length ((nextR (List.take x.snd.fst.length (List.drop 0 x.snd.fst)) (p.l.getD (0 + x.1) (V.enc Kd.com).dflt).act (p.l.getD (0 + x.1) (V.enc Kd.com).dflt).key (p.l.getD (0 + x.1) (V.enc Kd.com).dflt).value).length + y)), (5, .int .i64 (IntKind.i64.wrap ((↑x.1 : Int) + 1)))], heap := [(3, .arr 27 Kd.pr (nextR (List.take x.snd.fst.length (List.drop 0 x.snd.fst)) (p.l.getD (0 + x.1) (V.enc Kd.com).dflt).act (p.l.getD (0 + x.1) (V.enc Kd.com).dflt).key (p.l.getD (0 + x.1) (V.enc Kd.com).dflt).value) y), (2, .cells 35 [.int .i64 (ansC (rget (List.take x.snd.fst.length (List.drop 0 x.snd.fst)) (p.l.getD (0 + x.1) (V.enc Kd.com).dflt).key) (p.l.getD (0 + x.1) (V.enc Kd.com).dflt).act (p.l.getD (0 + x.1) (V.enc Kd.com).dflt).key (p.l.getD (0 + x.1) (V.enc Kd.com).dflt).value).act, .int .i64 (ansC (rget (List.take x.snd.fst.length (List.drop 0 x.snd.fst)) (p.l.getD (0 + x.1) (V.enc Kd.com).dflt).key) (p.l.getD (0 + x.1) (V.enc Kd.com).dflt).act (p.l.getD (0 + x.1) (V.enc Kd.com).dflt).key (p.l.getD (0 + x.1) (V.enc Kd.com).dflt).value).key, .int .i64 (ansC (rget (List.take x.snd.fst.length (List.drop 0 x.snd.fst)) (p.l.getD (0 + x.1) (V.enc Kd.com).dflt).key) (p.l.getD (0 + x.1) (V.enc Kd.com).dflt).act (p.l.getD (0 + x.1) (V.enc Kd.com).dflt).key (p.l.getD (0 + x.1) (V.enc Kd.com).dflt).value).value, .bool (ansC (rget (List.take x.snd.fst.length (List.drop 0 x.snd.fst)) (p.l.getD (0 + x.1) (V.enc Kd.com).dflt).key) (p.l.getD (0 + x.1) (V.enc Kd.com).dflt).act (p.l.getD (0 + x.1) (V.enc Kd.com).dflt).key (p.l.getD (0 + x.1) (V.enc Kd.com).dflt).value).hit]), (1, .arr 27 Kd.pr x.snd.fst x.snd.2), (0, .ro Kd.com p.l)], nx := 5, nt := 51, tl := [2, 0, 1, 2, 3, 4, 5, 6, 7, 8, 9, 10, 11, 12, 13, 14, 15, 16] : St V })))))))))))))) (Out.stop (EX.ex 0) {env := [(0, .sl false 0 0 4 p.l.length p.2), (2, .und), (3, .und), (4, .sl false 1 0 2 x.snd.fst.length (x.snd.fst.length + x.snd.2)), (5, .int .i64 (↑x.1 : Int))], heap := [(1, .arr 27 Kd.pr x.snd.fst x.snd.2), (0, .ro Kd.com p.l)], nx := 2, nt := 51, tl := [0, 1, 2, 3, 4, 5, 6, 7, 8, 9, 10, 11, 12, 13, 14, 15, 16] : St V }) := by kernel_rfl

theorem qb6 (p : QPQ) (x : Nat × Nat) : runCode cfgS4 60 19 (loopOf Try.f19 0) (QI6 p x) (stopT (trimSt [0, 3, 4] [0, 1, 2, 3, 4, 5, 6])) = Out.ite (decide ((↑x.1 : Int) < (↑p.l.length : Int))) (Out.need (0 ≤ (↑x.1 : Int) ∧ (↑x.1 : Int) < (↑p.l.length : Int)) (Out.need (0 + x.1 < p.l.length) (Out.ite ((p.l.getD (0 + x.1) (V.enc Kd.com).dflt).act == 4) (Out.need (0 ≤ (↑x.1 : Int) ∧ (↑x.1 : Int) < (↑p.l.length : Int)) (Out.need (0 + x.1 < p.l.length) (Out.need (0 = 0 ∧ (evsOf (List.take x.1 p.l)).length = (evsOf (List.take x.1 p.l)).length ∧ (evsOf (List.take x.1 p.l)).length + x.2 = (evsOf (List.take x.1 p.l)).length + x.2 ∧ ((evsOf (List.take x.1 p.l)).length + 1) * 8 ≤ 140737488355328) (Out.all Nat fun y => Out.stop EX.nx {env := [(0, .sl false 0 0 4 p.l.length p.2), (3, .sl false 3 0 1 ((evsOf (List.take x.1 p.l)).length + 1) ((evsOf (List.take x.1 p.l)).length + 1 + y)), (4, .int .i64 (IntKind.i64.wrap ((↑x.1 : Int) + 1)))], heap := [(3, .arr 3 Kd.int (evsOf (List.take x.1 p.l) ++ [(p.l.getD (0 + x.1) (V.enc Kd.com).dflt).key]) y), (2, .cells 3 [.int .i64 (p.l.getD (0 + x.1) (V.enc Kd.com).dflt).key]), (0, .ro Kd.com p.l)], nx := 4, nt := 26, tl := [1, 0, 1, 2, 3, 4, 5, 6, 7, 8, 9, 10, 11, 12, 13, 14, 15, 16] : St V })))) (Out.stop EX.nx {env := [(0, .sl false 0 0 4 p.l.length p.2), (3, .sl false 1 0 1 (evsOf (List.take x.1 p.l)).length ((evsOf (List.take x.1 p.l)).length + x.2)), (4, .int .i64 (IntKind.i64.wrap ((↑x.1 : Int) + 1)))], heap := [(1, .arr 3 Kd.int (evsOf (List.take x.1 p.l)) x.2), (0, .ro Kd.com p.l)], nx := 2, nt := 26, tl := [0, 1, 2, 3, 4, 5, 6, 7, 8, 9, 10, 11, 12, 13, 14, 15, 16] : St V })))) (Out.stop (EX.ex 0) {env := [(0, .sl false 0 0 4 p.l.length p.2), (3, .sl false 1 0 1 (evsOf (List.take x.1 p.l)).length ((evsOf (List.take x.1 p.l)).length + x.2)), (4, .int .i64 (↑x.1 : Int))], heap := [(1, .arr 3 Kd.int (evsOf (List.take x.1 p.l)) x.2), (0, .ro Kd.com p.l)], nx := 2, nt := 26, tl := [0, 1, 2, 3, 4, 5, 6, 7, 8, 9, 10, 11, 12, 13, 14, 15, 16] : St V }) := by kernel_rfl

theorem qt6 (l : List Com) (c : Nat) : runF cfgS5 60 26 Try.f26 [.sl false 0 0 4 l.length c] [(0, .ro Kd.com l)] 1 = Out.need (LoopFor Try.prog 26 0 (loopOf Try.f26 0) QL5) (Out.ex (QPT → Prop) fun y => Out.need (1 ≤ 1 ∧ SImp 1 {env := [(0, .sl false 0 0 4 l.length c), (4, .nilS), (5, .lit .i64 0)], heap := [(0, .ro Kd.com l)], nx := 1, nt := 51, tl := [] : St V } (fun p => QI5 p (0, [], 0)) y) (Out.all QPT fun y_1 => Out.asm (y y_1) ((Out.all (List Pr × Nat) fun y => Out.asm ((fun p y => runR p.l [] = (p.l.length, y.fst)) y_1 y) (Out.fin (.tup [.int .i64 (↑y_1.l.length : Int), .sl false 1 0 2 (y_1.l.length, y).snd.fst.length ((y_1.l.length, y).snd.fst.length + (y_1.l.length, y).snd.snd)]) [(1, .arr 27 Kd.pr (y_1.l.length, y).snd.fst (y_1.l.length, y).snd.snd), (0, .ro Kd.com y_1.l)] 2)).both (Out.all (Nat × List Pr × Nat) fun y => Out.asm ((fun p y => runR p.l [] = (y.1, y.snd.fst)) y_1 y) (Out.fin (.tup [.int .i64 (↑y.1 : Int), .sl false 1 0 2 y.snd.fst.length (y.snd.fst.length + y.snd.2)]) [(1, .arr 27 Kd.pr y.snd.fst y.snd.2), (0, .ro Kd.com y_1.l)] 2))))) := by kernel_rfl

theorem qt7 (l : List Com) (c : Nat) : runF cfgS5 60 19 Try.f19 [.sl false 0 0 4 l.length c] [(0, .ro Kd.com l)] 1 = Out.need (LoopFor Try.prog 19 0 (loopOf Try.f19 0) QL6) (Out.ex (QPQ → Prop) fun y => Out.need (1 ≤ 1 ∧ SImp 1 {env := [(0, .sl false 0 0 4 l.length c), (3, .nilS), (4, .lit .i64 0)], heap := [(0, .ro Kd.com l)], nx := 1, nt := 26, tl := [] : St V } (fun p => QI6 p (0, 0)) y) (Out.all QPQ fun y_1 => Out.asm (y y_1) (Out.all Nat fun y => Out.asm ((fun x x_1 => True) y_1 y) (Out.fin (.sl false 1 0 1 (evsOf (List.take (y_1.l.length, y).fst y_1.l)).length ((evsOf (List.take (y_1.l.length, y).fst y_1.l)).length + y)) [(1, .arr 3 Kd.int (evsOf (List.take (y_1.l.length, y).fst y_1.l)) y), (0, .ro Kd.com y_1.l)] 2)))) := by kernel_rfl

theorem qt8 (l : List Com) (c : Nat) : runF cfgS6 60 13 Try.f13 [.sl false 0 0 4 l.length c] [(0, .ro Kd.com l)] 1 = Out.need (0 + l.length ≤ l.length) (Out.need ((List.take l.length (List.drop 0 l)).length ≤ 1099511627776) (Out.fin (.int .i64 (↑(runM (List.take l.length (List.drop 0 l)) []).fst : Int)) [(1, .mp .i64 Kd.int (runM (List.take l.length (List.drop 0 l)) []).snd), (0, .ro Kd.com l)] 2)) := by kernel_rfl

theorem qt9 (l : List Com) (c : Nat) : runF cfgS6 60 14 Try.f14 [.sl false 0 0 4 l.length c] [(0, .ro Kd.com l)] 1 = Out.need (0 + l.length ≤ l.length) (Out.need ((List.take l.length (List.drop 0 l)).length ≤ 1073741824) (Out.all Nat fun y => Out.fin (.int .i64 (↑(runR (List.take l.length (List.drop 0 l)) []).fst : Int)) [(1, .arr 27 Kd.pr (runR (List.take l.length (List.drop 0 l)) []).snd y), (0, .ro Kd.com l)] 2)) := by kernel_rfl

theorem qt10 (l : List Com) (c : Nat) : runF cfgS6 60 15 Try.f15 [.sl false 0 0 4 l.length c] [(0, .ro Kd.com l)] 1 = Out.need (0 + l.length ≤ l.length) (Out.need ((List.take l.length (List.drop 0 l)).length ≤ 1099511627776) (Out.ite ((↑(runM (List.take l.length (List.drop 0 l)) []).fst : Int) == (↑l.length : Int)) (Out.need (0 + l.length ≤ l.length) (Out.need ((List.take l.length (List.drop 0 l)).length ≤ 1099511627776) (Out.all Nat fun y => Out.fin (.bool ((↑(evsOf (List.take l.length (List.drop 0 l))).length : Int) == 0)) [(2, .arr 3 Kd.int (evsOf (List.take l.length (List.drop 0 l))) y), (1, .mp .i64 Kd.int (runM (List.take l.length (List.drop 0 l)) []).snd), (0, .ro Kd.com l)] 3))) (Out.fin .ff [(1, .mp .i64 Kd.int (runM (List.take l.length (List.drop 0 l)) []).snd), (0, .ro Kd.com l)] 2))) := by kernel_rfl

theorem qt11 (l : List Com) (c : Nat) : runF cfgS6 60 16 Try.f16 [.sl false 0 0 4 l.length c] [(0, .ro Kd.com l)] 1 = Out.need (0 + l.length ≤ l.length) (Out.need ((List.take l.length (List.drop 0 l)).length ≤ 1073741824) (Out.all Nat fun y => Out.need (0 + l.length ≤ l.length) (Out.need ((List.take l.length (List.drop 0 l)).length ≤ 1099511627776) (Out.all Nat fun y_1 => Out.ite ((↑(runR (List.take l.length (List.drop 0 l)) []).fst : Int) == (↑l.length : Int)) (Out.fin (.bool ((↑(evsOf (List.take l.length (List.drop 0 l))).length : Int) == 0)) [(2, .arr 3 Kd.int (evsOf (List.take l.length (List.drop 0 l))) y_1), (1, .arr 27 Kd.pr (runR (List.take l.length (List.drop 0 l)) []).snd y), (0, .ro Kd.com l)] 3) (Out.fin .ff [(2, .arr 3 Kd.int (evsOf (List.take l.length (List.drop 0 l))) y_1), (1, .arr 27 Kd.pr (runR (List.take l.length (List.drop 0 l)) []).snd y), (0, .ro Kd.com l)] 3))))) := by kernel_rfl

end Sx
end Go.Proofs.Ythabfkcmhffjoaa

/-
  The document: which commits are legal; both ways alike.
-/
namespace Go.Proofs.Ythabfkcmhffjoaa
namespace Sx
open Go
set_option linter.unusedSimpArgs false
set_option linter.unusedVariables false

theorem hooksS4_ok : ∀ g H, hooksS4 g = some H → HookOk Try.prog g H := by
  intro g H h
  unfold hooksS4 at h
  split at h
  · cases h; exact hAnswer
  · cases h
theorem cfgS4_ok : cfgS4.ok := ⟨tab_met, kinds_met, mixed_met, fun g fn h => (by cases h), hooksS4_ok⟩
theorem cfgS5_ok : cfgS5.ok := ⟨tab_met, kinds_met, mixed_met, fun g fn h => (by cases h), hooksS4_ok⟩

theorem qbody5 (p : QPT) (x : Nat × List Pr × Nat) (hi : x.1 ≤ p.l.length) (hx : x.2.1.length ≤ x.1) (Q : EX → St V → Prop) (F : AV → Heap V → Nat → Prop)
    (hrt : ∀ ST : St V, x.1 < p.l.length → ¬ okC (rget x.2.1 (p.l.getD x.1 cc0).key) (p.l.getD x.1 cc0) → Wk 1 [(1, 1)] ST (QR5 p x) → Q .rt ST)
    (hnx : ∀ (ST : St V) (sp b : Nat), x.1 < p.l.length → okC (rget x.2.1 (p.l.getD x.1 cc0).key) (p.l.getD x.1 cc0) → Wk 1 [(1, b)] ST (QI5 p (x.1 + 1, nextR x.2.1 (p.l.getD x.1 cc0).act (p.l.getD x.1 cc0).key (p.l.getD x.1 cc0).value, sp)) → Q .nx ST)
    (hex : ∀ ST : St V, x.1 = p.l.length → Wk 1 [(1, 1)] ST (QI5 p x) → Q (.ex 0) ST) :
    (runCode cfgS4 60 26 (loopOf Try.f26 0) (QI5 p x) (stopT (trimSt [0, 2, 3, 4, 5] [0, 1, 2, 3, 4, 5, 6, 7, 8]))).holds ⟨Q, F⟩ := by
  rw [qb5]
  have hb := p.hb
  have hw : x.1 < p.l.length → IntKind.wrap .i64 ((x.1 : Int) + 1) = ((x.1 + 1 : Nat) : Int) := fun h => wrap_nat (by omega)
  rw [show (0 + x.1) = x.1 from Nat.zero_add _, show p.l.getD x.1 (V.enc Kd.com).dflt = p.l.getD x.1 cc0 from rfl]
  rw [show List.take x.2.1.length (List.drop 0 x.2.1) = x.2.1 from List.take_length ..]
  generalize p.l.getD x.1 cc0 = c at hrt hnx ⊢
  unfold okC at hrt hnx
  generalize ansC (rget x.2.1 c.key) c.act c.key c.value = a at hrt hnx ⊢
  have ext : (a.act = c.act ∧ a.key = c.key ∧ a.value = c.value ∧ a.hit = c.hit) ↔ a = c := by
    obtain ⟨a1, a2, a3, a4⟩ := a
    obtain ⟨b1, b2, b3, b4⟩ := c
    simp
  rw [← ext] at hrt hnx
  clear ext
  simp only [Out.holds, decide_eq_true_eq, decide_eq_false_iff_not, beq_iff_eq, beq_eq_false_iff_ne, Bool.and_true, Bool.not_eq_true', Bool.not_eq_false', Bool.and_eq_true, Bool.and_eq_false_imp, true_implies, true_and]
  by_cases hlt : x.1 < p.l.length
  · refine ⟨fun _ => ?_, fun h => absurd hlt (by omega)⟩
    repeat' first | apply And.intro | intro _
    all_goals first
      | omega
      | exact hrt _ hlt (by simp_all) ⟨⟨AV.sub_same _, AV.sub_same _, trivial⟩, ⟨.same _, .same _, trivial⟩, rfl, tl_ok rfl, ⟨.inl (in_ok rfl), .inl (in_ok rfl), .inl (in_ok rfl), .inr rfl, trivial⟩, ⟨Nat.le_of_ble_eq_true rfl, rfl⟩⟩
      | exact hnx _ _ 2 hlt (by simp_all) ⟨⟨AV.sub_same _, AV.sub_same _, AV.sub_int (hw hlt), trivial⟩, ⟨.same _, .same _, trivial⟩, rfl, tl_ok rfl, ⟨.inl (in_ok rfl), .inl (in_ok rfl), .inl (in_ok rfl), .inr rfl, trivial⟩, ⟨Nat.le_of_ble_eq_true rfl, rfl⟩⟩
      | exact hnx _ _ 3 hlt (by simp_all) ⟨⟨AV.sub_same _, AV.sub_same _, AV.sub_int (hw hlt), trivial⟩, ⟨.same _, .same _, trivial⟩, rfl, tl_ok rfl, ⟨.inl (in_ok rfl), .inl (in_ok rfl), .inl (in_ok rfl), .inr rfl, trivial⟩, ⟨Nat.le_of_ble_eq_true rfl, rfl⟩⟩
      | skip
  · exact ⟨fun h => absurd h (by omega), fun h => hex _ (by omega) ⟨⟨AV.sub_same _, AV.sub_same _, AV.sub_same _, trivial⟩, ⟨.same _, .same _, trivial⟩, rfl, tl_ok rfl, ⟨.inl (in_ok rfl), .inr rfl, trivial⟩, ⟨Nat.le_of_ble_eq_true rfl, rfl⟩⟩⟩
theorem ql5_ok : LoopOk Try.prog 0 (loopOf Try.f26 0) QL5 := by
  refine trimLoop_ok (trim_ok _ _) (loopT_ok (C := cfgS4) cfgS4_ok (f := 26) (n := 60) (trim_ok [0, 2, 3, 4, 5] [0, 1, 2, 3, 4, 5, 6, 7, 8]) 1 QI5 (fun p x => (x.1 ≤ p.l.length ∧ x.2.1.length ≤ x.1) ∧ runR p.l [] = (x.1 + (runR (p.l.drop x.1) x.2.1).1, (runR (p.l.drop x.1) x.2.1).2)) (fun _ => (0, [], 0)) (fun p x => p.l.length - x.1)
    (fun p (y : List Pr × Nat) => runR p.l [] = (p.l.length, y.1)) (fun p y => QI5 p (p.l.length, y)) (fun p (y : Nat × List Pr × Nat) => runR p.l [] = (y.1, y.2.1)) (fun p y => QR5 p y) (fun p => ⟨⟨Nat.zero_le _, Nat.zero_le _⟩, by simp⟩) ?_)
  intro p x ⟨⟨hi, hlen⟩, hx⟩
  have st : x.1 < p.l.length → runR (p.l.drop x.1) x.2.1 = if okC (rget x.2.1 (p.l.getD x.1 cc0).key) (p.l.getD x.1 cc0) then ((runR (p.l.drop (x.1 + 1)) (nextR x.2.1 (p.l.getD x.1 cc0).act (p.l.getD x.1 cc0).key (p.l.getD x.1 cc0).value)).1 + 1, (runR (p.l.drop (x.1 + 1)) (nextR x.2.1 (p.l.getD x.1 cc0).act (p.l.getD x.1 cc0).key (p.l.getD x.1 cc0).value)).2) else (0, x.2.1) := fun h => by rw [drop_cons p.l cc0 h]; rfl
  have hnl := nextR_len x.2.1 (p.l.getD x.1 cc0).act (p.l.getD x.1 cc0).key (p.l.getD x.1 cc0).value
  refine qbody5 p x hi hlen _ _ (fun ST hlt hn hw => SImp.of_wk (ren := [(1, 1)]) x hw ?_) (fun ST sp b hlt ho hw => SImp.of_wk (x.1 + 1, _, sp) hw ⟨⟨⟨hlt, ?_⟩, ?_⟩, ?_⟩) (fun ST he hw => ⟨rfl, SImp.of_wk (ren := [(1, 1)]) x.2 ?_ ?_⟩)
  · rw [hx, st hlt, if_neg hn]; rfl
  · dsimp only; omega
  · rw [hx, st hlt, if_pos ho]
    exact Prod.ext (by dsimp only; omega) rfl
  · show p.l.length - (x.1 + 1) < p.l.length - x.1; omega
  · obtain ⟨i, m⟩ := x; simp only at he; subst he; exact hw
  · rw [hx, he, List.drop_length]; rfl
theorem hRefRun : HookOk Try.prog 26 (hookFree [.rows Kd.com] runRefRun) := by
  refine free_hook (C := cfgS5) cfgS5_ok (n := 60) (fn := Try.f26) ⟨by kernel_rfl, by kernel_rfl⟩ (by kernel_rfl) ?_
  intro M ar K0 H
  unfold runRefRun at H
  split at H
  · rename_i l c
    obtain ⟨hb, H⟩ := H
    refine ⟨show 1 ≤ _ by decide +kernel, ?_⟩
    show (runF cfgS5 60 26 Try.f26 [.sl false 0 0 4 l.length c] [(0, .ro Kd.com l)] 1).holds _
    rw [qt6]
    refine ⟨ql5_ok, fun p => p = ⟨l, c, hb⟩, ⟨Nat.le_refl _, SImp.of_wk (ren := [(1, 99)]) ⟨l, c, hb⟩ ?_ rfl⟩, ?_⟩
    · exact ⟨⟨AV.sub_same _, AV.sub_nilS, AV.sub_lit', trivial⟩, ⟨.none _ _, .same _, trivial⟩, rfl, tl_ok rfl, ⟨.inr rfl, trivial⟩, ⟨Nat.le_of_ble_eq_true rfl, rfl⟩⟩
    · rintro _ rfl
      refine ⟨fun y hy => ?_, fun y hy => ?_⟩
      · have h0 := H y.2
        rw [show runR l [] = (l.length, y.1) from hy] at h0
        exact ⟨_, _, h0, _, HImp.refl _ _, ⟨⟨fun _ => 1, ⟨.same _, trivial⟩, AV.sub_same _⟩, rfl, rfl⟩⟩
      · have h0 := H y.2.2
        rw [show runR l [] = (y.1, y.2.1) from hy] at h0
        exact ⟨_, _, h0, _, HImp.refl _ _, ⟨⟨fun _ => 1, ⟨.same _, trivial⟩, AV.sub_same _⟩, rfl, rfl⟩⟩
  · exact H.elim

theorem qbody6 (p : QPQ) (x : Nat × Nat) (hi : x.1 ≤ p.l.length) (Q : EX → St V → Prop) (F : AV → Heap V → Nat → Prop)
    (hnx : ∀ (ST : St V) (sp b : Nat), x.1 < p.l.length → Wk 1 [(1, b)] ST (QI6 p (x.1 + 1, sp)) → Q .nx ST) (hex : ∀ ST : St V, x.1 = p.l.length → Wk 1 [(1, 1)] ST (QI6 p x) → Q (.ex 0) ST) :
    (runCode cfgS4 60 19 (loopOf Try.f19 0) (QI6 p x) (stopT (trimSt [0, 3, 4] [0, 1, 2, 3, 4, 5, 6]))).holds ⟨Q, F⟩ := by
  rw [qb6]
  have hb := p.hb
  have hle := evs_le p.l x.1
  have hw : x.1 < p.l.length → IntKind.wrap .i64 ((x.1 : Int) + 1) = ((x.1 + 1 : Nat) : Int) := fun h => wrap_nat (by omega)
  have hs : x.1 < p.l.length → evsOf (p.l.take (x.1 + 1)) = evsOf (p.l.take x.1) ++ if (p.l.getD x.1 (V.enc Kd.com).dflt).act = 4 then [(p.l.getD x.1 (V.enc Kd.com).dflt).key] else [] := evs_succ
  have blk : ∀ {a b : List Int} {s : Nat}, a = b → BSub (some (.arr 3 Kd.int a s : Blk V)) (.arr 3 Kd.int b s) := fun h => by rw [h]; exact .same _
  simp only [Out.holds, Nat.zero_add, decide_eq_true_eq, decide_eq_false_iff_not, beq_iff_eq, beq_eq_false_iff_ne]
  refine ⟨fun h => ⟨by omega, by omega, fun h2 => ⟨by omega, by omega, ⟨trivial, trivial, trivial, by omega⟩, fun y => hnx _ y 3 (by omega) ?_⟩, fun h2 => hnx _ x.2 1 (by omega) ?_⟩, fun h => hex _ (by omega) ?_⟩
  · have e := hs (by omega)
    rw [if_pos h2] at e
    have el : (evsOf (p.l.take x.1)).length + 1 = (evsOf (p.l.take (x.1 + 1))).length := by rw [e]; simp
    exact ⟨⟨AV.sub_same _, AV.sub_sl el (by rw [el]), AV.sub_int (hw (by omega)), trivial⟩, ⟨blk e.symm, .same _, trivial⟩, rfl, tl_ok rfl, ⟨.inl (in_ok rfl), .inl (in_ok rfl), .inr rfl, trivial⟩, ⟨Nat.le_of_ble_eq_true rfl, rfl⟩⟩
  · have e := hs (by omega)
    rw [if_neg h2, List.append_nil] at e
    exact ⟨⟨AV.sub_same _, AV.sub_sl (by rw [e]) (by rw [e]), AV.sub_int (hw (by omega)), trivial⟩, ⟨blk e.symm, .same _, trivial⟩, rfl, tl_ok rfl, ⟨.inl (in_ok rfl), .inr rfl, trivial⟩, ⟨Nat.le_of_ble_eq_true rfl, rfl⟩⟩
  · exact ⟨⟨AV.sub_same _, AV.sub_same _, AV.sub_same _, trivial⟩, ⟨.same _, .same _, trivial⟩, rfl, tl_ok rfl, ⟨.inl (in_ok rfl), .inr rfl, trivial⟩, ⟨Nat.le_of_ble_eq_true rfl, rfl⟩⟩
theorem ql6_ok : LoopOk Try.prog 0 (loopOf Try.f19 0) QL6 := by
  refine trimLoop_ok (trim_ok _ _) (loopTH_ok (C := cfgS4) cfgS4_ok (f := 19) (n := 60) (trim_ok [0, 3, 4] [0, 1, 2, 3, 4, 5, 6]) 1 QI6 (fun p x => x.1 ≤ p.l.length) (fun _ => (0, 0)) (fun p x => p.l.length - x.1) (fun _ (_ : Nat) => True) (fun p sp => QI6 p (p.l.length, sp)) (fun p => Nat.zero_le _) ?_)
  intro p x hi
  refine qbody6 p x hi _ _ (fun ST sp b hlt hw => SImp.of_wk (x.1 + 1, sp) hw ⟨hlt, ?_⟩) (fun ST he hw => ⟨rfl, SImp.of_wk (ren := [(1, 1)]) x.2 ?_ trivial⟩)
  · show p.l.length - (x.1 + 1) < p.l.length - x.1; omega
  · obtain ⟨i, x⟩ := x; simp only at he; subst he; exact hw
theorem hRefEvicted : HookOk Try.prog 19 (hookFree [.rows Kd.com] runEvicted) := by
  refine free_hook (C := cfgS5) cfgS5_ok (n := 60) (fn := Try.f19) ⟨by kernel_rfl, by kernel_rfl⟩ (by kernel_rfl) ?_
  intro M ar K0 H
  unfold runEvicted at H
  split at H
  · rename_i l c
    obtain ⟨hb, H⟩ := H
    refine ⟨show 1 ≤ _ by decide +kernel, ?_⟩
    show (runF cfgS5 60 19 Try.f19 [.sl false 0 0 4 l.length c] [(0, .ro Kd.com l)] 1).holds _
    rw [qt7]
    refine ⟨ql6_ok, fun p => p = ⟨l, c, hb⟩, ⟨Nat.le_refl _, SImp.of_wk (ren := [(1, 99)]) ⟨l, c, hb⟩ ?_ rfl⟩, ?_⟩
    · exact ⟨⟨AV.sub_same _, AV.sub_nilS, AV.sub_lit', trivial⟩, ⟨.none _ _, .same _, trivial⟩, rfl, tl_ok rfl, ⟨.inr rfl, trivial⟩, ⟨Nat.le_of_ble_eq_true rfl, rfl⟩⟩
    · rintro _ rfl sp _
      have e : evsOf (l.take l.length) = evsOf l := by rw [List.take_length]
      dsimp only
      rw [e]
      exact ⟨_, _, H sp, _, HImp.refl _ _, ⟨⟨fun _ => 1, ⟨.same _, trivial⟩, AV.sub_same _⟩, rfl, rfl⟩⟩
  · exact H.elim

theorem hooksS6_ok : ∀ g H, hooksS6 g = some H → HookOk Try.prog g H := by
  intro g H h
  unfold hooksS6 at h
  split at h
  · cases h; exact hRefRun
  · cases h; exact hRefEvicted
  · cases h; exact hSpecRun
  · cases h; exact hSpecEvicted
  · exact hooksS4_ok _ _ h
theorem cfgS6_ok : cfgS6.ok := by
  refine ⟨tab_met, kinds_met, mixed_met, fun g fn h => ?_, hooksS6_ok⟩
  unfold cfgS6 fnsS6 at h
  simp only at h
  split at h <;> cases h <;> exact ⟨by kernel_rfl, by kernel_rfl⟩
def runLegal : RunFree V := fun ar K => match ar with
  | [.rows .com l c] => .need (l.length ≤ 1073741824) (K (.int .i64 (legal l : Int)) [])
  | _ => .bad 500
def runPlain : RunFree V := fun ar K => match ar with
  | [.rows .com l c] => .need (l.length ≤ 1073741824) (K (.bool (plainOf l)) [])
  | _ => .bad 500
theorem hSpecLegal : HookOk Try.prog 13 (hookFree [.rows Kd.com] runLegal) := by
  refine free_hook (C := cfgS6) cfgS6_ok (n := 60) (fn := Try.f13) ⟨by kernel_rfl, by kernel_rfl⟩ (by kernel_rfl) ?_
  intro M ar K0 H
  unfold runLegal at H
  split at H
  · rename_i l c
    obtain ⟨hb, H⟩ := H
    refine ⟨show 1 ≤ _ by decide +kernel, ?_⟩
    show (runF cfgS6 60 13 Try.f13 [.sl false 0 0 4 l.length c] [(0, .ro Kd.com l)] 1).holds _
    rw [qt8]
    rw [show List.take l.length (List.drop 0 l) = l from List.take_length ..]
    exact ⟨by omega, by omega, _, _, H, endPlain (AV.sub_same _) rfl⟩
  · exact H.elim
theorem hRefLegal : HookOk Try.prog 14 (hookFree [.rows Kd.com] runLegal) := by
  refine free_hook (C := cfgS6) cfgS6_ok (n := 60) (fn := Try.f14) ⟨by kernel_rfl, by kernel_rfl⟩ (by kernel_rfl) ?_
  intro M ar K0 H
  unfold runLegal at H
  split at H
  · rename_i l c
    obtain ⟨hb, H⟩ := H
    refine ⟨show 1 ≤ _ by decide +kernel, ?_⟩
    show (runF cfgS6 60 14 Try.f14 [.sl false 0 0 4 l.length c] [(0, .ro Kd.com l)] 1).holds _
    rw [qt9]
    rw [show List.take l.length (List.drop 0 l) = l from List.take_length .., legal_alike]
    exact ⟨by omega, by omega, fun y => ⟨_, _, H, endPlain (AV.sub_same _) rfl⟩⟩
  · exact H.elim
theorem plain_yes {l : List Com} (h : (legal l : Int) = l.length) : ((evsOf l).length : Int) = 0 ↔ plainOf l = true := by
  unfold plainOf
  rw [decide_eq_true (by omega), Bool.true_and, decide_eq_true_eq]; omega
theorem plain_no {l : List Com} (h : ¬ (legal l : Int) = l.length) : plainOf l = false := by
  unfold plainOf
  rw [decide_eq_false (by omega), Bool.false_and]
theorem beq_of_iff {a b : Int} {c : Bool} (h : a = b ↔ c = true) : (a == b) = c := by
  cases c with
  | true => exact beq_iff_eq.2 (h.2 rfl)
  | false => exact beq_false_of_ne fun e => by cases h.1 e
theorem hSpecPlain : HookOk Try.prog 15 (hookFree [.rows Kd.com] runPlain) := by
  refine free_hook (C := cfgS6) cfgS6_ok (n := 60) (fn := Try.f15) ⟨by kernel_rfl, by kernel_rfl⟩ (by kernel_rfl) ?_
  intro M ar K0 H
  unfold runPlain at H
  split at H
  · rename_i l c
    obtain ⟨hb, H⟩ := H
    refine ⟨show 1 ≤ _ by decide +kernel, ?_⟩
    show (runF cfgS6 60 15 Try.f15 [.sl false 0 0 4 l.length c] [(0, .ro Kd.com l)] 1).holds _
    rw [qt10]
    rw [show List.take l.length (List.drop 0 l) = l from List.take_length .., show ((runM l []).1 : Int) = (legal l : Int) from rfl]
    simp only [Out.holds, beq_iff_eq, beq_eq_false_iff_ne]
    exact ⟨by omega, by omega, fun h => ⟨by omega, by omega, fun y => ⟨_, _, H, endPlain (AV.sub_bool (beq_of_iff (plain_yes h))) rfl⟩⟩, fun h => ⟨_, _, H, endPlain (AV.sub_ff (plain_no h)) rfl⟩⟩
  · exact H.elim
theorem hRefPlain : HookOk Try.prog 16 (hookFree [.rows Kd.com] runPlain) := by
  refine free_hook (C := cfgS6) cfgS6_ok (n := 60) (fn := Try.f16) ⟨by kernel_rfl, by kernel_rfl⟩ (by kernel_rfl) ?_
  intro M ar K0 H
  unfold runPlain at H
  split at H
  · rename_i l c
    obtain ⟨hb, H⟩ := H
    refine ⟨show 1 ≤ _ by decide +kernel, ?_⟩
    show (runF cfgS6 60 16 Try.f16 [.sl false 0 0 4 l.length c] [(0, .ro Kd.com l)] 1).holds _
    rw [qt11]
    rw [show List.take l.length (List.drop 0 l) = l from List.take_length .., legal_alike]
    simp only [Out.holds, beq_iff_eq, beq_eq_false_iff_ne]
    exact ⟨by omega, by omega, fun y => ⟨by omega, by omega, fun z => ⟨fun h => ⟨_, _, H, endPlain (AV.sub_bool (beq_of_iff (plain_yes h))) rfl⟩, fun h => ⟨_, _, H, endPlain (AV.sub_ff (plain_no h)) rfl⟩⟩⟩⟩
  · exact H.elim

end Sx
end Go.Proofs.Ythabfkcmhffjoaa

