/-
  Functions over what is read: the runs of the machine.
-/
import Derived.Test.YtemcdjdglcceiaaHCalls
import Derived.Test.YtemcdjdglcceiaaHCmp
namespace Go.Proofs.Ytemcdjdglcceiaa
namespace Sx
open Go
set_option maxRecDepth 100000
set_option linter.unusedVariables false

def hooksE : Nat → Option (HookS V) := fun g => match g with
  | 42 => some (hookFree [.rows Kd.rcd] runCalls)
  | 13 => some (hookFree [.rows Kd.rcd, .rows Kd.rcd] runRecords)
  | 22 => some (hookFree [.rows Kd.com, .rows Kd.com] runComs)
  | 21 => some (hookFree [.rows Kd.cal, .rows Kd.cal] runSame)
  | _ => none
noncomputable def cfgE : Cfg Try.prog V := ⟨tab, kinds, fun _ => none, hooksE, fun _ _ => none⟩
def runRight : RunFree V := fun ar K => match ar with
  | [.rows .rcd l c] => .need (l.length ≤ 1099511627776) (K (.bool (hRight l)) [])
  | _ => .bad 500
def runCallsOf : RunFree V := fun ar K => match ar with
  | [.rows .rcd l c] => .need (l.length ≤ 1099511627776) (.all Nat fun sp => K (.sl false 0 0 5 (hCallsOf l).length ((hCallsOf l).length + sp)) [.arr 35 Kd.cal (hCallsOf l) sp])
  | _ => .bad 500
def runBefore : RunFree V := fun ar K => match ar with
  | [.el .cal a, .el .cal b] => K (.bool (hBefore a b)) []
  | _ => .bad 500
def hooksF : Nat → Option (HookS V) := fun g => match g with
  | 19 => some (hookFree [.rows Kd.rcd] runRight)
  | 15 => some (hookFree [.rows Kd.rcd] runCallsOf)
  | 17 => some (hookFree [.el Kd.cal, .el Kd.cal] runBefore)
  | g => hooksE g
noncomputable def cfgF : Cfg Try.prog V := ⟨tab, kinds, fun _ => none, hooksF, fun _ _ => none⟩
theorem t19 (l : List Rec) (c : Nat) : runF cfgE 40 19 Try.f19 [.sl false 0 0 8 l.length c] [(0, .ro Kd.rcd l)] 1 =
  Out.need (0 + l.length ≤ l.length)
    (Out.need ((List.take l.length (List.drop 0 l)).length ≤ 1099511627776)
      (Out.ite (hRight (List.take l.length (List.drop 0 l)))
        (Out.all Nat fun y => Out.fin AV.tt [(1, Blk.arr 35 Kd.cal (hCallsOf (List.take l.length (List.drop 0 l))) y), (0, Blk.ro Kd.rcd l)] 2)
        (Out.fin AV.ff [(0, Blk.ro Kd.rcd l)] 1))) := by kernel_rfl

theorem t15 (l : List Rec) (c : Nat) : runF cfgE 40 15 Try.f15 [.sl false 0 0 8 l.length c] [(0, .ro Kd.rcd l)] 1 =
  Out.need (0 + l.length ≤ l.length)
    (Out.need ((List.take l.length (List.drop 0 l)).length ≤ 1099511627776)
      (Out.ite (hRight (List.take l.length (List.drop 0 l)))
        (Out.all Nat fun y =>
          Out.fin (AV.sl false 1 0 5 (hCallsOf (List.take l.length (List.drop 0 l))).length ((hCallsOf (List.take l.length (List.drop 0 l))).length + y))
            [(1, Blk.arr 35 Kd.cal (hCallsOf (List.take l.length (List.drop 0 l))) y), (0, Blk.ro Kd.rcd l)] 2)
        (Out.fin AV.nilS [(0, Blk.ro Kd.rcd l)] 1))) := by kernel_rfl

theorem t17 (a b : Cal) : runF cfgE 40 17 Try.f17 [.agg (Cal.lay.enc a), .agg (Cal.lay.enc b)] [] 2 =
  Out.ite (decide (a.to_ ≥ 0))
    (Out.fin (AV.bool (decide (a.to_ < b.frm)))
      [(3, Blk.cells 35 [AV.int IntKind.i64 b.thread, AV.int IntKind.i64 b.op, AV.int IntKind.i64 b.frm, AV.int IntKind.i64 b.at_, AV.int IntKind.i64 b.to_]),
        (2, Blk.cells 35 [AV.int IntKind.i64 a.thread, AV.int IntKind.i64 a.op, AV.int IntKind.i64 a.frm, AV.int IntKind.i64 a.at_, AV.int IntKind.i64 a.to_])]
      4)
    (Out.fin AV.ff
      [(3, Blk.cells 35 [AV.int IntKind.i64 b.thread, AV.int IntKind.i64 b.op, AV.int IntKind.i64 b.frm, AV.int IntKind.i64 b.at_, AV.int IntKind.i64 b.to_]),
        (2, Blk.cells 35 [AV.int IntKind.i64 a.thread, AV.int IntKind.i64 a.op, AV.int IntKind.i64 a.frm, AV.int IntKind.i64 a.at_, AV.int IntKind.i64 a.to_])]
      4) := by kernel_rfl

end Sx
end Go.Proofs.Ytemcdjdglcceiaa
