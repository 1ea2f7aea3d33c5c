/-
  The laws that play steps: the runs of the machine.
-/
import Derived.Test.YtjackepkphdibaaRel
import Derived.Test.YtjackepkphdibaaEnds
namespace Go.Proofs.Ytjackepkphdibaa
namespace Sx
open Go
set_option maxRecDepth 100000
set_option linter.unusedVariables false

def hooks6 : Nat → Option (HookS V) := fun g => match g with
  | 14 => some (hookFree [.int .i64, .int .i64] runNewR)
  | 30 => some (hookObj 5 [.int .i64, .int .i64] (onR runLoadR))
  | 31 => some (hookObj 5 [.int .i64, .int .i64, .int .i64] (onR runStoreR))
  | 32 => some (hookObj 5 [.int .i64, .int .i64, .int .i64, .int .i64] (onR runSwapR))
  | 33 => some (hookObj 5 [.int .i64, .int .i64] (onR runLockR))
  | 34 => some (hookObj 5 [.int .i64, .int .i64] (onR runTryR))
  | 35 => some (hookObj 5 [.int .i64, .int .i64] (onR runUnlockR))
  | 17 => some (hookObj 5 [.int .i64] (onR runHolderR))
  | 18 => some (hookFree [.rows Kd.deed, .rows Kd.deed] runDeeds)
  | g => hooks3 g
noncomputable def fns6 : Nat → Option Func := fun g => match g with
  | 15 => some Try.f15
  | _ => none
noncomputable def cfg6 : Cfg Try.prog V := ⟨tab, kinds, fns6, hooks6, fun _ _ => none⟩

structure P4 where
  xs : List Five
  c : Nat
  hb : xs.length ≤ 200
structure X4 where
  i : Nat
  s : MC
  r : MR
def I4 (p : P4) (x : X4) : St V :=
  ⟨[(2, .sl false 2 0 5 p.xs.length p.c), (7, .tt), (8, .ptr 3 0), (9, .ptr 4 0), (10, .int .i64 (x.i : Int))], [(3, .obj (oC x.s)), (4, .obj (oR x.r)), (2, .ro Kd.five p.xs)], 5, 104, [3, 4, 5, 6, 7, 8, 9]⟩
def I6 (p : P4) (x : X4) : St V :=
  ⟨[(0, .sl false 0 0 5 p.xs.length p.c), (3, .tt), (4, .ptr 1 0), (5, .ptr 2 0), (6, .int .i64 (x.i : Int))], [(1, .obj (oC x.s)), (2, .obj (oR x.r)), (0, .ro Kd.five p.xs)], 3, 180, [1, 2, 3, 4, 5, 6, 7]⟩
theorem t15 (s : MC) (r : MR) (f : Five) : runF cfg6 40 15 Try.f15 [.ptr 0 0, .ptr 1 0, .agg (Five.lay.enc f)] [(0, .obj (oC s)), (1, .obj (oR r))] 3 =
  Out.ite (bitsOp BinOp.and IntKind.i64 f.a 7 == 0)
    (Out.need s.room
      (Out.need r.room
        (Out.ite ((s.load f.b f.c).fst == (r.load f.b f.c).fst)
          (Out.fin (AV.bool ((s.load f.b f.c).snd.fst == (r.load f.b f.c).snd.fst))
            [(3, Blk.cells 38 [AV.int IntKind.i64 f.a, AV.int IntKind.i64 f.b, AV.int IntKind.i64 f.c, AV.int IntKind.i64 f.d, AV.int IntKind.i64 f.e]),
              (0, Blk.obj (oC (s.load f.b f.c).snd.snd)), (1, Blk.obj (oR (r.load f.b f.c).snd.snd))]
            4)
          (Out.fin AV.ff
            [(3, Blk.cells 38 [AV.int IntKind.i64 f.a, AV.int IntKind.i64 f.b, AV.int IntKind.i64 f.c, AV.int IntKind.i64 f.d, AV.int IntKind.i64 f.e]),
              (0, Blk.obj (oC (s.load f.b f.c).snd.snd)), (1, Blk.obj (oR (r.load f.b f.c).snd.snd))]
            4))))
    (Out.ite (bitsOp BinOp.and IntKind.i64 f.a 7 == 1)
      (Out.need s.room
        (Out.need r.room
          (Out.fin (AV.bool ((s.store f.b f.c f.d).fst == (r.store f.b f.c f.d).fst))
            [(3, Blk.cells 38 [AV.int IntKind.i64 f.a, AV.int IntKind.i64 f.b, AV.int IntKind.i64 f.c, AV.int IntKind.i64 f.d, AV.int IntKind.i64 f.e]),
              (0, Blk.obj (oC (s.store f.b f.c f.d).snd)), (1, Blk.obj (oR (r.store f.b f.c f.d).snd))]
            4)))
      (Out.ite (bitsOp BinOp.and IntKind.i64 f.a 7 == 2)
        (Out.need s.room
          (Out.need r.room
            (Out.ite ((s.swap f.b f.c f.d f.e).fst == (r.swap f.b f.c f.d f.e).fst)
              (Out.fin (AV.bool ((s.swap f.b f.c f.d f.e).snd.fst == (r.swap f.b f.c f.d f.e).snd.fst))
                [(3, Blk.cells 38 [AV.int IntKind.i64 f.a, AV.int IntKind.i64 f.b, AV.int IntKind.i64 f.c, AV.int IntKind.i64 f.d, AV.int IntKind.i64 f.e]),
                  (0, Blk.obj (oC (s.swap f.b f.c f.d f.e).snd.snd)), (1, Blk.obj (oR (r.swap f.b f.c f.d f.e).snd.snd))]
                4)
              (Out.fin AV.ff
                [(3, Blk.cells 38 [AV.int IntKind.i64 f.a, AV.int IntKind.i64 f.b, AV.int IntKind.i64 f.c, AV.int IntKind.i64 f.d, AV.int IntKind.i64 f.e]),
                  (0, Blk.obj (oC (s.swap f.b f.c f.d f.e).snd.snd)), (1, Blk.obj (oR (r.swap f.b f.c f.d f.e).snd.snd))]
                4))))
        (Out.ite (bitsOp BinOp.and IntKind.i64 f.a 7 == 3)
          (Out.ite (bitsOp BinOp.and IntKind.i64 f.a 7 == 3)
            (Out.need s.room
              (Out.need r.room
                (Out.fin (AV.bool ((s.take f.b f.c 4).snd.fst == (r.take f.b f.c 4).snd.fst))
                  [(3, Blk.cells 38 [AV.int IntKind.i64 f.a, AV.int IntKind.i64 f.b, AV.int IntKind.i64 f.c, AV.int IntKind.i64 f.d, AV.int IntKind.i64 f.e]),
                    (0, Blk.obj (oC (s.take f.b f.c 4).snd.snd)), (1, Blk.obj (oR (r.take f.b f.c 4).snd.snd))]
                  4)))
            (Out.ite (bitsOp BinOp.and IntKind.i64 f.a 7 == 5)
              (Out.need s.room
                (Out.need r.room
                  (Out.ite ((s.take f.b f.c 5).fst == (r.take f.b f.c 5).fst)
                    (Out.fin (AV.bool ((s.take f.b f.c 5).snd.fst == (r.take f.b f.c 5).snd.fst))
                      [(3, Blk.cells 38 [AV.int IntKind.i64 f.a, AV.int IntKind.i64 f.b, AV.int IntKind.i64 f.c, AV.int IntKind.i64 f.d, AV.int IntKind.i64 f.e]),
                        (0, Blk.obj (oC (s.take f.b f.c 5).snd.snd)), (1, Blk.obj (oR (r.take f.b f.c 5).snd.snd))]
                      4)
                    (Out.fin AV.ff
                      [(3, Blk.cells 38 [AV.int IntKind.i64 f.a, AV.int IntKind.i64 f.b, AV.int IntKind.i64 f.c, AV.int IntKind.i64 f.d, AV.int IntKind.i64 f.e]),
                        (0, Blk.obj (oC (s.take f.b f.c 5).snd.snd)), (1, Blk.obj (oR (r.take f.b f.c 5).snd.snd))]
                      4))))
              (Out.need s.room
                (Out.need r.room
                  (Out.fin (AV.bool ((s.unlock f.b f.c).fst == (r.unlock f.b f.c).fst))
                    [(3, Blk.cells 38 [AV.int IntKind.i64 f.a, AV.int IntKind.i64 f.b, AV.int IntKind.i64 f.c, AV.int IntKind.i64 f.d, AV.int IntKind.i64 f.e]),
                      (0, Blk.obj (oC (s.unlock f.b f.c).snd)), (1, Blk.obj (oR (r.unlock f.b f.c).snd))]
                    4)))))
          (Out.ite (bitsOp BinOp.and IntKind.i64 f.a 7 == 4)
            (Out.need s.room
              (Out.need r.room
                (Out.fin (AV.bool ((s.take f.b f.c 4).snd.fst == (r.take f.b f.c 4).snd.fst))
                  [(3, Blk.cells 38 [AV.int IntKind.i64 f.a, AV.int IntKind.i64 f.b, AV.int IntKind.i64 f.c, AV.int IntKind.i64 f.d, AV.int IntKind.i64 f.e]),
                    (0, Blk.obj (oC (s.take f.b f.c 4).snd.snd)), (1, Blk.obj (oR (r.take f.b f.c 4).snd.snd))]
                  4)))
            (Out.ite (bitsOp BinOp.and IntKind.i64 f.a 7 == 5)
              (Out.need s.room
                (Out.need r.room
                  (Out.ite ((s.take f.b f.c 5).fst == (r.take f.b f.c 5).fst)
                    (Out.fin (AV.bool ((s.take f.b f.c 5).snd.fst == (r.take f.b f.c 5).snd.fst))
                      [(3, Blk.cells 38 [AV.int IntKind.i64 f.a, AV.int IntKind.i64 f.b, AV.int IntKind.i64 f.c, AV.int IntKind.i64 f.d, AV.int IntKind.i64 f.e]),
                        (0, Blk.obj (oC (s.take f.b f.c 5).snd.snd)), (1, Blk.obj (oR (r.take f.b f.c 5).snd.snd))]
                      4)
                    (Out.fin AV.ff
                      [(3, Blk.cells 38 [AV.int IntKind.i64 f.a, AV.int IntKind.i64 f.b, AV.int IntKind.i64 f.c, AV.int IntKind.i64 f.d, AV.int IntKind.i64 f.e]),
                        (0, Blk.obj (oC (s.take f.b f.c 5).snd.snd)), (1, Blk.obj (oR (r.take f.b f.c 5).snd.snd))]
                      4))))
              (Out.need s.room
                (Out.need r.room
                  (Out.fin (AV.bool ((s.unlock f.b f.c).fst == (r.unlock f.b f.c).fst))
                    [(3, Blk.cells 38 [AV.int IntKind.i64 f.a, AV.int IntKind.i64 f.b, AV.int IntKind.i64 f.c, AV.int IntKind.i64 f.d, AV.int IntKind.i64 f.e]),
                      (0, Blk.obj (oC (s.unlock f.b f.c).snd)), (1, Blk.obj (oR (r.unlock f.b f.c).snd))]
                    4)))))))) := by kernel_rfl

end Sx
end Go.Proofs.Ytjackepkphdibaa
