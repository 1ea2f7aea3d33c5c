/-
  The small case, and the law about the ends: the runs of the machine.
-/
import Derived.Test.YtjackepkphdibaaCells2
namespace Go.Proofs.Ytjackepkphdibaa
namespace Sx
open Go
set_option maxRecDepth 100000
set_option linter.unusedVariables false

def hooks2 : Nat → Option (HookS V) := fun g => match g with
  | 9 => some (hookFree [.int .i64, .int .i64] runNew)
  | 21 => some (hookObj 4 [.int .i64, .int .i64] (onC runLoad))
  | 22 => some (hookObj 4 [.int .i64, .int .i64, .int .i64] (onC runStore))
  | 10 => some (hookObj 4 [.int .i64, .int .i64, .int .i64, .int .i64] (onC runSwap))
  | 11 => some (hookObj 4 [.int .i64, .int .i64] (onC runLock))
  | 23 => some (hookObj 4 [.int .i64, .int .i64] (onC runTry))
  | 24 => some (hookObj 4 [.int .i64, .int .i64] (onC runUnlock))
  | 16 => some (hookObj 4 [.int .i64] (onC runHolder))
  | 13 => some (hookObj 4 [] (onC runLog))
  | 12 => some (hookObj 4 [.int .i64] (onC runHeld))
  | 19 => some (hookFree [.rows Kd.int, .rows Kd.int] runInts)
  | _ => none
noncomputable def cfg2 : Cfg Try.prog V := ⟨tab, kinds, fun _ => none, hooks2, fun _ _ => none⟩
theorem t8  : runF cfg2 60 8 Try.f8 [] [] 0 =
  Out.need (MC.mk0 2 1).room
    (Out.need ((MC.mk0 2 1).take 3 0 4).snd.snd.room
      (Out.need (((MC.mk0 2 1).take 3 0 4).snd.snd.take 4 0 4).snd.snd.room
        (Out.need ((((MC.mk0 2 1).take 3 0 4).snd.snd.take 4 0 4).snd.snd.take 4 0 5).snd.snd.room
          (Out.need (((((MC.mk0 2 1).take 3 0 4).snd.snd.take 4 0 4).snd.snd.take 4 0 5).snd.snd.unlock 3 0).snd.room
            (Out.need ((((((MC.mk0 2 1).take 3 0 4).snd.snd.take 4 0 4).snd.snd.take 4 0 5).snd.snd.unlock 3 0).snd.take 4 0 5).snd.snd.room
              (Out.need
                (((((((MC.mk0 2 1).take 3 0 4).snd.snd.take 4 0 4).snd.snd.take 4 0 5).snd.snd.unlock 3 0).snd.take 4 0 5).snd.snd.swap 1 1 0 7).snd.snd.room
                (Out.ite (0 == 0)
                  (Out.ite (6 == 6)
                    (Out.ite (!((((MC.mk0 2 1).take 3 0 4).snd.snd.take 4 0 4).snd.snd.take 4 0 5).fst)
                      (Out.ite (3 == 3)
                        (Out.ite (0 == 0)
                          (Out.ite ((((((MC.mk0 2 1).take 3 0 4).snd.snd.take 4 0 4).snd.snd.take 4 0 5).snd.snd.unlock 3 0).snd.take 4 0 5).fst
                            (Out.ite
                              (((((((MC.mk0 2 1).take 3 0 4).snd.snd.take 4 0 4).snd.snd.take 4 0 5).snd.snd.unlock 3 0).snd.take 4 0 5).snd.snd.swap 1 1 0 7).fst
                              (Out.ite (7 == 7)
                                (Out.ite (0 == 0)
                                  (Out.need
                                    ((((((((MC.mk0 2 1).take 3 0 4).snd.snd.take 4 0 4).snd.snd.take 4 0 5).snd.snd.unlock 3 0).snd.take 4 0 5).snd.snd.swap 1 1 0
                                                    7).snd.snd.load
                                            1 1).snd.snd.room
                                    (Out.all Nat fun y =>
                                      Out.ite (6 == 6)
                                        (Out.need (1 ≤ 1099511627776)
                                          (Out.all Nat fun y_1 =>
                                            Out.need (1 ≤ 1)
                                              (Out.need (1 ≤ 1099511627776)
                                                (Out.ite
                                                  (decide
                                                    (List.take 1
                                                        (List.drop 0
                                                          (((((((((MC.mk0 2 1).take 3 0 4).snd.snd.take 4 0 4).snd.snd.take 4 0 5).snd.snd.unlock 3 0).snd.take 4
                                                                                    0 5).snd.snd.swap
                                                                            1 1 0 7).snd.snd.load
                                                                    1 1).snd.snd.held
                                                            4)) =
                                                      [0]))
                                                  (Out.fin (AV.bool (-1 == -1))
                                                    [(3, Blk.cells 3 [AV.lit IntKind.i64 0]),
                                                      (2,
                                                        Blk.arr 3 Kd.int
                                                          (((((((((MC.mk0 2 1).take 3 0 4).snd.snd.take 4 0 4).snd.snd.take 4 0 5).snd.snd.unlock 3 0).snd.take 4
                                                                                    0 5).snd.snd.swap
                                                                            1 1 0 7).snd.snd.load
                                                                    1 1).snd.snd.held
                                                            4)
                                                          y_1),
                                                      (1,
                                                        Blk.arr 45 Kd.deed
                                                          ((((((((MC.mk0 2 1).take 3 0 4).snd.snd.take 4 0 4).snd.snd.take 4 0 5).snd.snd.unlock 3 0).snd.take 4 0
                                                                                  5).snd.snd.swap
                                                                          1 1 0 7).snd.snd.load
                                                                  1 1).snd.snd.log
                                                          y),
                                                      (0,
                                                        Blk.obj
                                                          (oC
                                                            ((((((((MC.mk0 2 1).take 3 0 4).snd.snd.take 4 0 4).snd.snd.take 4 0 5).snd.snd.unlock 3 0).snd.take 4
                                                                                  0 5).snd.snd.swap
                                                                          1 1 0 7).snd.snd.load
                                                                  1 1).snd.snd))]
                                                    4)
                                                  (Out.fin AV.ff
                                                    [(3, Blk.cells 3 [AV.lit IntKind.i64 0]),
                                                      (2,
                                                        Blk.arr 3 Kd.int
                                                          (((((((((MC.mk0 2 1).take 3 0 4).snd.snd.take 4 0 4).snd.snd.take 4 0 5).snd.snd.unlock 3 0).snd.take 4
                                                                                    0 5).snd.snd.swap
                                                                            1 1 0 7).snd.snd.load
                                                                    1 1).snd.snd.held
                                                            4)
                                                          y_1),
                                                      (1,
                                                        Blk.arr 45 Kd.deed
                                                          ((((((((MC.mk0 2 1).take 3 0 4).snd.snd.take 4 0 4).snd.snd.take 4 0 5).snd.snd.unlock 3 0).snd.take 4 0
                                                                                  5).snd.snd.swap
                                                                          1 1 0 7).snd.snd.load
                                                                  1 1).snd.snd.log
                                                          y),
                                                      (0,
                                                        Blk.obj
                                                          (oC
                                                            ((((((((MC.mk0 2 1).take 3 0 4).snd.snd.take 4 0 4).snd.snd.take 4 0 5).snd.snd.unlock 3 0).snd.take 4
                                                                                  0 5).snd.snd.swap
                                                                          1 1 0 7).snd.snd.load
                                                                  1 1).snd.snd))]
                                                    4)))))
                                        (Out.fin AV.ff
                                          [(1,
                                              Blk.arr 45 Kd.deed
                                                ((((((((MC.mk0 2 1).take 3 0 4).snd.snd.take 4 0 4).snd.snd.take 4 0 5).snd.snd.unlock 3 0).snd.take 4 0
                                                                        5).snd.snd.swap
                                                                1 1 0 7).snd.snd.load
                                                        1 1).snd.snd.log
                                                y),
                                            (0,
                                              Blk.obj
                                                (oC
                                                  ((((((((MC.mk0 2 1).take 3 0 4).snd.snd.take 4 0 4).snd.snd.take 4 0 5).snd.snd.unlock 3 0).snd.take 4 0
                                                                        5).snd.snd.swap
                                                                1 1 0 7).snd.snd.load
                                                        1 1).snd.snd))]
                                          2)))
                                  (Out.fin AV.ff
                                    [(0,
                                        Blk.obj
                                          (oC
                                            ((((((((MC.mk0 2 1).take 3 0 4).snd.snd.take 4 0 4).snd.snd.take 4 0 5).snd.snd.unlock 3 0).snd.take 4 0
                                                                  5).snd.snd.swap
                                                          1 1 0 7).snd.snd.load
                                                  1 1).snd.snd))]
                                    1))
                                (Out.fin AV.ff
                                  [(0,
                                      Blk.obj
                                        (oC
                                          ((((((((MC.mk0 2 1).take 3 0 4).snd.snd.take 4 0 4).snd.snd.take 4 0 5).snd.snd.unlock 3 0).snd.take 4 0 5).snd.snd.swap
                                                        1 1 0 7).snd.snd.load
                                                1 1).snd.snd))]
                                  1))
                              (Out.fin AV.ff
                                [(0,
                                    Blk.obj
                                      (oC
                                        ((((((((MC.mk0 2 1).take 3 0 4).snd.snd.take 4 0 4).snd.snd.take 4 0 5).snd.snd.unlock 3 0).snd.take 4 0 5).snd.snd.swap 1
                                                      1 0 7).snd.snd.load
                                              1 1).snd.snd))]
                                1))
                            (Out.fin AV.ff
                              [(0,
                                  Blk.obj
                                    (oC
                                      ((((((((MC.mk0 2 1).take 3 0 4).snd.snd.take 4 0 4).snd.snd.take 4 0 5).snd.snd.unlock 3 0).snd.take 4 0 5).snd.snd.swap 1 1
                                                    0 7).snd.snd.load
                                            1 1).snd.snd))]
                              1))
                          (Out.fin AV.ff
                            [(0,
                                Blk.obj
                                  (oC
                                    ((((((((MC.mk0 2 1).take 3 0 4).snd.snd.take 4 0 4).snd.snd.take 4 0 5).snd.snd.unlock 3 0).snd.take 4 0 5).snd.snd.swap 1 1 0
                                                  7).snd.snd.load
                                          1 1).snd.snd))]
                            1))
                        (Out.fin AV.ff
                          [(0,
                              Blk.obj
                                (oC
                                  ((((((((MC.mk0 2 1).take 3 0 4).snd.snd.take 4 0 4).snd.snd.take 4 0 5).snd.snd.unlock 3 0).snd.take 4 0 5).snd.snd.swap 1 1 0
                                                7).snd.snd.load
                                        1 1).snd.snd))]
                          1))
                      (Out.fin AV.ff
                        [(0,
                            Blk.obj
                              (oC
                                ((((((((MC.mk0 2 1).take 3 0 4).snd.snd.take 4 0 4).snd.snd.take 4 0 5).snd.snd.unlock 3 0).snd.take 4 0 5).snd.snd.swap 1 1 0
                                              7).snd.snd.load
                                      1 1).snd.snd))]
                        1))
                    (Out.fin AV.ff
                      [(0,
                          Blk.obj
                            (oC
                              ((((((((MC.mk0 2 1).take 3 0 4).snd.snd.take 4 0 4).snd.snd.take 4 0 5).snd.snd.unlock 3 0).snd.take 4 0 5).snd.snd.swap 1 1 0
                                            7).snd.snd.load
                                    1 1).snd.snd))]
                      1))
                  (Out.fin AV.ff
                    [(0,
                        Blk.obj
                          (oC
                            ((((((((MC.mk0 2 1).take 3 0 4).snd.snd.take 4 0 4).snd.snd.take 4 0 5).snd.snd.unlock 3 0).snd.take 4 0 5).snd.snd.swap 1 1 0
                                          7).snd.snd.load
                                  1 1).snd.snd))]
                    1)))))))) := by kernel_rfl

def runSmall : RunFree V := fun ar K => match ar with
  | [] => K .tt []
  | _ => .bad 500
def hooks3 : Nat → Option (HookS V) := fun g => match g with
  | 8 => some (hookFree [] runSmall)
  | g => hooks2 g
noncomputable def cfg3 : Cfg Try.prog V := ⟨tab, kinds, fun _ => none, hooks3, fun _ _ => none⟩
/-- A run of which only what it tells is kept. -/
noncomputable def runL (C : Cfg Try.prog V) (n g : Nat) (fn : Func) (args : List AV) (h : Heap V) (nx : Nat) : Out V :=
  match fn.body with
  | some b => runCode C n g b ⟨argsEnv 0 args, h, nx, fn.ntmps, []⟩ (fun e s' => match e with
     | .nx => resAll C.τ fn s' fun v => .fin v [] 0
     | .rt => resAll C.τ fn s' fun v => .fin v [] 0
     | .ex _ => .bad 301)
  | none => .bad 0
theorem t7 (w l t k : Int) : runL cfg3 60 7 Try.f7 [.int .i64 w, .int .i64 l, .int .i64 t, .int .i64 k] [] 0 =
  Out.ite (decide (w < 0)) (Out.fin AV.tt [] 0)
    (Out.ite (decide (l < 0)) (Out.fin AV.tt [] 0)
      (Out.ite (decide (w > 4096)) (Out.fin AV.tt [] 0)
        (Out.ite (decide (l > 4096)) (Out.fin AV.tt [] 0)
          (Out.ite (decide (k ≥ 0))
            (Out.ite (decide (k ≥ 0))
              (Out.need (MC.mk0 w l).room
                (Out.need ((MC.mk0 w l).load t k).snd.snd.room
                  (Out.need (((MC.mk0 w l).load t k).snd.snd.store t k 5).snd.room
                    (Out.need ((((MC.mk0 w l).load t k).snd.snd.store t k 5).snd.swap t k 5 6).snd.snd.room
                      (Out.need (((((MC.mk0 w l).load t k).snd.snd.store t k 5).snd.swap t k 5 6).snd.snd.take t k 4).snd.snd.room
                        (Out.need ((((((MC.mk0 w l).load t k).snd.snd.store t k 5).snd.swap t k 5 6).snd.snd.take t k 4).snd.snd.take t k 5).snd.snd.room
                          (Out.ite (decide (k < w))
                            (Out.ite (decide (k < l))
                              (Out.ite (((MC.mk0 w l).load t k).fst != 0) (Out.fin AV.ff [] 0)
                                (Out.ite (!((((MC.mk0 w l).load t k).snd.snd.store t k 5).snd.swap t k 5 6).fst == decide (k < w)) (Out.fin AV.ff [] 0)
                                  (Out.ite ((((MC.mk0 w l).load t k).snd.fst == 1) == decide (k < w)) (Out.fin AV.ff [] 0)
                                    (Out.ite (((((MC.mk0 w l).load t k).snd.snd.store t k 5).fst == 1) == decide (k < w)) (Out.fin AV.ff [] 0)
                                      (Out.ite ((((((MC.mk0 w l).load t k).snd.snd.store t k 5).snd.swap t k 5 6).snd.fst == 1) == decide (k < w))
                                        (Out.fin AV.ff [] 0)
                                        (Out.ite
                                          (((((((MC.mk0 w l).load t k).snd.snd.store t k 5).snd.swap t k 5 6).snd.snd.take t k 4).snd.fst == 1) == decide (k < l))
                                          (Out.fin AV.ff [] 0)
                                          (Out.ite
                                            (((((((((MC.mk0 w l).load t k).snd.snd.store t k 5).snd.swap t k 5 6).snd.snd.take t k 4).snd.snd.take t k
                                                            5).snd.snd.unlock
                                                    t k).fst ==
                                                1) ==
                                              decide (k < l))
                                            (Out.fin AV.ff [] 0)
                                            (Out.ite (decide (k < l))
                                              (Out.ite
                                                (((((((MC.mk0 w l).load t k).snd.snd.store t k 5).snd.swap t k 5 6).snd.snd.take t k 4).snd.snd.take t k
                                                        5).snd.fst !=
                                                  5)
                                                (Out.fin AV.ff [] 0)
                                                (Out.ite
                                                  (((((((MC.mk0 w l).load t k).snd.snd.store t k 5).snd.swap t k 5 6).snd.snd.take t k 4).snd.snd.take t k
                                                              5).snd.snd.holder
                                                      k !=
                                                    t)
                                                  (Out.fin AV.ff [] 0)
                                                  (Out.ite (!decide (k < l))
                                                    (Out.ite
                                                      (((((((MC.mk0 w l).load t k).snd.snd.store t k 5).snd.swap t k 5 6).snd.snd.take t k 4).snd.snd.take t k
                                                              5).snd.fst !=
                                                        1)
                                                      (Out.fin AV.ff [] 0)
                                                      (Out.ite
                                                        (((((((MC.mk0 w l).load t k).snd.snd.store t k 5).snd.swap t k 5 6).snd.snd.take t k 4).snd.snd.take t k
                                                                    5).snd.snd.holder
                                                            k !=
                                                          -1)
                                                        (Out.fin AV.ff [] 0)
                                                        (Out.need
                                                          (((((((MC.mk0 w l).load t k).snd.snd.store t k 5).snd.swap t k 5 6).snd.snd.take t k 4).snd.snd.take t k
                                                                        5).snd.snd.unlock
                                                                t k).snd.room
                                                          (Out.all Nat fun y =>
                                                            Out.ite
                                                              ((↑(((((((MC.mk0 w l).load t k).snd.snd.store t k 5).snd.swap t k 5 6).snd.snd.take t k
                                                                                            4).snd.snd.take
                                                                                    t k 5).snd.snd.unlock
                                                                            t k).snd.log.length :
                                                                  Int) ==
                                                                5)
                                                              (Out.need
                                                                ((((((((MC.mk0 w l).load t k).snd.snd.store t k 5).snd.swap t k 5 6).snd.snd.take t k
                                                                                          4).snd.snd.take
                                                                                  t k 5).snd.snd.unlock
                                                                          t k).snd.locks.length ≤
                                                                  1099511627776)
                                                                (Out.all Nat fun y =>
                                                                  Out.fin
                                                                    (AV.bool
                                                                      ((↑((((((((MC.mk0 w l).load t k).snd.snd.store t k 5).snd.swap t k 5 6).snd.snd.take t k
                                                                                                      4).snd.snd.take
                                                                                              t k 5).snd.snd.unlock
                                                                                      t k).snd.held
                                                                                t).length :
                                                                          Int) ==
                                                                        0))
                                                                    [] 0))
                                                              (Out.fin AV.ff [] 0)))))
                                                    (Out.need
                                                      (((((((MC.mk0 w l).load t k).snd.snd.store t k 5).snd.swap t k 5 6).snd.snd.take t k 4).snd.snd.take t k
                                                                    5).snd.snd.unlock
                                                            t k).snd.room
                                                      (Out.all Nat fun y =>
                                                        Out.ite
                                                          ((↑(((((((MC.mk0 w l).load t k).snd.snd.store t k 5).snd.swap t k 5 6).snd.snd.take t k 4).snd.snd.take
                                                                                t k 5).snd.snd.unlock
                                                                        t k).snd.log.length :
                                                              Int) ==
                                                            5)
                                                          (Out.need
                                                            ((((((((MC.mk0 w l).load t k).snd.snd.store t k 5).snd.swap t k 5 6).snd.snd.take t k 4).snd.snd.take
                                                                              t k 5).snd.snd.unlock
                                                                      t k).snd.locks.length ≤
                                                              1099511627776)
                                                            (Out.all Nat fun y =>
                                                              Out.fin
                                                                (AV.bool
                                                                  ((↑((((((((MC.mk0 w l).load t k).snd.snd.store t k 5).snd.swap t k 5 6).snd.snd.take t k
                                                                                                  4).snd.snd.take
                                                                                          t k 5).snd.snd.unlock
                                                                                  t k).snd.held
                                                                            t).length :
                                                                      Int) ==
                                                                    0))
                                                                [] 0))
                                                          (Out.fin AV.ff [] 0))))))
                                              (Out.ite (!decide (k < l))
                                                (Out.ite
                                                  (((((((MC.mk0 w l).load t k).snd.snd.store t k 5).snd.swap t k 5 6).snd.snd.take t k 4).snd.snd.take t k
                                                          5).snd.fst !=
                                                    1)
                                                  (Out.fin AV.ff [] 0)
                                                  (Out.ite
                                                    (((((((MC.mk0 w l).load t k).snd.snd.store t k 5).snd.swap t k 5 6).snd.snd.take t k 4).snd.snd.take t k
                                                                5).snd.snd.holder
                                                        k !=
                                                      -1)
                                                    (Out.fin AV.ff [] 0)
                                                    (Out.need
                                                      (((((((MC.mk0 w l).load t k).snd.snd.store t k 5).snd.swap t k 5 6).snd.snd.take t k 4).snd.snd.take t k
                                                                    5).snd.snd.unlock
                                                            t k).snd.room
                                                      (Out.all Nat fun y =>
                                                        Out.ite
                                                          ((↑(((((((MC.mk0 w l).load t k).snd.snd.store t k 5).snd.swap t k 5 6).snd.snd.take t k 4).snd.snd.take
                                                                                t k 5).snd.snd.unlock
                                                                        t k).snd.log.length :
                                                              Int) ==
                                                            5)
                                                          (Out.need
                                                            ((((((((MC.mk0 w l).load t k).snd.snd.store t k 5).snd.swap t k 5 6).snd.snd.take t k 4).snd.snd.take
                                                                              t k 5).snd.snd.unlock
                                                                      t k).snd.locks.length ≤
                                                              1099511627776)
                                                            (Out.all Nat fun y =>
                                                              Out.fin
                                                                (AV.bool
                                                                  ((↑((((((((MC.mk0 w l).load t k).snd.snd.store t k 5).snd.swap t k 5 6).snd.snd.take t k
                                                                                                  4).snd.snd.take
                                                                                          t k 5).snd.snd.unlock
                                                                                  t k).snd.held
                                                                            t).length :
                                                                      Int) ==
                                                                    0))
                                                                [] 0))
                                                          (Out.fin AV.ff [] 0)))))
                                                (Out.need
                                                  (((((((MC.mk0 w l).load t k).snd.snd.store t k 5).snd.swap t k 5 6).snd.snd.take t k 4).snd.snd.take t k
                                                                5).snd.snd.unlock
                                                        t k).snd.room
                                                  (Out.all Nat fun y =>
                                                    Out.ite
                                                      ((↑(((((((MC.mk0 w l).load t k).snd.snd.store t k 5).snd.swap t k 5 6).snd.snd.take t k 4).snd.snd.take t k
                                                                            5).snd.snd.unlock
                                                                    t k).snd.log.length :
                                                          Int) ==
                                                        5)
                                                      (Out.need
                                                        ((((((((MC.mk0 w l).load t k).snd.snd.store t k 5).snd.swap t k 5 6).snd.snd.take t k 4).snd.snd.take t k
                                                                          5).snd.snd.unlock
                                                                  t k).snd.locks.length ≤
                                                          1099511627776)
                                                        (Out.all Nat fun y =>
                                                          Out.fin
                                                            (AV.bool
                                                              ((↑((((((((MC.mk0 w l).load t k).snd.snd.store t k 5).snd.swap t k 5 6).snd.snd.take t k
                                                                                              4).snd.snd.take
                                                                                      t k 5).snd.snd.unlock
                                                                              t k).snd.held
                                                                        t).length :
                                                                  Int) ==
                                                                0))
                                                            [] 0))
                                                      (Out.fin AV.ff [] 0))))))))))))
                              (Out.ite (((MC.mk0 w l).load t k).fst != 0) (Out.fin AV.ff [] 0)
                                (Out.ite (!((((MC.mk0 w l).load t k).snd.snd.store t k 5).snd.swap t k 5 6).fst == decide (k < w)) (Out.fin AV.ff [] 0)
                                  (Out.ite ((((MC.mk0 w l).load t k).snd.fst == 1) == decide (k < w)) (Out.fin AV.ff [] 0)
                                    (Out.ite (((((MC.mk0 w l).load t k).snd.snd.store t k 5).fst == 1) == decide (k < w)) (Out.fin AV.ff [] 0)
                                      (Out.ite ((((((MC.mk0 w l).load t k).snd.snd.store t k 5).snd.swap t k 5 6).snd.fst == 1) == decide (k < w))
                                        (Out.fin AV.ff [] 0)
                                        (Out.ite
                                          (((((((MC.mk0 w l).load t k).snd.snd.store t k 5).snd.swap t k 5 6).snd.snd.take t k 4).snd.fst == 1) == decide (k < l))
                                          (Out.fin AV.ff [] 0)
                                          (Out.ite
                                            (((((((((MC.mk0 w l).load t k).snd.snd.store t k 5).snd.swap t k 5 6).snd.snd.take t k 4).snd.snd.take t k
                                                            5).snd.snd.unlock
                                                    t k).fst ==
                                                1) ==
                                              decide (k < l))
                                            (Out.fin AV.ff [] 0)
                                            (Out.ite (decide (k < l))
                                              (Out.ite
                                                (((((((MC.mk0 w l).load t k).snd.snd.store t k 5).snd.swap t k 5 6).snd.snd.take t k 4).snd.snd.take t k
                                                        5).snd.fst !=
                                                  5)
                                                (Out.fin AV.ff [] 0)
                                                (Out.ite
                                                  (((((((MC.mk0 w l).load t k).snd.snd.store t k 5).snd.swap t k 5 6).snd.snd.take t k 4).snd.snd.take t k
                                                              5).snd.snd.holder
                                                      k !=
                                                    t)
                                                  (Out.fin AV.ff [] 0)
                                                  (Out.ite (!decide (k < l))
                                                    (Out.ite
                                                      (((((((MC.mk0 w l).load t k).snd.snd.store t k 5).snd.swap t k 5 6).snd.snd.take t k 4).snd.snd.take t k
                                                              5).snd.fst !=
                                                        1)
                                                      (Out.fin AV.ff [] 0)
                                                      (Out.ite
                                                        (((((((MC.mk0 w l).load t k).snd.snd.store t k 5).snd.swap t k 5 6).snd.snd.take t k 4).snd.snd.take t k
                                                                    5).snd.snd.holder
                                                            k !=
                                                          -1)
                                                        (Out.fin AV.ff [] 0)
                                                        (Out.need
                                                          (((((((MC.mk0 w l).load t k).snd.snd.store t k 5).snd.swap t k 5 6).snd.snd.take t k 4).snd.snd.take t k
                                                                        5).snd.snd.unlock
                                                                t k).snd.room
                                                          (Out.all Nat fun y =>
                                                            Out.ite
                                                              ((↑(((((((MC.mk0 w l).load t k).snd.snd.store t k 5).snd.swap t k 5 6).snd.snd.take t k
                                                                                            4).snd.snd.take
                                                                                    t k 5).snd.snd.unlock
                                                                            t k).snd.log.length :
                                                                  Int) ==
                                                                3)
                                                              (Out.need
                                                                ((((((((MC.mk0 w l).load t k).snd.snd.store t k 5).snd.swap t k 5 6).snd.snd.take t k
                                                                                          4).snd.snd.take
                                                                                  t k 5).snd.snd.unlock
                                                                          t k).snd.locks.length ≤
                                                                  1099511627776)
                                                                (Out.all Nat fun y =>
                                                                  Out.fin
                                                                    (AV.bool
                                                                      ((↑((((((((MC.mk0 w l).load t k).snd.snd.store t k 5).snd.swap t k 5 6).snd.snd.take t k
                                                                                                      4).snd.snd.take
                                                                                              t k 5).snd.snd.unlock
                                                                                      t k).snd.held
                                                                                t).length :
                                                                          Int) ==
                                                                        0))
                                                                    [] 0))
                                                              (Out.fin AV.ff [] 0)))))
                                                    (Out.need
                                                      (((((((MC.mk0 w l).load t k).snd.snd.store t k 5).snd.swap t k 5 6).snd.snd.take t k 4).snd.snd.take t k
                                                                    5).snd.snd.unlock
                                                            t k).snd.room
                                                      (Out.all Nat fun y =>
                                                        Out.ite
                                                          ((↑(((((((MC.mk0 w l).load t k).snd.snd.store t k 5).snd.swap t k 5 6).snd.snd.take t k 4).snd.snd.take
                                                                                t k 5).snd.snd.unlock
                                                                        t k).snd.log.length :
                                                              Int) ==
                                                            3)
                                                          (Out.need
                                                            ((((((((MC.mk0 w l).load t k).snd.snd.store t k 5).snd.swap t k 5 6).snd.snd.take t k 4).snd.snd.take
                                                                              t k 5).snd.snd.unlock
                                                                      t k).snd.locks.length ≤
                                                              1099511627776)
                                                            (Out.all Nat fun y =>
                                                              Out.fin
                                                                (AV.bool
                                                                  ((↑((((((((MC.mk0 w l).load t k).snd.snd.store t k 5).snd.swap t k 5 6).snd.snd.take t k
                                                                                                  4).snd.snd.take
                                                                                          t k 5).snd.snd.unlock
                                                                                  t k).snd.held
                                                                            t).length :
                                                                      Int) ==
                                                                    0))
                                                                [] 0))
                                                          (Out.fin AV.ff [] 0))))))
                                              (Out.ite (!decide (k < l))
                                                (Out.ite
                                                  (((((((MC.mk0 w l).load t k).snd.snd.store t k 5).snd.swap t k 5 6).snd.snd.take t k 4).snd.snd.take t k
                                                          5).snd.fst !=
                                                    1)
                                                  (Out.fin AV.ff [] 0)
                                                  (Out.ite
                                                    (((((((MC.mk0 w l).load t k).snd.snd.store t k 5).snd.swap t k 5 6).snd.snd.take t k 4).snd.snd.take t k
                                                                5).snd.snd.holder
                                                        k !=
                                                      -1)
                                                    (Out.fin AV.ff [] 0)
                                                    (Out.need
                                                      (((((((MC.mk0 w l).load t k).snd.snd.store t k 5).snd.swap t k 5 6).snd.snd.take t k 4).snd.snd.take t k
                                                                    5).snd.snd.unlock
                                                            t k).snd.room
                                                      (Out.all Nat fun y =>
                                                        Out.ite
                                                          ((↑(((((((MC.mk0 w l).load t k).snd.snd.store t k 5).snd.swap t k 5 6).snd.snd.take t k 4).snd.snd.take
                                                                                t k 5).snd.snd.unlock
                                                                        t k).snd.log.length :
                                                              Int) ==
                                                            3)
                                                          (Out.need
                                                            ((((((((MC.mk0 w l).load t k).snd.snd.store t k 5).snd.swap t k 5 6).snd.snd.take t k 4).snd.snd.take
                                                                              t k 5).snd.snd.unlock
                                                                      t k).snd.locks.length ≤
                                                              1099511627776)
                                                            (Out.all Nat fun y =>
                                                              Out.fin
                                                                (AV.bool
                                                                  ((↑((((((((MC.mk0 w l).load t k).snd.snd.store t k 5).snd.swap t k 5 6).snd.snd.take t k
                                                                                                  4).snd.snd.take
                                                                                          t k 5).snd.snd.unlock
                                                                                  t k).snd.held
                                                                            t).length :
                                                                      Int) ==
                                                                    0))
                                                                [] 0))
                                                          (Out.fin AV.ff [] 0)))))
                                                (Out.need
                                                  (((((((MC.mk0 w l).load t k).snd.snd.store t k 5).snd.swap t k 5 6).snd.snd.take t k 4).snd.snd.take t k
                                                                5).snd.snd.unlock
                                                        t k).snd.room
                                                  (Out.all Nat fun y =>
                                                    Out.ite
                                                      ((↑(((((((MC.mk0 w l).load t k).snd.snd.store t k 5).snd.swap t k 5 6).snd.snd.take t k 4).snd.snd.take t k
                                                                            5).snd.snd.unlock
                                                                    t k).snd.log.length :
                                                          Int) ==
                                                        3)
                                                      (Out.need
                                                        ((((((((MC.mk0 w l).load t k).snd.snd.store t k 5).snd.swap t k 5 6).snd.snd.take t k 4).snd.snd.take t k
                                                                          5).snd.snd.unlock
                                                                  t k).snd.locks.length ≤
                                                          1099511627776)
                                                        (Out.all Nat fun y =>
                                                          Out.fin
                                                            (AV.bool
                                                              ((↑((((((((MC.mk0 w l).load t k).snd.snd.store t k 5).snd.swap t k 5 6).snd.snd.take t k
                                                                                              4).snd.snd.take
                                                                                      t k 5).snd.snd.unlock
                                                                              t k).snd.held
                                                                        t).length :
                                                                  Int) ==
                                                                0))
                                                            [] 0))
                                                      (Out.fin AV.ff [] 0)))))))))))))
                            (Out.ite (decide (k < l))
                              (Out.ite (((MC.mk0 w l).load t k).fst != 0) (Out.fin AV.ff [] 0)
                                (Out.ite (!((((MC.mk0 w l).load t k).snd.snd.store t k 5).snd.swap t k 5 6).fst == decide (k < w)) (Out.fin AV.ff [] 0)
                                  (Out.ite ((((MC.mk0 w l).load t k).snd.fst == 1) == decide (k < w)) (Out.fin AV.ff [] 0)
                                    (Out.ite (((((MC.mk0 w l).load t k).snd.snd.store t k 5).fst == 1) == decide (k < w)) (Out.fin AV.ff [] 0)
                                      (Out.ite ((((((MC.mk0 w l).load t k).snd.snd.store t k 5).snd.swap t k 5 6).snd.fst == 1) == decide (k < w))
                                        (Out.fin AV.ff [] 0)
                                        (Out.ite
                                          (((((((MC.mk0 w l).load t k).snd.snd.store t k 5).snd.swap t k 5 6).snd.snd.take t k 4).snd.fst == 1) == decide (k < l))
                                          (Out.fin AV.ff [] 0)
                                          (Out.ite
                                            (((((((((MC.mk0 w l).load t k).snd.snd.store t k 5).snd.swap t k 5 6).snd.snd.take t k 4).snd.snd.take t k
                                                            5).snd.snd.unlock
                                                    t k).fst ==
                                                1) ==
                                              decide (k < l))
                                            (Out.fin AV.ff [] 0)
                                            (Out.ite (decide (k < l))
                                              (Out.ite
                                                (((((((MC.mk0 w l).load t k).snd.snd.store t k 5).snd.swap t k 5 6).snd.snd.take t k 4).snd.snd.take t k
                                                        5).snd.fst !=
                                                  5)
                                                (Out.fin AV.ff [] 0)
                                                (Out.ite
                                                  (((((((MC.mk0 w l).load t k).snd.snd.store t k 5).snd.swap t k 5 6).snd.snd.take t k 4).snd.snd.take t k
                                                              5).snd.snd.holder
                                                      k !=
                                                    t)
                                                  (Out.fin AV.ff [] 0)
                                                  (Out.ite (!decide (k < l))
                                                    (Out.ite
                                                      (((((((MC.mk0 w l).load t k).snd.snd.store t k 5).snd.swap t k 5 6).snd.snd.take t k 4).snd.snd.take t k
                                                              5).snd.fst !=
                                                        1)
                                                      (Out.fin AV.ff [] 0)
                                                      (Out.ite
                                                        (((((((MC.mk0 w l).load t k).snd.snd.store t k 5).snd.swap t k 5 6).snd.snd.take t k 4).snd.snd.take t k
                                                                    5).snd.snd.holder
                                                            k !=
                                                          -1)
                                                        (Out.fin AV.ff [] 0)
                                                        (Out.need
                                                          (((((((MC.mk0 w l).load t k).snd.snd.store t k 5).snd.swap t k 5 6).snd.snd.take t k 4).snd.snd.take t k
                                                                        5).snd.snd.unlock
                                                                t k).snd.room
                                                          (Out.all Nat fun y =>
                                                            Out.ite
                                                              ((↑(((((((MC.mk0 w l).load t k).snd.snd.store t k 5).snd.swap t k 5 6).snd.snd.take t k
                                                                                            4).snd.snd.take
                                                                                    t k 5).snd.snd.unlock
                                                                            t k).snd.log.length :
                                                                  Int) ==
                                                                2)
                                                              (Out.need
                                                                ((((((((MC.mk0 w l).load t k).snd.snd.store t k 5).snd.swap t k 5 6).snd.snd.take t k
                                                                                          4).snd.snd.take
                                                                                  t k 5).snd.snd.unlock
                                                                          t k).snd.locks.length ≤
                                                                  1099511627776)
                                                                (Out.all Nat fun y =>
                                                                  Out.fin
                                                                    (AV.bool
                                                                      ((↑((((((((MC.mk0 w l).load t k).snd.snd.store t k 5).snd.swap t k 5 6).snd.snd.take t k
                                                                                                      4).snd.snd.take
                                                                                              t k 5).snd.snd.unlock
                                                                                      t k).snd.held
                                                                                t).length :
                                                                          Int) ==
                                                                        0))
                                                                    [] 0))
                                                              (Out.fin AV.ff [] 0)))))
                                                    (Out.need
                                                      (((((((MC.mk0 w l).load t k).snd.snd.store t k 5).snd.swap t k 5 6).snd.snd.take t k 4).snd.snd.take t k
                                                                    5).snd.snd.unlock
                                                            t k).snd.room
                                                      (Out.all Nat fun y =>
                                                        Out.ite
                                                          ((↑(((((((MC.mk0 w l).load t k).snd.snd.store t k 5).snd.swap t k 5 6).snd.snd.take t k 4).snd.snd.take
                                                                                t k 5).snd.snd.unlock
                                                                        t k).snd.log.length :
                                                              Int) ==
                                                            2)
                                                          (Out.need
                                                            ((((((((MC.mk0 w l).load t k).snd.snd.store t k 5).snd.swap t k 5 6).snd.snd.take t k 4).snd.snd.take
                                                                              t k 5).snd.snd.unlock
                                                                      t k).snd.locks.length ≤
                                                              1099511627776)
                                                            (Out.all Nat fun y =>
                                                              Out.fin
                                                                (AV.bool
                                                                  ((↑((((((((MC.mk0 w l).load t k).snd.snd.store t k 5).snd.swap t k 5 6).snd.snd.take t k
                                                                                                  4).snd.snd.take
                                                                                          t k 5).snd.snd.unlock
                                                                                  t k).snd.held
                                                                            t).length :
                                                                      Int) ==
                                                                    0))
                                                                [] 0))
                                                          (Out.fin AV.ff [] 0))))))
                                              (Out.ite (!decide (k < l))
                                                (Out.ite
                                                  (((((((MC.mk0 w l).load t k).snd.snd.store t k 5).snd.swap t k 5 6).snd.snd.take t k 4).snd.snd.take t k
                                                          5).snd.fst !=
                                                    1)
                                                  (Out.fin AV.ff [] 0)
                                                  (Out.ite
                                                    (((((((MC.mk0 w l).load t k).snd.snd.store t k 5).snd.swap t k 5 6).snd.snd.take t k 4).snd.snd.take t k
                                                                5).snd.snd.holder
                                                        k !=
                                                      -1)
                                                    (Out.fin AV.ff [] 0)
                                                    (Out.need
                                                      (((((((MC.mk0 w l).load t k).snd.snd.store t k 5).snd.swap t k 5 6).snd.snd.take t k 4).snd.snd.take t k
                                                                    5).snd.snd.unlock
                                                            t k).snd.room
                                                      (Out.all Nat fun y =>
                                                        Out.ite
                                                          ((↑(((((((MC.mk0 w l).load t k).snd.snd.store t k 5).snd.swap t k 5 6).snd.snd.take t k 4).snd.snd.take
                                                                                t k 5).snd.snd.unlock
                                                                        t k).snd.log.length :
                                                              Int) ==
                                                            2)
                                                          (Out.need
                                                            ((((((((MC.mk0 w l).load t k).snd.snd.store t k 5).snd.swap t k 5 6).snd.snd.take t k 4).snd.snd.take
                                                                              t k 5).snd.snd.unlock
                                                                      t k).snd.locks.length ≤
                                                              1099511627776)
                                                            (Out.all Nat fun y =>
                                                              Out.fin
                                                                (AV.bool
                                                                  ((↑((((((((MC.mk0 w l).load t k).snd.snd.store t k 5).snd.swap t k 5 6).snd.snd.take t k
                                                                                                  4).snd.snd.take
                                                                                          t k 5).snd.snd.unlock
                                                                                  t k).snd.held
                                                                            t).length :
                                                                      Int) ==
                                                                    0))
                                                                [] 0))
                                                          (Out.fin AV.ff [] 0)))))
                                                (Out.need
                                                  (((((((MC.mk0 w l).load t k).snd.snd.store t k 5).snd.swap t k 5 6).snd.snd.take t k 4).snd.snd.take t k
                                                                5).snd.snd.unlock
                                                        t k).snd.room
                                                  (Out.all Nat fun y =>
                                                    Out.ite
                                                      ((↑(((((((MC.mk0 w l).load t k).snd.snd.store t k 5).snd.swap t k 5 6).snd.snd.take t k 4).snd.snd.take t k
                                                                            5).snd.snd.unlock
                                                                    t k).snd.log.length :
                                                          Int) ==
                                                        2)
                                                      (Out.need
                                                        ((((((((MC.mk0 w l).load t k).snd.snd.store t k 5).snd.swap t k 5 6).snd.snd.take t k 4).snd.snd.take t k
                                                                          5).snd.snd.unlock
                                                                  t k).snd.locks.length ≤
                                                          1099511627776)
                                                        (Out.all Nat fun y =>
                                                          Out.fin
                                                            (AV.bool
                                                              ((↑((((((((MC.mk0 w l).load t k).snd.snd.store t k 5).snd.swap t k 5 6).snd.snd.take t k
                                                                                              4).snd.snd.take
                                                                                      t k 5).snd.snd.unlock
                                                                              t k).snd.held
                                                                        t).length :
                                                                  Int) ==
                                                                0))
                                                            [] 0))
                                                      (Out.fin AV.ff [] 0))))))))))))
                              (Out.ite (((MC.mk0 w l).load t k).fst != 0) (Out.fin AV.ff [] 0)
                                (Out.ite (!((((MC.mk0 w l).load t k).snd.snd.store t k 5).snd.swap t k 5 6).fst == decide (k < w)) (Out.fin AV.ff [] 0)
                                  (Out.ite ((((MC.mk0 w l).load t k).snd.fst == 1) == decide (k < w)) (Out.fin AV.ff [] 0)
                                    (Out.ite (((((MC.mk0 w l).load t k).snd.snd.store t k 5).fst == 1) == decide (k < w)) (Out.fin AV.ff [] 0)
                                      (Out.ite ((((((MC.mk0 w l).load t k).snd.snd.store t k 5).snd.swap t k 5 6).snd.fst == 1) == decide (k < w))
                                        (Out.fin AV.ff [] 0)
                                        (Out.ite
                                          (((((((MC.mk0 w l).load t k).snd.snd.store t k 5).snd.swap t k 5 6).snd.snd.take t k 4).snd.fst == 1) == decide (k < l))
                                          (Out.fin AV.ff [] 0)
                                          (Out.ite
                                            (((((((((MC.mk0 w l).load t k).snd.snd.store t k 5).snd.swap t k 5 6).snd.snd.take t k 4).snd.snd.take t k
                                                            5).snd.snd.unlock
                                                    t k).fst ==
                                                1) ==
                                              decide (k < l))
                                            (Out.fin AV.ff [] 0)
                                            (Out.ite (decide (k < l))
                                              (Out.ite
                                                (((((((MC.mk0 w l).load t k).snd.snd.store t k 5).snd.swap t k 5 6).snd.snd.take t k 4).snd.snd.take t k
                                                        5).snd.fst !=
                                                  5)
                                                (Out.fin AV.ff [] 0)
                                                (Out.ite
                                                  (((((((MC.mk0 w l).load t k).snd.snd.store t k 5).snd.swap t k 5 6).snd.snd.take t k 4).snd.snd.take t k
                                                              5).snd.snd.holder
                                                      k !=
                                                    t)
                                                  (Out.fin AV.ff [] 0)
                                                  (Out.ite (!decide (k < l))
                                                    (Out.ite
                                                      (((((((MC.mk0 w l).load t k).snd.snd.store t k 5).snd.swap t k 5 6).snd.snd.take t k 4).snd.snd.take t k
                                                              5).snd.fst !=
                                                        1)
                                                      (Out.fin AV.ff [] 0)
                                                      (Out.ite
                                                        (((((((MC.mk0 w l).load t k).snd.snd.store t k 5).snd.swap t k 5 6).snd.snd.take t k 4).snd.snd.take t k
                                                                    5).snd.snd.holder
                                                            k !=
                                                          -1)
                                                        (Out.fin AV.ff [] 0)
                                                        (Out.need
                                                          (((((((MC.mk0 w l).load t k).snd.snd.store t k 5).snd.swap t k 5 6).snd.snd.take t k 4).snd.snd.take t k
                                                                        5).snd.snd.unlock
                                                                t k).snd.room
                                                          (Out.all Nat fun y =>
                                                            Out.ite
                                                              ((↑(((((((MC.mk0 w l).load t k).snd.snd.store t k 5).snd.swap t k 5 6).snd.snd.take t k
                                                                                            4).snd.snd.take
                                                                                    t k 5).snd.snd.unlock
                                                                            t k).snd.log.length :
                                                                  Int) ==
                                                                0)
                                                              (Out.need
                                                                ((((((((MC.mk0 w l).load t k).snd.snd.store t k 5).snd.swap t k 5 6).snd.snd.take t k
                                                                                          4).snd.snd.take
                                                                                  t k 5).snd.snd.unlock
                                                                          t k).snd.locks.length ≤
                                                                  1099511627776)
                                                                (Out.all Nat fun y =>
                                                                  Out.fin
                                                                    (AV.bool
                                                                      ((↑((((((((MC.mk0 w l).load t k).snd.snd.store t k 5).snd.swap t k 5 6).snd.snd.take t k
                                                                                                      4).snd.snd.take
                                                                                              t k 5).snd.snd.unlock
                                                                                      t k).snd.held
                                                                                t).length :
                                                                          Int) ==
                                                                        0))
                                                                    [] 0))
                                                              (Out.fin AV.ff [] 0)))))
                                                    (Out.need
                                                      (((((((MC.mk0 w l).load t k).snd.snd.store t k 5).snd.swap t k 5 6).snd.snd.take t k 4).snd.snd.take t k
                                                                    5).snd.snd.unlock
                                                            t k).snd.room
                                                      (Out.all Nat fun y =>
                                                        Out.ite
                                                          ((↑(((((((MC.mk0 w l).load t k).snd.snd.store t k 5).snd.swap t k 5 6).snd.snd.take t k 4).snd.snd.take
                                                                                t k 5).snd.snd.unlock
                                                                        t k).snd.log.length :
                                                              Int) ==
                                                            0)
                                                          (Out.need
                                                            ((((((((MC.mk0 w l).load t k).snd.snd.store t k 5).snd.swap t k 5 6).snd.snd.take t k 4).snd.snd.take
                                                                              t k 5).snd.snd.unlock
                                                                      t k).snd.locks.length ≤
                                                              1099511627776)
                                                            (Out.all Nat fun y =>
                                                              Out.fin
                                                                (AV.bool
                                                                  ((↑((((((((MC.mk0 w l).load t k).snd.snd.store t k 5).snd.swap t k 5 6).snd.snd.take t k
                                                                                                  4).snd.snd.take
                                                                                          t k 5).snd.snd.unlock
                                                                                  t k).snd.held
                                                                            t).length :
                                                                      Int) ==
                                                                    0))
                                                                [] 0))
                                                          (Out.fin AV.ff [] 0))))))
                                              (Out.ite (!decide (k < l))
                                                (Out.ite
                                                  (((((((MC.mk0 w l).load t k).snd.snd.store t k 5).snd.swap t k 5 6).snd.snd.take t k 4).snd.snd.take t k
                                                          5).snd.fst !=
                                                    1)
                                                  (Out.fin AV.ff [] 0)
                                                  (Out.ite
                                                    (((((((MC.mk0 w l).load t k).snd.snd.store t k 5).snd.swap t k 5 6).snd.snd.take t k 4).snd.snd.take t k
                                                                5).snd.snd.holder
                                                        k !=
                                                      -1)
                                                    (Out.fin AV.ff [] 0)
                                                    (Out.need
                                                      (((((((MC.mk0 w l).load t k).snd.snd.store t k 5).snd.swap t k 5 6).snd.snd.take t k 4).snd.snd.take t k
                                                                    5).snd.snd.unlock
                                                            t k).snd.room
                                                      (Out.all Nat fun y =>
                                                        Out.ite
                                                          ((↑(((((((MC.mk0 w l).load t k).snd.snd.store t k 5).snd.swap t k 5 6).snd.snd.take t k 4).snd.snd.take
                                                                                t k 5).snd.snd.unlock
                                                                        t k).snd.log.length :
                                                              Int) ==
                                                            0)
                                                          (Out.need
                                                            ((((((((MC.mk0 w l).load t k).snd.snd.store t k 5).snd.swap t k 5 6).snd.snd.take t k 4).snd.snd.take
                                                                              t k 5).snd.snd.unlock
                                                                      t k).snd.locks.length ≤
                                                              1099511627776)
                                                            (Out.all Nat fun y =>
                                                              Out.fin
                                                                (AV.bool
                                                                  ((↑((((((((MC.mk0 w l).load t k).snd.snd.store t k 5).snd.swap t k 5 6).snd.snd.take t k
                                                                                                  4).snd.snd.take
                                                                                          t k 5).snd.snd.unlock
                                                                                  t k).snd.held
                                                                            t).length :
                                                                      Int) ==
                                                                    0))
                                                                [] 0))
                                                          (Out.fin AV.ff [] 0)))))
                                                (Out.need
                                                  (((((((MC.mk0 w l).load t k).snd.snd.store t k 5).snd.swap t k 5 6).snd.snd.take t k 4).snd.snd.take t k
                                                                5).snd.snd.unlock
                                                        t k).snd.room
                                                  (Out.all Nat fun y =>
                                                    Out.ite
                                                      ((↑(((((((MC.mk0 w l).load t k).snd.snd.store t k 5).snd.swap t k 5 6).snd.snd.take t k 4).snd.snd.take t k
                                                                            5).snd.snd.unlock
                                                                    t k).snd.log.length :
                                                          Int) ==
                                                        0)
                                                      (Out.need
                                                        ((((((((MC.mk0 w l).load t k).snd.snd.store t k 5).snd.swap t k 5 6).snd.snd.take t k 4).snd.snd.take t k
                                                                          5).snd.snd.unlock
                                                                  t k).snd.locks.length ≤
                                                          1099511627776)
                                                        (Out.all Nat fun y =>
                                                          Out.fin
                                                            (AV.bool
                                                              ((↑((((((((MC.mk0 w l).load t k).snd.snd.store t k 5).snd.swap t k 5 6).snd.snd.take t k
                                                                                              4).snd.snd.take
                                                                                      t k 5).snd.snd.unlock
                                                                              t k).snd.held
                                                                        t).length :
                                                                  Int) ==
                                                                0))
                                                            [] 0))
                                                      (Out.fin AV.ff [] 0))))))))))))))))))))
              (Out.need (MC.mk0 w l).room
                (Out.need ((MC.mk0 w l).load t k).snd.snd.room
                  (Out.need (((MC.mk0 w l).load t k).snd.snd.store t k 5).snd.room
                    (Out.need ((((MC.mk0 w l).load t k).snd.snd.store t k 5).snd.swap t k 5 6).snd.snd.room
                      (Out.need (((((MC.mk0 w l).load t k).snd.snd.store t k 5).snd.swap t k 5 6).snd.snd.take t k 4).snd.snd.room
                        (Out.need ((((((MC.mk0 w l).load t k).snd.snd.store t k 5).snd.swap t k 5 6).snd.snd.take t k 4).snd.snd.take t k 5).snd.snd.room
                          (Out.ite (decide (k < w))
                            (Out.ite (((MC.mk0 w l).load t k).fst != 0) (Out.fin AV.ff [] 0)
                              (Out.ite (!((((MC.mk0 w l).load t k).snd.snd.store t k 5).snd.swap t k 5 6).fst == decide (k < w)) (Out.fin AV.ff [] 0)
                                (Out.ite ((((MC.mk0 w l).load t k).snd.fst == 1) == decide (k < w)) (Out.fin AV.ff [] 0)
                                  (Out.ite (((((MC.mk0 w l).load t k).snd.snd.store t k 5).fst == 1) == decide (k < w)) (Out.fin AV.ff [] 0)
                                    (Out.ite ((((((MC.mk0 w l).load t k).snd.snd.store t k 5).snd.swap t k 5 6).snd.fst == 1) == decide (k < w))
                                      (Out.fin AV.ff [] 0)
                                      (Out.ite (((((((MC.mk0 w l).load t k).snd.snd.store t k 5).snd.swap t k 5 6).snd.snd.take t k 4).snd.fst == 1) == false)
                                        (Out.fin AV.ff [] 0)
                                        (Out.ite
                                          (((((((((MC.mk0 w l).load t k).snd.snd.store t k 5).snd.swap t k 5 6).snd.snd.take t k 4).snd.snd.take t k
                                                          5).snd.snd.unlock
                                                  t k).fst ==
                                              1) ==
                                            false)
                                          (Out.fin AV.ff [] 0)
                                          (Out.ite
                                            (((((((MC.mk0 w l).load t k).snd.snd.store t k 5).snd.swap t k 5 6).snd.snd.take t k 4).snd.snd.take t k 5).snd.fst !=
                                              1)
                                            (Out.fin AV.ff [] 0)
                                            (Out.ite
                                              (((((((MC.mk0 w l).load t k).snd.snd.store t k 5).snd.swap t k 5 6).snd.snd.take t k 4).snd.snd.take t k
                                                          5).snd.snd.holder
                                                  k !=
                                                -1)
                                              (Out.fin AV.ff [] 0)
                                              (Out.need
                                                (((((((MC.mk0 w l).load t k).snd.snd.store t k 5).snd.swap t k 5 6).snd.snd.take t k 4).snd.snd.take t k
                                                              5).snd.snd.unlock
                                                      t k).snd.room
                                                (Out.all Nat fun y =>
                                                  Out.ite
                                                    ((↑(((((((MC.mk0 w l).load t k).snd.snd.store t k 5).snd.swap t k 5 6).snd.snd.take t k 4).snd.snd.take t k
                                                                          5).snd.snd.unlock
                                                                  t k).snd.log.length :
                                                        Int) ==
                                                      3)
                                                    (Out.need
                                                      ((((((((MC.mk0 w l).load t k).snd.snd.store t k 5).snd.swap t k 5 6).snd.snd.take t k 4).snd.snd.take t k
                                                                        5).snd.snd.unlock
                                                                t k).snd.locks.length ≤
                                                        1099511627776)
                                                      (Out.all Nat fun y =>
                                                        Out.fin
                                                          (AV.bool
                                                            ((↑((((((((MC.mk0 w l).load t k).snd.snd.store t k 5).snd.swap t k 5 6).snd.snd.take t k
                                                                                            4).snd.snd.take
                                                                                    t k 5).snd.snd.unlock
                                                                            t k).snd.held
                                                                      t).length :
                                                                Int) ==
                                                              0))
                                                          [] 0))
                                                    (Out.fin AV.ff [] 0))))))))))))
                            (Out.ite (((MC.mk0 w l).load t k).fst != 0) (Out.fin AV.ff [] 0)
                              (Out.ite (!((((MC.mk0 w l).load t k).snd.snd.store t k 5).snd.swap t k 5 6).fst == decide (k < w)) (Out.fin AV.ff [] 0)
                                (Out.ite ((((MC.mk0 w l).load t k).snd.fst == 1) == decide (k < w)) (Out.fin AV.ff [] 0)
                                  (Out.ite (((((MC.mk0 w l).load t k).snd.snd.store t k 5).fst == 1) == decide (k < w)) (Out.fin AV.ff [] 0)
                                    (Out.ite ((((((MC.mk0 w l).load t k).snd.snd.store t k 5).snd.swap t k 5 6).snd.fst == 1) == decide (k < w))
                                      (Out.fin AV.ff [] 0)
                                      (Out.ite (((((((MC.mk0 w l).load t k).snd.snd.store t k 5).snd.swap t k 5 6).snd.snd.take t k 4).snd.fst == 1) == false)
                                        (Out.fin AV.ff [] 0)
                                        (Out.ite
                                          (((((((((MC.mk0 w l).load t k).snd.snd.store t k 5).snd.swap t k 5 6).snd.snd.take t k 4).snd.snd.take t k
                                                          5).snd.snd.unlock
                                                  t k).fst ==
                                              1) ==
                                            false)
                                          (Out.fin AV.ff [] 0)
                                          (Out.ite
                                            (((((((MC.mk0 w l).load t k).snd.snd.store t k 5).snd.swap t k 5 6).snd.snd.take t k 4).snd.snd.take t k 5).snd.fst !=
                                              1)
                                            (Out.fin AV.ff [] 0)
                                            (Out.ite
                                              (((((((MC.mk0 w l).load t k).snd.snd.store t k 5).snd.swap t k 5 6).snd.snd.take t k 4).snd.snd.take t k
                                                          5).snd.snd.holder
                                                  k !=
                                                -1)
                                              (Out.fin AV.ff [] 0)
                                              (Out.need
                                                (((((((MC.mk0 w l).load t k).snd.snd.store t k 5).snd.swap t k 5 6).snd.snd.take t k 4).snd.snd.take t k
                                                              5).snd.snd.unlock
                                                      t k).snd.room
                                                (Out.all Nat fun y =>
                                                  Out.ite
                                                    ((↑(((((((MC.mk0 w l).load t k).snd.snd.store t k 5).snd.swap t k 5 6).snd.snd.take t k 4).snd.snd.take t k
                                                                          5).snd.snd.unlock
                                                                  t k).snd.log.length :
                                                        Int) ==
                                                      0)
                                                    (Out.need
                                                      ((((((((MC.mk0 w l).load t k).snd.snd.store t k 5).snd.swap t k 5 6).snd.snd.take t k 4).snd.snd.take t k
                                                                        5).snd.snd.unlock
                                                                t k).snd.locks.length ≤
                                                        1099511627776)
                                                      (Out.all Nat fun y =>
                                                        Out.fin
                                                          (AV.bool
                                                            ((↑((((((((MC.mk0 w l).load t k).snd.snd.store t k 5).snd.swap t k 5 6).snd.snd.take t k
                                                                                            4).snd.snd.take
                                                                                    t k 5).snd.snd.unlock
                                                                            t k).snd.held
                                                                      t).length :
                                                                Int) ==
                                                              0))
                                                          [] 0))
                                                    (Out.fin AV.ff [] 0))))))))))))))))))))
            (Out.ite (decide (k ≥ 0))
              (Out.need (MC.mk0 w l).room
                (Out.need ((MC.mk0 w l).load t k).snd.snd.room
                  (Out.need (((MC.mk0 w l).load t k).snd.snd.store t k 5).snd.room
                    (Out.need ((((MC.mk0 w l).load t k).snd.snd.store t k 5).snd.swap t k 5 6).snd.snd.room
                      (Out.need (((((MC.mk0 w l).load t k).snd.snd.store t k 5).snd.swap t k 5 6).snd.snd.take t k 4).snd.snd.room
                        (Out.need ((((((MC.mk0 w l).load t k).snd.snd.store t k 5).snd.swap t k 5 6).snd.snd.take t k 4).snd.snd.take t k 5).snd.snd.room
                          (Out.ite (decide (k < l))
                            (Out.ite (((MC.mk0 w l).load t k).fst != 0) (Out.fin AV.ff [] 0)
                              (Out.ite (!((((MC.mk0 w l).load t k).snd.snd.store t k 5).snd.swap t k 5 6).fst == false) (Out.fin AV.ff [] 0)
                                (Out.ite ((((MC.mk0 w l).load t k).snd.fst == 1) == false) (Out.fin AV.ff [] 0)
                                  (Out.ite (((((MC.mk0 w l).load t k).snd.snd.store t k 5).fst == 1) == false) (Out.fin AV.ff [] 0)
                                    (Out.ite ((((((MC.mk0 w l).load t k).snd.snd.store t k 5).snd.swap t k 5 6).snd.fst == 1) == false) (Out.fin AV.ff [] 0)
                                      (Out.ite
                                        (((((((MC.mk0 w l).load t k).snd.snd.store t k 5).snd.swap t k 5 6).snd.snd.take t k 4).snd.fst == 1) == decide (k < l))
                                        (Out.fin AV.ff [] 0)
                                        (Out.ite
                                          (((((((((MC.mk0 w l).load t k).snd.snd.store t k 5).snd.swap t k 5 6).snd.snd.take t k 4).snd.snd.take t k
                                                          5).snd.snd.unlock
                                                  t k).fst ==
                                              1) ==
                                            decide (k < l))
                                          (Out.fin AV.ff [] 0)
                                          (Out.ite (decide (k < l))
                                            (Out.ite
                                              (((((((MC.mk0 w l).load t k).snd.snd.store t k 5).snd.swap t k 5 6).snd.snd.take t k 4).snd.snd.take t k
                                                      5).snd.fst !=
                                                5)
                                              (Out.fin AV.ff [] 0)
                                              (Out.ite
                                                (((((((MC.mk0 w l).load t k).snd.snd.store t k 5).snd.swap t k 5 6).snd.snd.take t k 4).snd.snd.take t k
                                                            5).snd.snd.holder
                                                    k !=
                                                  t)
                                                (Out.fin AV.ff [] 0)
                                                (Out.ite (!decide (k < l))
                                                  (Out.ite
                                                    (((((((MC.mk0 w l).load t k).snd.snd.store t k 5).snd.swap t k 5 6).snd.snd.take t k 4).snd.snd.take t k
                                                            5).snd.fst !=
                                                      1)
                                                    (Out.fin AV.ff [] 0)
                                                    (Out.ite
                                                      (((((((MC.mk0 w l).load t k).snd.snd.store t k 5).snd.swap t k 5 6).snd.snd.take t k 4).snd.snd.take t k
                                                                  5).snd.snd.holder
                                                          k !=
                                                        -1)
                                                      (Out.fin AV.ff [] 0)
                                                      (Out.need
                                                        (((((((MC.mk0 w l).load t k).snd.snd.store t k 5).snd.swap t k 5 6).snd.snd.take t k 4).snd.snd.take t k
                                                                      5).snd.snd.unlock
                                                              t k).snd.room
                                                        (Out.all Nat fun y =>
                                                          Out.ite
                                                            ((↑(((((((MC.mk0 w l).load t k).snd.snd.store t k 5).snd.swap t k 5 6).snd.snd.take t k
                                                                                          4).snd.snd.take
                                                                                  t k 5).snd.snd.unlock
                                                                          t k).snd.log.length :
                                                                Int) ==
                                                              2)
                                                            (Out.need
                                                              ((((((((MC.mk0 w l).load t k).snd.snd.store t k 5).snd.swap t k 5 6).snd.snd.take t k
                                                                                        4).snd.snd.take
                                                                                t k 5).snd.snd.unlock
                                                                        t k).snd.locks.length ≤
                                                                1099511627776)
                                                              (Out.all Nat fun y =>
                                                                Out.fin
                                                                  (AV.bool
                                                                    ((↑((((((((MC.mk0 w l).load t k).snd.snd.store t k 5).snd.swap t k 5 6).snd.snd.take t k
                                                                                                    4).snd.snd.take
                                                                                            t k 5).snd.snd.unlock
                                                                                    t k).snd.held
                                                                              t).length :
                                                                        Int) ==
                                                                      0))
                                                                  [] 0))
                                                            (Out.fin AV.ff [] 0)))))
                                                  (Out.need
                                                    (((((((MC.mk0 w l).load t k).snd.snd.store t k 5).snd.swap t k 5 6).snd.snd.take t k 4).snd.snd.take t k
                                                                  5).snd.snd.unlock
                                                          t k).snd.room
                                                    (Out.all Nat fun y =>
                                                      Out.ite
                                                        ((↑(((((((MC.mk0 w l).load t k).snd.snd.store t k 5).snd.swap t k 5 6).snd.snd.take t k 4).snd.snd.take t
                                                                              k 5).snd.snd.unlock
                                                                      t k).snd.log.length :
                                                            Int) ==
                                                          2)
                                                        (Out.need
                                                          ((((((((MC.mk0 w l).load t k).snd.snd.store t k 5).snd.swap t k 5 6).snd.snd.take t k 4).snd.snd.take t
                                                                            k 5).snd.snd.unlock
                                                                    t k).snd.locks.length ≤
                                                            1099511627776)
                                                          (Out.all Nat fun y =>
                                                            Out.fin
                                                              (AV.bool
                                                                ((↑((((((((MC.mk0 w l).load t k).snd.snd.store t k 5).snd.swap t k 5 6).snd.snd.take t k
                                                                                                4).snd.snd.take
                                                                                        t k 5).snd.snd.unlock
                                                                                t k).snd.held
                                                                          t).length :
                                                                    Int) ==
                                                                  0))
                                                              [] 0))
                                                        (Out.fin AV.ff [] 0))))))
                                            (Out.ite (!decide (k < l))
                                              (Out.ite
                                                (((((((MC.mk0 w l).load t k).snd.snd.store t k 5).snd.swap t k 5 6).snd.snd.take t k 4).snd.snd.take t k
                                                        5).snd.fst !=
                                                  1)
                                                (Out.fin AV.ff [] 0)
                                                (Out.ite
                                                  (((((((MC.mk0 w l).load t k).snd.snd.store t k 5).snd.swap t k 5 6).snd.snd.take t k 4).snd.snd.take t k
                                                              5).snd.snd.holder
                                                      k !=
                                                    -1)
                                                  (Out.fin AV.ff [] 0)
                                                  (Out.need
                                                    (((((((MC.mk0 w l).load t k).snd.snd.store t k 5).snd.swap t k 5 6).snd.snd.take t k 4).snd.snd.take t k
                                                                  5).snd.snd.unlock
                                                          t k).snd.room
                                                    (Out.all Nat fun y =>
                                                      Out.ite
                                                        ((↑(((((((MC.mk0 w l).load t k).snd.snd.store t k 5).snd.swap t k 5 6).snd.snd.take t k 4).snd.snd.take t
                                                                              k 5).snd.snd.unlock
                                                                      t k).snd.log.length :
                                                            Int) ==
                                                          2)
                                                        (Out.need
                                                          ((((((((MC.mk0 w l).load t k).snd.snd.store t k 5).snd.swap t k 5 6).snd.snd.take t k 4).snd.snd.take t
                                                                            k 5).snd.snd.unlock
                                                                    t k).snd.locks.length ≤
                                                            1099511627776)
                                                          (Out.all Nat fun y =>
                                                            Out.fin
                                                              (AV.bool
                                                                ((↑((((((((MC.mk0 w l).load t k).snd.snd.store t k 5).snd.swap t k 5 6).snd.snd.take t k
                                                                                                4).snd.snd.take
                                                                                        t k 5).snd.snd.unlock
                                                                                t k).snd.held
                                                                          t).length :
                                                                    Int) ==
                                                                  0))
                                                              [] 0))
                                                        (Out.fin AV.ff [] 0)))))
                                              (Out.need
                                                (((((((MC.mk0 w l).load t k).snd.snd.store t k 5).snd.swap t k 5 6).snd.snd.take t k 4).snd.snd.take t k
                                                              5).snd.snd.unlock
                                                      t k).snd.room
                                                (Out.all Nat fun y =>
                                                  Out.ite
                                                    ((↑(((((((MC.mk0 w l).load t k).snd.snd.store t k 5).snd.swap t k 5 6).snd.snd.take t k 4).snd.snd.take t k
                                                                          5).snd.snd.unlock
                                                                  t k).snd.log.length :
                                                        Int) ==
                                                      2)
                                                    (Out.need
                                                      ((((((((MC.mk0 w l).load t k).snd.snd.store t k 5).snd.swap t k 5 6).snd.snd.take t k 4).snd.snd.take t k
                                                                        5).snd.snd.unlock
                                                                t k).snd.locks.length ≤
                                                        1099511627776)
                                                      (Out.all Nat fun y =>
                                                        Out.fin
                                                          (AV.bool
                                                            ((↑((((((((MC.mk0 w l).load t k).snd.snd.store t k 5).snd.swap t k 5 6).snd.snd.take t k
                                                                                            4).snd.snd.take
                                                                                    t k 5).snd.snd.unlock
                                                                            t k).snd.held
                                                                      t).length :
                                                                Int) ==
                                                              0))
                                                          [] 0))
                                                    (Out.fin AV.ff [] 0))))))))))))
                            (Out.ite (((MC.mk0 w l).load t k).fst != 0) (Out.fin AV.ff [] 0)
                              (Out.ite (!((((MC.mk0 w l).load t k).snd.snd.store t k 5).snd.swap t k 5 6).fst == false) (Out.fin AV.ff [] 0)
                                (Out.ite ((((MC.mk0 w l).load t k).snd.fst == 1) == false) (Out.fin AV.ff [] 0)
                                  (Out.ite (((((MC.mk0 w l).load t k).snd.snd.store t k 5).fst == 1) == false) (Out.fin AV.ff [] 0)
                                    (Out.ite ((((((MC.mk0 w l).load t k).snd.snd.store t k 5).snd.swap t k 5 6).snd.fst == 1) == false) (Out.fin AV.ff [] 0)
                                      (Out.ite
                                        (((((((MC.mk0 w l).load t k).snd.snd.store t k 5).snd.swap t k 5 6).snd.snd.take t k 4).snd.fst == 1) == decide (k < l))
                                        (Out.fin AV.ff [] 0)
                                        (Out.ite
                                          (((((((((MC.mk0 w l).load t k).snd.snd.store t k 5).snd.swap t k 5 6).snd.snd.take t k 4).snd.snd.take t k
                                                          5).snd.snd.unlock
                                                  t k).fst ==
                                              1) ==
                                            decide (k < l))
                                          (Out.fin AV.ff [] 0)
                                          (Out.ite (decide (k < l))
                                            (Out.ite
                                              (((((((MC.mk0 w l).load t k).snd.snd.store t k 5).snd.swap t k 5 6).snd.snd.take t k 4).snd.snd.take t k
                                                      5).snd.fst !=
                                                5)
                                              (Out.fin AV.ff [] 0)
                                              (Out.ite
                                                (((((((MC.mk0 w l).load t k).snd.snd.store t k 5).snd.swap t k 5 6).snd.snd.take t k 4).snd.snd.take t k
                                                            5).snd.snd.holder
                                                    k !=
                                                  t)
                                                (Out.fin AV.ff [] 0)
                                                (Out.ite (!decide (k < l))
                                                  (Out.ite
                                                    (((((((MC.mk0 w l).load t k).snd.snd.store t k 5).snd.swap t k 5 6).snd.snd.take t k 4).snd.snd.take t k
                                                            5).snd.fst !=
                                                      1)
                                                    (Out.fin AV.ff [] 0)
                                                    (Out.ite
                                                      (((((((MC.mk0 w l).load t k).snd.snd.store t k 5).snd.swap t k 5 6).snd.snd.take t k 4).snd.snd.take t k
                                                                  5).snd.snd.holder
                                                          k !=
                                                        -1)
                                                      (Out.fin AV.ff [] 0)
                                                      (Out.need
                                                        (((((((MC.mk0 w l).load t k).snd.snd.store t k 5).snd.swap t k 5 6).snd.snd.take t k 4).snd.snd.take t k
                                                                      5).snd.snd.unlock
                                                              t k).snd.room
                                                        (Out.all Nat fun y =>
                                                          Out.ite
                                                            ((↑(((((((MC.mk0 w l).load t k).snd.snd.store t k 5).snd.swap t k 5 6).snd.snd.take t k
                                                                                          4).snd.snd.take
                                                                                  t k 5).snd.snd.unlock
                                                                          t k).snd.log.length :
                                                                Int) ==
                                                              0)
                                                            (Out.need
                                                              ((((((((MC.mk0 w l).load t k).snd.snd.store t k 5).snd.swap t k 5 6).snd.snd.take t k
                                                                                        4).snd.snd.take
                                                                                t k 5).snd.snd.unlock
                                                                        t k).snd.locks.length ≤
                                                                1099511627776)
                                                              (Out.all Nat fun y =>
                                                                Out.fin
                                                                  (AV.bool
                                                                    ((↑((((((((MC.mk0 w l).load t k).snd.snd.store t k 5).snd.swap t k 5 6).snd.snd.take t k
                                                                                                    4).snd.snd.take
                                                                                            t k 5).snd.snd.unlock
                                                                                    t k).snd.held
                                                                              t).length :
                                                                        Int) ==
                                                                      0))
                                                                  [] 0))
                                                            (Out.fin AV.ff [] 0)))))
                                                  (Out.need
                                                    (((((((MC.mk0 w l).load t k).snd.snd.store t k 5).snd.swap t k 5 6).snd.snd.take t k 4).snd.snd.take t k
                                                                  5).snd.snd.unlock
                                                          t k).snd.room
                                                    (Out.all Nat fun y =>
                                                      Out.ite
                                                        ((↑(((((((MC.mk0 w l).load t k).snd.snd.store t k 5).snd.swap t k 5 6).snd.snd.take t k 4).snd.snd.take t
                                                                              k 5).snd.snd.unlock
                                                                      t k).snd.log.length :
                                                            Int) ==
                                                          0)
                                                        (Out.need
                                                          ((((((((MC.mk0 w l).load t k).snd.snd.store t k 5).snd.swap t k 5 6).snd.snd.take t k 4).snd.snd.take t
                                                                            k 5).snd.snd.unlock
                                                                    t k).snd.locks.length ≤
                                                            1099511627776)
                                                          (Out.all Nat fun y =>
                                                            Out.fin
                                                              (AV.bool
                                                                ((↑((((((((MC.mk0 w l).load t k).snd.snd.store t k 5).snd.swap t k 5 6).snd.snd.take t k
                                                                                                4).snd.snd.take
                                                                                        t k 5).snd.snd.unlock
                                                                                t k).snd.held
                                                                          t).length :
                                                                    Int) ==
                                                                  0))
                                                              [] 0))
                                                        (Out.fin AV.ff [] 0))))))
                                            (Out.ite (!decide (k < l))
                                              (Out.ite
                                                (((((((MC.mk0 w l).load t k).snd.snd.store t k 5).snd.swap t k 5 6).snd.snd.take t k 4).snd.snd.take t k
                                                        5).snd.fst !=
                                                  1)
                                                (Out.fin AV.ff [] 0)
                                                (Out.ite
                                                  (((((((MC.mk0 w l).load t k).snd.snd.store t k 5).snd.swap t k 5 6).snd.snd.take t k 4).snd.snd.take t k
                                                              5).snd.snd.holder
                                                      k !=
                                                    -1)
                                                  (Out.fin AV.ff [] 0)
                                                  (Out.need
                                                    (((((((MC.mk0 w l).load t k).snd.snd.store t k 5).snd.swap t k 5 6).snd.snd.take t k 4).snd.snd.take t k
                                                                  5).snd.snd.unlock
                                                          t k).snd.room
                                                    (Out.all Nat fun y =>
                                                      Out.ite
                                                        ((↑(((((((MC.mk0 w l).load t k).snd.snd.store t k 5).snd.swap t k 5 6).snd.snd.take t k 4).snd.snd.take t
                                                                              k 5).snd.snd.unlock
                                                                      t k).snd.log.length :
                                                            Int) ==
                                                          0)
                                                        (Out.need
                                                          ((((((((MC.mk0 w l).load t k).snd.snd.store t k 5).snd.swap t k 5 6).snd.snd.take t k 4).snd.snd.take t
                                                                            k 5).snd.snd.unlock
                                                                    t k).snd.locks.length ≤
                                                            1099511627776)
                                                          (Out.all Nat fun y =>
                                                            Out.fin
                                                              (AV.bool
                                                                ((↑((((((((MC.mk0 w l).load t k).snd.snd.store t k 5).snd.swap t k 5 6).snd.snd.take t k
                                                                                                4).snd.snd.take
                                                                                        t k 5).snd.snd.unlock
                                                                                t k).snd.held
                                                                          t).length :
                                                                    Int) ==
                                                                  0))
                                                              [] 0))
                                                        (Out.fin AV.ff [] 0)))))
                                              (Out.need
                                                (((((((MC.mk0 w l).load t k).snd.snd.store t k 5).snd.swap t k 5 6).snd.snd.take t k 4).snd.snd.take t k
                                                              5).snd.snd.unlock
                                                      t k).snd.room
                                                (Out.all Nat fun y =>
                                                  Out.ite
                                                    ((↑(((((((MC.mk0 w l).load t k).snd.snd.store t k 5).snd.swap t k 5 6).snd.snd.take t k 4).snd.snd.take t k
                                                                          5).snd.snd.unlock
                                                                  t k).snd.log.length :
                                                        Int) ==
                                                      0)
                                                    (Out.need
                                                      ((((((((MC.mk0 w l).load t k).snd.snd.store t k 5).snd.swap t k 5 6).snd.snd.take t k 4).snd.snd.take t k
                                                                        5).snd.snd.unlock
                                                                t k).snd.locks.length ≤
                                                        1099511627776)
                                                      (Out.all Nat fun y =>
                                                        Out.fin
                                                          (AV.bool
                                                            ((↑((((((((MC.mk0 w l).load t k).snd.snd.store t k 5).snd.swap t k 5 6).snd.snd.take t k
                                                                                            4).snd.snd.take
                                                                                    t k 5).snd.snd.unlock
                                                                            t k).snd.held
                                                                      t).length :
                                                                Int) ==
                                                              0))
                                                          [] 0))
                                                    (Out.fin AV.ff [] 0)))))))))))))))))))
              (Out.need (MC.mk0 w l).room
                (Out.need ((MC.mk0 w l).load t k).snd.snd.room
                  (Out.need (((MC.mk0 w l).load t k).snd.snd.store t k 5).snd.room
                    (Out.need ((((MC.mk0 w l).load t k).snd.snd.store t k 5).snd.swap t k 5 6).snd.snd.room
                      (Out.need (((((MC.mk0 w l).load t k).snd.snd.store t k 5).snd.swap t k 5 6).snd.snd.take t k 4).snd.snd.room
                        (Out.need ((((((MC.mk0 w l).load t k).snd.snd.store t k 5).snd.swap t k 5 6).snd.snd.take t k 4).snd.snd.take t k 5).snd.snd.room
                          (Out.ite (((MC.mk0 w l).load t k).fst != 0) (Out.fin AV.ff [] 0)
                            (Out.ite (!((((MC.mk0 w l).load t k).snd.snd.store t k 5).snd.swap t k 5 6).fst == false) (Out.fin AV.ff [] 0)
                              (Out.ite ((((MC.mk0 w l).load t k).snd.fst == 1) == false) (Out.fin AV.ff [] 0)
                                (Out.ite (((((MC.mk0 w l).load t k).snd.snd.store t k 5).fst == 1) == false) (Out.fin AV.ff [] 0)
                                  (Out.ite ((((((MC.mk0 w l).load t k).snd.snd.store t k 5).snd.swap t k 5 6).snd.fst == 1) == false) (Out.fin AV.ff [] 0)
                                    (Out.ite (((((((MC.mk0 w l).load t k).snd.snd.store t k 5).snd.swap t k 5 6).snd.snd.take t k 4).snd.fst == 1) == false)
                                      (Out.fin AV.ff [] 0)
                                      (Out.ite
                                        (((((((((MC.mk0 w l).load t k).snd.snd.store t k 5).snd.swap t k 5 6).snd.snd.take t k 4).snd.snd.take t k
                                                        5).snd.snd.unlock
                                                t k).fst ==
                                            1) ==
                                          false)
                                        (Out.fin AV.ff [] 0)
                                        (Out.ite
                                          (((((((MC.mk0 w l).load t k).snd.snd.store t k 5).snd.swap t k 5 6).snd.snd.take t k 4).snd.snd.take t k 5).snd.fst !=
                                            1)
                                          (Out.fin AV.ff [] 0)
                                          (Out.ite
                                            (((((((MC.mk0 w l).load t k).snd.snd.store t k 5).snd.swap t k 5 6).snd.snd.take t k 4).snd.snd.take t k
                                                        5).snd.snd.holder
                                                k !=
                                              -1)
                                            (Out.fin AV.ff [] 0)
                                            (Out.need
                                              (((((((MC.mk0 w l).load t k).snd.snd.store t k 5).snd.swap t k 5 6).snd.snd.take t k 4).snd.snd.take t k
                                                            5).snd.snd.unlock
                                                    t k).snd.room
                                              (Out.all Nat fun y =>
                                                Out.ite
                                                  ((↑(((((((MC.mk0 w l).load t k).snd.snd.store t k 5).snd.swap t k 5 6).snd.snd.take t k 4).snd.snd.take t k
                                                                        5).snd.snd.unlock
                                                                t k).snd.log.length :
                                                      Int) ==
                                                    0)
                                                  (Out.need
                                                    ((((((((MC.mk0 w l).load t k).snd.snd.store t k 5).snd.swap t k 5 6).snd.snd.take t k 4).snd.snd.take t k
                                                                      5).snd.snd.unlock
                                                              t k).snd.locks.length ≤
                                                      1099511627776)
                                                    (Out.all Nat fun y =>
                                                      Out.fin
                                                        (AV.bool
                                                          ((↑((((((((MC.mk0 w l).load t k).snd.snd.store t k 5).snd.swap t k 5 6).snd.snd.take t k 4).snd.snd.take
                                                                                  t k 5).snd.snd.unlock
                                                                          t k).snd.held
                                                                    t).length :
                                                              Int) ==
                                                            0))
                                                        [] 0))
                                                  (Out.fin AV.ff [] 0))))))))))))))))))))))) := by kernel_rfl

end Sx
end Go.Proofs.Ytjackepkphdibaa
