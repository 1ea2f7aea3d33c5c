/-
  The documents answer of what is right: the runs of the machine.
-/
import Derived.Test.YtemcdjdglcceiaaTellsP4
namespace Go.Proofs.Ytemcdjdglcceiaa
namespace Sx
open Go
set_option maxRecDepth 100000
set_option linter.unusedVariables false

noncomputable def fnsN : Nat → Option Func := fun g => match g with | 43 => some Try.f43 | _ => none
noncomputable def cfgN : Cfg Try.prog V := ⟨tab, kinds, fnsN, hooksI, fun _ _ => none⟩
def TL : List Nat := [0, 1, 2, 3, 4, 5, 6, 7, 8, 9, 10, 11, 12, 13, 14, 15, 16]
structure PK2 extends PL where
  i : Nat
  hi : i < l.length
def I200 (p : PL) (i : Nat) : St V := ⟨[(0, .sl false 0 0 8 p.l.length p.c), (3, .int .i64 (i : Int))], [(0, .ro Kd.rcd p.l)], 1, 81, TL⟩
def R200 (p : PL) : St V := ⟨[(2, .ff)], [(0, .ro Kd.rcd p.l)], 1, 81, TL⟩
def I202 (q : PK2) (k : Nat) : St V :=
  ⟨[(0, .sl false 0 0 8 q.l.length q.c), (3, .int .i64 (q.i : Int)), (4, .ptr 1 0), (5, .ptr 3 0), (6, .bool (lastTo q.l k (q.l.getD q.i r0).thread).isSome), (7, .int .i64 (k : Int))],
   [(3, .cells 30 (Rec.enc ((lastTo q.l k (q.l.getD q.i r0).thread).getD r0))), (1, .cells 30 (Rec.enc (q.l.getD q.i r0))), (0, .ro Kd.rcd q.l)], 5, 81, TL⟩
def L202 : LoopS V := trimLoop (trimSt [0, 3, 4, 5, 6, 7] [0, 1, 3]) (loopH 5 (fun q : PK2 => I202 q 0) (fun _ (_ : Unit) => True) (fun q _ => I202 q q.i))
def L200 : LoopS V := trimLoop (trimSt [0, 2, 3] [0]) (loopG 1 (fun p : PL => I200 p 0) (fun p (_ : Unit) => hRight p.l = true) (fun p _ => I200 p p.l.length) (fun p (_ : Unit) => hRight p.l = false) (fun p _ => R200 p))
noncomputable def cfg202 : Cfg Try.prog V := ⟨tab, kinds, fnsN, hooksI, fun f id => match f, id with | 20, 2 => some L202 | _, _ => none⟩
noncomputable def cfg200 : Cfg Try.prog V := ⟨tab, kinds, fnsN, hooksI, fun f id => match f, id with | 20, 0 => some L200 | _, _ => none⟩
theorem b202 (q : PK2) (k : Nat) : runCode cfgN 60 20 (loopOf Try.f20 2) (I202 q k) (stopT (trimSt [0, 3, 4, 5, 6, 7] [0, 1, 3])) =
  Out.ite (decide ((↑k : Int) < (↑q.2 : Int)))
    (Out.need (0 ≤ (↑k : Int) ∧ (↑k : Int) < (↑q.l.length : Int))
      (Out.need (0 + k < q.l.length)
        (Out.ite ((q.l.getD (0 + k) (V.enc Kd.rcd).dflt).thread == (q.l.getD q.2 r0).thread)
          (Out.need (0 ≤ (↑k : Int) ∧ (↑k : Int) < (↑q.l.length : Int))
            (Out.need (0 + k < q.l.length)
              (Out.ite (decide ((q.l.getD (0 + k) (V.enc Kd.rcd).dflt).op ≥ 0))
                (Out.need (0 ≤ (↑k : Int) ∧ (↑k : Int) < (↑q.l.length : Int))
                  (Out.need (0 + k < q.l.length)
                    (Out.stop EX.nx
                      {
                        env :=
                          [(0, AV.sl false 0 0 8 q.l.length q.toPL.2), (3, AV.int IntKind.i64 (↑q.2 : Int)), (4, AV.ptr 1 0), (5, AV.ptr 3 0), (6, AV.tt),
                            (7, AV.int IntKind.i64 (IntKind.i64.wrap ((↑k : Int) + 1)))],
                        heap :=
                          [(3,
                              Blk.cells 30
                                [AV.int IntKind.i64 (q.l.getD (0 + k) (V.enc Kd.rcd).dflt).thread, AV.int IntKind.i64 (q.l.getD (0 + k) (V.enc Kd.rcd).dflt).op,
                                  AV.int IntKind.i64 (q.l.getD (0 + k) (V.enc Kd.rcd).dflt).what, AV.int IntKind.i64 (q.l.getD (0 + k) (V.enc Kd.rcd).dflt).act,
                                  AV.int IntKind.i64 (q.l.getD (0 + k) (V.enc Kd.rcd).dflt).key, AV.int IntKind.i64 (q.l.getD (0 + k) (V.enc Kd.rcd).dflt).value,
                                  AV.bool (q.l.getD (0 + k) (V.enc Kd.rcd).dflt).hit, AV.int IntKind.i64 (q.l.getD (0 + k) (V.enc Kd.rcd).dflt).err]),
                            (1,
                              Blk.cells 30
                                [AV.int IntKind.i64 (q.l.getD q.2 r0).thread, AV.int IntKind.i64 (q.l.getD q.2 r0).op, AV.int IntKind.i64 (q.l.getD q.2 r0).what,
                                  AV.int IntKind.i64 (q.l.getD q.2 r0).act, AV.int IntKind.i64 (q.l.getD q.2 r0).key, AV.int IntKind.i64 (q.l.getD q.2 r0).value,
                                  AV.bool (q.l.getD q.2 r0).hit, AV.int IntKind.i64 (q.l.getD q.2 r0).err]),
                            (0, Blk.ro Kd.rcd q.l)],
                        nx := 6, nt := 81, tl := [3, 0, 1, 2, 3, 4, 5, 6, 7, 8, 9, 10, 11, 12, 13, 14, 15, 16] : St V })))
                (Out.stop EX.nx
                  {
                    env :=
                      [(0, AV.sl false 0 0 8 q.l.length q.toPL.2), (3, AV.int IntKind.i64 (↑q.2 : Int)), (4, AV.ptr 1 0), (5, AV.ptr 3 0),
                        (6, AV.bool (lastTo q.l k (q.l.getD q.2 r0).thread).isSome), (7, AV.int IntKind.i64 (IntKind.i64.wrap ((↑k : Int) + 1)))],
                    heap :=
                      [(3,
                          Blk.cells 30
                            [AV.int IntKind.i64 ((lastTo q.l k (q.l.getD q.2 r0).thread).getD r0).thread,
                              AV.int IntKind.i64 ((lastTo q.l k (q.l.getD q.2 r0).thread).getD r0).op,
                              AV.int IntKind.i64 ((lastTo q.l k (q.l.getD q.2 r0).thread).getD r0).what,
                              AV.int IntKind.i64 ((lastTo q.l k (q.l.getD q.2 r0).thread).getD r0).act,
                              AV.int IntKind.i64 ((lastTo q.l k (q.l.getD q.2 r0).thread).getD r0).key,
                              AV.int IntKind.i64 ((lastTo q.l k (q.l.getD q.2 r0).thread).getD r0).value,
                              AV.bool ((lastTo q.l k (q.l.getD q.2 r0).thread).getD r0).hit,
                              AV.int IntKind.i64 ((lastTo q.l k (q.l.getD q.2 r0).thread).getD r0).err]),
                        (1,
                          Blk.cells 30
                            [AV.int IntKind.i64 (q.l.getD q.2 r0).thread, AV.int IntKind.i64 (q.l.getD q.2 r0).op, AV.int IntKind.i64 (q.l.getD q.2 r0).what,
                              AV.int IntKind.i64 (q.l.getD q.2 r0).act, AV.int IntKind.i64 (q.l.getD q.2 r0).key, AV.int IntKind.i64 (q.l.getD q.2 r0).value,
                              AV.bool (q.l.getD q.2 r0).hit, AV.int IntKind.i64 (q.l.getD q.2 r0).err]),
                        (0, Blk.ro Kd.rcd q.l)],
                    nx := 5, nt := 81, tl := [0, 1, 2, 3, 4, 5, 6, 7, 8, 9, 10, 11, 12, 13, 14, 15, 16] : St V }))))
          (Out.stop EX.nx
            {
              env :=
                [(0, AV.sl false 0 0 8 q.l.length q.toPL.2), (3, AV.int IntKind.i64 (↑q.2 : Int)), (4, AV.ptr 1 0), (5, AV.ptr 3 0),
                  (6, AV.bool (lastTo q.l k (q.l.getD q.2 r0).thread).isSome), (7, AV.int IntKind.i64 (IntKind.i64.wrap ((↑k : Int) + 1)))],
              heap :=
                [(3,
                    Blk.cells 30
                      [AV.int IntKind.i64 ((lastTo q.l k (q.l.getD q.2 r0).thread).getD r0).thread,
                        AV.int IntKind.i64 ((lastTo q.l k (q.l.getD q.2 r0).thread).getD r0).op,
                        AV.int IntKind.i64 ((lastTo q.l k (q.l.getD q.2 r0).thread).getD r0).what,
                        AV.int IntKind.i64 ((lastTo q.l k (q.l.getD q.2 r0).thread).getD r0).act,
                        AV.int IntKind.i64 ((lastTo q.l k (q.l.getD q.2 r0).thread).getD r0).key,
                        AV.int IntKind.i64 ((lastTo q.l k (q.l.getD q.2 r0).thread).getD r0).value, AV.bool ((lastTo q.l k (q.l.getD q.2 r0).thread).getD r0).hit,
                        AV.int IntKind.i64 ((lastTo q.l k (q.l.getD q.2 r0).thread).getD r0).err]),
                  (1,
                    Blk.cells 30
                      [AV.int IntKind.i64 (q.l.getD q.2 r0).thread, AV.int IntKind.i64 (q.l.getD q.2 r0).op, AV.int IntKind.i64 (q.l.getD q.2 r0).what,
                        AV.int IntKind.i64 (q.l.getD q.2 r0).act, AV.int IntKind.i64 (q.l.getD q.2 r0).key, AV.int IntKind.i64 (q.l.getD q.2 r0).value,
                        AV.bool (q.l.getD q.2 r0).hit, AV.int IntKind.i64 (q.l.getD q.2 r0).err]),
                  (0, Blk.ro Kd.rcd q.l)],
              nx := 5, nt := 81, tl := [0, 1, 2, 3, 4, 5, 6, 7, 8, 9, 10, 11, 12, 13, 14, 15, 16] : St V }))))
    (Out.stop (EX.ex 2)
      {
        env :=
          [(0, AV.sl false 0 0 8 q.l.length q.toPL.2), (3, AV.int IntKind.i64 (↑q.2 : Int)), (4, AV.ptr 1 0), (5, AV.ptr 3 0),
            (6, AV.bool (lastTo q.l k (q.l.getD q.2 r0).thread).isSome), (7, AV.int IntKind.i64 (↑k : Int))],
        heap :=
          [(3,
              Blk.cells 30
                [AV.int IntKind.i64 ((lastTo q.l k (q.l.getD q.2 r0).thread).getD r0).thread,
                  AV.int IntKind.i64 ((lastTo q.l k (q.l.getD q.2 r0).thread).getD r0).op,
                  AV.int IntKind.i64 ((lastTo q.l k (q.l.getD q.2 r0).thread).getD r0).what,
                  AV.int IntKind.i64 ((lastTo q.l k (q.l.getD q.2 r0).thread).getD r0).act,
                  AV.int IntKind.i64 ((lastTo q.l k (q.l.getD q.2 r0).thread).getD r0).key,
                  AV.int IntKind.i64 ((lastTo q.l k (q.l.getD q.2 r0).thread).getD r0).value, AV.bool ((lastTo q.l k (q.l.getD q.2 r0).thread).getD r0).hit,
                  AV.int IntKind.i64 ((lastTo q.l k (q.l.getD q.2 r0).thread).getD r0).err]),
            (1,
              Blk.cells 30
                [AV.int IntKind.i64 (q.l.getD q.2 r0).thread, AV.int IntKind.i64 (q.l.getD q.2 r0).op, AV.int IntKind.i64 (q.l.getD q.2 r0).what,
                  AV.int IntKind.i64 (q.l.getD q.2 r0).act, AV.int IntKind.i64 (q.l.getD q.2 r0).key, AV.int IntKind.i64 (q.l.getD q.2 r0).value,
                  AV.bool (q.l.getD q.2 r0).hit, AV.int IntKind.i64 (q.l.getD q.2 r0).err]),
            (0, Blk.ro Kd.rcd q.l)],
        nx := 5, nt := 81, tl := [0, 1, 2, 3, 4, 5, 6, 7, 8, 9, 10, 11, 12, 13, 14, 15, 16] : St V }) := by kernel_rfl

theorem b200 (p : PL) (i : Nat) : runCode cfg202 60 20 (loopOf Try.f20 0) (I200 p i) (stopT (trimSt [0, 2, 3] [0])) =
  Out.ite (decide ((↑i : Int) < (↑p.l.length : Int)))
    (Out.need (0 ≤ (↑i : Int) ∧ (↑i : Int) < (↑p.l.length : Int))
      (Out.need (0 + i < p.l.length)
        (Out.ite (decide ((p.l.getD (0 + i) (V.enc Kd.rcd).dflt).thread < 0))
          (Out.stop EX.rt
            { env := [(0, AV.sl false 0 0 8 p.l.length p.2), (2, AV.ff), (3, AV.int IntKind.i64 (↑i : Int))], heap := [(0, Blk.ro Kd.rcd p.l)], nx := 3, nt := 81,
              tl := [1, 1, 0, 1, 2, 3, 4, 5, 6, 7, 8, 9, 10, 11, 12, 13, 14, 15, 16] : St V })
          (Out.ite (decide ((p.l.getD (0 + i) (V.enc Kd.rcd).dflt).thread > 63))
            (Out.stop EX.rt
              { env := [(0, AV.sl false 0 0 8 p.l.length p.2), (2, AV.ff), (3, AV.int IntKind.i64 (↑i : Int))], heap := [(0, Blk.ro Kd.rcd p.l)], nx := 3,
                nt := 81, tl := [1, 1, 0, 1, 2, 3, 4, 5, 6, 7, 8, 9, 10, 11, 12, 13, 14, 15, 16] : St V })
            (Out.ite (decide ((p.l.getD (0 + i) (V.enc Kd.rcd).dflt).op < 0))
              (Out.ite ((p.l.getD (0 + i) (V.enc Kd.rcd).dflt).op != -1)
                (Out.stop EX.rt
                  { env := [(0, AV.sl false 0 0 8 p.l.length p.2), (2, AV.ff), (3, AV.int IntKind.i64 (↑i : Int))], heap := [(0, Blk.ro Kd.rcd p.l)], nx := 3,
                    nt := 81, tl := [1, 1, 0, 1, 2, 3, 4, 5, 6, 7, 8, 9, 10, 11, 12, 13, 14, 15, 16] : St V })
                (Out.ite ((p.l.getD (0 + i) (V.enc Kd.rcd).dflt).what != 2)
                  (Out.stop EX.rt
                    { env := [(0, AV.sl false 0 0 8 p.l.length p.2), (2, AV.ff), (3, AV.int IntKind.i64 (↑i : Int))], heap := [(0, Blk.ro Kd.rcd p.l)], nx := 3,
                      nt := 81, tl := [1, 1, 0, 1, 2, 3, 4, 5, 6, 7, 8, 9, 10, 11, 12, 13, 14, 15, 16] : St V })
                  (Out.ite ((p.l.getD (0 + i) (V.enc Kd.rcd).dflt).act != 4)
                    (Out.stop EX.rt
                      { env := [(0, AV.sl false 0 0 8 p.l.length p.2), (2, AV.ff), (3, AV.int IntKind.i64 (↑i : Int))], heap := [(0, Blk.ro Kd.rcd p.l)], nx := 3,
                        nt := 81, tl := [1, 1, 0, 1, 2, 3, 4, 5, 6, 7, 8, 9, 10, 11, 12, 13, 14, 15, 16] : St V })
                    (Out.ite ((p.l.getD (0 + i) (V.enc Kd.rcd).dflt).err != 0)
                      (Out.stop EX.rt
                        { env := [(0, AV.sl false 0 0 8 p.l.length p.2), (2, AV.ff), (3, AV.int IntKind.i64 (↑i : Int))], heap := [(0, Blk.ro Kd.rcd p.l)],
                          nx := 3, nt := 81, tl := [1, 1, 0, 1, 2, 3, 4, 5, 6, 7, 8, 9, 10, 11, 12, 13, 14, 15, 16] : St V })
                      (Out.stop EX.nx
                        { env := [(0, AV.sl false 0 0 8 p.l.length p.2), (2, AV.und), (3, AV.int IntKind.i64 (IntKind.i64.wrap ((↑i : Int) + 1)))],
                          heap := [(0, Blk.ro Kd.rcd p.l)], nx := 3, nt := 81, tl := [1, 1, 0, 1, 2, 3, 4, 5, 6, 7, 8, 9, 10, 11, 12, 13, 14, 15, 16] :
                          St V })))))
              (Out.need (LoopFor Try.prog 20 2 (loopOf Try.f20 2) L202)
                (Out.ex (PK2 → Prop) fun y =>
                  Out.need
                    (5 ≤ 5 ∧
                      SImp 5
                        {
                          env :=
                            [(0, AV.sl false 0 0 8 p.l.length p.2), (3, AV.int IntKind.i64 (↑i : Int)), (4, AV.ptr 1 0), (5, AV.ptr 3 0), (6, AV.ff),
                              (7, AV.lit IntKind.i64 0)],
                          heap :=
                            [(3,
                                Blk.cells 30
                                  [AV.lit IntKind.i64 0, AV.lit IntKind.i64 0, AV.lit IntKind.i64 0, AV.lit IntKind.i64 0, AV.lit IntKind.i64 0,
                                    AV.lit IntKind.i64 0, AV.ff, AV.lit IntKind.i64 0]),
                              (1,
                                Blk.cells 30
                                  [AV.int IntKind.i64 (p.l.getD (0 + i) (V.enc Kd.rcd).dflt).thread, AV.int IntKind.i64 (p.l.getD (0 + i) (V.enc Kd.rcd).dflt).op,
                                    AV.int IntKind.i64 (p.l.getD (0 + i) (V.enc Kd.rcd).dflt).what, AV.int IntKind.i64 (p.l.getD (0 + i) (V.enc Kd.rcd).dflt).act,
                                    AV.int IntKind.i64 (p.l.getD (0 + i) (V.enc Kd.rcd).dflt).key,
                                    AV.int IntKind.i64 (p.l.getD (0 + i) (V.enc Kd.rcd).dflt).value, AV.bool (p.l.getD (0 + i) (V.enc Kd.rcd).dflt).hit,
                                    AV.int IntKind.i64 (p.l.getD (0 + i) (V.enc Kd.rcd).dflt).err]),
                              (0, Blk.ro Kd.rcd p.l)],
                          nx := 5, nt := 81, tl := [3, 1, 0, 1, 2, 3, 4, 5, 6, 7, 8, 9, 10, 11, 12, 13, 14, 15, 16] : St V }
                        (fun q => I202 q 0) y)
                    (Out.all PK2 fun y_1 =>
                      Out.asm (y y_1)
                        (Out.all Unit fun y =>
                          Out.asm ((fun x x_1 => True) y_1 y)
                            (Out.ite ((y_1.l.getD y_1.2 r0).what == 1)
                              (Out.ite (!(lastTo y_1.l y_1.2 (y_1.l.getD y_1.2 r0).thread).isSome)
                                (Out.ite ((y_1.l.getD y_1.2 r0).op == 0)
                                  (Out.ite (!(y_1.l.getD y_1.2 r0).err == 0)
                                    (Out.stop EX.rt
                                      { env := [(0, AV.sl false 0 0 8 y_1.l.length y_1.toPL.2), (2, AV.ff), (3, AV.int IntKind.i64 (↑y_1.2 : Int))],
                                        heap := [(0, Blk.ro Kd.rcd y_1.l)], nx := 7, nt := 81,
                                        tl := [6, 5, 3, 1, 0, 1, 2, 3, 4, 5, 6, 7, 8, 9, 10, 11, 12, 13, 14, 15, 16] : St V })
                                    (Out.stop EX.nx
                                      {
                                        env :=
                                          [(0, AV.sl false 0 0 8 y_1.l.length y_1.toPL.2), (2, AV.und),
                                            (3, AV.int IntKind.i64 (IntKind.i64.wrap ((↑y_1.2 : Int) + 1)))],
                                        heap := [(0, Blk.ro Kd.rcd y_1.l)], nx := 7, nt := 81,
                                        tl := [6, 5, 3, 1, 0, 1, 2, 3, 4, 5, 6, 7, 8, 9, 10, 11, 12, 13, 14, 15, 16] : St V }))
                                  (Out.stop EX.rt
                                    { env := [(0, AV.sl false 0 0 8 y_1.l.length y_1.toPL.2), (2, AV.ff), (3, AV.int IntKind.i64 (↑y_1.2 : Int))],
                                      heap := [(0, Blk.ro Kd.rcd y_1.l)], nx := 7, nt := 81,
                                      tl := [6, 5, 3, 1, 0, 1, 2, 3, 4, 5, 6, 7, 8, 9, 10, 11, 12, 13, 14, 15, 16] : St V }))
                                (Out.ite (((lastTo y_1.l y_1.2 (y_1.l.getD y_1.2 r0).thread).getD r0).what == 3)
                                  (Out.ite ((y_1.l.getD y_1.2 r0).op == IntKind.i64.wrap (((lastTo y_1.l y_1.2 (y_1.l.getD y_1.2 r0).thread).getD r0).op + 1))
                                    (Out.ite (!(y_1.l.getD y_1.2 r0).err == 0)
                                      (Out.stop EX.rt
                                        { env := [(0, AV.sl false 0 0 8 y_1.l.length y_1.toPL.2), (2, AV.ff), (3, AV.int IntKind.i64 (↑y_1.2 : Int))],
                                          heap := [(0, Blk.ro Kd.rcd y_1.l)], nx := 7, nt := 81,
                                          tl := [6, 5, 3, 1, 0, 1, 2, 3, 4, 5, 6, 7, 8, 9, 10, 11, 12, 13, 14, 15, 16] : St V })
                                      (Out.stop EX.nx
                                        {
                                          env :=
                                            [(0, AV.sl false 0 0 8 y_1.l.length y_1.toPL.2), (2, AV.und),
                                              (3, AV.int IntKind.i64 (IntKind.i64.wrap ((↑y_1.2 : Int) + 1)))],
                                          heap := [(0, Blk.ro Kd.rcd y_1.l)], nx := 7, nt := 81,
                                          tl := [6, 5, 3, 1, 0, 1, 2, 3, 4, 5, 6, 7, 8, 9, 10, 11, 12, 13, 14, 15, 16] : St V }))
                                    (Out.stop EX.rt
                                      { env := [(0, AV.sl false 0 0 8 y_1.l.length y_1.toPL.2), (2, AV.ff), (3, AV.int IntKind.i64 (↑y_1.2 : Int))],
                                        heap := [(0, Blk.ro Kd.rcd y_1.l)], nx := 7, nt := 81,
                                        tl := [6, 5, 3, 1, 0, 1, 2, 3, 4, 5, 6, 7, 8, 9, 10, 11, 12, 13, 14, 15, 16] : St V }))
                                  (Out.stop EX.rt
                                    { env := [(0, AV.sl false 0 0 8 y_1.l.length y_1.toPL.2), (2, AV.ff), (3, AV.int IntKind.i64 (↑y_1.2 : Int))],
                                      heap := [(0, Blk.ro Kd.rcd y_1.l)], nx := 7, nt := 81,
                                      tl := [6, 5, 3, 1, 0, 1, 2, 3, 4, 5, 6, 7, 8, 9, 10, 11, 12, 13, 14, 15, 16] : St V })))
                              (Out.ite (!(lastTo y_1.l y_1.2 (y_1.l.getD y_1.2 r0).thread).isSome)
                                (Out.stop EX.rt
                                  { env := [(0, AV.sl false 0 0 8 y_1.l.length y_1.toPL.2), (2, AV.ff), (3, AV.int IntKind.i64 (↑y_1.2 : Int))],
                                    heap := [(0, Blk.ro Kd.rcd y_1.l)], nx := 7, nt := 81,
                                    tl := [6, 5, 3, 1, 0, 1, 2, 3, 4, 5, 6, 7, 8, 9, 10, 11, 12, 13, 14, 15, 16] : St V })
                                (Out.ite (((lastTo y_1.l y_1.2 (y_1.l.getD y_1.2 r0).thread).getD r0).what == 3)
                                  (Out.stop EX.rt
                                    { env := [(0, AV.sl false 0 0 8 y_1.l.length y_1.toPL.2), (2, AV.ff), (3, AV.int IntKind.i64 (↑y_1.2 : Int))],
                                      heap := [(0, Blk.ro Kd.rcd y_1.l)], nx := 7, nt := 81,
                                      tl := [6, 5, 3, 1, 0, 1, 2, 3, 4, 5, 6, 7, 8, 9, 10, 11, 12, 13, 14, 15, 16] : St V })
                                  (Out.ite ((y_1.l.getD y_1.2 r0).op != ((lastTo y_1.l y_1.2 (y_1.l.getD y_1.2 r0).thread).getD r0).op)
                                    (Out.stop EX.rt
                                      { env := [(0, AV.sl false 0 0 8 y_1.l.length y_1.toPL.2), (2, AV.ff), (3, AV.int IntKind.i64 (↑y_1.2 : Int))],
                                        heap := [(0, Blk.ro Kd.rcd y_1.l)], nx := 7, nt := 81,
                                        tl := [6, 5, 3, 1, 0, 1, 2, 3, 4, 5, 6, 7, 8, 9, 10, 11, 12, 13, 14, 15, 16] : St V })
                                    (Out.ite ((y_1.l.getD y_1.2 r0).act != ((lastTo y_1.l y_1.2 (y_1.l.getD y_1.2 r0).thread).getD r0).act)
                                      (Out.stop EX.rt
                                        { env := [(0, AV.sl false 0 0 8 y_1.l.length y_1.toPL.2), (2, AV.ff), (3, AV.int IntKind.i64 (↑y_1.2 : Int))],
                                          heap := [(0, Blk.ro Kd.rcd y_1.l)], nx := 7, nt := 81,
                                          tl := [6, 5, 3, 1, 0, 1, 2, 3, 4, 5, 6, 7, 8, 9, 10, 11, 12, 13, 14, 15, 16] : St V })
                                      (Out.ite ((y_1.l.getD y_1.2 r0).key != ((lastTo y_1.l y_1.2 (y_1.l.getD y_1.2 r0).thread).getD r0).key)
                                        (Out.stop EX.rt
                                          { env := [(0, AV.sl false 0 0 8 y_1.l.length y_1.toPL.2), (2, AV.ff), (3, AV.int IntKind.i64 (↑y_1.2 : Int))],
                                            heap := [(0, Blk.ro Kd.rcd y_1.l)], nx := 7, nt := 81,
                                            tl := [6, 5, 3, 1, 0, 1, 2, 3, 4, 5, 6, 7, 8, 9, 10, 11, 12, 13, 14, 15, 16] : St V })
                                        (Out.ite ((y_1.l.getD y_1.2 r0).what == 2)
                                          (Out.ite (((lastTo y_1.l y_1.2 (y_1.l.getD y_1.2 r0).thread).getD r0).what == 1)
                                            (Out.ite (!(y_1.l.getD y_1.2 r0).err == 0)
                                              (Out.stop EX.rt
                                                { env := [(0, AV.sl false 0 0 8 y_1.l.length y_1.toPL.2), (2, AV.ff), (3, AV.int IntKind.i64 (↑y_1.2 : Int))],
                                                  heap := [(0, Blk.ro Kd.rcd y_1.l)], nx := 7, nt := 81,
                                                  tl := [6, 5, 3, 1, 0, 1, 2, 3, 4, 5, 6, 7, 8, 9, 10, 11, 12, 13, 14, 15, 16] : St V })
                                              (Out.stop EX.nx
                                                {
                                                  env :=
                                                    [(0, AV.sl false 0 0 8 y_1.l.length y_1.toPL.2), (2, AV.und),
                                                      (3, AV.int IntKind.i64 (IntKind.i64.wrap ((↑y_1.2 : Int) + 1)))],
                                                  heap := [(0, Blk.ro Kd.rcd y_1.l)], nx := 7, nt := 81,
                                                  tl := [6, 5, 3, 1, 0, 1, 2, 3, 4, 5, 6, 7, 8, 9, 10, 11, 12, 13, 14, 15, 16] : St V }))
                                            (Out.stop EX.rt
                                              { env := [(0, AV.sl false 0 0 8 y_1.l.length y_1.toPL.2), (2, AV.ff), (3, AV.int IntKind.i64 (↑y_1.2 : Int))],
                                                heap := [(0, Blk.ro Kd.rcd y_1.l)], nx := 7, nt := 81,
                                                tl := [6, 5, 3, 1, 0, 1, 2, 3, 4, 5, 6, 7, 8, 9, 10, 11, 12, 13, 14, 15, 16] : St V }))
                                          (Out.ite ((y_1.l.getD y_1.2 r0).what != 3)
                                            (Out.stop EX.rt
                                              { env := [(0, AV.sl false 0 0 8 y_1.l.length y_1.toPL.2), (2, AV.ff), (3, AV.int IntKind.i64 (↑y_1.2 : Int))],
                                                heap := [(0, Blk.ro Kd.rcd y_1.l)], nx := 7, nt := 81,
                                                tl := [6, 5, 3, 1, 0, 1, 2, 3, 4, 5, 6, 7, 8, 9, 10, 11, 12, 13, 14, 15, 16] : St V })
                                            (Out.ite (((lastTo y_1.l y_1.2 (y_1.l.getD y_1.2 r0).thread).getD r0).what == 1)
                                              (Out.stop EX.nx
                                                {
                                                  env :=
                                                    [(0, AV.sl false 0 0 8 y_1.l.length y_1.toPL.2), (2, AV.und),
                                                      (3, AV.int IntKind.i64 (IntKind.i64.wrap ((↑y_1.2 : Int) + 1)))],
                                                  heap := [(0, Blk.ro Kd.rcd y_1.l)], nx := 7, nt := 81,
                                                  tl := [6, 5, 3, 1, 0, 1, 2, 3, 4, 5, 6, 7, 8, 9, 10, 11, 12, 13, 14, 15, 16] : St V })
                                              (Out.ite
                                                ((y_1.l.getD y_1.2 r0).act == ((lastTo y_1.l y_1.2 (y_1.l.getD y_1.2 r0).thread).getD r0).act &&
                                                  ((y_1.l.getD y_1.2 r0).key == ((lastTo y_1.l y_1.2 (y_1.l.getD y_1.2 r0).thread).getD r0).key &&
                                                    ((y_1.l.getD y_1.2 r0).value == ((lastTo y_1.l y_1.2 (y_1.l.getD y_1.2 r0).thread).getD r0).value &&
                                                      ((y_1.l.getD y_1.2 r0).hit == ((lastTo y_1.l y_1.2 (y_1.l.getD y_1.2 r0).thread).getD r0).hit && true))))
                                                (Out.ite (!(y_1.l.getD y_1.2 r0).err == 0)
                                                  (Out.stop EX.rt
                                                    { env := [(0, AV.sl false 0 0 8 y_1.l.length y_1.toPL.2), (2, AV.ff), (3, AV.int IntKind.i64 (↑y_1.2 : Int))],
                                                      heap := [(0, Blk.ro Kd.rcd y_1.l)], nx := 7, nt := 81,
                                                      tl := [6, 5, 3, 1, 0, 1, 2, 3, 4, 5, 6, 7, 8, 9, 10, 11, 12, 13, 14, 15, 16] : St V })
                                                  (Out.stop EX.nx
                                                    {
                                                      env :=
                                                        [(0, AV.sl false 0 0 8 y_1.l.length y_1.toPL.2), (2, AV.und),
                                                          (3, AV.int IntKind.i64 (IntKind.i64.wrap ((↑y_1.2 : Int) + 1)))],
                                                      heap := [(0, Blk.ro Kd.rcd y_1.l)], nx := 7, nt := 81,
                                                      tl := [6, 5, 3, 1, 0, 1, 2, 3, 4, 5, 6, 7, 8, 9, 10, 11, 12, 13, 14, 15, 16] : St V }))
                                                (Out.stop EX.rt
                                                  { env := [(0, AV.sl false 0 0 8 y_1.l.length y_1.toPL.2), (2, AV.ff), (3, AV.int IntKind.i64 (↑y_1.2 : Int))],
                                                    heap := [(0, Blk.ro Kd.rcd y_1.l)], nx := 7, nt := 81,
                                                    tl := [6, 5, 3, 1, 0, 1, 2, 3, 4, 5, 6, 7, 8, 9, 10, 11, 12, 13, 14, 15, 16] : St V }))))))))))))))))))))
    (Out.stop (EX.ex 0)
      { env := [(0, AV.sl false 0 0 8 p.l.length p.2), (2, AV.und), (3, AV.int IntKind.i64 (↑i : Int))], heap := [(0, Blk.ro Kd.rcd p.l)], nx := 1, nt := 81,
        tl := [0, 1, 2, 3, 4, 5, 6, 7, 8, 9, 10, 11, 12, 13, 14, 15, 16] : St V }) := by kernel_rfl

theorem t20 (l : List Rec) (c : Nat) : runF cfg200 60 20 Try.f20 [.sl false 0 0 8 l.length c] [(0, .ro Kd.rcd l)] 1 =
  Out.need (LoopFor Try.prog 20 0 (loopOf Try.f20 0) L200)
    (Out.ex (PL → Prop) fun y =>
      Out.need
        (1 ≤ 1 ∧
          SImp 1
            { env := [(0, AV.sl false 0 0 8 l.length c), (2, AV.ff), (3, AV.lit IntKind.i64 0)], heap := [(0, Blk.ro Kd.rcd l)], nx := 1, nt := 81, tl := [] :
              St V }
            (fun p => I200 p 0) y)
        (Out.all PL fun y_1 =>
          Out.asm (y y_1)
            ((Out.all Unit fun y => Out.asm ((fun p x => hRight p.l = true) y_1 y) (Out.fin AV.tt [(0, Blk.ro Kd.rcd y_1.l)] 1)).both
              (Out.all Unit fun y => Out.asm ((fun p x => hRight p.l = false) y_1 y) (Out.fin AV.ff [(0, Blk.ro Kd.rcd y_1.l)] 1))))) := by kernel_rfl

end Sx
end Go.Proofs.Ytemcdjdglcceiaa

/-
  The document's answer of what is right: as what is read.
-/
namespace Go.Proofs.Ytemcdjdglcceiaa
namespace Sx
open Go
set_option linter.unusedSimpArgs false
set_option linter.unusedVariables false

theorem cfgN_ok : cfgN.ok := by
  refine ⟨tab_met, kinds_met, mixed_met, fun g fn h => ?_, hooksI_ok⟩
  unfold cfgN fnsN at h
  simp only at h
  split at h <;> cases h
  exact ⟨by kernel_rfl, by kernel_rfl⟩
theorem cfg202_ok : cfg202.ok := ⟨cfgN_ok.τ, cfgN_ok.κ, cfgN_ok.mixed, cfgN_ok.fns, cfgN_ok.hooks⟩
theorem cfg200_ok : cfg200.ok := ⟨cfgN_ok.τ, cfgN_ok.κ, cfgN_ok.mixed, cfgN_ok.fns, cfgN_ok.hooks⟩

theorem body202 (q : PK2) (k : Nat) (hk : k ≤ q.i) (Q : EX → St V → Prop) (F : AV → Heap V → Nat → Prop)
    (hnx : ∀ ST : St V, k < q.i → Wk 5 [] ST (I202 q (k + 1)) → Q .nx ST) (hex : ∀ ST : St V, k = q.i → Wk 5 [] ST (I202 q k) → Q (.ex 2) ST) :
    (runCode cfgN 60 20 (loopOf Try.f20 2) (I202 q k) (stopT (trimSt [0, 3, 4, 5, 6, 7] [0, 1, 3]))).holds ⟨Q, F⟩ := by
  rw [b202]
  have hb := q.hb
  have hi := q.hi
  have hw : k < q.i → IntKind.wrap .i64 ((k : Int) + 1) = ((k + 1 : Nat) : Int) := fun h => wrap_nat (by omega)
  have hY : (q.l.getD k (V.enc Kd.rcd).dflt).thread = (q.l.getD q.i r0).thread → 0 ≤ (q.l.getD k (V.enc Kd.rcd).dflt).op → lastTo q.l (k + 1) (q.l.getD q.i r0).thread = some (q.l.getD k (V.enc Kd.rcd).dflt) := fun h1 h2 => if_pos ⟨h1, h2⟩
  have hN : ¬ ((q.l.getD k (V.enc Kd.rcd).dflt).thread = (q.l.getD q.i r0).thread ∧ 0 ≤ (q.l.getD k (V.enc Kd.rcd).dflt).op) → lastTo q.l (k + 1) (q.l.getD q.i r0).thread = lastTo q.l k (q.l.getD q.i r0).thread := fun h => if_neg h
  simp only [Out.holds, Nat.zero_add, decide_eq_true_eq, decide_eq_false_iff_not, beq_iff_eq, beq_eq_false_iff_ne]
  have blk : ∀ {a b : Rec}, a = b → BSub (some (.cells 30 (Rec.enc a) : Blk V)) (.cells 30 (Rec.enc b)) := fun h => by rw [h]; exact .same _
  have stay : ∀ ST : St V, k < q.i → lastTo q.l (k + 1) (q.l.getD q.i r0).thread = lastTo q.l k (q.l.getD q.i r0).thread → Wk 5 [] ST (I202 q (k + 1)) → Q .nx ST := fun ST h _ hw => hnx ST h hw
  refine ⟨fun h => ⟨by omega, by omega, fun h2 => ⟨by omega, by omega, fun h3 => ⟨by omega, by omega, hnx _ (by omega) ?_⟩, fun h3 => hnx _ (by omega) ?_⟩, fun h2 => hnx _ (by omega) ?_⟩, fun h => hex _ (by omega) ?_⟩
  · have e := hY h2 h3
    exact ⟨⟨AV.sub_same _, AV.sub_same _, AV.sub_same _, AV.sub_same _, AV.sub_tt (by rw [e]; rfl), AV.sub_int (hw (by omega)), trivial⟩, ⟨blk (by rw [e]; rfl), .same _, .same _, trivial⟩, rfl, tl_ok rfl, ⟨.inl (in_ok rfl), .inr rfl, .inr rfl, trivial⟩, ⟨Nat.le_of_ble_eq_true rfl, rfl⟩⟩
  · have e := hN (fun hh => h3 hh.2)
    exact ⟨⟨AV.sub_same _, AV.sub_same _, AV.sub_same _, AV.sub_same _, AV.sub_bool (by rw [e]), AV.sub_int (hw (by omega)), trivial⟩, ⟨blk (by rw [e]), .same _, .same _, trivial⟩, rfl, tl_ok rfl, ⟨.inl (in_ok rfl), .inr rfl, .inr rfl, trivial⟩, ⟨Nat.le_of_ble_eq_true rfl, rfl⟩⟩
  · have e := hN (fun hh => h2 hh.1)
    exact ⟨⟨AV.sub_same _, AV.sub_same _, AV.sub_same _, AV.sub_same _, AV.sub_bool (by rw [e]), AV.sub_int (hw (by omega)), trivial⟩, ⟨blk (by rw [e]), .same _, .same _, trivial⟩, rfl, tl_ok rfl, ⟨.inl (in_ok rfl), .inr rfl, .inr rfl, trivial⟩, ⟨Nat.le_of_ble_eq_true rfl, rfl⟩⟩
  · exact ⟨⟨AV.sub_same _, AV.sub_same _, AV.sub_same _, AV.sub_same _, AV.sub_same _, AV.sub_same _, trivial⟩, ⟨.same _, .same _, .same _, trivial⟩, rfl, tl_ok rfl, ⟨.inl (in_ok rfl), .inr rfl, .inr rfl, trivial⟩, ⟨Nat.le_of_ble_eq_true rfl, rfl⟩⟩
theorem l202_ok : LoopOk Try.prog 2 (loopOf Try.f20 2) L202 := by
  refine trimLoop_ok (trim_ok _ _) (loopTH_ok (C := cfgN) cfgN_ok (f := 20) (n := 60) (trim_ok [0, 3, 4, 5, 6, 7] [0, 1, 3]) 5 I202 (fun q k => k ≤ q.i) (fun _ => 0) (fun q k => q.i - k) (fun _ (_ : Unit) => True) (fun q _ => I202 q q.i) (fun q => Nat.zero_le _) ?_)
  intro q k hk
  exact body202 q k hk _ _ (fun ST hlt hw => SImp.of_wk (k + 1) hw ⟨hlt, by omega⟩) (fun ST he hw => ⟨rfl, SImp.of_wk () (by subst he; exact hw) trivial⟩)

theorem body200 (p : PL) (i : Nat) (hi : i ≤ p.l.length) (Q : EX → St V → Prop) (F : AV → Heap V → Nat → Prop)
    (hrt : ∀ ST : St V, i < p.l.length → ¬ okAt p.l i → Wk 1 [] ST (R200 p) → Q .rt ST)
    (hnx : ∀ ST : St V, i < p.l.length → okAt p.l i → Wk 1 [] ST (I200 p (i + 1)) → Q .nx ST) (hex : ∀ ST : St V, i = p.l.length → Wk 1 [] ST (I200 p i) → Q (.ex 0) ST) :
    (runCode cfg202 60 20 (loopOf Try.f20 0) (I200 p i) (stopT (trimSt [0, 2, 3] [0]))).holds ⟨Q, F⟩ := by
  rw [b200]
  have hb := p.hb
  have hw : i < p.l.length → IntKind.wrap .i64 ((i : Int) + 1) = ((i + 1 : Nat) : Int) := fun h => wrap_nat (by omega)
  unfold okAt at hrt hnx
  rw [show (0 + i) = i from Nat.zero_add i, show p.l.getD i (V.enc Kd.rcd).dflt = p.l.getD i r0 from rfl]
  simp only [Out.holds, Nat.zero_add, decide_eq_true_eq, decide_eq_false_iff_not, beq_iff_eq, beq_eq_false_iff_ne, bne_iff_ne, bne_eq_false_iff_eq, Bool.not_eq_true', Bool.not_eq_false', Bool.and_true, Bool.and_eq_true, Bool.and_eq_false_imp]
  have tl0 : BSub (some (.cells 30 [.lit .i64 0, .lit .i64 0, .lit .i64 0, .lit .i64 0, .lit .i64 0, .lit .i64 0, .ff, .lit .i64 0] : Blk V)) (.cells 30 (Rec.enc r0)) :=
    BSub.cells 30 _ _ (AV.subL_cons AV.sub_lit' (AV.subL_cons AV.sub_lit' (AV.subL_cons AV.sub_lit' (AV.subL_cons AV.sub_lit' (AV.subL_cons AV.sub_lit' (AV.subL_cons AV.sub_lit' (AV.subL_cons (AV.sub_ff rfl) (AV.subL_cons AV.sub_lit' AV.subL_nil))))))))
  by_cases hlt : i < p.l.length
  · refine ⟨fun h => ⟨by omega, by omega, ?_⟩, fun h => absurd hlt (by omega)⟩
    refine ⟨fun h1 => hrt _ hlt (fun hh => by omega) ⟨⟨AV.sub_same _, trivial⟩, ⟨.same _, trivial⟩, rfl, tl_ok rfl, ⟨.inr rfl, trivial⟩, ⟨Nat.le_of_ble_eq_true rfl, rfl⟩⟩, fun h1 => ⟨fun h2 => hrt _ hlt (fun hh => by omega) ⟨⟨AV.sub_same _, trivial⟩, ⟨.same _, trivial⟩, rfl, tl_ok rfl, ⟨.inr rfl, trivial⟩, ⟨Nat.le_of_ble_eq_true rfl, rfl⟩⟩, fun h2 => ⟨fun h3 => ?_, fun h3 => ?_⟩⟩⟩
    · simp only [if_pos h3] at hrt hnx
      repeat' first | apply And.intro | intro _
      all_goals first
        | exact hrt _ hlt (fun hh => by omega) ⟨⟨AV.sub_same _, trivial⟩, ⟨.same _, trivial⟩, rfl, tl_ok rfl, ⟨.inr rfl, trivial⟩, ⟨Nat.le_of_ble_eq_true rfl, rfl⟩⟩
        | exact hnx _ hlt (by omega) ⟨⟨AV.sub_same _, AV.sub_int (hw hlt), trivial⟩, ⟨.same _, trivial⟩, rfl, tl_ok rfl, ⟨.inr rfl, trivial⟩, ⟨Nat.le_of_ble_eq_true rfl, rfl⟩⟩
    · refine ⟨l202_ok, fun q => q = ⟨p, i, hlt⟩, ⟨Nat.le_refl _, SImp.of_wk (ren := []) ⟨p, i, hlt⟩ ⟨⟨AV.sub_same _, AV.sub_same _, AV.sub_same _, AV.sub_same _, AV.sub_ff rfl, AV.sub_lit', trivial⟩, ⟨tl0, .same _, .same _, trivial⟩, rfl, tl_ok rfl, ⟨.inl (in_ok rfl), .inl (in_ok rfl), .inr rfl, trivial⟩, ⟨Nat.le_of_ble_eq_true rfl, rfl⟩⟩ rfl⟩, ?_⟩
      rintro _ rfl _ _
      dsimp only
      simp only [if_neg h3] at hrt hnx
      generalize p.l.getD i r0 = r at *
      generalize lastTo p.l i r.thread = w at *
      unfold nextOk at hrt hnx
      have ht : 0 ≤ r.thread ∧ r.thread ≤ 63 := by omega
      cases w with
      | none =>
        simp only [Option.isSome_none, Bool.not_false, Option.getD_none, true_implies, Bool.true_eq_false, Bool.false_eq_true, false_implies, and_true, forall_const]
        repeat' first | apply And.intro | intro _
        all_goals first
          | exact hrt _ hlt (fun hh => by simp_all) ⟨⟨AV.sub_same _, trivial⟩, ⟨.same _, trivial⟩, rfl, tl_ok rfl, ⟨.inr rfl, trivial⟩, ⟨Nat.le_of_ble_eq_true rfl, rfl⟩⟩
          | exact hnx _ hlt (by simp_all) ⟨⟨AV.sub_same _, AV.sub_int (hw hlt), trivial⟩, ⟨.same _, trivial⟩, rfl, tl_ok rfl, ⟨.inr rfl, trivial⟩, ⟨Nat.le_of_ble_eq_true rfl, rfl⟩⟩
          | skip
      | some x =>
        simp only [Option.isSome_some, Bool.not_true, Option.getD_some, true_implies, Bool.true_eq_false, Bool.false_eq_true, false_implies, true_and, forall_const]
        repeat' first | apply And.intro | intro _
        all_goals first
          | exact hrt _ hlt (fun hh => by simp_all) ⟨⟨AV.sub_same _, trivial⟩, ⟨.same _, trivial⟩, rfl, tl_ok rfl, ⟨.inr rfl, trivial⟩, ⟨Nat.le_of_ble_eq_true rfl, rfl⟩⟩
          | exact hnx _ hlt (by simp_all) ⟨⟨AV.sub_same _, AV.sub_int (hw hlt), trivial⟩, ⟨.same _, trivial⟩, rfl, tl_ok rfl, ⟨.inr rfl, trivial⟩, ⟨Nat.le_of_ble_eq_true rfl, rfl⟩⟩
          | skip
  · exact ⟨fun h => absurd h (by omega), fun h => hex _ (by omega) ⟨⟨AV.sub_same _, AV.sub_same _, trivial⟩, ⟨.same _, trivial⟩, rfl, tl_ok rfl, ⟨.inr rfl, trivial⟩, ⟨Nat.le_of_ble_eq_true rfl, rfl⟩⟩⟩

theorem l200_ok : LoopOk Try.prog 0 (loopOf Try.f20 0) L200 := by
  refine trimLoop_ok (trim_ok _ _) (loopT_ok (C := cfg202) cfg202_ok (f := 20) (n := 60) (trim_ok [0, 2, 3] [0]) 1 I200 (fun p i => i ≤ p.l.length ∧ ∀ j, j < i → okAt p.l j) (fun _ => 0) (fun p i => p.l.length - i) (fun p (_ : Unit) => hRight p.l = true) (fun p _ => I200 p p.l.length) (fun p (_ : Unit) => hRight p.l = false) (fun p _ => R200 p) (fun p => ⟨Nat.zero_le _, fun j h => by omega⟩) ?_)
  intro p i ⟨hi, ha⟩
  refine body200 p i hi _ _ (fun ST hlt hn hw => SImp.of_wk () hw ?_) (fun ST hlt hn hw => SImp.of_wk (i + 1) hw ⟨⟨hlt, fun j hj => ?_⟩, by omega⟩) (fun ST he hw => ⟨rfl, SImp.of_wk () (by subst he; exact hw) ?_⟩)
  · cases h : hRight p.l with
    | false => rfl
    | true => exact absurd (right_ok.1 h i hlt) hn
  · rcases Nat.lt_or_ge j i with h | h
    · exact ha j h
    · have : j = i := by omega
      subst this; exact hn
  · subst he; exact right_ok.2 ha
theorem hRightRef : HookOk Try.prog 20 (hookFree [.rows Kd.rcd] runRight) := by
  refine free_hook (C := cfg200) cfg200_ok (n := 60) (fn := Try.f20) ⟨by kernel_rfl, by kernel_rfl⟩ (by kernel_rfl) ?_
  intro M ar K0 H
  unfold runRight at H
  split at H
  · rename_i l c
    obtain ⟨hb, H⟩ := H
    refine ⟨show 1 ≤ _ by decide +kernel, ?_⟩
    show (runF cfg200 60 20 Try.f20 [.sl false 0 0 8 l.length c] [(0, .ro Kd.rcd l)] 1).holds _
    rw [t20]
    refine ⟨l200_ok, fun p => p = ⟨l, c, hb⟩, ⟨Nat.le_refl _, SImp.of_wk (ren := []) ⟨l, c, hb⟩ ?_ rfl⟩, ?_⟩
    · exact ⟨⟨AV.sub_same _, AV.sub_lit', trivial⟩, ⟨.same _, trivial⟩, rfl, tl_ok rfl, ⟨.inr rfl, trivial⟩, ⟨Nat.le_of_ble_eq_true rfl, rfl⟩⟩
    · rintro _ rfl
      exact ⟨fun _ h => ⟨_, _, H, endPlain (AV.sub_tt h) rfl⟩, fun _ h => ⟨_, _, H, endPlain (AV.sub_ff h) rfl⟩⟩
  · exact H.elim

end Sx
end Go.Proofs.Ytemcdjdglcceiaa

/-
  The documents answer of calls: the runs of the machine.
-/
namespace Go.Proofs.Ytemcdjdglcceiaa
namespace Sx
open Go
set_option maxRecDepth 100000
set_option linter.unusedVariables false

def hooksR : Nat → Option (HookS V) := fun g => match g with
  | 20 => some (hookFree [.rows Kd.rcd] runRight)
  | g => hooksI g
structure PB extends PL where
  ok : Bool
def I160 (p : PB) (x : Nat × Nat) : St V := ⟨[(0, .sl false 0 0 8 p.l.length p.c), (3, .bool p.ok), (4, .sl false 1 0 5 (refCallsTo p.l x.1).length ((refCallsTo p.l x.1).length + x.2)), (5, .int .i64 (x.1 : Int))],
  [(1, .arr 35 Kd.cal (refCallsTo p.l x.1) x.2), (0, .ro Kd.rcd p.l)], 2, 92, TL⟩
structure PE extends PB where
  n : Nat
  hn : n < l.length
  cs : List Cal
  sp : Nat
  hc : cs.length ≤ n
def updTo (r : Rec) (n : Nat) (cs : List Cal) (k : Nat) : List Cal := (cs.take k).map (refUpd r n) ++ cs.drop k
def I162 (q : PE) (k : Nat) : St V := ⟨[(0, .sl false 0 0 8 q.l.length q.c), (3, .bool q.ok), (4, .sl false 1 0 5 q.cs.length (q.cs.length + q.sp)), (5, .int .i64 (q.n : Int)), (6, .int .i64 (k : Int))],
  [(1, .arr 35 Kd.cal (updTo (q.l.getD q.n r0) q.n q.cs k) q.sp), (0, .ro Kd.rcd q.l)], 2, 92, TL⟩
def L162 : LoopS V := trimLoop (trimSt [0, 3, 4, 5, 6] [0, 1]) (loopH 2 (fun q : PE => I162 q 0) (fun _ (_ : Unit) => True) (fun q _ => I162 q q.cs.length))
def outOf (p : PB) : List Cal := if p.ok then refCallsTo p.l p.l.length else []
def E160 (p : PB) (sp : Nat) : St V := ⟨[(4, .sl false 1 0 5 (outOf p).length ((outOf p).length + sp))], [(1, .arr 35 Kd.cal (outOf p) sp), (0, .ro Kd.rcd p.l)], 2, 92, TL⟩
def L160 : LoopS V := trimLoop (trimSt [0, 3, 4, 5] [0]) (loopH 1 (fun p : PB => I160 p (0, 0)) (fun _ (_ : Nat) => True) (fun p sp => E160 p sp))
noncomputable def cfgR : Cfg Try.prog V := ⟨tab, kinds, fun _ => none, hooksR, fun _ _ => none⟩
noncomputable def cfg162 : Cfg Try.prog V := ⟨tab, kinds, fun _ => none, hooksR, fun f id => match f, id with | 16, 2 => some L162 | _, _ => none⟩
noncomputable def cfg160 : Cfg Try.prog V := ⟨tab, kinds, fun _ => none, hooksR, fun f id => match f, id with | 16, 0 => some L160 | _, _ => none⟩
theorem b162 (q : PE) (k : Nat) : runCode cfgR 60 16 (loopOf Try.f16 2) (I162 q k) (stopT (trimSt [0, 3, 4, 5, 6] [0, 1])) =
  Out.ite (decide ((↑k : Int) < (↑q.cs.length : Int)))
    (Out.need (0 ≤ (↑k : Int) ∧ (↑k : Int) < (↑q.cs.length : Int))
      (Out.need (0 + k < (updTo (q.l.getD q.2 r0) q.2 q.cs k).length)
        (Out.need (0 ≤ (↑q.2 : Int) ∧ (↑q.2 : Int) < (↑q.l.length : Int))
          (Out.need (0 + q.2 < q.l.length)
            (Out.ite (((updTo (q.l.getD q.2 r0) q.2 q.cs k).getD (0 + k) (V.enc Kd.cal).dflt).thread == (q.l.getD (0 + q.2) (V.enc Kd.rcd).dflt).thread)
              (Out.need (0 ≤ (↑k : Int) ∧ (↑k : Int) < (↑q.cs.length : Int))
                (Out.need (0 + k < (updTo (q.l.getD q.2 r0) q.2 q.cs k).length)
                  (Out.need (0 ≤ (↑q.2 : Int) ∧ (↑q.2 : Int) < (↑q.l.length : Int))
                    (Out.need (0 + q.2 < q.l.length)
                      (Out.ite (((updTo (q.l.getD q.2 r0) q.2 q.cs k).getD (0 + k) (V.enc Kd.cal).dflt).op == (q.l.getD (0 + q.2) (V.enc Kd.rcd).dflt).op)
                        (Out.need (0 ≤ (↑q.2 : Int) ∧ (↑q.2 : Int) < (↑q.l.length : Int))
                          (Out.need (0 + q.2 < q.l.length)
                            (Out.ite ((q.l.getD (0 + q.2) (V.enc Kd.rcd).dflt).what == 2)
                              (Out.need (0 ≤ (↑k : Int) ∧ (↑k : Int) < (↑q.cs.length : Int))
                                (Out.need (0 + k < (updTo (q.l.getD q.2 r0) q.2 q.cs k).length)
                                  (Out.stop EX.nx
                                    {
                                      env :=
                                        [(0, AV.sl false 0 0 8 q.l.length q.toPL.2), (3, AV.bool q.ok), (4, AV.sl false 1 0 5 q.cs.length (q.cs.length + q.5)),
                                          (5, AV.int IntKind.i64 (↑q.2 : Int)), (6, AV.int IntKind.i64 (IntKind.i64.wrap ((↑k : Int) + 1)))],
                                      heap :=
                                        [(1,
                                            Blk.arr 35 Kd.cal
                                              ((updTo (q.l.getD q.2 r0) q.2 q.cs k).set (0 + k)
                                                { thread := ((updTo (q.l.getD q.2 r0) q.2 q.cs k).getD (0 + k) (V.enc Kd.cal).dflt).thread,
                                                  op := ((updTo (q.l.getD q.2 r0) q.2 q.cs k).getD (0 + k) (V.enc Kd.cal).dflt).op,
                                                  frm := ((updTo (q.l.getD q.2 r0) q.2 q.cs k).getD (0 + k) (V.enc Kd.cal).dflt).frm, at_ := (↑q.2 : Int),
                                                  to_ := ((updTo (q.l.getD q.2 r0) q.2 q.cs k).getD (0 + k) (V.enc Kd.cal).dflt).to_ : Cal })
                                              q.5),
                                          (0, Blk.ro Kd.rcd q.l)],
                                      nx := 3, nt := 92, tl := [1, 0, 1, 2, 3, 4, 5, 6, 7, 8, 9, 10, 11, 12, 13, 14, 15, 16] : St V })))
                              (Out.need (0 ≤ (↑k : Int) ∧ (↑k : Int) < (↑q.cs.length : Int))
                                (Out.need (0 + k < (updTo (q.l.getD q.2 r0) q.2 q.cs k).length)
                                  (Out.stop EX.nx
                                    {
                                      env :=
                                        [(0, AV.sl false 0 0 8 q.l.length q.toPL.2), (3, AV.bool q.ok), (4, AV.sl false 1 0 5 q.cs.length (q.cs.length + q.5)),
                                          (5, AV.int IntKind.i64 (↑q.2 : Int)), (6, AV.int IntKind.i64 (IntKind.i64.wrap ((↑k : Int) + 1)))],
                                      heap :=
                                        [(1,
                                            Blk.arr 35 Kd.cal
                                              ((updTo (q.l.getD q.2 r0) q.2 q.cs k).set (0 + k)
                                                { thread := ((updTo (q.l.getD q.2 r0) q.2 q.cs k).getD (0 + k) (V.enc Kd.cal).dflt).thread,
                                                  op := ((updTo (q.l.getD q.2 r0) q.2 q.cs k).getD (0 + k) (V.enc Kd.cal).dflt).op,
                                                  frm := ((updTo (q.l.getD q.2 r0) q.2 q.cs k).getD (0 + k) (V.enc Kd.cal).dflt).frm,
                                                  at_ := ((updTo (q.l.getD q.2 r0) q.2 q.cs k).getD (0 + k) (V.enc Kd.cal).dflt).at_, to_ := (↑q.2 : Int) : Cal })
                                              q.5),
                                          (0, Blk.ro Kd.rcd q.l)],
                                      nx := 3, nt := 92, tl := [1, 0, 1, 2, 3, 4, 5, 6, 7, 8, 9, 10, 11, 12, 13, 14, 15, 16] : St V }))))))
                        (Out.stop EX.nx
                          {
                            env :=
                              [(0, AV.sl false 0 0 8 q.l.length q.toPL.2), (3, AV.bool q.ok), (4, AV.sl false 1 0 5 q.cs.length (q.cs.length + q.5)),
                                (5, AV.int IntKind.i64 (↑q.2 : Int)), (6, AV.int IntKind.i64 (IntKind.i64.wrap ((↑k : Int) + 1)))],
                            heap := [(1, Blk.arr 35 Kd.cal (updTo (q.l.getD q.2 r0) q.2 q.cs k) q.5), (0, Blk.ro Kd.rcd q.l)], nx := 2, nt := 92,
                            tl := [0, 1, 2, 3, 4, 5, 6, 7, 8, 9, 10, 11, 12, 13, 14, 15, 16] : St V }))))))
              (Out.stop EX.nx
                {
                  env :=
                    [(0, AV.sl false 0 0 8 q.l.length q.toPL.2), (3, AV.bool q.ok), (4, AV.sl false 1 0 5 q.cs.length (q.cs.length + q.5)),
                      (5, AV.int IntKind.i64 (↑q.2 : Int)), (6, AV.int IntKind.i64 (IntKind.i64.wrap ((↑k : Int) + 1)))],
                  heap := [(1, Blk.arr 35 Kd.cal (updTo (q.l.getD q.2 r0) q.2 q.cs k) q.5), (0, Blk.ro Kd.rcd q.l)], nx := 2, nt := 92,
                  tl := [0, 1, 2, 3, 4, 5, 6, 7, 8, 9, 10, 11, 12, 13, 14, 15, 16] : St V }))))))
    (Out.stop (EX.ex 2)
      {
        env :=
          [(0, AV.sl false 0 0 8 q.l.length q.toPL.2), (3, AV.bool q.ok), (4, AV.sl false 1 0 5 q.cs.length (q.cs.length + q.5)),
            (5, AV.int IntKind.i64 (↑q.2 : Int)), (6, AV.int IntKind.i64 (↑k : Int))],
        heap := [(1, Blk.arr 35 Kd.cal (updTo (q.l.getD q.2 r0) q.2 q.cs k) q.5), (0, Blk.ro Kd.rcd q.l)], nx := 2, nt := 92,
        tl := [0, 1, 2, 3, 4, 5, 6, 7, 8, 9, 10, 11, 12, 13, 14, 15, 16] : St V }) := by kernel_rfl

theorem b160 (p : PB) (x : Nat × Nat) : runCode cfg162 60 16 (loopOf Try.f16 0) (I160 p x) (stopT (trimSt [0, 3, 4, 5] [0, 1, 3])) =
  Out.ite (decide ((↑x.1 : Int) < (↑p.l.length : Int)))
    (Out.ite p.ok
      (Out.need (0 ≤ (↑x.1 : Int) ∧ (↑x.1 : Int) < (↑p.l.length : Int))
        (Out.need (0 + x.1 < p.l.length)
          (Out.ite (decide ((p.l.getD (0 + x.1) (V.enc Kd.rcd).dflt).op < 0))
            (Out.stop EX.nx
              {
                env :=
                  [(0, AV.sl false 0 0 8 p.l.length p.toPL.2), (3, AV.bool p.ok),
                    (4, AV.sl false 1 0 5 (refCallsTo p.l x.1).length ((refCallsTo p.l x.1).length + x.2)),
                    (5, AV.int IntKind.i64 (IntKind.i64.wrap ((↑x.1 : Int) + 1)))],
                heap := [(1, Blk.arr 35 Kd.cal (refCallsTo p.l x.1) x.2), (0, Blk.ro Kd.rcd p.l)], nx := 2, nt := 92,
                tl := [0, 1, 2, 3, 4, 5, 6, 7, 8, 9, 10, 11, 12, 13, 14, 15, 16] : St V })
            (Out.need (0 ≤ (↑x.1 : Int) ∧ (↑x.1 : Int) < (↑p.l.length : Int))
              (Out.need (0 + x.1 < p.l.length)
                (Out.ite ((p.l.getD (0 + x.1) (V.enc Kd.rcd).dflt).what == 1)
                  (Out.need (0 ≤ (↑x.1 : Int) ∧ (↑x.1 : Int) < (↑p.l.length : Int))
                    (Out.need (0 + x.1 < p.l.length)
                      (Out.need (0 ≤ (↑x.1 : Int) ∧ (↑x.1 : Int) < (↑p.l.length : Int))
                        (Out.need (0 + x.1 < p.l.length)
                          (Out.need
                            (0 = 0 ∧
                              (refCallsTo p.l x.1).length = (refCallsTo p.l x.1).length ∧
                                (refCallsTo p.l x.1).length + x.2 = (refCallsTo p.l x.1).length + x.2 ∧ ((refCallsTo p.l x.1).length + 1) * 40 ≤ 140737488355328)
                            (Out.all Nat fun y =>
                              Out.stop EX.nx
                                {
                                  env :=
                                    [(0, AV.sl false 0 0 8 p.l.length p.toPL.2), (3, AV.bool p.ok),
                                      (4, AV.sl false 3 0 5 ((refCallsTo p.l x.1).length + 1) ((refCallsTo p.l x.1).length + 1 + y)),
                                      (5, AV.int IntKind.i64 (IntKind.i64.wrap ((↑x.1 : Int) + 1)))],
                                  heap :=
                                    [(3,
                                        Blk.arr 35 Kd.cal
                                          (refCallsTo p.l x.1 ++
                                            [{ thread := (p.l.getD (0 + x.1) (V.enc Kd.rcd).dflt).thread, op := (p.l.getD (0 + x.1) (V.enc Kd.rcd).dflt).op,
                                                frm := (↑x.1 : Int), at_ := -1, to_ := -1 : Cal }])
                                          y),
                                      (0, Blk.ro Kd.rcd p.l)],
                                  nx := 4, nt := 92, tl := [2, 1, 0, 1, 2, 3, 4, 5, 6, 7, 8, 9, 10, 11, 12, 13, 14, 15, 16] : St V }))))))
                  (Out.need (LoopFor Try.prog 16 2 (loopOf Try.f16 2) L162)
                    (Out.ex (PE → Prop) fun y =>
                      Out.need
                        (2 ≤ 2 ∧
                          SImp 2
                            {
                              env :=
                                [(0, AV.sl false 0 0 8 p.l.length p.toPL.2), (3, AV.bool p.ok),
                                  (4, AV.sl false 1 0 5 (refCallsTo p.l x.1).length ((refCallsTo p.l x.1).length + x.2)), (5, AV.int IntKind.i64 (↑x.1 : Int)),
                                  (6, AV.lit IntKind.i64 0)],
                              heap := [(1, Blk.arr 35 Kd.cal (refCallsTo p.l x.1) x.2), (0, Blk.ro Kd.rcd p.l)], nx := 2, nt := 92,
                              tl := [0, 1, 2, 3, 4, 5, 6, 7, 8, 9, 10, 11, 12, 13, 14, 15, 16] : St V }
                            (fun q => I162 q 0) y)
                        (Out.all PE fun y_1 =>
                          Out.asm (y y_1)
                            (Out.all Unit fun y =>
                              Out.asm ((fun x x_1 => True) y_1 y)
                                (Out.stop EX.nx
                                  {
                                    env :=
                                      [(0, AV.sl false 0 0 8 y_1.l.length y_1.toPL.2), (3, AV.bool y_1.ok),
                                        (4, AV.sl false 1 0 5 y_1.cs.length (y_1.cs.length + y_1.5)),
                                        (5, AV.int IntKind.i64 (IntKind.i64.wrap ((↑y_1.2 : Int) + 1)))],
                                    heap := [(1, Blk.arr 35 Kd.cal (updTo (y_1.l.getD y_1.2 r0) y_1.2 y_1.cs y_1.cs.length) y_1.5), (0, Blk.ro Kd.rcd y_1.l)],
                                    nx := 2, nt := 92, tl := [0, 1, 2, 3, 4, 5, 6, 7, 8, 9, 10, 11, 12, 13, 14, 15, 16] : St V })))))))))))
      (Out.stop (EX.ex 0)
        {
          env :=
            [(0, AV.sl false 0 0 8 p.l.length p.toPL.2), (3, AV.bool p.ok),
              (4, AV.sl false 1 0 5 (refCallsTo p.l x.1).length ((refCallsTo p.l x.1).length + x.2)), (5, AV.int IntKind.i64 (↑x.1 : Int))],
          heap := [(1, Blk.arr 35 Kd.cal (refCallsTo p.l x.1) x.2), (0, Blk.ro Kd.rcd p.l)], nx := 2, nt := 92,
          tl := [0, 1, 2, 3, 4, 5, 6, 7, 8, 9, 10, 11, 12, 13, 14, 15, 16] : St V }))
    (Out.stop (EX.ex 0)
      {
        env :=
          [(0, AV.sl false 0 0 8 p.l.length p.toPL.2), (3, AV.bool p.ok), (4, AV.sl false 1 0 5 (refCallsTo p.l x.1).length ((refCallsTo p.l x.1).length + x.2)),
            (5, AV.int IntKind.i64 (↑x.1 : Int))],
        heap := [(1, Blk.arr 35 Kd.cal (refCallsTo p.l x.1) x.2), (0, Blk.ro Kd.rcd p.l)], nx := 2, nt := 92,
        tl := [0, 1, 2, 3, 4, 5, 6, 7, 8, 9, 10, 11, 12, 13, 14, 15, 16] : St V }) := by kernel_rfl

theorem t16 (l : List Rec) (c : Nat) : runF cfg160 60 16 Try.f16 [.sl false 0 0 8 l.length c] [(0, .ro Kd.rcd l)] 1 =
  Out.need (0 + l.length ≤ l.length)
    (Out.need ((List.take l.length (List.drop 0 l)).length ≤ 1099511627776)
      (Out.need (LoopFor Try.prog 16 0 (loopOf Try.f16 0) L160)
        (Out.ex (PB → Prop) fun y =>
          Out.need
            (1 ≤ 1 ∧
              SImp 1
                { env := [(0, AV.sl false 0 0 8 l.length c), (3, AV.bool (hRight (List.take l.length (List.drop 0 l)))), (4, AV.nilS), (5, AV.lit IntKind.i64 0)],
                  heap := [(0, Blk.ro Kd.rcd l)], nx := 1, nt := 92, tl := [] : St V }
                (fun p => I160 p (0, 0)) y)
            (Out.all PB fun y_1 =>
              Out.asm (y y_1)
                (Out.all Nat fun y =>
                  Out.asm ((fun x x_1 => True) y_1 y)
                    (Out.fin (AV.sl false 1 0 5 (outOf y_1).length ((outOf y_1).length + y)) [(1, Blk.arr 35 Kd.cal (outOf y_1) y), (0, Blk.ro Kd.rcd y_1.l)]
                      2)))))) := by kernel_rfl

end Sx
end Go.Proofs.Ytemcdjdglcceiaa

/-
  The document's answer of calls: as what is read.
-/
namespace Go.Proofs.Ytemcdjdglcceiaa
namespace Sx
open Go
set_option linter.unusedSimpArgs false
set_option linter.unusedVariables false

theorem cfgR_ok : cfgR.ok := by
  refine ⟨tab_met, kinds_met, mixed_met, fun g fn h => (by cases h), fun g H h => ?_⟩
  change hooksR g = some H at h
  unfold hooksR at h
  split at h
  · cases h; exact hRightRef
  · exact hooksI_ok _ _ h
theorem cfg162_ok : cfg162.ok := ⟨cfgR_ok.τ, cfgR_ok.κ, cfgR_ok.mixed, cfgR_ok.fns, cfgR_ok.hooks⟩
theorem cfg160_ok : cfg160.ok := ⟨cfgR_ok.τ, cfgR_ok.κ, cfgR_ok.mixed, cfgR_ok.fns, cfgR_ok.hooks⟩

theorem updTo_len (r : Rec) (n : Nat) (cs : List Cal) (k : Nat) : (updTo r n cs k).length = cs.length := by
  unfold updTo; simp only [List.length_append, List.length_map, List.length_take, List.length_drop]; omega
theorem updTo_getD (r : Rec) (n : Nat) (cs : List Cal) (k : Nat) (c : Cal) : (updTo r n cs k).getD k c = cs.getD k c := by
  unfold updTo
  rw [List.getD_eq_getElem?_getD, List.getD_eq_getElem?_getD]
  congr 1
  rcases Nat.lt_or_ge k cs.length with h | h
  · rw [List.getElem?_append_right (by simp only [List.length_map, List.length_take]; omega)]
    simp only [List.length_map, List.length_take]
    rw [Nat.min_eq_left (by omega), Nat.sub_self, List.getElem?_drop, Nat.add_zero]
  · rw [List.getElem?_eq_none (by simp only [List.length_append, List.length_map, List.length_take, List.length_drop]; omega), List.getElem?_eq_none h]
theorem updTo_set (r : Rec) (n : Nat) (cs : List Cal) (k : Nat) (h : k < cs.length) : updTo r n cs (k + 1) = (updTo r n cs k).set k (refUpd r n (cs.getD k c0)) := by
  have e1 : cs.drop k = cs[k] :: cs.drop (k + 1) := List.drop_eq_getElem_cons h
  have e2 : cs.getD k c0 = cs[k] := by rw [List.getD_eq_getElem?_getD, List.getElem?_eq_getElem h]; rfl
  unfold updTo
  rw [e1, e2, List.take_succ_eq_append_getElem h, List.map_append]
  rw [List.set_append_right _ _ (by simp only [List.length_map, List.length_take]; omega)]
  simp only [List.length_map, List.length_take]
  rw [Nat.min_eq_left (by omega), Nat.sub_self]
  simp only [List.map_cons, List.map_nil, List.set_cons_zero, List.append_assoc, List.cons_append, List.nil_append]
theorem updTo_stay (r : Rec) (n : Nat) (cs : List Cal) (k : Nat) (h : k < cs.length) (hc : refUpd r n (cs.getD k c0) = cs.getD k c0) : updTo r n cs (k + 1) = updTo r n cs k := by
  have e1 : cs.drop k = cs[k] :: cs.drop (k + 1) := List.drop_eq_getElem_cons h
  have e2 : cs.getD k c0 = cs[k] := by rw [List.getD_eq_getElem?_getD, List.getElem?_eq_getElem h]; rfl
  rw [e2] at hc
  unfold updTo
  rw [e1, List.take_succ_eq_append_getElem h, List.map_append, List.map_cons, hc]
  simp only [List.map_nil, List.append_assoc, List.cons_append, List.nil_append]
theorem updTo_all (r : Rec) (n : Nat) (cs : List Cal) : updTo r n cs cs.length = cs.map (refUpd r n) := by
  unfold updTo; rw [List.take_length, List.drop_length, List.append_nil]
theorem updTo_zero (r : Rec) (n : Nat) (cs : List Cal) : updTo r n cs 0 = cs := rfl

theorem body162 (q : PE) (k : Nat) (hk : k ≤ q.cs.length) (Q : EX → St V → Prop) (F : AV → Heap V → Nat → Prop)
    (hnx : ∀ ST : St V, k < q.cs.length → Wk 2 [] ST (I162 q (k + 1)) → Q .nx ST) (hex : ∀ ST : St V, k = q.cs.length → Wk 2 [] ST (I162 q k) → Q (.ex 2) ST) :
    (runCode cfgR 60 16 (loopOf Try.f16 2) (I162 q k) (stopT (trimSt [0, 3, 4, 5, 6] [0, 1]))).holds ⟨Q, F⟩ := by
  rw [b162]
  have hb := q.hb
  have hn := q.hn
  have hc := q.hc
  have hw : k < q.cs.length → IntKind.wrap .i64 ((k : Int) + 1) = ((k + 1 : Nat) : Int) := fun h => wrap_nat (by omega)
  have hul := updTo_len (q.l.getD q.n r0) q.n q.cs k
  rw [show (0 + q.n) = q.n from Nat.zero_add _, show (0 + k) = k from Nat.zero_add k]
  rw [show (updTo (q.l.getD q.n r0) q.n q.cs k).getD k (V.enc Kd.cal).dflt = q.cs.getD k c0 from updTo_getD _ _ _ _ _, show q.l.getD q.n (V.enc Kd.rcd).dflt = q.l.getD q.n r0 from rfl]
  have hst := updTo_set (q.l.getD q.n r0) q.n q.cs k
  have hsy := updTo_stay (q.l.getD q.n r0) q.n q.cs k
  have blk : ∀ {a b : List Cal}, a = b → BSub (some (.arr 35 Kd.cal a q.sp : Blk V)) (.arr 35 Kd.cal b q.sp) := fun h => by rw [h]; exact .same _
  simp only [Out.holds, decide_eq_true_eq, decide_eq_false_iff_not, beq_iff_eq, beq_eq_false_iff_ne]
  by_cases hlt : k < q.cs.length
  · refine ⟨fun h => ⟨by omega, by omega, by omega, hn, fun h2 => ⟨by omega, by omega, by omega, hn, fun h3 => ⟨by omega, hn, fun h4 => ⟨by omega, by omega, hnx _ hlt ?_⟩, fun h4 => ⟨by omega, by omega, hnx _ hlt ?_⟩⟩, fun h3 => hnx _ hlt ?_⟩, fun h2 => hnx _ hlt ?_⟩, fun h => absurd hlt (by omega)⟩
    · refine ⟨⟨AV.sub_same _, AV.sub_same _, AV.sub_same _, AV.sub_same _, AV.sub_int (hw hlt), trivial⟩, ⟨blk ?_, .same _, trivial⟩, rfl, tl_ok rfl, ⟨.inl (in_ok rfl), .inr rfl, trivial⟩, ⟨Nat.le_of_ble_eq_true rfl, rfl⟩⟩
      rw [hst hlt]; unfold refUpd; rw [if_pos ⟨h2, h3⟩, if_pos h4]
    · refine ⟨⟨AV.sub_same _, AV.sub_same _, AV.sub_same _, AV.sub_same _, AV.sub_int (hw hlt), trivial⟩, ⟨blk ?_, .same _, trivial⟩, rfl, tl_ok rfl, ⟨.inl (in_ok rfl), .inr rfl, trivial⟩, ⟨Nat.le_of_ble_eq_true rfl, rfl⟩⟩
      rw [hst hlt]; unfold refUpd; rw [if_pos ⟨h2, h3⟩, if_neg h4]
    · refine ⟨⟨AV.sub_same _, AV.sub_same _, AV.sub_same _, AV.sub_same _, AV.sub_int (hw hlt), trivial⟩, ⟨blk ?_, .same _, trivial⟩, rfl, tl_ok rfl, ⟨.inl (in_ok rfl), .inr rfl, trivial⟩, ⟨Nat.le_of_ble_eq_true rfl, rfl⟩⟩
      rw [hsy hlt]; unfold refUpd; rw [if_neg (fun hh => h3 hh.2)]
    · refine ⟨⟨AV.sub_same _, AV.sub_same _, AV.sub_same _, AV.sub_same _, AV.sub_int (hw hlt), trivial⟩, ⟨blk ?_, .same _, trivial⟩, rfl, tl_ok rfl, ⟨.inl (in_ok rfl), .inr rfl, trivial⟩, ⟨Nat.le_of_ble_eq_true rfl, rfl⟩⟩
      rw [hsy hlt]; unfold refUpd; rw [if_neg (fun hh => h2 hh.1)]
  · exact ⟨fun h => absurd h (by omega), fun h => hex _ (by omega) ⟨⟨AV.sub_same _, AV.sub_same _, AV.sub_same _, AV.sub_same _, AV.sub_same _, trivial⟩, ⟨.same _, .same _, trivial⟩, rfl, tl_ok rfl, ⟨.inl (in_ok rfl), .inr rfl, trivial⟩, ⟨Nat.le_of_ble_eq_true rfl, rfl⟩⟩⟩
theorem l162_ok : LoopOk Try.prog 2 (loopOf Try.f16 2) L162 := by
  refine trimLoop_ok (trim_ok _ _) (loopTH_ok (C := cfgR) cfgR_ok (f := 16) (n := 60) (trim_ok [0, 3, 4, 5, 6] [0, 1]) 2 I162 (fun q k => k ≤ q.cs.length) (fun _ => 0) (fun q k => q.cs.length - k) (fun _ (_ : Unit) => True) (fun q _ => I162 q q.cs.length) (fun q => Nat.zero_le _) ?_)
  intro q k hk
  exact body162 q k hk _ _ (fun ST hlt hw => SImp.of_wk (k + 1) hw ⟨hlt, by omega⟩) (fun ST he hw => ⟨rfl, SImp.of_wk () (by subst he; exact hw) trivial⟩)

theorem refCalls_len (l : List Rec) : ∀ n, (refCallsTo l n).length ≤ n
  | 0 => Nat.le_refl _
  | n + 1 => by
    have ih := refCalls_len l n
    unfold refCallsTo
    split
    · omega
    · split
      · simp only [List.length_append, List.length_cons, List.length_nil]; omega
      · simp only [List.length_map]; omega

theorem body160 (p : PB) (x : Nat × Nat) (hi : x.1 ≤ p.l.length) (Q : EX → St V → Prop) (F : AV → Heap V → Nat → Prop)
    (hnx : ∀ (ST : St V) (sp b : Nat), x.1 < p.l.length → p.ok = true → Wk 1 [(1, b)] ST (I160 p (x.1 + 1, sp)) → Q .nx ST)
    (he : (p.ok = false ∨ x.1 = p.l.length) → outOf p = refCallsTo p.l x.1) (hex : ∀ ST : St V, Wk 1 [(1, 1)] ST (E160 p x.2) → Q (.ex 0) ST) :
    (runCode cfg162 60 16 (loopOf Try.f16 0) (I160 p x) (stopT (trimSt [0, 3, 4, 5] [0, 1, 3]))).holds ⟨Q, F⟩ := by
  rw [b160]
  have hb := p.hb
  have hcl := refCalls_len p.l x.1
  have hw : x.1 < p.l.length → IntKind.wrap .i64 ((x.1 : Int) + 1) = ((x.1 + 1 : Nat) : Int) := fun h => wrap_nat (by omega)
  rw [show (0 + x.1) = x.1 from Nat.zero_add _]
  rw [show p.l.getD x.1 (V.enc Kd.rcd).dflt = p.l.getD x.1 r0 from rfl]
  have hst : refCallsTo p.l (x.1 + 1) = if (p.l.getD x.1 r0).op < 0 then refCallsTo p.l x.1 else if (p.l.getD x.1 r0).what = 1 then refCallsTo p.l x.1 ++ [⟨(p.l.getD x.1 r0).thread, (p.l.getD x.1 r0).op, x.1, -1, -1⟩] else (refCallsTo p.l x.1).map (refUpd (p.l.getD x.1 r0) x.1) := rfl
  have blk : ∀ {a b : List Cal} {s : Nat}, a = b → BSub (some (.arr 35 Kd.cal a s : Blk V)) (.arr 35 Kd.cal b s) := fun h => by rw [h]; exact .same _
  simp only [Out.holds, decide_eq_true_eq, decide_eq_false_iff_not, beq_iff_eq, beq_eq_false_iff_ne]
  by_cases hlt : x.1 < p.l.length
  · refine ⟨fun h => ⟨fun hok => ⟨by omega, by omega, fun h2 => hnx _ x.2 1 hlt hok ?_, fun h2 => ⟨by omega, by omega, fun h3 => ⟨by omega, by omega, by omega, by omega, ⟨trivial, trivial, trivial, by omega⟩, fun y => hnx _ y 3 hlt hok ?_⟩, fun h3 => ?_⟩⟩, fun hok => hex _ ?_⟩, fun h => absurd hlt (by omega)⟩
    · rw [if_pos h2] at hst
      exact ⟨⟨AV.sub_same _, AV.sub_same _, AV.sub_sl (by rw [hst]) (by rw [hst]), AV.sub_int (hw hlt), trivial⟩, ⟨blk hst.symm, .same _, trivial⟩, rfl, tl_ok rfl, ⟨.inl (in_ok rfl), .inr rfl, trivial⟩, ⟨Nat.le_of_ble_eq_true rfl, rfl⟩⟩
    · rw [if_neg h2, if_pos h3] at hst
      exact ⟨⟨AV.sub_same _, AV.sub_same _, AV.sub_sl (by rw [hst]; simp) (by rw [hst]; simp), AV.sub_int (hw hlt), trivial⟩, ⟨blk hst.symm, .same _, trivial⟩, rfl, tl_ok rfl, ⟨.inl (in_ok rfl), .inr rfl, trivial⟩, ⟨Nat.le_of_ble_eq_true rfl, rfl⟩⟩
    · rw [if_neg h2, if_neg h3] at hst
      refine ⟨l162_ok, fun q => q = ⟨p, x.1, hlt, refCallsTo p.l x.1, x.2, hcl⟩, ⟨Nat.le_refl _, SImp.of_wk (ren := []) ⟨p, x.1, hlt, refCallsTo p.l x.1, x.2, hcl⟩ ⟨⟨AV.sub_same _, AV.sub_same _, AV.sub_same _, AV.sub_same _, AV.sub_lit', trivial⟩, ⟨.same _, .same _, trivial⟩, rfl, tl_ok rfl, ⟨.inl (in_ok rfl), .inr rfl, trivial⟩, ⟨Nat.le_of_ble_eq_true rfl, rfl⟩⟩ rfl⟩, ?_⟩
      rintro _ rfl _ _
      refine hnx _ x.2 1 hlt hok ?_
      dsimp only
      rw [updTo_all]
      exact ⟨⟨AV.sub_same _, AV.sub_same _, AV.sub_sl (by rw [hst]; simp) (by rw [hst]; simp), AV.sub_int (hw hlt), trivial⟩, ⟨blk hst.symm, .same _, trivial⟩, rfl, tl_ok rfl, ⟨.inl (in_ok rfl), .inr rfl, trivial⟩, ⟨Nat.le_of_ble_eq_true rfl, rfl⟩⟩
    · have E := he (.inl hok)
      exact ⟨⟨AV.sub_sl (by rw [E]) (by rw [E]), trivial⟩, ⟨blk E.symm, .same _, trivial⟩, rfl, tl_ok rfl, ⟨.inl (in_ok rfl), .inr rfl, trivial⟩, ⟨Nat.le_of_ble_eq_true rfl, rfl⟩⟩
  · refine ⟨fun h => absurd h (by omega), fun h => hex _ ?_⟩
    have E := he (.inr (by omega))
    exact ⟨⟨AV.sub_sl (by rw [E]) (by rw [E]), trivial⟩, ⟨blk E.symm, .same _, trivial⟩, rfl, tl_ok rfl, ⟨.inl (in_ok rfl), .inr rfl, trivial⟩, ⟨Nat.le_of_ble_eq_true rfl, rfl⟩⟩
theorem l160_ok : LoopOk Try.prog 0 (loopOf Try.f16 0) L160 := by
  refine trimLoop_ok (trim_ok _ _) (loopTH_ok (C := cfg162) cfg162_ok (f := 16) (n := 60) (trim_ok [0, 3, 4, 5] [0, 1, 3]) 1 I160 (fun p x => x.1 ≤ p.l.length ∧ (p.ok = true ∨ x.1 = 0)) (fun _ => (0, 0)) (fun p x => p.l.length - x.1) (fun _ (_ : Nat) => True) (fun p sp => E160 p sp) (fun p => ⟨Nat.zero_le _, .inr rfl⟩) ?_)
  intro p x ⟨hi, hok⟩
  refine body160 p x hi _ _ (fun ST sp b hlt h hw => SImp.of_wk (x.1 + 1, sp) hw ⟨⟨hlt, .inl h⟩, ?_⟩) (fun he => ?_) (fun ST hw => ⟨rfl, SImp.of_wk (ren := [(1, 1)]) x.2 hw trivial⟩)
  · show p.l.length - (x.1 + 1) < p.l.length - x.1; omega
  · unfold outOf
    rcases he with h | h
    · rcases hok with h2 | h2
      · rw [h] at h2; cases h2
      · rw [h, h2]; rfl
    · rcases hok with h2 | h2
      · rw [h2, h]; rfl
      · rw [← h, h2]; cases p.ok <;> rfl

def runCallsR : RunFree V := fun ar K => match ar with
  | [.rows .rcd l c] => .need (l.length ≤ 1099511627776 ∧ ∀ r ∈ l, r.op < 9223372036854775808) (.all Nat fun sp => K (.sl false 0 0 5 (hCallsOf l).length ((hCallsOf l).length + sp)) [.arr 35 Kd.cal (hCallsOf l) sp])
  | _ => .bad 500
theorem hCallsRef : HookOk Try.prog 16 (hookFree [.rows Kd.rcd] runCallsR) := by
  refine free_hook (C := cfg160) cfg160_ok (n := 60) (fn := Try.f16) ⟨by kernel_rfl, by kernel_rfl⟩ (by kernel_rfl) ?_
  intro M ar K0 H
  unfold runCallsR at H
  split at H
  · rename_i l c
    obtain ⟨⟨hb, hop⟩, H⟩ := H
    refine ⟨show 1 ≤ _ by decide +kernel, ?_⟩
    show (runF cfg160 60 16 Try.f16 [.sl false 0 0 8 l.length c] [(0, .ro Kd.rcd l)] 1).holds _
    rw [t16]
    rw [show List.take l.length (List.drop 0 l) = l from List.take_length ..]
    refine ⟨by omega, hb, l160_ok, fun p => p = ⟨⟨l, c, hb⟩, hRight l⟩, ⟨Nat.le_refl _, SImp.of_wk (ren := [(1, 99)]) ⟨⟨l, c, hb⟩, hRight l⟩ ?_ rfl⟩, ?_⟩
    · exact ⟨⟨AV.sub_same _, AV.sub_same _, AV.sub_nilS, AV.sub_lit', trivial⟩, ⟨.none _ _, .same _, trivial⟩, rfl, tl_ok rfl, ⟨.inr rfl, trivial⟩, ⟨Nat.le_of_ble_eq_true rfl, rfl⟩⟩
    · rintro _ rfl sp _
      have e : outOf ⟨⟨l, c, hb⟩, hRight l⟩ = hCallsOf l := by
        unfold outOf
        show (if hRight l = true then refCallsTo l l.length else []) = _
        split
        · rename_i h; exact (calls_ref hop h).symm
        · rename_i h
          cases hs : readTo l l.length with
          | none => exact (right_none hs).2.symm
          | some s => exact absurd (right_some hs).1 h
      dsimp only
      rw [e]
      exact ⟨_, _, H sp, _, HImp.refl _ _, ⟨⟨fun _ => 1, ⟨.same _, trivial⟩, AV.sub_same _⟩, rfl, rfl⟩⟩
  · exact H.elim

end Sx
end Go.Proofs.Ytemcdjdglcceiaa

/-
  The documents commits, what is left, and what is completed: the runs of the machine.
-/
namespace Go.Proofs.Ytemcdjdglcceiaa
namespace Sx
open Go
set_option maxRecDepth 100000
set_option linter.unusedVariables false

def hooksS : Nat → Option (HookS V) := fun g => match g with
  | 16 => some (hookFree [.rows Kd.rcd] runCallsR)
  | g => hooksR g
noncomputable def cfgS : Cfg Try.prog V := ⟨tab, kinds, fun _ => none, hooksS, fun _ _ => none⟩
def I240 (p : PB) (x : Nat × Nat) : St V := ⟨[(0, .sl false 0 0 8 p.l.length p.c), (3, .bool p.ok), (4, .sl false 1 0 4 (takesTo p.l x.1).length ((takesTo p.l x.1).length + x.2)), (5, .int .i64 (x.1 : Int))],
  [(1, .arr 27 Kd.com (takesTo p.l x.1) x.2), (0, .ro Kd.rcd p.l)], 2, 32, TL⟩
def outC (p : PB) : List Com := if p.ok then takesTo p.l p.l.length else []
def E240 (p : PB) (sp : Nat) : St V := ⟨[(4, .sl false 1 0 4 (outC p).length ((outC p).length + sp))], [(1, .arr 27 Kd.com (outC p) sp), (0, .ro Kd.rcd p.l)], 2, 32, TL⟩
def L240 : LoopS V := trimLoop (trimSt [0, 3, 4, 5] [0]) (loopH 1 (fun p : PB => I240 p (0, 0)) (fun _ (_ : Nat) => True) (fun p sp => E240 p sp))
def openTo (cs : List Cal) (i : Nat) : Nat := ((cs.take i).filter fun c => decide (c.to_ < 0)).length
def I260 (p : PC) (i : Nat) : St V :=
  ⟨[(3, .sl false 1 0 5 p.cs.length (p.cs.length + p.sp)), (4, .int .i64 (openTo p.cs i : Int)), (5, .int .i64 (i : Int))],
   [(1, .arr 35 Kd.cal p.cs p.sp)], 2, 23, TL⟩
def L260 : LoopS V := trimLoop (trimSt [3, 4, 5] [1]) (loopH 2 (fun p : PC => I260 p 0) (fun _ (_ : Unit) => True) (fun p _ => I260 p p.cs.length))
def lateRec (l : List Rec) (i : Nat) : Rec := ⟨(l.getD i r0).thread, (l.getD i r0).op, 3, (l.getD i r0).act, (l.getD i r0).key, (l.getD i r0).value, (l.getD i r0).hit, 0⟩
def isLate (i : Nat) (c : Cal) : Bool := decide (c.at_ = i ∧ c.to_ < 0)
def isGone (i : Nat) (c : Cal) : Bool := decide (c.frm = i ∧ c.at_ < 0 ∧ c.to_ < 0)
def lateAt (l : List Rec) (cs : List Cal) (i k : Nat) : List Rec := ((cs.take k).filter (isLate i)).map fun _ => lateRec l i
def keepAt (cs : List Cal) (i k : Nat) : Bool := !(cs.take k).any (isGone i)
def keptTo (l : List Rec) (cs : List Cal) : Nat → List Rec
  | 0 => []
  | n + 1 => keptTo l cs n ++ if keepAt cs n cs.length then [l.getD n r0] else []
def moreTo (l : List Rec) (cs : List Cal) : Nat → List Rec
  | 0 => []
  | n + 1 => moreTo l cs n ++ lateAt l cs n cs.length
structure PG extends PL where
  cs : List Cal
  sp : Nat
  hc : cs.length ≤ l.length
  hu : ∀ i, (cs.filter (isLate i)).length ≤ 1
def I140 (p : PG) (x : Nat × Nat × Nat) : St V := ⟨[(0, .sl false 0 0 8 p.l.length p.c), (4, .sl false 1 0 5 p.cs.length (p.cs.length + p.sp)), (5, .sl false 2 0 8 (keptTo p.l p.cs x.1).length ((keptTo p.l p.cs x.1).length + x.2.1)), (6, .sl false 3 0 8 (moreTo p.l p.cs x.1).length ((moreTo p.l p.cs x.1).length + x.2.2)), (7, .int .i64 (x.1 : Int))],
  [(2, .arr 30 Kd.rcd (keptTo p.l p.cs x.1) x.2.1), (3, .arr 30 Kd.rcd (moreTo p.l p.cs x.1) x.2.2), (1, .arr 35 Kd.cal p.cs p.sp), (0, .ro Kd.rcd p.l)], 4, 96, TL⟩
structure PGI extends PG where
  n : Nat
  hn : n < l.length
  out : List Rec
  so : Nat
  base : List Rec
  s0 : Nat
  hbs : base.length ≤ l.length
def I142 (q : PGI) (x : Nat × Nat) : St V := ⟨[(0, .sl false 0 0 8 q.l.length q.c), (4, .sl false 1 0 5 q.cs.length (q.cs.length + q.sp)), (5, .sl false 2 0 8 q.out.length (q.out.length + q.so)), (6, .sl false 4 0 8 (q.base ++ lateAt q.l q.cs q.n x.1).length ((q.base ++ lateAt q.l q.cs q.n x.1).length + x.2)), (7, .int .i64 (q.n : Int)), (8, .bool (keepAt q.cs q.n x.1)), (9, .int .i64 (x.1 : Int))],
  [(4, .arr 30 Kd.rcd (q.base ++ lateAt q.l q.cs q.n x.1) x.2), (2, .arr 30 Kd.rcd q.out q.so), (1, .arr 35 Kd.cal q.cs q.sp), (0, .ro Kd.rcd q.l)], 5, 96, TL⟩
def L142 : LoopS V := trimLoop (trimSt [0, 4, 5, 6, 7, 8, 9] [0, 1, 2, 3]) (loopH 4 (fun q : PGI => I142 q (0, q.s0)) (fun _ (_ : Nat) => True) (fun q s => I142 q (q.cs.length, s)))
noncomputable def cfg142 : Cfg Try.prog V := ⟨tab, kinds, fun _ => none, hooksS, fun f id => match f, id with | 14, 2 => some L142 | _, _ => none⟩
def L140 : LoopS V := trimLoop (trimSt [0, 4, 5, 6, 7] [0, 1]) (loopH 2 (fun p : PG => I140 p (0, 0, 0)) (fun _ (_ : Nat × Nat) => True) (fun p s => I140 p (p.l.length, s)))
noncomputable def cfg140 : Cfg Try.prog V := ⟨tab, kinds, fun _ => none, hooksS, fun f id => match f, id with | 14, 0 => some L140 | 24, 0 => some L240 | 26, 0 => some L260 | _, _ => none⟩
theorem b240 (p : PB) (x : Nat × Nat) : runCode cfgS 60 24 (loopOf Try.f24 0) (I240 p x) (stopT (trimSt [0, 3, 4, 5] [0, 1, 2, 3, 4, 5, 6])) =
  Out.ite (decide ((↑x.1 : Int) < (↑p.l.length : Int)))
    (Out.ite p.ok
      (Out.need (0 ≤ (↑x.1 : Int) ∧ (↑x.1 : Int) < (↑p.l.length : Int))
        (Out.need (0 + x.1 < p.l.length)
          (Out.ite ((p.l.getD (0 + x.1) (V.enc Kd.rcd).dflt).what == 2)
            (Out.need (0 ≤ (↑x.1 : Int) ∧ (↑x.1 : Int) < (↑p.l.length : Int))
              (Out.need (0 + x.1 < p.l.length)
                (Out.need
                  (0 = 0 ∧
                    (takesTo p.l x.1).length = (takesTo p.l x.1).length ∧
                      (takesTo p.l x.1).length + x.2 = (takesTo p.l x.1).length + x.2 ∧ ((takesTo p.l x.1).length + 1) * 32 ≤ 140737488355328)
                  (Out.all Nat fun y =>
                    Out.stop EX.nx
                      {
                        env :=
                          [(0, AV.sl false 0 0 8 p.l.length p.toPL.2), (3, AV.bool p.ok),
                            (4, AV.sl false 3 0 4 ((takesTo p.l x.1).length + 1) ((takesTo p.l x.1).length + 1 + y)),
                            (5, AV.int IntKind.i64 (IntKind.i64.wrap ((↑x.1 : Int) + 1)))],
                        heap :=
                          [(3,
                              Blk.arr 27 Kd.com
                                (takesTo p.l x.1 ++
                                  [{ act := (p.l.getD (0 + x.1) (V.enc Kd.rcd).dflt).act, key := (p.l.getD (0 + x.1) (V.enc Kd.rcd).dflt).key,
                                      value := (p.l.getD (0 + x.1) (V.enc Kd.rcd).dflt).value, hit := (p.l.getD (0 + x.1) (V.enc Kd.rcd).dflt).hit : Com }])
                                y),
                            (2,
                              Blk.cells 27
                                [AV.int IntKind.i64 (p.l.getD (0 + x.1) (V.enc Kd.rcd).dflt).act, AV.int IntKind.i64 (p.l.getD (0 + x.1) (V.enc Kd.rcd).dflt).key,
                                  AV.int IntKind.i64 (p.l.getD (0 + x.1) (V.enc Kd.rcd).dflt).value, AV.bool (p.l.getD (0 + x.1) (V.enc Kd.rcd).dflt).hit]),
                            (0, Blk.ro Kd.rcd p.l)],
                        nx := 4, nt := 32, tl := [1, 0, 1, 2, 3, 4, 5, 6, 7, 8, 9, 10, 11, 12, 13, 14, 15, 16] : St V }))))
            (Out.stop EX.nx
              {
                env :=
                  [(0, AV.sl false 0 0 8 p.l.length p.toPL.2), (3, AV.bool p.ok),
                    (4, AV.sl false 1 0 4 (takesTo p.l x.1).length ((takesTo p.l x.1).length + x.2)),
                    (5, AV.int IntKind.i64 (IntKind.i64.wrap ((↑x.1 : Int) + 1)))],
                heap := [(1, Blk.arr 27 Kd.com (takesTo p.l x.1) x.2), (0, Blk.ro Kd.rcd p.l)], nx := 2, nt := 32,
                tl := [0, 1, 2, 3, 4, 5, 6, 7, 8, 9, 10, 11, 12, 13, 14, 15, 16] : St V }))))
      (Out.stop (EX.ex 0)
        {
          env :=
            [(0, AV.sl false 0 0 8 p.l.length p.toPL.2), (3, AV.bool p.ok), (4, AV.sl false 1 0 4 (takesTo p.l x.1).length ((takesTo p.l x.1).length + x.2)),
              (5, AV.int IntKind.i64 (↑x.1 : Int))],
          heap := [(1, Blk.arr 27 Kd.com (takesTo p.l x.1) x.2), (0, Blk.ro Kd.rcd p.l)], nx := 2, nt := 32,
          tl := [0, 1, 2, 3, 4, 5, 6, 7, 8, 9, 10, 11, 12, 13, 14, 15, 16] : St V }))
    (Out.stop (EX.ex 0)
      {
        env :=
          [(0, AV.sl false 0 0 8 p.l.length p.toPL.2), (3, AV.bool p.ok), (4, AV.sl false 1 0 4 (takesTo p.l x.1).length ((takesTo p.l x.1).length + x.2)),
            (5, AV.int IntKind.i64 (↑x.1 : Int))],
        heap := [(1, Blk.arr 27 Kd.com (takesTo p.l x.1) x.2), (0, Blk.ro Kd.rcd p.l)], nx := 2, nt := 32,
        tl := [0, 1, 2, 3, 4, 5, 6, 7, 8, 9, 10, 11, 12, 13, 14, 15, 16] : St V }) := by kernel_rfl

theorem b260 (p : PC) (i : Nat) : runCode cfgS 60 26 (loopOf Try.f26 0) (I260 p i) (stopT (trimSt [3, 4, 5] [1])) =
  Out.ite (decide ((↑i : Int) < (↑p.cs.length : Int)))
    (Out.need (0 ≤ (↑i : Int) ∧ (↑i : Int) < (↑p.cs.length : Int))
      (Out.need (0 + i < p.cs.length)
        (Out.ite (decide ((p.cs.getD (0 + i) (V.enc Kd.cal).dflt).to_ < 0))
          (Out.stop EX.nx
            {
              env :=
                [(3, AV.sl false 1 0 5 p.cs.length (p.cs.length + p.4)), (4, AV.int IntKind.i64 (IntKind.i64.wrap ((↑(openTo p.cs i) : Int) + 1))),
                  (5, AV.int IntKind.i64 (IntKind.i64.wrap ((↑i : Int) + 1)))],
              heap := [(1, Blk.arr 35 Kd.cal p.cs p.4)], nx := 2, nt := 23, tl := [0, 1, 2, 3, 4, 5, 6, 7, 8, 9, 10, 11, 12, 13, 14, 15, 16] : St V })
          (Out.stop EX.nx
            {
              env :=
                [(3, AV.sl false 1 0 5 p.cs.length (p.cs.length + p.4)), (4, AV.int IntKind.i64 (↑(openTo p.cs i) : Int)),
                  (5, AV.int IntKind.i64 (IntKind.i64.wrap ((↑i : Int) + 1)))],
              heap := [(1, Blk.arr 35 Kd.cal p.cs p.4)], nx := 2, nt := 23, tl := [0, 1, 2, 3, 4, 5, 6, 7, 8, 9, 10, 11, 12, 13, 14, 15, 16] : St V }))))
    (Out.stop (EX.ex 0)
      { env := [(3, AV.sl false 1 0 5 p.cs.length (p.cs.length + p.4)), (4, AV.int IntKind.i64 (↑(openTo p.cs i) : Int)), (5, AV.int IntKind.i64 (↑i : Int))],
        heap := [(1, Blk.arr 35 Kd.cal p.cs p.4)], nx := 2, nt := 23, tl := [0, 1, 2, 3, 4, 5, 6, 7, 8, 9, 10, 11, 12, 13, 14, 15, 16] : St V }) := by kernel_rfl

theorem b142 (q : PGI) (x : Nat × Nat) : runCode cfgS 60 14 (loopOf Try.f14 2) (I142 q x) (stopT (trimSt [0, 4, 5, 6, 7, 8, 9] [0, 1, 2, 4, 5, 6, 7, 8, 9, 10])) =
  Out.ite (decide ((↑x.1 : Int) < (↑q.cs.length : Int)))
    (Out.need (0 ≤ (↑x.1 : Int) ∧ (↑x.1 : Int) < (↑q.cs.length : Int))
      (Out.need (0 + x.1 < q.cs.length)
        (Out.ite ((q.cs.getD (0 + x.1) (V.enc Kd.cal).dflt).frm == (↑q.2 : Int))
          (Out.need (0 ≤ (↑x.1 : Int) ∧ (↑x.1 : Int) < (↑q.cs.length : Int))
            (Out.need (0 + x.1 < q.cs.length)
              (Out.ite (decide ((q.cs.getD (0 + x.1) (V.enc Kd.cal).dflt).at_ < 0))
                (Out.need (0 ≤ (↑x.1 : Int) ∧ (↑x.1 : Int) < (↑q.cs.length : Int))
                  (Out.need (0 + x.1 < q.cs.length)
                    (Out.ite (decide ((q.cs.getD (0 + x.1) (V.enc Kd.cal).dflt).to_ < 0))
                      (Out.need (0 ≤ (↑x.1 : Int) ∧ (↑x.1 : Int) < (↑q.cs.length : Int))
                        (Out.need (0 + x.1 < q.cs.length)
                          (Out.ite ((q.cs.getD (0 + x.1) (V.enc Kd.cal).dflt).at_ == (↑q.2 : Int))
                            (Out.need (0 ≤ (↑x.1 : Int) ∧ (↑x.1 : Int) < (↑q.cs.length : Int))
                              (Out.need (0 + x.1 < q.cs.length)
                                (Out.ite (decide ((q.cs.getD (0 + x.1) (V.enc Kd.cal).dflt).to_ < 0))
                                  (Out.need (0 ≤ (↑q.2 : Int) ∧ (↑q.2 : Int) < (↑q.l.length : Int))
                                    (Out.need (0 + q.2 < q.l.length)
                                      (Out.need (0 ≤ (↑q.2 : Int) ∧ (↑q.2 : Int) < (↑q.l.length : Int))
                                        (Out.need (0 + q.2 < q.l.length)
                                          (Out.need (0 ≤ (↑q.2 : Int) ∧ (↑q.2 : Int) < (↑q.l.length : Int))
                                            (Out.need (0 + q.2 < q.l.length)
                                              (Out.need
                                                (0 = 0 ∧
                                                  (q.base ++ lateAt q.l q.cs q.2 x.1).length = (q.base ++ lateAt q.l q.cs q.2 x.1).length ∧
                                                    (q.base ++ lateAt q.l q.cs q.2 x.1).length + x.2 = (q.base ++ lateAt q.l q.cs q.2 x.1).length + x.2 ∧
                                                      ((q.base ++ lateAt q.l q.cs q.2 x.1).length + 1) * 64 ≤ 140737488355328)
                                                (Out.all Nat fun y =>
                                                  Out.stop EX.nx
                                                    {
                                                      env :=
                                                        [(0, AV.sl false 0 0 8 q.l.length q.toPL.2), (4, AV.sl false 1 0 5 q.cs.length (q.cs.length + q.toPG.3)),
                                                          (5, AV.sl false 2 0 8 q.out.length (q.out.length + q.5)),
                                                          (6,
                                                            AV.sl false 6 0 8 ((q.base ++ lateAt q.l q.cs q.2 x.1).length + 1)
                                                              ((q.base ++ lateAt q.l q.cs q.2 x.1).length + 1 + y)),
                                                          (7, AV.int IntKind.i64 (↑q.2 : Int)), (8, AV.ff),
                                                          (9, AV.int IntKind.i64 (IntKind.i64.wrap ((↑x.1 : Int) + 1)))],
                                                      heap :=
                                                        [(6,
                                                            Blk.arr 30 Kd.rcd
                                                              (q.base ++ lateAt q.l q.cs q.2 x.1 ++
                                                                [{ thread := (q.l.getD (0 + q.2) (V.enc Kd.rcd).dflt).thread,
                                                                    op := (q.l.getD (0 + q.2) (V.enc Kd.rcd).dflt).op, what := 3,
                                                                    act := (q.l.getD (0 + q.2) (V.enc Kd.rcd).dflt).act,
                                                                    key := (q.l.getD (0 + q.2) (V.enc Kd.rcd).dflt).key,
                                                                    value := (q.l.getD (0 + q.2) (V.enc Kd.rcd).dflt).value,
                                                                    hit := (q.l.getD (0 + q.2) (V.enc Kd.rcd).dflt).hit, err := 0 : Rec }])
                                                              y),
                                                          (5,
                                                            Blk.cells 30
                                                              [AV.int IntKind.i64 (q.l.getD (0 + q.2) (V.enc Kd.rcd).dflt).thread,
                                                                AV.int IntKind.i64 (q.l.getD (0 + q.2) (V.enc Kd.rcd).dflt).op, AV.lit IntKind.i64 3,
                                                                AV.int IntKind.i64 (q.l.getD (0 + q.2) (V.enc Kd.rcd).dflt).act,
                                                                AV.int IntKind.i64 (q.l.getD (0 + q.2) (V.enc Kd.rcd).dflt).key,
                                                                AV.int IntKind.i64 (q.l.getD (0 + q.2) (V.enc Kd.rcd).dflt).value,
                                                                AV.bool (q.l.getD (0 + q.2) (V.enc Kd.rcd).dflt).hit, AV.lit IntKind.i64 0]),
                                                          (2, Blk.arr 30 Kd.rcd q.out q.5), (1, Blk.arr 35 Kd.cal q.cs q.toPG.3), (0, Blk.ro Kd.rcd q.l)],
                                                      nx := 7, nt := 96, tl := [4, 0, 1, 2, 3, 4, 5, 6, 7, 8, 9, 10, 11, 12, 13, 14, 15, 16] : St V }))))))))
                                  (Out.stop EX.nx
                                    {
                                      env :=
                                        [(0, AV.sl false 0 0 8 q.l.length q.toPL.2), (4, AV.sl false 1 0 5 q.cs.length (q.cs.length + q.toPG.3)),
                                          (5, AV.sl false 2 0 8 q.out.length (q.out.length + q.5)),
                                          (6, AV.sl false 4 0 8 (q.base ++ lateAt q.l q.cs q.2 x.1).length ((q.base ++ lateAt q.l q.cs q.2 x.1).length + x.2)),
                                          (7, AV.int IntKind.i64 (↑q.2 : Int)), (8, AV.ff), (9, AV.int IntKind.i64 (IntKind.i64.wrap ((↑x.1 : Int) + 1)))],
                                      heap :=
                                        [(4, Blk.arr 30 Kd.rcd (q.base ++ lateAt q.l q.cs q.2 x.1) x.2), (2, Blk.arr 30 Kd.rcd q.out q.5),
                                          (1, Blk.arr 35 Kd.cal q.cs q.toPG.3), (0, Blk.ro Kd.rcd q.l)],
                                      nx := 5, nt := 96, tl := [0, 1, 2, 3, 4, 5, 6, 7, 8, 9, 10, 11, 12, 13, 14, 15, 16] : St V }))))
                            (Out.stop EX.nx
                              {
                                env :=
                                  [(0, AV.sl false 0 0 8 q.l.length q.toPL.2), (4, AV.sl false 1 0 5 q.cs.length (q.cs.length + q.toPG.3)),
                                    (5, AV.sl false 2 0 8 q.out.length (q.out.length + q.5)),
                                    (6, AV.sl false 4 0 8 (q.base ++ lateAt q.l q.cs q.2 x.1).length ((q.base ++ lateAt q.l q.cs q.2 x.1).length + x.2)),
                                    (7, AV.int IntKind.i64 (↑q.2 : Int)), (8, AV.ff), (9, AV.int IntKind.i64 (IntKind.i64.wrap ((↑x.1 : Int) + 1)))],
                                heap :=
                                  [(4, Blk.arr 30 Kd.rcd (q.base ++ lateAt q.l q.cs q.2 x.1) x.2), (2, Blk.arr 30 Kd.rcd q.out q.5),
                                    (1, Blk.arr 35 Kd.cal q.cs q.toPG.3), (0, Blk.ro Kd.rcd q.l)],
                                nx := 5, nt := 96, tl := [0, 1, 2, 3, 4, 5, 6, 7, 8, 9, 10, 11, 12, 13, 14, 15, 16] : St V }))))
                      (Out.need (0 ≤ (↑x.1 : Int) ∧ (↑x.1 : Int) < (↑q.cs.length : Int))
                        (Out.need (0 + x.1 < q.cs.length)
                          (Out.ite ((q.cs.getD (0 + x.1) (V.enc Kd.cal).dflt).at_ == (↑q.2 : Int))
                            (Out.need (0 ≤ (↑x.1 : Int) ∧ (↑x.1 : Int) < (↑q.cs.length : Int))
                              (Out.need (0 + x.1 < q.cs.length)
                                (Out.ite (decide ((q.cs.getD (0 + x.1) (V.enc Kd.cal).dflt).to_ < 0))
                                  (Out.need (0 ≤ (↑q.2 : Int) ∧ (↑q.2 : Int) < (↑q.l.length : Int))
                                    (Out.need (0 + q.2 < q.l.length)
                                      (Out.need (0 ≤ (↑q.2 : Int) ∧ (↑q.2 : Int) < (↑q.l.length : Int))
                                        (Out.need (0 + q.2 < q.l.length)
                                          (Out.need (0 ≤ (↑q.2 : Int) ∧ (↑q.2 : Int) < (↑q.l.length : Int))
                                            (Out.need (0 + q.2 < q.l.length)
                                              (Out.need
                                                (0 = 0 ∧
                                                  (q.base ++ lateAt q.l q.cs q.2 x.1).length = (q.base ++ lateAt q.l q.cs q.2 x.1).length ∧
                                                    (q.base ++ lateAt q.l q.cs q.2 x.1).length + x.2 = (q.base ++ lateAt q.l q.cs q.2 x.1).length + x.2 ∧
                                                      ((q.base ++ lateAt q.l q.cs q.2 x.1).length + 1) * 64 ≤ 140737488355328)
                                                (Out.all Nat fun y =>
                                                  Out.stop EX.nx
                                                    {
                                                      env :=
                                                        [(0, AV.sl false 0 0 8 q.l.length q.toPL.2), (4, AV.sl false 1 0 5 q.cs.length (q.cs.length + q.toPG.3)),
                                                          (5, AV.sl false 2 0 8 q.out.length (q.out.length + q.5)),
                                                          (6,
                                                            AV.sl false 6 0 8 ((q.base ++ lateAt q.l q.cs q.2 x.1).length + 1)
                                                              ((q.base ++ lateAt q.l q.cs q.2 x.1).length + 1 + y)),
                                                          (7, AV.int IntKind.i64 (↑q.2 : Int)), (8, AV.bool (keepAt q.cs q.2 x.1)),
                                                          (9, AV.int IntKind.i64 (IntKind.i64.wrap ((↑x.1 : Int) + 1)))],
                                                      heap :=
                                                        [(6,
                                                            Blk.arr 30 Kd.rcd
                                                              (q.base ++ lateAt q.l q.cs q.2 x.1 ++
                                                                [{ thread := (q.l.getD (0 + q.2) (V.enc Kd.rcd).dflt).thread,
                                                                    op := (q.l.getD (0 + q.2) (V.enc Kd.rcd).dflt).op, what := 3,
                                                                    act := (q.l.getD (0 + q.2) (V.enc Kd.rcd).dflt).act,
                                                                    key := (q.l.getD (0 + q.2) (V.enc Kd.rcd).dflt).key,
                                                                    value := (q.l.getD (0 + q.2) (V.enc Kd.rcd).dflt).value,
                                                                    hit := (q.l.getD (0 + q.2) (V.enc Kd.rcd).dflt).hit, err := 0 : Rec }])
                                                              y),
                                                          (5,
                                                            Blk.cells 30
                                                              [AV.int IntKind.i64 (q.l.getD (0 + q.2) (V.enc Kd.rcd).dflt).thread,
                                                                AV.int IntKind.i64 (q.l.getD (0 + q.2) (V.enc Kd.rcd).dflt).op, AV.lit IntKind.i64 3,
                                                                AV.int IntKind.i64 (q.l.getD (0 + q.2) (V.enc Kd.rcd).dflt).act,
                                                                AV.int IntKind.i64 (q.l.getD (0 + q.2) (V.enc Kd.rcd).dflt).key,
                                                                AV.int IntKind.i64 (q.l.getD (0 + q.2) (V.enc Kd.rcd).dflt).value,
                                                                AV.bool (q.l.getD (0 + q.2) (V.enc Kd.rcd).dflt).hit, AV.lit IntKind.i64 0]),
                                                          (2, Blk.arr 30 Kd.rcd q.out q.5), (1, Blk.arr 35 Kd.cal q.cs q.toPG.3), (0, Blk.ro Kd.rcd q.l)],
                                                      nx := 7, nt := 96, tl := [4, 0, 1, 2, 3, 4, 5, 6, 7, 8, 9, 10, 11, 12, 13, 14, 15, 16] : St V }))))))))
                                  (Out.stop EX.nx
                                    {
                                      env :=
                                        [(0, AV.sl false 0 0 8 q.l.length q.toPL.2), (4, AV.sl false 1 0 5 q.cs.length (q.cs.length + q.toPG.3)),
                                          (5, AV.sl false 2 0 8 q.out.length (q.out.length + q.5)),
                                          (6, AV.sl false 4 0 8 (q.base ++ lateAt q.l q.cs q.2 x.1).length ((q.base ++ lateAt q.l q.cs q.2 x.1).length + x.2)),
                                          (7, AV.int IntKind.i64 (↑q.2 : Int)), (8, AV.bool (keepAt q.cs q.2 x.1)),
                                          (9, AV.int IntKind.i64 (IntKind.i64.wrap ((↑x.1 : Int) + 1)))],
                                      heap :=
                                        [(4, Blk.arr 30 Kd.rcd (q.base ++ lateAt q.l q.cs q.2 x.1) x.2), (2, Blk.arr 30 Kd.rcd q.out q.5),
                                          (1, Blk.arr 35 Kd.cal q.cs q.toPG.3), (0, Blk.ro Kd.rcd q.l)],
                                      nx := 5, nt := 96, tl := [0, 1, 2, 3, 4, 5, 6, 7, 8, 9, 10, 11, 12, 13, 14, 15, 16] : St V }))))
                            (Out.stop EX.nx
                              {
                                env :=
                                  [(0, AV.sl false 0 0 8 q.l.length q.toPL.2), (4, AV.sl false 1 0 5 q.cs.length (q.cs.length + q.toPG.3)),
                                    (5, AV.sl false 2 0 8 q.out.length (q.out.length + q.5)),
                                    (6, AV.sl false 4 0 8 (q.base ++ lateAt q.l q.cs q.2 x.1).length ((q.base ++ lateAt q.l q.cs q.2 x.1).length + x.2)),
                                    (7, AV.int IntKind.i64 (↑q.2 : Int)), (8, AV.bool (keepAt q.cs q.2 x.1)),
                                    (9, AV.int IntKind.i64 (IntKind.i64.wrap ((↑x.1 : Int) + 1)))],
                                heap :=
                                  [(4, Blk.arr 30 Kd.rcd (q.base ++ lateAt q.l q.cs q.2 x.1) x.2), (2, Blk.arr 30 Kd.rcd q.out q.5),
                                    (1, Blk.arr 35 Kd.cal q.cs q.toPG.3), (0, Blk.ro Kd.rcd q.l)],
                                nx := 5, nt := 96, tl := [0, 1, 2, 3, 4, 5, 6, 7, 8, 9, 10, 11, 12, 13, 14, 15, 16] : St V })))))))
                (Out.need (0 ≤ (↑x.1 : Int) ∧ (↑x.1 : Int) < (↑q.cs.length : Int))
                  (Out.need (0 + x.1 < q.cs.length)
                    (Out.ite ((q.cs.getD (0 + x.1) (V.enc Kd.cal).dflt).at_ == (↑q.2 : Int))
                      (Out.need (0 ≤ (↑x.1 : Int) ∧ (↑x.1 : Int) < (↑q.cs.length : Int))
                        (Out.need (0 + x.1 < q.cs.length)
                          (Out.ite (decide ((q.cs.getD (0 + x.1) (V.enc Kd.cal).dflt).to_ < 0))
                            (Out.need (0 ≤ (↑q.2 : Int) ∧ (↑q.2 : Int) < (↑q.l.length : Int))
                              (Out.need (0 + q.2 < q.l.length)
                                (Out.need (0 ≤ (↑q.2 : Int) ∧ (↑q.2 : Int) < (↑q.l.length : Int))
                                  (Out.need (0 + q.2 < q.l.length)
                                    (Out.need (0 ≤ (↑q.2 : Int) ∧ (↑q.2 : Int) < (↑q.l.length : Int))
                                      (Out.need (0 + q.2 < q.l.length)
                                        (Out.need
                                          (0 = 0 ∧
                                            (q.base ++ lateAt q.l q.cs q.2 x.1).length = (q.base ++ lateAt q.l q.cs q.2 x.1).length ∧
                                              (q.base ++ lateAt q.l q.cs q.2 x.1).length + x.2 = (q.base ++ lateAt q.l q.cs q.2 x.1).length + x.2 ∧
                                                ((q.base ++ lateAt q.l q.cs q.2 x.1).length + 1) * 64 ≤ 140737488355328)
                                          (Out.all Nat fun y =>
                                            Out.stop EX.nx
                                              {
                                                env :=
                                                  [(0, AV.sl false 0 0 8 q.l.length q.toPL.2), (4, AV.sl false 1 0 5 q.cs.length (q.cs.length + q.toPG.3)),
                                                    (5, AV.sl false 2 0 8 q.out.length (q.out.length + q.5)),
                                                    (6,
                                                      AV.sl false 6 0 8 ((q.base ++ lateAt q.l q.cs q.2 x.1).length + 1)
                                                        ((q.base ++ lateAt q.l q.cs q.2 x.1).length + 1 + y)),
                                                    (7, AV.int IntKind.i64 (↑q.2 : Int)), (8, AV.bool (keepAt q.cs q.2 x.1)),
                                                    (9, AV.int IntKind.i64 (IntKind.i64.wrap ((↑x.1 : Int) + 1)))],
                                                heap :=
                                                  [(6,
                                                      Blk.arr 30 Kd.rcd
                                                        (q.base ++ lateAt q.l q.cs q.2 x.1 ++
                                                          [{ thread := (q.l.getD (0 + q.2) (V.enc Kd.rcd).dflt).thread,
                                                              op := (q.l.getD (0 + q.2) (V.enc Kd.rcd).dflt).op, what := 3,
                                                              act := (q.l.getD (0 + q.2) (V.enc Kd.rcd).dflt).act,
                                                              key := (q.l.getD (0 + q.2) (V.enc Kd.rcd).dflt).key,
                                                              value := (q.l.getD (0 + q.2) (V.enc Kd.rcd).dflt).value,
                                                              hit := (q.l.getD (0 + q.2) (V.enc Kd.rcd).dflt).hit, err := 0 : Rec }])
                                                        y),
                                                    (5,
                                                      Blk.cells 30
                                                        [AV.int IntKind.i64 (q.l.getD (0 + q.2) (V.enc Kd.rcd).dflt).thread,
                                                          AV.int IntKind.i64 (q.l.getD (0 + q.2) (V.enc Kd.rcd).dflt).op, AV.lit IntKind.i64 3,
                                                          AV.int IntKind.i64 (q.l.getD (0 + q.2) (V.enc Kd.rcd).dflt).act,
                                                          AV.int IntKind.i64 (q.l.getD (0 + q.2) (V.enc Kd.rcd).dflt).key,
                                                          AV.int IntKind.i64 (q.l.getD (0 + q.2) (V.enc Kd.rcd).dflt).value,
                                                          AV.bool (q.l.getD (0 + q.2) (V.enc Kd.rcd).dflt).hit, AV.lit IntKind.i64 0]),
                                                    (2, Blk.arr 30 Kd.rcd q.out q.5), (1, Blk.arr 35 Kd.cal q.cs q.toPG.3), (0, Blk.ro Kd.rcd q.l)],
                                                nx := 7, nt := 96, tl := [4, 0, 1, 2, 3, 4, 5, 6, 7, 8, 9, 10, 11, 12, 13, 14, 15, 16] : St V }))))))))
                            (Out.stop EX.nx
                              {
                                env :=
                                  [(0, AV.sl false 0 0 8 q.l.length q.toPL.2), (4, AV.sl false 1 0 5 q.cs.length (q.cs.length + q.toPG.3)),
                                    (5, AV.sl false 2 0 8 q.out.length (q.out.length + q.5)),
                                    (6, AV.sl false 4 0 8 (q.base ++ lateAt q.l q.cs q.2 x.1).length ((q.base ++ lateAt q.l q.cs q.2 x.1).length + x.2)),
                                    (7, AV.int IntKind.i64 (↑q.2 : Int)), (8, AV.bool (keepAt q.cs q.2 x.1)),
                                    (9, AV.int IntKind.i64 (IntKind.i64.wrap ((↑x.1 : Int) + 1)))],
                                heap :=
                                  [(4, Blk.arr 30 Kd.rcd (q.base ++ lateAt q.l q.cs q.2 x.1) x.2), (2, Blk.arr 30 Kd.rcd q.out q.5),
                                    (1, Blk.arr 35 Kd.cal q.cs q.toPG.3), (0, Blk.ro Kd.rcd q.l)],
                                nx := 5, nt := 96, tl := [0, 1, 2, 3, 4, 5, 6, 7, 8, 9, 10, 11, 12, 13, 14, 15, 16] : St V }))))
                      (Out.stop EX.nx
                        {
                          env :=
                            [(0, AV.sl false 0 0 8 q.l.length q.toPL.2), (4, AV.sl false 1 0 5 q.cs.length (q.cs.length + q.toPG.3)),
                              (5, AV.sl false 2 0 8 q.out.length (q.out.length + q.5)),
                              (6, AV.sl false 4 0 8 (q.base ++ lateAt q.l q.cs q.2 x.1).length ((q.base ++ lateAt q.l q.cs q.2 x.1).length + x.2)),
                              (7, AV.int IntKind.i64 (↑q.2 : Int)), (8, AV.bool (keepAt q.cs q.2 x.1)),
                              (9, AV.int IntKind.i64 (IntKind.i64.wrap ((↑x.1 : Int) + 1)))],
                          heap :=
                            [(4, Blk.arr 30 Kd.rcd (q.base ++ lateAt q.l q.cs q.2 x.1) x.2), (2, Blk.arr 30 Kd.rcd q.out q.5),
                              (1, Blk.arr 35 Kd.cal q.cs q.toPG.3), (0, Blk.ro Kd.rcd q.l)],
                          nx := 5, nt := 96, tl := [0, 1, 2, 3, 4, 5, 6, 7, 8, 9, 10, 11, 12, 13, 14, 15, 16] : St V })))))))
          (Out.need (0 ≤ (↑x.1 : Int) ∧ (↑x.1 : Int) < (↑q.cs.length : Int))
            (Out.need (0 + x.1 < q.cs.length)
              (Out.ite ((q.cs.getD (0 + x.1) (V.enc Kd.cal).dflt).at_ == (↑q.2 : Int))
                (Out.need (0 ≤ (↑x.1 : Int) ∧ (↑x.1 : Int) < (↑q.cs.length : Int))
                  (Out.need (0 + x.1 < q.cs.length)
                    (Out.ite (decide ((q.cs.getD (0 + x.1) (V.enc Kd.cal).dflt).to_ < 0))
                      (Out.need (0 ≤ (↑q.2 : Int) ∧ (↑q.2 : Int) < (↑q.l.length : Int))
                        (Out.need (0 + q.2 < q.l.length)
                          (Out.need (0 ≤ (↑q.2 : Int) ∧ (↑q.2 : Int) < (↑q.l.length : Int))
                            (Out.need (0 + q.2 < q.l.length)
                              (Out.need (0 ≤ (↑q.2 : Int) ∧ (↑q.2 : Int) < (↑q.l.length : Int))
                                (Out.need (0 + q.2 < q.l.length)
                                  (Out.need
                                    (0 = 0 ∧
                                      (q.base ++ lateAt q.l q.cs q.2 x.1).length = (q.base ++ lateAt q.l q.cs q.2 x.1).length ∧
                                        (q.base ++ lateAt q.l q.cs q.2 x.1).length + x.2 = (q.base ++ lateAt q.l q.cs q.2 x.1).length + x.2 ∧
                                          ((q.base ++ lateAt q.l q.cs q.2 x.1).length + 1) * 64 ≤ 140737488355328)
                                    (Out.all Nat fun y =>
                                      Out.stop EX.nx
                                        {
                                          env :=
                                            [(0, AV.sl false 0 0 8 q.l.length q.toPL.2), (4, AV.sl false 1 0 5 q.cs.length (q.cs.length + q.toPG.3)),
                                              (5, AV.sl false 2 0 8 q.out.length (q.out.length + q.5)),
                                              (6,
                                                AV.sl false 6 0 8 ((q.base ++ lateAt q.l q.cs q.2 x.1).length + 1)
                                                  ((q.base ++ lateAt q.l q.cs q.2 x.1).length + 1 + y)),
                                              (7, AV.int IntKind.i64 (↑q.2 : Int)), (8, AV.bool (keepAt q.cs q.2 x.1)),
                                              (9, AV.int IntKind.i64 (IntKind.i64.wrap ((↑x.1 : Int) + 1)))],
                                          heap :=
                                            [(6,
                                                Blk.arr 30 Kd.rcd
                                                  (q.base ++ lateAt q.l q.cs q.2 x.1 ++
                                                    [{ thread := (q.l.getD (0 + q.2) (V.enc Kd.rcd).dflt).thread,
                                                        op := (q.l.getD (0 + q.2) (V.enc Kd.rcd).dflt).op, what := 3,
                                                        act := (q.l.getD (0 + q.2) (V.enc Kd.rcd).dflt).act, key := (q.l.getD (0 + q.2) (V.enc Kd.rcd).dflt).key,
                                                        value := (q.l.getD (0 + q.2) (V.enc Kd.rcd).dflt).value,
                                                        hit := (q.l.getD (0 + q.2) (V.enc Kd.rcd).dflt).hit, err := 0 : Rec }])
                                                  y),
                                              (5,
                                                Blk.cells 30
                                                  [AV.int IntKind.i64 (q.l.getD (0 + q.2) (V.enc Kd.rcd).dflt).thread,
                                                    AV.int IntKind.i64 (q.l.getD (0 + q.2) (V.enc Kd.rcd).dflt).op, AV.lit IntKind.i64 3,
                                                    AV.int IntKind.i64 (q.l.getD (0 + q.2) (V.enc Kd.rcd).dflt).act,
                                                    AV.int IntKind.i64 (q.l.getD (0 + q.2) (V.enc Kd.rcd).dflt).key,
                                                    AV.int IntKind.i64 (q.l.getD (0 + q.2) (V.enc Kd.rcd).dflt).value,
                                                    AV.bool (q.l.getD (0 + q.2) (V.enc Kd.rcd).dflt).hit, AV.lit IntKind.i64 0]),
                                              (2, Blk.arr 30 Kd.rcd q.out q.5), (1, Blk.arr 35 Kd.cal q.cs q.toPG.3), (0, Blk.ro Kd.rcd q.l)],
                                          nx := 7, nt := 96, tl := [4, 0, 1, 2, 3, 4, 5, 6, 7, 8, 9, 10, 11, 12, 13, 14, 15, 16] : St V }))))))))
                      (Out.stop EX.nx
                        {
                          env :=
                            [(0, AV.sl false 0 0 8 q.l.length q.toPL.2), (4, AV.sl false 1 0 5 q.cs.length (q.cs.length + q.toPG.3)),
                              (5, AV.sl false 2 0 8 q.out.length (q.out.length + q.5)),
                              (6, AV.sl false 4 0 8 (q.base ++ lateAt q.l q.cs q.2 x.1).length ((q.base ++ lateAt q.l q.cs q.2 x.1).length + x.2)),
                              (7, AV.int IntKind.i64 (↑q.2 : Int)), (8, AV.bool (keepAt q.cs q.2 x.1)),
                              (9, AV.int IntKind.i64 (IntKind.i64.wrap ((↑x.1 : Int) + 1)))],
                          heap :=
                            [(4, Blk.arr 30 Kd.rcd (q.base ++ lateAt q.l q.cs q.2 x.1) x.2), (2, Blk.arr 30 Kd.rcd q.out q.5),
                              (1, Blk.arr 35 Kd.cal q.cs q.toPG.3), (0, Blk.ro Kd.rcd q.l)],
                          nx := 5, nt := 96, tl := [0, 1, 2, 3, 4, 5, 6, 7, 8, 9, 10, 11, 12, 13, 14, 15, 16] : St V }))))
                (Out.stop EX.nx
                  {
                    env :=
                      [(0, AV.sl false 0 0 8 q.l.length q.toPL.2), (4, AV.sl false 1 0 5 q.cs.length (q.cs.length + q.toPG.3)),
                        (5, AV.sl false 2 0 8 q.out.length (q.out.length + q.5)),
                        (6, AV.sl false 4 0 8 (q.base ++ lateAt q.l q.cs q.2 x.1).length ((q.base ++ lateAt q.l q.cs q.2 x.1).length + x.2)),
                        (7, AV.int IntKind.i64 (↑q.2 : Int)), (8, AV.bool (keepAt q.cs q.2 x.1)), (9, AV.int IntKind.i64 (IntKind.i64.wrap ((↑x.1 : Int) + 1)))],
                    heap :=
                      [(4, Blk.arr 30 Kd.rcd (q.base ++ lateAt q.l q.cs q.2 x.1) x.2), (2, Blk.arr 30 Kd.rcd q.out q.5), (1, Blk.arr 35 Kd.cal q.cs q.toPG.3),
                        (0, Blk.ro Kd.rcd q.l)],
                    nx := 5, nt := 96, tl := [0, 1, 2, 3, 4, 5, 6, 7, 8, 9, 10, 11, 12, 13, 14, 15, 16] : St V })))))))
    (Out.stop (EX.ex 2)
      {
        env :=
          [(0, AV.sl false 0 0 8 q.l.length q.toPL.2), (4, AV.sl false 1 0 5 q.cs.length (q.cs.length + q.toPG.3)),
            (5, AV.sl false 2 0 8 q.out.length (q.out.length + q.5)),
            (6, AV.sl false 4 0 8 (q.base ++ lateAt q.l q.cs q.2 x.1).length ((q.base ++ lateAt q.l q.cs q.2 x.1).length + x.2)),
            (7, AV.int IntKind.i64 (↑q.2 : Int)), (8, AV.bool (keepAt q.cs q.2 x.1)), (9, AV.int IntKind.i64 (↑x.1 : Int))],
        heap :=
          [(4, Blk.arr 30 Kd.rcd (q.base ++ lateAt q.l q.cs q.2 x.1) x.2), (2, Blk.arr 30 Kd.rcd q.out q.5), (1, Blk.arr 35 Kd.cal q.cs q.toPG.3),
            (0, Blk.ro Kd.rcd q.l)],
        nx := 5, nt := 96, tl := [0, 1, 2, 3, 4, 5, 6, 7, 8, 9, 10, 11, 12, 13, 14, 15, 16] : St V }) := by kernel_rfl

theorem b140 (p : PG) (x : Nat × Nat × Nat) : runCode cfg142 60 14 (loopOf Try.f14 0) (I140 p x) (stopT (trimSt [0, 4, 5, 6, 7] [0, 1, 2, 3, 4, 5, 6, 7, 8, 9, 10])) =
  Out.ite (decide ((↑x.1 : Int) < (↑p.l.length : Int)))
    (Out.need (LoopFor Try.prog 14 2 (loopOf Try.f14 2) L142)
      (Out.ex (PGI → Prop) fun y =>
        Out.need
          (4 ≤ 4 ∧
            SImp 4
              {
                env :=
                  [(0, AV.sl false 0 0 8 p.l.length p.toPL.2), (4, AV.sl false 1 0 5 p.cs.length (p.cs.length + p.3)),
                    (5, AV.sl false 2 0 8 (keptTo p.l p.cs x.1).length ((keptTo p.l p.cs x.1).length + x.snd.1)),
                    (6, AV.sl false 3 0 8 (moreTo p.l p.cs x.1).length ((moreTo p.l p.cs x.1).length + x.snd.2)), (7, AV.int IntKind.i64 (↑x.1 : Int)),
                    (8, AV.tt), (9, AV.lit IntKind.i64 0)],
                heap :=
                  [(2, Blk.arr 30 Kd.rcd (keptTo p.l p.cs x.1) x.snd.1), (3, Blk.arr 30 Kd.rcd (moreTo p.l p.cs x.1) x.snd.2), (1, Blk.arr 35 Kd.cal p.cs p.3),
                    (0, Blk.ro Kd.rcd p.l)],
                nx := 4, nt := 96, tl := [0, 1, 2, 3, 4, 5, 6, 7, 8, 9, 10, 11, 12, 13, 14, 15, 16] : St V }
              (fun q => I142 q (0, q.7)) y)
          (Out.all PGI fun y_1 =>
            Out.asm (y y_1)
              (Out.all Nat fun y =>
                Out.asm ((fun x x_1 => True) y_1 y)
                  (Out.ite (keepAt y_1.cs y_1.2 (y_1.cs.length, y).fst)
                    (Out.need (0 ≤ (↑y_1.2 : Int) ∧ (↑y_1.2 : Int) < (↑y_1.l.length : Int))
                      (Out.need (0 + y_1.2 < y_1.l.length)
                        (Out.need
                          (0 = 0 ∧
                            y_1.out.length = y_1.out.length ∧ y_1.out.length + y_1.5 = y_1.out.length + y_1.5 ∧ (y_1.out.length + 1) * 64 ≤ 140737488355328)
                          (Out.all Nat fun y_2 =>
                            Out.stop EX.nx
                              {
                                env :=
                                  [(0, AV.sl false 0 0 8 y_1.l.length y_1.toPL.2), (4, AV.sl false 1 0 5 y_1.cs.length (y_1.cs.length + y_1.toPG.3)),
                                    (5, AV.sl false 6 0 8 (y_1.out.length + 1) (y_1.out.length + 1 + y_2)),
                                    (6,
                                      AV.sl false 4 0 8 (y_1.base ++ lateAt y_1.l y_1.cs y_1.2 (y_1.cs.length, y).fst).length
                                        ((y_1.base ++ lateAt y_1.l y_1.cs y_1.2 (y_1.cs.length, y).fst).length + y)),
                                    (7, AV.int IntKind.i64 (IntKind.i64.wrap ((↑y_1.2 : Int) + 1)))],
                                heap :=
                                  [(6,
                                      Blk.arr 30 Kd.rcd
                                        (y_1.out ++
                                          [{ thread := (y_1.l.getD (0 + y_1.2) (V.enc Kd.rcd).dflt).thread, op := (y_1.l.getD (0 + y_1.2) (V.enc Kd.rcd).dflt).op,
                                              what := (y_1.l.getD (0 + y_1.2) (V.enc Kd.rcd).dflt).what, act := (y_1.l.getD (0 + y_1.2) (V.enc Kd.rcd).dflt).act,
                                              key := (y_1.l.getD (0 + y_1.2) (V.enc Kd.rcd).dflt).key,
                                              value := (y_1.l.getD (0 + y_1.2) (V.enc Kd.rcd).dflt).value,
                                              hit := (y_1.l.getD (0 + y_1.2) (V.enc Kd.rcd).dflt).hit, err := (y_1.l.getD (0 + y_1.2) (V.enc Kd.rcd).dflt).err :
                                              Rec }])
                                        y_2),
                                    (5,
                                      Blk.cells 30
                                        [AV.int IntKind.i64 (y_1.l.getD (0 + y_1.2) (V.enc Kd.rcd).dflt).thread,
                                          AV.int IntKind.i64 (y_1.l.getD (0 + y_1.2) (V.enc Kd.rcd).dflt).op,
                                          AV.int IntKind.i64 (y_1.l.getD (0 + y_1.2) (V.enc Kd.rcd).dflt).what,
                                          AV.int IntKind.i64 (y_1.l.getD (0 + y_1.2) (V.enc Kd.rcd).dflt).act,
                                          AV.int IntKind.i64 (y_1.l.getD (0 + y_1.2) (V.enc Kd.rcd).dflt).key,
                                          AV.int IntKind.i64 (y_1.l.getD (0 + y_1.2) (V.enc Kd.rcd).dflt).value,
                                          AV.bool (y_1.l.getD (0 + y_1.2) (V.enc Kd.rcd).dflt).hit,
                                          AV.int IntKind.i64 (y_1.l.getD (0 + y_1.2) (V.enc Kd.rcd).dflt).err]),
                                    (4, Blk.arr 30 Kd.rcd (y_1.base ++ lateAt y_1.l y_1.cs y_1.2 (y_1.cs.length, y).fst) y),
                                    (1, Blk.arr 35 Kd.cal y_1.cs y_1.toPG.3), (0, Blk.ro Kd.rcd y_1.l)],
                                nx := 7, nt := 96, tl := [2, 0, 1, 2, 3, 4, 5, 6, 7, 8, 9, 10, 11, 12, 13, 14, 15, 16] : St V }))))
                    (Out.stop EX.nx
                      {
                        env :=
                          [(0, AV.sl false 0 0 8 y_1.l.length y_1.toPL.2), (4, AV.sl false 1 0 5 y_1.cs.length (y_1.cs.length + y_1.toPG.3)),
                            (5, AV.sl false 2 0 8 y_1.out.length (y_1.out.length + y_1.5)),
                            (6,
                              AV.sl false 4 0 8 (y_1.base ++ lateAt y_1.l y_1.cs y_1.2 (y_1.cs.length, y).fst).length
                                ((y_1.base ++ lateAt y_1.l y_1.cs y_1.2 (y_1.cs.length, y).fst).length + y)),
                            (7, AV.int IntKind.i64 (IntKind.i64.wrap ((↑y_1.2 : Int) + 1)))],
                        heap :=
                          [(4, Blk.arr 30 Kd.rcd (y_1.base ++ lateAt y_1.l y_1.cs y_1.2 (y_1.cs.length, y).fst) y), (2, Blk.arr 30 Kd.rcd y_1.out y_1.5),
                            (1, Blk.arr 35 Kd.cal y_1.cs y_1.toPG.3), (0, Blk.ro Kd.rcd y_1.l)],
                        nx := 5, nt := 96, tl := [0, 1, 2, 3, 4, 5, 6, 7, 8, 9, 10, 11, 12, 13, 14, 15, 16] : St V }))))))
    (Out.stop (EX.ex 0)
      {
        env :=
          [(0, AV.sl false 0 0 8 p.l.length p.toPL.2), (4, AV.sl false 1 0 5 p.cs.length (p.cs.length + p.3)),
            (5, AV.sl false 2 0 8 (keptTo p.l p.cs x.1).length ((keptTo p.l p.cs x.1).length + x.snd.1)),
            (6, AV.sl false 3 0 8 (moreTo p.l p.cs x.1).length ((moreTo p.l p.cs x.1).length + x.snd.2)), (7, AV.int IntKind.i64 (↑x.1 : Int))],
        heap :=
          [(2, Blk.arr 30 Kd.rcd (keptTo p.l p.cs x.1) x.snd.1), (3, Blk.arr 30 Kd.rcd (moreTo p.l p.cs x.1) x.snd.2), (1, Blk.arr 35 Kd.cal p.cs p.3),
            (0, Blk.ro Kd.rcd p.l)],
        nx := 4, nt := 96, tl := [0, 1, 2, 3, 4, 5, 6, 7, 8, 9, 10, 11, 12, 13, 14, 15, 16] : St V }) := by kernel_rfl

theorem t18 (a b : Cal) : runF cfgS 60 18 Try.f18 [.agg (Cal.lay.enc a), .agg (Cal.lay.enc b)] [] 2 =
  Out.ite (decide (a.to_ ≥ 0))
    (Out.fin (AV.bool (decide (a.to_ < b.frm)))
      [(3, Blk.cells 35 [AV.int IntKind.i64 b.thread, AV.int IntKind.i64 b.op, AV.int IntKind.i64 b.frm, AV.int IntKind.i64 b.at_, AV.int IntKind.i64 b.to_]),
        (2, Blk.cells 35 [AV.int IntKind.i64 a.thread, AV.int IntKind.i64 a.op, AV.int IntKind.i64 a.frm, AV.int IntKind.i64 a.at_, AV.int IntKind.i64 a.to_])]
      4)
    (Out.fin AV.ff
      [(3, Blk.cells 35 [AV.int IntKind.i64 b.thread, AV.int IntKind.i64 b.op, AV.int IntKind.i64 b.frm, AV.int IntKind.i64 b.at_, AV.int IntKind.i64 b.to_]),
        (2, Blk.cells 35 [AV.int IntKind.i64 a.thread, AV.int IntKind.i64 a.op, AV.int IntKind.i64 a.frm, AV.int IntKind.i64 a.at_, AV.int IntKind.i64 a.to_])]
      4) := by kernel_rfl

theorem t24 (l : List Rec) (c : Nat) : runF cfg140 60 24 Try.f24 [.sl false 0 0 8 l.length c] [(0, .ro Kd.rcd l)] 1 =
  Out.need (0 + l.length ≤ l.length)
    (Out.need ((List.take l.length (List.drop 0 l)).length ≤ 1099511627776)
      (Out.need (LoopFor Try.prog 24 0 (loopOf Try.f24 0) L240)
        (Out.ex (PB → Prop) fun y =>
          Out.need
            (1 ≤ 1 ∧
              SImp 1
                { env := [(0, AV.sl false 0 0 8 l.length c), (3, AV.bool (hRight (List.take l.length (List.drop 0 l)))), (4, AV.nilS), (5, AV.lit IntKind.i64 0)],
                  heap := [(0, Blk.ro Kd.rcd l)], nx := 1, nt := 32, tl := [] : St V }
                (fun p => I240 p (0, 0)) y)
            (Out.all PB fun y_1 =>
              Out.asm (y y_1)
                (Out.all Nat fun y =>
                  Out.asm ((fun x x_1 => True) y_1 y)
                    (Out.fin (AV.sl false 1 0 4 (outC y_1).length ((outC y_1).length + y)) [(1, Blk.arr 27 Kd.com (outC y_1) y), (0, Blk.ro Kd.rcd y_1.l)] 2)))))) := by kernel_rfl

theorem t26 (l : List Rec) (c : Nat) : runF cfg140 60 26 Try.f26 [.sl false 0 0 8 l.length c] [(0, .ro Kd.rcd l)] 1 =
  Out.need (0 + l.length ≤ l.length)
    (Out.need
      ((List.take l.length (List.drop 0 l)).length ≤ 1099511627776 ∧ ∀ (r : V.El Kd.rcd), r ∈ List.take l.length (List.drop 0 l) → r.op < 9223372036854775808)
      (Out.all Nat fun y =>
        Out.need (LoopFor Try.prog 26 0 (loopOf Try.f26 0) L260)
          (Out.ex (PC → Prop) fun y_1 =>
            Out.need
              (2 ≤ 2 ∧
                SImp 2
                  {
                    env :=
                      [(3, AV.sl false 1 0 5 (hCallsOf (List.take l.length (List.drop 0 l))).length ((hCallsOf (List.take l.length (List.drop 0 l))).length + y)),
                        (4, AV.lit IntKind.i64 0), (5, AV.lit IntKind.i64 0)],
                    heap := [(1, Blk.arr 35 Kd.cal (hCallsOf (List.take l.length (List.drop 0 l))) y)], nx := 2, nt := 23, tl := [0] : St V }
                  (fun p => I260 p 0) y_1)
              (Out.all PC fun y =>
                Out.asm (y_1 y)
                  (Out.all Unit fun y_2 =>
                    Out.asm ((fun x x_1 => True) y y_2) (Out.fin (AV.int IntKind.i64 (↑(openTo y.cs y.cs.length) : Int)) [(1, Blk.arr 35 Kd.cal y.cs y.4)] 2)))))) := by kernel_rfl

theorem t14 (l : List Rec) (c : Nat) : runF cfg140 60 14 Try.f14 [.sl false 0 0 8 l.length c] [(0, .ro Kd.rcd l)] 1 =
  Out.need (0 + l.length ≤ l.length)
    (Out.need ((List.take l.length (List.drop 0 l)).length ≤ 1099511627776)
      (Out.ite (!hRight (List.take l.length (List.drop 0 l))) (Out.fin AV.nilS [(0, Blk.ro Kd.rcd l)] 1)
        (Out.need (0 + l.length ≤ l.length)
          (Out.need
            ((List.take l.length (List.drop 0 l)).length ≤ 1099511627776 ∧
              ∀ (r : V.El Kd.rcd), r ∈ List.take l.length (List.drop 0 l) → r.op < 9223372036854775808)
            (Out.all Nat fun y =>
              Out.need (LoopFor Try.prog 14 0 (loopOf Try.f14 0) L140)
                (Out.ex (PG → Prop) fun y_1 =>
                  Out.need
                    (2 ≤ 2 ∧
                      SImp 2
                        {
                          env :=
                            [(0, AV.sl false 0 0 8 l.length c),
                              (4,
                                AV.sl false 1 0 5 (hCallsOf (List.take l.length (List.drop 0 l))).length
                                  ((hCallsOf (List.take l.length (List.drop 0 l))).length + y)),
                              (5, AV.nilS), (6, AV.nilS), (7, AV.lit IntKind.i64 0)],
                          heap := [(1, Blk.arr 35 Kd.cal (hCallsOf (List.take l.length (List.drop 0 l))) y), (0, Blk.ro Kd.rcd l)], nx := 2, nt := 96, tl := [] :
                          St V }
                        (fun p => I140 p (0, 0, 0)) y_1)
                    (Out.all PG fun y =>
                      Out.asm (y_1 y)
                        (Out.all (Nat × Nat) fun y_2 =>
                          Out.asm ((fun x x_1 => True) y y_2)
                            (Out.need (0 + (moreTo y.l y.cs (y.l.length, y_2).fst).length ≤ (moreTo y.l y.cs (y.l.length, y_2).fst).length)
                              (Out.need
                                (0 = 0 ∧
                                  (keptTo y.l y.cs (y.l.length, y_2).fst).length = (keptTo y.l y.cs (y.l.length, y_2).fst).length ∧
                                    (keptTo y.l y.cs (y.l.length, y_2).fst).length + (y.l.length, y_2).snd.fst =
                                        (keptTo y.l y.cs (y.l.length, y_2).fst).length + (y.l.length, y_2).snd.fst ∧
                                      ((keptTo y.l y.cs (y.l.length, y_2).fst).length +
                                            (List.take (moreTo y.l y.cs (y.l.length, y_2).fst).length
                                                (List.drop 0 (moreTo y.l y.cs (y.l.length, y_2).fst))).length) *
                                          64 ≤
                                        140737488355328)
                                (Out.all Nat fun y_3 =>
                                  Out.fin
                                    (AV.sl false 4 0 8
                                      ((keptTo y.l y.cs (y.l.length, y_2).fst).length +
                                        (List.take (moreTo y.l y.cs (y.l.length, y_2).fst).length (List.drop 0 (moreTo y.l y.cs (y.l.length, y_2).fst))).length)
                                      ((keptTo y.l y.cs (y.l.length, y_2).fst).length +
                                          (List.take (moreTo y.l y.cs (y.l.length, y_2).fst).length
                                              (List.drop 0 (moreTo y.l y.cs (y.l.length, y_2).fst))).length +
                                        y_3))
                                    [(4,
                                        Blk.arr 30 Kd.rcd
                                          (keptTo y.l y.cs (y.l.length, y_2).fst ++
                                            List.take (moreTo y.l y.cs (y.l.length, y_2).fst).length (List.drop 0 (moreTo y.l y.cs (y.l.length, y_2).fst)))
                                          y_3),
                                      (3, Blk.arr 30 Kd.rcd (moreTo y.l y.cs (y.l.length, y_2).fst) (y.l.length, y_2).snd.snd), (1, Blk.arr 35 Kd.cal y.cs y.3),
                                      (0, Blk.ro Kd.rcd y.l)]
                                    5))))))))))) := by kernel_rfl

end Sx
end Go.Proofs.Ytemcdjdglcceiaa

/-
  The document's answer of what is left and completed, as plain data: the same as what is read.
-/
namespace Go.Proofs.Ytemcdjdglcceiaa
namespace Sx
open Go
set_option linter.unusedSimpArgs false
set_option linter.unusedVariables false

theorem filter_le_one {α : Type} {p : α → Bool} : ∀ {l : List α}, (∀ (j k : Nat) (a b : α), j < k → l[j]? = some a → l[k]? = some b → p a = true → p b = true → False) → (l.filter p).length ≤ 1
  | [], _ => Nat.zero_le _
  | x :: l, h => by
    cases e : p x with
    | true =>
      have : l.filter p = [] := by
        apply List.filter_eq_nil_iff.2
        intro b hb hp
        obtain ⟨k, hk⟩ := List.getElem?_of_mem hb
        exact h 0 (k + 1) x b (by omega) rfl hk e hp
      rw [List.filter_cons_of_pos e, this]
      exact Nat.le_refl _
    | false =>
      rw [List.filter_cons_of_neg (by rw [e]; decide)]
      exact filter_le_one fun j k a b hjk ha hb => h (j + 1) (k + 1) a b (by omega) ha hb

/-- What holds of the calls of a row that is read. -/
structure Plain1 (l : List Rec) (cs : List Cal) : Prop where
  len : cs.length ≤ l.length
  hu : ∀ i, (cs.filter (isLate i)).length ≤ 1
  sgn : ∀ c ∈ cs, (c.at_ = -1 ∨ 0 ≤ c.at_) ∧ (c.to_ = -1 ∨ 0 ≤ c.to_)
  late : ∀ c ∈ cs, ∀ i : Nat, c.at_ = i → c.to_ = -1 → (l.getD i r0).err = 0
theorem plain_calls {l : List Rec} (hl : ∀ r ∈ l, r.op < 9223372036854775808) : Plain1 l (hCallsOf l) := by
  cases hs : readTo l l.length with
  | none =>
    rw [(right_none hs).2]
    exact ⟨Nat.zero_le _, fun i => Nat.zero_le _, fun c h => (by cases h), fun c h => (by cases h)⟩
  | some s =>
    rw [(right_some hs).2]
    have hb := get_bound hl
    have I := readTo_inv hb hs
    refine ⟨I.len, fun i => filter_le_one fun j k a b hjk ha hbk pa pb => ?_, fun c hc => ?_, fun c hc i h1 h2 => ?_⟩
    · simp only [isLate, decide_eq_true_eq] at pa pb
      have a1 := I.at_ j a ha
      have b1 := I.at_ k b hbk
      rcases a1 with a1 | ⟨_, _, _, a2, _⟩
      · omega
      rcases b1 with b1 | ⟨_, _, _, b2, _⟩
      · omega
      rw [pa.1] at a2
      rw [pb.1] at b2
      have t := I.to_ j a ha
      have w := (I.two j k a b hjk ha hbk (by rw [← a2, ← b2])).1
      omega
    · obtain ⟨j, hj⟩ := List.getElem?_of_mem hc
      have a1 := I.at_ j c hj
      have a2 := I.to_ j c hj
      have a3 := I.frm j c hj
      omega
    · obtain ⟨j, hj⟩ := List.getElem?_of_mem hc
      exact (late_at hb hs hj h1 h2).2.2.1

theorem open_left {cs : List Cal} (h : ∀ c ∈ cs, (c.at_ = -1 ∨ 0 ≤ c.at_) ∧ (c.to_ = -1 ∨ 0 ≤ c.to_)) : openTo cs cs.length = hLeftOf cs := by
  unfold openTo hLeftOf
  rw [List.take_length]
  congr 1
  apply List.filter_congr
  intro c hc
  have := h c hc
  by_cases e : c.to_ = -1
  · simp [e]
  · have e2 : ¬ c.to_ < 0 := by omega
    simp [e, e2]
theorem keep_drop {cs : List Cal} (h : ∀ c ∈ cs, (c.at_ = -1 ∨ 0 ≤ c.at_) ∧ (c.to_ = -1 ∨ 0 ≤ c.to_)) (i : Nat) : keepAt cs i cs.length = !hDrop cs i := by
  unfold keepAt hDrop
  rw [List.take_length]
  congr 1
  rw [Bool.eq_iff_iff, List.any_eq_true, List.any_eq_true]
  constructor
  · rintro ⟨c, hc, hp⟩
    have := h c hc
    simp only [isGone, decide_eq_true_eq] at hp
    exact ⟨c, hc, decide_eq_true (by omega)⟩
  · rintro ⟨c, hc, hp⟩
    have := h c hc
    simp only [decide_eq_true_eq] at hp
    exact ⟨c, hc, decide_eq_true (by omega)⟩
theorem kept_out {l : List Rec} {cs : List Cal} (h : ∀ c ∈ cs, (c.at_ = -1 ∨ 0 ≤ c.at_) ∧ (c.to_ = -1 ∨ 0 ≤ c.to_)) : ∀ n, keptTo l cs n = hOut l cs n
  | 0 => rfl
  | n + 1 => by
    rw [hOut_succ, ← kept_out h n]
    show keptTo l cs n ++ (if keepAt cs n cs.length = true then [l.getD n r0] else []) = _
    rw [keep_drop h n]
    cases hDrop cs n <;> rfl
theorem late_one {l : List Rec} {cs : List Cal} (P : Plain1 l cs) (i : Nat) : lateAt l cs i cs.length = if hLate cs i then [{ l.getD i r0 with what := 3 }] else [] := by
  have hu := P.hu i
  unfold lateAt
  rw [List.take_length]
  cases e : hLate cs i with
  | true =>
    obtain ⟨j, c, h1, h2, h3⟩ := (hLate_iff cs i).1 e
    have hc : c ∈ cs := List.mem_of_getElem? h1
    have hm : c ∈ cs.filter (isLate i) := List.mem_filter.2 ⟨hc, decide_eq_true ⟨h2, by omega⟩⟩
    have he := P.late c hc i h2 h3
    have : lateRec l i = { l.getD i r0 with what := 3 } := by
      unfold lateRec
      generalize l.getD i r0 = r at *
      cases r
      simp only at he
      subst he; rfl
    rw [if_pos rfl, ← this]
    match hf : cs.filter (isLate i), hu, hm with
    | [x], _, _ => rfl
  | false =>
    have : cs.filter (isLate i) = [] := by
      apply List.filter_eq_nil_iff.2
      intro c hc hp
      simp only [isLate, decide_eq_true_eq] at hp
      obtain ⟨j, hj⟩ := List.getElem?_of_mem hc
      have := P.sgn c hc
      have := (hLate_iff cs i).2 ⟨j, c, hj, hp.1, by omega⟩
      rw [e] at this; cases this
    rw [this]; rfl
theorem more_out {l : List Rec} {cs : List Cal} (P : Plain1 l cs) : ∀ n, moreTo l cs n = hMore l cs n
  | 0 => rfl
  | n + 1 => by
    rw [hMore_succ, ← more_out P n]
    show moreTo l cs n ++ lateAt l cs n cs.length = _
    rw [late_one P n]

theorem moreTo_len {l : List Rec} {cs : List Cal} (hu : ∀ i, (cs.filter (isLate i)).length ≤ 1) : ∀ n, (moreTo l cs n).length ≤ n
  | 0 => Nat.le_refl _
  | n + 1 => by
    have ih := moreTo_len (l := l) hu n
    have h1 := hu n
    unfold moreTo lateAt
    rw [List.take_length, List.length_append, List.length_map]
    omega
theorem keptTo_len (l : List Rec) (cs : List Cal) : ∀ n, (keptTo l cs n).length ≤ n
  | 0 => Nat.le_refl _
  | n + 1 => by
    have ih := keptTo_len l cs n
    unfold keptTo
    rw [List.length_append]
    split
    · show _ + 1 ≤ _; omega
    · show _ + 0 ≤ _; omega
theorem lateAt_len {l : List Rec} {cs : List Cal} (hu : ∀ i, (cs.filter (isLate i)).length ≤ 1) (i k : Nat) : (lateAt l cs i k).length ≤ 1 := by
  unfold lateAt
  rw [List.length_map]
  exact Nat.le_trans ((List.Sublist.filter _ (List.take_sublist k cs)).length_le) (hu i)
theorem late_succ {cs : List Cal} {k : Nat} (l : List Rec) (i : Nat) (h : k < cs.length) : lateAt l cs i (k + 1) = lateAt l cs i k ++ if (cs.getD k c0).at_ = i ∧ (cs.getD k c0).to_ < 0 then [lateRec l i] else [] := by
  unfold lateAt
  rw [List.take_succ_eq_append_getElem h, List.filter_append, List.map_append, getD_el c0 h]
  congr 1
  by_cases e : (cs[k]).at_ = i ∧ (cs[k]).to_ < 0
  · rw [if_pos e, List.filter_cons_of_pos (by exact decide_eq_true e)]; rfl
  · rw [if_neg e, List.filter_cons_of_neg (by simpa [isLate] using e)]; rfl
theorem keep_succ {cs : List Cal} {k : Nat} (i : Nat) (h : k < cs.length) : keepAt cs i (k + 1) = (keepAt cs i k && !decide ((cs.getD k c0).frm = i ∧ (cs.getD k c0).at_ < 0 ∧ (cs.getD k c0).to_ < 0)) := by
  unfold keepAt
  rw [List.take_succ_eq_append_getElem h, List.any_append, getD_el c0 h]
  simp [isGone]
theorem openTo_succ {cs : List Cal} {i : Nat} (h : i < cs.length) : openTo cs (i + 1) = openTo cs i + if (cs.getD i c0).to_ < 0 then 1 else 0 := by
  unfold openTo
  rw [List.take_succ_eq_append_getElem h, List.filter_append, List.length_append, getD_el c0 h]
  congr 1
  by_cases e : (cs[i]).to_ < 0 <;> simp [e]
theorem openTo_le (cs : List Cal) (i : Nat) : openTo cs i ≤ cs.length := by
  unfold openTo
  exact Nat.le_trans (List.length_filter_le _ _) (by rw [List.length_take]; omega)

end Sx
end Go.Proofs.Ytemcdjdglcceiaa

/-
  The document's answer of commits, of what is left, and of what is completed: as what is read.
-/
namespace Go.Proofs.Ytemcdjdglcceiaa
namespace Sx
open Go
set_option linter.unusedSimpArgs false
set_option linter.unusedVariables false

theorem hooksS_ok : ∀ g H, hooksS g = some H → HookOk Try.prog g H := by
  intro g H h
  unfold hooksS at h
  split at h
  · cases h; exact hCallsRef
  · unfold hooksR at h
    split at h
    · cases h; exact hRightRef
    · exact hooksI_ok _ _ h
theorem cfgS_ok : cfgS.ok := ⟨tab_met, kinds_met, mixed_met, fun g fn h => (by cases h), hooksS_ok⟩
theorem cfg142_ok : cfg142.ok := ⟨tab_met, kinds_met, mixed_met, fun g fn h => (by cases h), hooksS_ok⟩
theorem cfg140_ok : cfg140.ok := ⟨tab_met, kinds_met, mixed_met, fun g fn h => (by cases h), hooksS_ok⟩

/-! ## Commits -/
theorem body240 (p : PB) (x : Nat × Nat) (hi : x.1 ≤ p.l.length) (Q : EX → St V → Prop) (F : AV → Heap V → Nat → Prop)
    (hnx : ∀ (ST : St V) (sp b : Nat), x.1 < p.l.length → p.ok = true → Wk 1 [(1, b)] ST (I240 p (x.1 + 1, sp)) → Q .nx ST)
    (he : (p.ok = false ∨ x.1 = p.l.length) → outC p = takesTo p.l x.1) (hex : ∀ ST : St V, Wk 1 [(1, 1)] ST (E240 p x.2) → Q (.ex 0) ST) :
    (runCode cfgS 60 24 (loopOf Try.f24 0) (I240 p x) (stopT (trimSt [0, 3, 4, 5] [0, 1, 2, 3, 4, 5, 6]))).holds ⟨Q, F⟩ := by
  rw [b240]
  have hb := p.hb
  have hle := takesTo_le p.l x.1
  have hw : x.1 < p.l.length → IntKind.wrap .i64 ((x.1 : Int) + 1) = ((x.1 + 1 : Nat) : Int) := fun h => wrap_nat (by omega)
  have hs : x.1 < p.l.length → takesTo p.l (x.1 + 1) = takesTo p.l x.1 ++ if (p.l.getD x.1 (V.enc Kd.rcd).dflt).what = 2 then [(p.l.getD x.1 (V.enc Kd.rcd).dflt).com] else [] := takesTo_succ
  have blk : ∀ {a b : List Com} {s : Nat}, a = b → BSub (some (.arr 27 Kd.com a s : Blk V)) (.arr 27 Kd.com b s) := fun h => by rw [h]; exact .same _
  simp only [Out.holds, Nat.zero_add, decide_eq_true_eq, decide_eq_false_iff_not, beq_iff_eq, beq_eq_false_iff_ne]
  by_cases hlt : x.1 < p.l.length
  · refine ⟨fun h => ⟨fun hok => ⟨by omega, by omega, fun h2 => ⟨by omega, by omega, ⟨trivial, trivial, trivial, by omega⟩, fun y => hnx _ y 3 hlt hok ?_⟩, fun h2 => hnx _ x.2 1 hlt hok ?_⟩, fun hok => hex _ ?_⟩, fun h => absurd hlt (by omega)⟩
    · have e := hs hlt
      rw [if_pos h2] at e
      have el : (takesTo p.l x.1).length + 1 = (takesTo p.l (x.1 + 1)).length := by rw [e]; simp
      exact ⟨⟨AV.sub_same _, AV.sub_same _, AV.sub_sl el (by rw [el]), AV.sub_int (hw hlt), trivial⟩, ⟨blk e.symm, .same _, trivial⟩, rfl, tl_ok rfl, ⟨.inl (in_ok rfl), .inl (in_ok rfl), .inr rfl, trivial⟩, ⟨Nat.le_of_ble_eq_true rfl, rfl⟩⟩
    · have e := hs hlt
      rw [if_neg h2, List.append_nil] at e
      exact ⟨⟨AV.sub_same _, AV.sub_same _, AV.sub_sl (by rw [e]) (by rw [e]), AV.sub_int (hw hlt), trivial⟩, ⟨blk e.symm, .same _, trivial⟩, rfl, tl_ok rfl, ⟨.inl (in_ok rfl), .inr rfl, trivial⟩, ⟨Nat.le_of_ble_eq_true rfl, rfl⟩⟩
    · have E := he (.inl hok)
      exact ⟨⟨AV.sub_sl (by rw [E]) (by rw [E]), trivial⟩, ⟨blk E.symm, .same _, trivial⟩, rfl, tl_ok rfl, ⟨.inl (in_ok rfl), .inr rfl, trivial⟩, ⟨Nat.le_of_ble_eq_true rfl, rfl⟩⟩
  · refine ⟨fun h => absurd h (by omega), fun h => hex _ ?_⟩
    have E := he (.inr (by omega))
    exact ⟨⟨AV.sub_sl (by rw [E]) (by rw [E]), trivial⟩, ⟨blk E.symm, .same _, trivial⟩, rfl, tl_ok rfl, ⟨.inl (in_ok rfl), .inr rfl, trivial⟩, ⟨Nat.le_of_ble_eq_true rfl, rfl⟩⟩
theorem l240_ok : LoopOk Try.prog 0 (loopOf Try.f24 0) L240 := by
  refine trimLoop_ok (trim_ok _ _) (loopTH_ok (C := cfgS) cfgS_ok (f := 24) (n := 60) (trim_ok [0, 3, 4, 5] [0, 1, 2, 3, 4, 5, 6]) 1 I240 (fun p x => x.1 ≤ p.l.length ∧ (p.ok = true ∨ x.1 = 0)) (fun _ => (0, 0)) (fun p x => p.l.length - x.1) (fun _ (_ : Nat) => True) (fun p sp => E240 p sp) (fun p => ⟨Nat.zero_le _, .inr rfl⟩) ?_)
  intro p x ⟨hi, hok⟩
  refine body240 p x hi _ _ (fun ST sp b hlt h hw => SImp.of_wk (x.1 + 1, sp) hw ⟨⟨hlt, .inl h⟩, ?_⟩) (fun he => ?_) (fun ST hw => ⟨rfl, SImp.of_wk (ren := [(1, 1)]) x.2 hw trivial⟩)
  · show p.l.length - (x.1 + 1) < p.l.length - x.1; omega
  · unfold outC
    rcases he with h | h
    · rcases hok with h2 | h2
      · rw [h] at h2; cases h2
      · rw [h, h2]; rfl
    · rcases hok with h2 | h2
      · rw [h2, h]; rfl
      · rw [← h, h2]; cases p.ok <;> rfl
theorem hCommitsRef : HookOk Try.prog 24 (hookFree [.rows Kd.rcd] runCommits) := by
  refine free_hook (C := cfg140) cfg140_ok (n := 60) (fn := Try.f24) ⟨by kernel_rfl, by kernel_rfl⟩ (by kernel_rfl) ?_
  intro M ar K0 H
  unfold runCommits at H
  split at H
  · rename_i l c
    obtain ⟨hb, H⟩ := H
    refine ⟨show 1 ≤ _ by decide +kernel, ?_⟩
    show (runF cfg140 60 24 Try.f24 [.sl false 0 0 8 l.length c] [(0, .ro Kd.rcd l)] 1).holds _
    rw [t24]
    rw [show List.take l.length (List.drop 0 l) = l from List.take_length ..]
    refine ⟨by omega, hb, l240_ok, fun p => p = ⟨⟨l, c, hb⟩, hRight l⟩, ⟨Nat.le_refl _, SImp.of_wk (ren := [(1, 99)]) ⟨⟨l, c, hb⟩, hRight l⟩ ?_ rfl⟩, ?_⟩
    · exact ⟨⟨AV.sub_same _, AV.sub_same _, AV.sub_nilS, AV.sub_lit', trivial⟩, ⟨.none _ _, .same _, trivial⟩, rfl, tl_ok rfl, ⟨.inr rfl, trivial⟩, ⟨Nat.le_of_ble_eq_true rfl, rfl⟩⟩
    · rintro _ rfl sp _
      have e : outC ⟨⟨l, c, hb⟩, hRight l⟩ = hCommits l := by
        unfold outC hCommits takesTo
        show (if hRight l = true then ((l.take l.length).filter _).map _ else []) = _
        rw [List.take_length]
      dsimp only
      rw [e]
      exact ⟨_, _, H sp, _, HImp.refl _ _, ⟨⟨fun _ => 1, ⟨.same _, trivial⟩, AV.sub_same _⟩, rfl, rfl⟩⟩
  · exact H.elim

/-! ## Left -/
theorem body260 (p : PC) (i : Nat) (hi : i ≤ p.cs.length) (Q : EX → St V → Prop) (F : AV → Heap V → Nat → Prop)
    (hnx : ∀ ST : St V, i < p.cs.length → Wk 2 [] ST (I260 p (i + 1)) → Q .nx ST) (hex : ∀ ST : St V, i = p.cs.length → Wk 2 [] ST (I260 p i) → Q (.ex 0) ST) :
    (runCode cfgS 60 26 (loopOf Try.f26 0) (I260 p i) (stopT (trimSt [3, 4, 5] [1]))).holds ⟨Q, F⟩ := by
  rw [b260]
  have hb := p.hb
  have hle := openTo_le p.cs i
  have hw : i < p.cs.length → IntKind.wrap .i64 ((i : Int) + 1) = ((i + 1 : Nat) : Int) := fun h => wrap_nat (by omega)
  have hs : i < p.cs.length → openTo p.cs (i + 1) = openTo p.cs i + if (p.cs.getD i (V.enc Kd.cal).dflt).to_ < 0 then 1 else 0 := openTo_succ
  have hv : IntKind.wrap .i64 ((openTo p.cs i : Int) + 1) = ((openTo p.cs i + 1 : Nat) : Int) := wrap_nat (by omega)
  simp only [Out.holds, Nat.zero_add, decide_eq_true_eq, decide_eq_false_iff_not, beq_iff_eq, beq_eq_false_iff_ne]
  refine ⟨fun h => ⟨by omega, by omega, fun h2 => hnx _ (by omega) ?_, fun h2 => hnx _ (by omega) ?_⟩, fun h => hex _ (by omega) ?_⟩
  · exact ⟨⟨AV.sub_same _, AV.sub_int (by rw [hv, hs (by omega), if_pos h2]), AV.sub_int (hw (by omega)), trivial⟩, ⟨.same _, trivial⟩, rfl, tl_ok rfl, ⟨.inr rfl, trivial⟩, ⟨Nat.le_of_ble_eq_true rfl, rfl⟩⟩
  · exact ⟨⟨AV.sub_same _, AV.sub_int (by rw [hs (by omega), if_neg h2]; rfl), AV.sub_int (hw (by omega)), trivial⟩, ⟨.same _, trivial⟩, rfl, tl_ok rfl, ⟨.inr rfl, trivial⟩, ⟨Nat.le_of_ble_eq_true rfl, rfl⟩⟩
  · exact ⟨⟨AV.sub_same _, AV.sub_same _, AV.sub_same _, trivial⟩, ⟨.same _, trivial⟩, rfl, tl_ok rfl, ⟨.inr rfl, trivial⟩, ⟨Nat.le_of_ble_eq_true rfl, rfl⟩⟩
theorem l260_ok : LoopOk Try.prog 0 (loopOf Try.f26 0) L260 := by
  refine trimLoop_ok (trim_ok _ _) (loopTH_ok (C := cfgS) cfgS_ok (f := 26) (n := 60) (trim_ok [3, 4, 5] [1]) 2 I260 (fun p i => i ≤ p.cs.length) (fun _ => 0) (fun p i => p.cs.length - i) (fun _ (_ : Unit) => True) (fun p _ => I260 p p.cs.length) (fun p => Nat.zero_le _) ?_)
  intro p i hi
  exact body260 p i hi _ _ (fun ST hlt hw => SImp.of_wk (i + 1) hw ⟨hlt, by omega⟩) (fun ST he hw => ⟨rfl, SImp.of_wk () (by subst he; exact hw) trivial⟩)
def runLeftR : RunFree V := fun ar K => match ar with
  | [.rows .rcd l c] => .need (l.length ≤ 1099511627776 ∧ ∀ r ∈ l, r.op < 9223372036854775808) (K (.int .i64 (hLeft l : Int)) [])
  | _ => .bad 500
theorem hLeftRef : HookOk Try.prog 26 (hookFree [.rows Kd.rcd] runLeftR) := by
  refine free_hook (C := cfg140) cfg140_ok (n := 60) (fn := Try.f26) ⟨by kernel_rfl, by kernel_rfl⟩ (by kernel_rfl) ?_
  intro M ar K0 H
  unfold runLeftR at H
  split at H
  · rename_i l c
    obtain ⟨⟨hb, hop⟩, H⟩ := H
    refine ⟨show 1 ≤ _ by decide +kernel, ?_⟩
    show (runF cfg140 60 26 Try.f26 [.sl false 0 0 8 l.length c] [(0, .ro Kd.rcd l)] 1).holds _
    rw [t26]
    rw [show List.take l.length (List.drop 0 l) = l from List.take_length ..]
    have hcl := calls_len l
    refine ⟨by omega, ⟨hb, hop⟩, fun sp => ⟨l260_ok, fun p => p = ⟨l, c, hCallsOf l, sp, by omega⟩, ⟨Nat.le_refl _, SImp.of_wk (ren := []) ⟨l, c, hCallsOf l, sp, by omega⟩ ?_ rfl⟩, ?_⟩⟩
    · exact ⟨⟨AV.sub_same _, AV.sub_lit rfl, AV.sub_lit', trivial⟩, ⟨.same _, trivial⟩, rfl, tl_ok rfl, ⟨.inr rfl, trivial⟩, ⟨Nat.le_of_ble_eq_true rfl, rfl⟩⟩
    · rintro _ rfl _ _
      refine ⟨_, _, H, endPlain (AV.sub_int ?_) rfl⟩
      show ((openTo (hCallsOf l) (hCallsOf l).length : Nat) : Int) = _
      rw [open_left (plain_calls hop).sgn]; rfl
  · exact H.elim
theorem hBeforeRef : HookOk Try.prog 18 (hookFree [.el Kd.cal, .el Kd.cal] runBefore) := by
  refine free_hook (C := cfgS) cfgS_ok (n := 60) (fn := Try.f18) ⟨by kernel_rfl, by kernel_rfl⟩ (by kernel_rfl) ?_
  intro M ar K0 H
  unfold runBefore at H
  split at H
  · rename_i a b
    refine ⟨show 2 ≤ _ by decide +kernel, ?_⟩
    show (runF cfgS 60 18 Try.f18 [.agg (Cal.lay.enc a), .agg (Cal.lay.enc b)] [] 2).holds _
    rw [t18]
    refine ⟨fun h => ⟨_, _, H, endPlain (AV.sub_bool ?_) rfl⟩, fun h => ⟨_, _, H, endPlain (AV.sub_ff ?_) rfl⟩⟩
    · unfold hBefore; rw [h, Bool.true_and]
    · unfold hBefore; rw [h, Bool.false_and]
  · exact H.elim

/-! ## Complete -/
theorem body142 (q : PGI) (x : Nat × Nat) (hk : x.1 ≤ q.cs.length) (Q : EX → St V → Prop) (F : AV → Heap V → Nat → Prop)
    (hnx : ∀ (ST : St V) (sp b : Nat), x.1 < q.cs.length → Wk 4 [(4, b)] ST (I142 q (x.1 + 1, sp)) → Q .nx ST) (hex : ∀ ST : St V, x.1 = q.cs.length → Wk 4 [(4, 4)] ST (I142 q x) → Q (.ex 2) ST) :
    (runCode cfgS 60 14 (loopOf Try.f14 2) (I142 q x) (stopT (trimSt [0, 4, 5, 6, 7, 8, 9] [0, 1, 2, 4, 5, 6, 7, 8, 9, 10]))).holds ⟨Q, F⟩ := by
  rw [b142]
  have hb := q.hb
  have hn := q.hn
  have hc := q.hc
  have hbs := q.hbs
  have hll := lateAt_len (l := q.l) q.hu q.n x.1
  have hw : x.1 < q.cs.length → IntKind.wrap .i64 ((x.1 : Int) + 1) = ((x.1 + 1 : Nat) : Int) := fun h => wrap_nat (by omega)
  have hL := late_succ q.l (k := x.1) (cs := q.cs) q.n
  have hK := keep_succ (k := x.1) (cs := q.cs) q.n
  rw [show (0 + x.1) = x.1 from Nat.zero_add _, show (0 + q.n) = q.n from Nat.zero_add _]
  rw [show q.cs.getD x.1 (V.enc Kd.cal).dflt = q.cs.getD x.1 c0 from rfl, show q.l.getD q.n (V.enc Kd.rcd).dflt = q.l.getD q.n r0 from rfl]
  generalize q.cs.getD x.1 c0 = d at hL hK ⊢
  have bl : (q.base ++ lateAt q.l q.cs q.n x.1).length = q.base.length + (lateAt q.l q.cs q.n x.1).length := List.length_append
  have hB1 : x.1 < q.cs.length → d.at_ = q.n ∧ d.to_ < 0 → q.base ++ lateAt q.l q.cs q.n (x.1 + 1) = (q.base ++ lateAt q.l q.cs q.n x.1) ++ [lateRec q.l q.n] := fun h h2 => by rw [hL h, if_pos h2, List.append_assoc]
  have hB0 : x.1 < q.cs.length → ¬ (d.at_ = q.n ∧ d.to_ < 0) → q.base ++ lateAt q.l q.cs q.n (x.1 + 1) = q.base ++ lateAt q.l q.cs q.n x.1 := fun h h2 => by rw [hL h, if_neg h2, List.append_nil]
  have hK1 : x.1 < q.cs.length → (d.frm = q.n ∧ d.at_ < 0 ∧ d.to_ < 0) → keepAt q.cs q.n (x.1 + 1) = false := fun h h2 => by rw [hK h, decide_eq_true h2]; cases keepAt q.cs q.n x.1 <;> rfl
  have hK0 : x.1 < q.cs.length → ¬ (d.frm = q.n ∧ d.at_ < 0 ∧ d.to_ < 0) → keepAt q.cs q.n x.1 = keepAt q.cs q.n (x.1 + 1) := fun h h2 => by rw [hK h, decide_eq_false h2]; cases keepAt q.cs q.n x.1 <;> rfl
  have len1 : ∀ {a b : List Rec} {r : Rec}, b = a ++ [r] → a.length + 1 = b.length := fun h => by rw [h]; simp
  have blk : ∀ {a b : List Rec} {y : Nat}, a = b → BSub (some (.arr 30 Kd.rcd a y : Blk V)) (.arr 30 Kd.rcd b y) := fun h => by rw [h]; exact .same _
  simp only [Out.holds, decide_eq_true_eq, decide_eq_false_iff_not, beq_iff_eq, beq_eq_false_iff_ne]
  by_cases hlt : x.1 < q.cs.length
  · refine ⟨fun _ => ?_, fun h => absurd hlt (by omega)⟩
    repeat' first | apply And.intro | intro _
    all_goals first
      | trivial
      | omega
      | (rw [bl]; omega)
      | exact hnx _ _ 6 hlt (by
          have e := hB1 hlt (by omega)
          have f := hK1 hlt (by omega)
          exact ⟨⟨AV.sub_same _, AV.sub_same _, AV.sub_same _, AV.sub_sl (len1 e) (by rw [len1 e]), AV.sub_same _, AV.sub_ff f, AV.sub_int (hw hlt), trivial⟩, ⟨blk e.symm, .same _, .same _, .same _, trivial⟩, rfl, tl_ok rfl, ⟨.inl (in_ok rfl), .inl (in_ok rfl), .inr rfl, .inr rfl, .inr rfl, trivial⟩, ⟨Nat.le_of_ble_eq_true rfl, rfl⟩⟩)
      | exact hnx _ _ 6 hlt (by
          have e := hB1 hlt (by omega)
          have f := hK0 hlt (by omega)
          exact ⟨⟨AV.sub_same _, AV.sub_same _, AV.sub_same _, AV.sub_sl (len1 e) (by rw [len1 e]), AV.sub_same _, AV.sub_bool f, AV.sub_int (hw hlt), trivial⟩, ⟨blk e.symm, .same _, .same _, .same _, trivial⟩, rfl, tl_ok rfl, ⟨.inl (in_ok rfl), .inl (in_ok rfl), .inr rfl, .inr rfl, .inr rfl, trivial⟩, ⟨Nat.le_of_ble_eq_true rfl, rfl⟩⟩)
      | exact hnx _ x.2 4 hlt (by
          have e := hB0 hlt (by omega)
          have f := hK1 hlt (by omega)
          exact ⟨⟨AV.sub_same _, AV.sub_same _, AV.sub_same _, AV.sub_sl (by rw [e]) (by rw [e]), AV.sub_same _, AV.sub_ff f, AV.sub_int (hw hlt), trivial⟩, ⟨blk e.symm, .same _, .same _, .same _, trivial⟩, rfl, tl_ok rfl, ⟨.inl (in_ok rfl), .inr rfl, .inr rfl, .inr rfl, trivial⟩, ⟨Nat.le_of_ble_eq_true rfl, rfl⟩⟩)
      | exact hnx _ x.2 4 hlt (by
          have e := hB0 hlt (by omega)
          have f := hK0 hlt (by omega)
          exact ⟨⟨AV.sub_same _, AV.sub_same _, AV.sub_same _, AV.sub_sl (by rw [e]) (by rw [e]), AV.sub_same _, AV.sub_bool f, AV.sub_int (hw hlt), trivial⟩, ⟨blk e.symm, .same _, .same _, .same _, trivial⟩, rfl, tl_ok rfl, ⟨.inl (in_ok rfl), .inr rfl, .inr rfl, .inr rfl, trivial⟩, ⟨Nat.le_of_ble_eq_true rfl, rfl⟩⟩)
      | skip
  · exact ⟨fun h => absurd h (by omega), fun h => hex _ (by omega) ⟨⟨AV.sub_same _, AV.sub_same _, AV.sub_same _, AV.sub_same _, AV.sub_same _, AV.sub_same _, AV.sub_same _, trivial⟩, ⟨.same _, .same _, .same _, .same _, trivial⟩, rfl, tl_ok rfl, ⟨.inl (in_ok rfl), .inr rfl, .inr rfl, .inr rfl, trivial⟩, ⟨Nat.le_of_ble_eq_true rfl, rfl⟩⟩⟩
theorem l142_ok : LoopOk Try.prog 2 (loopOf Try.f14 2) L142 := by
  refine trimLoop_ok (trim_ok _ _) (loopTH_ok (C := cfgS) cfgS_ok (f := 14) (n := 60) (trim_ok [0, 4, 5, 6, 7, 8, 9] [0, 1, 2, 4, 5, 6, 7, 8, 9, 10]) 4 I142 (fun q x => x.1 ≤ q.cs.length) (fun q => (0, q.s0)) (fun q x => q.cs.length - x.1) (fun _ (_ : Nat) => True) (fun q s => I142 q (q.cs.length, s)) (fun q => Nat.zero_le _) ?_)
  intro q x hk
  refine body142 q x hk _ _ (fun ST sp b hlt hw => SImp.of_wk (x.1 + 1, sp) hw ⟨hlt, ?_⟩) (fun ST he hw => ⟨rfl, SImp.of_wk (ren := [(4, 4)]) x.2 ?_ trivial⟩)
  · show q.cs.length - (x.1 + 1) < q.cs.length - x.1; omega
  · obtain ⟨i, s⟩ := x; simp only at he; subst he; exact hw

theorem body140 (p : PG) (x : Nat × Nat × Nat) (hi : x.1 ≤ p.l.length) (Q : EX → St V → Prop) (F : AV → Heap V → Nat → Prop)
    (hnx : ∀ (ST : St V) (a b c d : Nat), x.1 < p.l.length → Wk 2 [(2, c), (3, d)] ST (I140 p (x.1 + 1, a, b)) → Q .nx ST)
    (hex : ∀ ST : St V, x.1 = p.l.length → Wk 2 [(2, 2), (3, 3)] ST (I140 p x) → Q (.ex 0) ST) :
    (runCode cfg142 60 14 (loopOf Try.f14 0) (I140 p x) (stopT (trimSt [0, 4, 5, 6, 7] [0, 1, 2, 3, 4, 5, 6, 7, 8, 9, 10]))).holds ⟨Q, F⟩ := by
  rw [b140]
  have hb := p.hb
  have hkl := keptTo_len p.l p.cs x.1
  have hml := moreTo_len (l := p.l) p.hu x.1
  have hw : x.1 < p.l.length → IntKind.wrap .i64 ((x.1 : Int) + 1) = ((x.1 + 1 : Nat) : Int) := fun h => wrap_nat (by omega)
  have eK : keptTo p.l p.cs (x.1 + 1) = keptTo p.l p.cs x.1 ++ if keepAt p.cs x.1 p.cs.length then [p.l.getD x.1 r0] else [] := rfl
  have eM : moreTo p.l p.cs x.1 ++ lateAt p.l p.cs x.1 p.cs.length = moreTo p.l p.cs (x.1 + 1) := rfl
  have len1 : ∀ {a b : List Rec} {r : Rec}, b = a ++ [r] → a.length + 1 = b.length := fun h => by rw [h]; simp
  have blk : ∀ {a b : List Rec} {y : Nat}, a = b → BSub (some (.arr 30 Kd.rcd a y : Blk V)) (.arr 30 Kd.rcd b y) := fun h => by rw [h]; exact .same _
  simp only [Out.holds, Nat.zero_add, decide_eq_true_eq, decide_eq_false_iff_not]
  by_cases hlt : x.1 < p.l.length
  · refine ⟨fun _ => ⟨l142_ok, fun q => q = ⟨p, x.1, hlt, keptTo p.l p.cs x.1, x.2.1, moreTo p.l p.cs x.1, x.2.2, by omega⟩, ⟨Nat.le_refl _, SImp.of_wk (ren := [(4, 3)]) ⟨p, x.1, hlt, keptTo p.l p.cs x.1, x.2.1, moreTo p.l p.cs x.1, x.2.2, by omega⟩ ?_ rfl⟩, ?_⟩, fun h => absurd hlt (by omega)⟩
    · have e0 : moreTo p.l p.cs x.1 = moreTo p.l p.cs x.1 ++ lateAt p.l p.cs x.1 0 := (List.append_nil _).symm
      exact ⟨⟨AV.sub_same _, AV.sub_same _, AV.sub_same _, AV.sub_sl (congrArg _ e0) (by dsimp only; rw [← e0]), AV.sub_same _, AV.sub_tt rfl, AV.sub_lit', trivial⟩, ⟨blk e0, .same _, .same _, .same _, trivial⟩, rfl, tl_ok rfl, ⟨.inr rfl, .inl (in_ok rfl), .inr rfl, .inr rfl, trivial⟩, ⟨Nat.le_of_ble_eq_true rfl, rfl⟩⟩
    · rintro _ rfl s _
      dsimp only
      rw [eM]
      refine ⟨fun h2 => ⟨by omega, hlt, ⟨trivial, trivial, trivial, by omega⟩, fun y => hnx _ y s 6 4 hlt ?_⟩, fun h2 => hnx _ x.2.1 s 2 4 hlt ?_⟩
      · rw [if_pos h2] at eK
        exact ⟨⟨AV.sub_same _, AV.sub_same _, AV.sub_sl (len1 eK) (by rw [len1 eK]), AV.sub_same _, AV.sub_int (hw hlt), trivial⟩, ⟨blk eK.symm, .same _, .same _, .same _, trivial⟩, rfl, tl_ok rfl, ⟨.inl (in_ok rfl), .inl (in_ok rfl), .inl (in_ok rfl), .inr rfl, .inr rfl, trivial⟩, ⟨Nat.le_of_ble_eq_true rfl, rfl⟩⟩
      · rw [if_neg (by rw [h2]; decide), List.append_nil] at eK
        exact ⟨⟨AV.sub_same _, AV.sub_same _, AV.sub_sl (by rw [eK]) (by rw [eK]), AV.sub_same _, AV.sub_int (hw hlt), trivial⟩, ⟨blk eK.symm, .same _, .same _, .same _, trivial⟩, rfl, tl_ok rfl, ⟨.inl (in_ok rfl), .inl (in_ok rfl), .inr rfl, .inr rfl, trivial⟩, ⟨Nat.le_of_ble_eq_true rfl, rfl⟩⟩
  · exact ⟨fun h => absurd h (by omega), fun h => hex _ (by omega) ⟨⟨AV.sub_same _, AV.sub_same _, AV.sub_same _, AV.sub_same _, AV.sub_same _, trivial⟩, ⟨.same _, .same _, .same _, .same _, trivial⟩, rfl, tl_ok rfl, ⟨.inl (in_ok rfl), .inl (in_ok rfl), .inr rfl, .inr rfl, trivial⟩, ⟨Nat.le_of_ble_eq_true rfl, rfl⟩⟩⟩
theorem l140_ok : LoopOk Try.prog 0 (loopOf Try.f14 0) L140 := by
  refine trimLoop_ok (trim_ok _ _) (loopTH_ok (C := cfg142) cfg142_ok (f := 14) (n := 60) (trim_ok [0, 4, 5, 6, 7] [0, 1, 2, 3, 4, 5, 6, 7, 8, 9, 10]) 2 I140 (fun p x => x.1 ≤ p.l.length) (fun _ => (0, 0, 0)) (fun p x => p.l.length - x.1) (fun _ (_ : Nat × Nat) => True) (fun p s => I140 p (p.l.length, s)) (fun p => Nat.zero_le _) ?_)
  intro p x hi
  refine body140 p x hi _ _ (fun ST a b c d hlt hw => SImp.of_wk (x.1 + 1, a, b) hw ⟨hlt, ?_⟩) (fun ST he hw => ⟨rfl, SImp.of_wk (ren := [(2, 2), (3, 3)]) x.2 ?_ trivial⟩)
  · show p.l.length - (x.1 + 1) < p.l.length - x.1; omega
  · obtain ⟨i, s⟩ := x; simp only at he; subst he; exact hw
def runCompleteR : RunFree V := fun ar K => match ar with
  | [.rows .rcd l c] => .need (l.length ≤ 1099511627776 ∧ ∀ r ∈ l, r.op < 9223372036854775808) (.all Nat fun sp => K (.sl false 0 0 8 (hComplete l).length ((hComplete l).length + sp)) [.arr 30 Kd.rcd (hComplete l) sp])
  | _ => .bad 500
theorem hCompleteRef : HookOk Try.prog 14 (hookFree [.rows Kd.rcd] runCompleteR) := by
  refine free_hook (C := cfg140) cfg140_ok (n := 60) (fn := Try.f14) ⟨by kernel_rfl, by kernel_rfl⟩ (by kernel_rfl) ?_
  intro M ar K0 H
  unfold runCompleteR at H
  split at H
  · rename_i l c
    obtain ⟨⟨hb, hop⟩, H⟩ := H
    refine ⟨show 1 ≤ _ by decide +kernel, ?_⟩
    show (runF cfg140 60 14 Try.f14 [.sl false 0 0 8 l.length c] [(0, .ro Kd.rcd l)] 1).holds _
    rw [t14]
    have P := plain_calls hop
    have ek := kept_out (l := l) P.sgn l.length
    have em := more_out P l.length
    have hkl := keptTo_len l (hCallsOf l) l.length
    have hml := moreTo_len (l := l) P.hu l.length
    rw [show List.take l.length (List.drop 0 l) = l from List.take_length ..]
    refine ⟨by omega, hb, fun h => ?_, fun h => ⟨by omega, ⟨hb, hop⟩, fun sp => ⟨l140_ok, fun p => p = ⟨⟨l, c, hb⟩, hCallsOf l, sp, P.len, P.hu⟩, ⟨Nat.le_refl _, SImp.of_wk (ren := [(2, 98), (3, 99)]) ⟨⟨l, c, hb⟩, hCallsOf l, sp, P.len, P.hu⟩ ?_ rfl⟩, ?_⟩⟩⟩
    · have hr : hRight l = false := by simpa using h
      have h0 := H 0
      rw [hComplete_not hr] at h0
      exact ⟨_, _, h0, _, HImp.refl _ _, ⟨⟨fun _ => 99, ⟨.none _ _, trivial⟩, AV.sub_nilS⟩, rfl, rfl⟩⟩
    · exact ⟨⟨AV.sub_same _, AV.sub_same _, AV.sub_nilS, AV.sub_nilS, AV.sub_lit', trivial⟩, ⟨.none _ _, .none _ _, .same _, .same _, trivial⟩, rfl, tl_ok rfl, ⟨.inr rfl, .inr rfl, trivial⟩, ⟨Nat.le_of_ble_eq_true rfl, rfl⟩⟩
    · have hr : hRight l = true := by simpa using h
      rintro _ rfl s _
      dsimp only
      rw [show List.take (moreTo l (hCallsOf l) l.length).length (List.drop 0 (moreTo l (hCallsOf l) l.length)) = moreTo l (hCallsOf l) l.length from List.take_length ..]
      refine ⟨by omega, ⟨rfl, rfl, rfl, by omega⟩, fun z => ?_⟩
      have h0 := H z
      have e := hComplete_eq hr
      rw [← ek, ← em] at e
      have el : (hComplete l).length = (keptTo l (hCallsOf l) l.length).length + (moreTo l (hCallsOf l) l.length).length := by rw [e, List.length_append]
      rw [el, e] at h0
      exact ⟨_, _, h0, _, HImp.refl _ _, ⟨⟨fun _ => 4, ⟨.same _, trivial⟩, AV.sub_same _⟩, rfl, rfl⟩⟩
  · exact H.elim

end Sx
end Go.Proofs.Ytemcdjdglcceiaa

/-
  The law of what records tell: the runs of the machine.
-/
namespace Go.Proofs.Ytemcdjdglcceiaa
namespace Sx
open Go
set_option maxRecDepth 100000
set_option linter.unusedVariables false

def hooksT : Nat → Option (HookS V) := fun g => match g with
  | 14 => some (hookFree [.rows Kd.rcd] runCompleteR)
  | 18 => some (hookFree [.el Kd.cal, .el Kd.cal] runBefore)
  | 24 => some (hookFree [.rows Kd.rcd] runCommits)
  | 26 => some (hookFree [.rows Kd.rcd] runLeftR)
  | g => hooksS g
noncomputable def cfgT : Cfg Try.prog V := ⟨tab, kinds, fun _ => none, hooksT, fun _ _ => none⟩
structure PT extends PL where
  same : Bool
  si : Nat
  a : List Rec
  sa : Nat
  ha : a.length ≤ 1099511627776
def I30 (p : PT) (x : Nat × List Rec) : St V := ⟨[(0, .sl false 0 0 8 p.l.length p.c), (3, .tt), (4, .sl false 2 0 8 p.l.length (p.l.length + p.si)), (5, .sl false 3 0 8 p.a.length (p.a.length + p.sa)), (6, .bool p.same), (7, .int .i64 (x.1 : Int))],
  [(3, .arr 30 Kd.rcd x.2 p.sa), (2, .arr 30 Kd.rcd p.l p.si), (0, .ro Kd.rcd p.l)], 5, 132, TL⟩
def E30 (p : PT) : St V := ⟨[(0, .sl false 0 0 8 p.l.length p.c), (3, .tt), (4, .sl false 2 0 8 p.l.length (p.l.length + p.si)), (6, .bool p.same)],
  [(2, .arr 30 Kd.rcd p.l p.si), (0, .ro Kd.rcd p.l)], 5, 132, TL⟩
def L30 : LoopS V := trimLoop (trimSt [0, 3, 4, 5, 6, 7] [0, 2, 3]) (loopH 5 (fun p : PT => I30 p (0, p.a)) (fun _ (_ : Unit) => True) (fun p _ => E30 p))
structure PW extends PL where
  same : Bool
  si : Nat
  sc : Nat
  sd : Nat
def I32 (p : PW) (i : Nat) : St V := ⟨[(0, .sl false 0 0 8 p.l.length p.c), (3, .tt), (4, .sl false 2 0 8 p.l.length (p.l.length + p.si)), (6, .bool p.same), (8, .sl false 5 0 5 (hCallsOf p.l).length ((hCallsOf p.l).length + p.sc)), (9, .sl false 6 0 5 (hCallsOf p.l).length ((hCallsOf p.l).length + p.sd)), (10, .int .i64 (i : Int))],
  [(6, .arr 35 Kd.cal (hCallsOf p.l) p.sd), (5, .arr 35 Kd.cal (hCallsOf p.l) p.sc), (2, .arr 30 Kd.rcd p.l p.si), (0, .ro Kd.rcd p.l)], 7, 132, TL⟩
structure PX extends PW where
  i : Nat
  hi : i < (hCallsOf l).length
def I34 (q : PX) (k : Nat) : St V := ⟨[(0, .sl false 0 0 8 q.l.length q.c), (3, .tt), (4, .sl false 2 0 8 q.l.length (q.l.length + q.si)), (6, .bool q.same), (8, .sl false 5 0 5 (hCallsOf q.l).length ((hCallsOf q.l).length + q.sc)), (9, .sl false 6 0 5 (hCallsOf q.l).length ((hCallsOf q.l).length + q.sd)), (10, .int .i64 (q.i : Int)), (11, .int .i64 (k : Int))],
  [(6, .arr 35 Kd.cal (hCallsOf q.l) q.sd), (5, .arr 35 Kd.cal (hCallsOf q.l) q.sc), (2, .arr 30 Kd.rcd q.l q.si), (0, .ro Kd.rcd q.l)], 7, 132, TL⟩
def L34 : LoopS V := trimLoop (trimSt [0, 3, 4, 6, 8, 9, 10, 11] [0, 2, 5, 6]) (loopH 7 (fun q : PX => I34 q 0) (fun _ (_ : Unit) => True) (fun q _ => I34 q q.i))
noncomputable def cfg34 : Cfg Try.prog V := ⟨tab, kinds, fun _ => none, hooksT, fun f id => match f, id with | 3, 4 => some L34 | _, _ => none⟩
def L32 : LoopS V := trimLoop (trimSt [0, 3, 4, 6, 8, 9, 10] [0, 2, 5, 6]) (loopH 7 (fun p : PW => I32 p 0) (fun _ (_ : Unit) => True) (fun p _ => I32 p (hCallsOf p.l).length))
noncomputable def cfg30 : Cfg Try.prog V := ⟨tab, kinds, fun _ => none, hooksT, fun f id => match f, id with | 3, 0 => some L30 | 3, 2 => some L32 | _, _ => none⟩
theorem b30 (p : PT) (x : Nat × List Rec) : runCode cfgT 60 3 (loopOf Try.f3 0) (I30 p x) (stopT (trimSt [0, 3, 4, 5, 6, 7] [0, 2, 3])) =
  Out.ite (decide ((↑x.1 : Int) < (↑p.a.length : Int)))
    (Out.need (0 ≤ (↑x.1 : Int) ∧ (↑x.1 : Int) < (↑p.a.length : Int))
      (Out.need (0 + x.1 < x.snd.length)
        (Out.stop EX.nx
          {
            env :=
              [(0, AV.sl false 0 0 8 p.l.length p.toPL.2), (3, AV.tt), (4, AV.sl false 2 0 8 p.l.length (p.l.length + p.3)),
                (5, AV.sl false 3 0 8 p.a.length (p.a.length + p.5)), (6, AV.bool p.same), (7, AV.int IntKind.i64 (IntKind.i64.wrap ((↑x.1 : Int) + 1)))],
            heap :=
              [(3,
                  Blk.arr 30 Kd.rcd
                    (x.snd.set (0 + x.1)
                      { thread := (x.snd.getD (0 + x.1) (V.enc Kd.rcd).dflt).thread, op := -7, what := (x.snd.getD (0 + x.1) (V.enc Kd.rcd).dflt).what,
                        act := (x.snd.getD (0 + x.1) (V.enc Kd.rcd).dflt).act, key := (x.snd.getD (0 + x.1) (V.enc Kd.rcd).dflt).key,
                        value := (x.snd.getD (0 + x.1) (V.enc Kd.rcd).dflt).value, hit := (x.snd.getD (0 + x.1) (V.enc Kd.rcd).dflt).hit,
                        err := (x.snd.getD (0 + x.1) (V.enc Kd.rcd).dflt).err : Rec })
                    p.5),
                (2, Blk.arr 30 Kd.rcd p.l p.3), (0, Blk.ro Kd.rcd p.l)],
            nx := 6, nt := 132, tl := [3, 0, 1, 2, 3, 4, 5, 6, 7, 8, 9, 10, 11, 12, 13, 14, 15, 16] : St V })))
    (Out.stop (EX.ex 0)
      {
        env :=
          [(0, AV.sl false 0 0 8 p.l.length p.toPL.2), (3, AV.tt), (4, AV.sl false 2 0 8 p.l.length (p.l.length + p.3)),
            (5, AV.sl false 3 0 8 p.a.length (p.a.length + p.5)), (6, AV.bool p.same), (7, AV.int IntKind.i64 (↑x.1 : Int))],
        heap := [(3, Blk.arr 30 Kd.rcd x.snd p.5), (2, Blk.arr 30 Kd.rcd p.l p.3), (0, Blk.ro Kd.rcd p.l)], nx := 5, nt := 132,
        tl := [0, 1, 2, 3, 4, 5, 6, 7, 8, 9, 10, 11, 12, 13, 14, 15, 16] : St V }) := by kernel_rfl

theorem b34 (q : PX) (k : Nat) : runCode cfgT 60 3 (loopOf Try.f3 4) (I34 q k) (stopT (trimSt [0, 3, 4, 6, 8, 9, 10, 11] [0, 2, 5, 6])) =
  Out.ite (decide ((↑k : Int) < (↑q.2 : Int)))
    (Out.need (0 ≤ (↑k : Int) ∧ (↑k : Int) < (↑(hCallsOf q.l).length : Int))
      (Out.need (0 + k < (hCallsOf q.l).length)
        (Out.need (0 ≤ (↑q.2 : Int) ∧ (↑q.2 : Int) < (↑(hCallsOf q.l).length : Int))
          (Out.need (0 + q.2 < (hCallsOf q.l).length)
            (Out.need (0 ≤ (↑k : Int) ∧ (↑k : Int) < (↑(hCallsOf q.l).length : Int))
              (Out.need (0 + k < (hCallsOf q.l).length)
                (Out.need (0 ≤ (↑q.2 : Int) ∧ (↑q.2 : Int) < (↑(hCallsOf q.l).length : Int))
                  (Out.need (0 + q.2 < (hCallsOf q.l).length)
                    (Out.ite
                      (!hBefore
                            { thread := ((hCallsOf q.l).getD (0 + k) (V.enc Kd.cal).dflt).thread, op := ((hCallsOf q.l).getD (0 + k) (V.enc Kd.cal).dflt).op,
                              frm := ((hCallsOf q.l).getD (0 + k) (V.enc Kd.cal).dflt).frm, at_ := ((hCallsOf q.l).getD (0 + k) (V.enc Kd.cal).dflt).at_,
                              to_ := ((hCallsOf q.l).getD (0 + k) (V.enc Kd.cal).dflt).to_ : Cal }
                            { thread := ((hCallsOf q.l).getD (0 + q.2) (V.enc Kd.cal).dflt).thread, op := ((hCallsOf q.l).getD (0 + q.2) (V.enc Kd.cal).dflt).op,
                              frm := ((hCallsOf q.l).getD (0 + q.2) (V.enc Kd.cal).dflt).frm, at_ := ((hCallsOf q.l).getD (0 + q.2) (V.enc Kd.cal).dflt).at_,
                              to_ := ((hCallsOf q.l).getD (0 + q.2) (V.enc Kd.cal).dflt).to_ : Cal } ==
                          hBefore
                            { thread := ((hCallsOf q.l).getD (0 + k) (V.enc Kd.cal).dflt).thread, op := ((hCallsOf q.l).getD (0 + k) (V.enc Kd.cal).dflt).op,
                              frm := ((hCallsOf q.l).getD (0 + k) (V.enc Kd.cal).dflt).frm, at_ := ((hCallsOf q.l).getD (0 + k) (V.enc Kd.cal).dflt).at_,
                              to_ := ((hCallsOf q.l).getD (0 + k) (V.enc Kd.cal).dflt).to_ : Cal }
                            { thread := ((hCallsOf q.l).getD (0 + q.2) (V.enc Kd.cal).dflt).thread, op := ((hCallsOf q.l).getD (0 + q.2) (V.enc Kd.cal).dflt).op,
                              frm := ((hCallsOf q.l).getD (0 + q.2) (V.enc Kd.cal).dflt).frm, at_ := ((hCallsOf q.l).getD (0 + q.2) (V.enc Kd.cal).dflt).at_,
                              to_ := ((hCallsOf q.l).getD (0 + q.2) (V.enc Kd.cal).dflt).to_ : Cal })
                      (Out.stop EX.rt
                        {
                          env :=
                            [(0, AV.sl false 0 0 8 q.l.length q.toPL.2), (3, AV.tt), (4, AV.sl false 2 0 8 q.l.length (q.l.length + q.toPW.3)),
                              (6, AV.bool q.same), (8, AV.sl false 5 0 5 (hCallsOf q.l).length ((hCallsOf q.l).length + q.toPW.4)),
                              (9, AV.sl false 6 0 5 (hCallsOf q.l).length ((hCallsOf q.l).length + q.toPW.5)), (10, AV.int IntKind.i64 (↑q.2 : Int)),
                              (11, AV.int IntKind.i64 (↑k : Int))],
                          heap :=
                            [(6, Blk.arr 35 Kd.cal (hCallsOf q.l) q.toPW.5), (5, Blk.arr 35 Kd.cal (hCallsOf q.l) q.toPW.4), (2, Blk.arr 30 Kd.rcd q.l q.toPW.3),
                              (0, Blk.ro Kd.rcd q.l)],
                          nx := 7, nt := 132, tl := [0, 1, 2, 3, 4, 5, 6, 7, 8, 9, 10, 11, 12, 13, 14, 15, 16] : St V })
                      (Out.need (0 ≤ (↑q.2 : Int) ∧ (↑q.2 : Int) < (↑(hCallsOf q.l).length : Int))
                        (Out.need (0 + q.2 < (hCallsOf q.l).length)
                          (Out.need (0 ≤ (↑k : Int) ∧ (↑k : Int) < (↑(hCallsOf q.l).length : Int))
                            (Out.need (0 + k < (hCallsOf q.l).length)
                              (Out.need (0 ≤ (↑q.2 : Int) ∧ (↑q.2 : Int) < (↑(hCallsOf q.l).length : Int))
                                (Out.need (0 + q.2 < (hCallsOf q.l).length)
                                  (Out.need (0 ≤ (↑k : Int) ∧ (↑k : Int) < (↑(hCallsOf q.l).length : Int))
                                    (Out.need (0 + k < (hCallsOf q.l).length)
                                      (Out.ite
                                        (!hBefore
                                              { thread := ((hCallsOf q.l).getD (0 + q.2) (V.enc Kd.cal).dflt).thread,
                                                op := ((hCallsOf q.l).getD (0 + q.2) (V.enc Kd.cal).dflt).op,
                                                frm := ((hCallsOf q.l).getD (0 + q.2) (V.enc Kd.cal).dflt).frm,
                                                at_ := ((hCallsOf q.l).getD (0 + q.2) (V.enc Kd.cal).dflt).at_,
                                                to_ := ((hCallsOf q.l).getD (0 + q.2) (V.enc Kd.cal).dflt).to_ : Cal }
                                              { thread := ((hCallsOf q.l).getD (0 + k) (V.enc Kd.cal).dflt).thread,
                                                op := ((hCallsOf q.l).getD (0 + k) (V.enc Kd.cal).dflt).op,
                                                frm := ((hCallsOf q.l).getD (0 + k) (V.enc Kd.cal).dflt).frm,
                                                at_ := ((hCallsOf q.l).getD (0 + k) (V.enc Kd.cal).dflt).at_,
                                                to_ := ((hCallsOf q.l).getD (0 + k) (V.enc Kd.cal).dflt).to_ : Cal } ==
                                            hBefore
                                              { thread := ((hCallsOf q.l).getD (0 + q.2) (V.enc Kd.cal).dflt).thread,
                                                op := ((hCallsOf q.l).getD (0 + q.2) (V.enc Kd.cal).dflt).op,
                                                frm := ((hCallsOf q.l).getD (0 + q.2) (V.enc Kd.cal).dflt).frm,
                                                at_ := ((hCallsOf q.l).getD (0 + q.2) (V.enc Kd.cal).dflt).at_,
                                                to_ := ((hCallsOf q.l).getD (0 + q.2) (V.enc Kd.cal).dflt).to_ : Cal }
                                              { thread := ((hCallsOf q.l).getD (0 + k) (V.enc Kd.cal).dflt).thread,
                                                op := ((hCallsOf q.l).getD (0 + k) (V.enc Kd.cal).dflt).op,
                                                frm := ((hCallsOf q.l).getD (0 + k) (V.enc Kd.cal).dflt).frm,
                                                at_ := ((hCallsOf q.l).getD (0 + k) (V.enc Kd.cal).dflt).at_,
                                                to_ := ((hCallsOf q.l).getD (0 + k) (V.enc Kd.cal).dflt).to_ : Cal })
                                        (Out.stop EX.rt
                                          {
                                            env :=
                                              [(0, AV.sl false 0 0 8 q.l.length q.toPL.2), (3, AV.tt), (4, AV.sl false 2 0 8 q.l.length (q.l.length + q.toPW.3)),
                                                (6, AV.bool q.same), (8, AV.sl false 5 0 5 (hCallsOf q.l).length ((hCallsOf q.l).length + q.toPW.4)),
                                                (9, AV.sl false 6 0 5 (hCallsOf q.l).length ((hCallsOf q.l).length + q.toPW.5)),
                                                (10, AV.int IntKind.i64 (↑q.2 : Int)), (11, AV.int IntKind.i64 (↑k : Int))],
                                            heap :=
                                              [(6, Blk.arr 35 Kd.cal (hCallsOf q.l) q.toPW.5), (5, Blk.arr 35 Kd.cal (hCallsOf q.l) q.toPW.4),
                                                (2, Blk.arr 30 Kd.rcd q.l q.toPW.3), (0, Blk.ro Kd.rcd q.l)],
                                            nx := 7, nt := 132, tl := [0, 1, 2, 3, 4, 5, 6, 7, 8, 9, 10, 11, 12, 13, 14, 15, 16] : St V })
                                        (Out.stop EX.nx
                                          {
                                            env :=
                                              [(0, AV.sl false 0 0 8 q.l.length q.toPL.2), (3, AV.tt), (4, AV.sl false 2 0 8 q.l.length (q.l.length + q.toPW.3)),
                                                (6, AV.bool q.same), (8, AV.sl false 5 0 5 (hCallsOf q.l).length ((hCallsOf q.l).length + q.toPW.4)),
                                                (9, AV.sl false 6 0 5 (hCallsOf q.l).length ((hCallsOf q.l).length + q.toPW.5)),
                                                (10, AV.int IntKind.i64 (↑q.2 : Int)), (11, AV.int IntKind.i64 (IntKind.i64.wrap ((↑k : Int) + 1)))],
                                            heap :=
                                              [(6, Blk.arr 35 Kd.cal (hCallsOf q.l) q.toPW.5), (5, Blk.arr 35 Kd.cal (hCallsOf q.l) q.toPW.4),
                                                (2, Blk.arr 30 Kd.rcd q.l q.toPW.3), (0, Blk.ro Kd.rcd q.l)],
                                            nx := 7, nt := 132, tl := [0, 1, 2, 3, 4, 5, 6, 7, 8, 9, 10, 11, 12, 13, 14, 15, 16] : St V })))))))))))))))))))
    (Out.stop (EX.ex 4)
      {
        env :=
          [(0, AV.sl false 0 0 8 q.l.length q.toPL.2), (3, AV.tt), (4, AV.sl false 2 0 8 q.l.length (q.l.length + q.toPW.3)), (6, AV.bool q.same),
            (8, AV.sl false 5 0 5 (hCallsOf q.l).length ((hCallsOf q.l).length + q.toPW.4)),
            (9, AV.sl false 6 0 5 (hCallsOf q.l).length ((hCallsOf q.l).length + q.toPW.5)), (10, AV.int IntKind.i64 (↑q.2 : Int)),
            (11, AV.int IntKind.i64 (↑k : Int))],
        heap :=
          [(6, Blk.arr 35 Kd.cal (hCallsOf q.l) q.toPW.5), (5, Blk.arr 35 Kd.cal (hCallsOf q.l) q.toPW.4), (2, Blk.arr 30 Kd.rcd q.l q.toPW.3),
            (0, Blk.ro Kd.rcd q.l)],
        nx := 7, nt := 132, tl := [0, 1, 2, 3, 4, 5, 6, 7, 8, 9, 10, 11, 12, 13, 14, 15, 16] : St V }) := by kernel_rfl

theorem b32 (p : PW) (i : Nat) : runCode cfg34 60 3 (loopOf Try.f3 2) (I32 p i) (stopT (trimSt [0, 3, 4, 6, 8, 9, 10] [0, 2, 5, 6])) =
  Out.ite (decide ((↑i : Int) < (↑(hCallsOf p.l).length : Int)))
    (Out.ite (decide ((↑i : Int) < (↑(hCallsOf p.l).length : Int)))
      (Out.need (LoopFor Try.prog 3 4 (loopOf Try.f3 4) L34)
        (Out.ex (PX → Prop) fun y =>
          Out.need
            (7 ≤ 7 ∧
              SImp 7
                {
                  env :=
                    [(0, AV.sl false 0 0 8 p.l.length p.toPL.2), (3, AV.tt), (4, AV.sl false 2 0 8 p.l.length (p.l.length + p.3)), (6, AV.bool p.same),
                      (8, AV.sl false 5 0 5 (hCallsOf p.l).length ((hCallsOf p.l).length + p.4)),
                      (9, AV.sl false 6 0 5 (hCallsOf p.l).length ((hCallsOf p.l).length + p.5)), (10, AV.int IntKind.i64 (↑i : Int)),
                      (11, AV.lit IntKind.i64 0)],
                  heap :=
                    [(6, Blk.arr 35 Kd.cal (hCallsOf p.l) p.5), (5, Blk.arr 35 Kd.cal (hCallsOf p.l) p.4), (2, Blk.arr 30 Kd.rcd p.l p.3),
                      (0, Blk.ro Kd.rcd p.l)],
                  nx := 7, nt := 132, tl := [0, 1, 2, 3, 4, 5, 6, 7, 8, 9, 10, 11, 12, 13, 14, 15, 16] : St V }
                (fun q => I34 q 0) y)
            (Out.all PX fun y_1 =>
              Out.asm (y y_1)
                (Out.all Unit fun y =>
                  Out.asm ((fun x x_1 => True) y_1 y)
                    (Out.stop EX.nx
                      {
                        env :=
                          [(0, AV.sl false 0 0 8 y_1.l.length y_1.toPL.2), (3, AV.tt), (4, AV.sl false 2 0 8 y_1.l.length (y_1.l.length + y_1.toPW.3)),
                            (6, AV.bool y_1.same), (8, AV.sl false 5 0 5 (hCallsOf y_1.l).length ((hCallsOf y_1.l).length + y_1.toPW.4)),
                            (9, AV.sl false 6 0 5 (hCallsOf y_1.l).length ((hCallsOf y_1.l).length + y_1.toPW.5)),
                            (10, AV.int IntKind.i64 (IntKind.i64.wrap ((↑y_1.2 : Int) + 1)))],
                        heap :=
                          [(6, Blk.arr 35 Kd.cal (hCallsOf y_1.l) y_1.toPW.5), (5, Blk.arr 35 Kd.cal (hCallsOf y_1.l) y_1.toPW.4),
                            (2, Blk.arr 30 Kd.rcd y_1.l y_1.toPW.3), (0, Blk.ro Kd.rcd y_1.l)],
                        nx := 7, nt := 132, tl := [0, 1, 2, 3, 4, 5, 6, 7, 8, 9, 10, 11, 12, 13, 14, 15, 16] : St V })))))
      (Out.stop (EX.ex 2)
        {
          env :=
            [(0, AV.sl false 0 0 8 p.l.length p.toPL.2), (3, AV.tt), (4, AV.sl false 2 0 8 p.l.length (p.l.length + p.3)), (6, AV.bool p.same),
              (8, AV.sl false 5 0 5 (hCallsOf p.l).length ((hCallsOf p.l).length + p.4)),
              (9, AV.sl false 6 0 5 (hCallsOf p.l).length ((hCallsOf p.l).length + p.5)), (10, AV.int IntKind.i64 (↑i : Int))],
          heap := [(6, Blk.arr 35 Kd.cal (hCallsOf p.l) p.5), (5, Blk.arr 35 Kd.cal (hCallsOf p.l) p.4), (2, Blk.arr 30 Kd.rcd p.l p.3), (0, Blk.ro Kd.rcd p.l)],
          nx := 7, nt := 132, tl := [0, 1, 2, 3, 4, 5, 6, 7, 8, 9, 10, 11, 12, 13, 14, 15, 16] : St V }))
    (Out.stop (EX.ex 2)
      {
        env :=
          [(0, AV.sl false 0 0 8 p.l.length p.toPL.2), (3, AV.tt), (4, AV.sl false 2 0 8 p.l.length (p.l.length + p.3)), (6, AV.bool p.same),
            (8, AV.sl false 5 0 5 (hCallsOf p.l).length ((hCallsOf p.l).length + p.4)),
            (9, AV.sl false 6 0 5 (hCallsOf p.l).length ((hCallsOf p.l).length + p.5)), (10, AV.int IntKind.i64 (↑i : Int))],
        heap := [(6, Blk.arr 35 Kd.cal (hCallsOf p.l) p.5), (5, Blk.arr 35 Kd.cal (hCallsOf p.l) p.4), (2, Blk.arr 30 Kd.rcd p.l p.3), (0, Blk.ro Kd.rcd p.l)],
        nx := 7, nt := 132, tl := [0, 1, 2, 3, 4, 5, 6, 7, 8, 9, 10, 11, 12, 13, 14, 15, 16] : St V }) := by kernel_rfl

theorem t3 (l : List Rec) (c : Nat) : runL cfg30 60 3 Try.f3 [.sl false 0 0 8 l.length c] [(0, .ro Kd.rcd l)] 1 =
  Out.ite (decide ((↑l.length : Int) > 150)) (Out.fin AV.tt [] 0)
    (Out.need (0 + l.length ≤ l.length)
      (Out.need ((List.take l.length (List.drop 0 l)).length * 64 ≤ 140737488355328)
        (Out.all Nat fun y =>
          Out.need (0 + (List.take l.length (List.drop 0 l)).length ≤ (List.take l.length (List.drop 0 l)).length)
            (Out.need ((List.take (List.take l.length (List.drop 0 l)).length (List.drop 0 (List.take l.length (List.drop 0 l)))).length ≤ 1099511627776)
              (Out.all Nat fun y_1 =>
                Out.need (0 + l.length ≤ l.length)
                  (Out.need
                    ((List.take l.length (List.drop 0 l)).length ≤ 1099511627776 ∧
                      ∀ (r : V.El Kd.rcd), r ∈ List.take l.length (List.drop 0 l) → r.op < 9223372036854775808)
                    (Out.all Nat fun y_2 =>
                      Out.need
                        (0 + (hComplete (List.take (List.take l.length (List.drop 0 l)).length (List.drop 0 (List.take l.length (List.drop 0 l))))).length ≤
                          (hComplete (List.take (List.take l.length (List.drop 0 l)).length (List.drop 0 (List.take l.length (List.drop 0 l))))).length)
                        (Out.need (0 + (hComplete (List.take l.length (List.drop 0 l))).length ≤ (hComplete (List.take l.length (List.drop 0 l))).length)
                          (Out.need
                            ((List.take
                                  (hComplete (List.take (List.take l.length (List.drop 0 l)).length (List.drop 0 (List.take l.length (List.drop 0 l))))).length
                                  (List.drop 0
                                    (hComplete
                                      (List.take (List.take l.length (List.drop 0 l)).length (List.drop 0 (List.take l.length (List.drop 0 l))))))).length ≤
                              1099511627776)
                            (Out.need (LoopFor Try.prog 3 0 (loopOf Try.f3 0) L30)
                              (Out.ex (PT → Prop) fun y_3 =>
                                Out.need
                                  (5 ≤ 5 ∧
                                    SImp 5
                                      {
                                        env :=
                                          [(0, AV.sl false 0 0 8 l.length c), (3, AV.tt),
                                            (4, AV.sl false 2 0 8 (List.take l.length (List.drop 0 l)).length ((List.take l.length (List.drop 0 l)).length + y)),
                                            (5,
                                              AV.sl false 3 0 8
                                                (hComplete
                                                    (List.take (List.take l.length (List.drop 0 l)).length
                                                      (List.drop 0 (List.take l.length (List.drop 0 l))))).length
                                                ((hComplete
                                                      (List.take (List.take l.length (List.drop 0 l)).length
                                                        (List.drop 0 (List.take l.length (List.drop 0 l))))).length +
                                                  y_1)),
                                            (6,
                                              AV.bool
                                                (decide
                                                  (List.take
                                                      (hComplete
                                                          (List.take (List.take l.length (List.drop 0 l)).length
                                                            (List.drop 0 (List.take l.length (List.drop 0 l))))).length
                                                      (List.drop 0
                                                        (hComplete
                                                          (List.take (List.take l.length (List.drop 0 l)).length
                                                            (List.drop 0 (List.take l.length (List.drop 0 l)))))) =
                                                    List.take (hComplete (List.take l.length (List.drop 0 l))).length
                                                      (List.drop 0 (hComplete (List.take l.length (List.drop 0 l))))))),
                                            (7, AV.lit IntKind.i64 0)],
                                        heap :=
                                          [(3,
                                              Blk.arr 30 Kd.rcd
                                                (hComplete
                                                  (List.take (List.take l.length (List.drop 0 l)).length (List.drop 0 (List.take l.length (List.drop 0 l)))))
                                                y_1),
                                            (2, Blk.arr 30 Kd.rcd (List.take l.length (List.drop 0 l)) y), (0, Blk.ro Kd.rcd l)],
                                        nx := 5, nt := 132, tl := [4, 1] : St V }
                                      (fun p => I30 p (0, p.a)) y_3)
                                  (Out.all PT fun y =>
                                    Out.asm (y_3 y)
                                      (Out.all Unit fun y_4 =>
                                        Out.asm ((fun x x_1 => True) y y_4)
                                          (Out.need (0 + y.l.length ≤ y.l.length)
                                            (Out.need ((List.take y.l.length (List.drop 0 y.l)).length ≤ 1099511627776)
                                              (Out.all Nat fun y_5 =>
                                                Out.need (0 + y.l.length ≤ y.l.length)
                                                  (Out.need
                                                    ((List.take y.l.length (List.drop 0 y.l)).length ≤ 1099511627776 ∧
                                                      ∀ (r : V.El Kd.rcd), r ∈ List.take y.l.length (List.drop 0 y.l) → r.op < 9223372036854775808)
                                                    (Out.all Nat fun y_6 =>
                                                      Out.need (LoopFor Try.prog 3 2 (loopOf Try.f3 2) L32)
                                                        (Out.ex (PW → Prop) fun y_7 =>
                                                          Out.need
                                                            (7 ≤ 7 ∧
                                                              SImp 7
                                                                {
                                                                  env :=
                                                                    [(0, AV.sl false 0 0 8 y.l.length y.toPL.2), (3, AV.tt),
                                                                      (4, AV.sl false 2 0 8 y.l.length (y.l.length + y.3)), (6, AV.bool y.same),
                                                                      (8,
                                                                        AV.sl false 5 0 5 (hCallsOf (List.take y.l.length (List.drop 0 y.l))).length
                                                                          ((hCallsOf (List.take y.l.length (List.drop 0 y.l))).length + y_5)),
                                                                      (9,
                                                                        AV.sl false 6 0 5 (hCallsOf (List.take y.l.length (List.drop 0 y.l))).length
                                                                          ((hCallsOf (List.take y.l.length (List.drop 0 y.l))).length + y_6)),
                                                                      (10, AV.lit IntKind.i64 0)],
                                                                  heap :=
                                                                    [(6, Blk.arr 35 Kd.cal (hCallsOf (List.take y.l.length (List.drop 0 y.l))) y_6),
                                                                      (5, Blk.arr 35 Kd.cal (hCallsOf (List.take y.l.length (List.drop 0 y.l))) y_5),
                                                                      (2, Blk.arr 30 Kd.rcd y.l y.3), (0, Blk.ro Kd.rcd y.l)],
                                                                  nx := 7, nt := 132, tl := [0, 1, 2, 3, 4, 5, 6, 7, 8, 9, 10, 11, 12, 13, 14, 15, 16] : St V }
                                                                (fun p => I32 p 0) y_7)
                                                            (Out.all PW fun y =>
                                                              Out.asm (y_7 y)
                                                                (Out.all Unit fun y_8 =>
                                                                  Out.asm ((fun x x_1 => True) y y_8)
                                                                    (Out.ite y.same
                                                                      (Out.need (0 + y.l.length ≤ y.l.length)
                                                                        (Out.need (0 + y.l.length ≤ y.l.length)
                                                                          (Out.need ((List.take y.l.length (List.drop 0 y.l)).length ≤ 1099511627776)
                                                                            (Out.ite
                                                                              (decide
                                                                                (List.take y.l.length (List.drop 0 y.l) = List.take y.l.length (List.drop 0 y.l)))
                                                                              (Out.need (0 + y.l.length ≤ y.l.length)
                                                                                (Out.need ((List.take y.l.length (List.drop 0 y.l)).length ≤ 1099511627776)
                                                                                  (Out.need (0 + y.l.length ≤ y.l.length)
                                                                                    (Out.need ((List.take y.l.length (List.drop 0 y.l)).length ≤ 1099511627776)
                                                                                      (Out.ite
                                                                                        (hRight (List.take y.l.length (List.drop 0 y.l)) ==
                                                                                          hRight (List.take y.l.length (List.drop 0 y.l)))
                                                                                        (Out.need (0 + (hCallsOf y.l).length ≤ (hCallsOf y.l).length)
                                                                                          (Out.need (0 + (hCallsOf y.l).length ≤ (hCallsOf y.l).length)
                                                                                            (Out.need
                                                                                              ((List.take (hCallsOf y.l).length
                                                                                                    (List.drop 0 (hCallsOf y.l))).length ≤
                                                                                                1099511627776)
                                                                                              (Out.ite
                                                                                                (decide
                                                                                                  (List.take (hCallsOf y.l).length (List.drop 0 (hCallsOf y.l)) =
                                                                                                    List.take (hCallsOf y.l).length (List.drop 0 (hCallsOf y.l))))
                                                                                                (Out.need (0 + y.l.length ≤ y.l.length)
                                                                                                  (Out.need
                                                                                                    ((List.take y.l.length (List.drop 0 y.l)).length ≤
                                                                                                      1099511627776)
                                                                                                    (Out.all Nat fun y_9 =>
                                                                                                      Out.need (0 + y.l.length ≤ y.l.length)
                                                                                                        (Out.need
                                                                                                          ((List.take y.l.length (List.drop 0 y.l)).length ≤
                                                                                                            1099511627776)
                                                                                                          (Out.all Nat fun y_10 =>
                                                                                                            Out.need
                                                                                                              (0 +
                                                                                                                  (hCommits
                                                                                                                      (List.take y.l.length
                                                                                                                        (List.drop 0 y.l))).length ≤
                                                                                                                (hCommits
                                                                                                                    (List.take y.l.length
                                                                                                                      (List.drop 0 y.l))).length)
                                                                                                              (Out.need
                                                                                                                (0 +
                                                                                                                    (hCommits
                                                                                                                        (List.take y.l.length
                                                                                                                          (List.drop 0 y.l))).length ≤
                                                                                                                  (hCommits
                                                                                                                      (List.take y.l.length
                                                                                                                        (List.drop 0 y.l))).length)
                                                                                                                (Out.need
                                                                                                                  ((List.take
                                                                                                                        (hCommits
                                                                                                                            (List.take y.l.length
                                                                                                                              (List.drop 0 y.l))).length
                                                                                                                        (List.drop 0
                                                                                                                          (hCommits
                                                                                                                            (List.take y.l.length
                                                                                                                              (List.drop 0 y.l))))).length ≤
                                                                                                                    1099511627776)
                                                                                                                  (Out.ite
                                                                                                                    (decide
                                                                                                                      (List.take
                                                                                                                          (hCommits
                                                                                                                              (List.take y.l.length
                                                                                                                                (List.drop 0 y.l))).length
                                                                                                                          (List.drop 0
                                                                                                                            (hCommits
                                                                                                                              (List.take y.l.length
                                                                                                                                (List.drop 0 y.l)))) =
                                                                                                                        List.take
                                                                                                                          (hCommits
                                                                                                                              (List.take y.l.length
                                                                                                                                (List.drop 0 y.l))).length
                                                                                                                          (List.drop 0
                                                                                                                            (hCommits
                                                                                                                              (List.take y.l.length
                                                                                                                                (List.drop 0 y.l))))))
                                                                                                                    (Out.need (0 + y.l.length ≤ y.l.length)
                                                                                                                      (Out.need
                                                                                                                        ((List.take y.l.length
                                                                                                                              (List.drop 0 y.l)).length ≤
                                                                                                                          1099511627776)
                                                                                                                        (Out.need (0 + y.l.length ≤ y.l.length)
                                                                                                                          (Out.need
                                                                                                                            ((List.take y.l.length
                                                                                                                                    (List.drop 0 y.l)).length ≤
                                                                                                                                1099511627776 ∧
                                                                                                                              ∀ (r : V.El Kd.rcd),
                                                                                                                                r ∈
                                                                                                                                    List.take y.l.length
                                                                                                                                      (List.drop 0 y.l) →
                                                                                                                                  r.op < 9223372036854775808)
                                                                                                                            (Out.fin
                                                                                                                              (AV.bool
                                                                                                                                ((↑(hLeft
                                                                                                                                        (List.take y.l.length
                                                                                                                                          (List.drop 0 y.l))) :
                                                                                                                                    Int) ==
                                                                                                                                  (↑(hLeft
                                                                                                                                        (List.take y.l.length
                                                                                                                                          (List.drop 0 y.l))) :
                                                                                                                                    Int)))
                                                                                                                              [] 0)))))
                                                                                                                    (Out.fin AV.ff [] 0)))))))))
                                                                                                (Out.fin AV.ff [] 0)))))
                                                                                        (Out.fin AV.ff [] 0))))))
                                                                              (Out.fin AV.ff [] 0)))))
                                                                      (Out.fin AV.ff [] 0))))))))))))))))))))))) := by kernel_rfl

end Sx
end Go.Proofs.Ytemcdjdglcceiaa

/-
  The law of what records tell.
-/
namespace Go.Proofs.Ytemcdjdglcceiaa
namespace Sx
open Go
set_option linter.unusedSimpArgs false
set_option linter.unusedVariables false

theorem hooksT_ok : ∀ g H, hooksT g = some H → HookOk Try.prog g H := by
  intro g H h
  unfold hooksT at h
  split at h
  · cases h; exact hCompleteRef
  · cases h; exact hBeforeRef
  · cases h; exact hCommitsRef
  · cases h; exact hLeftRef
  · exact hooksS_ok _ _ h
theorem cfgT_ok : cfgT.ok := ⟨tab_met, kinds_met, mixed_met, fun g fn h => (by cases h), hooksT_ok⟩
theorem cfg34_ok : cfg34.ok := ⟨tab_met, kinds_met, mixed_met, fun g fn h => (by cases h), hooksT_ok⟩
theorem cfg30_ok : cfg30.ok := ⟨tab_met, kinds_met, mixed_met, fun g fn h => (by cases h), hooksT_ok⟩

theorem body30 (p : PT) (x : Nat × List Rec) (hi : x.1 ≤ p.a.length) (hx : x.2.length = p.a.length) (Q : EX → St V → Prop) (F : AV → Heap V → Nat → Prop)
    (hnx : ∀ (ST : St V) (xs : List Rec), x.1 < p.a.length → xs.length = p.a.length → Wk 5 [] ST (I30 p (x.1 + 1, xs)) → Q .nx ST) (hex : ∀ ST : St V, Wk 5 [] ST (E30 p) → Q (.ex 0) ST) :
    (runCode cfgT 60 3 (loopOf Try.f3 0) (I30 p x) (stopT (trimSt [0, 3, 4, 5, 6, 7] [0, 2, 3]))).holds ⟨Q, F⟩ := by
  rw [b30]
  have ha := p.ha
  have hw : x.1 < p.a.length → IntKind.wrap .i64 ((x.1 : Int) + 1) = ((x.1 + 1 : Nat) : Int) := fun h => wrap_nat (by omega)
  simp only [Out.holds, Nat.zero_add, decide_eq_true_eq, decide_eq_false_iff_not]
  refine ⟨fun h => ⟨by omega, by omega, hnx _ (x.2.set x.1 (Rec.mk (x.2.getD x.1 r0).thread (-7) (x.2.getD x.1 r0).what (x.2.getD x.1 r0).act (x.2.getD x.1 r0).key (x.2.getD x.1 r0).value (x.2.getD x.1 r0).hit (x.2.getD x.1 r0).err)) (by omega) ?_ ?_⟩, fun h => hex _ ?_⟩
  · rw [List.length_set]; exact hx
  · exact ⟨⟨AV.sub_same _, AV.sub_same _, AV.sub_same _, AV.sub_same _, AV.sub_same _, AV.sub_int (hw (by omega)), trivial⟩, ⟨.same _, .same _, .same _, trivial⟩, rfl, tl_ok rfl, ⟨.inl (in_ok rfl), .inr rfl, .inr rfl, trivial⟩, ⟨Nat.le_of_ble_eq_true rfl, rfl⟩⟩
  · exact ⟨⟨AV.sub_same _, AV.sub_same _, AV.sub_same _, AV.sub_same _, trivial⟩, ⟨.same _, .same _, trivial⟩, rfl, tl_ok rfl, ⟨.inl (in_ok rfl), .inr rfl, .inr rfl, trivial⟩, ⟨Nat.le_of_ble_eq_true rfl, rfl⟩⟩
theorem l30_ok : LoopOk Try.prog 0 (loopOf Try.f3 0) L30 := by
  refine trimLoop_ok (trim_ok _ _) (loopTH_ok (C := cfgT) cfgT_ok (f := 3) (n := 60) (trim_ok [0, 3, 4, 5, 6, 7] [0, 2, 3]) 5 I30 (fun p x => x.1 ≤ p.a.length ∧ x.2.length = p.a.length) (fun p => (0, p.a)) (fun p x => p.a.length - x.1) (fun _ (_ : Unit) => True) (fun p _ => E30 p) (fun p => ⟨Nat.zero_le _, rfl⟩) ?_)
  intro p x ⟨hi, hx⟩
  refine body30 p x hi hx _ _ (fun ST xs hlt hl hw => SImp.of_wk (x.1 + 1, xs) hw ⟨⟨hlt, hl⟩, ?_⟩) (fun ST hw => ⟨rfl, SImp.of_wk () hw trivial⟩)
  show p.a.length - (x.1 + 1) < p.a.length - x.1; omega

theorem body34 (q : PX) (k : Nat) (hk : k ≤ q.i) (Q : EX → St V → Prop) (F : AV → Heap V → Nat → Prop)
    (hnx : ∀ ST : St V, k < q.i → Wk 7 [] ST (I34 q (k + 1)) → Q .nx ST) (hex : ∀ ST : St V, k = q.i → Wk 7 [] ST (I34 q k) → Q (.ex 4) ST) :
    (runCode cfgT 60 3 (loopOf Try.f3 4) (I34 q k) (stopT (trimSt [0, 3, 4, 6, 8, 9, 10, 11] [0, 2, 5, 6]))).holds ⟨Q, F⟩ := by
  rw [b34]
  have hb := q.hb
  have hi := q.hi
  have hcl := calls_len q.l
  have hw : k < q.i → IntKind.wrap .i64 ((k : Int) + 1) = ((k + 1 : Nat) : Int) := fun h => wrap_nat (by omega)
  simp only [Out.holds, Nat.zero_add, decide_eq_true_eq, decide_eq_false_iff_not, beq_self_eq_true, Bool.not_true, Bool.false_eq_true, false_implies, true_implies, true_and]
  by_cases hlt : k < q.i
  · refine ⟨fun _ => ?_, fun h => absurd hlt (by omega)⟩
    repeat' first | apply And.intro | intro _
    all_goals first
      | omega
      | exact hnx _ hlt ⟨⟨AV.sub_same _, AV.sub_same _, AV.sub_same _, AV.sub_same _, AV.sub_same _, AV.sub_same _, AV.sub_same _, AV.sub_int (hw hlt), trivial⟩, ⟨.same _, .same _, .same _, .same _, trivial⟩, rfl, tl_ok rfl, ⟨.inr rfl, .inr rfl, .inr rfl, .inr rfl, trivial⟩, ⟨Nat.le_of_ble_eq_true rfl, rfl⟩⟩
  · exact ⟨fun h => absurd h (by omega), fun h => hex _ (by omega) ⟨⟨AV.sub_same _, AV.sub_same _, AV.sub_same _, AV.sub_same _, AV.sub_same _, AV.sub_same _, AV.sub_same _, AV.sub_same _, trivial⟩, ⟨.same _, .same _, .same _, .same _, trivial⟩, rfl, tl_ok rfl, ⟨.inr rfl, .inr rfl, .inr rfl, .inr rfl, trivial⟩, ⟨Nat.le_of_ble_eq_true rfl, rfl⟩⟩⟩
theorem l34_ok : LoopOk Try.prog 4 (loopOf Try.f3 4) L34 := by
  refine trimLoop_ok (trim_ok _ _) (loopTH_ok (C := cfgT) cfgT_ok (f := 3) (n := 60) (trim_ok [0, 3, 4, 6, 8, 9, 10, 11] [0, 2, 5, 6]) 7 I34 (fun q k => k ≤ q.i) (fun _ => 0) (fun q k => q.i - k) (fun _ (_ : Unit) => True) (fun q _ => I34 q q.i) (fun q => Nat.zero_le _) ?_)
  intro q k hk
  exact body34 q k hk _ _ (fun ST hlt hw => SImp.of_wk (k + 1) hw ⟨hlt, by omega⟩) (fun ST he hw => ⟨rfl, SImp.of_wk () (by subst he; exact hw) trivial⟩)
theorem body32 (p : PW) (i : Nat) (hi : i ≤ (hCallsOf p.l).length) (Q : EX → St V → Prop) (F : AV → Heap V → Nat → Prop)
    (hnx : ∀ ST : St V, i < (hCallsOf p.l).length → Wk 7 [] ST (I32 p (i + 1)) → Q .nx ST) (hex : ∀ ST : St V, i = (hCallsOf p.l).length → Wk 7 [] ST (I32 p i) → Q (.ex 2) ST) :
    (runCode cfg34 60 3 (loopOf Try.f3 2) (I32 p i) (stopT (trimSt [0, 3, 4, 6, 8, 9, 10] [0, 2, 5, 6]))).holds ⟨Q, F⟩ := by
  rw [b32]
  have hb := p.hb
  have hcl := calls_len p.l
  have hw : i < (hCallsOf p.l).length → IntKind.wrap .i64 ((i : Int) + 1) = ((i + 1 : Nat) : Int) := fun h => wrap_nat (by omega)
  simp only [Out.holds, decide_eq_true_eq, decide_eq_false_iff_not]
  by_cases hlt : i < (hCallsOf p.l).length
  · refine ⟨fun _ => ⟨fun _ => ⟨l34_ok, fun q => q = ⟨p, i, hlt⟩, ⟨Nat.le_refl _, SImp.of_wk (ren := []) ⟨p, i, hlt⟩ ⟨⟨AV.sub_same _, AV.sub_same _, AV.sub_same _, AV.sub_same _, AV.sub_same _, AV.sub_same _, AV.sub_same _, AV.sub_lit', trivial⟩, ⟨.same _, .same _, .same _, .same _, trivial⟩, rfl, tl_ok rfl, ⟨.inr rfl, .inr rfl, .inr rfl, .inr rfl, trivial⟩, ⟨Nat.le_of_ble_eq_true rfl, rfl⟩⟩ rfl⟩, ?_⟩, fun h => absurd hlt (by omega)⟩, fun h => absurd hlt (by omega)⟩
    rintro _ rfl _ _
    exact hnx _ hlt ⟨⟨AV.sub_same _, AV.sub_same _, AV.sub_same _, AV.sub_same _, AV.sub_same _, AV.sub_same _, AV.sub_int (hw hlt), trivial⟩, ⟨.same _, .same _, .same _, .same _, trivial⟩, rfl, tl_ok rfl, ⟨.inr rfl, .inr rfl, .inr rfl, .inr rfl, trivial⟩, ⟨Nat.le_of_ble_eq_true rfl, rfl⟩⟩
  · exact ⟨fun h => absurd h (by omega), fun h => hex _ (by omega) ⟨⟨AV.sub_same _, AV.sub_same _, AV.sub_same _, AV.sub_same _, AV.sub_same _, AV.sub_same _, AV.sub_same _, trivial⟩, ⟨.same _, .same _, .same _, .same _, trivial⟩, rfl, tl_ok rfl, ⟨.inr rfl, .inr rfl, .inr rfl, .inr rfl, trivial⟩, ⟨Nat.le_of_ble_eq_true rfl, rfl⟩⟩⟩
theorem l32_ok : LoopOk Try.prog 2 (loopOf Try.f3 2) L32 := by
  refine trimLoop_ok (trim_ok _ _) (loopTH_ok (C := cfg34) cfg34_ok (f := 3) (n := 60) (trim_ok [0, 3, 4, 6, 8, 9, 10] [0, 2, 5, 6]) 7 I32 (fun p i => i ≤ (hCallsOf p.l).length) (fun _ => 0) (fun p i => (hCallsOf p.l).length - i) (fun _ (_ : Unit) => True) (fun p _ => I32 p (hCallsOf p.l).length) (fun p => Nat.zero_le _) ?_)
  intro p i hi
  exact body32 p i hi _ _ (fun ST hlt hw => SImp.of_wk (i + 1) hw ⟨hlt, by omega⟩) (fun ST he hw => ⟨rfl, SImp.of_wk () (by subst he; exact hw) trivial⟩)

theorem complete_len {l : List Rec} (hop : ∀ r ∈ l, r.op < 9223372036854775808) : (hComplete l).length ≤ l.length + l.length := by
  cases h : hRight l with
  | false => rw [hComplete_not h]; exact Nat.zero_le _
  | true =>
    rw [hComplete_eq h, List.length_append]
    have := hOut_le l (hCallsOf l) l.length
    have := hMore_le l (hCallsOf l) l.length
    omega

theorem walk3 (l : List Rec) (c : Nat) (hl : ∀ r ∈ l, r.op < 9223372036854775808) (F : AV → Heap V → Nat → Prop) (htt : F .tt [] 0) (hF : ∀ b : Bool, b = true → F (.bool b) [] 0) :
    (runL cfg30 60 3 Try.f3 [.sl false 0 0 8 l.length c] [(0, .ro Kd.rcd l)] 1).holds ⟨fun _ _ => False, F⟩ := by
  rw [t3]
  have hcl := calls_len l
  have hco := complete_len hl
  have hcc : (hCommits l).length ≤ l.length := by
    unfold hCommits
    split
    · rw [List.length_map]
      exact List.length_filter_le _ _
    · exact Nat.zero_le _
  rw [show List.take l.length (List.drop 0 l) = l from List.take_length ..]
  rw [show List.take l.length (List.drop 0 l) = l from List.take_length ..]
  rw [show List.take (hComplete l).length (List.drop 0 (hComplete l)) = hComplete l from List.take_length ..]
  refine ⟨fun _ => htt, fun h1 => ?_⟩
  have hlen : l.length ≤ 150 := by have := of_decide_eq_false h1; omega
  refine ⟨by omega, by omega, fun y => ⟨by omega, by omega, fun y1 => ⟨by omega, ⟨by omega, hl⟩, fun y2 => ⟨by omega, by omega, by omega, l30_ok, fun p => p = ⟨⟨l, c, by omega⟩, true, y, hComplete l, y1, by omega⟩, ⟨Nat.le_refl _, SImp.of_wk (ren := []) ⟨⟨l, c, by omega⟩, true, y, hComplete l, y1, by omega⟩ ?_ rfl⟩, ?_⟩⟩⟩⟩
  · exact ⟨⟨AV.sub_same _, AV.sub_same _, AV.sub_same _, AV.sub_same _, AV.sub_bool (by simp), AV.sub_lit', trivial⟩, ⟨.same _, .same _, .same _, trivial⟩, rfl, tl_ok rfl, ⟨.inr rfl, .inr rfl, .inr rfl, trivial⟩, ⟨Nat.le_of_ble_eq_true rfl, rfl⟩⟩
  · rintro _ rfl _ _
    dsimp only
    rw [show List.take l.length (List.drop 0 l) = l from List.take_length ..]
    refine ⟨by omega, by omega, fun y5 => ⟨by omega, ⟨by omega, hl⟩, fun y6 => ⟨l32_ok, fun p => p = ⟨⟨l, c, by omega⟩, true, y, y5, y6⟩, ⟨Nat.le_refl _, SImp.of_wk (ren := []) ⟨⟨l, c, by omega⟩, true, y, y5, y6⟩ ?_ rfl⟩, ?_⟩⟩⟩
    · exact ⟨⟨AV.sub_same _, AV.sub_same _, AV.sub_same _, AV.sub_same _, AV.sub_same _, AV.sub_same _, AV.sub_lit', trivial⟩, ⟨.same _, .same _, .same _, .same _, trivial⟩, rfl, tl_ok rfl, ⟨.inr rfl, .inr rfl, .inr rfl, .inr rfl, trivial⟩, ⟨Nat.le_of_ble_eq_true rfl, rfl⟩⟩
    · rintro _ rfl _ _
      dsimp only
      rw [show List.take l.length (List.drop 0 l) = l from List.take_length ..]
      rw [show List.take (hCallsOf l).length (List.drop 0 (hCallsOf l)) = hCallsOf l from List.take_length ..]
      rw [show List.take (hCommits l).length (List.drop 0 (hCommits l)) = hCommits l from List.take_length ..]
      simp only [Out.holds, decide_true, beq_self_eq_true, Bool.true_eq_false, true_implies, false_implies, Bool.false_eq_true, and_true]
      repeat' first | apply And.intro | intro _
      all_goals first
        | omega
        | assumption
        | exact hF _ rfl
        | exact hl _ (by assumption)

theorem tells_law (l : List Rec) (c : Nat) (hb : ∀ r ∈ l, r.op < 9223372036854775808) : CallsSx Try.prog 3 [.sl false 0 0 8 l.length c] ([(0, .ro Kd.rcd l)] : Heap V) 1 (fun v _ _ _ => v.sub .tt) := by
  refine calls_runL (args := [.sl false 0 0 8 l.length c]) cfg30_ok (n := 60) (fn := Try.f3) ⟨by kernel_rfl, by kernel_rfl⟩ (by kernel_rfl) (show 1 ≤ _ by decide +kernel) ?_
  exact walk3 l c hb _ (AV.sub_same _) (fun b h r z hz => hz.trans (congrArg Value.bool h))

end Sx
end Go.Proofs.Ytemcdjdglcceiaa

