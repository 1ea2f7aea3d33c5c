/-
  Records read: the runs of the machine.
-/
import Derived.Test.YtemcdjdglcceiaaHCfg
import Derived.Test.YtemcdjdglcceiaaSxTrim
namespace Go.Proofs.Ytemcdjdglcceiaa
namespace Sx
open Go
set_option maxRecDepth 100000
set_option linter.unusedVariables false

noncomputable def fnsA : Nat → Option Func := fun g => match g with | 56 => some Try.f56 | 63 => some Try.f63 | 64 => some Try.f64 | 65 => some Try.f65 | _ => none
noncomputable def cfgA : Cfg Try.prog V := ⟨tab, kinds, fnsA, fun _ => none, fun _ _ => none⟩
structure PL where
  l : List Rec
  c : Nat
  hb : l.length ≤ 1099511627776
def I42 (p : PL) (x : Nat × RD × Nat) : St V :=
  ⟨[(4, .ptr 2 0), (10, .sl false 0 0 8 p.l.length p.c), (11, .int .i64 (p.l.length : Int)), (12, .int .i64 (x.1 : Int))],
   [(2, .cells 67 [.mp 1, .sl false 3 0 5 x.2.1.cs.length (x.2.1.cs.length + x.2.2)]), (1, .mp .i64 Kd.opn x.2.1.at_), (3, .arr 35 Kd.cal x.2.1.cs x.2.2), (0, .ro Kd.rcd p.l)], 4, 27, [1, 2, 3, 4, 5, 6, 7, 8, 9, 10, 11, 12, 13, 14, 15, 16]⟩
def R42 (p : PL) : St V := ⟨[(2, .nilS), (3, .ff)], [(0, .ro Kd.rcd p.l)], 4, 27, [1, 2, 3, 4, 5, 6, 7, 8, 9, 10, 11, 12, 13, 14, 15, 16]⟩
def L42 : LoopS V := trimLoop (trimSt [2, 3, 4, 10, 11, 12] [0, 1, 2, 3]) (loopG 3 (fun p : PL => I42 p (0, ⟨[], []⟩, 0)) (fun p (x : RD × Nat) => readTo p.l p.l.length = some x.1) (fun p x => I42 p (p.l.length, x)) (fun p (_ : Unit) => readTo p.l p.l.length = none) (fun p _ => R42 p))
noncomputable def cfgB : Cfg Try.prog V := ⟨tab, kinds, fnsA, fun _ => none, fun f id => match f, id with | 42, 0 => some L42 | _, _ => none⟩
theorem t42 (l : List Rec) (c : Nat) : runF cfgB 40 42 Try.f42 [.sl false 0 0 8 l.length c] [(0, .ro Kd.rcd l)] 1 =
  Out.need (LoopFor Try.prog 42 0 (loopOf Try.f42 0) L42)
    (Out.ex (PL → Prop) fun y =>
      Out.need
        (3 ≤ 3 ∧
          SImp 3
            {
              env :=
                [(2, AV.nilS), (3, AV.ff), (4, AV.ptr 2 0), (10, AV.sl false 0 0 8 l.length c), (11, AV.int IntKind.i64 (↑l.length : Int)),
                  (12, AV.lit IntKind.i64 0)],
              heap := [(2, Blk.cells 67 [AV.mp 1, AV.nilS]), (1, Blk.mp IntKind.i64 Kd.opn []), (0, Blk.ro Kd.rcd l)], nx := 3, nt := 27, tl := [] : St V }
            (fun p => I42 p (0, { at_ := [], cs := [] : RD }, 0)) y)
        (Out.all PL fun y_1 =>
          Out.asm (y y_1)
            ((Out.all (RD × Nat) fun y =>
                  Out.asm ((fun p x => readTo p.l p.l.length = some x.fst) y_1 y)
                    (Out.fin
                      (AV.tup [AV.sl false 3 0 5 (y_1.l.length, y).snd.fst.cs.length ((y_1.l.length, y).snd.fst.cs.length + (y_1.l.length, y).snd.2), AV.tt])
                      [(2,
                          Blk.cells 67
                            [AV.mp 1, AV.sl false 3 0 5 (y_1.l.length, y).snd.fst.cs.length ((y_1.l.length, y).snd.fst.cs.length + (y_1.l.length, y).snd.2)]),
                        (1, Blk.mp IntKind.i64 Kd.opn (y_1.l.length, y).snd.fst.at_), (3, Blk.arr 35 Kd.cal (y_1.l.length, y).snd.fst.cs (y_1.l.length, y).snd.2),
                        (0, Blk.ro Kd.rcd y_1.l)]
                      4)).both
              (Out.all Unit fun y =>
                Out.asm ((fun p x => readTo p.l p.l.length = none) y_1 y) (Out.fin (AV.tup [AV.nilS, AV.ff]) [(0, Blk.ro Kd.rcd y_1.l)] 4))))) := by kernel_rfl

theorem b42 (p : PL) (x : Nat × RD × Nat) : runCode cfgA 60 42 (loopOf Try.f42 0) (I42 p x) (stopT (trimSt [2, 3, 4, 10, 11, 12] [0, 1, 2, 3, 12])) =
  Out.ite (decide ((↑x.1 : Int) < (↑p.l.length : Int)))
    (Out.need (0 ≤ (↑x.1 : Int) ∧ (↑x.1 : Int) < (↑p.l.length : Int))
      (Out.need (0 + x.1 < p.l.length)
        (Out.ite (decide ((p.l.getD (0 + x.1) (V.enc Kd.rcd).dflt).thread < 0))
          (Out.stop EX.rt
            {
              env :=
                [(2, AV.nilS), (3, AV.ff), (4, AV.ptr 2 0), (10, AV.sl false 0 0 8 p.l.length p.2), (11, AV.int IntKind.i64 (↑p.l.length : Int)),
                  (12, AV.int IntKind.i64 (↑x.1 : Int))],
              heap :=
                [(2, Blk.cells 67 [AV.mp 1, AV.sl false 3 0 5 x.snd.fst.cs.length (x.snd.fst.cs.length + x.snd.2)]), (1, Blk.mp IntKind.i64 Kd.opn x.snd.fst.at_),
                  (3, Blk.arr 35 Kd.cal x.snd.fst.cs x.snd.2), (0, Blk.ro Kd.rcd p.l)],
              nx := 7, nt := 27, tl := [6, 4, 4, 1, 2, 3, 4, 5, 6, 7, 8, 9, 10, 11, 12, 13, 14, 15, 16] : St V })
          (Out.ite (decide ((p.l.getD (0 + x.1) (V.enc Kd.rcd).dflt).thread ≥ 64))
            (Out.stop EX.rt
              {
                env :=
                  [(2, AV.nilS), (3, AV.ff), (4, AV.ptr 2 0), (10, AV.sl false 0 0 8 p.l.length p.2), (11, AV.int IntKind.i64 (↑p.l.length : Int)),
                    (12, AV.int IntKind.i64 (↑x.1 : Int))],
                heap :=
                  [(2, Blk.cells 67 [AV.mp 1, AV.sl false 3 0 5 x.snd.fst.cs.length (x.snd.fst.cs.length + x.snd.2)]),
                    (1, Blk.mp IntKind.i64 Kd.opn x.snd.fst.at_), (3, Blk.arr 35 Kd.cal x.snd.fst.cs x.snd.2), (0, Blk.ro Kd.rcd p.l)],
                nx := 7, nt := 27, tl := [6, 4, 4, 1, 2, 3, 4, 5, 6, 7, 8, 9, 10, 11, 12, 13, 14, 15, 16] : St V })
            (Out.ite (decide ((p.l.getD (0 + x.1) (V.enc Kd.rcd).dflt).op < 0))
              (Out.ite ((p.l.getD (0 + x.1) (V.enc Kd.rcd).dflt).op == -1)
                (Out.ite ((p.l.getD (0 + x.1) (V.enc Kd.rcd).dflt).what == 2)
                  (Out.ite ((p.l.getD (0 + x.1) (V.enc Kd.rcd).dflt).act == 4)
                    (Out.ite (!(p.l.getD (0 + x.1) (V.enc Kd.rcd).dflt).err == 0)
                      (Out.stop EX.rt
                        {
                          env :=
                            [(2, AV.nilS), (3, AV.ff), (4, AV.ptr 2 0), (10, AV.sl false 0 0 8 p.l.length p.2), (11, AV.int IntKind.i64 (↑p.l.length : Int)),
                              (12, AV.int IntKind.i64 (↑x.1 : Int))],
                          heap :=
                            [(2, Blk.cells 67 [AV.mp 1, AV.sl false 3 0 5 x.snd.fst.cs.length (x.snd.fst.cs.length + x.snd.2)]),
                              (1, Blk.mp IntKind.i64 Kd.opn x.snd.fst.at_), (3, Blk.arr 35 Kd.cal x.snd.fst.cs x.snd.2), (0, Blk.ro Kd.rcd p.l)],
                          nx := 8, nt := 27, tl := [7, 6, 4, 4, 1, 2, 3, 4, 5, 6, 7, 8, 9, 10, 11, 12, 13, 14, 15, 16] : St V })
                      (Out.stop EX.nx
                        {
                          env :=
                            [(2, AV.und), (3, AV.und), (4, AV.ptr 2 0), (10, AV.sl false 0 0 8 p.l.length p.2), (11, AV.int IntKind.i64 (↑p.l.length : Int)),
                              (12, AV.int IntKind.i64 (IntKind.i64.wrap ((↑x.1 : Int) + 1)))],
                          heap :=
                            [(2, Blk.cells 67 [AV.mp 1, AV.sl false 3 0 5 x.snd.fst.cs.length (x.snd.fst.cs.length + x.snd.2)]),
                              (1, Blk.mp IntKind.i64 Kd.opn x.snd.fst.at_), (3, Blk.arr 35 Kd.cal x.snd.fst.cs x.snd.2), (0, Blk.ro Kd.rcd p.l)],
                          nx := 8, nt := 27, tl := [7, 6, 4, 4, 1, 2, 3, 4, 5, 6, 7, 8, 9, 10, 11, 12, 13, 14, 15, 16] : St V }))
                    (Out.stop EX.rt
                      {
                        env :=
                          [(2, AV.nilS), (3, AV.ff), (4, AV.ptr 2 0), (10, AV.sl false 0 0 8 p.l.length p.2), (11, AV.int IntKind.i64 (↑p.l.length : Int)),
                            (12, AV.int IntKind.i64 (↑x.1 : Int))],
                        heap :=
                          [(2, Blk.cells 67 [AV.mp 1, AV.sl false 3 0 5 x.snd.fst.cs.length (x.snd.fst.cs.length + x.snd.2)]),
                            (1, Blk.mp IntKind.i64 Kd.opn x.snd.fst.at_), (3, Blk.arr 35 Kd.cal x.snd.fst.cs x.snd.2), (0, Blk.ro Kd.rcd p.l)],
                        nx := 8, nt := 27, tl := [7, 6, 4, 4, 1, 2, 3, 4, 5, 6, 7, 8, 9, 10, 11, 12, 13, 14, 15, 16] : St V }))
                  (Out.stop EX.rt
                    {
                      env :=
                        [(2, AV.nilS), (3, AV.ff), (4, AV.ptr 2 0), (10, AV.sl false 0 0 8 p.l.length p.2), (11, AV.int IntKind.i64 (↑p.l.length : Int)),
                          (12, AV.int IntKind.i64 (↑x.1 : Int))],
                      heap :=
                        [(2, Blk.cells 67 [AV.mp 1, AV.sl false 3 0 5 x.snd.fst.cs.length (x.snd.fst.cs.length + x.snd.2)]),
                          (1, Blk.mp IntKind.i64 Kd.opn x.snd.fst.at_), (3, Blk.arr 35 Kd.cal x.snd.fst.cs x.snd.2), (0, Blk.ro Kd.rcd p.l)],
                      nx := 8, nt := 27, tl := [7, 6, 4, 4, 1, 2, 3, 4, 5, 6, 7, 8, 9, 10, 11, 12, 13, 14, 15, 16] : St V }))
                (Out.stop EX.rt
                  {
                    env :=
                      [(2, AV.nilS), (3, AV.ff), (4, AV.ptr 2 0), (10, AV.sl false 0 0 8 p.l.length p.2), (11, AV.int IntKind.i64 (↑p.l.length : Int)),
                        (12, AV.int IntKind.i64 (↑x.1 : Int))],
                    heap :=
                      [(2, Blk.cells 67 [AV.mp 1, AV.sl false 3 0 5 x.snd.fst.cs.length (x.snd.fst.cs.length + x.snd.2)]),
                        (1, Blk.mp IntKind.i64 Kd.opn x.snd.fst.at_), (3, Blk.arr 35 Kd.cal x.snd.fst.cs x.snd.2), (0, Blk.ro Kd.rcd p.l)],
                    nx := 8, nt := 27, tl := [7, 6, 4, 4, 1, 2, 3, 4, 5, 6, 7, 8, 9, 10, 11, 12, 13, 14, 15, 16] : St V }))
              (Out.ite ((p.l.getD (0 + x.1) (V.enc Kd.rcd).dflt).what == 1)
                (Out.ite (!(mget x.snd.fst.at_ (p.l.getD (0 + x.1) (V.enc Kd.rcd).dflt).thread).isSome)
                  (Out.ite (!(p.l.getD (0 + x.1) (V.enc Kd.rcd).dflt).op == 0)
                    (Out.ite (!(mget x.snd.fst.at_ (p.l.getD (0 + x.1) (V.enc Kd.rcd).dflt).thread).isSome)
                      (Out.stop EX.rt
                        {
                          env :=
                            [(2, AV.nilS), (3, AV.ff), (4, AV.ptr 2 0), (10, AV.sl false 0 0 8 p.l.length p.2), (11, AV.int IntKind.i64 (↑p.l.length : Int)),
                              (12, AV.int IntKind.i64 (↑x.1 : Int))],
                          heap :=
                            [(2, Blk.cells 67 [AV.mp 1, AV.sl false 3 0 5 x.snd.fst.cs.length (x.snd.fst.cs.length + x.snd.2)]),
                              (1, Blk.mp IntKind.i64 Kd.opn x.snd.fst.at_), (3, Blk.arr 35 Kd.cal x.snd.fst.cs x.snd.2), (0, Blk.ro Kd.rcd p.l)],
                          nx := 10, nt := 27, tl := [8, 7, 6, 4, 8, 4, 1, 2, 3, 4, 5, 6, 7, 8, 9, 10, 11, 12, 13, 14, 15, 16] : St V })
                      (Out.ite (((mget x.snd.fst.at_ (p.l.getD (0 + x.1) (V.enc Kd.rcd).dflt).thread).getD (V.enc Kd.opn).dflt).what != 3)
                        (Out.stop EX.rt
                          {
                            env :=
                              [(2, AV.nilS), (3, AV.ff), (4, AV.ptr 2 0), (10, AV.sl false 0 0 8 p.l.length p.2), (11, AV.int IntKind.i64 (↑p.l.length : Int)),
                                (12, AV.int IntKind.i64 (↑x.1 : Int))],
                            heap :=
                              [(2, Blk.cells 67 [AV.mp 1, AV.sl false 3 0 5 x.snd.fst.cs.length (x.snd.fst.cs.length + x.snd.2)]),
                                (1, Blk.mp IntKind.i64 Kd.opn x.snd.fst.at_), (3, Blk.arr 35 Kd.cal x.snd.fst.cs x.snd.2), (0, Blk.ro Kd.rcd p.l)],
                            nx := 10, nt := 27, tl := [8, 7, 6, 4, 8, 4, 1, 2, 3, 4, 5, 6, 7, 8, 9, 10, 11, 12, 13, 14, 15, 16] : St V })
                        (Out.ite
                          ((p.l.getD (0 + x.1) (V.enc Kd.rcd).dflt).op !=
                            IntKind.i64.wrap (((mget x.snd.fst.at_ (p.l.getD (0 + x.1) (V.enc Kd.rcd).dflt).thread).getD (V.enc Kd.opn).dflt).op + 1))
                          (Out.stop EX.rt
                            {
                              env :=
                                [(2, AV.nilS), (3, AV.ff), (4, AV.ptr 2 0), (10, AV.sl false 0 0 8 p.l.length p.2), (11, AV.int IntKind.i64 (↑p.l.length : Int)),
                                  (12, AV.int IntKind.i64 (↑x.1 : Int))],
                              heap :=
                                [(2, Blk.cells 67 [AV.mp 1, AV.sl false 3 0 5 x.snd.fst.cs.length (x.snd.fst.cs.length + x.snd.2)]),
                                  (1, Blk.mp IntKind.i64 Kd.opn x.snd.fst.at_), (3, Blk.arr 35 Kd.cal x.snd.fst.cs x.snd.2), (0, Blk.ro Kd.rcd p.l)],
                              nx := 10, nt := 27, tl := [8, 7, 6, 4, 8, 4, 1, 2, 3, 4, 5, 6, 7, 8, 9, 10, 11, 12, 13, 14, 15, 16] : St V })
                          (Out.need
                            (0 = 0 ∧
                              x.snd.fst.cs.length = x.snd.fst.cs.length ∧
                                x.snd.fst.cs.length + x.snd.2 = x.snd.fst.cs.length + x.snd.2 ∧ (x.snd.fst.cs.length + 1) * 40 ≤ 140737488355328)
                            (Out.all Nat fun y =>
                              Out.ite (!(p.l.getD (0 + x.1) (V.enc Kd.rcd).dflt).err == 0)
                                (Out.stop EX.rt
                                  {
                                    env :=
                                      [(2, AV.nilS), (3, AV.ff), (4, AV.ptr 2 0), (10, AV.sl false 0 0 8 p.l.length p.2),
                                        (11, AV.int IntKind.i64 (↑p.l.length : Int)), (12, AV.int IntKind.i64 (↑x.1 : Int))],
                                    heap :=
                                      [(12,
                                          Blk.arr 35 Kd.cal
                                            (x.snd.fst.cs ++
                                              [{ thread := (p.l.getD (0 + x.1) (V.enc Kd.rcd).dflt).thread, op := (p.l.getD (0 + x.1) (V.enc Kd.rcd).dflt).op,
                                                  frm := (↑x.1 : Int), at_ := -1, to_ := -1 : Cal }])
                                            y),
                                        (2, Blk.cells 67 [AV.mp 1, AV.sl false 12 0 5 (x.snd.fst.cs.length + 1) (x.snd.fst.cs.length + 1 + y)]),
                                        (1,
                                          Blk.mp IntKind.i64 Kd.opn
                                            (mput x.snd.fst.at_ (p.l.getD (0 + x.1) (V.enc Kd.rcd).dflt).thread
                                              { thread := (p.l.getD (0 + x.1) (V.enc Kd.rcd).dflt).thread, op := (p.l.getD (0 + x.1) (V.enc Kd.rcd).dflt).op,
                                                what := (p.l.getD (0 + x.1) (V.enc Kd.rcd).dflt).what, act := (p.l.getD (0 + x.1) (V.enc Kd.rcd).dflt).act,
                                                key := (p.l.getD (0 + x.1) (V.enc Kd.rcd).dflt).key, value := (p.l.getD (0 + x.1) (V.enc Kd.rcd).dflt).value,
                                                hit := (p.l.getD (0 + x.1) (V.enc Kd.rcd).dflt).hit, err := (p.l.getD (0 + x.1) (V.enc Kd.rcd).dflt).err,
                                                call := (↑x.snd.fst.cs.length : Int) : Opn })),
                                        (0, Blk.ro Kd.rcd p.l)],
                                    nx := 14, nt := 27, tl := [11, 8, 7, 6, 4, 2, 3, 1, 8, 4, 1, 2, 3, 4, 5, 6, 7, 8, 9, 10, 11, 12, 13, 14, 15, 16] : St V })
                                (Out.stop EX.nx
                                  {
                                    env :=
                                      [(2, AV.und), (3, AV.und), (4, AV.ptr 2 0), (10, AV.sl false 0 0 8 p.l.length p.2),
                                        (11, AV.int IntKind.i64 (↑p.l.length : Int)), (12, AV.int IntKind.i64 (IntKind.i64.wrap ((↑x.1 : Int) + 1)))],
                                    heap :=
                                      [(12,
                                          Blk.arr 35 Kd.cal
                                            (x.snd.fst.cs ++
                                              [{ thread := (p.l.getD (0 + x.1) (V.enc Kd.rcd).dflt).thread, op := (p.l.getD (0 + x.1) (V.enc Kd.rcd).dflt).op,
                                                  frm := (↑x.1 : Int), at_ := -1, to_ := -1 : Cal }])
                                            y),
                                        (2, Blk.cells 67 [AV.mp 1, AV.sl false 12 0 5 (x.snd.fst.cs.length + 1) (x.snd.fst.cs.length + 1 + y)]),
                                        (1,
                                          Blk.mp IntKind.i64 Kd.opn
                                            (mput x.snd.fst.at_ (p.l.getD (0 + x.1) (V.enc Kd.rcd).dflt).thread
                                              { thread := (p.l.getD (0 + x.1) (V.enc Kd.rcd).dflt).thread, op := (p.l.getD (0 + x.1) (V.enc Kd.rcd).dflt).op,
                                                what := (p.l.getD (0 + x.1) (V.enc Kd.rcd).dflt).what, act := (p.l.getD (0 + x.1) (V.enc Kd.rcd).dflt).act,
                                                key := (p.l.getD (0 + x.1) (V.enc Kd.rcd).dflt).key, value := (p.l.getD (0 + x.1) (V.enc Kd.rcd).dflt).value,
                                                hit := (p.l.getD (0 + x.1) (V.enc Kd.rcd).dflt).hit, err := (p.l.getD (0 + x.1) (V.enc Kd.rcd).dflt).err,
                                                call := (↑x.snd.fst.cs.length : Int) : Opn })),
                                        (0, Blk.ro Kd.rcd p.l)],
                                    nx := 14, nt := 27, tl := [11, 8, 7, 6, 4, 2, 3, 1, 8, 4, 1, 2, 3, 4, 5, 6, 7, 8, 9, 10, 11, 12, 13, 14, 15, 16] :
                                    St V }))))))
                    (Out.need
                      (0 = 0 ∧
                        x.snd.fst.cs.length = x.snd.fst.cs.length ∧
                          x.snd.fst.cs.length + x.snd.2 = x.snd.fst.cs.length + x.snd.2 ∧ (x.snd.fst.cs.length + 1) * 40 ≤ 140737488355328)
                      (Out.all Nat fun y =>
                        Out.ite (!(p.l.getD (0 + x.1) (V.enc Kd.rcd).dflt).err == 0)
                          (Out.stop EX.rt
                            {
                              env :=
                                [(2, AV.nilS), (3, AV.ff), (4, AV.ptr 2 0), (10, AV.sl false 0 0 8 p.l.length p.2), (11, AV.int IntKind.i64 (↑p.l.length : Int)),
                                  (12, AV.int IntKind.i64 (↑x.1 : Int))],
                              heap :=
                                [(12,
                                    Blk.arr 35 Kd.cal
                                      (x.snd.fst.cs ++
                                        [{ thread := (p.l.getD (0 + x.1) (V.enc Kd.rcd).dflt).thread, op := (p.l.getD (0 + x.1) (V.enc Kd.rcd).dflt).op,
                                            frm := (↑x.1 : Int), at_ := -1, to_ := -1 : Cal }])
                                      y),
                                  (2, Blk.cells 67 [AV.mp 1, AV.sl false 12 0 5 (x.snd.fst.cs.length + 1) (x.snd.fst.cs.length + 1 + y)]),
                                  (1,
                                    Blk.mp IntKind.i64 Kd.opn
                                      (mput x.snd.fst.at_ (p.l.getD (0 + x.1) (V.enc Kd.rcd).dflt).thread
                                        { thread := (p.l.getD (0 + x.1) (V.enc Kd.rcd).dflt).thread, op := (p.l.getD (0 + x.1) (V.enc Kd.rcd).dflt).op,
                                          what := (p.l.getD (0 + x.1) (V.enc Kd.rcd).dflt).what, act := (p.l.getD (0 + x.1) (V.enc Kd.rcd).dflt).act,
                                          key := (p.l.getD (0 + x.1) (V.enc Kd.rcd).dflt).key, value := (p.l.getD (0 + x.1) (V.enc Kd.rcd).dflt).value,
                                          hit := (p.l.getD (0 + x.1) (V.enc Kd.rcd).dflt).hit, err := (p.l.getD (0 + x.1) (V.enc Kd.rcd).dflt).err,
                                          call := (↑x.snd.fst.cs.length : Int) : Opn })),
                                  (0, Blk.ro Kd.rcd p.l)],
                              nx := 14, nt := 27, tl := [11, 8, 7, 6, 4, 2, 3, 1, 8, 4, 1, 2, 3, 4, 5, 6, 7, 8, 9, 10, 11, 12, 13, 14, 15, 16] : St V })
                          (Out.stop EX.nx
                            {
                              env :=
                                [(2, AV.und), (3, AV.und), (4, AV.ptr 2 0), (10, AV.sl false 0 0 8 p.l.length p.2), (11, AV.int IntKind.i64 (↑p.l.length : Int)),
                                  (12, AV.int IntKind.i64 (IntKind.i64.wrap ((↑x.1 : Int) + 1)))],
                              heap :=
                                [(12,
                                    Blk.arr 35 Kd.cal
                                      (x.snd.fst.cs ++
                                        [{ thread := (p.l.getD (0 + x.1) (V.enc Kd.rcd).dflt).thread, op := (p.l.getD (0 + x.1) (V.enc Kd.rcd).dflt).op,
                                            frm := (↑x.1 : Int), at_ := -1, to_ := -1 : Cal }])
                                      y),
                                  (2, Blk.cells 67 [AV.mp 1, AV.sl false 12 0 5 (x.snd.fst.cs.length + 1) (x.snd.fst.cs.length + 1 + y)]),
                                  (1,
                                    Blk.mp IntKind.i64 Kd.opn
                                      (mput x.snd.fst.at_ (p.l.getD (0 + x.1) (V.enc Kd.rcd).dflt).thread
                                        { thread := (p.l.getD (0 + x.1) (V.enc Kd.rcd).dflt).thread, op := (p.l.getD (0 + x.1) (V.enc Kd.rcd).dflt).op,
                                          what := (p.l.getD (0 + x.1) (V.enc Kd.rcd).dflt).what, act := (p.l.getD (0 + x.1) (V.enc Kd.rcd).dflt).act,
                                          key := (p.l.getD (0 + x.1) (V.enc Kd.rcd).dflt).key, value := (p.l.getD (0 + x.1) (V.enc Kd.rcd).dflt).value,
                                          hit := (p.l.getD (0 + x.1) (V.enc Kd.rcd).dflt).hit, err := (p.l.getD (0 + x.1) (V.enc Kd.rcd).dflt).err,
                                          call := (↑x.snd.fst.cs.length : Int) : Opn })),
                                  (0, Blk.ro Kd.rcd p.l)],
                              nx := 14, nt := 27, tl := [11, 8, 7, 6, 4, 2, 3, 1, 8, 4, 1, 2, 3, 4, 5, 6, 7, 8, 9, 10, 11, 12, 13, 14, 15, 16] : St V }))))
                  (Out.ite (!(mget x.snd.fst.at_ (p.l.getD (0 + x.1) (V.enc Kd.rcd).dflt).thread).isSome)
                    (Out.stop EX.rt
                      {
                        env :=
                          [(2, AV.nilS), (3, AV.ff), (4, AV.ptr 2 0), (10, AV.sl false 0 0 8 p.l.length p.2), (11, AV.int IntKind.i64 (↑p.l.length : Int)),
                            (12, AV.int IntKind.i64 (↑x.1 : Int))],
                        heap :=
                          [(2, Blk.cells 67 [AV.mp 1, AV.sl false 3 0 5 x.snd.fst.cs.length (x.snd.fst.cs.length + x.snd.2)]),
                            (1, Blk.mp IntKind.i64 Kd.opn x.snd.fst.at_), (3, Blk.arr 35 Kd.cal x.snd.fst.cs x.snd.2), (0, Blk.ro Kd.rcd p.l)],
                        nx := 10, nt := 27, tl := [8, 7, 6, 4, 8, 4, 1, 2, 3, 4, 5, 6, 7, 8, 9, 10, 11, 12, 13, 14, 15, 16] : St V })
                    (Out.ite (((mget x.snd.fst.at_ (p.l.getD (0 + x.1) (V.enc Kd.rcd).dflt).thread).getD (V.enc Kd.opn).dflt).what != 3)
                      (Out.stop EX.rt
                        {
                          env :=
                            [(2, AV.nilS), (3, AV.ff), (4, AV.ptr 2 0), (10, AV.sl false 0 0 8 p.l.length p.2), (11, AV.int IntKind.i64 (↑p.l.length : Int)),
                              (12, AV.int IntKind.i64 (↑x.1 : Int))],
                          heap :=
                            [(2, Blk.cells 67 [AV.mp 1, AV.sl false 3 0 5 x.snd.fst.cs.length (x.snd.fst.cs.length + x.snd.2)]),
                              (1, Blk.mp IntKind.i64 Kd.opn x.snd.fst.at_), (3, Blk.arr 35 Kd.cal x.snd.fst.cs x.snd.2), (0, Blk.ro Kd.rcd p.l)],
                          nx := 10, nt := 27, tl := [8, 7, 6, 4, 8, 4, 1, 2, 3, 4, 5, 6, 7, 8, 9, 10, 11, 12, 13, 14, 15, 16] : St V })
                      (Out.ite
                        ((p.l.getD (0 + x.1) (V.enc Kd.rcd).dflt).op !=
                          IntKind.i64.wrap (((mget x.snd.fst.at_ (p.l.getD (0 + x.1) (V.enc Kd.rcd).dflt).thread).getD (V.enc Kd.opn).dflt).op + 1))
                        (Out.stop EX.rt
                          {
                            env :=
                              [(2, AV.nilS), (3, AV.ff), (4, AV.ptr 2 0), (10, AV.sl false 0 0 8 p.l.length p.2), (11, AV.int IntKind.i64 (↑p.l.length : Int)),
                                (12, AV.int IntKind.i64 (↑x.1 : Int))],
                            heap :=
                              [(2, Blk.cells 67 [AV.mp 1, AV.sl false 3 0 5 x.snd.fst.cs.length (x.snd.fst.cs.length + x.snd.2)]),
                                (1, Blk.mp IntKind.i64 Kd.opn x.snd.fst.at_), (3, Blk.arr 35 Kd.cal x.snd.fst.cs x.snd.2), (0, Blk.ro Kd.rcd p.l)],
                            nx := 10, nt := 27, tl := [8, 7, 6, 4, 8, 4, 1, 2, 3, 4, 5, 6, 7, 8, 9, 10, 11, 12, 13, 14, 15, 16] : St V })
                        (Out.need
                          (0 = 0 ∧
                            x.snd.fst.cs.length = x.snd.fst.cs.length ∧
                              x.snd.fst.cs.length + x.snd.2 = x.snd.fst.cs.length + x.snd.2 ∧ (x.snd.fst.cs.length + 1) * 40 ≤ 140737488355328)
                          (Out.all Nat fun y =>
                            Out.ite (!(p.l.getD (0 + x.1) (V.enc Kd.rcd).dflt).err == 0)
                              (Out.stop EX.rt
                                {
                                  env :=
                                    [(2, AV.nilS), (3, AV.ff), (4, AV.ptr 2 0), (10, AV.sl false 0 0 8 p.l.length p.2),
                                      (11, AV.int IntKind.i64 (↑p.l.length : Int)), (12, AV.int IntKind.i64 (↑x.1 : Int))],
                                  heap :=
                                    [(12,
                                        Blk.arr 35 Kd.cal
                                          (x.snd.fst.cs ++
                                            [{ thread := (p.l.getD (0 + x.1) (V.enc Kd.rcd).dflt).thread, op := (p.l.getD (0 + x.1) (V.enc Kd.rcd).dflt).op,
                                                frm := (↑x.1 : Int), at_ := -1, to_ := -1 : Cal }])
                                          y),
                                      (2, Blk.cells 67 [AV.mp 1, AV.sl false 12 0 5 (x.snd.fst.cs.length + 1) (x.snd.fst.cs.length + 1 + y)]),
                                      (1,
                                        Blk.mp IntKind.i64 Kd.opn
                                          (mput x.snd.fst.at_ (p.l.getD (0 + x.1) (V.enc Kd.rcd).dflt).thread
                                            { thread := (p.l.getD (0 + x.1) (V.enc Kd.rcd).dflt).thread, op := (p.l.getD (0 + x.1) (V.enc Kd.rcd).dflt).op,
                                              what := (p.l.getD (0 + x.1) (V.enc Kd.rcd).dflt).what, act := (p.l.getD (0 + x.1) (V.enc Kd.rcd).dflt).act,
                                              key := (p.l.getD (0 + x.1) (V.enc Kd.rcd).dflt).key, value := (p.l.getD (0 + x.1) (V.enc Kd.rcd).dflt).value,
                                              hit := (p.l.getD (0 + x.1) (V.enc Kd.rcd).dflt).hit, err := (p.l.getD (0 + x.1) (V.enc Kd.rcd).dflt).err,
                                              call := (↑x.snd.fst.cs.length : Int) : Opn })),
                                      (0, Blk.ro Kd.rcd p.l)],
                                  nx := 14, nt := 27, tl := [11, 8, 7, 6, 4, 2, 3, 1, 8, 4, 1, 2, 3, 4, 5, 6, 7, 8, 9, 10, 11, 12, 13, 14, 15, 16] : St V })
                              (Out.stop EX.nx
                                {
                                  env :=
                                    [(2, AV.und), (3, AV.und), (4, AV.ptr 2 0), (10, AV.sl false 0 0 8 p.l.length p.2),
                                      (11, AV.int IntKind.i64 (↑p.l.length : Int)), (12, AV.int IntKind.i64 (IntKind.i64.wrap ((↑x.1 : Int) + 1)))],
                                  heap :=
                                    [(12,
                                        Blk.arr 35 Kd.cal
                                          (x.snd.fst.cs ++
                                            [{ thread := (p.l.getD (0 + x.1) (V.enc Kd.rcd).dflt).thread, op := (p.l.getD (0 + x.1) (V.enc Kd.rcd).dflt).op,
                                                frm := (↑x.1 : Int), at_ := -1, to_ := -1 : Cal }])
                                          y),
                                      (2, Blk.cells 67 [AV.mp 1, AV.sl false 12 0 5 (x.snd.fst.cs.length + 1) (x.snd.fst.cs.length + 1 + y)]),
                                      (1,
                                        Blk.mp IntKind.i64 Kd.opn
                                          (mput x.snd.fst.at_ (p.l.getD (0 + x.1) (V.enc Kd.rcd).dflt).thread
                                            { thread := (p.l.getD (0 + x.1) (V.enc Kd.rcd).dflt).thread, op := (p.l.getD (0 + x.1) (V.enc Kd.rcd).dflt).op,
                                              what := (p.l.getD (0 + x.1) (V.enc Kd.rcd).dflt).what, act := (p.l.getD (0 + x.1) (V.enc Kd.rcd).dflt).act,
                                              key := (p.l.getD (0 + x.1) (V.enc Kd.rcd).dflt).key, value := (p.l.getD (0 + x.1) (V.enc Kd.rcd).dflt).value,
                                              hit := (p.l.getD (0 + x.1) (V.enc Kd.rcd).dflt).hit, err := (p.l.getD (0 + x.1) (V.enc Kd.rcd).dflt).err,
                                              call := (↑x.snd.fst.cs.length : Int) : Opn })),
                                      (0, Blk.ro Kd.rcd p.l)],
                                  nx := 14, nt := 27, tl := [11, 8, 7, 6, 4, 2, 3, 1, 8, 4, 1, 2, 3, 4, 5, 6, 7, 8, 9, 10, 11, 12, 13, 14, 15, 16] : St V })))))))
                (Out.ite (!(mget x.snd.fst.at_ (p.l.getD (0 + x.1) (V.enc Kd.rcd).dflt).thread).isSome)
                  (Out.stop EX.rt
                    {
                      env :=
                        [(2, AV.nilS), (3, AV.ff), (4, AV.ptr 2 0), (10, AV.sl false 0 0 8 p.l.length p.2), (11, AV.int IntKind.i64 (↑p.l.length : Int)),
                          (12, AV.int IntKind.i64 (↑x.1 : Int))],
                      heap :=
                        [(2, Blk.cells 67 [AV.mp 1, AV.sl false 3 0 5 x.snd.fst.cs.length (x.snd.fst.cs.length + x.snd.2)]),
                          (1, Blk.mp IntKind.i64 Kd.opn x.snd.fst.at_), (3, Blk.arr 35 Kd.cal x.snd.fst.cs x.snd.2), (0, Blk.ro Kd.rcd p.l)],
                      nx := 12, nt := 27, tl := [10, 8, 7, 6, 4, 10, 8, 4, 1, 2, 3, 4, 5, 6, 7, 8, 9, 10, 11, 12, 13, 14, 15, 16] : St V })
                  (Out.ite (((mget x.snd.fst.at_ (p.l.getD (0 + x.1) (V.enc Kd.rcd).dflt).thread).getD (V.enc Kd.opn).dflt).what == 3)
                    (Out.stop EX.rt
                      {
                        env :=
                          [(2, AV.nilS), (3, AV.ff), (4, AV.ptr 2 0), (10, AV.sl false 0 0 8 p.l.length p.2), (11, AV.int IntKind.i64 (↑p.l.length : Int)),
                            (12, AV.int IntKind.i64 (↑x.1 : Int))],
                        heap :=
                          [(2, Blk.cells 67 [AV.mp 1, AV.sl false 3 0 5 x.snd.fst.cs.length (x.snd.fst.cs.length + x.snd.2)]),
                            (1, Blk.mp IntKind.i64 Kd.opn x.snd.fst.at_), (3, Blk.arr 35 Kd.cal x.snd.fst.cs x.snd.2), (0, Blk.ro Kd.rcd p.l)],
                        nx := 12, nt := 27, tl := [10, 8, 7, 6, 4, 10, 8, 4, 1, 2, 3, 4, 5, 6, 7, 8, 9, 10, 11, 12, 13, 14, 15, 16] : St V })
                    (Out.ite
                      ((p.l.getD (0 + x.1) (V.enc Kd.rcd).dflt).op !=
                        ((mget x.snd.fst.at_ (p.l.getD (0 + x.1) (V.enc Kd.rcd).dflt).thread).getD (V.enc Kd.opn).dflt).op)
                      (Out.stop EX.rt
                        {
                          env :=
                            [(2, AV.nilS), (3, AV.ff), (4, AV.ptr 2 0), (10, AV.sl false 0 0 8 p.l.length p.2), (11, AV.int IntKind.i64 (↑p.l.length : Int)),
                              (12, AV.int IntKind.i64 (↑x.1 : Int))],
                          heap :=
                            [(2, Blk.cells 67 [AV.mp 1, AV.sl false 3 0 5 x.snd.fst.cs.length (x.snd.fst.cs.length + x.snd.2)]),
                              (1, Blk.mp IntKind.i64 Kd.opn x.snd.fst.at_), (3, Blk.arr 35 Kd.cal x.snd.fst.cs x.snd.2), (0, Blk.ro Kd.rcd p.l)],
                          nx := 12, nt := 27, tl := [10, 8, 7, 6, 4, 10, 8, 4, 1, 2, 3, 4, 5, 6, 7, 8, 9, 10, 11, 12, 13, 14, 15, 16] : St V })
                      (Out.ite
                        ((p.l.getD (0 + x.1) (V.enc Kd.rcd).dflt).act !=
                          ((mget x.snd.fst.at_ (p.l.getD (0 + x.1) (V.enc Kd.rcd).dflt).thread).getD (V.enc Kd.opn).dflt).act)
                        (Out.stop EX.rt
                          {
                            env :=
                              [(2, AV.nilS), (3, AV.ff), (4, AV.ptr 2 0), (10, AV.sl false 0 0 8 p.l.length p.2), (11, AV.int IntKind.i64 (↑p.l.length : Int)),
                                (12, AV.int IntKind.i64 (↑x.1 : Int))],
                            heap :=
                              [(2, Blk.cells 67 [AV.mp 1, AV.sl false 3 0 5 x.snd.fst.cs.length (x.snd.fst.cs.length + x.snd.2)]),
                                (1, Blk.mp IntKind.i64 Kd.opn x.snd.fst.at_), (3, Blk.arr 35 Kd.cal x.snd.fst.cs x.snd.2), (0, Blk.ro Kd.rcd p.l)],
                            nx := 12, nt := 27, tl := [10, 8, 7, 6, 4, 10, 8, 4, 1, 2, 3, 4, 5, 6, 7, 8, 9, 10, 11, 12, 13, 14, 15, 16] : St V })
                        (Out.ite
                          ((p.l.getD (0 + x.1) (V.enc Kd.rcd).dflt).key !=
                            ((mget x.snd.fst.at_ (p.l.getD (0 + x.1) (V.enc Kd.rcd).dflt).thread).getD (V.enc Kd.opn).dflt).key)
                          (Out.stop EX.rt
                            {
                              env :=
                                [(2, AV.nilS), (3, AV.ff), (4, AV.ptr 2 0), (10, AV.sl false 0 0 8 p.l.length p.2), (11, AV.int IntKind.i64 (↑p.l.length : Int)),
                                  (12, AV.int IntKind.i64 (↑x.1 : Int))],
                              heap :=
                                [(2, Blk.cells 67 [AV.mp 1, AV.sl false 3 0 5 x.snd.fst.cs.length (x.snd.fst.cs.length + x.snd.2)]),
                                  (1, Blk.mp IntKind.i64 Kd.opn x.snd.fst.at_), (3, Blk.arr 35 Kd.cal x.snd.fst.cs x.snd.2), (0, Blk.ro Kd.rcd p.l)],
                              nx := 12, nt := 27, tl := [10, 8, 7, 6, 4, 10, 8, 4, 1, 2, 3, 4, 5, 6, 7, 8, 9, 10, 11, 12, 13, 14, 15, 16] : St V })
                          (Out.need
                            (0 ≤ ((mget x.snd.fst.at_ (p.l.getD (0 + x.1) (V.enc Kd.rcd).dflt).thread).getD (V.enc Kd.opn).dflt).call ∧
                              ((mget x.snd.fst.at_ (p.l.getD (0 + x.1) (V.enc Kd.rcd).dflt).thread).getD (V.enc Kd.opn).dflt).call < (↑x.snd.fst.cs.length : Int))
                            (Out.ite ((p.l.getD (0 + x.1) (V.enc Kd.rcd).dflt).what == 2)
                              (Out.need
                                (0 + ((mget x.snd.fst.at_ (p.l.getD (0 + x.1) (V.enc Kd.rcd).dflt).thread).getD (V.enc Kd.opn).dflt).call.toNat <
                                  x.snd.fst.cs.length)
                                (Out.ite (((mget x.snd.fst.at_ (p.l.getD (0 + x.1) (V.enc Kd.rcd).dflt).thread).getD (V.enc Kd.opn).dflt).what == 1)
                                  (Out.ite (!(p.l.getD (0 + x.1) (V.enc Kd.rcd).dflt).err == 0)
                                    (Out.stop EX.rt
                                      {
                                        env :=
                                          [(2, AV.nilS), (3, AV.ff), (4, AV.ptr 2 0), (10, AV.sl false 0 0 8 p.l.length p.2),
                                            (11, AV.int IntKind.i64 (↑p.l.length : Int)), (12, AV.int IntKind.i64 (↑x.1 : Int))],
                                        heap :=
                                          [(2, Blk.cells 67 [AV.mp 1, AV.sl false 3 0 5 x.snd.fst.cs.length (x.snd.fst.cs.length + x.snd.2)]),
                                            (1,
                                              Blk.mp IntKind.i64 Kd.opn
                                                (mput x.snd.fst.at_ (p.l.getD (0 + x.1) (V.enc Kd.rcd).dflt).thread
                                                  { thread := (p.l.getD (0 + x.1) (V.enc Kd.rcd).dflt).thread, op := (p.l.getD (0 + x.1) (V.enc Kd.rcd).dflt).op,
                                                    what := (p.l.getD (0 + x.1) (V.enc Kd.rcd).dflt).what, act := (p.l.getD (0 + x.1) (V.enc Kd.rcd).dflt).act,
                                                    key := (p.l.getD (0 + x.1) (V.enc Kd.rcd).dflt).key, value := (p.l.getD (0 + x.1) (V.enc Kd.rcd).dflt).value,
                                                    hit := (p.l.getD (0 + x.1) (V.enc Kd.rcd).dflt).hit, err := (p.l.getD (0 + x.1) (V.enc Kd.rcd).dflt).err,
                                                    call := ((mget x.snd.fst.at_ (p.l.getD (0 + x.1) (V.enc Kd.rcd).dflt).thread).getD (V.enc Kd.opn).dflt).call :
                                                    Opn })),
                                            (3,
                                              Blk.arr 35 Kd.cal
                                                (x.snd.fst.cs.set
                                                  (0 + ((mget x.snd.fst.at_ (p.l.getD (0 + x.1) (V.enc Kd.rcd).dflt).thread).getD (V.enc Kd.opn).dflt).call.toNat)
                                                  {
                                                    thread :=
                                                      (x.snd.fst.cs.getD
                                                          (0 +
                                                            ((mget x.snd.fst.at_ (p.l.getD (0 + x.1) (V.enc Kd.rcd).dflt).thread).getD
                                                                  (V.enc Kd.opn).dflt).call.toNat)
                                                          (V.enc Kd.cal).dflt).thread,
                                                    op :=
                                                      (x.snd.fst.cs.getD
                                                          (0 +
                                                            ((mget x.snd.fst.at_ (p.l.getD (0 + x.1) (V.enc Kd.rcd).dflt).thread).getD
                                                                  (V.enc Kd.opn).dflt).call.toNat)
                                                          (V.enc Kd.cal).dflt).op,
                                                    frm :=
                                                      (x.snd.fst.cs.getD
                                                          (0 +
                                                            ((mget x.snd.fst.at_ (p.l.getD (0 + x.1) (V.enc Kd.rcd).dflt).thread).getD
                                                                  (V.enc Kd.opn).dflt).call.toNat)
                                                          (V.enc Kd.cal).dflt).frm,
                                                    at_ := (↑x.1 : Int),
                                                    to_ :=
                                                      (x.snd.fst.cs.getD
                                                          (0 +
                                                            ((mget x.snd.fst.at_ (p.l.getD (0 + x.1) (V.enc Kd.rcd).dflt).thread).getD
                                                                  (V.enc Kd.opn).dflt).call.toNat)
                                                          (V.enc Kd.cal).dflt).to_ :
                                                    Cal })
                                                x.snd.2),
                                            (0, Blk.ro Kd.rcd p.l)],
                                        nx := 14, nt := 27, tl := [10, 8, 7, 6, 4, 3, 1, 10, 8, 4, 1, 2, 3, 4, 5, 6, 7, 8, 9, 10, 11, 12, 13, 14, 15, 16] :
                                        St V })
                                    (Out.stop EX.nx
                                      {
                                        env :=
                                          [(2, AV.und), (3, AV.und), (4, AV.ptr 2 0), (10, AV.sl false 0 0 8 p.l.length p.2),
                                            (11, AV.int IntKind.i64 (↑p.l.length : Int)), (12, AV.int IntKind.i64 (IntKind.i64.wrap ((↑x.1 : Int) + 1)))],
                                        heap :=
                                          [(2, Blk.cells 67 [AV.mp 1, AV.sl false 3 0 5 x.snd.fst.cs.length (x.snd.fst.cs.length + x.snd.2)]),
                                            (1,
                                              Blk.mp IntKind.i64 Kd.opn
                                                (mput x.snd.fst.at_ (p.l.getD (0 + x.1) (V.enc Kd.rcd).dflt).thread
                                                  { thread := (p.l.getD (0 + x.1) (V.enc Kd.rcd).dflt).thread, op := (p.l.getD (0 + x.1) (V.enc Kd.rcd).dflt).op,
                                                    what := (p.l.getD (0 + x.1) (V.enc Kd.rcd).dflt).what, act := (p.l.getD (0 + x.1) (V.enc Kd.rcd).dflt).act,
                                                    key := (p.l.getD (0 + x.1) (V.enc Kd.rcd).dflt).key, value := (p.l.getD (0 + x.1) (V.enc Kd.rcd).dflt).value,
                                                    hit := (p.l.getD (0 + x.1) (V.enc Kd.rcd).dflt).hit, err := (p.l.getD (0 + x.1) (V.enc Kd.rcd).dflt).err,
                                                    call := ((mget x.snd.fst.at_ (p.l.getD (0 + x.1) (V.enc Kd.rcd).dflt).thread).getD (V.enc Kd.opn).dflt).call :
                                                    Opn })),
                                            (3,
                                              Blk.arr 35 Kd.cal
                                                (x.snd.fst.cs.set
                                                  (0 + ((mget x.snd.fst.at_ (p.l.getD (0 + x.1) (V.enc Kd.rcd).dflt).thread).getD (V.enc Kd.opn).dflt).call.toNat)
                                                  {
                                                    thread :=
                                                      (x.snd.fst.cs.getD
                                                          (0 +
                                                            ((mget x.snd.fst.at_ (p.l.getD (0 + x.1) (V.enc Kd.rcd).dflt).thread).getD
                                                                  (V.enc Kd.opn).dflt).call.toNat)
                                                          (V.enc Kd.cal).dflt).thread,
                                                    op :=
                                                      (x.snd.fst.cs.getD
                                                          (0 +
                                                            ((mget x.snd.fst.at_ (p.l.getD (0 + x.1) (V.enc Kd.rcd).dflt).thread).getD
                                                                  (V.enc Kd.opn).dflt).call.toNat)
                                                          (V.enc Kd.cal).dflt).op,
                                                    frm :=
                                                      (x.snd.fst.cs.getD
                                                          (0 +
                                                            ((mget x.snd.fst.at_ (p.l.getD (0 + x.1) (V.enc Kd.rcd).dflt).thread).getD
                                                                  (V.enc Kd.opn).dflt).call.toNat)
                                                          (V.enc Kd.cal).dflt).frm,
                                                    at_ := (↑x.1 : Int),
                                                    to_ :=
                                                      (x.snd.fst.cs.getD
                                                          (0 +
                                                            ((mget x.snd.fst.at_ (p.l.getD (0 + x.1) (V.enc Kd.rcd).dflt).thread).getD
                                                                  (V.enc Kd.opn).dflt).call.toNat)
                                                          (V.enc Kd.cal).dflt).to_ :
                                                    Cal })
                                                x.snd.2),
                                            (0, Blk.ro Kd.rcd p.l)],
                                        nx := 14, nt := 27, tl := [10, 8, 7, 6, 4, 3, 1, 10, 8, 4, 1, 2, 3, 4, 5, 6, 7, 8, 9, 10, 11, 12, 13, 14, 15, 16] :
                                        St V }))
                                  (Out.stop EX.rt
                                    {
                                      env :=
                                        [(2, AV.nilS), (3, AV.ff), (4, AV.ptr 2 0), (10, AV.sl false 0 0 8 p.l.length p.2),
                                          (11, AV.int IntKind.i64 (↑p.l.length : Int)), (12, AV.int IntKind.i64 (↑x.1 : Int))],
                                      heap :=
                                        [(2, Blk.cells 67 [AV.mp 1, AV.sl false 3 0 5 x.snd.fst.cs.length (x.snd.fst.cs.length + x.snd.2)]),
                                          (1,
                                            Blk.mp IntKind.i64 Kd.opn
                                              (mput x.snd.fst.at_ (p.l.getD (0 + x.1) (V.enc Kd.rcd).dflt).thread
                                                { thread := (p.l.getD (0 + x.1) (V.enc Kd.rcd).dflt).thread, op := (p.l.getD (0 + x.1) (V.enc Kd.rcd).dflt).op,
                                                  what := (p.l.getD (0 + x.1) (V.enc Kd.rcd).dflt).what, act := (p.l.getD (0 + x.1) (V.enc Kd.rcd).dflt).act,
                                                  key := (p.l.getD (0 + x.1) (V.enc Kd.rcd).dflt).key, value := (p.l.getD (0 + x.1) (V.enc Kd.rcd).dflt).value,
                                                  hit := (p.l.getD (0 + x.1) (V.enc Kd.rcd).dflt).hit, err := (p.l.getD (0 + x.1) (V.enc Kd.rcd).dflt).err,
                                                  call := ((mget x.snd.fst.at_ (p.l.getD (0 + x.1) (V.enc Kd.rcd).dflt).thread).getD (V.enc Kd.opn).dflt).call :
                                                  Opn })),
                                          (3,
                                            Blk.arr 35 Kd.cal
                                              (x.snd.fst.cs.set
                                                (0 + ((mget x.snd.fst.at_ (p.l.getD (0 + x.1) (V.enc Kd.rcd).dflt).thread).getD (V.enc Kd.opn).dflt).call.toNat)
                                                {
                                                  thread :=
                                                    (x.snd.fst.cs.getD
                                                        (0 +
                                                          ((mget x.snd.fst.at_ (p.l.getD (0 + x.1) (V.enc Kd.rcd).dflt).thread).getD
                                                                (V.enc Kd.opn).dflt).call.toNat)
                                                        (V.enc Kd.cal).dflt).thread,
                                                  op :=
                                                    (x.snd.fst.cs.getD
                                                        (0 +
                                                          ((mget x.snd.fst.at_ (p.l.getD (0 + x.1) (V.enc Kd.rcd).dflt).thread).getD
                                                                (V.enc Kd.opn).dflt).call.toNat)
                                                        (V.enc Kd.cal).dflt).op,
                                                  frm :=
                                                    (x.snd.fst.cs.getD
                                                        (0 +
                                                          ((mget x.snd.fst.at_ (p.l.getD (0 + x.1) (V.enc Kd.rcd).dflt).thread).getD
                                                                (V.enc Kd.opn).dflt).call.toNat)
                                                        (V.enc Kd.cal).dflt).frm,
                                                  at_ := (↑x.1 : Int),
                                                  to_ :=
                                                    (x.snd.fst.cs.getD
                                                        (0 +
                                                          ((mget x.snd.fst.at_ (p.l.getD (0 + x.1) (V.enc Kd.rcd).dflt).thread).getD
                                                                (V.enc Kd.opn).dflt).call.toNat)
                                                        (V.enc Kd.cal).dflt).to_ :
                                                  Cal })
                                              x.snd.2),
                                          (0, Blk.ro Kd.rcd p.l)],
                                      nx := 14, nt := 27, tl := [10, 8, 7, 6, 4, 3, 1, 10, 8, 4, 1, 2, 3, 4, 5, 6, 7, 8, 9, 10, 11, 12, 13, 14, 15, 16] :
                                      St V })))
                              (Out.ite ((p.l.getD (0 + x.1) (V.enc Kd.rcd).dflt).what == 3)
                                (Out.need
                                  (0 + ((mget x.snd.fst.at_ (p.l.getD (0 + x.1) (V.enc Kd.rcd).dflt).thread).getD (V.enc Kd.opn).dflt).call.toNat <
                                    x.snd.fst.cs.length)
                                  (Out.ite (((mget x.snd.fst.at_ (p.l.getD (0 + x.1) (V.enc Kd.rcd).dflt).thread).getD (V.enc Kd.opn).dflt).what == 1)
                                    (Out.stop EX.nx
                                      {
                                        env :=
                                          [(2, AV.und), (3, AV.und), (4, AV.ptr 2 0), (10, AV.sl false 0 0 8 p.l.length p.2),
                                            (11, AV.int IntKind.i64 (↑p.l.length : Int)), (12, AV.int IntKind.i64 (IntKind.i64.wrap ((↑x.1 : Int) + 1)))],
                                        heap :=
                                          [(2, Blk.cells 67 [AV.mp 1, AV.sl false 3 0 5 x.snd.fst.cs.length (x.snd.fst.cs.length + x.snd.2)]),
                                            (1,
                                              Blk.mp IntKind.i64 Kd.opn
                                                (mput x.snd.fst.at_ (p.l.getD (0 + x.1) (V.enc Kd.rcd).dflt).thread
                                                  { thread := (p.l.getD (0 + x.1) (V.enc Kd.rcd).dflt).thread, op := (p.l.getD (0 + x.1) (V.enc Kd.rcd).dflt).op,
                                                    what := (p.l.getD (0 + x.1) (V.enc Kd.rcd).dflt).what, act := (p.l.getD (0 + x.1) (V.enc Kd.rcd).dflt).act,
                                                    key := (p.l.getD (0 + x.1) (V.enc Kd.rcd).dflt).key, value := (p.l.getD (0 + x.1) (V.enc Kd.rcd).dflt).value,
                                                    hit := (p.l.getD (0 + x.1) (V.enc Kd.rcd).dflt).hit, err := (p.l.getD (0 + x.1) (V.enc Kd.rcd).dflt).err,
                                                    call := ((mget x.snd.fst.at_ (p.l.getD (0 + x.1) (V.enc Kd.rcd).dflt).thread).getD (V.enc Kd.opn).dflt).call :
                                                    Opn })),
                                            (3,
                                              Blk.arr 35 Kd.cal
                                                (x.snd.fst.cs.set
                                                  (0 + ((mget x.snd.fst.at_ (p.l.getD (0 + x.1) (V.enc Kd.rcd).dflt).thread).getD (V.enc Kd.opn).dflt).call.toNat)
                                                  {
                                                    thread :=
                                                      (x.snd.fst.cs.getD
                                                          (0 +
                                                            ((mget x.snd.fst.at_ (p.l.getD (0 + x.1) (V.enc Kd.rcd).dflt).thread).getD
                                                                  (V.enc Kd.opn).dflt).call.toNat)
                                                          (V.enc Kd.cal).dflt).thread,
                                                    op :=
                                                      (x.snd.fst.cs.getD
                                                          (0 +
                                                            ((mget x.snd.fst.at_ (p.l.getD (0 + x.1) (V.enc Kd.rcd).dflt).thread).getD
                                                                  (V.enc Kd.opn).dflt).call.toNat)
                                                          (V.enc Kd.cal).dflt).op,
                                                    frm :=
                                                      (x.snd.fst.cs.getD
                                                          (0 +
                                                            ((mget x.snd.fst.at_ (p.l.getD (0 + x.1) (V.enc Kd.rcd).dflt).thread).getD
                                                                  (V.enc Kd.opn).dflt).call.toNat)
                                                          (V.enc Kd.cal).dflt).frm,
                                                    at_ :=
                                                      (x.snd.fst.cs.getD
                                                          (0 +
                                                            ((mget x.snd.fst.at_ (p.l.getD (0 + x.1) (V.enc Kd.rcd).dflt).thread).getD
                                                                  (V.enc Kd.opn).dflt).call.toNat)
                                                          (V.enc Kd.cal).dflt).at_,
                                                    to_ := (↑x.1 : Int) : Cal })
                                                x.snd.2),
                                            (0, Blk.ro Kd.rcd p.l)],
                                        nx := 14, nt := 27, tl := [10, 8, 7, 6, 4, 3, 1, 10, 8, 4, 1, 2, 3, 4, 5, 6, 7, 8, 9, 10, 11, 12, 13, 14, 15, 16] :
                                        St V })
                                    (Out.ite
                                      ((p.l.getD (0 + x.1) (V.enc Kd.rcd).dflt).act ==
                                          ((mget x.snd.fst.at_ (p.l.getD (0 + x.1) (V.enc Kd.rcd).dflt).thread).getD (V.enc Kd.opn).dflt).act &&
                                        ((p.l.getD (0 + x.1) (V.enc Kd.rcd).dflt).key ==
                                            ((mget x.snd.fst.at_ (p.l.getD (0 + x.1) (V.enc Kd.rcd).dflt).thread).getD (V.enc Kd.opn).dflt).key &&
                                          ((p.l.getD (0 + x.1) (V.enc Kd.rcd).dflt).value ==
                                              ((mget x.snd.fst.at_ (p.l.getD (0 + x.1) (V.enc Kd.rcd).dflt).thread).getD (V.enc Kd.opn).dflt).value &&
                                            ((p.l.getD (0 + x.1) (V.enc Kd.rcd).dflt).hit ==
                                                ((mget x.snd.fst.at_ (p.l.getD (0 + x.1) (V.enc Kd.rcd).dflt).thread).getD (V.enc Kd.opn).dflt).hit &&
                                              true))))
                                      (Out.ite (!(p.l.getD (0 + x.1) (V.enc Kd.rcd).dflt).err == 0)
                                        (Out.stop EX.rt
                                          {
                                            env :=
                                              [(2, AV.nilS), (3, AV.ff), (4, AV.ptr 2 0), (10, AV.sl false 0 0 8 p.l.length p.2),
                                                (11, AV.int IntKind.i64 (↑p.l.length : Int)), (12, AV.int IntKind.i64 (↑x.1 : Int))],
                                            heap :=
                                              [(2, Blk.cells 67 [AV.mp 1, AV.sl false 3 0 5 x.snd.fst.cs.length (x.snd.fst.cs.length + x.snd.2)]),
                                                (1,
                                                  Blk.mp IntKind.i64 Kd.opn
                                                    (mput x.snd.fst.at_ (p.l.getD (0 + x.1) (V.enc Kd.rcd).dflt).thread
                                                      { thread := (p.l.getD (0 + x.1) (V.enc Kd.rcd).dflt).thread,
                                                        op := (p.l.getD (0 + x.1) (V.enc Kd.rcd).dflt).op, what := (p.l.getD (0 + x.1) (V.enc Kd.rcd).dflt).what,
                                                        act := (p.l.getD (0 + x.1) (V.enc Kd.rcd).dflt).act, key := (p.l.getD (0 + x.1) (V.enc Kd.rcd).dflt).key,
                                                        value := (p.l.getD (0 + x.1) (V.enc Kd.rcd).dflt).value,
                                                        hit := (p.l.getD (0 + x.1) (V.enc Kd.rcd).dflt).hit, err := (p.l.getD (0 + x.1) (V.enc Kd.rcd).dflt).err,
                                                        call :=
                                                          ((mget x.snd.fst.at_ (p.l.getD (0 + x.1) (V.enc Kd.rcd).dflt).thread).getD (V.enc Kd.opn).dflt).call :
                                                        Opn })),
                                                (3,
                                                  Blk.arr 35 Kd.cal
                                                    (x.snd.fst.cs.set
                                                      (0 +
                                                        ((mget x.snd.fst.at_ (p.l.getD (0 + x.1) (V.enc Kd.rcd).dflt).thread).getD
                                                              (V.enc Kd.opn).dflt).call.toNat)
                                                      {
                                                        thread :=
                                                          (x.snd.fst.cs.getD
                                                              (0 +
                                                                ((mget x.snd.fst.at_ (p.l.getD (0 + x.1) (V.enc Kd.rcd).dflt).thread).getD
                                                                      (V.enc Kd.opn).dflt).call.toNat)
                                                              (V.enc Kd.cal).dflt).thread,
                                                        op :=
                                                          (x.snd.fst.cs.getD
                                                              (0 +
                                                                ((mget x.snd.fst.at_ (p.l.getD (0 + x.1) (V.enc Kd.rcd).dflt).thread).getD
                                                                      (V.enc Kd.opn).dflt).call.toNat)
                                                              (V.enc Kd.cal).dflt).op,
                                                        frm :=
                                                          (x.snd.fst.cs.getD
                                                              (0 +
                                                                ((mget x.snd.fst.at_ (p.l.getD (0 + x.1) (V.enc Kd.rcd).dflt).thread).getD
                                                                      (V.enc Kd.opn).dflt).call.toNat)
                                                              (V.enc Kd.cal).dflt).frm,
                                                        at_ :=
                                                          (x.snd.fst.cs.getD
                                                              (0 +
                                                                ((mget x.snd.fst.at_ (p.l.getD (0 + x.1) (V.enc Kd.rcd).dflt).thread).getD
                                                                      (V.enc Kd.opn).dflt).call.toNat)
                                                              (V.enc Kd.cal).dflt).at_,
                                                        to_ := (↑x.1 : Int) : Cal })
                                                    x.snd.2),
                                                (0, Blk.ro Kd.rcd p.l)],
                                            nx := 14, nt := 27, tl := [10, 8, 7, 6, 4, 3, 1, 10, 8, 4, 1, 2, 3, 4, 5, 6, 7, 8, 9, 10, 11, 12, 13, 14, 15, 16] :
                                            St V })
                                        (Out.stop EX.nx
                                          {
                                            env :=
                                              [(2, AV.und), (3, AV.und), (4, AV.ptr 2 0), (10, AV.sl false 0 0 8 p.l.length p.2),
                                                (11, AV.int IntKind.i64 (↑p.l.length : Int)), (12, AV.int IntKind.i64 (IntKind.i64.wrap ((↑x.1 : Int) + 1)))],
                                            heap :=
                                              [(2, Blk.cells 67 [AV.mp 1, AV.sl false 3 0 5 x.snd.fst.cs.length (x.snd.fst.cs.length + x.snd.2)]),
                                                (1,
                                                  Blk.mp IntKind.i64 Kd.opn
                                                    (mput x.snd.fst.at_ (p.l.getD (0 + x.1) (V.enc Kd.rcd).dflt).thread
                                                      { thread := (p.l.getD (0 + x.1) (V.enc Kd.rcd).dflt).thread,
                                                        op := (p.l.getD (0 + x.1) (V.enc Kd.rcd).dflt).op, what := (p.l.getD (0 + x.1) (V.enc Kd.rcd).dflt).what,
                                                        act := (p.l.getD (0 + x.1) (V.enc Kd.rcd).dflt).act, key := (p.l.getD (0 + x.1) (V.enc Kd.rcd).dflt).key,
                                                        value := (p.l.getD (0 + x.1) (V.enc Kd.rcd).dflt).value,
                                                        hit := (p.l.getD (0 + x.1) (V.enc Kd.rcd).dflt).hit, err := (p.l.getD (0 + x.1) (V.enc Kd.rcd).dflt).err,
                                                        call :=
                                                          ((mget x.snd.fst.at_ (p.l.getD (0 + x.1) (V.enc Kd.rcd).dflt).thread).getD (V.enc Kd.opn).dflt).call :
                                                        Opn })),
                                                (3,
                                                  Blk.arr 35 Kd.cal
                                                    (x.snd.fst.cs.set
                                                      (0 +
                                                        ((mget x.snd.fst.at_ (p.l.getD (0 + x.1) (V.enc Kd.rcd).dflt).thread).getD
                                                              (V.enc Kd.opn).dflt).call.toNat)
                                                      {
                                                        thread :=
                                                          (x.snd.fst.cs.getD
                                                              (0 +
                                                                ((mget x.snd.fst.at_ (p.l.getD (0 + x.1) (V.enc Kd.rcd).dflt).thread).getD
                                                                      (V.enc Kd.opn).dflt).call.toNat)
                                                              (V.enc Kd.cal).dflt).thread,
                                                        op :=
                                                          (x.snd.fst.cs.getD
                                                              (0 +
                                                                ((mget x.snd.fst.at_ (p.l.getD (0 + x.1) (V.enc Kd.rcd).dflt).thread).getD
                                                                      (V.enc Kd.opn).dflt).call.toNat)
                                                              (V.enc Kd.cal).dflt).op,
                                                        frm :=
                                                          (x.snd.fst.cs.getD
                                                              (0 +
                                                                ((mget x.snd.fst.at_ (p.l.getD (0 + x.1) (V.enc Kd.rcd).dflt).thread).getD
                                                                      (V.enc Kd.opn).dflt).call.toNat)
                                                              (V.enc Kd.cal).dflt).frm,
                                                        at_ :=
                                                          (x.snd.fst.cs.getD
                                                              (0 +
                                                                ((mget x.snd.fst.at_ (p.l.getD (0 + x.1) (V.enc Kd.rcd).dflt).thread).getD
                                                                      (V.enc Kd.opn).dflt).call.toNat)
                                                              (V.enc Kd.cal).dflt).at_,
                                                        to_ := (↑x.1 : Int) : Cal })
                                                    x.snd.2),
                                                (0, Blk.ro Kd.rcd p.l)],
                                            nx := 14, nt := 27, tl := [10, 8, 7, 6, 4, 3, 1, 10, 8, 4, 1, 2, 3, 4, 5, 6, 7, 8, 9, 10, 11, 12, 13, 14, 15, 16] :
                                            St V }))
                                      (Out.stop EX.rt
                                        {
                                          env :=
                                            [(2, AV.nilS), (3, AV.ff), (4, AV.ptr 2 0), (10, AV.sl false 0 0 8 p.l.length p.2),
                                              (11, AV.int IntKind.i64 (↑p.l.length : Int)), (12, AV.int IntKind.i64 (↑x.1 : Int))],
                                          heap :=
                                            [(2, Blk.cells 67 [AV.mp 1, AV.sl false 3 0 5 x.snd.fst.cs.length (x.snd.fst.cs.length + x.snd.2)]),
                                              (1,
                                                Blk.mp IntKind.i64 Kd.opn
                                                  (mput x.snd.fst.at_ (p.l.getD (0 + x.1) (V.enc Kd.rcd).dflt).thread
                                                    { thread := (p.l.getD (0 + x.1) (V.enc Kd.rcd).dflt).thread,
                                                      op := (p.l.getD (0 + x.1) (V.enc Kd.rcd).dflt).op, what := (p.l.getD (0 + x.1) (V.enc Kd.rcd).dflt).what,
                                                      act := (p.l.getD (0 + x.1) (V.enc Kd.rcd).dflt).act, key := (p.l.getD (0 + x.1) (V.enc Kd.rcd).dflt).key,
                                                      value := (p.l.getD (0 + x.1) (V.enc Kd.rcd).dflt).value,
                                                      hit := (p.l.getD (0 + x.1) (V.enc Kd.rcd).dflt).hit, err := (p.l.getD (0 + x.1) (V.enc Kd.rcd).dflt).err,
                                                      call :=
                                                        ((mget x.snd.fst.at_ (p.l.getD (0 + x.1) (V.enc Kd.rcd).dflt).thread).getD (V.enc Kd.opn).dflt).call :
                                                      Opn })),
                                              (3,
                                                Blk.arr 35 Kd.cal
                                                  (x.snd.fst.cs.set
                                                    (0 +
                                                      ((mget x.snd.fst.at_ (p.l.getD (0 + x.1) (V.enc Kd.rcd).dflt).thread).getD (V.enc Kd.opn).dflt).call.toNat)
                                                    {
                                                      thread :=
                                                        (x.snd.fst.cs.getD
                                                            (0 +
                                                              ((mget x.snd.fst.at_ (p.l.getD (0 + x.1) (V.enc Kd.rcd).dflt).thread).getD
                                                                    (V.enc Kd.opn).dflt).call.toNat)
                                                            (V.enc Kd.cal).dflt).thread,
                                                      op :=
                                                        (x.snd.fst.cs.getD
                                                            (0 +
                                                              ((mget x.snd.fst.at_ (p.l.getD (0 + x.1) (V.enc Kd.rcd).dflt).thread).getD
                                                                    (V.enc Kd.opn).dflt).call.toNat)
                                                            (V.enc Kd.cal).dflt).op,
                                                      frm :=
                                                        (x.snd.fst.cs.getD
                                                            (0 +
                                                              ((mget x.snd.fst.at_ (p.l.getD (0 + x.1) (V.enc Kd.rcd).dflt).thread).getD
                                                                    (V.enc Kd.opn).dflt).call.toNat)
                                                            (V.enc Kd.cal).dflt).frm,
                                                      at_ :=
                                                        (x.snd.fst.cs.getD
                                                            (0 +
                                                              ((mget x.snd.fst.at_ (p.l.getD (0 + x.1) (V.enc Kd.rcd).dflt).thread).getD
                                                                    (V.enc Kd.opn).dflt).call.toNat)
                                                            (V.enc Kd.cal).dflt).at_,
                                                      to_ := (↑x.1 : Int) : Cal })
                                                  x.snd.2),
                                              (0, Blk.ro Kd.rcd p.l)],
                                          nx := 14, nt := 27, tl := [10, 8, 7, 6, 4, 3, 1, 10, 8, 4, 1, 2, 3, 4, 5, 6, 7, 8, 9, 10, 11, 12, 13, 14, 15, 16] :
                                          St V }))))
                                (Out.stop EX.rt
                                  {
                                    env :=
                                      [(2, AV.nilS), (3, AV.ff), (4, AV.ptr 2 0), (10, AV.sl false 0 0 8 p.l.length p.2),
                                        (11, AV.int IntKind.i64 (↑p.l.length : Int)), (12, AV.int IntKind.i64 (↑x.1 : Int))],
                                    heap :=
                                      [(2, Blk.cells 67 [AV.mp 1, AV.sl false 3 0 5 x.snd.fst.cs.length (x.snd.fst.cs.length + x.snd.2)]),
                                        (1,
                                          Blk.mp IntKind.i64 Kd.opn
                                            (mput x.snd.fst.at_ (p.l.getD (0 + x.1) (V.enc Kd.rcd).dflt).thread
                                              { thread := (p.l.getD (0 + x.1) (V.enc Kd.rcd).dflt).thread, op := (p.l.getD (0 + x.1) (V.enc Kd.rcd).dflt).op,
                                                what := (p.l.getD (0 + x.1) (V.enc Kd.rcd).dflt).what, act := (p.l.getD (0 + x.1) (V.enc Kd.rcd).dflt).act,
                                                key := (p.l.getD (0 + x.1) (V.enc Kd.rcd).dflt).key, value := (p.l.getD (0 + x.1) (V.enc Kd.rcd).dflt).value,
                                                hit := (p.l.getD (0 + x.1) (V.enc Kd.rcd).dflt).hit, err := (p.l.getD (0 + x.1) (V.enc Kd.rcd).dflt).err,
                                                call := ((mget x.snd.fst.at_ (p.l.getD (0 + x.1) (V.enc Kd.rcd).dflt).thread).getD (V.enc Kd.opn).dflt).call :
                                                Opn })),
                                        (3, Blk.arr 35 Kd.cal x.snd.fst.cs x.snd.2), (0, Blk.ro Kd.rcd p.l)],
                                    nx := 13, nt := 27, tl := [10, 8, 7, 6, 4, 1, 10, 8, 4, 1, 2, 3, 4, 5, 6, 7, 8, 9, 10, 11, 12, 13, 14, 15, 16] :
                                    St V })))))))))))))))
    (Out.stop (EX.ex 0)
      {
        env :=
          [(2, AV.und), (3, AV.und), (4, AV.ptr 2 0), (10, AV.sl false 0 0 8 p.l.length p.2), (11, AV.int IntKind.i64 (↑p.l.length : Int)),
            (12, AV.int IntKind.i64 (↑x.1 : Int))],
        heap :=
          [(2, Blk.cells 67 [AV.mp 1, AV.sl false 3 0 5 x.snd.fst.cs.length (x.snd.fst.cs.length + x.snd.2)]), (1, Blk.mp IntKind.i64 Kd.opn x.snd.fst.at_),
            (3, Blk.arr 35 Kd.cal x.snd.fst.cs x.snd.2), (0, Blk.ro Kd.rcd p.l)],
        nx := 4, nt := 27, tl := [1, 2, 3, 4, 5, 6, 7, 8, 9, 10, 11, 12, 13, 14, 15, 16] : St V }) := by kernel_rfl

end Sx
end Go.Proofs.Ytemcdjdglcceiaa
