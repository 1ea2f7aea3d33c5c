/-
  The law of many that swap: the runs of the machine.
-/
import Derived.Test.YtjackepkphdibaaEnds
namespace Go.Proofs.Ytjackepkphdibaa
namespace Sx
open Go
set_option maxRecDepth 100000
set_option linter.unusedVariables false

/-- What is there behind i rounds of the first loop. -/
def swapTo (xs : List Int) (v : Int) : Nat → MC
  | 0 => MC.mk0 1 60
  | i + 1 => (((swapTo xs v i).swap (xs.getD i 0) 0 0 v).2.2.take (xs.getD i 0) i 4).2.2
def firstTo (xs : List Int) (i k : Nat) : Bool := (xs.take k).all fun y => y != xs.getD i 0
def cntTo (xs : List Int) (i : Nat) : Nat := (xs.filter fun y => decide (y ∈ xs.take i)).length
structure P3 where
  xs : List Int
  c : Nat
  v : Int
  hv : v ≠ 0
  hb : xs.length ≤ 50
structure P34 extends P3 where
  i : Nat
  hi : i < xs.length
def I30 (p : P3) (i : Nat) : St V :=
  ⟨[(0, .sl false 0 0 1 p.xs.length p.c), (1, .int .i64 p.v), (5, .tt), (6, .ptr 1 0), (7, .int .i64 (i : Int))], [(1, .obj (oC (swapTo p.xs p.v i))), (0, .ro Kd.int p.xs)], 2, 115, [1, 2, 3, 4, 5]⟩
def I32 (p : P3) (i : Nat) : St V :=
  ⟨[(0, .sl false 0 0 1 p.xs.length p.c), (5, .tt), (6, .ptr 1 0), (10, .int .i64 (cntTo p.xs i : Int)), (11, .int .i64 (i : Int))], [(1, .obj (oC (swapTo p.xs p.v p.xs.length))), (0, .ro Kd.int p.xs)], 2, 115, [1, 2, 3, 4, 5]⟩
def I34 (p : P34) (k : Nat) : St V :=
  ⟨[(0, .sl false 0 0 1 p.xs.length p.c), (5, .tt), (6, .ptr 1 0), (10, .int .i64 (cntTo p.xs p.i : Int)), (11, .int .i64 (p.i : Int)), (12, .bool (firstTo p.xs p.i k)), (13, .int .i64 (k : Int))], [(1, .obj (oC (swapTo p.xs p.v p.xs.length))), (0, .ro Kd.int p.xs)], 2, 115, [1, 2, 3, 4, 5]⟩
def L30 : LoopS V := loopN 2 (fun p : P3 => I30 p 0) (fun _ (_ : Unit) => True) (fun p _ => I30 p p.xs.length)
def L32 : LoopS V := loopN 2 (fun p : P3 => I32 p 0) (fun _ (_ : Unit) => True) (fun p _ => I32 p p.xs.length)
def L34 : LoopS V := loopN 2 (fun p : P34 => I34 p 0) (fun _ (_ : Unit) => True) (fun p _ => I34 p p.i)
noncomputable def cfg4 : Cfg Try.prog V := { cfg3 with loops := fun f id => match f, id with | 3, 4 => some L34 | _, _ => none }
noncomputable def cfg5 : Cfg Try.prog V := { cfg3 with loops := fun f id => match f, id with | 3, 0 => some L30 | 3, 2 => some L32 | _, _ => none }
theorem b34 (p : P34) (k : Nat) : runCode cfg3 40 3 (loopOf Try.f3 4) (I34 p k) Out.stop =
  Out.ite (decide ((↑k : Int) < (↑p.i : Int)))
    (Out.ite (firstTo p.xs p.i k)
      (Out.need (0 ≤ (↑k : Int) ∧ (↑k : Int) < (↑p.xs.length : Int))
        (Out.need (0 + k < p.xs.length)
          (Out.need (0 ≤ (↑p.i : Int) ∧ (↑p.i : Int) < (↑p.xs.length : Int))
            (Out.need (0 + (↑p.i : Int).toNat < p.xs.length)
              (Out.stop EX.nx
                {
                  env :=
                    [(13, AV.int IntKind.i64 (IntKind.i64.wrap ((↑k : Int) + 1))), (76, AV.int IntKind.i64 (IntKind.i64.wrap ((↑k : Int) + 1))),
                      (75, AV.int IntKind.i64 (↑k : Int)),
                      (12, AV.bool (p.xs.getD (0 + k) (V.enc Kd.int).dflt != p.xs.getD (0 + (↑p.i : Int).toNat) (V.enc Kd.int).dflt)),
                      (88, AV.bool (p.xs.getD (0 + k) (V.enc Kd.int).dflt != p.xs.getD (0 + (↑p.i : Int).toNat) (V.enc Kd.int).dflt)),
                      (87, AV.bool (p.xs.getD (0 + k) (V.enc Kd.int).dflt != p.xs.getD (0 + (↑p.i : Int).toNat) (V.enc Kd.int).dflt)),
                      (86, AV.int IntKind.i64 (p.xs.getD (0 + (↑p.i : Int).toNat) (V.enc Kd.int).dflt)), (85, AV.ptrR 0 (0 + (↑p.i : Int).toNat) 1 0),
                      (84, AV.int IntKind.i64 (↑p.i : Int)), (83, AV.sl false 0 0 1 p.xs.length p.c),
                      (82, AV.int IntKind.i64 (p.xs.getD (0 + k) (V.enc Kd.int).dflt)), (81, AV.ptrR 0 (0 + k) 1 0), (80, AV.int IntKind.i64 (↑k : Int)),
                      (79, AV.sl false 0 0 1 p.xs.length p.c), (78, AV.tt), (78, AV.bool (firstTo p.xs p.i k)), (77, AV.bool (firstTo p.xs p.i k)),
                      (74, AV.bool (decide ((↑k : Int) < (↑p.i : Int)))), (73, AV.int IntKind.i64 (↑p.i : Int)), (72, AV.int IntKind.i64 (↑k : Int)),
                      (0, AV.sl false 0 0 1 p.xs.length p.c), (5, AV.tt), (6, AV.ptr 1 0), (10, AV.int IntKind.i64 (↑(cntTo p.xs p.i) : Int)),
                      (11, AV.int IntKind.i64 (↑p.i : Int)), (12, AV.bool (firstTo p.xs p.i k)), (13, AV.int IntKind.i64 (↑k : Int))],
                  heap := [(1, Blk.obj (oC (swapTo p.xs p.v p.xs.length))), (0, Blk.ro Kd.int p.xs)], nx := 2, nt := 115, tl := [1, 2, 3, 4, 5] })))))
      (Out.stop EX.nx
        {
          env :=
            [(13, AV.int IntKind.i64 (IntKind.i64.wrap ((↑k : Int) + 1))), (76, AV.int IntKind.i64 (IntKind.i64.wrap ((↑k : Int) + 1))),
              (75, AV.int IntKind.i64 (↑k : Int)), (12, AV.ff), (88, AV.ff), (87, AV.raw undef), (86, AV.raw undef), (85, AV.raw undef), (84, AV.raw undef),
              (83, AV.raw undef), (82, AV.raw undef), (81, AV.raw undef), (80, AV.raw undef), (79, AV.raw undef), (78, AV.ff), (78, AV.bool (firstTo p.xs p.i k)),
              (77, AV.bool (firstTo p.xs p.i k)), (74, AV.bool (decide ((↑k : Int) < (↑p.i : Int)))), (73, AV.int IntKind.i64 (↑p.i : Int)),
              (72, AV.int IntKind.i64 (↑k : Int)), (0, AV.sl false 0 0 1 p.xs.length p.c), (5, AV.tt), (6, AV.ptr 1 0),
              (10, AV.int IntKind.i64 (↑(cntTo p.xs p.i) : Int)), (11, AV.int IntKind.i64 (↑p.i : Int)), (12, AV.bool (firstTo p.xs p.i k)),
              (13, AV.int IntKind.i64 (↑k : Int))],
          heap := [(1, Blk.obj (oC (swapTo p.xs p.v p.xs.length))), (0, Blk.ro Kd.int p.xs)], nx := 2, nt := 115, tl := [1, 2, 3, 4, 5] }))
    (Out.stop (EX.ex 4)
      {
        env :=
          [(74, AV.bool (decide ((↑k : Int) < (↑p.i : Int)))), (73, AV.int IntKind.i64 (↑p.i : Int)), (72, AV.int IntKind.i64 (↑k : Int)),
            (0, AV.sl false 0 0 1 p.xs.length p.c), (5, AV.tt), (6, AV.ptr 1 0), (10, AV.int IntKind.i64 (↑(cntTo p.xs p.i) : Int)),
            (11, AV.int IntKind.i64 (↑p.i : Int)), (12, AV.bool (firstTo p.xs p.i k)), (13, AV.int IntKind.i64 (↑k : Int))],
        heap := [(1, Blk.obj (oC (swapTo p.xs p.v p.xs.length))), (0, Blk.ro Kd.int p.xs)], nx := 2, nt := 115, tl := [1, 2, 3, 4, 5] }) := by kernel_rfl

theorem b30 (p : P3) (i : Nat) : runCode cfg3 40 3 (loopOf Try.f3 0) (I30 p i) Out.stop =
  Out.ite (decide ((↑i : Int) < (↑p.xs.length : Int)))
    (Out.need (0 ≤ (↑i : Int) ∧ (↑i : Int) < (↑p.xs.length : Int))
      (Out.need (0 + i < p.xs.length)
        (Out.need (swapTo p.xs p.v i).room
          (Out.ite (!((swapTo p.xs p.v i).swap (p.xs.getD (0 + i) (V.enc Kd.int).dflt) 0 0 p.v).fst == ((↑i : Int) == 0))
            (Out.stop EX.rt
              {
                env :=
                  [(4, AV.ff), (65, AV.tt), (64, AV.raw undef), (63, AV.raw undef), (62, AV.raw undef), (61, AV.raw undef), (60, AV.raw undef),
                    (59, AV.raw undef), (58, AV.raw undef), (57, AV.raw undef), (56, AV.tt), (55, AV.tt), (54, AV.raw undef), (53, AV.raw undef), (52, AV.tt),
                    (52, AV.bool !((swapTo p.xs p.v i).swap (p.xs.getD (0 + i) (V.enc Kd.int).dflt) 0 0 p.v).fst == ((↑i : Int) == 0)),
                    (51, AV.bool !((swapTo p.xs p.v i).swap (p.xs.getD (0 + i) (V.enc Kd.int).dflt) 0 0 p.v).fst == ((↑i : Int) == 0)),
                    (50, AV.bool ((↑i : Int) == 0)), (49, AV.int IntKind.i64 (↑i : Int)),
                    (48, AV.bool ((swapTo p.xs p.v i).swap (p.xs.getD (0 + i) (V.enc Kd.int).dflt) 0 0 p.v).fst),
                    (9, AV.int IntKind.i64 ((swapTo p.xs p.v i).swap (p.xs.getD (0 + i) (V.enc Kd.int).dflt) 0 0 p.v).snd.fst),
                    (8, AV.bool ((swapTo p.xs p.v i).swap (p.xs.getD (0 + i) (V.enc Kd.int).dflt) 0 0 p.v).fst),
                    (47, AV.int IntKind.i64 ((swapTo p.xs p.v i).swap (p.xs.getD (0 + i) (V.enc Kd.int).dflt) 0 0 p.v).snd.fst),
                    (46, AV.bool ((swapTo p.xs p.v i).swap (p.xs.getD (0 + i) (V.enc Kd.int).dflt) 0 0 p.v).fst),
                    (38,
                      AV.tup
                        [AV.bool ((swapTo p.xs p.v i).swap (p.xs.getD (0 + i) (V.enc Kd.int).dflt) 0 0 p.v).fst,
                          AV.int IntKind.i64 ((swapTo p.xs p.v i).swap (p.xs.getD (0 + i) (V.enc Kd.int).dflt) 0 0 p.v).snd.fst]),
                    (45,
                      AV.tup
                        [AV.bool ((swapTo p.xs p.v i).swap (p.xs.getD (0 + i) (V.enc Kd.int).dflt) 0 0 p.v).fst,
                          AV.int IntKind.i64 ((swapTo p.xs p.v i).swap (p.xs.getD (0 + i) (V.enc Kd.int).dflt) 0 0 p.v).snd.fst]),
                    (44, AV.int IntKind.i64 p.v), (43, AV.int IntKind.i64 (p.xs.getD (0 + i) (V.enc Kd.int).dflt)), (42, AV.ptrR 0 (0 + i) 1 0),
                    (41, AV.int IntKind.i64 (↑i : Int)), (40, AV.sl false 0 0 1 p.xs.length p.c), (39, AV.ptr 1 0),
                    (35, AV.bool (decide ((↑i : Int) < (↑p.xs.length : Int)))), (34, AV.int IntKind.i64 (↑p.xs.length : Int)),
                    (33, AV.sl false 0 0 1 p.xs.length p.c), (32, AV.int IntKind.i64 (↑i : Int)), (0, AV.sl false 0 0 1 p.xs.length p.c),
                    (1, AV.int IntKind.i64 p.v), (5, AV.tt), (6, AV.ptr 1 0), (7, AV.int IntKind.i64 (↑i : Int))],
                heap := [(1, Blk.obj (oC ((swapTo p.xs p.v i).swap (p.xs.getD (0 + i) (V.enc Kd.int).dflt) 0 0 p.v).snd.snd)), (0, Blk.ro Kd.int p.xs)], nx := 2,
                nt := 115, tl := [1, 1, 2, 3, 4, 5] })
            (Out.ite (((swapTo p.xs p.v i).swap (p.xs.getD (0 + i) (V.enc Kd.int).dflt) 0 0 p.v).snd.fst != 0)
              (Out.stop EX.rt
                {
                  env :=
                    [(4, AV.ff), (65, AV.tt), (64, AV.raw undef), (63, AV.raw undef), (62, AV.raw undef), (61, AV.raw undef), (60, AV.raw undef),
                      (59, AV.raw undef), (58, AV.raw undef), (57, AV.raw undef), (56, AV.tt),
                      (56, AV.bool (((swapTo p.xs p.v i).swap (p.xs.getD (0 + i) (V.enc Kd.int).dflt) 0 0 p.v).snd.fst != 0)),
                      (55, AV.bool (((swapTo p.xs p.v i).swap (p.xs.getD (0 + i) (V.enc Kd.int).dflt) 0 0 p.v).snd.fst != 0)),
                      (54, AV.bool (((swapTo p.xs p.v i).swap (p.xs.getD (0 + i) (V.enc Kd.int).dflt) 0 0 p.v).snd.fst != 0)),
                      (53, AV.int IntKind.i64 ((swapTo p.xs p.v i).swap (p.xs.getD (0 + i) (V.enc Kd.int).dflt) 0 0 p.v).snd.fst), (52, AV.ff),
                      (52, AV.bool !((swapTo p.xs p.v i).swap (p.xs.getD (0 + i) (V.enc Kd.int).dflt) 0 0 p.v).fst == ((↑i : Int) == 0)),
                      (51, AV.bool !((swapTo p.xs p.v i).swap (p.xs.getD (0 + i) (V.enc Kd.int).dflt) 0 0 p.v).fst == ((↑i : Int) == 0)),
                      (50, AV.bool ((↑i : Int) == 0)), (49, AV.int IntKind.i64 (↑i : Int)),
                      (48, AV.bool ((swapTo p.xs p.v i).swap (p.xs.getD (0 + i) (V.enc Kd.int).dflt) 0 0 p.v).fst),
                      (9, AV.int IntKind.i64 ((swapTo p.xs p.v i).swap (p.xs.getD (0 + i) (V.enc Kd.int).dflt) 0 0 p.v).snd.fst),
                      (8, AV.bool ((swapTo p.xs p.v i).swap (p.xs.getD (0 + i) (V.enc Kd.int).dflt) 0 0 p.v).fst),
                      (47, AV.int IntKind.i64 ((swapTo p.xs p.v i).swap (p.xs.getD (0 + i) (V.enc Kd.int).dflt) 0 0 p.v).snd.fst),
                      (46, AV.bool ((swapTo p.xs p.v i).swap (p.xs.getD (0 + i) (V.enc Kd.int).dflt) 0 0 p.v).fst),
                      (38,
                        AV.tup
                          [AV.bool ((swapTo p.xs p.v i).swap (p.xs.getD (0 + i) (V.enc Kd.int).dflt) 0 0 p.v).fst,
                            AV.int IntKind.i64 ((swapTo p.xs p.v i).swap (p.xs.getD (0 + i) (V.enc Kd.int).dflt) 0 0 p.v).snd.fst]),
                      (45,
                        AV.tup
                          [AV.bool ((swapTo p.xs p.v i).swap (p.xs.getD (0 + i) (V.enc Kd.int).dflt) 0 0 p.v).fst,
                            AV.int IntKind.i64 ((swapTo p.xs p.v i).swap (p.xs.getD (0 + i) (V.enc Kd.int).dflt) 0 0 p.v).snd.fst]),
                      (44, AV.int IntKind.i64 p.v), (43, AV.int IntKind.i64 (p.xs.getD (0 + i) (V.enc Kd.int).dflt)), (42, AV.ptrR 0 (0 + i) 1 0),
                      (41, AV.int IntKind.i64 (↑i : Int)), (40, AV.sl false 0 0 1 p.xs.length p.c), (39, AV.ptr 1 0),
                      (35, AV.bool (decide ((↑i : Int) < (↑p.xs.length : Int)))), (34, AV.int IntKind.i64 (↑p.xs.length : Int)),
                      (33, AV.sl false 0 0 1 p.xs.length p.c), (32, AV.int IntKind.i64 (↑i : Int)), (0, AV.sl false 0 0 1 p.xs.length p.c),
                      (1, AV.int IntKind.i64 p.v), (5, AV.tt), (6, AV.ptr 1 0), (7, AV.int IntKind.i64 (↑i : Int))],
                  heap := [(1, Blk.obj (oC ((swapTo p.xs p.v i).swap (p.xs.getD (0 + i) (V.enc Kd.int).dflt) 0 0 p.v).snd.snd)), (0, Blk.ro Kd.int p.xs)],
                  nx := 2, nt := 115, tl := [1, 1, 2, 3, 4, 5] })
              (Out.need (0 ≤ (↑i : Int) ∧ (↑i : Int) < (↑p.xs.length : Int))
                (Out.need (0 + i < p.xs.length)
                  (Out.need ((swapTo p.xs p.v i).swap (p.xs.getD (0 + i) (V.enc Kd.int).dflt) 0 0 p.v).snd.snd.room
                    (Out.ite
                      ((((swapTo p.xs p.v i).swap (p.xs.getD (0 + i) (V.enc Kd.int).dflt) 0 0 p.v).snd.snd.take (p.xs.getD (0 + i) (V.enc Kd.int).dflt) (↑i : Int)
                              4).snd.fst !=
                        0)
                      (Out.stop EX.rt
                        {
                          env :=
                            [(4, AV.ff),
                              (65,
                                AV.bool
                                  ((((swapTo p.xs p.v i).swap (p.xs.getD (0 + i) (V.enc Kd.int).dflt) 0 0 p.v).snd.snd.take
                                          (p.xs.getD (0 + i) (V.enc Kd.int).dflt) (↑i : Int) 4).snd.fst !=
                                    0)),
                              (64,
                                AV.bool
                                  ((((swapTo p.xs p.v i).swap (p.xs.getD (0 + i) (V.enc Kd.int).dflt) 0 0 p.v).snd.snd.take
                                          (p.xs.getD (0 + i) (V.enc Kd.int).dflt) (↑i : Int) 4).snd.fst !=
                                    0)),
                              (63,
                                AV.int IntKind.i64
                                  (((swapTo p.xs p.v i).swap (p.xs.getD (0 + i) (V.enc Kd.int).dflt) 0 0 p.v).snd.snd.take (p.xs.getD (0 + i) (V.enc Kd.int).dflt)
                                        (↑i : Int) 4).snd.fst),
                              (62, AV.int IntKind.i64 (↑i : Int)), (61, AV.int IntKind.i64 (p.xs.getD (0 + i) (V.enc Kd.int).dflt)), (60, AV.ptrR 0 (0 + i) 1 0),
                              (59, AV.int IntKind.i64 (↑i : Int)), (58, AV.sl false 0 0 1 p.xs.length p.c), (57, AV.ptr 1 0), (56, AV.ff),
                              (56, AV.bool (((swapTo p.xs p.v i).swap (p.xs.getD (0 + i) (V.enc Kd.int).dflt) 0 0 p.v).snd.fst != 0)),
                              (55, AV.bool (((swapTo p.xs p.v i).swap (p.xs.getD (0 + i) (V.enc Kd.int).dflt) 0 0 p.v).snd.fst != 0)),
                              (54, AV.bool (((swapTo p.xs p.v i).swap (p.xs.getD (0 + i) (V.enc Kd.int).dflt) 0 0 p.v).snd.fst != 0)),
                              (53, AV.int IntKind.i64 ((swapTo p.xs p.v i).swap (p.xs.getD (0 + i) (V.enc Kd.int).dflt) 0 0 p.v).snd.fst), (52, AV.ff),
                              (52, AV.bool !((swapTo p.xs p.v i).swap (p.xs.getD (0 + i) (V.enc Kd.int).dflt) 0 0 p.v).fst == ((↑i : Int) == 0)),
                              (51, AV.bool !((swapTo p.xs p.v i).swap (p.xs.getD (0 + i) (V.enc Kd.int).dflt) 0 0 p.v).fst == ((↑i : Int) == 0)),
                              (50, AV.bool ((↑i : Int) == 0)), (49, AV.int IntKind.i64 (↑i : Int)),
                              (48, AV.bool ((swapTo p.xs p.v i).swap (p.xs.getD (0 + i) (V.enc Kd.int).dflt) 0 0 p.v).fst),
                              (9, AV.int IntKind.i64 ((swapTo p.xs p.v i).swap (p.xs.getD (0 + i) (V.enc Kd.int).dflt) 0 0 p.v).snd.fst),
                              (8, AV.bool ((swapTo p.xs p.v i).swap (p.xs.getD (0 + i) (V.enc Kd.int).dflt) 0 0 p.v).fst),
                              (47, AV.int IntKind.i64 ((swapTo p.xs p.v i).swap (p.xs.getD (0 + i) (V.enc Kd.int).dflt) 0 0 p.v).snd.fst),
                              (46, AV.bool ((swapTo p.xs p.v i).swap (p.xs.getD (0 + i) (V.enc Kd.int).dflt) 0 0 p.v).fst),
                              (38,
                                AV.tup
                                  [AV.bool ((swapTo p.xs p.v i).swap (p.xs.getD (0 + i) (V.enc Kd.int).dflt) 0 0 p.v).fst,
                                    AV.int IntKind.i64 ((swapTo p.xs p.v i).swap (p.xs.getD (0 + i) (V.enc Kd.int).dflt) 0 0 p.v).snd.fst]),
                              (45,
                                AV.tup
                                  [AV.bool ((swapTo p.xs p.v i).swap (p.xs.getD (0 + i) (V.enc Kd.int).dflt) 0 0 p.v).fst,
                                    AV.int IntKind.i64 ((swapTo p.xs p.v i).swap (p.xs.getD (0 + i) (V.enc Kd.int).dflt) 0 0 p.v).snd.fst]),
                              (44, AV.int IntKind.i64 p.v), (43, AV.int IntKind.i64 (p.xs.getD (0 + i) (V.enc Kd.int).dflt)), (42, AV.ptrR 0 (0 + i) 1 0),
                              (41, AV.int IntKind.i64 (↑i : Int)), (40, AV.sl false 0 0 1 p.xs.length p.c), (39, AV.ptr 1 0),
                              (35, AV.bool (decide ((↑i : Int) < (↑p.xs.length : Int)))), (34, AV.int IntKind.i64 (↑p.xs.length : Int)),
                              (33, AV.sl false 0 0 1 p.xs.length p.c), (32, AV.int IntKind.i64 (↑i : Int)), (0, AV.sl false 0 0 1 p.xs.length p.c),
                              (1, AV.int IntKind.i64 p.v), (5, AV.tt), (6, AV.ptr 1 0), (7, AV.int IntKind.i64 (↑i : Int))],
                          heap :=
                            [(1,
                                Blk.obj
                                  (oC
                                    (((swapTo p.xs p.v i).swap (p.xs.getD (0 + i) (V.enc Kd.int).dflt) 0 0 p.v).snd.snd.take
                                          (p.xs.getD (0 + i) (V.enc Kd.int).dflt) (↑i : Int) 4).snd.snd)),
                              (0, Blk.ro Kd.int p.xs)],
                          nx := 2, nt := 115, tl := [1, 1, 1, 2, 3, 4, 5] })
                      (Out.stop EX.nx
                        {
                          env :=
                            [(7, AV.int IntKind.i64 (IntKind.i64.wrap ((↑i : Int) + 1))), (37, AV.int IntKind.i64 (IntKind.i64.wrap ((↑i : Int) + 1))),
                              (36, AV.int IntKind.i64 (↑i : Int)),
                              (65,
                                AV.bool
                                  ((((swapTo p.xs p.v i).swap (p.xs.getD (0 + i) (V.enc Kd.int).dflt) 0 0 p.v).snd.snd.take
                                          (p.xs.getD (0 + i) (V.enc Kd.int).dflt) (↑i : Int) 4).snd.fst !=
                                    0)),
                              (64,
                                AV.bool
                                  ((((swapTo p.xs p.v i).swap (p.xs.getD (0 + i) (V.enc Kd.int).dflt) 0 0 p.v).snd.snd.take
                                          (p.xs.getD (0 + i) (V.enc Kd.int).dflt) (↑i : Int) 4).snd.fst !=
                                    0)),
                              (63,
                                AV.int IntKind.i64
                                  (((swapTo p.xs p.v i).swap (p.xs.getD (0 + i) (V.enc Kd.int).dflt) 0 0 p.v).snd.snd.take (p.xs.getD (0 + i) (V.enc Kd.int).dflt)
                                        (↑i : Int) 4).snd.fst),
                              (62, AV.int IntKind.i64 (↑i : Int)), (61, AV.int IntKind.i64 (p.xs.getD (0 + i) (V.enc Kd.int).dflt)), (60, AV.ptrR 0 (0 + i) 1 0),
                              (59, AV.int IntKind.i64 (↑i : Int)), (58, AV.sl false 0 0 1 p.xs.length p.c), (57, AV.ptr 1 0), (56, AV.ff),
                              (56, AV.bool (((swapTo p.xs p.v i).swap (p.xs.getD (0 + i) (V.enc Kd.int).dflt) 0 0 p.v).snd.fst != 0)),
                              (55, AV.bool (((swapTo p.xs p.v i).swap (p.xs.getD (0 + i) (V.enc Kd.int).dflt) 0 0 p.v).snd.fst != 0)),
                              (54, AV.bool (((swapTo p.xs p.v i).swap (p.xs.getD (0 + i) (V.enc Kd.int).dflt) 0 0 p.v).snd.fst != 0)),
                              (53, AV.int IntKind.i64 ((swapTo p.xs p.v i).swap (p.xs.getD (0 + i) (V.enc Kd.int).dflt) 0 0 p.v).snd.fst), (52, AV.ff),
                              (52, AV.bool !((swapTo p.xs p.v i).swap (p.xs.getD (0 + i) (V.enc Kd.int).dflt) 0 0 p.v).fst == ((↑i : Int) == 0)),
                              (51, AV.bool !((swapTo p.xs p.v i).swap (p.xs.getD (0 + i) (V.enc Kd.int).dflt) 0 0 p.v).fst == ((↑i : Int) == 0)),
                              (50, AV.bool ((↑i : Int) == 0)), (49, AV.int IntKind.i64 (↑i : Int)),
                              (48, AV.bool ((swapTo p.xs p.v i).swap (p.xs.getD (0 + i) (V.enc Kd.int).dflt) 0 0 p.v).fst),
                              (9, AV.int IntKind.i64 ((swapTo p.xs p.v i).swap (p.xs.getD (0 + i) (V.enc Kd.int).dflt) 0 0 p.v).snd.fst),
                              (8, AV.bool ((swapTo p.xs p.v i).swap (p.xs.getD (0 + i) (V.enc Kd.int).dflt) 0 0 p.v).fst),
                              (47, AV.int IntKind.i64 ((swapTo p.xs p.v i).swap (p.xs.getD (0 + i) (V.enc Kd.int).dflt) 0 0 p.v).snd.fst),
                              (46, AV.bool ((swapTo p.xs p.v i).swap (p.xs.getD (0 + i) (V.enc Kd.int).dflt) 0 0 p.v).fst),
                              (38,
                                AV.tup
                                  [AV.bool ((swapTo p.xs p.v i).swap (p.xs.getD (0 + i) (V.enc Kd.int).dflt) 0 0 p.v).fst,
                                    AV.int IntKind.i64 ((swapTo p.xs p.v i).swap (p.xs.getD (0 + i) (V.enc Kd.int).dflt) 0 0 p.v).snd.fst]),
                              (45,
                                AV.tup
                                  [AV.bool ((swapTo p.xs p.v i).swap (p.xs.getD (0 + i) (V.enc Kd.int).dflt) 0 0 p.v).fst,
                                    AV.int IntKind.i64 ((swapTo p.xs p.v i).swap (p.xs.getD (0 + i) (V.enc Kd.int).dflt) 0 0 p.v).snd.fst]),
                              (44, AV.int IntKind.i64 p.v), (43, AV.int IntKind.i64 (p.xs.getD (0 + i) (V.enc Kd.int).dflt)), (42, AV.ptrR 0 (0 + i) 1 0),
                              (41, AV.int IntKind.i64 (↑i : Int)), (40, AV.sl false 0 0 1 p.xs.length p.c), (39, AV.ptr 1 0),
                              (35, AV.bool (decide ((↑i : Int) < (↑p.xs.length : Int)))), (34, AV.int IntKind.i64 (↑p.xs.length : Int)),
                              (33, AV.sl false 0 0 1 p.xs.length p.c), (32, AV.int IntKind.i64 (↑i : Int)), (0, AV.sl false 0 0 1 p.xs.length p.c),
                              (1, AV.int IntKind.i64 p.v), (5, AV.tt), (6, AV.ptr 1 0), (7, AV.int IntKind.i64 (↑i : Int))],
                          heap :=
                            [(1,
                                Blk.obj
                                  (oC
                                    (((swapTo p.xs p.v i).swap (p.xs.getD (0 + i) (V.enc Kd.int).dflt) 0 0 p.v).snd.snd.take
                                          (p.xs.getD (0 + i) (V.enc Kd.int).dflt) (↑i : Int) 4).snd.snd)),
                              (0, Blk.ro Kd.int p.xs)],
                          nx := 2, nt := 115, tl := [1, 1, 1, 2, 3, 4, 5] }))))))))))
    (Out.stop (EX.ex 0)
      {
        env :=
          [(35, AV.bool (decide ((↑i : Int) < (↑p.xs.length : Int)))), (34, AV.int IntKind.i64 (↑p.xs.length : Int)), (33, AV.sl false 0 0 1 p.xs.length p.c),
            (32, AV.int IntKind.i64 (↑i : Int)), (0, AV.sl false 0 0 1 p.xs.length p.c), (1, AV.int IntKind.i64 p.v), (5, AV.tt), (6, AV.ptr 1 0),
            (7, AV.int IntKind.i64 (↑i : Int))],
        heap := [(1, Blk.obj (oC (swapTo p.xs p.v i))), (0, Blk.ro Kd.int p.xs)], nx := 2, nt := 115, tl := [1, 2, 3, 4, 5] }) := by kernel_rfl

theorem b32 (p : P3) (i : Nat) : runCode cfg4 40 3 (loopOf Try.f3 2) (I32 p i) Out.stop =
  Out.ite (decide ((↑i : Int) < (↑p.xs.length : Int)))
    (Out.need (LoopFor Try.prog 3 4 (loopOf Try.f3 4) L34)
      (Out.ex P34 fun y =>
        Out.ex (List (Nat × Nat)) fun y_1 =>
          Out.need
            (2 ≤ 2 ∧
              Wk 2 y_1
                {
                  env :=
                    [(13, AV.lit IntKind.i64 0), (12, AV.tt), (69, AV.bool (decide ((↑i : Int) < (↑p.xs.length : Int)))),
                      (68, AV.int IntKind.i64 (↑p.xs.length : Int)), (67, AV.sl false 0 0 1 p.xs.length p.c), (66, AV.int IntKind.i64 (↑i : Int)),
                      (0, AV.sl false 0 0 1 p.xs.length p.c), (5, AV.tt), (6, AV.ptr 1 0), (10, AV.int IntKind.i64 (↑(cntTo p.xs i) : Int)),
                      (11, AV.int IntKind.i64 (↑i : Int))],
                  heap := [(1, Blk.obj (oC (swapTo p.xs p.v p.xs.length))), (0, Blk.ro Kd.int p.xs)], nx := 2, nt := 115, tl := [1, 2, 3, 4, 5] }
                ((fun p => I34 p 0) y))
            (Out.all Unit fun y_2 =>
              Out.asm ((fun x x_1 => True) y y_2)
                (Out.ite (firstTo y.xs y.i y.i)
                  (Out.need (0 ≤ (↑y.i : Int) ∧ (↑y.i : Int) < (↑y.xs.length : Int))
                    (Out.need (0 + (↑y.i : Int).toNat < y.xs.length)
                      (Out.need ((swapTo y.xs y.v y.xs.length).locks.length ≤ 1099511627776)
                        (Out.all Nat fun y_3 =>
                          Out.stop EX.nx
                            {
                              env :=
                                [(11, AV.int IntKind.i64 (IntKind.i64.wrap ((↑y.i : Int) + 1))), (71, AV.int IntKind.i64 (IntKind.i64.wrap ((↑y.i : Int) + 1))),
                                  (70, AV.int IntKind.i64 (↑y.i : Int)),
                                  (10,
                                    AV.int IntKind.i64
                                      (IntKind.i64.wrap
                                        ((↑(cntTo y.xs y.i) : Int) +
                                          (↑((swapTo y.xs y.v y.xs.length).held (y.xs.getD (0 + (↑y.i : Int).toNat) (V.enc Kd.int).dflt)).length : Int)))),
                                  (98,
                                    AV.int IntKind.i64
                                      (IntKind.i64.wrap
                                        ((↑(cntTo y.xs y.i) : Int) +
                                          (↑((swapTo y.xs y.v y.xs.length).held (y.xs.getD (0 + (↑y.i : Int).toNat) (V.enc Kd.int).dflt)).length : Int)))),
                                  (97,
                                    AV.int IntKind.i64
                                      (↑((swapTo y.xs y.v y.xs.length).held (y.xs.getD (0 + (↑y.i : Int).toNat) (V.enc Kd.int).dflt)).length : Int)),
                                  (96,
                                    AV.sl false 2 0 1 ((swapTo y.xs y.v y.xs.length).held (y.xs.getD (0 + (↑y.i : Int).toNat) (V.enc Kd.int).dflt)).length
                                      (((swapTo y.xs y.v y.xs.length).held (y.xs.getD (0 + (↑y.i : Int).toNat) (V.enc Kd.int).dflt)).length + y_3)),
                                  (95, AV.int IntKind.i64 (y.xs.getD (0 + (↑y.i : Int).toNat) (V.enc Kd.int).dflt)), (94, AV.ptrR 0 (0 + (↑y.i : Int).toNat) 1 0),
                                  (93, AV.int IntKind.i64 (↑y.i : Int)), (92, AV.sl false 0 0 1 y.xs.length y.c), (91, AV.ptr 1 0),
                                  (90, AV.int IntKind.i64 (↑(cntTo y.xs y.i) : Int)), (89, AV.bool (firstTo y.xs y.i y.i)),
                                  (0, AV.sl false 0 0 1 y.xs.length y.c), (5, AV.tt), (6, AV.ptr 1 0), (10, AV.int IntKind.i64 (↑(cntTo y.xs y.i) : Int)),
                                  (11, AV.int IntKind.i64 (↑y.i : Int)), (12, AV.bool (firstTo y.xs y.i y.i)), (13, AV.int IntKind.i64 (↑y.i : Int))],
                              heap :=
                                [(2, Blk.arr 3 Kd.int ((swapTo y.xs y.v y.xs.length).held (y.xs.getD (0 + (↑y.i : Int).toNat) (V.enc Kd.int).dflt)) y_3),
                                  (1, Blk.obj (oC (swapTo y.xs y.v y.xs.length))), (0, Blk.ro Kd.int y.xs)],
                              nx := 3, nt := 115, tl := [1, 1, 2, 3, 4, 5] }))))
                  (Out.stop EX.nx
                    {
                      env :=
                        [(11, AV.int IntKind.i64 (IntKind.i64.wrap ((↑y.i : Int) + 1))), (71, AV.int IntKind.i64 (IntKind.i64.wrap ((↑y.i : Int) + 1))),
                          (70, AV.int IntKind.i64 (↑y.i : Int)), (89, AV.bool (firstTo y.xs y.i y.i)), (0, AV.sl false 0 0 1 y.xs.length y.c), (5, AV.tt),
                          (6, AV.ptr 1 0), (10, AV.int IntKind.i64 (↑(cntTo y.xs y.i) : Int)), (11, AV.int IntKind.i64 (↑y.i : Int)),
                          (12, AV.bool (firstTo y.xs y.i y.i)), (13, AV.int IntKind.i64 (↑y.i : Int))],
                      heap := [(1, Blk.obj (oC (swapTo y.xs y.v y.xs.length))), (0, Blk.ro Kd.int y.xs)], nx := 2, nt := 115, tl := [1, 2, 3, 4, 5] })))))
    (Out.stop (EX.ex 2)
      {
        env :=
          [(69, AV.bool (decide ((↑i : Int) < (↑p.xs.length : Int)))), (68, AV.int IntKind.i64 (↑p.xs.length : Int)), (67, AV.sl false 0 0 1 p.xs.length p.c),
            (66, AV.int IntKind.i64 (↑i : Int)), (0, AV.sl false 0 0 1 p.xs.length p.c), (5, AV.tt), (6, AV.ptr 1 0),
            (10, AV.int IntKind.i64 (↑(cntTo p.xs i) : Int)), (11, AV.int IntKind.i64 (↑i : Int))],
        heap := [(1, Blk.obj (oC (swapTo p.xs p.v p.xs.length))), (0, Blk.ro Kd.int p.xs)], nx := 2, nt := 115, tl := [1, 2, 3, 4, 5] }) := by kernel_rfl

theorem t3 (xs : List Int) (c : Nat) (v : Int) : runL cfg5 60 3 Try.f3 [.sl false 0 0 1 xs.length c, .int .i64 v] [(0, .ro Kd.int xs)] 1 =
  Out.ite (decide ((↑xs.length : Int) > 50)) (Out.fin AV.tt [] 0)
    (Out.ite (v == 0) (Out.fin AV.tt [] 0)
      (Out.need (LoopFor Try.prog 3 0 (loopOf Try.f3 0) L30)
        (Out.ex P3 fun y =>
          Out.ex (List (Nat × Nat)) fun y_1 =>
            Out.need
              (2 ≤ 2 ∧
                Wk 2 y_1
                  {
                    env :=
                      [(7, AV.lit IntKind.i64 0), (26, AV.bool (v == 0)), (25, AV.bool (v == 0)), (24, AV.int IntKind.i64 v), (23, AV.ff),
                        (23, AV.bool (decide ((↑xs.length : Int) > 50))), (22, AV.bool (decide ((↑xs.length : Int) > 50))),
                        (21, AV.bool (decide ((↑xs.length : Int) > 50))), (20, AV.int IntKind.i64 (↑xs.length : Int)), (19, AV.sl false 0 0 1 xs.length c),
                        (18, AV.ff), (17, AV.ff), (16, AV.ptr 1 0), (6, AV.ptr 1 0), (15, AV.ptr 1 0), (5, AV.tt), (14, AV.tt), (4, AV.ff),
                        (0, AV.sl false 0 0 1 xs.length c), (1, AV.int IntKind.i64 v)],
                    heap := [(1, Blk.obj (oC (MC.mk0 1 60))), (0, Blk.ro Kd.int xs)], nx := 2, nt := 115, tl := [] }
                  ((fun p => I30 p 0) y))
              (Out.all Unit fun y_2 =>
                Out.asm ((fun x x_1 => True) y y_2)
                  (Out.need (LoopFor Try.prog 3 2 (loopOf Try.f3 2) L32)
                    (Out.ex P3 fun y_3 =>
                      Out.ex (List (Nat × Nat)) fun y_4 =>
                        Out.need
                          (2 ≤ 2 ∧
                            Wk 2 y_4
                              {
                                env :=
                                  [(11, AV.lit IntKind.i64 0), (10, AV.lit IntKind.i64 0), (0, AV.sl false 0 0 1 y.xs.length y.c), (1, AV.int IntKind.i64 y.v),
                                    (5, AV.tt), (6, AV.ptr 1 0), (7, AV.int IntKind.i64 (↑y.xs.length : Int))],
                                heap := [(1, Blk.obj (oC (swapTo y.xs y.v y.xs.length))), (0, Blk.ro Kd.int y.xs)], nx := 2, nt := 115, tl := [1, 2, 3, 4, 5] }
                              ((fun p => I32 p 0) y_3))
                          (Out.all Unit fun y =>
                            Out.asm ((fun x x_1 => True) y_3 y)
                              (Out.ite ((↑(cntTo y_3.xs y_3.xs.length) : Int) == (↑y_3.xs.length : Int))
                                (Out.need (swapTo y_3.xs y_3.v y_3.xs.length).room
                                  (Out.all Nat fun y =>
                                    Out.fin (AV.bool ((↑(swapTo y_3.xs y_3.v y_3.xs.length).log.length : Int) == IntKind.i64.wrap (2 * (↑y_3.xs.length : Int))))
                                      [] 0))
                                (Out.fin AV.ff [] 0))))))))) := by kernel_rfl

end Sx
end Go.Proofs.Ytjackepkphdibaa
