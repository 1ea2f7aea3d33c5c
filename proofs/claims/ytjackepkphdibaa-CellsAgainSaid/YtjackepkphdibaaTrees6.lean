/-
  Who holds what, in the document's Cells: the runs of the machine.
-/
import Derived.Test.YtjackepkphdibaaGhost
namespace Go.Proofs.Ytjackepkphdibaa
namespace Sx
open Go
set_option maxRecDepth 100000
set_option linter.unusedVariables false

def heldToR (s : MR) (t : Int) (i : Nat) : List Int := ((List.range i).filter (fun k => s.h.getD k false && decide (s.t.getD k 0 = t))).map Int.ofNat
def MR.held (s : MR) (t : Int) : List Int := heldToR s t s.h.length
structure P20 where
  s : MR
  sw : Nat
  sh : Nat
  st : Nat
  sl : Nat
  t : Int
  hb : s.h.length ≤ 1099511627776
  ht : s.t.length = s.h.length
def I20 (p : P20) (x : Nat × Nat) : St V :=
  ⟨[(0, .ptr 0 0), (1, .int .i64 p.t), (5, .sl false 6 0 1 (heldToR p.s p.t x.1).length ((heldToR p.s p.t x.1).length + x.2)), (6, .int .i64 (x.1 : Int))],
   rUp p.s p.sw p.sh p.st p.sl ++ [(6, .arr 3 Kd.int (heldToR p.s p.t x.1) x.2)], 7, 39, [6, 7, 8, 9, 10, 11]⟩
def L20 : LoopS V := loopN 6 (fun p : P20 => I20 p (0, 0)) (fun p x => p.s.h.length ≤ x.1) I20
noncomputable def cfg8 : Cfg Try.prog V := { cfg0 with loops := fun f id => match f, id with | 20, 0 => some L20 | _, _ => none }
theorem b20 (p : P20) (x : Nat × Nat) : runCode cfg0 40 20 (loopOf Try.f20 0) (I20 p x) Out.stop =
  Out.ite (decide ((↑x.fst : Int) < (↑p.s.h.length : Int)))
    (Out.need (0 ≤ (↑x.fst : Int) ∧ (↑x.fst : Int) < (↑p.s.h.length : Int))
      (Out.need (0 + (↑x.fst : Int).toNat < p.s.h.length)
        (Out.ite (p.s.h.getD (0 + (↑x.fst : Int).toNat) (V.enc Kd.bool).dflt)
          (Out.need (0 ≤ (↑x.fst : Int) ∧ (↑x.fst : Int) < (↑p.s.t.length : Int))
            (Out.need (0 + (↑x.fst : Int).toNat < p.s.t.length)
              (Out.ite (p.s.t.getD (0 + (↑x.fst : Int).toNat) (V.enc Kd.int).dflt == p.t)
                (Out.need
                  (0 = 0 ∧
                    (heldToR p.s p.t x.fst).length = (heldToR p.s p.t x.fst).length ∧
                      (heldToR p.s p.t x.fst).length + x.snd = (heldToR p.s p.t x.fst).length + x.snd ∧
                        ((heldToR p.s p.t x.fst).length + 1) * 8 ≤ 140737488355328)
                  (Out.all Nat fun y =>
                    Out.stop EX.nx
                      {
                        env :=
                          [(6, AV.int IntKind.i64 (IntKind.i64.wrap ((↑x.fst : Int) + 1))), (15, AV.int IntKind.i64 (IntKind.i64.wrap ((↑x.fst : Int) + 1))),
                            (14, AV.int IntKind.i64 (↑x.fst : Int)),
                            (5, AV.sl false 8 0 1 ((heldToR p.s p.t x.fst).length + 1) ((heldToR p.s p.t x.fst).length + 1 + y)),
                            (37, AV.sl false 8 0 1 ((heldToR p.s p.t x.fst).length + 1) ((heldToR p.s p.t x.fst).length + 1 + y)), (36, AV.sl true 7 0 1 1 1),
                            (35, AV.int IntKind.i64 (↑x.fst : Int)),
                            (34, AV.sl false 6 0 1 (heldToR p.s p.t x.fst).length ((heldToR p.s p.t x.fst).length + x.snd)),
                            (33, AV.bool (p.s.t.getD (0 + (↑x.fst : Int).toNat) (V.enc Kd.int).dflt == p.t)),
                            (32, AV.bool (p.s.t.getD (0 + (↑x.fst : Int).toNat) (V.enc Kd.int).dflt == p.t)), (31, AV.int IntKind.i64 p.t),
                            (30, AV.int IntKind.i64 (p.s.t.getD (0 + (↑x.fst : Int).toNat) (V.enc Kd.int).dflt)), (29, AV.ptrR 3 (0 + (↑x.fst : Int).toNat) 1 0),
                            (28, AV.int IntKind.i64 (↑x.fst : Int)), (27, AV.sl false 3 0 1 p.s.t.length (p.s.t.length + p.st)), (26, AV.ptr 0 2),
                            (25, AV.ptr 0 0), (24, AV.ptr 0 0), (23, AV.tt), (23, AV.bool (p.s.h.getD (0 + (↑x.fst : Int).toNat) (V.enc Kd.bool).dflt)),
                            (22, AV.bool (p.s.h.getD (0 + (↑x.fst : Int).toNat) (V.enc Kd.bool).dflt)), (21, AV.ptrR 2 (0 + (↑x.fst : Int).toNat) 1 0),
                            (20, AV.int IntKind.i64 (↑x.fst : Int)), (19, AV.sl false 2 0 1 p.s.h.length (p.s.h.length + p.sh)), (18, AV.ptr 0 1),
                            (17, AV.ptr 0 0), (16, AV.ptr 0 0), (13, AV.bool (decide ((↑x.fst : Int) < (↑p.s.h.length : Int)))),
                            (12, AV.int IntKind.i64 (↑p.s.h.length : Int)), (11, AV.sl false 2 0 1 p.s.h.length (p.s.h.length + p.sh)), (10, AV.ptr 0 1),
                            (9, AV.ptr 0 0), (8, AV.ptr 0 0), (7, AV.int IntKind.i64 (↑x.fst : Int)), (0, AV.ptr 0 0), (1, AV.int IntKind.i64 p.t),
                            (5, AV.sl false 6 0 1 (heldToR p.s p.t x.fst).length ((heldToR p.s p.t x.fst).length + x.snd)),
                            (6, AV.int IntKind.i64 (↑x.fst : Int))],
                        heap :=
                          [(8, Blk.arr 3 Kd.int (heldToR p.s p.t x.fst ++ [(↑x.fst : Int)]) y), (7, Blk.cells 3 [AV.int IntKind.i64 (↑x.fst : Int)]),
                            (0,
                              Blk.cells 43
                                [AV.sl false 1 0 1 p.s.w.length (p.s.w.length + p.sw), AV.sl false 2 0 1 p.s.h.length (p.s.h.length + p.sh),
                                  AV.sl false 3 0 1 p.s.t.length (p.s.t.length + p.st), AV.sl false 4 0 5 p.s.l.length (p.s.l.length + p.sl)]),
                            (1, Blk.arr 3 Kd.int p.s.w p.sw), (2, Blk.arr 4 Kd.bool p.s.h p.sh), (3, Blk.arr 3 Kd.int p.s.t p.st),
                            (4, Blk.arr 45 Kd.deed p.s.l p.sl)],
                        nx := 9, nt := 39, tl := [6, 6, 7, 8, 9, 10, 11] }))
                (Out.stop EX.nx
                  {
                    env :=
                      [(6, AV.int IntKind.i64 (IntKind.i64.wrap ((↑x.fst : Int) + 1))), (15, AV.int IntKind.i64 (IntKind.i64.wrap ((↑x.fst : Int) + 1))),
                        (14, AV.int IntKind.i64 (↑x.fst : Int)), (33, AV.bool (p.s.t.getD (0 + (↑x.fst : Int).toNat) (V.enc Kd.int).dflt == p.t)),
                        (32, AV.bool (p.s.t.getD (0 + (↑x.fst : Int).toNat) (V.enc Kd.int).dflt == p.t)), (31, AV.int IntKind.i64 p.t),
                        (30, AV.int IntKind.i64 (p.s.t.getD (0 + (↑x.fst : Int).toNat) (V.enc Kd.int).dflt)), (29, AV.ptrR 3 (0 + (↑x.fst : Int).toNat) 1 0),
                        (28, AV.int IntKind.i64 (↑x.fst : Int)), (27, AV.sl false 3 0 1 p.s.t.length (p.s.t.length + p.st)), (26, AV.ptr 0 2), (25, AV.ptr 0 0),
                        (24, AV.ptr 0 0), (23, AV.tt), (23, AV.bool (p.s.h.getD (0 + (↑x.fst : Int).toNat) (V.enc Kd.bool).dflt)),
                        (22, AV.bool (p.s.h.getD (0 + (↑x.fst : Int).toNat) (V.enc Kd.bool).dflt)), (21, AV.ptrR 2 (0 + (↑x.fst : Int).toNat) 1 0),
                        (20, AV.int IntKind.i64 (↑x.fst : Int)), (19, AV.sl false 2 0 1 p.s.h.length (p.s.h.length + p.sh)), (18, AV.ptr 0 1), (17, AV.ptr 0 0),
                        (16, AV.ptr 0 0), (13, AV.bool (decide ((↑x.fst : Int) < (↑p.s.h.length : Int)))), (12, AV.int IntKind.i64 (↑p.s.h.length : Int)),
                        (11, AV.sl false 2 0 1 p.s.h.length (p.s.h.length + p.sh)), (10, AV.ptr 0 1), (9, AV.ptr 0 0), (8, AV.ptr 0 0),
                        (7, AV.int IntKind.i64 (↑x.fst : Int)), (0, AV.ptr 0 0), (1, AV.int IntKind.i64 p.t),
                        (5, AV.sl false 6 0 1 (heldToR p.s p.t x.fst).length ((heldToR p.s p.t x.fst).length + x.snd)), (6, AV.int IntKind.i64 (↑x.fst : Int))],
                    heap :=
                      [(0,
                          Blk.cells 43
                            [AV.sl false 1 0 1 p.s.w.length (p.s.w.length + p.sw), AV.sl false 2 0 1 p.s.h.length (p.s.h.length + p.sh),
                              AV.sl false 3 0 1 p.s.t.length (p.s.t.length + p.st), AV.sl false 4 0 5 p.s.l.length (p.s.l.length + p.sl)]),
                        (1, Blk.arr 3 Kd.int p.s.w p.sw), (2, Blk.arr 4 Kd.bool p.s.h p.sh), (3, Blk.arr 3 Kd.int p.s.t p.st), (4, Blk.arr 45 Kd.deed p.s.l p.sl),
                        (6, Blk.arr 3 Kd.int (heldToR p.s p.t x.fst) x.snd)],
                    nx := 7, nt := 39, tl := [6, 7, 8, 9, 10, 11] }))))
          (Out.stop EX.nx
            {
              env :=
                [(6, AV.int IntKind.i64 (IntKind.i64.wrap ((↑x.fst : Int) + 1))), (15, AV.int IntKind.i64 (IntKind.i64.wrap ((↑x.fst : Int) + 1))),
                  (14, AV.int IntKind.i64 (↑x.fst : Int)), (33, AV.ff), (32, AV.raw undef), (31, AV.raw undef), (30, AV.raw undef), (29, AV.raw undef),
                  (28, AV.raw undef), (27, AV.raw undef), (26, AV.raw undef), (25, AV.raw undef), (24, AV.raw undef), (23, AV.ff),
                  (23, AV.bool (p.s.h.getD (0 + (↑x.fst : Int).toNat) (V.enc Kd.bool).dflt)),
                  (22, AV.bool (p.s.h.getD (0 + (↑x.fst : Int).toNat) (V.enc Kd.bool).dflt)), (21, AV.ptrR 2 (0 + (↑x.fst : Int).toNat) 1 0),
                  (20, AV.int IntKind.i64 (↑x.fst : Int)), (19, AV.sl false 2 0 1 p.s.h.length (p.s.h.length + p.sh)), (18, AV.ptr 0 1), (17, AV.ptr 0 0),
                  (16, AV.ptr 0 0), (13, AV.bool (decide ((↑x.fst : Int) < (↑p.s.h.length : Int)))), (12, AV.int IntKind.i64 (↑p.s.h.length : Int)),
                  (11, AV.sl false 2 0 1 p.s.h.length (p.s.h.length + p.sh)), (10, AV.ptr 0 1), (9, AV.ptr 0 0), (8, AV.ptr 0 0),
                  (7, AV.int IntKind.i64 (↑x.fst : Int)), (0, AV.ptr 0 0), (1, AV.int IntKind.i64 p.t),
                  (5, AV.sl false 6 0 1 (heldToR p.s p.t x.fst).length ((heldToR p.s p.t x.fst).length + x.snd)), (6, AV.int IntKind.i64 (↑x.fst : Int))],
              heap :=
                [(0,
                    Blk.cells 43
                      [AV.sl false 1 0 1 p.s.w.length (p.s.w.length + p.sw), AV.sl false 2 0 1 p.s.h.length (p.s.h.length + p.sh),
                        AV.sl false 3 0 1 p.s.t.length (p.s.t.length + p.st), AV.sl false 4 0 5 p.s.l.length (p.s.l.length + p.sl)]),
                  (1, Blk.arr 3 Kd.int p.s.w p.sw), (2, Blk.arr 4 Kd.bool p.s.h p.sh), (3, Blk.arr 3 Kd.int p.s.t p.st), (4, Blk.arr 45 Kd.deed p.s.l p.sl),
                  (6, Blk.arr 3 Kd.int (heldToR p.s p.t x.fst) x.snd)],
              nx := 7, nt := 39, tl := [6, 7, 8, 9, 10, 11] }))))
    (Out.stop (EX.ex 0)
      {
        env :=
          [(13, AV.bool (decide ((↑x.fst : Int) < (↑p.s.h.length : Int)))), (12, AV.int IntKind.i64 (↑p.s.h.length : Int)),
            (11, AV.sl false 2 0 1 p.s.h.length (p.s.h.length + p.sh)), (10, AV.ptr 0 1), (9, AV.ptr 0 0), (8, AV.ptr 0 0),
            (7, AV.int IntKind.i64 (↑x.fst : Int)), (0, AV.ptr 0 0), (1, AV.int IntKind.i64 p.t),
            (5, AV.sl false 6 0 1 (heldToR p.s p.t x.fst).length ((heldToR p.s p.t x.fst).length + x.snd)), (6, AV.int IntKind.i64 (↑x.fst : Int))],
        heap :=
          [(0,
              Blk.cells 43
                [AV.sl false 1 0 1 p.s.w.length (p.s.w.length + p.sw), AV.sl false 2 0 1 p.s.h.length (p.s.h.length + p.sh),
                  AV.sl false 3 0 1 p.s.t.length (p.s.t.length + p.st), AV.sl false 4 0 5 p.s.l.length (p.s.l.length + p.sl)]),
            (1, Blk.arr 3 Kd.int p.s.w p.sw), (2, Blk.arr 4 Kd.bool p.s.h p.sh), (3, Blk.arr 3 Kd.int p.s.t p.st), (4, Blk.arr 45 Kd.deed p.s.l p.sl),
            (6, Blk.arr 3 Kd.int (heldToR p.s p.t x.fst) x.snd)],
        nx := 7, nt := 39, tl := [6, 7, 8, 9, 10, 11] }) := by kernel_rfl

theorem t20 (s : MR) (sw sh st sl : Nat) (t : Int) : runF cfg8 40 20 Try.f20 [.ptr 0 0, .int .i64 t] (rUp s sw sh st sl) 6 =
  Out.need (LoopFor Try.prog 20 0 (loopOf Try.f20 0) L20)
    (Out.ex P20 fun y =>
      Out.ex (List (Nat × Nat)) fun y_1 =>
        Out.need
          (6 ≤ 6 ∧
            Wk 6 y_1
              { env := [(6, AV.lit IntKind.i64 0), (5, AV.nilS), (4, AV.nilS), (0, AV.ptr 0 0), (1, AV.int IntKind.i64 t)],
                heap :=
                  [(0,
                      Blk.cells 43
                        [AV.sl false 1 0 1 s.w.length (s.w.length + sw), AV.sl false 2 0 1 s.h.length (s.h.length + sh),
                          AV.sl false 3 0 1 s.t.length (s.t.length + st), AV.sl false 4 0 5 s.l.length (s.l.length + sl)]),
                    (1, Blk.arr 3 Kd.int s.w sw), (2, Blk.arr 4 Kd.bool s.h sh), (3, Blk.arr 3 Kd.int s.t st), (4, Blk.arr 45 Kd.deed s.l sl)],
                nx := 6, nt := 39, tl := [] }
              ((fun p => I20 p (0, 0)) y))
          (Out.all (Nat × Nat) fun y_2 =>
            Out.asm ((fun p x => p.s.h.length ≤ x.fst) y y_2)
              (Out.fin (AV.sl false 6 0 1 (heldToR y.s y.t y_2.fst).length ((heldToR y.s y.t y_2.fst).length + y_2.snd))
                [(0,
                    Blk.cells 43
                      [AV.sl false 1 0 1 y.s.w.length (y.s.w.length + y.sw), AV.sl false 2 0 1 y.s.h.length (y.s.h.length + y.sh),
                        AV.sl false 3 0 1 y.s.t.length (y.s.t.length + y.st), AV.sl false 4 0 5 y.s.l.length (y.s.l.length + y.sl)]),
                  (1, Blk.arr 3 Kd.int y.s.w y.sw), (2, Blk.arr 4 Kd.bool y.s.h y.sh), (3, Blk.arr 3 Kd.int y.s.t y.st), (4, Blk.arr 45 Kd.deed y.s.l y.sl),
                  (6, Blk.arr 3 Kd.int (heldToR y.s y.t y_2.fst) y_2.snd)]
                7))) := by kernel_rfl

end Sx
end Go.Proofs.Ytjackepkphdibaa
