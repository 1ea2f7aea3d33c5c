/-
  Loops over locks, numbers and deeds: the runs of the machine.
-/
import Derived.Test.YtjackepkphdibaaCells
namespace Go.Proofs.Ytjackepkphdibaa
namespace Sx
open Go
set_option maxRecDepth 100000
set_option linter.unusedVariables false

def heldTo (s : MC) (t : Int) (i : Nat) : List Int := ((List.range i).filter (fun k => decide (s.locks[k]? = some ⟨t, true⟩))).map Int.ofNat
def MC.held (s : MC) (t : Int) : List Int := heldTo s t s.locks.length
structure P12 where
  s : MC
  sw : Nat
  sl : Nat
  sg : Nat
  t : Int
  hb : s.locks.length ≤ 1099511627776
def I12 (p : P12) (x : Nat × Nat) : St V :=
  ⟨[(0, .ptr 0 0), (1, .int .i64 p.t), (5, .sl false 5 0 1 (heldTo p.s p.t x.1).length ((heldTo p.s p.t x.1).length + x.2)), (11, .sl false 2 0 2 p.s.locks.length (p.s.locks.length + p.sl)), (12, .int .i64 (p.s.locks.length : Int)), (13, .int .i64 (x.1 : Int))],
   cUp p.s p.sw p.sl p.sg ++ [(5, .arr 3 Kd.int (heldTo p.s p.t x.1) x.2)], 6, 28, [5, 6, 7, 8, 9, 10, 11, 12]⟩
def L12 : LoopS V := loopN 5 (fun p : P12 => I12 p (0, 0)) (fun p x => p.s.locks.length ≤ x.1) I12

structure PR (α : Type) where
  xs : List α
  c : Nat
  ys : List α
  d : Nat
  hl : xs.length = ys.length
  hb : xs.length ≤ 1099511627776
/-- Of two rows that are looked at place by place: the state at place i. -/
def I19 (p : PR Int) (i : Nat) : St V :=
  ⟨[(0, .sl false 0 0 1 p.xs.length p.c), (1, .sl false 1 0 1 p.ys.length p.d), (5, .int .i64 (i : Int))], [(0, .ro Kd.int p.xs), (1, .ro Kd.int p.ys)], 2, 26, []⟩
def R19 (p : PR Int) : St V := ⟨[(4, .ff)], [(0, .ro Kd.int p.xs), (1, .ro Kd.int p.ys)], 2, 26, []⟩
def I18 (p : PR Deed) (i : Nat) : St V :=
  ⟨[(0, .sl false 0 0 5 p.xs.length p.c), (1, .sl false 1 0 5 p.ys.length p.d), (5, .int .i64 (i : Int))], [(0, .ro Kd.deed p.xs), (1, .ro Kd.deed p.ys)], 2, 26, []⟩
def R18 (p : PR Deed) : St V := ⟨[(4, .ff)], [(0, .ro Kd.deed p.xs), (1, .ro Kd.deed p.ys)], 2, 26, []⟩
def L19 : LoopS V := loopS 2 (fun p : PR Int => I19 p 0) (fun p _ => p.xs = p.ys) (fun p (_ : Unit) => I19 p p.xs.length) (fun p _ => p.xs ≠ p.ys) (fun p (_ : Unit) => R19 p)
def L18 : LoopS V := loopS 2 (fun p : PR Deed => I18 p 0) (fun p _ => p.xs = p.ys) (fun p (_ : Unit) => I18 p p.xs.length) (fun p _ => p.xs ≠ p.ys) (fun p (_ : Unit) => R18 p)
theorem b12 (p : P12) (x : Nat × Nat) : runCode cfg0 40 12 (loopOf Try.f12 0) (I12 p x) Out.stop =
  Out.ite (decide ((↑x.fst : Int) < (↑p.s.locks.length : Int)))
    (Out.need (0 ≤ (↑x.fst : Int) ∧ (↑x.fst : Int) < (↑p.s.locks.length : Int))
      (Out.need (0 + (↑x.fst : Int).toNat < p.s.locks.length)
        (Out.ite
          ((p.s.locks.getD (0 + (↑x.fst : Int).toNat) (V.enc Kd.holder).dflt).thread == p.t &&
            ((p.s.locks.getD (0 + (↑x.fst : Int).toNat) (V.enc Kd.holder).dflt).held == true && true))
          (Out.need
            (0 = 0 ∧
              (heldTo p.s p.t x.fst).length = (heldTo p.s p.t x.fst).length ∧
                (heldTo p.s p.t x.fst).length + x.snd = (heldTo p.s p.t x.fst).length + x.snd ∧ ((heldTo p.s p.t x.fst).length + 1) * 8 ≤ 140737488355328)
            (Out.all Nat fun y =>
              Out.stop EX.nx
                {
                  env :=
                    [(13, AV.int IntKind.i64 (IntKind.i64.wrap ((↑x.fst : Int) + 1))), (26, AV.int IntKind.i64 (IntKind.i64.wrap ((↑x.fst : Int) + 1))),
                      (5, AV.sl false 9 0 1 ((heldTo p.s p.t x.fst).length + 1) ((heldTo p.s p.t x.fst).length + 1 + y)),
                      (25, AV.sl false 9 0 1 ((heldTo p.s p.t x.fst).length + 1) ((heldTo p.s p.t x.fst).length + 1 + y)), (24, AV.sl true 8 0 1 1 1),
                      (23, AV.int IntKind.i64 (↑x.fst : Int)), (22, AV.sl false 5 0 1 (heldTo p.s p.t x.fst).length ((heldTo p.s p.t x.fst).length + x.snd)),
                      (21,
                        AV.bool
                          ((p.s.locks.getD (0 + (↑x.fst : Int).toNat) (V.enc Kd.holder).dflt).thread == p.t &&
                            ((p.s.locks.getD (0 + (↑x.fst : Int).toNat) (V.enc Kd.holder).dflt).held == true && true))),
                      (20, AV.agg [AV.int IntKind.i64 p.t, AV.tt]), (19, AV.int IntKind.i64 p.t),
                      (18,
                        AV.agg
                          [AV.int IntKind.i64 (p.s.locks.getD (0 + (↑x.fst : Int).toNat) (V.enc Kd.holder).dflt).thread,
                            AV.bool (p.s.locks.getD (0 + (↑x.fst : Int).toNat) (V.enc Kd.holder).dflt).held]),
                      (6, AV.int IntKind.i64 (↑x.fst : Int)), (7, AV.ptr 6 0),
                      (17,
                        AV.agg
                          [AV.int IntKind.i64 (p.s.locks.getD (0 + (↑x.fst : Int).toNat) (V.enc Kd.holder).dflt).thread,
                            AV.bool (p.s.locks.getD (0 + (↑x.fst : Int).toNat) (V.enc Kd.holder).dflt).held]),
                      (16, AV.ptrR 2 (0 + (↑x.fst : Int).toNat) 2 0), (15, AV.int IntKind.i64 (↑x.fst : Int)),
                      (14, AV.bool (decide ((↑x.fst : Int) < (↑p.s.locks.length : Int)))), (0, AV.ptr 0 0), (1, AV.int IntKind.i64 p.t),
                      (5, AV.sl false 5 0 1 (heldTo p.s p.t x.fst).length ((heldTo p.s p.t x.fst).length + x.snd)),
                      (11, AV.sl false 2 0 2 p.s.locks.length (p.s.locks.length + p.sl)), (12, AV.int IntKind.i64 (↑p.s.locks.length : Int)),
                      (13, AV.int IntKind.i64 (↑x.fst : Int))],
                  heap :=
                    [(9, Blk.arr 3 Kd.int (heldTo p.s p.t x.fst ++ [(↑x.fst : Int)]) y), (8, Blk.cells 3 [AV.int IntKind.i64 (↑x.fst : Int)]),
                      (6,
                        Blk.cells 62
                          [AV.int IntKind.i64 (p.s.locks.getD (0 + (↑x.fst : Int).toNat) (V.enc Kd.holder).dflt).thread,
                            AV.bool (p.s.locks.getD (0 + (↑x.fst : Int).toNat) (V.enc Kd.holder).dflt).held]),
                      (0,
                        Blk.cells 56
                          [AV.sl false 1 0 1 p.s.words.length (p.s.words.length + p.sw), AV.sl false 2 0 2 p.s.locks.length (p.s.locks.length + p.sl),
                            AV.sl false 3 0 5 p.s.log.length (p.s.log.length + p.sg)]),
                      (1, Blk.arr 3 Kd.int p.s.words p.sw), (2, Blk.arr 62 Kd.holder p.s.locks p.sl), (3, Blk.arr 45 Kd.deed p.s.log p.sg)],
                  nx := 10, nt := 28, tl := [5, 6, 5, 6, 7, 8, 9, 10, 11, 12] }))
          (Out.stop EX.nx
            {
              env :=
                [(13, AV.int IntKind.i64 (IntKind.i64.wrap ((↑x.fst : Int) + 1))), (26, AV.int IntKind.i64 (IntKind.i64.wrap ((↑x.fst : Int) + 1))),
                  (21,
                    AV.bool
                      ((p.s.locks.getD (0 + (↑x.fst : Int).toNat) (V.enc Kd.holder).dflt).thread == p.t &&
                        ((p.s.locks.getD (0 + (↑x.fst : Int).toNat) (V.enc Kd.holder).dflt).held == true && true))),
                  (20, AV.agg [AV.int IntKind.i64 p.t, AV.tt]), (19, AV.int IntKind.i64 p.t),
                  (18,
                    AV.agg
                      [AV.int IntKind.i64 (p.s.locks.getD (0 + (↑x.fst : Int).toNat) (V.enc Kd.holder).dflt).thread,
                        AV.bool (p.s.locks.getD (0 + (↑x.fst : Int).toNat) (V.enc Kd.holder).dflt).held]),
                  (6, AV.int IntKind.i64 (↑x.fst : Int)), (7, AV.ptr 6 0),
                  (17,
                    AV.agg
                      [AV.int IntKind.i64 (p.s.locks.getD (0 + (↑x.fst : Int).toNat) (V.enc Kd.holder).dflt).thread,
                        AV.bool (p.s.locks.getD (0 + (↑x.fst : Int).toNat) (V.enc Kd.holder).dflt).held]),
                  (16, AV.ptrR 2 (0 + (↑x.fst : Int).toNat) 2 0), (15, AV.int IntKind.i64 (↑x.fst : Int)),
                  (14, AV.bool (decide ((↑x.fst : Int) < (↑p.s.locks.length : Int)))), (0, AV.ptr 0 0), (1, AV.int IntKind.i64 p.t),
                  (5, AV.sl false 5 0 1 (heldTo p.s p.t x.fst).length ((heldTo p.s p.t x.fst).length + x.snd)),
                  (11, AV.sl false 2 0 2 p.s.locks.length (p.s.locks.length + p.sl)), (12, AV.int IntKind.i64 (↑p.s.locks.length : Int)),
                  (13, AV.int IntKind.i64 (↑x.fst : Int))],
              heap :=
                [(6,
                    Blk.cells 62
                      [AV.int IntKind.i64 (p.s.locks.getD (0 + (↑x.fst : Int).toNat) (V.enc Kd.holder).dflt).thread,
                        AV.bool (p.s.locks.getD (0 + (↑x.fst : Int).toNat) (V.enc Kd.holder).dflt).held]),
                  (0,
                    Blk.cells 56
                      [AV.sl false 1 0 1 p.s.words.length (p.s.words.length + p.sw), AV.sl false 2 0 2 p.s.locks.length (p.s.locks.length + p.sl),
                        AV.sl false 3 0 5 p.s.log.length (p.s.log.length + p.sg)]),
                  (1, Blk.arr 3 Kd.int p.s.words p.sw), (2, Blk.arr 62 Kd.holder p.s.locks p.sl), (3, Blk.arr 45 Kd.deed p.s.log p.sg),
                  (5, Blk.arr 3 Kd.int (heldTo p.s p.t x.fst) x.snd)],
              nx := 8, nt := 28, tl := [6, 5, 6, 7, 8, 9, 10, 11, 12] }))))
    (Out.stop (EX.ex 0)
      {
        env :=
          [(14, AV.bool (decide ((↑x.fst : Int) < (↑p.s.locks.length : Int)))), (0, AV.ptr 0 0), (1, AV.int IntKind.i64 p.t),
            (5, AV.sl false 5 0 1 (heldTo p.s p.t x.fst).length ((heldTo p.s p.t x.fst).length + x.snd)),
            (11, AV.sl false 2 0 2 p.s.locks.length (p.s.locks.length + p.sl)), (12, AV.int IntKind.i64 (↑p.s.locks.length : Int)),
            (13, AV.int IntKind.i64 (↑x.fst : Int))],
        heap :=
          [(0,
              Blk.cells 56
                [AV.sl false 1 0 1 p.s.words.length (p.s.words.length + p.sw), AV.sl false 2 0 2 p.s.locks.length (p.s.locks.length + p.sl),
                  AV.sl false 3 0 5 p.s.log.length (p.s.log.length + p.sg)]),
            (1, Blk.arr 3 Kd.int p.s.words p.sw), (2, Blk.arr 62 Kd.holder p.s.locks p.sl), (3, Blk.arr 45 Kd.deed p.s.log p.sg),
            (5, Blk.arr 3 Kd.int (heldTo p.s p.t x.fst) x.snd)],
        nx := 6, nt := 28, tl := [5, 6, 7, 8, 9, 10, 11, 12] }) := by kernel_rfl

theorem b19 (p : PR Int) (i : Nat) : runCode cfg0 40 19 (loopOf Try.f19 0) (I19 p i) Out.stop =
  Out.ite (decide ((↑i : Int) < (↑p.xs.length : Int)))
    (Out.need (0 ≤ (↑i : Int) ∧ (↑i : Int) < (↑p.xs.length : Int))
      (Out.need (0 + i < p.xs.length)
        (Out.need (0 ≤ (↑i : Int) ∧ (↑i : Int) < (↑p.ys.length : Int))
          (Out.need (0 + i < p.ys.length)
            (Out.ite (p.xs.getD (0 + i) (V.enc Kd.int).dflt != p.ys.getD (0 + i) (V.enc Kd.int).dflt)
              (Out.stop EX.rt
                {
                  env :=
                    [(4, AV.ff), (25, AV.bool (p.xs.getD (0 + i) (V.enc Kd.int).dflt != p.ys.getD (0 + i) (V.enc Kd.int).dflt)),
                      (24, AV.int IntKind.i64 (p.ys.getD (0 + i) (V.enc Kd.int).dflt)), (23, AV.ptrR 1 (0 + i) 1 0), (22, AV.int IntKind.i64 (↑i : Int)),
                      (21, AV.sl false 1 0 1 p.ys.length p.d), (20, AV.int IntKind.i64 (p.xs.getD (0 + i) (V.enc Kd.int).dflt)), (19, AV.ptrR 0 (0 + i) 1 0),
                      (18, AV.int IntKind.i64 (↑i : Int)), (17, AV.sl false 0 0 1 p.xs.length p.c), (14, AV.bool (decide ((↑i : Int) < (↑p.xs.length : Int)))),
                      (13, AV.int IntKind.i64 (↑p.xs.length : Int)), (12, AV.sl false 0 0 1 p.xs.length p.c), (11, AV.int IntKind.i64 (↑i : Int)),
                      (0, AV.sl false 0 0 1 p.xs.length p.c), (1, AV.sl false 1 0 1 p.ys.length p.d), (5, AV.int IntKind.i64 (↑i : Int))],
                  heap := [(0, Blk.ro Kd.int p.xs), (1, Blk.ro Kd.int p.ys)], nx := 2, nt := 26, tl := [] })
              (Out.stop EX.nx
                {
                  env :=
                    [(5, AV.int IntKind.i64 (IntKind.i64.wrap ((↑i : Int) + 1))), (16, AV.int IntKind.i64 (IntKind.i64.wrap ((↑i : Int) + 1))),
                      (15, AV.int IntKind.i64 (↑i : Int)), (25, AV.bool (p.xs.getD (0 + i) (V.enc Kd.int).dflt != p.ys.getD (0 + i) (V.enc Kd.int).dflt)),
                      (24, AV.int IntKind.i64 (p.ys.getD (0 + i) (V.enc Kd.int).dflt)), (23, AV.ptrR 1 (0 + i) 1 0), (22, AV.int IntKind.i64 (↑i : Int)),
                      (21, AV.sl false 1 0 1 p.ys.length p.d), (20, AV.int IntKind.i64 (p.xs.getD (0 + i) (V.enc Kd.int).dflt)), (19, AV.ptrR 0 (0 + i) 1 0),
                      (18, AV.int IntKind.i64 (↑i : Int)), (17, AV.sl false 0 0 1 p.xs.length p.c), (14, AV.bool (decide ((↑i : Int) < (↑p.xs.length : Int)))),
                      (13, AV.int IntKind.i64 (↑p.xs.length : Int)), (12, AV.sl false 0 0 1 p.xs.length p.c), (11, AV.int IntKind.i64 (↑i : Int)),
                      (0, AV.sl false 0 0 1 p.xs.length p.c), (1, AV.sl false 1 0 1 p.ys.length p.d), (5, AV.int IntKind.i64 (↑i : Int))],
                  heap := [(0, Blk.ro Kd.int p.xs), (1, Blk.ro Kd.int p.ys)], nx := 2, nt := 26, tl := [] }))))))
    (Out.stop (EX.ex 0)
      {
        env :=
          [(14, AV.bool (decide ((↑i : Int) < (↑p.xs.length : Int)))), (13, AV.int IntKind.i64 (↑p.xs.length : Int)), (12, AV.sl false 0 0 1 p.xs.length p.c),
            (11, AV.int IntKind.i64 (↑i : Int)), (0, AV.sl false 0 0 1 p.xs.length p.c), (1, AV.sl false 1 0 1 p.ys.length p.d),
            (5, AV.int IntKind.i64 (↑i : Int))],
        heap := [(0, Blk.ro Kd.int p.xs), (1, Blk.ro Kd.int p.ys)], nx := 2, nt := 26, tl := [] }) := by kernel_rfl

theorem b18 (p : PR Deed) (i : Nat) : runCode cfg0 40 18 (loopOf Try.f18 0) (I18 p i) Out.stop =
  Out.ite (decide ((↑i : Int) < (↑p.xs.length : Int)))
    (Out.need (0 ≤ (↑i : Int) ∧ (↑i : Int) < (↑p.xs.length : Int))
      (Out.need (0 + i < p.xs.length)
        (Out.need (0 ≤ (↑i : Int) ∧ (↑i : Int) < (↑p.ys.length : Int))
          (Out.need (0 + i < p.ys.length)
            (Out.ite
              (!((p.xs.getD (0 + i) (V.enc Kd.deed).dflt).thread == (p.ys.getD (0 + i) (V.enc Kd.deed).dflt).thread &&
                  ((p.xs.getD (0 + i) (V.enc Kd.deed).dflt).act == (p.ys.getD (0 + i) (V.enc Kd.deed).dflt).act &&
                    ((p.xs.getD (0 + i) (V.enc Kd.deed).dflt).cell == (p.ys.getD (0 + i) (V.enc Kd.deed).dflt).cell &&
                      ((p.xs.getD (0 + i) (V.enc Kd.deed).dflt).before == (p.ys.getD (0 + i) (V.enc Kd.deed).dflt).before &&
                        ((p.xs.getD (0 + i) (V.enc Kd.deed).dflt).after == (p.ys.getD (0 + i) (V.enc Kd.deed).dflt).after && true))))))
              (Out.stop EX.rt
                {
                  env :=
                    [(4, AV.ff),
                      (25,
                        AV.bool
                          !((p.xs.getD (0 + i) (V.enc Kd.deed).dflt).thread == (p.ys.getD (0 + i) (V.enc Kd.deed).dflt).thread &&
                              ((p.xs.getD (0 + i) (V.enc Kd.deed).dflt).act == (p.ys.getD (0 + i) (V.enc Kd.deed).dflt).act &&
                                ((p.xs.getD (0 + i) (V.enc Kd.deed).dflt).cell == (p.ys.getD (0 + i) (V.enc Kd.deed).dflt).cell &&
                                  ((p.xs.getD (0 + i) (V.enc Kd.deed).dflt).before == (p.ys.getD (0 + i) (V.enc Kd.deed).dflt).before &&
                                    ((p.xs.getD (0 + i) (V.enc Kd.deed).dflt).after == (p.ys.getD (0 + i) (V.enc Kd.deed).dflt).after && true)))))),
                      (24,
                        AV.agg
                          [AV.int IntKind.i64 (p.ys.getD (0 + i) (V.enc Kd.deed).dflt).thread, AV.int IntKind.i64 (p.ys.getD (0 + i) (V.enc Kd.deed).dflt).act,
                            AV.int IntKind.i64 (p.ys.getD (0 + i) (V.enc Kd.deed).dflt).cell, AV.int IntKind.i64 (p.ys.getD (0 + i) (V.enc Kd.deed).dflt).before,
                            AV.int IntKind.i64 (p.ys.getD (0 + i) (V.enc Kd.deed).dflt).after]),
                      (23, AV.ptrR 1 (0 + i) 5 0), (22, AV.int IntKind.i64 (↑i : Int)), (21, AV.sl false 1 0 5 p.ys.length p.d),
                      (20,
                        AV.agg
                          [AV.int IntKind.i64 (p.xs.getD (0 + i) (V.enc Kd.deed).dflt).thread, AV.int IntKind.i64 (p.xs.getD (0 + i) (V.enc Kd.deed).dflt).act,
                            AV.int IntKind.i64 (p.xs.getD (0 + i) (V.enc Kd.deed).dflt).cell, AV.int IntKind.i64 (p.xs.getD (0 + i) (V.enc Kd.deed).dflt).before,
                            AV.int IntKind.i64 (p.xs.getD (0 + i) (V.enc Kd.deed).dflt).after]),
                      (19, AV.ptrR 0 (0 + i) 5 0), (18, AV.int IntKind.i64 (↑i : Int)), (17, AV.sl false 0 0 5 p.xs.length p.c),
                      (14, AV.bool (decide ((↑i : Int) < (↑p.xs.length : Int)))), (13, AV.int IntKind.i64 (↑p.xs.length : Int)),
                      (12, AV.sl false 0 0 5 p.xs.length p.c), (11, AV.int IntKind.i64 (↑i : Int)), (0, AV.sl false 0 0 5 p.xs.length p.c),
                      (1, AV.sl false 1 0 5 p.ys.length p.d), (5, AV.int IntKind.i64 (↑i : Int))],
                  heap := [(0, Blk.ro Kd.deed p.xs), (1, Blk.ro Kd.deed p.ys)], nx := 2, nt := 26, tl := [] })
              (Out.stop EX.nx
                {
                  env :=
                    [(5, AV.int IntKind.i64 (IntKind.i64.wrap ((↑i : Int) + 1))), (16, AV.int IntKind.i64 (IntKind.i64.wrap ((↑i : Int) + 1))),
                      (15, AV.int IntKind.i64 (↑i : Int)),
                      (25,
                        AV.bool
                          !((p.xs.getD (0 + i) (V.enc Kd.deed).dflt).thread == (p.ys.getD (0 + i) (V.enc Kd.deed).dflt).thread &&
                              ((p.xs.getD (0 + i) (V.enc Kd.deed).dflt).act == (p.ys.getD (0 + i) (V.enc Kd.deed).dflt).act &&
                                ((p.xs.getD (0 + i) (V.enc Kd.deed).dflt).cell == (p.ys.getD (0 + i) (V.enc Kd.deed).dflt).cell &&
                                  ((p.xs.getD (0 + i) (V.enc Kd.deed).dflt).before == (p.ys.getD (0 + i) (V.enc Kd.deed).dflt).before &&
                                    ((p.xs.getD (0 + i) (V.enc Kd.deed).dflt).after == (p.ys.getD (0 + i) (V.enc Kd.deed).dflt).after && true)))))),
                      (24,
                        AV.agg
                          [AV.int IntKind.i64 (p.ys.getD (0 + i) (V.enc Kd.deed).dflt).thread, AV.int IntKind.i64 (p.ys.getD (0 + i) (V.enc Kd.deed).dflt).act,
                            AV.int IntKind.i64 (p.ys.getD (0 + i) (V.enc Kd.deed).dflt).cell, AV.int IntKind.i64 (p.ys.getD (0 + i) (V.enc Kd.deed).dflt).before,
                            AV.int IntKind.i64 (p.ys.getD (0 + i) (V.enc Kd.deed).dflt).after]),
                      (23, AV.ptrR 1 (0 + i) 5 0), (22, AV.int IntKind.i64 (↑i : Int)), (21, AV.sl false 1 0 5 p.ys.length p.d),
                      (20,
                        AV.agg
                          [AV.int IntKind.i64 (p.xs.getD (0 + i) (V.enc Kd.deed).dflt).thread, AV.int IntKind.i64 (p.xs.getD (0 + i) (V.enc Kd.deed).dflt).act,
                            AV.int IntKind.i64 (p.xs.getD (0 + i) (V.enc Kd.deed).dflt).cell, AV.int IntKind.i64 (p.xs.getD (0 + i) (V.enc Kd.deed).dflt).before,
                            AV.int IntKind.i64 (p.xs.getD (0 + i) (V.enc Kd.deed).dflt).after]),
                      (19, AV.ptrR 0 (0 + i) 5 0), (18, AV.int IntKind.i64 (↑i : Int)), (17, AV.sl false 0 0 5 p.xs.length p.c),
                      (14, AV.bool (decide ((↑i : Int) < (↑p.xs.length : Int)))), (13, AV.int IntKind.i64 (↑p.xs.length : Int)),
                      (12, AV.sl false 0 0 5 p.xs.length p.c), (11, AV.int IntKind.i64 (↑i : Int)), (0, AV.sl false 0 0 5 p.xs.length p.c),
                      (1, AV.sl false 1 0 5 p.ys.length p.d), (5, AV.int IntKind.i64 (↑i : Int))],
                  heap := [(0, Blk.ro Kd.deed p.xs), (1, Blk.ro Kd.deed p.ys)], nx := 2, nt := 26, tl := [] }))))))
    (Out.stop (EX.ex 0)
      {
        env :=
          [(14, AV.bool (decide ((↑i : Int) < (↑p.xs.length : Int)))), (13, AV.int IntKind.i64 (↑p.xs.length : Int)), (12, AV.sl false 0 0 5 p.xs.length p.c),
            (11, AV.int IntKind.i64 (↑i : Int)), (0, AV.sl false 0 0 5 p.xs.length p.c), (1, AV.sl false 1 0 5 p.ys.length p.d),
            (5, AV.int IntKind.i64 (↑i : Int))],
        heap := [(0, Blk.ro Kd.deed p.xs), (1, Blk.ro Kd.deed p.ys)], nx := 2, nt := 26, tl := [] }) := by kernel_rfl

noncomputable def cfg1 : Cfg Try.prog V := { cfg0 with loops := fun f id => match f, id with | 12, 0 => some L12 | 19, 0 => some L19 | 18, 0 => some L18 | _, _ => none }
theorem t12 (s : MC) (sw sl sg : Nat) (t : Int) : runF cfg1 40 12 Try.f12 [.ptr 0 0, .int .i64 t] (cUp s sw sl sg) 5 =
  Out.need (LoopFor Try.prog 12 0 (loopOf Try.f12 0) L12)
    (Out.ex P12 fun y =>
      Out.ex (List (Nat × Nat)) fun y_1 =>
        Out.need
          (5 ≤ 5 ∧
            Wk 5 y_1
              {
                env :=
                  [(13, AV.lit IntKind.i64 0), (12, AV.int IntKind.i64 (↑s.locks.length : Int)), (11, AV.sl false 2 0 2 s.locks.length (s.locks.length + sl)),
                    (10, AV.ptr 0 1), (9, AV.ptr 0 0), (8, AV.ptr 0 0), (5, AV.nilS), (4, AV.nilS), (0, AV.ptr 0 0), (1, AV.int IntKind.i64 t)],
                heap :=
                  [(0,
                      Blk.cells 56
                        [AV.sl false 1 0 1 s.words.length (s.words.length + sw), AV.sl false 2 0 2 s.locks.length (s.locks.length + sl),
                          AV.sl false 3 0 5 s.log.length (s.log.length + sg)]),
                    (1, Blk.arr 3 Kd.int s.words sw), (2, Blk.arr 62 Kd.holder s.locks sl), (3, Blk.arr 45 Kd.deed s.log sg)],
                nx := 5, nt := 28, tl := [] }
              ((fun p => I12 p (0, 0)) y))
          (Out.all (Nat × Nat) fun y_2 =>
            Out.asm ((fun p x => p.s.locks.length ≤ x.fst) y y_2)
              (Out.fin (AV.sl false 5 0 1 (heldTo y.s y.t y_2.fst).length ((heldTo y.s y.t y_2.fst).length + y_2.snd))
                [(0,
                    Blk.cells 56
                      [AV.sl false 1 0 1 y.s.words.length (y.s.words.length + y.sw), AV.sl false 2 0 2 y.s.locks.length (y.s.locks.length + y.sl),
                        AV.sl false 3 0 5 y.s.log.length (y.s.log.length + y.sg)]),
                  (1, Blk.arr 3 Kd.int y.s.words y.sw), (2, Blk.arr 62 Kd.holder y.s.locks y.sl), (3, Blk.arr 45 Kd.deed y.s.log y.sg),
                  (5, Blk.arr 3 Kd.int (heldTo y.s y.t y_2.fst) y_2.snd)]
                6))) := by kernel_rfl

theorem t19 (xs ys : List Int) (c d : Nat) : runF cfg1 40 19 Try.f19 [.sl false 0 0 1 xs.length c, .sl false 1 0 1 ys.length d] [(0, .ro Kd.int xs), (1, .ro Kd.int ys)] 2 =
  Out.ite ((↑xs.length : Int) != (↑ys.length : Int)) (Out.fin AV.ff [(0, Blk.ro Kd.int xs), (1, Blk.ro Kd.int ys)] 2)
    (Out.need (LoopFor Try.prog 19 0 (loopOf Try.f19 0) L19)
      (Out.ex (PR Int) fun y =>
        Out.ex (List (Nat × Nat)) fun y_1 =>
          Out.need
            (2 ≤ 2 ∧
              Wk 2 y_1
                {
                  env :=
                    [(5, AV.lit IntKind.i64 0), (10, AV.bool ((↑xs.length : Int) != (↑ys.length : Int))), (9, AV.int IntKind.i64 (↑ys.length : Int)),
                      (8, AV.sl false 1 0 1 ys.length d), (7, AV.int IntKind.i64 (↑xs.length : Int)), (6, AV.sl false 0 0 1 xs.length c), (4, AV.ff),
                      (0, AV.sl false 0 0 1 xs.length c), (1, AV.sl false 1 0 1 ys.length d)],
                  heap := [(0, Blk.ro Kd.int xs), (1, Blk.ro Kd.int ys)], nx := 2, nt := 26, tl := [] }
                ((fun p => I19 p 0) y))
            ((Out.all Unit fun y_2 => Out.asm ((fun p x => p.xs = p.ys) y y_2) (Out.fin AV.tt [(0, Blk.ro Kd.int y.xs), (1, Blk.ro Kd.int y.ys)] 2)).both
              (Out.all Unit fun y_2 => Out.asm ((fun p x => p.xs ≠ p.ys) y y_2) (Out.fin AV.ff [(0, Blk.ro Kd.int y.xs), (1, Blk.ro Kd.int y.ys)] 2))))) := by kernel_rfl

theorem t18 (xs ys : List Deed) (c d : Nat) : runF cfg1 40 18 Try.f18 [.sl false 0 0 5 xs.length c, .sl false 1 0 5 ys.length d] [(0, .ro Kd.deed xs), (1, .ro Kd.deed ys)] 2 =
  Out.ite ((↑xs.length : Int) != (↑ys.length : Int)) (Out.fin AV.ff [(0, Blk.ro Kd.deed xs), (1, Blk.ro Kd.deed ys)] 2)
    (Out.need (LoopFor Try.prog 18 0 (loopOf Try.f18 0) L18)
      (Out.ex (PR Deed) fun y =>
        Out.ex (List (Nat × Nat)) fun y_1 =>
          Out.need
            (2 ≤ 2 ∧
              Wk 2 y_1
                {
                  env :=
                    [(5, AV.lit IntKind.i64 0), (10, AV.bool ((↑xs.length : Int) != (↑ys.length : Int))), (9, AV.int IntKind.i64 (↑ys.length : Int)),
                      (8, AV.sl false 1 0 5 ys.length d), (7, AV.int IntKind.i64 (↑xs.length : Int)), (6, AV.sl false 0 0 5 xs.length c), (4, AV.ff),
                      (0, AV.sl false 0 0 5 xs.length c), (1, AV.sl false 1 0 5 ys.length d)],
                  heap := [(0, Blk.ro Kd.deed xs), (1, Blk.ro Kd.deed ys)], nx := 2, nt := 26, tl := [] }
                ((fun p => I18 p 0) y))
            ((Out.all Unit fun y_2 => Out.asm ((fun p x => p.xs = p.ys) y y_2) (Out.fin AV.tt [(0, Blk.ro Kd.deed y.xs), (1, Blk.ro Kd.deed y.ys)] 2)).both
              (Out.all Unit fun y_2 => Out.asm ((fun p x => p.xs ≠ p.ys) y y_2) (Out.fin AV.ff [(0, Blk.ro Kd.deed y.xs), (1, Blk.ro Kd.deed y.ys)] 2))))) := by kernel_rfl

end Sx
end Go.Proofs.Ytjackepkphdibaa
