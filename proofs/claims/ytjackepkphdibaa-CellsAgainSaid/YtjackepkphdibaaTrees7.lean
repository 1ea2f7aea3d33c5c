/-
  The law that plays steps: the runs of the machine.
-/
import Derived.Test.YtjackepkphdibaaHeldR
namespace Go.Proofs.Ytjackepkphdibaa
namespace Sx
open Go
set_option maxRecDepth 100000
set_option linter.unusedVariables false

def hooks7 : Nat → Option (HookS V) := fun g => match g with
  | 15 => some (hookObjs 2 [.el Kd.five] runDo)
  | g => hooks6 g
noncomputable def cfg7 : Cfg Try.prog V := ⟨tab, kinds, fun _ => none, hooks7, fun _ _ => none⟩
structure P40 extends P4 where
  w : Int
  l : Int
def L40 : LoopS V := loopH 5 (fun p : P40 => I4 p.toP4 ⟨0, MC.mk0 p.w p.l, MR.mk0 p.w p.l⟩) (fun p (x : X4) => Rel x.s x.r ∧ x.s.log.length ≤ 200 ∧ x.s.locks.length ≤ 4096) (fun p x => I4 p.toP4 x)
structure P42 where
  ok : Bool
  xs : List Five
  s : MC
  r : MR
  q : Nat × Nat × Nat × Nat
  n : Nat
  sp : Nat
  hb : n ≤ 1000
def I42 (p : P42) (x : Nat × List Deed) : St V :=
  ⟨[(7, .tt), (8, .ptr 3 0), (9, .ptr 4 0), (12, .sl false 10 0 5 p.n (p.n + p.sp)), (13, .bool p.ok), (14, .int .i64 (x.1 : Int))],
   [(10, .arr 45 Kd.deed x.2 p.sp), (3, .obj (oC p.s)), (2, .ro Kd.five p.xs), (4, .cells 43 [.sl false 6 0 1 p.r.w.length (p.r.w.length + p.q.1), .sl false 7 0 1 p.r.h.length (p.r.h.length + p.q.2.1), .sl false 8 0 1 p.r.t.length (p.r.t.length + p.q.2.2.1), .sl false 9 0 5 p.r.l.length (p.r.l.length + p.q.2.2.2)]),
    (6, .arr 3 Kd.int p.r.w p.q.1), (7, .arr 4 Kd.bool p.r.h p.q.2.1), (8, .arr 3 Kd.int p.r.t p.q.2.2.1), (9, .arr 45 Kd.deed p.r.l p.q.2.2.2)], 11, 104, [3, 4, 5, 6, 7, 8, 9, 10, 11, 12]⟩
structure P42d extends P42 where
  ds : List Deed
  hd : ds.length = n
def L42 : LoopS V := loopN 11 (fun p : P42d => I42 p.toP42 (0, p.ds)) (fun p (x : Nat × List Deed) => x.2.length = p.n) (fun p x => I42 p.toP42 x)

def hooks9 : Nat → Option (HookS V) := fun g => match g with
  | 13 => some (hookAfter (openR 4) (hookObj 4 [] (onC runLog)))
  | 20 => some (hookAfter (packR 4) (hookObj 5 [.int .i64] (onR runHeldR)))
  | g => hooks7 g
noncomputable def cfg9 : Cfg Try.prog V := ⟨tab, kinds, fun _ => none, hooks9, fun f id => match f, id with | 4, 0 => some L40 | 4, 2 => some L42 | _, _ => none⟩
theorem b40 (p : P4) (x : X4) : runCode cfg7 40 4 (loopOf Try.f4 0) (I4 p x) (stopK [2, 7, 8, 9, 10]) =
  Out.ite (decide ((↑x.i : Int) < (↑p.xs.length : Int)))
    (Out.need (0 ≤ (↑x.i : Int) ∧ (↑x.i : Int) < (↑p.xs.length : Int))
      (Out.need (0 + (↑x.i : Int).toNat < p.xs.length)
        (Out.need (x.s.room ∧ x.r.room ∧ Rel x.s x.r)
          (Out.need (0 ≤ (↑x.i : Int) ∧ (↑x.i : Int) < (↑p.xs.length : Int))
            (Out.need (0 + (↑x.i : Int).toNat < p.xs.length)
              (Out.need (0 ≤ (↑x.i : Int) ∧ (↑x.i : Int) < (↑p.xs.length : Int))
                (Out.need (0 + (↑x.i : Int).toNat < p.xs.length)
                  (Out.need
                    (doR x.r
                        { a := (p.xs.getD (0 + (↑x.i : Int).toNat) (V.enc Kd.five).dflt).a, b := (p.xs.getD (0 + (↑x.i : Int).toNat) (V.enc Kd.five).dflt).b,
                          c := (p.xs.getD (0 + (↑x.i : Int).toNat) (V.enc Kd.five).dflt).c, d := (p.xs.getD (0 + (↑x.i : Int).toNat) (V.enc Kd.five).dflt).d,
                          e := (p.xs.getD (0 + (↑x.i : Int).toNat) (V.enc Kd.five).dflt).e : Five }).room
                    (Out.ite
                      ((doC x.s
                              { a := (p.xs.getD (0 + (↑x.i : Int).toNat) (V.enc Kd.five).dflt).a,
                                b := (p.xs.getD (0 + (↑x.i : Int).toNat) (V.enc Kd.five).dflt).b,
                                c := (p.xs.getD (0 + (↑x.i : Int).toNat) (V.enc Kd.five).dflt).c,
                                d := (p.xs.getD (0 + (↑x.i : Int).toNat) (V.enc Kd.five).dflt).d,
                                e := (p.xs.getD (0 + (↑x.i : Int).toNat) (V.enc Kd.five).dflt).e : Five }).holder
                          (p.xs.getD (0 + (↑x.i : Int).toNat) (V.enc Kd.five).dflt).c !=
                        (doR x.r
                              { a := (p.xs.getD (0 + (↑x.i : Int).toNat) (V.enc Kd.five).dflt).a,
                                b := (p.xs.getD (0 + (↑x.i : Int).toNat) (V.enc Kd.five).dflt).b,
                                c := (p.xs.getD (0 + (↑x.i : Int).toNat) (V.enc Kd.five).dflt).c,
                                d := (p.xs.getD (0 + (↑x.i : Int).toNat) (V.enc Kd.five).dflt).d,
                                e := (p.xs.getD (0 + (↑x.i : Int).toNat) (V.enc Kd.five).dflt).e : Five }).holder
                          (p.xs.getD (0 + (↑x.i : Int).toNat) (V.enc Kd.five).dflt).c)
                      (Out.stop EX.rt
                        { env := [(2, AV.sl false 2 0 5 p.xs.length p.c), (7, AV.tt), (8, AV.ptr 3 0), (9, AV.ptr 4 0), (10, AV.int IntKind.i64 (↑x.i : Int))],
                          heap :=
                            [(3,
                                Blk.obj
                                  (oC
                                    (doC x.s
                                      { a := (p.xs.getD (0 + (↑x.i : Int).toNat) (V.enc Kd.five).dflt).a,
                                        b := (p.xs.getD (0 + (↑x.i : Int).toNat) (V.enc Kd.five).dflt).b,
                                        c := (p.xs.getD (0 + (↑x.i : Int).toNat) (V.enc Kd.five).dflt).c,
                                        d := (p.xs.getD (0 + (↑x.i : Int).toNat) (V.enc Kd.five).dflt).d,
                                        e := (p.xs.getD (0 + (↑x.i : Int).toNat) (V.enc Kd.five).dflt).e : Five }))),
                              (4,
                                Blk.obj
                                  (oR
                                    (doR x.r
                                      { a := (p.xs.getD (0 + (↑x.i : Int).toNat) (V.enc Kd.five).dflt).a,
                                        b := (p.xs.getD (0 + (↑x.i : Int).toNat) (V.enc Kd.five).dflt).b,
                                        c := (p.xs.getD (0 + (↑x.i : Int).toNat) (V.enc Kd.five).dflt).c,
                                        d := (p.xs.getD (0 + (↑x.i : Int).toNat) (V.enc Kd.five).dflt).d,
                                        e := (p.xs.getD (0 + (↑x.i : Int).toNat) (V.enc Kd.five).dflt).e : Five }))),
                              (2, Blk.ro Kd.five p.xs)],
                          nx := 5, nt := 104, tl := [4, 3, 3, 4, 3, 4, 5, 6, 7, 8, 9] : St V })
                      (Out.stop EX.nx
                        {
                          env :=
                            [(2, AV.sl false 2 0 5 p.xs.length p.c), (7, AV.tt), (8, AV.ptr 3 0), (9, AV.ptr 4 0),
                              (10, AV.int IntKind.i64 (IntKind.i64.wrap ((↑x.i : Int) + 1)))],
                          heap :=
                            [(3,
                                Blk.obj
                                  (oC
                                    (doC x.s
                                      { a := (p.xs.getD (0 + (↑x.i : Int).toNat) (V.enc Kd.five).dflt).a,
                                        b := (p.xs.getD (0 + (↑x.i : Int).toNat) (V.enc Kd.five).dflt).b,
                                        c := (p.xs.getD (0 + (↑x.i : Int).toNat) (V.enc Kd.five).dflt).c,
                                        d := (p.xs.getD (0 + (↑x.i : Int).toNat) (V.enc Kd.five).dflt).d,
                                        e := (p.xs.getD (0 + (↑x.i : Int).toNat) (V.enc Kd.five).dflt).e : Five }))),
                              (4,
                                Blk.obj
                                  (oR
                                    (doR x.r
                                      { a := (p.xs.getD (0 + (↑x.i : Int).toNat) (V.enc Kd.five).dflt).a,
                                        b := (p.xs.getD (0 + (↑x.i : Int).toNat) (V.enc Kd.five).dflt).b,
                                        c := (p.xs.getD (0 + (↑x.i : Int).toNat) (V.enc Kd.five).dflt).c,
                                        d := (p.xs.getD (0 + (↑x.i : Int).toNat) (V.enc Kd.five).dflt).d,
                                        e := (p.xs.getD (0 + (↑x.i : Int).toNat) (V.enc Kd.five).dflt).e : Five }))),
                              (2, Blk.ro Kd.five p.xs)],
                          nx := 5, nt := 104, tl := [4, 3, 3, 4, 3, 4, 5, 6, 7, 8, 9] : St V }))))))))))
    (Out.stop (EX.ex 0)
      { env := [(2, AV.sl false 2 0 5 p.xs.length p.c), (7, AV.tt), (8, AV.ptr 3 0), (9, AV.ptr 4 0), (10, AV.int IntKind.i64 (↑x.i : Int))],
        heap := [(3, Blk.obj (oC x.s)), (4, Blk.obj (oR x.r)), (2, Blk.ro Kd.five p.xs)], nx := 5, nt := 104, tl := [3, 4, 5, 6, 7, 8, 9] : St V }) := by kernel_rfl

theorem b60 (p : P4) (x : X4) : runCode cfg7 40 6 (loopOf Try.f6 0) (I6 p x) (stopK [0, 3, 4, 5, 6]) =
  Out.ite (decide ((↑x.i : Int) < (↑p.xs.length : Int)))
    (Out.need (0 ≤ (↑x.i : Int) ∧ (↑x.i : Int) < (↑p.xs.length : Int))
      (Out.need (0 + (↑x.i : Int).toNat < p.xs.length)
        (Out.need (x.s.room ∧ x.r.room ∧ Rel x.s x.r)
          (Out.stop EX.nx
            {
              env :=
                [(0, AV.sl false 0 0 5 p.xs.length p.c), (3, AV.tt), (4, AV.ptr 1 0), (5, AV.ptr 2 0),
                  (6, AV.int IntKind.i64 (IntKind.i64.wrap ((↑x.i : Int) + 1)))],
              heap :=
                [(1,
                    Blk.obj
                      (oC
                        (doC x.s
                          { a := (p.xs.getD (0 + (↑x.i : Int).toNat) (V.enc Kd.five).dflt).a, b := (p.xs.getD (0 + (↑x.i : Int).toNat) (V.enc Kd.five).dflt).b,
                            c := (p.xs.getD (0 + (↑x.i : Int).toNat) (V.enc Kd.five).dflt).c, d := (p.xs.getD (0 + (↑x.i : Int).toNat) (V.enc Kd.five).dflt).d,
                            e := (p.xs.getD (0 + (↑x.i : Int).toNat) (V.enc Kd.five).dflt).e : Five }))),
                  (2,
                    Blk.obj
                      (oR
                        (doR x.r
                          { a := (p.xs.getD (0 + (↑x.i : Int).toNat) (V.enc Kd.five).dflt).a, b := (p.xs.getD (0 + (↑x.i : Int).toNat) (V.enc Kd.five).dflt).b,
                            c := (p.xs.getD (0 + (↑x.i : Int).toNat) (V.enc Kd.five).dflt).c, d := (p.xs.getD (0 + (↑x.i : Int).toNat) (V.enc Kd.five).dflt).d,
                            e := (p.xs.getD (0 + (↑x.i : Int).toNat) (V.enc Kd.five).dflt).e : Five }))),
                  (0, Blk.ro Kd.five p.xs)],
              nx := 3, nt := 180, tl := [1, 2, 1, 2, 3, 4, 5, 6, 7] : St V }))))
    (Out.stop (EX.ex 0)
      { env := [(0, AV.sl false 0 0 5 p.xs.length p.c), (3, AV.tt), (4, AV.ptr 1 0), (5, AV.ptr 2 0), (6, AV.int IntKind.i64 (↑x.i : Int))],
        heap := [(1, Blk.obj (oC x.s)), (2, Blk.obj (oR x.r)), (0, Blk.ro Kd.five p.xs)], nx := 3, nt := 180, tl := [1, 2, 3, 4, 5, 6, 7] : St V }) := by kernel_rfl

theorem b42 (p : P42) (x : Nat × List Deed) : runCode cfg7 40 4 (loopOf Try.f4 2) (I42 p x) Out.stop =
  Out.ite (decide ((↑x.fst : Int) < (↑p.n : Int)))
    (Out.need (0 ≤ (↑x.fst : Int) ∧ (↑x.fst : Int) < (↑p.n : Int))
      (Out.need (0 + (↑x.fst : Int).toNat < x.snd.length)
        (Out.stop EX.nx
          {
            env :=
              [(14, AV.int IntKind.i64 (IntKind.i64.wrap ((↑x.fst : Int) + 1))), (79, AV.int IntKind.i64 (IntKind.i64.wrap ((↑x.fst : Int) + 1))),
                (78, AV.int IntKind.i64 (↑x.fst : Int)), (83, AV.ptrR 10 (0 + (↑x.fst : Int).toNat) 5 0), (82, AV.ptrR 10 (0 + (↑x.fst : Int).toNat) 5 0),
                (81, AV.int IntKind.i64 (↑x.fst : Int)), (80, AV.sl false 10 0 5 p.n (p.n + p.sp)), (77, AV.bool (decide ((↑x.fst : Int) < (↑p.n : Int)))),
                (76, AV.int IntKind.i64 (↑p.n : Int)), (75, AV.sl false 10 0 5 p.n (p.n + p.sp)), (74, AV.int IntKind.i64 (↑x.fst : Int)), (7, AV.tt),
                (8, AV.ptr 3 0), (9, AV.ptr 4 0), (12, AV.sl false 10 0 5 p.n (p.n + p.sp)), (13, AV.bool p.ok), (14, AV.int IntKind.i64 (↑x.fst : Int))],
            heap :=
              [(10,
                  Blk.arr 45 Kd.deed
                    (x.snd.set (0 + (↑x.fst : Int).toNat)
                      { thread := -7, act := (x.snd.getD (0 + (↑x.fst : Int).toNat) (V.enc Kd.deed).dflt).act,
                        cell := (x.snd.getD (0 + (↑x.fst : Int).toNat) (V.enc Kd.deed).dflt).cell,
                        before := (x.snd.getD (0 + (↑x.fst : Int).toNat) (V.enc Kd.deed).dflt).before,
                        after := (x.snd.getD (0 + (↑x.fst : Int).toNat) (V.enc Kd.deed).dflt).after : Deed })
                    p.sp),
                (3, Blk.obj (oC p.s)), (2, Blk.ro Kd.five p.xs),
                (4,
                  Blk.cells 43
                    [AV.sl false 6 0 1 p.r.w.length (p.r.w.length + p.q.fst), AV.sl false 7 0 1 p.r.h.length (p.r.h.length + p.q.snd.fst),
                      AV.sl false 8 0 1 p.r.t.length (p.r.t.length + p.q.snd.snd.fst), AV.sl false 9 0 5 p.r.l.length (p.r.l.length + p.q.snd.snd.snd)]),
                (6, Blk.arr 3 Kd.int p.r.w p.q.fst), (7, Blk.arr 4 Kd.bool p.r.h p.q.snd.fst), (8, Blk.arr 3 Kd.int p.r.t p.q.snd.snd.fst),
                (9, Blk.arr 45 Kd.deed p.r.l p.q.snd.snd.snd)],
            nx := 12, nt := 104, tl := [10, 3, 4, 5, 6, 7, 8, 9, 10, 11, 12] : St V })))
    (Out.stop (EX.ex 2)
      {
        env :=
          [(77, AV.bool (decide ((↑x.fst : Int) < (↑p.n : Int)))), (76, AV.int IntKind.i64 (↑p.n : Int)), (75, AV.sl false 10 0 5 p.n (p.n + p.sp)),
            (74, AV.int IntKind.i64 (↑x.fst : Int)), (7, AV.tt), (8, AV.ptr 3 0), (9, AV.ptr 4 0), (12, AV.sl false 10 0 5 p.n (p.n + p.sp)), (13, AV.bool p.ok),
            (14, AV.int IntKind.i64 (↑x.fst : Int))],
        heap :=
          [(10, Blk.arr 45 Kd.deed x.snd p.sp), (3, Blk.obj (oC p.s)), (2, Blk.ro Kd.five p.xs),
            (4,
              Blk.cells 43
                [AV.sl false 6 0 1 p.r.w.length (p.r.w.length + p.q.fst), AV.sl false 7 0 1 p.r.h.length (p.r.h.length + p.q.snd.fst),
                  AV.sl false 8 0 1 p.r.t.length (p.r.t.length + p.q.snd.snd.fst), AV.sl false 9 0 5 p.r.l.length (p.r.l.length + p.q.snd.snd.snd)]),
            (6, Blk.arr 3 Kd.int p.r.w p.q.fst), (7, Blk.arr 4 Kd.bool p.r.h p.q.snd.fst), (8, Blk.arr 3 Kd.int p.r.t p.q.snd.snd.fst),
            (9, Blk.arr 45 Kd.deed p.r.l p.q.snd.snd.snd)],
        nx := 11, nt := 104, tl := [3, 4, 5, 6, 7, 8, 9, 10, 11, 12] : St V }) := by kernel_rfl

theorem t4 (w l : Int) (xs : List Five) (c : Nat) : runL cfg9 60 4 Try.f4 [.int .i64 w, .int .i64 l, .sl false 2 0 5 xs.length c] [(2, .ro Kd.five xs)] 3 =
  Out.ite (decide ((↑xs.length : Int) > 200)) (Out.fin AV.tt [] 0)
    (Out.need (LoopFor Try.prog 4 0 (loopOf Try.f4 0) L40)
      (Out.ex (P40 → Prop) fun y =>
        Out.need
          (5 ≤ 5 ∧
            SImp 5
              {
                env :=
                  [(10, AV.lit IntKind.i64 0), (28, AV.bool (decide ((↑xs.length : Int) > 200))), (27, AV.bool (decide ((↑xs.length : Int) > 200))),
                    (26, AV.int IntKind.i64 (↑xs.length : Int)), (25, AV.sl false 2 0 5 xs.length c), (24, AV.ff), (23, AV.ff), (22, AV.ptr 3 0), (9, AV.ptr 4 0),
                    (21, AV.ptr 4 0), (20, AV.int IntKind.i64 l), (19, AV.int IntKind.i64 w), (8, AV.ptr 3 0), (18, AV.ptr 3 0), (17, AV.int IntKind.i64 l),
                    (16, AV.int IntKind.i64 w), (7, AV.tt), (15, AV.tt), (6, AV.ff), (0, AV.int IntKind.i64 w), (1, AV.int IntKind.i64 l),
                    (2, AV.sl false 2 0 5 xs.length c)],
                heap := [(4, Blk.obj (oR (MR.mk0 w l))), (3, Blk.obj (oC (MC.mk0 w l))), (2, Blk.ro Kd.five xs)], nx := 5, nt := 104, tl := [] : St V }
              (fun p => I4 p.toP4 { i := 0, s := MC.mk0 p.w p.l, r := MR.mk0 p.w p.l : X4 }) y)
          (Out.all P40 fun y_1 =>
            Out.asm (y y_1)
              (Out.all X4 fun y =>
                Out.asm ((fun p x => Rel x.s x.r ∧ x.s.log.length ≤ 200 ∧ x.s.locks.length ≤ 4096) y_1 y)
                  (Out.all (Nat × Nat × Nat × Nat) fun y_2 =>
                    Out.need y.s.room
                      (Out.all Nat fun y_3 =>
                        Out.need (0 + y.s.log.length ≤ y.s.log.length)
                          (Out.need (0 + y.r.l.length ≤ y.r.l.length)
                            (Out.need ((List.take y.s.log.length (List.drop 0 y.s.log)).length ≤ 1099511627776)
                              (Out.need (LoopFor Try.prog 4 2 (loopOf Try.f4 2) L42)
                                (Out.ex P42d fun y_4 =>
                                  Out.ex (List (Nat × Nat)) fun y_5 =>
                                    Out.need
                                      (11 ≤ 11 ∧
                                        Wk 11 y_5
                                          {
                                            env :=
                                              [(14, AV.lit IntKind.i64 0),
                                                (13,
                                                  AV.bool (decide (List.take y.s.log.length (List.drop 0 y.s.log) = List.take y.r.l.length (List.drop 0 y.r.l)))),
                                                (73,
                                                  AV.bool (decide (List.take y.s.log.length (List.drop 0 y.s.log) = List.take y.r.l.length (List.drop 0 y.r.l)))),
                                                (72, AV.sl false 9 0 5 y.r.l.length (y.r.l.length + y_2.snd.snd.snd)), (71, AV.ptr 4 3), (70, AV.ptr 4 0),
                                                (69, AV.ptr 4 0), (68, AV.sl false 10 0 5 y.s.log.length (y.s.log.length + y_3)),
                                                (12, AV.sl false 10 0 5 y.s.log.length (y.s.log.length + y_3)),
                                                (67, AV.sl false 10 0 5 y.s.log.length (y.s.log.length + y_3)), (66, AV.ptr 3 0),
                                                (2, AV.sl false 2 0 5 y_1.xs.length y_1.c), (7, AV.tt), (8, AV.ptr 3 0), (9, AV.ptr 4 0),
                                                (10, AV.int IntKind.i64 (↑y.i : Int))],
                                            heap :=
                                              [(10, Blk.arr 45 Kd.deed y.s.log y_3), (3, Blk.obj (oC y.s)), (2, Blk.ro Kd.five y_1.xs),
                                                (4,
                                                  Blk.cells 43
                                                    [AV.sl false 6 0 1 y.r.w.length (y.r.w.length + y_2.fst),
                                                      AV.sl false 7 0 1 y.r.h.length (y.r.h.length + y_2.snd.fst),
                                                      AV.sl false 8 0 1 y.r.t.length (y.r.t.length + y_2.snd.snd.fst),
                                                      AV.sl false 9 0 5 y.r.l.length (y.r.l.length + y_2.snd.snd.snd)]),
                                                (6, Blk.arr 3 Kd.int y.r.w y_2.fst), (7, Blk.arr 4 Kd.bool y.r.h y_2.snd.fst),
                                                (8, Blk.arr 3 Kd.int y.r.t y_2.snd.snd.fst), (9, Blk.arr 45 Kd.deed y.r.l y_2.snd.snd.snd)],
                                            nx := 11, nt := 104, tl := [4, 3, 3, 4, 5, 6, 7, 8, 9] : St V }
                                          ((fun p => I42 p.toP42 (0, p.ds)) y_4))
                                      (Out.all (Nat × List Deed) fun y =>
                                        Out.asm ((fun p x => x.snd.length = p.n) y_4 y)
                                          (Out.ite y_4.ok
                                            (Out.need y_4.s.room
                                              (Out.all Nat fun y =>
                                                Out.need (0 + y_4.s.log.length ≤ y_4.s.log.length)
                                                  (Out.need (0 + y_4.r.l.length ≤ y_4.r.l.length)
                                                    (Out.need ((List.take y_4.s.log.length (List.drop 0 y_4.s.log)).length ≤ 1099511627776)
                                                      (Out.ite
                                                        (decide
                                                          (List.take y_4.s.log.length (List.drop 0 y_4.s.log) = List.take y_4.r.l.length (List.drop 0 y_4.r.l)))
                                                        (Out.need (y_4.s.locks.length ≤ 1099511627776)
                                                          (Out.all Nat fun y =>
                                                            Out.need
                                                              ((y_4.r.w.length = y_4.r.w.length ∧ y_4.r.w.length + y_4.q.fst = y_4.r.w.length + y_4.q.fst) ∧
                                                                (y_4.r.h.length = y_4.r.h.length ∧
                                                                    y_4.r.h.length + y_4.q.snd.fst = y_4.r.h.length + y_4.q.snd.fst) ∧
                                                                  (y_4.r.t.length = y_4.r.t.length ∧
                                                                      y_4.r.t.length + y_4.q.snd.snd.fst = y_4.r.t.length + y_4.q.snd.snd.fst) ∧
                                                                    y_4.r.l.length = y_4.r.l.length ∧
                                                                      y_4.r.l.length + y_4.q.snd.snd.snd = y_4.r.l.length + y_4.q.snd.snd.snd)
                                                              (Out.need
                                                                ({ w := y_4.r.w, h := y_4.r.h, t := y_4.r.t, l := y_4.r.l : MR }.h.length ≤ 1099511627776 ∧
                                                                  { w := y_4.r.w, h := y_4.r.h, t := y_4.r.t, l := y_4.r.l : MR }.t.length =
                                                                    { w := y_4.r.w, h := y_4.r.h, t := y_4.r.t, l := y_4.r.l : MR }.h.length)
                                                                (Out.all Nat fun y =>
                                                                  Out.need (0 + (y_4.s.held 1).length ≤ (y_4.s.held 1).length)
                                                                    (Out.need
                                                                      (0 + ({ w := y_4.r.w, h := y_4.r.h, t := y_4.r.t, l := y_4.r.l : MR }.held 1).length ≤
                                                                        ({ w := y_4.r.w, h := y_4.r.h, t := y_4.r.t, l := y_4.r.l : MR }.held 1).length)
                                                                      (Out.need
                                                                        ((List.take (y_4.s.held 1).length (List.drop 0 (y_4.s.held 1))).length ≤ 1099511627776)
                                                                        (Out.fin
                                                                          (AV.bool
                                                                            (decide
                                                                              (List.take (y_4.s.held 1).length (List.drop 0 (y_4.s.held 1)) =
                                                                                List.take
                                                                                  ({ w := y_4.r.w, h := y_4.r.h, t := y_4.r.t, l := y_4.r.l : MR }.held 1).length
                                                                                  (List.drop 0
                                                                                    ({ w := y_4.r.w, h := y_4.r.h, t := y_4.r.t, l := y_4.r.l : MR }.held 1)))))
                                                                          [] 0)))))))
                                                        (Out.fin AV.ff [] 0))))))
                                            (Out.fin AV.ff [] 0))))))))))))) := by kernel_rfl

end Sx
end Go.Proofs.Ytjackepkphdibaa
