/-
  The law of locks and words one by one: the runs of the machine.
-/
import Derived.Test.YtjackepkphdibaaGhost
namespace Go.Proofs.Ytjackepkphdibaa
namespace Sx
open Go
set_option maxRecDepth 100000
set_option linter.unusedVariables false

structure X5 where
  i : Nat
  s : MC
  hs : List Int
  ws : List Int
def I5 (p : P4) (x : X5) : St V :=
  ⟨[(0, .sl false 0 0 5 p.xs.length p.c), (3, .tt), (4, .ptr 1 0), (5, .sl true 2 0 1 3 3), (6, .sl true 3 0 1 3 3), (7, .int .i64 (x.i : Int))],
   [(3, .arr 3 Kd.int x.ws 0), (2, .arr 3 Kd.int x.hs 0), (1, .obj (oC x.s)), (0, .ro Kd.five p.xs)], 4, 209, [1, 2, 3, 4, 5, 6, 7, 8, 9, 10, 11, 12, 13]⟩
structure P53 where
  p : P4
  x : X5
  ok : ∀ j : Nat, j < 3 → x.s.holder (j : Int) = x.hs.getD j 0
  hl : x.hs.length = 3
def I53 (q : P53) (j : Nat) : St V :=
  ⟨[(0, .sl false 0 0 5 q.p.xs.length q.p.c), (3, .tt), (4, .ptr 1 0), (5, .sl true 2 0 1 3 3), (6, .sl true 3 0 1 3 3), (7, .int .i64 (q.x.i : Int)), (17, .int .i64 (j : Int))],
   [(3, .arr 3 Kd.int q.x.ws 0), (2, .arr 3 Kd.int q.x.hs 0), (1, .obj (oC q.x.s)), (0, .ro Kd.five q.p.xs)], 6, 209, [1, 2, 3, 4, 5, 6, 7, 8, 9, 10, 11, 12, 13]⟩
def E53 (q : P53) : St V :=
  ⟨[(0, .sl false 0 0 5 q.p.xs.length q.p.c), (3, .tt), (4, .ptr 1 0), (5, .sl true 2 0 1 3 3), (6, .sl true 3 0 1 3 3), (7, .int .i64 (q.x.i : Int))],
   [(3, .arr 3 Kd.int q.x.ws 0), (2, .arr 3 Kd.int q.x.hs 0), (1, .obj (oC q.x.s)), (0, .ro Kd.five q.p.xs)], 6, 209, [1, 2, 3, 4, 5, 6, 7, 8, 9, 10, 11, 12, 13]⟩
def L53 : LoopS V := keepLoop [0, 3, 4, 5, 6, 7, 17] (loopH 6 (fun q : P53 => I53 q 0) (fun _ (_ : Unit) => True) (fun q _ => E53 q))
def L50 : LoopS V := loopH 4 (fun p : P4 => I5 p ⟨0, MC.mk0 3 3, [-1, -1, -1], [0, 0, 0]⟩) (fun _ (_ : X5) => True) (fun p x => I5 p x)

noncomputable def cfg12 : Cfg Try.prog V := ⟨tab, kinds, fun _ => none, hooks3, fun f id => match f, id with | 5, 3 => some L53 | _, _ => none⟩
noncomputable def cfg11 : Cfg Try.prog V := ⟨tab, kinds, fun _ => none, hooks3, fun f id => match f, id with | 5, 0 => some L50 | _, _ => none⟩
theorem b53 (q : P53) (j : Nat) : runCode cfg3 60 5 (loopOf Try.f5 3) (I53 q j) (stopK [0, 3, 4, 5, 6, 7, 17]) =
  Out.ite (decide ((↑j : Int) < 3))
    (Out.need (0 ≤ (↑j : Int) ∧ (↑j : Int) < 3)
      (Out.need (0 + j < q.x.hs.length)
        (Out.ite (q.x.s.holder (↑j : Int) != q.x.hs.getD (0 + j) (V.enc Kd.int).dflt)
          (Out.stop EX.rt
            {
              env :=
                [(0, AV.sl false 0 0 5 q.p.xs.length q.p.c), (3, AV.tt), (4, AV.ptr 1 0), (5, AV.sl true 2 0 1 3 3), (6, AV.sl true 3 0 1 3 3),
                  (7, AV.int IntKind.i64 (↑q.x.i : Int)), (17, AV.int IntKind.i64 (↑j : Int))],
              heap := [(3, Blk.arr 3 Kd.int q.x.ws 0), (2, Blk.arr 3 Kd.int q.x.hs 0), (1, Blk.obj (oC q.x.s)), (0, Blk.ro Kd.five q.p.xs)], nx := 6, nt := 209,
              tl := [1, 1, 2, 3, 4, 5, 6, 7, 8, 9, 10, 11, 12, 13] : St V })
          (Out.stop EX.nx
            {
              env :=
                [(0, AV.sl false 0 0 5 q.p.xs.length q.p.c), (3, AV.tt), (4, AV.ptr 1 0), (5, AV.sl true 2 0 1 3 3), (6, AV.sl true 3 0 1 3 3),
                  (7, AV.int IntKind.i64 (↑q.x.i : Int)), (17, AV.int IntKind.i64 (IntKind.i64.wrap ((↑j : Int) + 1)))],
              heap := [(3, Blk.arr 3 Kd.int q.x.ws 0), (2, Blk.arr 3 Kd.int q.x.hs 0), (1, Blk.obj (oC q.x.s)), (0, Blk.ro Kd.five q.p.xs)], nx := 6, nt := 209,
              tl := [1, 1, 2, 3, 4, 5, 6, 7, 8, 9, 10, 11, 12, 13] : St V }))))
    (Out.stop (EX.ex 3)
      {
        env :=
          [(0, AV.sl false 0 0 5 q.p.xs.length q.p.c), (3, AV.tt), (4, AV.ptr 1 0), (5, AV.sl true 2 0 1 3 3), (6, AV.sl true 3 0 1 3 3),
            (7, AV.int IntKind.i64 (↑q.x.i : Int)), (17, AV.int IntKind.i64 (↑j : Int))],
        heap := [(3, Blk.arr 3 Kd.int q.x.ws 0), (2, Blk.arr 3 Kd.int q.x.hs 0), (1, Blk.obj (oC q.x.s)), (0, Blk.ro Kd.five q.p.xs)], nx := 6, nt := 209,
        tl := [1, 2, 3, 4, 5, 6, 7, 8, 9, 10, 11, 12, 13] : St V }) := by kernel_rfl

theorem b50 (p : P4) (x : X5) : runCode cfg12 60 5 (loopOf Try.f5 0) (I5 p x) (stopK [0, 3, 4, 5, 6, 7]) =
  Out.ite (decide ((↑x.i : Int) < (↑p.xs.length : Int)))
    (Out.need (0 ≤ (↑x.i : Int) ∧ (↑x.i : Int) < (↑p.xs.length : Int))
      (Out.need (0 + (↑x.i : Int).toNat < p.xs.length)
        (Out.need (0 ≤ (↑x.i : Int) ∧ (↑x.i : Int) < (↑p.xs.length : Int))
          (Out.need (0 + (↑x.i : Int).toNat < p.xs.length)
            (Out.need (0 ≤ (↑x.i : Int) ∧ (↑x.i : Int) < (↑p.xs.length : Int))
              (Out.need (0 + (↑x.i : Int).toNat < p.xs.length)
                (Out.need (0 ≤ (↑x.i : Int) ∧ (↑x.i : Int) < (↑p.xs.length : Int))
                  (Out.need (0 + (↑x.i : Int).toNat < p.xs.length)
                    (Out.ite (bitsOp BinOp.and IntKind.i64 (p.xs.getD (0 + (↑x.i : Int).toNat) (V.enc Kd.five).dflt).a 7 == 0)
                      (Out.need x.s.room
                        (Out.need
                          (0 ≤ (bitsOp BinOp.and IntKind.i64 (p.xs.getD (0 + (↑x.i : Int).toNat) (V.enc Kd.five).dflt).c 1023).tmod 3 ∧
                            (bitsOp BinOp.and IntKind.i64 (p.xs.getD (0 + (↑x.i : Int).toNat) (V.enc Kd.five).dflt).c 1023).tmod 3 < 3)
                          (Out.need
                            (0 + ((bitsOp BinOp.and IntKind.i64 (p.xs.getD (0 + (↑x.i : Int).toNat) (V.enc Kd.five).dflt).c 1023).tmod 3).toNat < x.ws.length)
                            (Out.ite
                              ((x.s.load (bitsOp BinOp.and IntKind.i64 (p.xs.getD (0 + (↑x.i : Int).toNat) (V.enc Kd.five).dflt).b 7)
                                    ((bitsOp BinOp.and IntKind.i64 (p.xs.getD (0 + (↑x.i : Int).toNat) (V.enc Kd.five).dflt).c 1023).tmod 3)).fst !=
                                x.ws.getD (0 + ((bitsOp BinOp.and IntKind.i64 (p.xs.getD (0 + (↑x.i : Int).toNat) (V.enc Kd.five).dflt).c 1023).tmod 3).toNat)
                                  (V.enc Kd.int).dflt)
                              (Out.stop EX.rt
                                {
                                  env :=
                                    [(0, AV.sl false 0 0 5 p.xs.length p.c), (3, AV.tt), (4, AV.ptr 1 0), (5, AV.sl true 2 0 1 3 3), (6, AV.sl true 3 0 1 3 3),
                                      (7, AV.int IntKind.i64 (↑x.i : Int))],
                                  heap :=
                                    [(3, Blk.arr 3 Kd.int x.ws 0), (2, Blk.arr 3 Kd.int x.hs 0),
                                      (1,
                                        Blk.obj
                                          (oC
                                            (x.s.load (bitsOp BinOp.and IntKind.i64 (p.xs.getD (0 + (↑x.i : Int).toNat) (V.enc Kd.five).dflt).b 7)
                                                  ((bitsOp BinOp.and IntKind.i64 (p.xs.getD (0 + (↑x.i : Int).toNat) (V.enc Kd.five).dflt).c 1023).tmod
                                                    3)).snd.snd)),
                                      (0, Blk.ro Kd.five p.xs)],
                                  nx := 4, nt := 209, tl := [1, 1, 2, 3, 4, 5, 6, 7, 8, 9, 10, 11, 12, 13] : St V })
                              (Out.ite
                                ((x.s.load (bitsOp BinOp.and IntKind.i64 (p.xs.getD (0 + (↑x.i : Int).toNat) (V.enc Kd.five).dflt).b 7)
                                        ((bitsOp BinOp.and IntKind.i64 (p.xs.getD (0 + (↑x.i : Int).toNat) (V.enc Kd.five).dflt).c 1023).tmod 3)).snd.fst !=
                                  0)
                                (Out.stop EX.rt
                                  {
                                    env :=
                                      [(0, AV.sl false 0 0 5 p.xs.length p.c), (3, AV.tt), (4, AV.ptr 1 0), (5, AV.sl true 2 0 1 3 3), (6, AV.sl true 3 0 1 3 3),
                                        (7, AV.int IntKind.i64 (↑x.i : Int))],
                                    heap :=
                                      [(3, Blk.arr 3 Kd.int x.ws 0), (2, Blk.arr 3 Kd.int x.hs 0),
                                        (1,
                                          Blk.obj
                                            (oC
                                              (x.s.load (bitsOp BinOp.and IntKind.i64 (p.xs.getD (0 + (↑x.i : Int).toNat) (V.enc Kd.five).dflt).b 7)
                                                    ((bitsOp BinOp.and IntKind.i64 (p.xs.getD (0 + (↑x.i : Int).toNat) (V.enc Kd.five).dflt).c 1023).tmod
                                                      3)).snd.snd)),
                                        (0, Blk.ro Kd.five p.xs)],
                                    nx := 4, nt := 209, tl := [1, 1, 2, 3, 4, 5, 6, 7, 8, 9, 10, 11, 12, 13] : St V })
                                (Out.need (LoopFor Try.prog 5 3 (loopOf Try.f5 3) L53)
                                  (Out.ex (P53 → Prop) fun y =>
                                    Out.need
                                      (4 ≤ 6 ∧
                                        SImp 6
                                          {
                                            env :=
                                              [(0, AV.sl false 0 0 5 p.xs.length p.c), (3, AV.tt), (4, AV.ptr 1 0), (5, AV.sl true 2 0 1 3 3),
                                                (6, AV.sl true 3 0 1 3 3), (7, AV.int IntKind.i64 (↑x.i : Int)), (17, AV.lit IntKind.i64 0)],
                                            heap :=
                                              [(3, Blk.arr 3 Kd.int x.ws 0), (2, Blk.arr 3 Kd.int x.hs 0),
                                                (1,
                                                  Blk.obj
                                                    (oC
                                                      (x.s.load (bitsOp BinOp.and IntKind.i64 (p.xs.getD (0 + (↑x.i : Int).toNat) (V.enc Kd.five).dflt).b 7)
                                                            ((bitsOp BinOp.and IntKind.i64 (p.xs.getD (0 + (↑x.i : Int).toNat) (V.enc Kd.five).dflt).c 1023).tmod
                                                              3)).snd.snd)),
                                                (0, Blk.ro Kd.five p.xs)],
                                            nx := 4, nt := 209, tl := [1, 1, 2, 3, 4, 5, 6, 7, 8, 9, 10, 11, 12, 13] : St V }
                                          (fun q => I53 q 0) y)
                                      (Out.all P53 fun y_1 =>
                                        Out.asm (y y_1)
                                          (Out.all Unit fun y =>
                                            Out.asm ((fun x x_1 => True) y_1 y)
                                              (Out.stop EX.nx
                                                {
                                                  env :=
                                                    [(0, AV.sl false 0 0 5 y_1.p.xs.length y_1.p.c), (3, AV.tt), (4, AV.ptr 1 0), (5, AV.sl true 2 0 1 3 3),
                                                      (6, AV.sl true 3 0 1 3 3), (7, AV.int IntKind.i64 (IntKind.i64.wrap ((↑y_1.x.i : Int) + 1)))],
                                                  heap :=
                                                    [(3, Blk.arr 3 Kd.int y_1.x.ws 0), (2, Blk.arr 3 Kd.int y_1.x.hs 0), (1, Blk.obj (oC y_1.x.s)),
                                                      (0, Blk.ro Kd.five y_1.p.xs)],
                                                  nx := 6, nt := 209, tl := [1, 2, 3, 4, 5, 6, 7, 8, 9, 10, 11, 12, 13] : St V }))))))))))
                      (Out.ite (bitsOp BinOp.and IntKind.i64 (p.xs.getD (0 + (↑x.i : Int).toNat) (V.enc Kd.five).dflt).a 7 == 1)
                        (Out.need x.s.room
                          (Out.ite
                            ((x.s.store (bitsOp BinOp.and IntKind.i64 (p.xs.getD (0 + (↑x.i : Int).toNat) (V.enc Kd.five).dflt).b 7)
                                  ((bitsOp BinOp.and IntKind.i64 (p.xs.getD (0 + (↑x.i : Int).toNat) (V.enc Kd.five).dflt).c 1023).tmod 3)
                                  (p.xs.getD (0 + (↑x.i : Int).toNat) (V.enc Kd.five).dflt).d).fst !=
                              0)
                            (Out.stop EX.rt
                              {
                                env :=
                                  [(0, AV.sl false 0 0 5 p.xs.length p.c), (3, AV.tt), (4, AV.ptr 1 0), (5, AV.sl true 2 0 1 3 3), (6, AV.sl true 3 0 1 3 3),
                                    (7, AV.int IntKind.i64 (↑x.i : Int))],
                                heap :=
                                  [(3, Blk.arr 3 Kd.int x.ws 0), (2, Blk.arr 3 Kd.int x.hs 0),
                                    (1,
                                      Blk.obj
                                        (oC
                                          (x.s.store (bitsOp BinOp.and IntKind.i64 (p.xs.getD (0 + (↑x.i : Int).toNat) (V.enc Kd.five).dflt).b 7)
                                              ((bitsOp BinOp.and IntKind.i64 (p.xs.getD (0 + (↑x.i : Int).toNat) (V.enc Kd.five).dflt).c 1023).tmod 3)
                                              (p.xs.getD (0 + (↑x.i : Int).toNat) (V.enc Kd.five).dflt).d).snd)),
                                    (0, Blk.ro Kd.five p.xs)],
                                nx := 4, nt := 209, tl := [1, 1, 2, 3, 4, 5, 6, 7, 8, 9, 10, 11, 12, 13] : St V })
                            (Out.need
                              (0 ≤ (bitsOp BinOp.and IntKind.i64 (p.xs.getD (0 + (↑x.i : Int).toNat) (V.enc Kd.five).dflt).c 1023).tmod 3 ∧
                                (bitsOp BinOp.and IntKind.i64 (p.xs.getD (0 + (↑x.i : Int).toNat) (V.enc Kd.five).dflt).c 1023).tmod 3 < 3)
                              (Out.need
                                (0 + ((bitsOp BinOp.and IntKind.i64 (p.xs.getD (0 + (↑x.i : Int).toNat) (V.enc Kd.five).dflt).c 1023).tmod 3).toNat < x.ws.length)
                                (Out.need (LoopFor Try.prog 5 3 (loopOf Try.f5 3) L53)
                                  (Out.ex (P53 → Prop) fun y =>
                                    Out.need
                                      (5 ≤ 6 ∧
                                        SImp 6
                                          {
                                            env :=
                                              [(0, AV.sl false 0 0 5 p.xs.length p.c), (3, AV.tt), (4, AV.ptr 1 0), (5, AV.sl true 2 0 1 3 3),
                                                (6, AV.sl true 3 0 1 3 3), (7, AV.int IntKind.i64 (↑x.i : Int)), (17, AV.lit IntKind.i64 0)],
                                            heap :=
                                              [(3,
                                                  Blk.arr 3 Kd.int
                                                    (x.ws.set
                                                      (0 +
                                                        ((bitsOp BinOp.and IntKind.i64 (p.xs.getD (0 + (↑x.i : Int).toNat) (V.enc Kd.five).dflt).c 1023).tmod
                                                            3).toNat)
                                                      (p.xs.getD (0 + (↑x.i : Int).toNat) (V.enc Kd.five).dflt).d)
                                                    0),
                                                (2, Blk.arr 3 Kd.int x.hs 0),
                                                (1,
                                                  Blk.obj
                                                    (oC
                                                      (x.s.store (bitsOp BinOp.and IntKind.i64 (p.xs.getD (0 + (↑x.i : Int).toNat) (V.enc Kd.five).dflt).b 7)
                                                          ((bitsOp BinOp.and IntKind.i64 (p.xs.getD (0 + (↑x.i : Int).toNat) (V.enc Kd.five).dflt).c 1023).tmod 3)
                                                          (p.xs.getD (0 + (↑x.i : Int).toNat) (V.enc Kd.five).dflt).d).snd)),
                                                (0, Blk.ro Kd.five p.xs)],
                                            nx := 5, nt := 209, tl := [3, 1, 1, 2, 3, 4, 5, 6, 7, 8, 9, 10, 11, 12, 13] : St V }
                                          (fun q => I53 q 0) y)
                                      (Out.all P53 fun y_1 =>
                                        Out.asm (y y_1)
                                          (Out.all Unit fun y =>
                                            Out.asm ((fun x x_1 => True) y_1 y)
                                              (Out.stop EX.nx
                                                {
                                                  env :=
                                                    [(0, AV.sl false 0 0 5 y_1.p.xs.length y_1.p.c), (3, AV.tt), (4, AV.ptr 1 0), (5, AV.sl true 2 0 1 3 3),
                                                      (6, AV.sl true 3 0 1 3 3), (7, AV.int IntKind.i64 (IntKind.i64.wrap ((↑y_1.x.i : Int) + 1)))],
                                                  heap :=
                                                    [(3, Blk.arr 3 Kd.int y_1.x.ws 0), (2, Blk.arr 3 Kd.int y_1.x.hs 0), (1, Blk.obj (oC y_1.x.s)),
                                                      (0, Blk.ro Kd.five y_1.p.xs)],
                                                  nx := 6, nt := 209, tl := [1, 2, 3, 4, 5, 6, 7, 8, 9, 10, 11, 12, 13] : St V })))))))))
                        (Out.ite (bitsOp BinOp.and IntKind.i64 (p.xs.getD (0 + (↑x.i : Int).toNat) (V.enc Kd.five).dflt).a 7 == 2)
                          (Out.need (0 ≤ (↑x.i : Int) ∧ (↑x.i : Int) < (↑p.xs.length : Int))
                            (Out.need (0 + (↑x.i : Int).toNat < p.xs.length)
                              (Out.need x.s.room
                                (Out.need
                                  (0 ≤ (bitsOp BinOp.and IntKind.i64 (p.xs.getD (0 + (↑x.i : Int).toNat) (V.enc Kd.five).dflt).c 1023).tmod 3 ∧
                                    (bitsOp BinOp.and IntKind.i64 (p.xs.getD (0 + (↑x.i : Int).toNat) (V.enc Kd.five).dflt).c 1023).tmod 3 < 3)
                                  (Out.need
                                    (0 + ((bitsOp BinOp.and IntKind.i64 (p.xs.getD (0 + (↑x.i : Int).toNat) (V.enc Kd.five).dflt).c 1023).tmod 3).toNat <
                                      x.ws.length)
                                    (Out.ite
                                      (!(x.s.swap (bitsOp BinOp.and IntKind.i64 (p.xs.getD (0 + (↑x.i : Int).toNat) (V.enc Kd.five).dflt).b 7)
                                              ((bitsOp BinOp.and IntKind.i64 (p.xs.getD (0 + (↑x.i : Int).toNat) (V.enc Kd.five).dflt).c 1023).tmod 3)
                                              (p.xs.getD (0 + (↑x.i : Int).toNat) (V.enc Kd.five).dflt).d
                                              (p.xs.getD (0 + (↑x.i : Int).toNat) (V.enc Kd.five).dflt).e).fst ==
                                          (x.ws.getD
                                              (0 + ((bitsOp BinOp.and IntKind.i64 (p.xs.getD (0 + (↑x.i : Int).toNat) (V.enc Kd.five).dflt).c 1023).tmod 3).toNat)
                                              (V.enc Kd.int).dflt ==
                                            (p.xs.getD (0 + (↑x.i : Int).toNat) (V.enc Kd.five).dflt).d))
                                      (Out.stop EX.rt
                                        {
                                          env :=
                                            [(0, AV.sl false 0 0 5 p.xs.length p.c), (3, AV.tt), (4, AV.ptr 1 0), (5, AV.sl true 2 0 1 3 3),
                                              (6, AV.sl true 3 0 1 3 3), (7, AV.int IntKind.i64 (↑x.i : Int))],
                                          heap :=
                                            [(3, Blk.arr 3 Kd.int x.ws 0), (2, Blk.arr 3 Kd.int x.hs 0),
                                              (1,
                                                Blk.obj
                                                  (oC
                                                    (x.s.swap (bitsOp BinOp.and IntKind.i64 (p.xs.getD (0 + (↑x.i : Int).toNat) (V.enc Kd.five).dflt).b 7)
                                                          ((bitsOp BinOp.and IntKind.i64 (p.xs.getD (0 + (↑x.i : Int).toNat) (V.enc Kd.five).dflt).c 1023).tmod 3)
                                                          (p.xs.getD (0 + (↑x.i : Int).toNat) (V.enc Kd.five).dflt).d
                                                          (p.xs.getD (0 + (↑x.i : Int).toNat) (V.enc Kd.five).dflt).e).snd.snd)),
                                              (0, Blk.ro Kd.five p.xs)],
                                          nx := 4, nt := 209, tl := [1, 1, 2, 3, 4, 5, 6, 7, 8, 9, 10, 11, 12, 13] : St V })
                                      (Out.ite
                                        ((x.s.swap (bitsOp BinOp.and IntKind.i64 (p.xs.getD (0 + (↑x.i : Int).toNat) (V.enc Kd.five).dflt).b 7)
                                                ((bitsOp BinOp.and IntKind.i64 (p.xs.getD (0 + (↑x.i : Int).toNat) (V.enc Kd.five).dflt).c 1023).tmod 3)
                                                (p.xs.getD (0 + (↑x.i : Int).toNat) (V.enc Kd.five).dflt).d
                                                (p.xs.getD (0 + (↑x.i : Int).toNat) (V.enc Kd.five).dflt).e).snd.fst !=
                                          0)
                                        (Out.stop EX.rt
                                          {
                                            env :=
                                              [(0, AV.sl false 0 0 5 p.xs.length p.c), (3, AV.tt), (4, AV.ptr 1 0), (5, AV.sl true 2 0 1 3 3),
                                                (6, AV.sl true 3 0 1 3 3), (7, AV.int IntKind.i64 (↑x.i : Int))],
                                            heap :=
                                              [(3, Blk.arr 3 Kd.int x.ws 0), (2, Blk.arr 3 Kd.int x.hs 0),
                                                (1,
                                                  Blk.obj
                                                    (oC
                                                      (x.s.swap (bitsOp BinOp.and IntKind.i64 (p.xs.getD (0 + (↑x.i : Int).toNat) (V.enc Kd.five).dflt).b 7)
                                                            ((bitsOp BinOp.and IntKind.i64 (p.xs.getD (0 + (↑x.i : Int).toNat) (V.enc Kd.five).dflt).c 1023).tmod
                                                              3)
                                                            (p.xs.getD (0 + (↑x.i : Int).toNat) (V.enc Kd.five).dflt).d
                                                            (p.xs.getD (0 + (↑x.i : Int).toNat) (V.enc Kd.five).dflt).e).snd.snd)),
                                                (0, Blk.ro Kd.five p.xs)],
                                            nx := 4, nt := 209, tl := [1, 1, 2, 3, 4, 5, 6, 7, 8, 9, 10, 11, 12, 13] : St V })
                                        (Out.ite
                                          (x.s.swap (bitsOp BinOp.and IntKind.i64 (p.xs.getD (0 + (↑x.i : Int).toNat) (V.enc Kd.five).dflt).b 7)
                                              ((bitsOp BinOp.and IntKind.i64 (p.xs.getD (0 + (↑x.i : Int).toNat) (V.enc Kd.five).dflt).c 1023).tmod 3)
                                              (p.xs.getD (0 + (↑x.i : Int).toNat) (V.enc Kd.five).dflt).d
                                              (p.xs.getD (0 + (↑x.i : Int).toNat) (V.enc Kd.five).dflt).e).fst
                                          (Out.need (0 ≤ (↑x.i : Int) ∧ (↑x.i : Int) < (↑p.xs.length : Int))
                                            (Out.need (0 + (↑x.i : Int).toNat < p.xs.length)
                                              (Out.need
                                                (0 ≤ (bitsOp BinOp.and IntKind.i64 (p.xs.getD (0 + (↑x.i : Int).toNat) (V.enc Kd.five).dflt).c 1023).tmod 3 ∧
                                                  (bitsOp BinOp.and IntKind.i64 (p.xs.getD (0 + (↑x.i : Int).toNat) (V.enc Kd.five).dflt).c 1023).tmod 3 < 3)
                                                (Out.need
                                                  (0 +
                                                      ((bitsOp BinOp.and IntKind.i64 (p.xs.getD (0 + (↑x.i : Int).toNat) (V.enc Kd.five).dflt).c 1023).tmod
                                                          3).toNat <
                                                    x.ws.length)
                                                  (Out.need (LoopFor Try.prog 5 3 (loopOf Try.f5 3) L53)
                                                    (Out.ex (P53 → Prop) fun y =>
                                                      Out.need
                                                        (5 ≤ 6 ∧
                                                          SImp 6
                                                            {
                                                              env :=
                                                                [(0, AV.sl false 0 0 5 p.xs.length p.c), (3, AV.tt), (4, AV.ptr 1 0), (5, AV.sl true 2 0 1 3 3),
                                                                  (6, AV.sl true 3 0 1 3 3), (7, AV.int IntKind.i64 (↑x.i : Int)), (17, AV.lit IntKind.i64 0)],
                                                              heap :=
                                                                [(3,
                                                                    Blk.arr 3 Kd.int
                                                                      (x.ws.set
                                                                        (0 +
                                                                          ((bitsOp BinOp.and IntKind.i64
                                                                                  (p.xs.getD (0 + (↑x.i : Int).toNat) (V.enc Kd.five).dflt).c 1023).tmod
                                                                              3).toNat)
                                                                        (p.xs.getD (0 + (↑x.i : Int).toNat) (V.enc Kd.five).dflt).e)
                                                                      0),
                                                                  (2, Blk.arr 3 Kd.int x.hs 0),
                                                                  (1,
                                                                    Blk.obj
                                                                      (oC
                                                                        (x.s.swap
                                                                              (bitsOp BinOp.and IntKind.i64
                                                                                (p.xs.getD (0 + (↑x.i : Int).toNat) (V.enc Kd.five).dflt).b 7)
                                                                              ((bitsOp BinOp.and IntKind.i64
                                                                                    (p.xs.getD (0 + (↑x.i : Int).toNat) (V.enc Kd.five).dflt).c 1023).tmod
                                                                                3)
                                                                              (p.xs.getD (0 + (↑x.i : Int).toNat) (V.enc Kd.five).dflt).d
                                                                              (p.xs.getD (0 + (↑x.i : Int).toNat) (V.enc Kd.five).dflt).e).snd.snd)),
                                                                  (0, Blk.ro Kd.five p.xs)],
                                                              nx := 5, nt := 209, tl := [3, 1, 1, 2, 3, 4, 5, 6, 7, 8, 9, 10, 11, 12, 13] : St V }
                                                            (fun q => I53 q 0) y)
                                                        (Out.all P53 fun y_1 =>
                                                          Out.asm (y y_1)
                                                            (Out.all Unit fun y =>
                                                              Out.asm ((fun x x_1 => True) y_1 y)
                                                                (Out.stop EX.nx
                                                                  {
                                                                    env :=
                                                                      [(0, AV.sl false 0 0 5 y_1.p.xs.length y_1.p.c), (3, AV.tt), (4, AV.ptr 1 0),
                                                                        (5, AV.sl true 2 0 1 3 3), (6, AV.sl true 3 0 1 3 3),
                                                                        (7, AV.int IntKind.i64 (IntKind.i64.wrap ((↑y_1.x.i : Int) + 1)))],
                                                                    heap :=
                                                                      [(3, Blk.arr 3 Kd.int y_1.x.ws 0), (2, Blk.arr 3 Kd.int y_1.x.hs 0),
                                                                        (1, Blk.obj (oC y_1.x.s)), (0, Blk.ro Kd.five y_1.p.xs)],
                                                                    nx := 6, nt := 209, tl := [1, 2, 3, 4, 5, 6, 7, 8, 9, 10, 11, 12, 13] : St V })))))))))
                                          (Out.need (LoopFor Try.prog 5 3 (loopOf Try.f5 3) L53)
                                            (Out.ex (P53 → Prop) fun y =>
                                              Out.need
                                                (4 ≤ 6 ∧
                                                  SImp 6
                                                    {
                                                      env :=
                                                        [(0, AV.sl false 0 0 5 p.xs.length p.c), (3, AV.tt), (4, AV.ptr 1 0), (5, AV.sl true 2 0 1 3 3),
                                                          (6, AV.sl true 3 0 1 3 3), (7, AV.int IntKind.i64 (↑x.i : Int)), (17, AV.lit IntKind.i64 0)],
                                                      heap :=
                                                        [(3, Blk.arr 3 Kd.int x.ws 0), (2, Blk.arr 3 Kd.int x.hs 0),
                                                          (1,
                                                            Blk.obj
                                                              (oC
                                                                (x.s.swap
                                                                      (bitsOp BinOp.and IntKind.i64 (p.xs.getD (0 + (↑x.i : Int).toNat) (V.enc Kd.five).dflt).b 7)
                                                                      ((bitsOp BinOp.and IntKind.i64 (p.xs.getD (0 + (↑x.i : Int).toNat) (V.enc Kd.five).dflt).c
                                                                            1023).tmod
                                                                        3)
                                                                      (p.xs.getD (0 + (↑x.i : Int).toNat) (V.enc Kd.five).dflt).d
                                                                      (p.xs.getD (0 + (↑x.i : Int).toNat) (V.enc Kd.five).dflt).e).snd.snd)),
                                                          (0, Blk.ro Kd.five p.xs)],
                                                      nx := 4, nt := 209, tl := [1, 1, 2, 3, 4, 5, 6, 7, 8, 9, 10, 11, 12, 13] : St V }
                                                    (fun q => I53 q 0) y)
                                                (Out.all P53 fun y_1 =>
                                                  Out.asm (y y_1)
                                                    (Out.all Unit fun y =>
                                                      Out.asm ((fun x x_1 => True) y_1 y)
                                                        (Out.stop EX.nx
                                                          {
                                                            env :=
                                                              [(0, AV.sl false 0 0 5 y_1.p.xs.length y_1.p.c), (3, AV.tt), (4, AV.ptr 1 0),
                                                                (5, AV.sl true 2 0 1 3 3), (6, AV.sl true 3 0 1 3 3),
                                                                (7, AV.int IntKind.i64 (IntKind.i64.wrap ((↑y_1.x.i : Int) + 1)))],
                                                            heap :=
                                                              [(3, Blk.arr 3 Kd.int y_1.x.ws 0), (2, Blk.arr 3 Kd.int y_1.x.hs 0), (1, Blk.obj (oC y_1.x.s)),
                                                                (0, Blk.ro Kd.five y_1.p.xs)],
                                                            nx := 6, nt := 209, tl := [1, 2, 3, 4, 5, 6, 7, 8, 9, 10, 11, 12, 13] : St V })))))))))))))
                          (Out.ite (bitsOp BinOp.and IntKind.i64 (p.xs.getD (0 + (↑x.i : Int).toNat) (V.enc Kd.five).dflt).a 7 == 3)
                            (Out.ite (bitsOp BinOp.and IntKind.i64 (p.xs.getD (0 + (↑x.i : Int).toNat) (V.enc Kd.five).dflt).a 7 == 3)
                              (Out.need
                                (0 ≤ (bitsOp BinOp.and IntKind.i64 (p.xs.getD (0 + (↑x.i : Int).toNat) (V.enc Kd.five).dflt).c 1023).tmod 3 ∧
                                  (bitsOp BinOp.and IntKind.i64 (p.xs.getD (0 + (↑x.i : Int).toNat) (V.enc Kd.five).dflt).c 1023).tmod 3 < 3)
                                (Out.need
                                  (0 + ((bitsOp BinOp.and IntKind.i64 (p.xs.getD (0 + (↑x.i : Int).toNat) (V.enc Kd.five).dflt).c 1023).tmod 3).toNat <
                                    x.hs.length)
                                  (Out.need x.s.room
                                    (Out.ite
                                      (!((x.s.take (bitsOp BinOp.and IntKind.i64 (p.xs.getD (0 + (↑x.i : Int).toNat) (V.enc Kd.five).dflt).b 7)
                                                  ((bitsOp BinOp.and IntKind.i64 (p.xs.getD (0 + (↑x.i : Int).toNat) (V.enc Kd.five).dflt).c 1023).tmod 3)
                                                  4).snd.fst ==
                                            0) ==
                                          decide
                                            (x.hs.getD
                                                (0 +
                                                  ((bitsOp BinOp.and IntKind.i64 (p.xs.getD (0 + (↑x.i : Int).toNat) (V.enc Kd.five).dflt).c 1023).tmod 3).toNat)
                                                (V.enc Kd.int).dflt <
                                              0))
                                      (Out.stop EX.rt
                                        {
                                          env :=
                                            [(0, AV.sl false 0 0 5 p.xs.length p.c), (3, AV.tt), (4, AV.ptr 1 0), (5, AV.sl true 2 0 1 3 3),
                                              (6, AV.sl true 3 0 1 3 3), (7, AV.int IntKind.i64 (↑x.i : Int))],
                                          heap :=
                                            [(3, Blk.arr 3 Kd.int x.ws 0), (2, Blk.arr 3 Kd.int x.hs 0),
                                              (1,
                                                Blk.obj
                                                  (oC
                                                    (x.s.take (bitsOp BinOp.and IntKind.i64 (p.xs.getD (0 + (↑x.i : Int).toNat) (V.enc Kd.five).dflt).b 7)
                                                          ((bitsOp BinOp.and IntKind.i64 (p.xs.getD (0 + (↑x.i : Int).toNat) (V.enc Kd.five).dflt).c 1023).tmod 3)
                                                          4).snd.snd)),
                                              (0, Blk.ro Kd.five p.xs)],
                                          nx := 4, nt := 209, tl := [1, 1, 2, 3, 4, 5, 6, 7, 8, 9, 10, 11, 12, 13] : St V })
                                      (Out.need
                                        (0 ≤ (bitsOp BinOp.and IntKind.i64 (p.xs.getD (0 + (↑x.i : Int).toNat) (V.enc Kd.five).dflt).c 1023).tmod 3 ∧
                                          (bitsOp BinOp.and IntKind.i64 (p.xs.getD (0 + (↑x.i : Int).toNat) (V.enc Kd.five).dflt).c 1023).tmod 3 < 3)
                                        (Out.need
                                          (0 + ((bitsOp BinOp.and IntKind.i64 (p.xs.getD (0 + (↑x.i : Int).toNat) (V.enc Kd.five).dflt).c 1023).tmod 3).toNat <
                                            x.hs.length)
                                          (Out.ite
                                            (decide
                                              (x.hs.getD
                                                  (0 +
                                                    ((bitsOp BinOp.and IntKind.i64 (p.xs.getD (0 + (↑x.i : Int).toNat) (V.enc Kd.five).dflt).c 1023).tmod
                                                        3).toNat)
                                                  (V.enc Kd.int).dflt <
                                                0))
                                            (Out.need
                                              (0 ≤ (bitsOp BinOp.and IntKind.i64 (p.xs.getD (0 + (↑x.i : Int).toNat) (V.enc Kd.five).dflt).c 1023).tmod 3 ∧
                                                (bitsOp BinOp.and IntKind.i64 (p.xs.getD (0 + (↑x.i : Int).toNat) (V.enc Kd.five).dflt).c 1023).tmod 3 < 3)
                                              (Out.need
                                                (0 +
                                                    ((bitsOp BinOp.and IntKind.i64 (p.xs.getD (0 + (↑x.i : Int).toNat) (V.enc Kd.five).dflt).c 1023).tmod
                                                        3).toNat <
                                                  x.hs.length)
                                                (Out.need (LoopFor Try.prog 5 3 (loopOf Try.f5 3) L53)
                                                  (Out.ex (P53 → Prop) fun y =>
                                                    Out.need
                                                      (5 ≤ 6 ∧
                                                        SImp 6
                                                          {
                                                            env :=
                                                              [(0, AV.sl false 0 0 5 p.xs.length p.c), (3, AV.tt), (4, AV.ptr 1 0), (5, AV.sl true 2 0 1 3 3),
                                                                (6, AV.sl true 3 0 1 3 3), (7, AV.int IntKind.i64 (↑x.i : Int)), (17, AV.lit IntKind.i64 0)],
                                                            heap :=
                                                              [(3, Blk.arr 3 Kd.int x.ws 0),
                                                                (2,
                                                                  Blk.arr 3 Kd.int
                                                                    (x.hs.set
                                                                      (0 +
                                                                        ((bitsOp BinOp.and IntKind.i64 (p.xs.getD (0 + (↑x.i : Int).toNat) (V.enc Kd.five).dflt).c
                                                                                1023).tmod
                                                                            3).toNat)
                                                                      (bitsOp BinOp.and IntKind.i64 (p.xs.getD (0 + (↑x.i : Int).toNat) (V.enc Kd.five).dflt).b
                                                                        7))
                                                                    0),
                                                                (1,
                                                                  Blk.obj
                                                                    (oC
                                                                      (x.s.take
                                                                            (bitsOp BinOp.and IntKind.i64
                                                                              (p.xs.getD (0 + (↑x.i : Int).toNat) (V.enc Kd.five).dflt).b 7)
                                                                            ((bitsOp BinOp.and IntKind.i64
                                                                                  (p.xs.getD (0 + (↑x.i : Int).toNat) (V.enc Kd.five).dflt).c 1023).tmod
                                                                              3)
                                                                            4).snd.snd)),
                                                                (0, Blk.ro Kd.five p.xs)],
                                                            nx := 5, nt := 209, tl := [2, 1, 1, 2, 3, 4, 5, 6, 7, 8, 9, 10, 11, 12, 13] : St V }
                                                          (fun q => I53 q 0) y)
                                                      (Out.all P53 fun y_1 =>
                                                        Out.asm (y y_1)
                                                          (Out.all Unit fun y =>
                                                            Out.asm ((fun x x_1 => True) y_1 y)
                                                              (Out.stop EX.nx
                                                                {
                                                                  env :=
                                                                    [(0, AV.sl false 0 0 5 y_1.p.xs.length y_1.p.c), (3, AV.tt), (4, AV.ptr 1 0),
                                                                      (5, AV.sl true 2 0 1 3 3), (6, AV.sl true 3 0 1 3 3),
                                                                      (7, AV.int IntKind.i64 (IntKind.i64.wrap ((↑y_1.x.i : Int) + 1)))],
                                                                  heap :=
                                                                    [(3, Blk.arr 3 Kd.int y_1.x.ws 0), (2, Blk.arr 3 Kd.int y_1.x.hs 0),
                                                                      (1, Blk.obj (oC y_1.x.s)), (0, Blk.ro Kd.five y_1.p.xs)],
                                                                  nx := 6, nt := 209, tl := [1, 2, 3, 4, 5, 6, 7, 8, 9, 10, 11, 12, 13] : St V })))))))
                                            (Out.need (LoopFor Try.prog 5 3 (loopOf Try.f5 3) L53)
                                              (Out.ex (P53 → Prop) fun y =>
                                                Out.need
                                                  (4 ≤ 6 ∧
                                                    SImp 6
                                                      {
                                                        env :=
                                                          [(0, AV.sl false 0 0 5 p.xs.length p.c), (3, AV.tt), (4, AV.ptr 1 0), (5, AV.sl true 2 0 1 3 3),
                                                            (6, AV.sl true 3 0 1 3 3), (7, AV.int IntKind.i64 (↑x.i : Int)), (17, AV.lit IntKind.i64 0)],
                                                        heap :=
                                                          [(3, Blk.arr 3 Kd.int x.ws 0), (2, Blk.arr 3 Kd.int x.hs 0),
                                                            (1,
                                                              Blk.obj
                                                                (oC
                                                                  (x.s.take
                                                                        (bitsOp BinOp.and IntKind.i64 (p.xs.getD (0 + (↑x.i : Int).toNat) (V.enc Kd.five).dflt).b
                                                                          7)
                                                                        ((bitsOp BinOp.and IntKind.i64 (p.xs.getD (0 + (↑x.i : Int).toNat) (V.enc Kd.five).dflt).c
                                                                              1023).tmod
                                                                          3)
                                                                        4).snd.snd)),
                                                            (0, Blk.ro Kd.five p.xs)],
                                                        nx := 4, nt := 209, tl := [1, 1, 2, 3, 4, 5, 6, 7, 8, 9, 10, 11, 12, 13] : St V }
                                                      (fun q => I53 q 0) y)
                                                  (Out.all P53 fun y_1 =>
                                                    Out.asm (y y_1)
                                                      (Out.all Unit fun y =>
                                                        Out.asm ((fun x x_1 => True) y_1 y)
                                                          (Out.stop EX.nx
                                                            {
                                                              env :=
                                                                [(0, AV.sl false 0 0 5 y_1.p.xs.length y_1.p.c), (3, AV.tt), (4, AV.ptr 1 0),
                                                                  (5, AV.sl true 2 0 1 3 3), (6, AV.sl true 3 0 1 3 3),
                                                                  (7, AV.int IntKind.i64 (IntKind.i64.wrap ((↑y_1.x.i : Int) + 1)))],
                                                              heap :=
                                                                [(3, Blk.arr 3 Kd.int y_1.x.ws 0), (2, Blk.arr 3 Kd.int y_1.x.hs 0), (1, Blk.obj (oC y_1.x.s)),
                                                                  (0, Blk.ro Kd.five y_1.p.xs)],
                                                              nx := 6, nt := 209, tl := [1, 2, 3, 4, 5, 6, 7, 8, 9, 10, 11, 12, 13] : St V }))))))))))))
                              (Out.ite (bitsOp BinOp.and IntKind.i64 (p.xs.getD (0 + (↑x.i : Int).toNat) (V.enc Kd.five).dflt).a 7 == 5)
                                (Out.need x.s.room
                                  (Out.need
                                    (0 ≤ (bitsOp BinOp.and IntKind.i64 (p.xs.getD (0 + (↑x.i : Int).toNat) (V.enc Kd.five).dflt).c 1023).tmod 3 ∧
                                      (bitsOp BinOp.and IntKind.i64 (p.xs.getD (0 + (↑x.i : Int).toNat) (V.enc Kd.five).dflt).c 1023).tmod 3 < 3)
                                    (Out.need
                                      (0 + ((bitsOp BinOp.and IntKind.i64 (p.xs.getD (0 + (↑x.i : Int).toNat) (V.enc Kd.five).dflt).c 1023).tmod 3).toNat <
                                        x.hs.length)
                                      (Out.ite
                                        (!(x.s.take (bitsOp BinOp.and IntKind.i64 (p.xs.getD (0 + (↑x.i : Int).toNat) (V.enc Kd.five).dflt).b 7)
                                                ((bitsOp BinOp.and IntKind.i64 (p.xs.getD (0 + (↑x.i : Int).toNat) (V.enc Kd.five).dflt).c 1023).tmod 3) 5).fst ==
                                            decide
                                              (x.hs.getD
                                                  (0 +
                                                    ((bitsOp BinOp.and IntKind.i64 (p.xs.getD (0 + (↑x.i : Int).toNat) (V.enc Kd.five).dflt).c 1023).tmod
                                                        3).toNat)
                                                  (V.enc Kd.int).dflt <
                                                0))
                                        (Out.stop EX.rt
                                          {
                                            env :=
                                              [(0, AV.sl false 0 0 5 p.xs.length p.c), (3, AV.tt), (4, AV.ptr 1 0), (5, AV.sl true 2 0 1 3 3),
                                                (6, AV.sl true 3 0 1 3 3), (7, AV.int IntKind.i64 (↑x.i : Int))],
                                            heap :=
                                              [(3, Blk.arr 3 Kd.int x.ws 0), (2, Blk.arr 3 Kd.int x.hs 0),
                                                (1,
                                                  Blk.obj
                                                    (oC
                                                      (x.s.take (bitsOp BinOp.and IntKind.i64 (p.xs.getD (0 + (↑x.i : Int).toNat) (V.enc Kd.five).dflt).b 7)
                                                            ((bitsOp BinOp.and IntKind.i64 (p.xs.getD (0 + (↑x.i : Int).toNat) (V.enc Kd.five).dflt).c 1023).tmod
                                                              3)
                                                            5).snd.snd)),
                                                (0, Blk.ro Kd.five p.xs)],
                                            nx := 4, nt := 209, tl := [1, 1, 2, 3, 4, 5, 6, 7, 8, 9, 10, 11, 12, 13] : St V })
                                        (Out.ite
                                          (x.s.take (bitsOp BinOp.and IntKind.i64 (p.xs.getD (0 + (↑x.i : Int).toNat) (V.enc Kd.five).dflt).b 7)
                                              ((bitsOp BinOp.and IntKind.i64 (p.xs.getD (0 + (↑x.i : Int).toNat) (V.enc Kd.five).dflt).c 1023).tmod 3) 5).fst
                                          (Out.need
                                            (0 ≤ (bitsOp BinOp.and IntKind.i64 (p.xs.getD (0 + (↑x.i : Int).toNat) (V.enc Kd.five).dflt).c 1023).tmod 3 ∧
                                              (bitsOp BinOp.and IntKind.i64 (p.xs.getD (0 + (↑x.i : Int).toNat) (V.enc Kd.five).dflt).c 1023).tmod 3 < 3)
                                            (Out.need
                                              (0 +
                                                  ((bitsOp BinOp.and IntKind.i64 (p.xs.getD (0 + (↑x.i : Int).toNat) (V.enc Kd.five).dflt).c 1023).tmod 3).toNat <
                                                x.hs.length)
                                              (Out.need (LoopFor Try.prog 5 3 (loopOf Try.f5 3) L53)
                                                (Out.ex (P53 → Prop) fun y =>
                                                  Out.need
                                                    (5 ≤ 6 ∧
                                                      SImp 6
                                                        {
                                                          env :=
                                                            [(0, AV.sl false 0 0 5 p.xs.length p.c), (3, AV.tt), (4, AV.ptr 1 0), (5, AV.sl true 2 0 1 3 3),
                                                              (6, AV.sl true 3 0 1 3 3), (7, AV.int IntKind.i64 (↑x.i : Int)), (17, AV.lit IntKind.i64 0)],
                                                          heap :=
                                                            [(3, Blk.arr 3 Kd.int x.ws 0),
                                                              (2,
                                                                Blk.arr 3 Kd.int
                                                                  (x.hs.set
                                                                    (0 +
                                                                      ((bitsOp BinOp.and IntKind.i64 (p.xs.getD (0 + (↑x.i : Int).toNat) (V.enc Kd.five).dflt).c
                                                                              1023).tmod
                                                                          3).toNat)
                                                                    (bitsOp BinOp.and IntKind.i64 (p.xs.getD (0 + (↑x.i : Int).toNat) (V.enc Kd.five).dflt).b 7))
                                                                  0),
                                                              (1,
                                                                Blk.obj
                                                                  (oC
                                                                    (x.s.take
                                                                          (bitsOp BinOp.and IntKind.i64
                                                                            (p.xs.getD (0 + (↑x.i : Int).toNat) (V.enc Kd.five).dflt).b 7)
                                                                          ((bitsOp BinOp.and IntKind.i64
                                                                                (p.xs.getD (0 + (↑x.i : Int).toNat) (V.enc Kd.five).dflt).c 1023).tmod
                                                                            3)
                                                                          5).snd.snd)),
                                                              (0, Blk.ro Kd.five p.xs)],
                                                          nx := 5, nt := 209, tl := [2, 1, 1, 2, 3, 4, 5, 6, 7, 8, 9, 10, 11, 12, 13] : St V }
                                                        (fun q => I53 q 0) y)
                                                    (Out.all P53 fun y_1 =>
                                                      Out.asm (y y_1)
                                                        (Out.all Unit fun y =>
                                                          Out.asm ((fun x x_1 => True) y_1 y)
                                                            (Out.stop EX.nx
                                                              {
                                                                env :=
                                                                  [(0, AV.sl false 0 0 5 y_1.p.xs.length y_1.p.c), (3, AV.tt), (4, AV.ptr 1 0),
                                                                    (5, AV.sl true 2 0 1 3 3), (6, AV.sl true 3 0 1 3 3),
                                                                    (7, AV.int IntKind.i64 (IntKind.i64.wrap ((↑y_1.x.i : Int) + 1)))],
                                                                heap :=
                                                                  [(3, Blk.arr 3 Kd.int y_1.x.ws 0), (2, Blk.arr 3 Kd.int y_1.x.hs 0), (1, Blk.obj (oC y_1.x.s)),
                                                                    (0, Blk.ro Kd.five y_1.p.xs)],
                                                                nx := 6, nt := 209, tl := [1, 2, 3, 4, 5, 6, 7, 8, 9, 10, 11, 12, 13] : St V })))))))
                                          (Out.need (LoopFor Try.prog 5 3 (loopOf Try.f5 3) L53)
                                            (Out.ex (P53 → Prop) fun y =>
                                              Out.need
                                                (4 ≤ 6 ∧
                                                  SImp 6
                                                    {
                                                      env :=
                                                        [(0, AV.sl false 0 0 5 p.xs.length p.c), (3, AV.tt), (4, AV.ptr 1 0), (5, AV.sl true 2 0 1 3 3),
                                                          (6, AV.sl true 3 0 1 3 3), (7, AV.int IntKind.i64 (↑x.i : Int)), (17, AV.lit IntKind.i64 0)],
                                                      heap :=
                                                        [(3, Blk.arr 3 Kd.int x.ws 0), (2, Blk.arr 3 Kd.int x.hs 0),
                                                          (1,
                                                            Blk.obj
                                                              (oC
                                                                (x.s.take
                                                                      (bitsOp BinOp.and IntKind.i64 (p.xs.getD (0 + (↑x.i : Int).toNat) (V.enc Kd.five).dflt).b 7)
                                                                      ((bitsOp BinOp.and IntKind.i64 (p.xs.getD (0 + (↑x.i : Int).toNat) (V.enc Kd.five).dflt).c
                                                                            1023).tmod
                                                                        3)
                                                                      5).snd.snd)),
                                                          (0, Blk.ro Kd.five p.xs)],
                                                      nx := 4, nt := 209, tl := [1, 1, 2, 3, 4, 5, 6, 7, 8, 9, 10, 11, 12, 13] : St V }
                                                    (fun q => I53 q 0) y)
                                                (Out.all P53 fun y_1 =>
                                                  Out.asm (y y_1)
                                                    (Out.all Unit fun y =>
                                                      Out.asm ((fun x x_1 => True) y_1 y)
                                                        (Out.stop EX.nx
                                                          {
                                                            env :=
                                                              [(0, AV.sl false 0 0 5 y_1.p.xs.length y_1.p.c), (3, AV.tt), (4, AV.ptr 1 0),
                                                                (5, AV.sl true 2 0 1 3 3), (6, AV.sl true 3 0 1 3 3),
                                                                (7, AV.int IntKind.i64 (IntKind.i64.wrap ((↑y_1.x.i : Int) + 1)))],
                                                            heap :=
                                                              [(3, Blk.arr 3 Kd.int y_1.x.ws 0), (2, Blk.arr 3 Kd.int y_1.x.hs 0), (1, Blk.obj (oC y_1.x.s)),
                                                                (0, Blk.ro Kd.five y_1.p.xs)],
                                                            nx := 6, nt := 209, tl := [1, 2, 3, 4, 5, 6, 7, 8, 9, 10, 11, 12, 13] : St V }))))))))))
                                (Out.need
                                  (0 ≤ (bitsOp BinOp.and IntKind.i64 (p.xs.getD (0 + (↑x.i : Int).toNat) (V.enc Kd.five).dflt).c 1023).tmod 3 ∧
                                    (bitsOp BinOp.and IntKind.i64 (p.xs.getD (0 + (↑x.i : Int).toNat) (V.enc Kd.five).dflt).c 1023).tmod 3 < 3)
                                  (Out.need
                                    (0 + ((bitsOp BinOp.and IntKind.i64 (p.xs.getD (0 + (↑x.i : Int).toNat) (V.enc Kd.five).dflt).c 1023).tmod 3).toNat <
                                      x.hs.length)
                                    (Out.need x.s.room
                                      (Out.ite
                                        (!((x.s.unlock (bitsOp BinOp.and IntKind.i64 (p.xs.getD (0 + (↑x.i : Int).toNat) (V.enc Kd.five).dflt).b 7)
                                                  ((bitsOp BinOp.and IntKind.i64 (p.xs.getD (0 + (↑x.i : Int).toNat) (V.enc Kd.five).dflt).c 1023).tmod 3)).fst ==
                                              0) ==
                                            (x.hs.getD
                                                (0 +
                                                  ((bitsOp BinOp.and IntKind.i64 (p.xs.getD (0 + (↑x.i : Int).toNat) (V.enc Kd.five).dflt).c 1023).tmod 3).toNat)
                                                (V.enc Kd.int).dflt ==
                                              bitsOp BinOp.and IntKind.i64 (p.xs.getD (0 + (↑x.i : Int).toNat) (V.enc Kd.five).dflt).b 7))
                                        (Out.stop EX.rt
                                          {
                                            env :=
                                              [(0, AV.sl false 0 0 5 p.xs.length p.c), (3, AV.tt), (4, AV.ptr 1 0), (5, AV.sl true 2 0 1 3 3),
                                                (6, AV.sl true 3 0 1 3 3), (7, AV.int IntKind.i64 (↑x.i : Int))],
                                            heap :=
                                              [(3, Blk.arr 3 Kd.int x.ws 0), (2, Blk.arr 3 Kd.int x.hs 0),
                                                (1,
                                                  Blk.obj
                                                    (oC
                                                      (x.s.unlock (bitsOp BinOp.and IntKind.i64 (p.xs.getD (0 + (↑x.i : Int).toNat) (V.enc Kd.five).dflt).b 7)
                                                          ((bitsOp BinOp.and IntKind.i64 (p.xs.getD (0 + (↑x.i : Int).toNat) (V.enc Kd.five).dflt).c 1023).tmod
                                                            3)).snd)),
                                                (0, Blk.ro Kd.five p.xs)],
                                            nx := 4, nt := 209, tl := [1, 1, 2, 3, 4, 5, 6, 7, 8, 9, 10, 11, 12, 13] : St V })
                                        (Out.need
                                          (0 ≤ (bitsOp BinOp.and IntKind.i64 (p.xs.getD (0 + (↑x.i : Int).toNat) (V.enc Kd.five).dflt).c 1023).tmod 3 ∧
                                            (bitsOp BinOp.and IntKind.i64 (p.xs.getD (0 + (↑x.i : Int).toNat) (V.enc Kd.five).dflt).c 1023).tmod 3 < 3)
                                          (Out.need
                                            (0 + ((bitsOp BinOp.and IntKind.i64 (p.xs.getD (0 + (↑x.i : Int).toNat) (V.enc Kd.five).dflt).c 1023).tmod 3).toNat <
                                              x.hs.length)
                                            (Out.ite
                                              (x.hs.getD
                                                  (0 +
                                                    ((bitsOp BinOp.and IntKind.i64 (p.xs.getD (0 + (↑x.i : Int).toNat) (V.enc Kd.five).dflt).c 1023).tmod
                                                        3).toNat)
                                                  (V.enc Kd.int).dflt ==
                                                bitsOp BinOp.and IntKind.i64 (p.xs.getD (0 + (↑x.i : Int).toNat) (V.enc Kd.five).dflt).b 7)
                                              (Out.need
                                                (0 ≤ (bitsOp BinOp.and IntKind.i64 (p.xs.getD (0 + (↑x.i : Int).toNat) (V.enc Kd.five).dflt).c 1023).tmod 3 ∧
                                                  (bitsOp BinOp.and IntKind.i64 (p.xs.getD (0 + (↑x.i : Int).toNat) (V.enc Kd.five).dflt).c 1023).tmod 3 < 3)
                                                (Out.need
                                                  (0 +
                                                      ((bitsOp BinOp.and IntKind.i64 (p.xs.getD (0 + (↑x.i : Int).toNat) (V.enc Kd.five).dflt).c 1023).tmod
                                                          3).toNat <
                                                    x.hs.length)
                                                  (Out.need (LoopFor Try.prog 5 3 (loopOf Try.f5 3) L53)
                                                    (Out.ex (P53 → Prop) fun y =>
                                                      Out.need
                                                        (5 ≤ 6 ∧
                                                          SImp 6
                                                            {
                                                              env :=
                                                                [(0, AV.sl false 0 0 5 p.xs.length p.c), (3, AV.tt), (4, AV.ptr 1 0), (5, AV.sl true 2 0 1 3 3),
                                                                  (6, AV.sl true 3 0 1 3 3), (7, AV.int IntKind.i64 (↑x.i : Int)), (17, AV.lit IntKind.i64 0)],
                                                              heap :=
                                                                [(3, Blk.arr 3 Kd.int x.ws 0),
                                                                  (2,
                                                                    Blk.arr 3 Kd.int
                                                                      (x.hs.set
                                                                        (0 +
                                                                          ((bitsOp BinOp.and IntKind.i64
                                                                                  (p.xs.getD (0 + (↑x.i : Int).toNat) (V.enc Kd.five).dflt).c 1023).tmod
                                                                              3).toNat)
                                                                        (-1))
                                                                      0),
                                                                  (1,
                                                                    Blk.obj
                                                                      (oC
                                                                        (x.s.unlock
                                                                            (bitsOp BinOp.and IntKind.i64
                                                                              (p.xs.getD (0 + (↑x.i : Int).toNat) (V.enc Kd.five).dflt).b 7)
                                                                            ((bitsOp BinOp.and IntKind.i64
                                                                                  (p.xs.getD (0 + (↑x.i : Int).toNat) (V.enc Kd.five).dflt).c 1023).tmod
                                                                              3)).snd)),
                                                                  (0, Blk.ro Kd.five p.xs)],
                                                              nx := 5, nt := 209, tl := [2, 1, 1, 2, 3, 4, 5, 6, 7, 8, 9, 10, 11, 12, 13] : St V }
                                                            (fun q => I53 q 0) y)
                                                        (Out.all P53 fun y_1 =>
                                                          Out.asm (y y_1)
                                                            (Out.all Unit fun y =>
                                                              Out.asm ((fun x x_1 => True) y_1 y)
                                                                (Out.stop EX.nx
                                                                  {
                                                                    env :=
                                                                      [(0, AV.sl false 0 0 5 y_1.p.xs.length y_1.p.c), (3, AV.tt), (4, AV.ptr 1 0),
                                                                        (5, AV.sl true 2 0 1 3 3), (6, AV.sl true 3 0 1 3 3),
                                                                        (7, AV.int IntKind.i64 (IntKind.i64.wrap ((↑y_1.x.i : Int) + 1)))],
                                                                    heap :=
                                                                      [(3, Blk.arr 3 Kd.int y_1.x.ws 0), (2, Blk.arr 3 Kd.int y_1.x.hs 0),
                                                                        (1, Blk.obj (oC y_1.x.s)), (0, Blk.ro Kd.five y_1.p.xs)],
                                                                    nx := 6, nt := 209, tl := [1, 2, 3, 4, 5, 6, 7, 8, 9, 10, 11, 12, 13] : St V })))))))
                                              (Out.need (LoopFor Try.prog 5 3 (loopOf Try.f5 3) L53)
                                                (Out.ex (P53 → Prop) fun y =>
                                                  Out.need
                                                    (4 ≤ 6 ∧
                                                      SImp 6
                                                        {
                                                          env :=
                                                            [(0, AV.sl false 0 0 5 p.xs.length p.c), (3, AV.tt), (4, AV.ptr 1 0), (5, AV.sl true 2 0 1 3 3),
                                                              (6, AV.sl true 3 0 1 3 3), (7, AV.int IntKind.i64 (↑x.i : Int)), (17, AV.lit IntKind.i64 0)],
                                                          heap :=
                                                            [(3, Blk.arr 3 Kd.int x.ws 0), (2, Blk.arr 3 Kd.int x.hs 0),
                                                              (1,
                                                                Blk.obj
                                                                  (oC
                                                                    (x.s.unlock
                                                                        (bitsOp BinOp.and IntKind.i64 (p.xs.getD (0 + (↑x.i : Int).toNat) (V.enc Kd.five).dflt).b
                                                                          7)
                                                                        ((bitsOp BinOp.and IntKind.i64 (p.xs.getD (0 + (↑x.i : Int).toNat) (V.enc Kd.five).dflt).c
                                                                              1023).tmod
                                                                          3)).snd)),
                                                              (0, Blk.ro Kd.five p.xs)],
                                                          nx := 4, nt := 209, tl := [1, 1, 2, 3, 4, 5, 6, 7, 8, 9, 10, 11, 12, 13] : St V }
                                                        (fun q => I53 q 0) y)
                                                    (Out.all P53 fun y_1 =>
                                                      Out.asm (y y_1)
                                                        (Out.all Unit fun y =>
                                                          Out.asm ((fun x x_1 => True) y_1 y)
                                                            (Out.stop EX.nx
                                                              {
                                                                env :=
                                                                  [(0, AV.sl false 0 0 5 y_1.p.xs.length y_1.p.c), (3, AV.tt), (4, AV.ptr 1 0),
                                                                    (5, AV.sl true 2 0 1 3 3), (6, AV.sl true 3 0 1 3 3),
                                                                    (7, AV.int IntKind.i64 (IntKind.i64.wrap ((↑y_1.x.i : Int) + 1)))],
                                                                heap :=
                                                                  [(3, Blk.arr 3 Kd.int y_1.x.ws 0), (2, Blk.arr 3 Kd.int y_1.x.hs 0), (1, Blk.obj (oC y_1.x.s)),
                                                                    (0, Blk.ro Kd.five y_1.p.xs)],
                                                                nx := 6, nt := 209, tl := [1, 2, 3, 4, 5, 6, 7, 8, 9, 10, 11, 12, 13] : St V }))))))))))))))
                            (Out.ite (bitsOp BinOp.and IntKind.i64 (p.xs.getD (0 + (↑x.i : Int).toNat) (V.enc Kd.five).dflt).a 7 == 4)
                              (Out.need
                                (0 ≤ (bitsOp BinOp.and IntKind.i64 (p.xs.getD (0 + (↑x.i : Int).toNat) (V.enc Kd.five).dflt).c 1023).tmod 3 ∧
                                  (bitsOp BinOp.and IntKind.i64 (p.xs.getD (0 + (↑x.i : Int).toNat) (V.enc Kd.five).dflt).c 1023).tmod 3 < 3)
                                (Out.need
                                  (0 + ((bitsOp BinOp.and IntKind.i64 (p.xs.getD (0 + (↑x.i : Int).toNat) (V.enc Kd.five).dflt).c 1023).tmod 3).toNat <
                                    x.hs.length)
                                  (Out.need x.s.room
                                    (Out.ite
                                      (!((x.s.take (bitsOp BinOp.and IntKind.i64 (p.xs.getD (0 + (↑x.i : Int).toNat) (V.enc Kd.five).dflt).b 7)
                                                  ((bitsOp BinOp.and IntKind.i64 (p.xs.getD (0 + (↑x.i : Int).toNat) (V.enc Kd.five).dflt).c 1023).tmod 3)
                                                  4).snd.fst ==
                                            0) ==
                                          decide
                                            (x.hs.getD
                                                (0 +
                                                  ((bitsOp BinOp.and IntKind.i64 (p.xs.getD (0 + (↑x.i : Int).toNat) (V.enc Kd.five).dflt).c 1023).tmod 3).toNat)
                                                (V.enc Kd.int).dflt <
                                              0))
                                      (Out.stop EX.rt
                                        {
                                          env :=
                                            [(0, AV.sl false 0 0 5 p.xs.length p.c), (3, AV.tt), (4, AV.ptr 1 0), (5, AV.sl true 2 0 1 3 3),
                                              (6, AV.sl true 3 0 1 3 3), (7, AV.int IntKind.i64 (↑x.i : Int))],
                                          heap :=
                                            [(3, Blk.arr 3 Kd.int x.ws 0), (2, Blk.arr 3 Kd.int x.hs 0),
                                              (1,
                                                Blk.obj
                                                  (oC
                                                    (x.s.take (bitsOp BinOp.and IntKind.i64 (p.xs.getD (0 + (↑x.i : Int).toNat) (V.enc Kd.five).dflt).b 7)
                                                          ((bitsOp BinOp.and IntKind.i64 (p.xs.getD (0 + (↑x.i : Int).toNat) (V.enc Kd.five).dflt).c 1023).tmod 3)
                                                          4).snd.snd)),
                                              (0, Blk.ro Kd.five p.xs)],
                                          nx := 4, nt := 209, tl := [1, 1, 2, 3, 4, 5, 6, 7, 8, 9, 10, 11, 12, 13] : St V })
                                      (Out.need
                                        (0 ≤ (bitsOp BinOp.and IntKind.i64 (p.xs.getD (0 + (↑x.i : Int).toNat) (V.enc Kd.five).dflt).c 1023).tmod 3 ∧
                                          (bitsOp BinOp.and IntKind.i64 (p.xs.getD (0 + (↑x.i : Int).toNat) (V.enc Kd.five).dflt).c 1023).tmod 3 < 3)
                                        (Out.need
                                          (0 + ((bitsOp BinOp.and IntKind.i64 (p.xs.getD (0 + (↑x.i : Int).toNat) (V.enc Kd.five).dflt).c 1023).tmod 3).toNat <
                                            x.hs.length)
                                          (Out.ite
                                            (decide
                                              (x.hs.getD
                                                  (0 +
                                                    ((bitsOp BinOp.and IntKind.i64 (p.xs.getD (0 + (↑x.i : Int).toNat) (V.enc Kd.five).dflt).c 1023).tmod
                                                        3).toNat)
                                                  (V.enc Kd.int).dflt <
                                                0))
                                            (Out.need
                                              (0 ≤ (bitsOp BinOp.and IntKind.i64 (p.xs.getD (0 + (↑x.i : Int).toNat) (V.enc Kd.five).dflt).c 1023).tmod 3 ∧
                                                (bitsOp BinOp.and IntKind.i64 (p.xs.getD (0 + (↑x.i : Int).toNat) (V.enc Kd.five).dflt).c 1023).tmod 3 < 3)
                                              (Out.need
                                                (0 +
                                                    ((bitsOp BinOp.and IntKind.i64 (p.xs.getD (0 + (↑x.i : Int).toNat) (V.enc Kd.five).dflt).c 1023).tmod
                                                        3).toNat <
                                                  x.hs.length)
                                                (Out.need (LoopFor Try.prog 5 3 (loopOf Try.f5 3) L53)
                                                  (Out.ex (P53 → Prop) fun y =>
                                                    Out.need
                                                      (5 ≤ 6 ∧
                                                        SImp 6
                                                          {
                                                            env :=
                                                              [(0, AV.sl false 0 0 5 p.xs.length p.c), (3, AV.tt), (4, AV.ptr 1 0), (5, AV.sl true 2 0 1 3 3),
                                                                (6, AV.sl true 3 0 1 3 3), (7, AV.int IntKind.i64 (↑x.i : Int)), (17, AV.lit IntKind.i64 0)],
                                                            heap :=
                                                              [(3, Blk.arr 3 Kd.int x.ws 0),
                                                                (2,
                                                                  Blk.arr 3 Kd.int
                                                                    (x.hs.set
                                                                      (0 +
                                                                        ((bitsOp BinOp.and IntKind.i64 (p.xs.getD (0 + (↑x.i : Int).toNat) (V.enc Kd.five).dflt).c
                                                                                1023).tmod
                                                                            3).toNat)
                                                                      (bitsOp BinOp.and IntKind.i64 (p.xs.getD (0 + (↑x.i : Int).toNat) (V.enc Kd.five).dflt).b
                                                                        7))
                                                                    0),
                                                                (1,
                                                                  Blk.obj
                                                                    (oC
                                                                      (x.s.take
                                                                            (bitsOp BinOp.and IntKind.i64
                                                                              (p.xs.getD (0 + (↑x.i : Int).toNat) (V.enc Kd.five).dflt).b 7)
                                                                            ((bitsOp BinOp.and IntKind.i64
                                                                                  (p.xs.getD (0 + (↑x.i : Int).toNat) (V.enc Kd.five).dflt).c 1023).tmod
                                                                              3)
                                                                            4).snd.snd)),
                                                                (0, Blk.ro Kd.five p.xs)],
                                                            nx := 5, nt := 209, tl := [2, 1, 1, 2, 3, 4, 5, 6, 7, 8, 9, 10, 11, 12, 13] : St V }
                                                          (fun q => I53 q 0) y)
                                                      (Out.all P53 fun y_1 =>
                                                        Out.asm (y y_1)
                                                          (Out.all Unit fun y =>
                                                            Out.asm ((fun x x_1 => True) y_1 y)
                                                              (Out.stop EX.nx
                                                                {
                                                                  env :=
                                                                    [(0, AV.sl false 0 0 5 y_1.p.xs.length y_1.p.c), (3, AV.tt), (4, AV.ptr 1 0),
                                                                      (5, AV.sl true 2 0 1 3 3), (6, AV.sl true 3 0 1 3 3),
                                                                      (7, AV.int IntKind.i64 (IntKind.i64.wrap ((↑y_1.x.i : Int) + 1)))],
                                                                  heap :=
                                                                    [(3, Blk.arr 3 Kd.int y_1.x.ws 0), (2, Blk.arr 3 Kd.int y_1.x.hs 0),
                                                                      (1, Blk.obj (oC y_1.x.s)), (0, Blk.ro Kd.five y_1.p.xs)],
                                                                  nx := 6, nt := 209, tl := [1, 2, 3, 4, 5, 6, 7, 8, 9, 10, 11, 12, 13] : St V })))))))
                                            (Out.need (LoopFor Try.prog 5 3 (loopOf Try.f5 3) L53)
                                              (Out.ex (P53 → Prop) fun y =>
                                                Out.need
                                                  (4 ≤ 6 ∧
                                                    SImp 6
                                                      {
                                                        env :=
                                                          [(0, AV.sl false 0 0 5 p.xs.length p.c), (3, AV.tt), (4, AV.ptr 1 0), (5, AV.sl true 2 0 1 3 3),
                                                            (6, AV.sl true 3 0 1 3 3), (7, AV.int IntKind.i64 (↑x.i : Int)), (17, AV.lit IntKind.i64 0)],
                                                        heap :=
                                                          [(3, Blk.arr 3 Kd.int x.ws 0), (2, Blk.arr 3 Kd.int x.hs 0),
                                                            (1,
                                                              Blk.obj
                                                                (oC
                                                                  (x.s.take
                                                                        (bitsOp BinOp.and IntKind.i64 (p.xs.getD (0 + (↑x.i : Int).toNat) (V.enc Kd.five).dflt).b
                                                                          7)
                                                                        ((bitsOp BinOp.and IntKind.i64 (p.xs.getD (0 + (↑x.i : Int).toNat) (V.enc Kd.five).dflt).c
                                                                              1023).tmod
                                                                          3)
                                                                        4).snd.snd)),
                                                            (0, Blk.ro Kd.five p.xs)],
                                                        nx := 4, nt := 209, tl := [1, 1, 2, 3, 4, 5, 6, 7, 8, 9, 10, 11, 12, 13] : St V }
                                                      (fun q => I53 q 0) y)
                                                  (Out.all P53 fun y_1 =>
                                                    Out.asm (y y_1)
                                                      (Out.all Unit fun y =>
                                                        Out.asm ((fun x x_1 => True) y_1 y)
                                                          (Out.stop EX.nx
                                                            {
                                                              env :=
                                                                [(0, AV.sl false 0 0 5 y_1.p.xs.length y_1.p.c), (3, AV.tt), (4, AV.ptr 1 0),
                                                                  (5, AV.sl true 2 0 1 3 3), (6, AV.sl true 3 0 1 3 3),
                                                                  (7, AV.int IntKind.i64 (IntKind.i64.wrap ((↑y_1.x.i : Int) + 1)))],
                                                              heap :=
                                                                [(3, Blk.arr 3 Kd.int y_1.x.ws 0), (2, Blk.arr 3 Kd.int y_1.x.hs 0), (1, Blk.obj (oC y_1.x.s)),
                                                                  (0, Blk.ro Kd.five y_1.p.xs)],
                                                              nx := 6, nt := 209, tl := [1, 2, 3, 4, 5, 6, 7, 8, 9, 10, 11, 12, 13] : St V }))))))))))))
                              (Out.ite (bitsOp BinOp.and IntKind.i64 (p.xs.getD (0 + (↑x.i : Int).toNat) (V.enc Kd.five).dflt).a 7 == 5)
                                (Out.need x.s.room
                                  (Out.need
                                    (0 ≤ (bitsOp BinOp.and IntKind.i64 (p.xs.getD (0 + (↑x.i : Int).toNat) (V.enc Kd.five).dflt).c 1023).tmod 3 ∧
                                      (bitsOp BinOp.and IntKind.i64 (p.xs.getD (0 + (↑x.i : Int).toNat) (V.enc Kd.five).dflt).c 1023).tmod 3 < 3)
                                    (Out.need
                                      (0 + ((bitsOp BinOp.and IntKind.i64 (p.xs.getD (0 + (↑x.i : Int).toNat) (V.enc Kd.five).dflt).c 1023).tmod 3).toNat <
                                        x.hs.length)
                                      (Out.ite
                                        (!(x.s.take (bitsOp BinOp.and IntKind.i64 (p.xs.getD (0 + (↑x.i : Int).toNat) (V.enc Kd.five).dflt).b 7)
                                                ((bitsOp BinOp.and IntKind.i64 (p.xs.getD (0 + (↑x.i : Int).toNat) (V.enc Kd.five).dflt).c 1023).tmod 3) 5).fst ==
                                            decide
                                              (x.hs.getD
                                                  (0 +
                                                    ((bitsOp BinOp.and IntKind.i64 (p.xs.getD (0 + (↑x.i : Int).toNat) (V.enc Kd.five).dflt).c 1023).tmod
                                                        3).toNat)
                                                  (V.enc Kd.int).dflt <
                                                0))
                                        (Out.stop EX.rt
                                          {
                                            env :=
                                              [(0, AV.sl false 0 0 5 p.xs.length p.c), (3, AV.tt), (4, AV.ptr 1 0), (5, AV.sl true 2 0 1 3 3),
                                                (6, AV.sl true 3 0 1 3 3), (7, AV.int IntKind.i64 (↑x.i : Int))],
                                            heap :=
                                              [(3, Blk.arr 3 Kd.int x.ws 0), (2, Blk.arr 3 Kd.int x.hs 0),
                                                (1,
                                                  Blk.obj
                                                    (oC
                                                      (x.s.take (bitsOp BinOp.and IntKind.i64 (p.xs.getD (0 + (↑x.i : Int).toNat) (V.enc Kd.five).dflt).b 7)
                                                            ((bitsOp BinOp.and IntKind.i64 (p.xs.getD (0 + (↑x.i : Int).toNat) (V.enc Kd.five).dflt).c 1023).tmod
                                                              3)
                                                            5).snd.snd)),
                                                (0, Blk.ro Kd.five p.xs)],
                                            nx := 4, nt := 209, tl := [1, 1, 2, 3, 4, 5, 6, 7, 8, 9, 10, 11, 12, 13] : St V })
                                        (Out.ite
                                          (x.s.take (bitsOp BinOp.and IntKind.i64 (p.xs.getD (0 + (↑x.i : Int).toNat) (V.enc Kd.five).dflt).b 7)
                                              ((bitsOp BinOp.and IntKind.i64 (p.xs.getD (0 + (↑x.i : Int).toNat) (V.enc Kd.five).dflt).c 1023).tmod 3) 5).fst
                                          (Out.need
                                            (0 ≤ (bitsOp BinOp.and IntKind.i64 (p.xs.getD (0 + (↑x.i : Int).toNat) (V.enc Kd.five).dflt).c 1023).tmod 3 ∧
                                              (bitsOp BinOp.and IntKind.i64 (p.xs.getD (0 + (↑x.i : Int).toNat) (V.enc Kd.five).dflt).c 1023).tmod 3 < 3)
                                            (Out.need
                                              (0 +
                                                  ((bitsOp BinOp.and IntKind.i64 (p.xs.getD (0 + (↑x.i : Int).toNat) (V.enc Kd.five).dflt).c 1023).tmod 3).toNat <
                                                x.hs.length)
                                              (Out.need (LoopFor Try.prog 5 3 (loopOf Try.f5 3) L53)
                                                (Out.ex (P53 → Prop) fun y =>
                                                  Out.need
                                                    (5 ≤ 6 ∧
                                                      SImp 6
                                                        {
                                                          env :=
                                                            [(0, AV.sl false 0 0 5 p.xs.length p.c), (3, AV.tt), (4, AV.ptr 1 0), (5, AV.sl true 2 0 1 3 3),
                                                              (6, AV.sl true 3 0 1 3 3), (7, AV.int IntKind.i64 (↑x.i : Int)), (17, AV.lit IntKind.i64 0)],
                                                          heap :=
                                                            [(3, Blk.arr 3 Kd.int x.ws 0),
                                                              (2,
                                                                Blk.arr 3 Kd.int
                                                                  (x.hs.set
                                                                    (0 +
                                                                      ((bitsOp BinOp.and IntKind.i64 (p.xs.getD (0 + (↑x.i : Int).toNat) (V.enc Kd.five).dflt).c
                                                                              1023).tmod
                                                                          3).toNat)
                                                                    (bitsOp BinOp.and IntKind.i64 (p.xs.getD (0 + (↑x.i : Int).toNat) (V.enc Kd.five).dflt).b 7))
                                                                  0),
                                                              (1,
                                                                Blk.obj
                                                                  (oC
                                                                    (x.s.take
                                                                          (bitsOp BinOp.and IntKind.i64
                                                                            (p.xs.getD (0 + (↑x.i : Int).toNat) (V.enc Kd.five).dflt).b 7)
                                                                          ((bitsOp BinOp.and IntKind.i64
                                                                                (p.xs.getD (0 + (↑x.i : Int).toNat) (V.enc Kd.five).dflt).c 1023).tmod
                                                                            3)
                                                                          5).snd.snd)),
                                                              (0, Blk.ro Kd.five p.xs)],
                                                          nx := 5, nt := 209, tl := [2, 1, 1, 2, 3, 4, 5, 6, 7, 8, 9, 10, 11, 12, 13] : St V }
                                                        (fun q => I53 q 0) y)
                                                    (Out.all P53 fun y_1 =>
                                                      Out.asm (y y_1)
                                                        (Out.all Unit fun y =>
                                                          Out.asm ((fun x x_1 => True) y_1 y)
                                                            (Out.stop EX.nx
                                                              {
                                                                env :=
                                                                  [(0, AV.sl false 0 0 5 y_1.p.xs.length y_1.p.c), (3, AV.tt), (4, AV.ptr 1 0),
                                                                    (5, AV.sl true 2 0 1 3 3), (6, AV.sl true 3 0 1 3 3),
                                                                    (7, AV.int IntKind.i64 (IntKind.i64.wrap ((↑y_1.x.i : Int) + 1)))],
                                                                heap :=
                                                                  [(3, Blk.arr 3 Kd.int y_1.x.ws 0), (2, Blk.arr 3 Kd.int y_1.x.hs 0), (1, Blk.obj (oC y_1.x.s)),
                                                                    (0, Blk.ro Kd.five y_1.p.xs)],
                                                                nx := 6, nt := 209, tl := [1, 2, 3, 4, 5, 6, 7, 8, 9, 10, 11, 12, 13] : St V })))))))
                                          (Out.need (LoopFor Try.prog 5 3 (loopOf Try.f5 3) L53)
                                            (Out.ex (P53 → Prop) fun y =>
                                              Out.need
                                                (4 ≤ 6 ∧
                                                  SImp 6
                                                    {
                                                      env :=
                                                        [(0, AV.sl false 0 0 5 p.xs.length p.c), (3, AV.tt), (4, AV.ptr 1 0), (5, AV.sl true 2 0 1 3 3),
                                                          (6, AV.sl true 3 0 1 3 3), (7, AV.int IntKind.i64 (↑x.i : Int)), (17, AV.lit IntKind.i64 0)],
                                                      heap :=
                                                        [(3, Blk.arr 3 Kd.int x.ws 0), (2, Blk.arr 3 Kd.int x.hs 0),
                                                          (1,
                                                            Blk.obj
                                                              (oC
                                                                (x.s.take
                                                                      (bitsOp BinOp.and IntKind.i64 (p.xs.getD (0 + (↑x.i : Int).toNat) (V.enc Kd.five).dflt).b 7)
                                                                      ((bitsOp BinOp.and IntKind.i64 (p.xs.getD (0 + (↑x.i : Int).toNat) (V.enc Kd.five).dflt).c
                                                                            1023).tmod
                                                                        3)
                                                                      5).snd.snd)),
                                                          (0, Blk.ro Kd.five p.xs)],
                                                      nx := 4, nt := 209, tl := [1, 1, 2, 3, 4, 5, 6, 7, 8, 9, 10, 11, 12, 13] : St V }
                                                    (fun q => I53 q 0) y)
                                                (Out.all P53 fun y_1 =>
                                                  Out.asm (y y_1)
                                                    (Out.all Unit fun y =>
                                                      Out.asm ((fun x x_1 => True) y_1 y)
                                                        (Out.stop EX.nx
                                                          {
                                                            env :=
                                                              [(0, AV.sl false 0 0 5 y_1.p.xs.length y_1.p.c), (3, AV.tt), (4, AV.ptr 1 0),
                                                                (5, AV.sl true 2 0 1 3 3), (6, AV.sl true 3 0 1 3 3),
                                                                (7, AV.int IntKind.i64 (IntKind.i64.wrap ((↑y_1.x.i : Int) + 1)))],
                                                            heap :=
                                                              [(3, Blk.arr 3 Kd.int y_1.x.ws 0), (2, Blk.arr 3 Kd.int y_1.x.hs 0), (1, Blk.obj (oC y_1.x.s)),
                                                                (0, Blk.ro Kd.five y_1.p.xs)],
                                                            nx := 6, nt := 209, tl := [1, 2, 3, 4, 5, 6, 7, 8, 9, 10, 11, 12, 13] : St V }))))))))))
                                (Out.need
                                  (0 ≤ (bitsOp BinOp.and IntKind.i64 (p.xs.getD (0 + (↑x.i : Int).toNat) (V.enc Kd.five).dflt).c 1023).tmod 3 ∧
                                    (bitsOp BinOp.and IntKind.i64 (p.xs.getD (0 + (↑x.i : Int).toNat) (V.enc Kd.five).dflt).c 1023).tmod 3 < 3)
                                  (Out.need
                                    (0 + ((bitsOp BinOp.and IntKind.i64 (p.xs.getD (0 + (↑x.i : Int).toNat) (V.enc Kd.five).dflt).c 1023).tmod 3).toNat <
                                      x.hs.length)
                                    (Out.need x.s.room
                                      (Out.ite
                                        (!((x.s.unlock (bitsOp BinOp.and IntKind.i64 (p.xs.getD (0 + (↑x.i : Int).toNat) (V.enc Kd.five).dflt).b 7)
                                                  ((bitsOp BinOp.and IntKind.i64 (p.xs.getD (0 + (↑x.i : Int).toNat) (V.enc Kd.five).dflt).c 1023).tmod 3)).fst ==
                                              0) ==
                                            (x.hs.getD
                                                (0 +
                                                  ((bitsOp BinOp.and IntKind.i64 (p.xs.getD (0 + (↑x.i : Int).toNat) (V.enc Kd.five).dflt).c 1023).tmod 3).toNat)
                                                (V.enc Kd.int).dflt ==
                                              bitsOp BinOp.and IntKind.i64 (p.xs.getD (0 + (↑x.i : Int).toNat) (V.enc Kd.five).dflt).b 7))
                                        (Out.stop EX.rt
                                          {
                                            env :=
                                              [(0, AV.sl false 0 0 5 p.xs.length p.c), (3, AV.tt), (4, AV.ptr 1 0), (5, AV.sl true 2 0 1 3 3),
                                                (6, AV.sl true 3 0 1 3 3), (7, AV.int IntKind.i64 (↑x.i : Int))],
                                            heap :=
                                              [(3, Blk.arr 3 Kd.int x.ws 0), (2, Blk.arr 3 Kd.int x.hs 0),
                                                (1,
                                                  Blk.obj
                                                    (oC
                                                      (x.s.unlock (bitsOp BinOp.and IntKind.i64 (p.xs.getD (0 + (↑x.i : Int).toNat) (V.enc Kd.five).dflt).b 7)
                                                          ((bitsOp BinOp.and IntKind.i64 (p.xs.getD (0 + (↑x.i : Int).toNat) (V.enc Kd.five).dflt).c 1023).tmod
                                                            3)).snd)),
                                                (0, Blk.ro Kd.five p.xs)],
                                            nx := 4, nt := 209, tl := [1, 1, 2, 3, 4, 5, 6, 7, 8, 9, 10, 11, 12, 13] : St V })
                                        (Out.need
                                          (0 ≤ (bitsOp BinOp.and IntKind.i64 (p.xs.getD (0 + (↑x.i : Int).toNat) (V.enc Kd.five).dflt).c 1023).tmod 3 ∧
                                            (bitsOp BinOp.and IntKind.i64 (p.xs.getD (0 + (↑x.i : Int).toNat) (V.enc Kd.five).dflt).c 1023).tmod 3 < 3)
                                          (Out.need
                                            (0 + ((bitsOp BinOp.and IntKind.i64 (p.xs.getD (0 + (↑x.i : Int).toNat) (V.enc Kd.five).dflt).c 1023).tmod 3).toNat <
                                              x.hs.length)
                                            (Out.ite
                                              (x.hs.getD
                                                  (0 +
                                                    ((bitsOp BinOp.and IntKind.i64 (p.xs.getD (0 + (↑x.i : Int).toNat) (V.enc Kd.five).dflt).c 1023).tmod
                                                        3).toNat)
                                                  (V.enc Kd.int).dflt ==
                                                bitsOp BinOp.and IntKind.i64 (p.xs.getD (0 + (↑x.i : Int).toNat) (V.enc Kd.five).dflt).b 7)
                                              (Out.need
                                                (0 ≤ (bitsOp BinOp.and IntKind.i64 (p.xs.getD (0 + (↑x.i : Int).toNat) (V.enc Kd.five).dflt).c 1023).tmod 3 ∧
                                                  (bitsOp BinOp.and IntKind.i64 (p.xs.getD (0 + (↑x.i : Int).toNat) (V.enc Kd.five).dflt).c 1023).tmod 3 < 3)
                                                (Out.need
                                                  (0 +
                                                      ((bitsOp BinOp.and IntKind.i64 (p.xs.getD (0 + (↑x.i : Int).toNat) (V.enc Kd.five).dflt).c 1023).tmod
                                                          3).toNat <
                                                    x.hs.length)
                                                  (Out.need (LoopFor Try.prog 5 3 (loopOf Try.f5 3) L53)
                                                    (Out.ex (P53 → Prop) fun y =>
                                                      Out.need
                                                        (5 ≤ 6 ∧
                                                          SImp 6
                                                            {
                                                              env :=
                                                                [(0, AV.sl false 0 0 5 p.xs.length p.c), (3, AV.tt), (4, AV.ptr 1 0), (5, AV.sl true 2 0 1 3 3),
                                                                  (6, AV.sl true 3 0 1 3 3), (7, AV.int IntKind.i64 (↑x.i : Int)), (17, AV.lit IntKind.i64 0)],
                                                              heap :=
                                                                [(3, Blk.arr 3 Kd.int x.ws 0),
                                                                  (2,
                                                                    Blk.arr 3 Kd.int
                                                                      (x.hs.set
                                                                        (0 +
                                                                          ((bitsOp BinOp.and IntKind.i64
                                                                                  (p.xs.getD (0 + (↑x.i : Int).toNat) (V.enc Kd.five).dflt).c 1023).tmod
                                                                              3).toNat)
                                                                        (-1))
                                                                      0),
                                                                  (1,
                                                                    Blk.obj
                                                                      (oC
                                                                        (x.s.unlock
                                                                            (bitsOp BinOp.and IntKind.i64
                                                                              (p.xs.getD (0 + (↑x.i : Int).toNat) (V.enc Kd.five).dflt).b 7)
                                                                            ((bitsOp BinOp.and IntKind.i64
                                                                                  (p.xs.getD (0 + (↑x.i : Int).toNat) (V.enc Kd.five).dflt).c 1023).tmod
                                                                              3)).snd)),
                                                                  (0, Blk.ro Kd.five p.xs)],
                                                              nx := 5, nt := 209, tl := [2, 1, 1, 2, 3, 4, 5, 6, 7, 8, 9, 10, 11, 12, 13] : St V }
                                                            (fun q => I53 q 0) y)
                                                        (Out.all P53 fun y_1 =>
                                                          Out.asm (y y_1)
                                                            (Out.all Unit fun y =>
                                                              Out.asm ((fun x x_1 => True) y_1 y)
                                                                (Out.stop EX.nx
                                                                  {
                                                                    env :=
                                                                      [(0, AV.sl false 0 0 5 y_1.p.xs.length y_1.p.c), (3, AV.tt), (4, AV.ptr 1 0),
                                                                        (5, AV.sl true 2 0 1 3 3), (6, AV.sl true 3 0 1 3 3),
                                                                        (7, AV.int IntKind.i64 (IntKind.i64.wrap ((↑y_1.x.i : Int) + 1)))],
                                                                    heap :=
                                                                      [(3, Blk.arr 3 Kd.int y_1.x.ws 0), (2, Blk.arr 3 Kd.int y_1.x.hs 0),
                                                                        (1, Blk.obj (oC y_1.x.s)), (0, Blk.ro Kd.five y_1.p.xs)],
                                                                    nx := 6, nt := 209, tl := [1, 2, 3, 4, 5, 6, 7, 8, 9, 10, 11, 12, 13] : St V })))))))
                                              (Out.need (LoopFor Try.prog 5 3 (loopOf Try.f5 3) L53)
                                                (Out.ex (P53 → Prop) fun y =>
                                                  Out.need
                                                    (4 ≤ 6 ∧
                                                      SImp 6
                                                        {
                                                          env :=
                                                            [(0, AV.sl false 0 0 5 p.xs.length p.c), (3, AV.tt), (4, AV.ptr 1 0), (5, AV.sl true 2 0 1 3 3),
                                                              (6, AV.sl true 3 0 1 3 3), (7, AV.int IntKind.i64 (↑x.i : Int)), (17, AV.lit IntKind.i64 0)],
                                                          heap :=
                                                            [(3, Blk.arr 3 Kd.int x.ws 0), (2, Blk.arr 3 Kd.int x.hs 0),
                                                              (1,
                                                                Blk.obj
                                                                  (oC
                                                                    (x.s.unlock
                                                                        (bitsOp BinOp.and IntKind.i64 (p.xs.getD (0 + (↑x.i : Int).toNat) (V.enc Kd.five).dflt).b
                                                                          7)
                                                                        ((bitsOp BinOp.and IntKind.i64 (p.xs.getD (0 + (↑x.i : Int).toNat) (V.enc Kd.five).dflt).c
                                                                              1023).tmod
                                                                          3)).snd)),
                                                              (0, Blk.ro Kd.five p.xs)],
                                                          nx := 4, nt := 209, tl := [1, 1, 2, 3, 4, 5, 6, 7, 8, 9, 10, 11, 12, 13] : St V }
                                                        (fun q => I53 q 0) y)
                                                    (Out.all P53 fun y_1 =>
                                                      Out.asm (y y_1)
                                                        (Out.all Unit fun y =>
                                                          Out.asm ((fun x x_1 => True) y_1 y)
                                                            (Out.stop EX.nx
                                                              {
                                                                env :=
                                                                  [(0, AV.sl false 0 0 5 y_1.p.xs.length y_1.p.c), (3, AV.tt), (4, AV.ptr 1 0),
                                                                    (5, AV.sl true 2 0 1 3 3), (6, AV.sl true 3 0 1 3 3),
                                                                    (7, AV.int IntKind.i64 (IntKind.i64.wrap ((↑y_1.x.i : Int) + 1)))],
                                                                heap :=
                                                                  [(3, Blk.arr 3 Kd.int y_1.x.ws 0), (2, Blk.arr 3 Kd.int y_1.x.hs 0), (1, Blk.obj (oC y_1.x.s)),
                                                                    (0, Blk.ro Kd.five y_1.p.xs)],
                                                                nx := 6, nt := 209, tl := [1, 2, 3, 4, 5, 6, 7, 8, 9, 10, 11, 12, 13] :
                                                                St V }))))))))))))))))))))))))))
    (Out.stop (EX.ex 0)
      {
        env :=
          [(0, AV.sl false 0 0 5 p.xs.length p.c), (3, AV.tt), (4, AV.ptr 1 0), (5, AV.sl true 2 0 1 3 3), (6, AV.sl true 3 0 1 3 3),
            (7, AV.int IntKind.i64 (↑x.i : Int))],
        heap := [(3, Blk.arr 3 Kd.int x.ws 0), (2, Blk.arr 3 Kd.int x.hs 0), (1, Blk.obj (oC x.s)), (0, Blk.ro Kd.five p.xs)], nx := 4, nt := 209,
        tl := [1, 2, 3, 4, 5, 6, 7, 8, 9, 10, 11, 12, 13] : St V }) := by kernel_rfl
theorem t5 (xs : List Five) (c : Nat) : runL cfg11 60 5 Try.f5 [.sl false 0 0 5 xs.length c] [(0, .ro Kd.five xs)] 1 =
  Out.ite (decide ((↑xs.length : Int) > (200 : Int))) (Out.fin AV.tt [] (0 : Nat))
    (Out.need (LoopFor Try.prog (5 : Nat) (0 : Nat) (loopOf Try.f5 (0 : Nat)) L50)
      (Out.ex (P4 → Prop) fun y =>
        Out.need
          ((4 : Nat) ≤ (4 : Nat) ∧
            SImp (4 : Nat)
              {
                env :=
                  [((7 : Nat), AV.lit IntKind.i64 (0 : Int)), ((6 : Nat), AV.sl true (3 : Nat) (0 : Nat) (1 : Nat) (3 : Nat) (3 : Nat)),
                    ((33 : Nat), AV.sl true (3 : Nat) (0 : Nat) (1 : Nat) (3 : Nat) (3 : Nat)),
                    ((5 : Nat), AV.sl true (2 : Nat) (0 : Nat) (1 : Nat) (3 : Nat) (3 : Nat)),
                    ((32 : Nat), AV.sl true (2 : Nat) (0 : Nat) (1 : Nat) (3 : Nat) (3 : Nat)), ((26 : Nat), AV.bool (decide ((↑xs.length : Int) > (200 : Int)))),
                    ((25 : Nat), AV.bool (decide ((↑xs.length : Int) > (200 : Int)))), ((24 : Nat), AV.int IntKind.i64 (↑xs.length : Int)),
                    ((23 : Nat), AV.sl false (0 : Nat) (0 : Nat) (5 : Nat) xs.length c), ((22 : Nat), AV.ff), ((21 : Nat), AV.ff),
                    ((20 : Nat), AV.ptr (1 : Nat) (0 : Nat)), ((4 : Nat), AV.ptr (1 : Nat) (0 : Nat)), ((19 : Nat), AV.ptr (1 : Nat) (0 : Nat)),
                    ((3 : Nat), AV.tt), ((18 : Nat), AV.tt), ((2 : Nat), AV.ff), ((0 : Nat), AV.sl false (0 : Nat) (0 : Nat) (5 : Nat) xs.length c)],
                heap :=
                  [((3 : Nat), Blk.cells (3 : Nat) [AV.lit IntKind.i64 (0 : Int), AV.lit IntKind.i64 (0 : Int), AV.lit IntKind.i64 (0 : Int)]),
                    ((2 : Nat), Blk.cells (3 : Nat) [AV.lit IntKind.i64 (-1 : Int), AV.lit IntKind.i64 (-1 : Int), AV.lit IntKind.i64 (-1 : Int)]),
                    ((1 : Nat), Blk.obj (oC (MC.mk0 (3 : Int) (3 : Int)))), ((0 : Nat), Blk.ro Kd.five xs)],
                nx := (4 : Nat), nt := (209 : Nat), tl := [] : St V }
              (fun p =>
                I5 p
                  { i := (0 : Nat), s := MC.mk0 (3 : Int) (3 : Int), hs := [(-1 : Int), (-1 : Int), (-1 : Int)], ws := [(0 : Int), (0 : Int), (0 : Int)] : X5 })
              y)
          (Out.all P4 fun y_1 => Out.asm (y y_1) (Out.all X5 fun y => Out.asm ((fun x x_1 => True) y_1 y) (Out.fin AV.tt [] (0 : Nat)))))) := by kernel_rfl

end Sx
end Go.Proofs.Ytjackepkphdibaa
