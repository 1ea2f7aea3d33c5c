/-
  The law of threads: the runs of the machine.
-/
import Derived.Test.YtemcdjdglcceiaaHThr
namespace Go.Proofs.Ytemcdjdglcceiaa
namespace Sx
open Go
set_option maxRecDepth 100000
set_option linter.unusedVariables false

def nOf (l : List Rec) (t : Nat) : Nat := sumT (fun t => (hCallsOf (ownOf l (t : Int))).length) t
def fOf (l : List Rec) (t : Nat) : Nat := sumT (fun t => hLeft (ownOf l (t : Int))) t
structure PT where
  l : List Rec
  c : Nat
  hb : l.length ≤ 1000
  T : Threads l
def I70 (p : PT) (t : Nat) : St V := ⟨[(0, .sl false 0 0 8 p.l.length p.c), (3, .tt), (4, .int .i64 (nOf p.l t : Int)), (5, .int .i64 (fOf p.l t : Int)), (6, .int .i64 (t : Int))], [(0, .ro Kd.rcd p.l)], 1, 77, [0, 1, 2, 3, 4, 5, 6, 7, 8, 9, 10]⟩
structure PI extends PT where
  t : Nat
  ht : t < 64
def I72 (q : PI) (x : Nat × Nat) : St V := ⟨[(0, .sl false 0 0 8 q.l.length q.c), (3, .tt), (4, .int .i64 (nOf q.l q.t : Int)), (5, .int .i64 (fOf q.l q.t : Int)), (6, .int .i64 (q.t : Int)), (7, .sl false 1 0 8 (ownOf (q.l.take x.1) q.t).length ((ownOf (q.l.take x.1) q.t).length + x.2)), (8, .int .i64 (x.1 : Int))], [(1, .arr 30 Kd.rcd (ownOf (q.l.take x.1) q.t) x.2), (0, .ro Kd.rcd q.l)], 2, 77, [0, 1, 2, 3, 4, 5, 6, 7, 8, 9, 10]⟩
def L72 : LoopS V := trimLoop (trimSt [0, 3, 4, 5, 6, 7, 8] [0]) (loopH 1 (fun q : PI => I72 q (0, 0)) (fun _ (_ : Nat) => True) (fun q sp => I72 q (q.l.length, sp)))
def L70 : LoopS V := trimLoop (trimSt [0, 3, 4, 5, 6] [0]) (loopH 1 (fun p : PT => I70 p 0) (fun _ (_ : Unit) => True) (fun p _ => I70 p 64))
noncomputable def cfg72 : Cfg Try.prog V := ⟨tab, kinds, fun _ => none, hooksI, fun f id => match f, id with | 7, 2 => some L72 | _, _ => none⟩
noncomputable def cfg70 : Cfg Try.prog V := ⟨tab, kinds, fun _ => none, hooksI, fun f id => match f, id with | 7, 0 => some L70 | _, _ => none⟩
theorem b72 (q : PI) (x : Nat × Nat) : runCode cfgI 60 7 (loopOf Try.f7 2) (I72 q x) (stopT (trimSt [0, 3, 4, 5, 6, 7, 8] [0, 1, 2, 3, 4, 5])) =
  Out.ite (decide ((↑x.1 : Int) < (↑q.l.length : Int)))
    (Out.need (0 ≤ (↑x.1 : Int) ∧ (↑x.1 : Int) < (↑q.l.length : Int))
      (Out.need (0 + x.1 < q.l.length)
        (Out.ite ((q.l.getD (0 + x.1) (V.enc Kd.rcd).dflt).thread == (↑q.2 : Int))
          (Out.need (0 ≤ (↑x.1 : Int) ∧ (↑x.1 : Int) < (↑q.l.length : Int))
            (Out.need (0 + x.1 < q.l.length)
              (Out.need
                (0 = 0 ∧
                  (ownOf (List.take x.1 q.l) (↑q.2 : Int)).length = (ownOf (List.take x.1 q.l) (↑q.2 : Int)).length ∧
                    (ownOf (List.take x.1 q.l) (↑q.2 : Int)).length + x.2 = (ownOf (List.take x.1 q.l) (↑q.2 : Int)).length + x.2 ∧
                      ((ownOf (List.take x.1 q.l) (↑q.2 : Int)).length + 1) * 64 ≤ 140737488355328)
                (Out.all Nat fun y =>
                  Out.stop EX.nx
                    {
                      env :=
                        [(0, AV.sl false 0 0 8 q.l.length q.toPT.2), (3, AV.tt), (4, AV.int IntKind.i64 (↑(nOf q.l q.2) : Int)),
                          (5, AV.int IntKind.i64 (↑(fOf q.l q.2) : Int)), (6, AV.int IntKind.i64 (↑q.2 : Int)),
                          (7, AV.sl false 3 0 8 ((ownOf (List.take x.1 q.l) (↑q.2 : Int)).length + 1) ((ownOf (List.take x.1 q.l) (↑q.2 : Int)).length + 1 + y)),
                          (8, AV.int IntKind.i64 (IntKind.i64.wrap ((↑x.1 : Int) + 1)))],
                      heap :=
                        [(3,
                            Blk.arr 30 Kd.rcd
                              (ownOf (List.take x.1 q.l) (↑q.2 : Int) ++
                                [{ thread := (q.l.getD (0 + x.1) (V.enc Kd.rcd).dflt).thread, op := (q.l.getD (0 + x.1) (V.enc Kd.rcd).dflt).op,
                                    what := (q.l.getD (0 + x.1) (V.enc Kd.rcd).dflt).what, act := (q.l.getD (0 + x.1) (V.enc Kd.rcd).dflt).act,
                                    key := (q.l.getD (0 + x.1) (V.enc Kd.rcd).dflt).key, value := (q.l.getD (0 + x.1) (V.enc Kd.rcd).dflt).value,
                                    hit := (q.l.getD (0 + x.1) (V.enc Kd.rcd).dflt).hit, err := (q.l.getD (0 + x.1) (V.enc Kd.rcd).dflt).err : Rec }])
                              y),
                          (2,
                            Blk.cells 30
                              [AV.int IntKind.i64 (q.l.getD (0 + x.1) (V.enc Kd.rcd).dflt).thread, AV.int IntKind.i64 (q.l.getD (0 + x.1) (V.enc Kd.rcd).dflt).op,
                                AV.int IntKind.i64 (q.l.getD (0 + x.1) (V.enc Kd.rcd).dflt).what, AV.int IntKind.i64 (q.l.getD (0 + x.1) (V.enc Kd.rcd).dflt).act,
                                AV.int IntKind.i64 (q.l.getD (0 + x.1) (V.enc Kd.rcd).dflt).key,
                                AV.int IntKind.i64 (q.l.getD (0 + x.1) (V.enc Kd.rcd).dflt).value, AV.bool (q.l.getD (0 + x.1) (V.enc Kd.rcd).dflt).hit,
                                AV.int IntKind.i64 (q.l.getD (0 + x.1) (V.enc Kd.rcd).dflt).err]),
                          (0, Blk.ro Kd.rcd q.l)],
                      nx := 4, nt := 77, tl := [1, 0, 1, 2, 3, 4, 5, 6, 7, 8, 9, 10] : St V }))))
          (Out.stop EX.nx
            {
              env :=
                [(0, AV.sl false 0 0 8 q.l.length q.toPT.2), (3, AV.tt), (4, AV.int IntKind.i64 (↑(nOf q.l q.2) : Int)),
                  (5, AV.int IntKind.i64 (↑(fOf q.l q.2) : Int)), (6, AV.int IntKind.i64 (↑q.2 : Int)),
                  (7, AV.sl false 1 0 8 (ownOf (List.take x.1 q.l) (↑q.2 : Int)).length ((ownOf (List.take x.1 q.l) (↑q.2 : Int)).length + x.2)),
                  (8, AV.int IntKind.i64 (IntKind.i64.wrap ((↑x.1 : Int) + 1)))],
              heap := [(1, Blk.arr 30 Kd.rcd (ownOf (List.take x.1 q.l) (↑q.2 : Int)) x.2), (0, Blk.ro Kd.rcd q.l)], nx := 2, nt := 77,
              tl := [0, 1, 2, 3, 4, 5, 6, 7, 8, 9, 10] : St V }))))
    (Out.stop (EX.ex 2)
      {
        env :=
          [(0, AV.sl false 0 0 8 q.l.length q.toPT.2), (3, AV.tt), (4, AV.int IntKind.i64 (↑(nOf q.l q.2) : Int)), (5, AV.int IntKind.i64 (↑(fOf q.l q.2) : Int)),
            (6, AV.int IntKind.i64 (↑q.2 : Int)),
            (7, AV.sl false 1 0 8 (ownOf (List.take x.1 q.l) (↑q.2 : Int)).length ((ownOf (List.take x.1 q.l) (↑q.2 : Int)).length + x.2)),
            (8, AV.int IntKind.i64 (↑x.1 : Int))],
        heap := [(1, Blk.arr 30 Kd.rcd (ownOf (List.take x.1 q.l) (↑q.2 : Int)) x.2), (0, Blk.ro Kd.rcd q.l)], nx := 2, nt := 77,
        tl := [0, 1, 2, 3, 4, 5, 6, 7, 8, 9, 10] : St V }) := by kernel_rfl

theorem b70 (p : PT) (t : Nat) : runCode cfg72 60 7 (loopOf Try.f7 0) (I70 p t) (stopT (trimSt [0, 3, 4, 5, 6] [0])) =
  Out.ite (decide ((↑t : Int) < 64))
    (Out.need (LoopFor Try.prog 7 2 (loopOf Try.f7 2) L72)
      (Out.ex (PI → Prop) fun y =>
        Out.need
          (1 ≤ 1 ∧
            SImp 1
              {
                env :=
                  [(0, AV.sl false 0 0 8 p.l.length p.2), (3, AV.tt), (4, AV.int IntKind.i64 (↑(nOf p.l t) : Int)), (5, AV.int IntKind.i64 (↑(fOf p.l t) : Int)),
                    (6, AV.int IntKind.i64 (↑t : Int)), (7, AV.nilS), (8, AV.lit IntKind.i64 0)],
                heap := [(0, Blk.ro Kd.rcd p.l)], nx := 1, nt := 77, tl := [0, 1, 2, 3, 4, 5, 6, 7, 8, 9, 10] : St V }
              (fun q => I72 q (0, 0)) y)
          (Out.all PI fun y_1 =>
            Out.asm (y y_1)
              (Out.all Nat fun y =>
                Out.asm ((fun x x_1 => True) y_1 y)
                  (Out.ite ((↑(ownOf (List.take (y_1.l.length, y).fst y_1.l) (↑y_1.2 : Int)).length : Int) == 0)
                    (Out.stop EX.nx
                      {
                        env :=
                          [(0, AV.sl false 0 0 8 y_1.l.length y_1.toPT.2), (3, AV.tt), (4, AV.int IntKind.i64 (↑(nOf y_1.l y_1.2) : Int)),
                            (5, AV.int IntKind.i64 (↑(fOf y_1.l y_1.2) : Int)), (6, AV.int IntKind.i64 (IntKind.i64.wrap ((↑y_1.2 : Int) + 1)))],
                        heap := [(0, Blk.ro Kd.rcd y_1.l)], nx := 2, nt := 77, tl := [1, 0, 1, 2, 3, 4, 5, 6, 7, 8, 9, 10] : St V })
                    (Out.need
                      (0 + (ownOf (List.take (y_1.l.length, y).fst y_1.l) (↑y_1.2 : Int)).length ≤
                        (ownOf (List.take (y_1.l.length, y).fst y_1.l) (↑y_1.2 : Int)).length)
                      (Out.need
                        ((List.take (ownOf (List.take (y_1.l.length, y).fst y_1.l) (↑y_1.2 : Int)).length
                              (List.drop 0 (ownOf (List.take (y_1.l.length, y).fst y_1.l) (↑y_1.2 : Int)))).length ≤
                          1099511627776)
                        (Out.ite
                          (!hRight
                              (List.take (ownOf (List.take (y_1.l.length, y).fst y_1.l) (↑y_1.2 : Int)).length
                                (List.drop 0 (ownOf (List.take (y_1.l.length, y).fst y_1.l) (↑y_1.2 : Int)))))
                          (Out.stop EX.rt
                            {
                              env :=
                                [(0, AV.sl false 0 0 8 y_1.l.length y_1.toPT.2), (3, AV.tt), (4, AV.int IntKind.i64 (↑(nOf y_1.l y_1.2) : Int)),
                                  (5, AV.int IntKind.i64 (↑(fOf y_1.l y_1.2) : Int)), (6, AV.int IntKind.i64 (↑y_1.2 : Int))],
                              heap := [(0, Blk.ro Kd.rcd y_1.l)], nx := 2, nt := 77, tl := [1, 0, 1, 2, 3, 4, 5, 6, 7, 8, 9, 10] : St V })
                          (Out.need
                            (0 + (ownOf (List.take (y_1.l.length, y).fst y_1.l) (↑y_1.2 : Int)).length ≤
                              (ownOf (List.take (y_1.l.length, y).fst y_1.l) (↑y_1.2 : Int)).length)
                            (Out.need
                              ((List.take (ownOf (List.take (y_1.l.length, y).fst y_1.l) (↑y_1.2 : Int)).length
                                    (List.drop 0 (ownOf (List.take (y_1.l.length, y).fst y_1.l) (↑y_1.2 : Int)))).length ≤
                                1099511627776)
                              (Out.ite
                                (decide
                                  ((↑(hLeft
                                          (List.take (ownOf (List.take (y_1.l.length, y).fst y_1.l) (↑y_1.2 : Int)).length
                                            (List.drop 0 (ownOf (List.take (y_1.l.length, y).fst y_1.l) (↑y_1.2 : Int))))) :
                                      Int) >
                                    1))
                                (Out.stop EX.rt
                                  {
                                    env :=
                                      [(0, AV.sl false 0 0 8 y_1.l.length y_1.toPT.2), (3, AV.tt), (4, AV.int IntKind.i64 (↑(nOf y_1.l y_1.2) : Int)),
                                        (5, AV.int IntKind.i64 (↑(fOf y_1.l y_1.2) : Int)), (6, AV.int IntKind.i64 (↑y_1.2 : Int))],
                                    heap := [(0, Blk.ro Kd.rcd y_1.l)], nx := 2, nt := 77, tl := [1, 0, 1, 2, 3, 4, 5, 6, 7, 8, 9, 10] : St V })
                                (Out.need
                                  (0 + (ownOf (List.take (y_1.l.length, y).fst y_1.l) (↑y_1.2 : Int)).length ≤
                                    (ownOf (List.take (y_1.l.length, y).fst y_1.l) (↑y_1.2 : Int)).length)
                                  (Out.need
                                    ((List.take (ownOf (List.take (y_1.l.length, y).fst y_1.l) (↑y_1.2 : Int)).length
                                          (List.drop 0 (ownOf (List.take (y_1.l.length, y).fst y_1.l) (↑y_1.2 : Int)))).length ≤
                                      1099511627776)
                                    (Out.all Nat fun y_2 =>
                                      Out.need
                                        (0 + (ownOf (List.take (y_1.l.length, y).fst y_1.l) (↑y_1.2 : Int)).length ≤
                                          (ownOf (List.take (y_1.l.length, y).fst y_1.l) (↑y_1.2 : Int)).length)
                                        (Out.need
                                          ((List.take (ownOf (List.take (y_1.l.length, y).fst y_1.l) (↑y_1.2 : Int)).length
                                                (List.drop 0 (ownOf (List.take (y_1.l.length, y).fst y_1.l) (↑y_1.2 : Int)))).length ≤
                                            1099511627776)
                                          (Out.stop EX.nx
                                            {
                                              env :=
                                                [(0, AV.sl false 0 0 8 y_1.l.length y_1.toPT.2), (3, AV.tt),
                                                  (4,
                                                    AV.int IntKind.i64
                                                      (IntKind.i64.wrap
                                                        ((↑(nOf y_1.l y_1.2) : Int) +
                                                          (↑(hCallsOf
                                                                  (List.take (ownOf (List.take (y_1.l.length, y).fst y_1.l) (↑y_1.2 : Int)).length
                                                                    (List.drop 0 (ownOf (List.take (y_1.l.length, y).fst y_1.l) (↑y_1.2 : Int))))).length :
                                                            Int)))),
                                                  (5,
                                                    AV.int IntKind.i64
                                                      (IntKind.i64.wrap
                                                        ((↑(fOf y_1.l y_1.2) : Int) +
                                                          (↑(hLeft
                                                                (List.take (ownOf (List.take (y_1.l.length, y).fst y_1.l) (↑y_1.2 : Int)).length
                                                                  (List.drop 0 (ownOf (List.take (y_1.l.length, y).fst y_1.l) (↑y_1.2 : Int))))) :
                                                            Int)))),
                                                  (6, AV.int IntKind.i64 (IntKind.i64.wrap ((↑y_1.2 : Int) + 1)))],
                                              heap := [(0, Blk.ro Kd.rcd y_1.l)], nx := 3, nt := 77, tl := [2, 1, 0, 1, 2, 3, 4, 5, 6, 7, 8, 9, 10] :
                                              St V }))))))))))))))))
    (Out.stop (EX.ex 0)
      {
        env :=
          [(0, AV.sl false 0 0 8 p.l.length p.2), (3, AV.tt), (4, AV.int IntKind.i64 (↑(nOf p.l t) : Int)), (5, AV.int IntKind.i64 (↑(fOf p.l t) : Int)),
            (6, AV.int IntKind.i64 (↑t : Int))],
        heap := [(0, Blk.ro Kd.rcd p.l)], nx := 1, nt := 77, tl := [0, 1, 2, 3, 4, 5, 6, 7, 8, 9, 10] : St V }) := by kernel_rfl

theorem t7 (l : List Rec) (c : Nat) : runL cfg70 60 7 Try.f7 [.sl false 0 0 8 l.length c] [(0, .ro Kd.rcd l)] 1 =
  Out.ite (decide ((↑l.length : Int) > 150)) (Out.fin AV.tt [] 0)
    (Out.need (0 + l.length ≤ l.length)
      (Out.need ((List.take l.length (List.drop 0 l)).length ≤ 1099511627776)
        (Out.ite (!hRight (List.take l.length (List.drop 0 l))) (Out.fin AV.tt [] 0)
          (Out.need (LoopFor Try.prog 7 0 (loopOf Try.f7 0) L70)
            (Out.ex (PT → Prop) fun y =>
              Out.need
                (1 ≤ 1 ∧
                  SImp 1
                    { env := [(0, AV.sl false 0 0 8 l.length c), (3, AV.tt), (4, AV.lit IntKind.i64 0), (5, AV.lit IntKind.i64 0), (6, AV.lit IntKind.i64 0)],
                      heap := [(0, Blk.ro Kd.rcd l)], nx := 1, nt := 77, tl := [] : St V }
                    (fun p => I70 p 0) y)
                (Out.all PT fun y_1 =>
                  Out.asm (y y_1)
                    (Out.all Unit fun y =>
                      Out.asm ((fun x x_1 => True) y_1 y)
                        (Out.need (0 + y_1.l.length ≤ y_1.l.length)
                          (Out.need ((List.take y_1.l.length (List.drop 0 y_1.l)).length ≤ 1099511627776)
                            (Out.all Nat fun y =>
                              Out.ite ((↑(nOf y_1.l 64) : Int) == (↑(hCallsOf (List.take y_1.l.length (List.drop 0 y_1.l))).length : Int))
                                (Out.need (0 + y_1.l.length ≤ y_1.l.length)
                                  (Out.need ((List.take y_1.l.length (List.drop 0 y_1.l)).length ≤ 1099511627776)
                                    (Out.fin (AV.bool ((↑(fOf y_1.l 64) : Int) == (↑(hLeft (List.take y_1.l.length (List.drop 0 y_1.l))) : Int))) [] 0)))
                                (Out.fin AV.ff [] 0))))))))))) := by kernel_rfl

end Sx
end Go.Proofs.Ytemcdjdglcceiaa
