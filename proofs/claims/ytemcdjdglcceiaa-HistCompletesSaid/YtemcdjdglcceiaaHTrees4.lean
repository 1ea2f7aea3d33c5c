/-
  Functions that go through what is read: the runs of the machine.
-/
import Derived.Test.YtemcdjdglcceiaaHTrees3
namespace Go.Proofs.Ytemcdjdglcceiaa
namespace Sx
open Go
set_option maxRecDepth 100000
set_option linter.unusedVariables false

def leftTo (cs : List Cal) (i : Nat) : Nat := hLeftOf (cs.take i)
structure PC where
  l : List Rec
  c : Nat
  cs : List Cal
  sp : Nat
  hb : cs.length ≤ 1099511627776
def I25 (p : PC) (i : Nat) : St V :=
  ⟨[(3, .int .i64 (leftTo p.cs i : Int)), (7, .sl false 1 0 5 p.cs.length (p.cs.length + p.sp)), (8, .int .i64 (p.cs.length : Int)), (9, .int .i64 (i : Int))],
   [(1, .arr 35 Kd.cal p.cs p.sp), (0, .ro Kd.rcd p.l)], 2, 20, [0, 1, 2, 3, 4, 5, 6, 7, 8]⟩
def L25 : LoopS V := trimLoop (trimSt [3, 7, 8, 9] [0, 1]) (loopH 2 (fun p : PC => I25 p 0) (fun _ (_ : Unit) => True) (fun p _ => I25 p p.cs.length))
def takesTo (l : List Rec) (i : Nat) : List Com := ((l.take i).filter fun r => decide (r.what = 2)).map Rec.com
def I23 (p : PL) (x : Nat × Nat) : St V :=
  ⟨[(3, .sl false 1 0 4 (takesTo p.l x.1).length ((takesTo p.l x.1).length + x.2)), (9, .sl false 0 0 8 p.l.length p.c), (10, .int .i64 (p.l.length : Int)), (11, .int .i64 (x.1 : Int))],
   [(1, .arr 27 Kd.com (takesTo p.l x.1) x.2), (0, .ro Kd.rcd p.l)], 2, 25, [0, 1, 2, 3, 4, 5, 6, 7, 8]⟩
def L23 : LoopS V := trimLoop (trimSt [3, 9, 10, 11] [0]) (loopH 1 (fun p : PL => I23 p (0, 0)) (fun _ (_ : Nat) => True) (fun p sp => I23 p (p.l.length, sp)))
def I12 (p : PC) (x : Nat × List (Int × Bool) × List (Int × Bool)) : St V :=
  ⟨[(0, .sl false 0 0 8 p.l.length p.c), (5, .mp 2), (6, .mp 3), (22, .sl false 1 0 5 p.cs.length (p.cs.length + p.sp)), (23, .int .i64 (p.cs.length : Int)), (24, .int .i64 (x.1 : Int))],
   [(3, .mp .i64 Kd.bool x.2.2), (2, .mp .i64 Kd.bool x.2.1), (1, .arr 35 Kd.cal p.cs p.sp), (0, .ro Kd.rcd p.l)], 4, 70, [0, 1, 2, 3, 4, 5, 6, 7, 8, 9, 10]⟩
def marks (m : List (Int × Bool)) (f : Int → Bool) : Prop := ∀ k, mget m k = if f k then some true else none
def dropTo (cs : List Cal) (i : Nat) (k : Int) : Bool := (cs.take i).any fun c => decide (c.to_ = -1 ∧ c.at_ = -1 ∧ c.frm = k)
def lateTo (cs : List Cal) (i : Nat) (k : Int) : Bool := (cs.take i).any fun c => decide (c.to_ = -1 ∧ c.at_ ≠ -1 ∧ c.at_ = k)
def L12 : LoopS V := trimLoop (trimSt [0, 5, 6, 22, 23, 24] [0, 1, 2, 3]) (loopH 4 (fun p : PC => I12 p (0, [], [])) (fun p (q : List (Int × Bool) × List (Int × Bool)) => marks q.1 (dropTo p.cs p.cs.length) ∧ marks q.2 (lateTo p.cs p.cs.length)) (fun p q => I12 p (p.cs.length, q)))
structure PD where
  l : List Rec
  c : Nat
  cs : List Cal
  sp : Nat
  md : List (Int × Bool)
  ml : List (Int × Bool)
  hb : l.length ≤ 1099511627776
  hd : marks md (dropTo cs cs.length)
  hm : marks ml (lateTo cs cs.length)
def J12 (p : PD) (x : Nat × Nat × Nat) : St V :=
  ⟨[(5, .mp 2), (6, .mp 3), (9, .sl false 4 0 8 (hOut p.l p.cs x.1).length ((hOut p.l p.cs x.1).length + x.2.1)), (10, .sl false 5 0 8 (hMore p.l p.cs x.1).length ((hMore p.l p.cs x.1).length + x.2.2)), (43, .sl false 0 0 8 p.l.length p.c), (44, .int .i64 (p.l.length : Int)), (45, .int .i64 (x.1 : Int))],
   [(4, .arr 30 Kd.rcd (hOut p.l p.cs x.1) x.2.1), (5, .arr 30 Kd.rcd (hMore p.l p.cs x.1) x.2.2), (3, .mp .i64 Kd.bool p.ml), (2, .mp .i64 Kd.bool p.md), (0, .ro Kd.rcd p.l)], 6, 70, [0, 1, 2, 3, 4, 5, 6, 7, 8, 9, 10, 11, 12, 13, 14, 15, 16, 17, 18]⟩
def M12 : LoopS V := trimLoop (trimSt [5, 6, 9, 10, 43, 44, 45] [0, 2, 3]) (loopH 4 (fun p : PD => J12 p (0, 0, 0)) (fun _ (_ : Nat × Nat) => True) (fun p q => J12 p (p.l.length, q)))
noncomputable def cfgG : Cfg Try.prog V := ⟨tab, kinds, fun _ => none, hooksF, fun f id => match f, id with | 12, 0 => some L12 | 12, 3 => some M12 | 23, 0 => some L23 | 25, 0 => some L25 | _, _ => none⟩
theorem b25 (p : PC) (i : Nat) : runCode cfgF 40 25 (loopOf Try.f25 0) (I25 p i) (stopT (trimSt [3, 7, 8, 9] [0, 1])) =
  Out.ite (decide ((↑i : Int) < (↑p.cs.length : Int)))
    (Out.need (0 ≤ (↑i : Int) ∧ (↑i : Int) < (↑p.cs.length : Int))
      (Out.need (0 + i < p.cs.length)
        (Out.ite ((p.cs.getD (0 + i) (V.enc Kd.cal).dflt).to_ == -1)
          (Out.stop EX.nx
            {
              env :=
                [(3, AV.int IntKind.i64 (IntKind.i64.wrap ((↑(leftTo p.cs i) : Int) + 1))), (7, AV.sl false 1 0 5 p.cs.length (p.cs.length + p.4)),
                  (8, AV.int IntKind.i64 (↑p.cs.length : Int)), (9, AV.int IntKind.i64 (IntKind.i64.wrap ((↑i : Int) + 1)))],
              heap := [(1, Blk.arr 35 Kd.cal p.cs p.4), (0, Blk.ro Kd.rcd p.l)], nx := 4, nt := 20, tl := [2, 2, 0, 1, 2, 3, 4, 5, 6, 7, 8] : St V })
          (Out.stop EX.nx
            {
              env :=
                [(3, AV.int IntKind.i64 (↑(leftTo p.cs i) : Int)), (7, AV.sl false 1 0 5 p.cs.length (p.cs.length + p.4)),
                  (8, AV.int IntKind.i64 (↑p.cs.length : Int)), (9, AV.int IntKind.i64 (IntKind.i64.wrap ((↑i : Int) + 1)))],
              heap := [(1, Blk.arr 35 Kd.cal p.cs p.4), (0, Blk.ro Kd.rcd p.l)], nx := 4, nt := 20, tl := [2, 2, 0, 1, 2, 3, 4, 5, 6, 7, 8] : St V }))))
    (Out.stop (EX.ex 0)
      {
        env :=
          [(3, AV.int IntKind.i64 (↑(leftTo p.cs i) : Int)), (7, AV.sl false 1 0 5 p.cs.length (p.cs.length + p.4)), (8, AV.int IntKind.i64 (↑p.cs.length : Int)),
            (9, AV.int IntKind.i64 (↑i : Int))],
        heap := [(1, Blk.arr 35 Kd.cal p.cs p.4), (0, Blk.ro Kd.rcd p.l)], nx := 2, nt := 20, tl := [0, 1, 2, 3, 4, 5, 6, 7, 8] : St V }) := by kernel_rfl

theorem b23 (p : PL) (x : Nat × Nat) : runCode cfgF 40 23 (loopOf Try.f23 0) (I23 p x) (stopT (trimSt [3, 9, 10, 11] [0, 1, 2, 3, 4, 5, 6])) =
  Out.ite (decide ((↑x.1 : Int) < (↑p.l.length : Int)))
    (Out.need (0 ≤ (↑x.1 : Int) ∧ (↑x.1 : Int) < (↑p.l.length : Int))
      (Out.need (0 + x.1 < p.l.length)
        (Out.ite ((p.l.getD (0 + x.1) (V.enc Kd.rcd).dflt).what == 2)
          (Out.need
            (0 = 0 ∧
              (takesTo p.l x.1).length = (takesTo p.l x.1).length ∧
                (takesTo p.l x.1).length + x.2 = (takesTo p.l x.1).length + x.2 ∧ ((takesTo p.l x.1).length + 1) * 32 ≤ 140737488355328)
            (Out.all Nat fun y =>
              Out.stop EX.nx
                {
                  env :=
                    [(3, AV.sl false 5 0 4 ((takesTo p.l x.1).length + 1) ((takesTo p.l x.1).length + 1 + y)), (9, AV.sl false 0 0 8 p.l.length p.2),
                      (10, AV.int IntKind.i64 (↑p.l.length : Int)), (11, AV.int IntKind.i64 (IntKind.i64.wrap ((↑x.1 : Int) + 1)))],
                  heap :=
                    [(5,
                        Blk.arr 27 Kd.com
                          (takesTo p.l x.1 ++
                            [{ act := (p.l.getD (0 + x.1) (V.enc Kd.rcd).dflt).act, key := (p.l.getD (0 + x.1) (V.enc Kd.rcd).dflt).key,
                                value := (p.l.getD (0 + x.1) (V.enc Kd.rcd).dflt).value, hit := (p.l.getD (0 + x.1) (V.enc Kd.rcd).dflt).hit : Com }])
                          y),
                      (4,
                        Blk.cells 27
                          [AV.int IntKind.i64 (p.l.getD (0 + x.1) (V.enc Kd.rcd).dflt).act, AV.int IntKind.i64 (p.l.getD (0 + x.1) (V.enc Kd.rcd).dflt).key,
                            AV.int IntKind.i64 (p.l.getD (0 + x.1) (V.enc Kd.rcd).dflt).value, AV.bool (p.l.getD (0 + x.1) (V.enc Kd.rcd).dflt).hit]),
                      (2,
                        Blk.cells 30
                          [AV.int IntKind.i64 (p.l.getD (0 + x.1) (V.enc Kd.rcd).dflt).thread, AV.int IntKind.i64 (p.l.getD (0 + x.1) (V.enc Kd.rcd).dflt).op,
                            AV.int IntKind.i64 (p.l.getD (0 + x.1) (V.enc Kd.rcd).dflt).what, AV.int IntKind.i64 (p.l.getD (0 + x.1) (V.enc Kd.rcd).dflt).act,
                            AV.int IntKind.i64 (p.l.getD (0 + x.1) (V.enc Kd.rcd).dflt).key, AV.int IntKind.i64 (p.l.getD (0 + x.1) (V.enc Kd.rcd).dflt).value,
                            AV.bool (p.l.getD (0 + x.1) (V.enc Kd.rcd).dflt).hit, AV.int IntKind.i64 (p.l.getD (0 + x.1) (V.enc Kd.rcd).dflt).err]),
                      (0, Blk.ro Kd.rcd p.l)],
                  nx := 6, nt := 25, tl := [1, 2, 0, 1, 2, 3, 4, 5, 6, 7, 8] : St V }))
          (Out.stop EX.nx
            {
              env :=
                [(3, AV.sl false 1 0 4 (takesTo p.l x.1).length ((takesTo p.l x.1).length + x.2)), (9, AV.sl false 0 0 8 p.l.length p.2),
                  (10, AV.int IntKind.i64 (↑p.l.length : Int)), (11, AV.int IntKind.i64 (IntKind.i64.wrap ((↑x.1 : Int) + 1)))],
              heap :=
                [(2,
                    Blk.cells 30
                      [AV.int IntKind.i64 (p.l.getD (0 + x.1) (V.enc Kd.rcd).dflt).thread, AV.int IntKind.i64 (p.l.getD (0 + x.1) (V.enc Kd.rcd).dflt).op,
                        AV.int IntKind.i64 (p.l.getD (0 + x.1) (V.enc Kd.rcd).dflt).what, AV.int IntKind.i64 (p.l.getD (0 + x.1) (V.enc Kd.rcd).dflt).act,
                        AV.int IntKind.i64 (p.l.getD (0 + x.1) (V.enc Kd.rcd).dflt).key, AV.int IntKind.i64 (p.l.getD (0 + x.1) (V.enc Kd.rcd).dflt).value,
                        AV.bool (p.l.getD (0 + x.1) (V.enc Kd.rcd).dflt).hit, AV.int IntKind.i64 (p.l.getD (0 + x.1) (V.enc Kd.rcd).dflt).err]),
                  (1, Blk.arr 27 Kd.com (takesTo p.l x.1) x.2), (0, Blk.ro Kd.rcd p.l)],
              nx := 4, nt := 25, tl := [2, 0, 1, 2, 3, 4, 5, 6, 7, 8] : St V }))))
    (Out.stop (EX.ex 0)
      {
        env :=
          [(3, AV.sl false 1 0 4 (takesTo p.l x.1).length ((takesTo p.l x.1).length + x.2)), (9, AV.sl false 0 0 8 p.l.length p.2),
            (10, AV.int IntKind.i64 (↑p.l.length : Int)), (11, AV.int IntKind.i64 (↑x.1 : Int))],
        heap := [(1, Blk.arr 27 Kd.com (takesTo p.l x.1) x.2), (0, Blk.ro Kd.rcd p.l)], nx := 2, nt := 25, tl := [0, 1, 2, 3, 4, 5, 6, 7, 8] : St V }) := by kernel_rfl

theorem b12 (p : PC) (x : Nat × List (Int × Bool) × List (Int × Bool)) : runCode cfgF 40 12 (loopOf Try.f12 0) (I12 p x) (stopT (trimSt [0, 5, 6, 22, 23, 24] [0, 1, 2, 3])) =
  Out.ite (decide ((↑x.1 : Int) < (↑p.cs.length : Int)))
    (Out.need (0 ≤ (↑x.1 : Int) ∧ (↑x.1 : Int) < (↑p.cs.length : Int))
      (Out.need (0 + x.1 < p.cs.length)
        (Out.ite ((p.cs.getD (0 + x.1) (V.enc Kd.cal).dflt).to_ != -1)
          (Out.stop EX.nx
            {
              env :=
                [(0, AV.sl false 0 0 8 p.l.length p.2), (5, AV.mp 2), (6, AV.mp 3), (22, AV.sl false 1 0 5 p.cs.length (p.cs.length + p.4)),
                  (23, AV.int IntKind.i64 (↑p.cs.length : Int)), (24, AV.int IntKind.i64 (IntKind.i64.wrap ((↑x.1 : Int) + 1)))],
              heap :=
                [(3, Blk.mp IntKind.i64 Kd.bool x.snd.snd), (2, Blk.mp IntKind.i64 Kd.bool x.snd.fst), (1, Blk.arr 35 Kd.cal p.cs p.4), (0, Blk.ro Kd.rcd p.l)],
              nx := 6, nt := 70, tl := [4, 4, 0, 1, 2, 3, 4, 5, 6, 7, 8, 9, 10] : St V })
          (Out.ite ((p.cs.getD (0 + x.1) (V.enc Kd.cal).dflt).at_ == -1)
            (Out.stop EX.nx
              {
                env :=
                  [(0, AV.sl false 0 0 8 p.l.length p.2), (5, AV.mp 2), (6, AV.mp 3), (22, AV.sl false 1 0 5 p.cs.length (p.cs.length + p.4)),
                    (23, AV.int IntKind.i64 (↑p.cs.length : Int)), (24, AV.int IntKind.i64 (IntKind.i64.wrap ((↑x.1 : Int) + 1)))],
                heap :=
                  [(3, Blk.mp IntKind.i64 Kd.bool x.snd.snd), (2, Blk.mp IntKind.i64 Kd.bool (mput x.snd.fst (p.cs.getD (0 + x.1) (V.enc Kd.cal).dflt).frm true)),
                    (1, Blk.arr 35 Kd.cal p.cs p.4), (0, Blk.ro Kd.rcd p.l)],
                nx := 7, nt := 70, tl := [4, 2, 4, 0, 1, 2, 3, 4, 5, 6, 7, 8, 9, 10] : St V })
            (Out.stop EX.nx
              {
                env :=
                  [(0, AV.sl false 0 0 8 p.l.length p.2), (5, AV.mp 2), (6, AV.mp 3), (22, AV.sl false 1 0 5 p.cs.length (p.cs.length + p.4)),
                    (23, AV.int IntKind.i64 (↑p.cs.length : Int)), (24, AV.int IntKind.i64 (IntKind.i64.wrap ((↑x.1 : Int) + 1)))],
                heap :=
                  [(3, Blk.mp IntKind.i64 Kd.bool (mput x.snd.snd (p.cs.getD (0 + x.1) (V.enc Kd.cal).dflt).at_ true)), (2, Blk.mp IntKind.i64 Kd.bool x.snd.fst),
                    (1, Blk.arr 35 Kd.cal p.cs p.4), (0, Blk.ro Kd.rcd p.l)],
                nx := 7, nt := 70, tl := [4, 3, 4, 0, 1, 2, 3, 4, 5, 6, 7, 8, 9, 10] : St V })))))
    (Out.stop (EX.ex 0)
      {
        env :=
          [(0, AV.sl false 0 0 8 p.l.length p.2), (5, AV.mp 2), (6, AV.mp 3), (22, AV.sl false 1 0 5 p.cs.length (p.cs.length + p.4)),
            (23, AV.int IntKind.i64 (↑p.cs.length : Int)), (24, AV.int IntKind.i64 (↑x.1 : Int))],
        heap := [(3, Blk.mp IntKind.i64 Kd.bool x.snd.snd), (2, Blk.mp IntKind.i64 Kd.bool x.snd.fst), (1, Blk.arr 35 Kd.cal p.cs p.4), (0, Blk.ro Kd.rcd p.l)],
        nx := 4, nt := 70, tl := [0, 1, 2, 3, 4, 5, 6, 7, 8, 9, 10] : St V }) := by kernel_rfl

theorem c12 (p : PD) (x : Nat × Nat × Nat) : runCode cfgF 40 12 (loopOf Try.f12 3) (J12 p x) (stopT (trimSt [5, 6, 9, 10, 43, 44, 45] [0, 2, 3, 4, 5, 9, 10, 11, 12])) =
  Out.ite (decide ((↑x.1 : Int) < (↑p.l.length : Int)))
    (Out.need (0 ≤ (↑x.1 : Int) ∧ (↑x.1 : Int) < (↑p.l.length : Int))
      (Out.need (0 + x.1 < p.l.length)
        (Out.ite (!(mget p.md (↑x.1 : Int)).getD (V.enc Kd.bool).dflt)
          (Out.need
            (0 = 0 ∧
              (hOut p.l p.cs x.1).length = (hOut p.l p.cs x.1).length ∧
                (hOut p.l p.cs x.1).length + x.snd.1 = (hOut p.l p.cs x.1).length + x.snd.1 ∧ ((hOut p.l p.cs x.1).length + 1) * 64 ≤ 140737488355328)
            (Out.all Nat fun y =>
              Out.ite ((mget p.ml (↑x.1 : Int)).getD (V.enc Kd.bool).dflt)
                (Out.need
                  (0 = 0 ∧
                    (hMore p.l p.cs x.1).length = (hMore p.l p.cs x.1).length ∧
                      (hMore p.l p.cs x.1).length + x.snd.2 = (hMore p.l p.cs x.1).length + x.snd.2 ∧ ((hMore p.l p.cs x.1).length + 1) * 64 ≤ 140737488355328)
                  (Out.all Nat fun y_1 =>
                    Out.stop EX.nx
                      {
                        env :=
                          [(5, AV.mp 2), (6, AV.mp 3), (9, AV.sl false 9 0 8 ((hOut p.l p.cs x.1).length + 1) ((hOut p.l p.cs x.1).length + 1 + y)),
                            (10, AV.sl false 12 0 8 ((hMore p.l p.cs x.1).length + 1) ((hMore p.l p.cs x.1).length + 1 + y_1)),
                            (43, AV.sl false 0 0 8 p.l.length p.2), (44, AV.int IntKind.i64 (↑p.l.length : Int)),
                            (45, AV.int IntKind.i64 (IntKind.i64.wrap ((↑x.1 : Int) + 1)))],
                        heap :=
                          [(12,
                              Blk.arr 30 Kd.rcd
                                (hMore p.l p.cs x.1 ++
                                  [{ thread := (p.l.getD (0 + x.1) (V.enc Kd.rcd).dflt).thread, op := (p.l.getD (0 + x.1) (V.enc Kd.rcd).dflt).op, what := 3,
                                      act := (p.l.getD (0 + x.1) (V.enc Kd.rcd).dflt).act, key := (p.l.getD (0 + x.1) (V.enc Kd.rcd).dflt).key,
                                      value := (p.l.getD (0 + x.1) (V.enc Kd.rcd).dflt).value, hit := (p.l.getD (0 + x.1) (V.enc Kd.rcd).dflt).hit,
                                      err := (p.l.getD (0 + x.1) (V.enc Kd.rcd).dflt).err : Rec }])
                                y_1),
                            (11,
                              Blk.cells 30
                                [AV.int IntKind.i64 (p.l.getD (0 + x.1) (V.enc Kd.rcd).dflt).thread,
                                  AV.int IntKind.i64 (p.l.getD (0 + x.1) (V.enc Kd.rcd).dflt).op, AV.lit IntKind.i64 3,
                                  AV.int IntKind.i64 (p.l.getD (0 + x.1) (V.enc Kd.rcd).dflt).act,
                                  AV.int IntKind.i64 (p.l.getD (0 + x.1) (V.enc Kd.rcd).dflt).key,
                                  AV.int IntKind.i64 (p.l.getD (0 + x.1) (V.enc Kd.rcd).dflt).value, AV.bool (p.l.getD (0 + x.1) (V.enc Kd.rcd).dflt).hit,
                                  AV.int IntKind.i64 (p.l.getD (0 + x.1) (V.enc Kd.rcd).dflt).err]),
                            (9,
                              Blk.arr 30 Kd.rcd
                                (hOut p.l p.cs x.1 ++
                                  [{ thread := (p.l.getD (0 + x.1) (V.enc Kd.rcd).dflt).thread, op := (p.l.getD (0 + x.1) (V.enc Kd.rcd).dflt).op,
                                      what := (p.l.getD (0 + x.1) (V.enc Kd.rcd).dflt).what, act := (p.l.getD (0 + x.1) (V.enc Kd.rcd).dflt).act,
                                      key := (p.l.getD (0 + x.1) (V.enc Kd.rcd).dflt).key, value := (p.l.getD (0 + x.1) (V.enc Kd.rcd).dflt).value,
                                      hit := (p.l.getD (0 + x.1) (V.enc Kd.rcd).dflt).hit, err := (p.l.getD (0 + x.1) (V.enc Kd.rcd).dflt).err : Rec }])
                                y),
                            (3, Blk.mp IntKind.i64 Kd.bool p.ml), (2, Blk.mp IntKind.i64 Kd.bool p.md), (0, Blk.ro Kd.rcd p.l)],
                        nx := 13, nt := 70, tl := [8, 6, 5, 6, 4, 6, 0, 1, 2, 3, 4, 5, 6, 7, 8, 9, 10, 11, 12, 13, 14, 15, 16, 17, 18] : St V }))
                (Out.stop EX.nx
                  {
                    env :=
                      [(5, AV.mp 2), (6, AV.mp 3), (9, AV.sl false 9 0 8 ((hOut p.l p.cs x.1).length + 1) ((hOut p.l p.cs x.1).length + 1 + y)),
                        (10, AV.sl false 5 0 8 (hMore p.l p.cs x.1).length ((hMore p.l p.cs x.1).length + x.snd.2)), (43, AV.sl false 0 0 8 p.l.length p.2),
                        (44, AV.int IntKind.i64 (↑p.l.length : Int)), (45, AV.int IntKind.i64 (IntKind.i64.wrap ((↑x.1 : Int) + 1)))],
                    heap :=
                      [(9,
                          Blk.arr 30 Kd.rcd
                            (hOut p.l p.cs x.1 ++
                              [{ thread := (p.l.getD (0 + x.1) (V.enc Kd.rcd).dflt).thread, op := (p.l.getD (0 + x.1) (V.enc Kd.rcd).dflt).op,
                                  what := (p.l.getD (0 + x.1) (V.enc Kd.rcd).dflt).what, act := (p.l.getD (0 + x.1) (V.enc Kd.rcd).dflt).act,
                                  key := (p.l.getD (0 + x.1) (V.enc Kd.rcd).dflt).key, value := (p.l.getD (0 + x.1) (V.enc Kd.rcd).dflt).value,
                                  hit := (p.l.getD (0 + x.1) (V.enc Kd.rcd).dflt).hit, err := (p.l.getD (0 + x.1) (V.enc Kd.rcd).dflt).err : Rec }])
                            y),
                        (5, Blk.arr 30 Kd.rcd (hMore p.l p.cs x.1) x.snd.2), (3, Blk.mp IntKind.i64 Kd.bool p.ml), (2, Blk.mp IntKind.i64 Kd.bool p.md),
                        (0, Blk.ro Kd.rcd p.l)],
                    nx := 10, nt := 70, tl := [8, 6, 4, 6, 0, 1, 2, 3, 4, 5, 6, 7, 8, 9, 10, 11, 12, 13, 14, 15, 16, 17, 18] : St V })))
          (Out.ite ((mget p.ml (↑x.1 : Int)).getD (V.enc Kd.bool).dflt)
            (Out.need
              (0 = 0 ∧
                (hMore p.l p.cs x.1).length = (hMore p.l p.cs x.1).length ∧
                  (hMore p.l p.cs x.1).length + x.snd.2 = (hMore p.l p.cs x.1).length + x.snd.2 ∧ ((hMore p.l p.cs x.1).length + 1) * 64 ≤ 140737488355328)
              (Out.all Nat fun y =>
                Out.stop EX.nx
                  {
                    env :=
                      [(5, AV.mp 2), (6, AV.mp 3), (9, AV.sl false 4 0 8 (hOut p.l p.cs x.1).length ((hOut p.l p.cs x.1).length + x.snd.1)),
                        (10, AV.sl false 10 0 8 ((hMore p.l p.cs x.1).length + 1) ((hMore p.l p.cs x.1).length + 1 + y)), (43, AV.sl false 0 0 8 p.l.length p.2),
                        (44, AV.int IntKind.i64 (↑p.l.length : Int)), (45, AV.int IntKind.i64 (IntKind.i64.wrap ((↑x.1 : Int) + 1)))],
                    heap :=
                      [(10,
                          Blk.arr 30 Kd.rcd
                            (hMore p.l p.cs x.1 ++
                              [{ thread := (p.l.getD (0 + x.1) (V.enc Kd.rcd).dflt).thread, op := (p.l.getD (0 + x.1) (V.enc Kd.rcd).dflt).op, what := 3,
                                  act := (p.l.getD (0 + x.1) (V.enc Kd.rcd).dflt).act, key := (p.l.getD (0 + x.1) (V.enc Kd.rcd).dflt).key,
                                  value := (p.l.getD (0 + x.1) (V.enc Kd.rcd).dflt).value, hit := (p.l.getD (0 + x.1) (V.enc Kd.rcd).dflt).hit,
                                  err := (p.l.getD (0 + x.1) (V.enc Kd.rcd).dflt).err : Rec }])
                            y),
                        (9,
                          Blk.cells 30
                            [AV.int IntKind.i64 (p.l.getD (0 + x.1) (V.enc Kd.rcd).dflt).thread, AV.int IntKind.i64 (p.l.getD (0 + x.1) (V.enc Kd.rcd).dflt).op,
                              AV.lit IntKind.i64 3, AV.int IntKind.i64 (p.l.getD (0 + x.1) (V.enc Kd.rcd).dflt).act,
                              AV.int IntKind.i64 (p.l.getD (0 + x.1) (V.enc Kd.rcd).dflt).key, AV.int IntKind.i64 (p.l.getD (0 + x.1) (V.enc Kd.rcd).dflt).value,
                              AV.bool (p.l.getD (0 + x.1) (V.enc Kd.rcd).dflt).hit, AV.int IntKind.i64 (p.l.getD (0 + x.1) (V.enc Kd.rcd).dflt).err]),
                        (4, Blk.arr 30 Kd.rcd (hOut p.l p.cs x.1) x.snd.1), (3, Blk.mp IntKind.i64 Kd.bool p.ml), (2, Blk.mp IntKind.i64 Kd.bool p.md),
                        (0, Blk.ro Kd.rcd p.l)],
                    nx := 11, nt := 70, tl := [6, 5, 6, 6, 0, 1, 2, 3, 4, 5, 6, 7, 8, 9, 10, 11, 12, 13, 14, 15, 16, 17, 18] : St V }))
            (Out.stop EX.nx
              {
                env :=
                  [(5, AV.mp 2), (6, AV.mp 3), (9, AV.sl false 4 0 8 (hOut p.l p.cs x.1).length ((hOut p.l p.cs x.1).length + x.snd.1)),
                    (10, AV.sl false 5 0 8 (hMore p.l p.cs x.1).length ((hMore p.l p.cs x.1).length + x.snd.2)), (43, AV.sl false 0 0 8 p.l.length p.2),
                    (44, AV.int IntKind.i64 (↑p.l.length : Int)), (45, AV.int IntKind.i64 (IntKind.i64.wrap ((↑x.1 : Int) + 1)))],
                heap :=
                  [(4, Blk.arr 30 Kd.rcd (hOut p.l p.cs x.1) x.snd.1), (5, Blk.arr 30 Kd.rcd (hMore p.l p.cs x.1) x.snd.2), (3, Blk.mp IntKind.i64 Kd.bool p.ml),
                    (2, Blk.mp IntKind.i64 Kd.bool p.md), (0, Blk.ro Kd.rcd p.l)],
                nx := 8, nt := 70, tl := [6, 6, 0, 1, 2, 3, 4, 5, 6, 7, 8, 9, 10, 11, 12, 13, 14, 15, 16, 17, 18] : St V })))))
    (Out.stop (EX.ex 3)
      {
        env :=
          [(5, AV.mp 2), (6, AV.mp 3), (9, AV.sl false 4 0 8 (hOut p.l p.cs x.1).length ((hOut p.l p.cs x.1).length + x.snd.1)),
            (10, AV.sl false 5 0 8 (hMore p.l p.cs x.1).length ((hMore p.l p.cs x.1).length + x.snd.2)), (43, AV.sl false 0 0 8 p.l.length p.2),
            (44, AV.int IntKind.i64 (↑p.l.length : Int)), (45, AV.int IntKind.i64 (↑x.1 : Int))],
        heap :=
          [(4, Blk.arr 30 Kd.rcd (hOut p.l p.cs x.1) x.snd.1), (5, Blk.arr 30 Kd.rcd (hMore p.l p.cs x.1) x.snd.2), (3, Blk.mp IntKind.i64 Kd.bool p.ml),
            (2, Blk.mp IntKind.i64 Kd.bool p.md), (0, Blk.ro Kd.rcd p.l)],
        nx := 6, nt := 70, tl := [0, 1, 2, 3, 4, 5, 6, 7, 8, 9, 10, 11, 12, 13, 14, 15, 16, 17, 18] : St V }) := by kernel_rfl

theorem t12 (l : List Rec) (c : Nat) : runF cfgG 40 12 Try.f12 [.sl false 0 0 8 l.length c] [(0, .ro Kd.rcd l)] 1 =
  Out.need (0 + l.length ≤ l.length)
    (Out.need ((List.take l.length (List.drop 0 l)).length ≤ 1099511627776)
      (Out.ite (hRight (List.take l.length (List.drop 0 l)))
        (Out.all Nat fun y =>
          Out.need (LoopFor Try.prog 12 0 (loopOf Try.f12 0) L12)
            (Out.ex (PC → Prop) fun y_1 =>
              Out.need
                (4 ≤ 4 ∧
                  SImp 4
                    {
                      env :=
                        [(0, AV.sl false 0 0 8 l.length c), (5, AV.mp 2), (6, AV.mp 3),
                          (22,
                            AV.sl false 1 0 5 (hCallsOf (List.take l.length (List.drop 0 l))).length
                              ((hCallsOf (List.take l.length (List.drop 0 l))).length + y)),
                          (23, AV.int IntKind.i64 (↑(hCallsOf (List.take l.length (List.drop 0 l))).length : Int)), (24, AV.lit IntKind.i64 0)],
                      heap :=
                        [(3, Blk.mp IntKind.i64 Kd.bool []), (2, Blk.mp IntKind.i64 Kd.bool []),
                          (1, Blk.arr 35 Kd.cal (hCallsOf (List.take l.length (List.drop 0 l))) y), (0, Blk.ro Kd.rcd l)],
                      nx := 4, nt := 70, tl := [] : St V }
                    (fun p => I12 p (0, [], [])) y_1)
                (Out.all PC fun y =>
                  Out.asm (y_1 y)
                    (Out.all (List (Int × Bool) × List (Int × Bool)) fun y_2 =>
                      Out.asm ((fun p q => marks q.fst (dropTo p.cs p.cs.length) ∧ marks q.snd (lateTo p.cs p.cs.length)) y y_2)
                        (Out.need (LoopFor Try.prog 12 3 (loopOf Try.f12 3) M12)
                          (Out.ex (PD → Prop) fun y_3 =>
                            Out.need
                              (4 ≤ 4 ∧
                                SImp 4
                                  {
                                    env :=
                                      [(5, AV.mp 2), (6, AV.mp 3), (9, AV.nilS), (10, AV.nilS), (43, AV.sl false 0 0 8 y.l.length y.2),
                                        (44, AV.int IntKind.i64 (↑y.l.length : Int)), (45, AV.lit IntKind.i64 0)],
                                    heap :=
                                      [(3, Blk.mp IntKind.i64 Kd.bool (y.cs.length, y_2).snd.snd), (2, Blk.mp IntKind.i64 Kd.bool (y.cs.length, y_2).snd.fst),
                                        (0, Blk.ro Kd.rcd y.l)],
                                    nx := 4, nt := 70, tl := [1, 0, 1, 2, 3, 4, 5, 6, 7, 8, 9, 10] : St V }
                                  (fun p => J12 p (0, 0, 0)) y_3)
                              (Out.all PD fun y =>
                                Out.asm (y_3 y)
                                  (Out.all (Nat × Nat) fun y_4 =>
                                    Out.asm ((fun x x_1 => True) y y_4)
                                      (Out.need (0 + (hMore y.l y.cs (y.l.length, y_4).fst).length ≤ (hMore y.l y.cs (y.l.length, y_4).fst).length)
                                        (Out.need
                                          (0 = 0 ∧
                                            (hOut y.l y.cs (y.l.length, y_4).fst).length = (hOut y.l y.cs (y.l.length, y_4).fst).length ∧
                                              (hOut y.l y.cs (y.l.length, y_4).fst).length + (y.l.length, y_4).snd.fst =
                                                  (hOut y.l y.cs (y.l.length, y_4).fst).length + (y.l.length, y_4).snd.fst ∧
                                                ((hOut y.l y.cs (y.l.length, y_4).fst).length +
                                                      (List.take (hMore y.l y.cs (y.l.length, y_4).fst).length
                                                          (List.drop 0 (hMore y.l y.cs (y.l.length, y_4).fst))).length) *
                                                    64 ≤
                                                  140737488355328)
                                          (Out.all Nat fun y_5 =>
                                            Out.fin
                                              (AV.sl false 6 0 8
                                                ((hOut y.l y.cs (y.l.length, y_4).fst).length +
                                                  (List.take (hMore y.l y.cs (y.l.length, y_4).fst).length
                                                      (List.drop 0 (hMore y.l y.cs (y.l.length, y_4).fst))).length)
                                                ((hOut y.l y.cs (y.l.length, y_4).fst).length +
                                                    (List.take (hMore y.l y.cs (y.l.length, y_4).fst).length
                                                        (List.drop 0 (hMore y.l y.cs (y.l.length, y_4).fst))).length +
                                                  y_5))
                                              [(6,
                                                  Blk.arr 30 Kd.rcd
                                                    (hOut y.l y.cs (y.l.length, y_4).fst ++
                                                      List.take (hMore y.l y.cs (y.l.length, y_4).fst).length
                                                        (List.drop 0 (hMore y.l y.cs (y.l.length, y_4).fst)))
                                                    y_5),
                                                (5, Blk.arr 30 Kd.rcd (hMore y.l y.cs (y.l.length, y_4).fst) (y.l.length, y_4).snd.snd),
                                                (3, Blk.mp IntKind.i64 Kd.bool y.ml), (2, Blk.mp IntKind.i64 Kd.bool y.md), (0, Blk.ro Kd.rcd y.l)]
                                              7)))))))))))
        (Out.fin AV.nilS [(0, Blk.ro Kd.rcd l)] 1))) := by kernel_rfl

theorem t23 (l : List Rec) (c : Nat) : runF cfgG 40 23 Try.f23 [.sl false 0 0 8 l.length c] [(0, .ro Kd.rcd l)] 1 =
  Out.need (0 + l.length ≤ l.length)
    (Out.need ((List.take l.length (List.drop 0 l)).length ≤ 1099511627776)
      (Out.ite (!hRight (List.take l.length (List.drop 0 l))) (Out.fin AV.nilS [(0, Blk.ro Kd.rcd l)] 1)
        (Out.need (LoopFor Try.prog 23 0 (loopOf Try.f23 0) L23)
          (Out.ex (PL → Prop) fun y =>
            Out.need
              (1 ≤ 1 ∧
                SImp 1
                  { env := [(3, AV.nilS), (9, AV.sl false 0 0 8 l.length c), (10, AV.int IntKind.i64 (↑l.length : Int)), (11, AV.lit IntKind.i64 0)],
                    heap := [(0, Blk.ro Kd.rcd l)], nx := 1, nt := 25, tl := [] : St V }
                  (fun p => I23 p (0, 0)) y)
              (Out.all PL fun y_1 =>
                Out.asm (y y_1)
                  (Out.all Nat fun y =>
                    Out.asm ((fun x x_1 => True) y_1 y)
                      (Out.fin (AV.sl false 1 0 4 (takesTo y_1.l (y_1.l.length, y).fst).length ((takesTo y_1.l (y_1.l.length, y).fst).length + y))
                        [(1, Blk.arr 27 Kd.com (takesTo y_1.l (y_1.l.length, y).fst) y), (0, Blk.ro Kd.rcd y_1.l)] 2))))))) := by kernel_rfl

theorem t25 (l : List Rec) (c : Nat) : runF cfgG 40 25 Try.f25 [.sl false 0 0 8 l.length c] [(0, .ro Kd.rcd l)] 1 =
  Out.need (0 + l.length ≤ l.length)
    (Out.need ((List.take l.length (List.drop 0 l)).length ≤ 1099511627776)
      (Out.all Nat fun y =>
        Out.need (LoopFor Try.prog 25 0 (loopOf Try.f25 0) L25)
          (Out.ex (PC → Prop) fun y_1 =>
            Out.need
              (2 ≤ 2 ∧
                SImp 2
                  {
                    env :=
                      [(3, AV.lit IntKind.i64 0),
                        (7,
                          AV.sl false 1 0 5 (hCallsOf (List.take l.length (List.drop 0 l))).length ((hCallsOf (List.take l.length (List.drop 0 l))).length + y)),
                        (8, AV.int IntKind.i64 (↑(hCallsOf (List.take l.length (List.drop 0 l))).length : Int)), (9, AV.lit IntKind.i64 0)],
                    heap := [(1, Blk.arr 35 Kd.cal (hCallsOf (List.take l.length (List.drop 0 l))) y), (0, Blk.ro Kd.rcd l)], nx := 2, nt := 20, tl := [] : St V }
                  (fun p => I25 p 0) y_1)
              (Out.all PC fun y =>
                Out.asm (y_1 y)
                  (Out.all Unit fun y_2 =>
                    Out.asm ((fun x x_1 => True) y y_2)
                      (Out.fin (AV.int IntKind.i64 (↑(leftTo y.cs y.cs.length) : Int)) [(1, Blk.arr 35 Kd.cal y.cs y.4), (0, Blk.ro Kd.rcd y.l)] 2)))))) := by kernel_rfl

end Sx
end Go.Proofs.Ytemcdjdglcceiaa
