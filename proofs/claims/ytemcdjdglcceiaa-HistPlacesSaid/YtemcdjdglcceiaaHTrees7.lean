/-
  The law of places: the runs of the machine.
-/
import Derived.Test.YtemcdjdglcceiaaHOrder
namespace Go.Proofs.Ytemcdjdglcceiaa
namespace Sx
open Go
set_option maxRecDepth 100000
set_option linter.unusedVariables false

def one01 (n : Int) : Nat := if 0 ≤ n then 1 else 0
def placeCount (c : Cal) : Nat := one01 c.frm + one01 c.at_ + one01 c.to_
def placesTo (cs : List Cal) (i : Nat) : Nat := ((cs.take i).map placeCount).sum
def goneTo (l : List Rec) (i : Nat) : Nat := ((l.take i).filter fun r => decide (r.op < 0)).length
structure Places (l : List Rec) (cs : List Cal) : Prop where
  frm : ∀ (i : Nat) (c : Cal), cs[i]? = some c → 0 ≤ c.frm ∧ c.frm < l.length ∧ (l.getD c.frm.toNat r0).what = 1 ∧ (l.getD c.frm.toNat r0).thread = c.thread ∧ (l.getD c.frm.toNat r0).op = c.op
  at_ : ∀ (i : Nat) (c : Cal), cs[i]? = some c → 0 ≤ c.at_ → c.at_ < l.length ∧ (l.getD c.at_.toNat r0).what = 2 ∧ (l.getD c.at_.toNat r0).thread = c.thread ∧ (l.getD c.at_.toNat r0).op = c.op
  to_ : ∀ (i : Nat) (c : Cal), cs[i]? = some c → 0 ≤ c.to_ → c.to_ < l.length ∧ (l.getD c.to_.toNat r0).what = 3 ∧ (l.getD c.to_.toNat r0).thread = c.thread ∧ (l.getD c.to_.toNat r0).op = c.op
  up : ∀ (i : Nat) (c d : Cal), cs[i]? = some c → cs[i + 1]? = some d → c.frm < d.frm
structure PP where
  l : List Rec
  c : Nat
  cs : List Cal
  sp : Nat
  hb : cs.length ≤ 1000 ∧ l.length ≤ 1000
  O : Places l cs
def H8 (p : PP) : Heap V := [(1, .arr 35 Kd.cal p.cs p.sp), (0, .ro Kd.rcd p.l)]
def I80 (p : PP) (i : Nat) : St V := ⟨[(0, .sl false 0 0 8 p.l.length p.c), (3, .tt), (4, .sl false 1 0 5 p.cs.length (p.cs.length + p.sp)), (5, .int .i64 (placesTo p.cs i : Int)), (6, .int .i64 (i : Int))], H8 p, 2, 155, [0, 1, 2, 3, 4, 5, 6, 7, 8]⟩
structure PQ extends PP where
  i : Nat
  hi : i < cs.length
def ats (q : PQ) : List Int := [(q.cs.getD q.i c0).frm, (q.cs.getD q.i c0).at_, (q.cs.getD q.i c0).to_]
def cntTo (q : PQ) (k : Nat) : Nat := (((ats q).take k).map one01).sum
def I82 (q : PQ) (k : Nat) : St V := ⟨[(0, .sl false 0 0 8 q.l.length q.c), (3, .tt), (4, .sl false 1 0 5 q.cs.length (q.cs.length + q.sp)), (5, .int .i64 ((placesTo q.cs q.i + cntTo q k : Nat) : Int)), (6, .int .i64 (q.i : Int)), (7, .sl true 2 0 1 3 3), (8, .int .i64 (k : Int))], (2, .arr 3 Kd.int (ats q) 0) :: H8 q.toPP, 3, 155, [0, 1, 2, 3, 4, 5, 6, 7, 8]⟩
def E82 (q : PQ) : St V := ⟨[(0, .sl false 0 0 8 q.l.length q.c), (3, .tt), (4, .sl false 1 0 5 q.cs.length (q.cs.length + q.sp)), (5, .int .i64 (placesTo q.cs (q.i + 1) : Int)), (6, .int .i64 (q.i : Int))], H8 q.toPP, 3, 155, [0, 1, 2, 3, 4, 5, 6, 7, 8]⟩
def L82 : LoopS V := trimLoop (trimSt [0, 3, 4, 5, 6, 7, 8] [0, 1, 2]) (loopH 3 (fun q : PQ => I82 q 0) (fun _ (_ : Unit) => True) (fun q _ => E82 q))
def L80 : LoopS V := trimLoop (trimSt [0, 3, 4, 5, 6] [0, 1]) (loopH 2 (fun p : PP => I80 p 0) (fun _ (_ : Unit) => True) (fun p _ => I80 p p.cs.length))
def I84 (p : PP) (i : Nat) : St V := ⟨[(0, .sl false 0 0 8 p.l.length p.c), (3, .tt), (5, .int .i64 (placesTo p.cs p.cs.length : Int)), (9, .int .i64 (goneTo p.l i : Int)), (10, .int .i64 (i : Int))], [(0, .ro Kd.rcd p.l)], 2, 155, [0, 1, 2, 3, 4, 5, 6, 7, 8]⟩
def L84 : LoopS V := trimLoop (trimSt [0, 3, 5, 9, 10] [0]) (loopH 2 (fun p : PP => I84 p 0) (fun _ (_ : Unit) => True) (fun p _ => I84 p p.l.length))
noncomputable def cfg82 : Cfg Try.prog V := ⟨tab, kinds, fun _ => none, hooksI, fun f id => match f, id with | 8, 2 => some L82 | _, _ => none⟩
noncomputable def cfg80 : Cfg Try.prog V := ⟨tab, kinds, fun _ => none, hooksI, fun f id => match f, id with | 8, 0 => some L80 | 8, 4 => some L84 | _, _ => none⟩
theorem b82 (q : PQ) (k : Nat) : runCode cfgI 60 8 (loopOf Try.f8 2) (I82 q k) (stopT (trimSt [0, 3, 4, 5, 6, 7, 8] [0, 1, 2])) =
  Out.ite (decide ((↑k : Int) < 3))
    (Out.need (0 ≤ (↑k : Int) ∧ (↑k : Int) < 3)
      (Out.need (0 + k < 3)
        (Out.ite (decide ((ats q).getD (0 + k) (V.enc Kd.int).dflt < 0))
          (Out.stop EX.nx
            {
              env :=
                [(0, AV.sl false 0 0 8 q.l.length q.toPP.2), (3, AV.tt), (4, AV.sl false 1 0 5 q.cs.length (q.cs.length + q.toPP.4)),
                  (5, AV.int IntKind.i64 (↑(placesTo q.cs q.2 + cntTo q k) : Int)), (6, AV.int IntKind.i64 (↑q.2 : Int)), (7, AV.sl true 2 0 1 3 3),
                  (8, AV.int IntKind.i64 (IntKind.i64.wrap ((↑k : Int) + 1)))],
              heap := [(2, Blk.arr 3 Kd.int (ats q) 0), (1, Blk.arr 35 Kd.cal q.cs q.toPP.4), (0, Blk.ro Kd.rcd q.l)], nx := 3, nt := 155,
              tl := [0, 1, 2, 3, 4, 5, 6, 7, 8] : St V })
          (Out.need (0 ≤ (↑k : Int) ∧ (↑k : Int) < 3)
            (Out.need (0 + k < 3)
              (Out.ite (decide ((ats q).getD (0 + k) (V.enc Kd.int).dflt ≥ (↑q.l.length : Int)))
                (Out.stop EX.rt
                  {
                    env :=
                      [(0, AV.sl false 0 0 8 q.l.length q.toPP.2), (3, AV.tt), (4, AV.sl false 1 0 5 q.cs.length (q.cs.length + q.toPP.4)),
                        (5, AV.int IntKind.i64 (IntKind.i64.wrap ((↑(placesTo q.cs q.2 + cntTo q k) : Int) + 1))), (6, AV.int IntKind.i64 (↑q.2 : Int)),
                        (7, AV.sl true 2 0 1 3 3), (8, AV.int IntKind.i64 (↑k : Int))],
                    heap := [(2, Blk.arr 3 Kd.int (ats q) 0), (1, Blk.arr 35 Kd.cal q.cs q.toPP.4), (0, Blk.ro Kd.rcd q.l)], nx := 3, nt := 155,
                    tl := [0, 1, 2, 3, 4, 5, 6, 7, 8] : St V })
                (Out.need (0 ≤ (↑k : Int) ∧ (↑k : Int) < 3)
                  (Out.need (0 + k < 3)
                    (Out.need (0 ≤ (ats q).getD (0 + k) (V.enc Kd.int).dflt ∧ (ats q).getD (0 + k) (V.enc Kd.int).dflt < (↑q.l.length : Int))
                      (Out.need (0 + Int.toNat ((ats q).getD (0 + k) (V.enc Kd.int).dflt) < q.l.length)
                        (Out.ite
                          ((q.l.getD (0 + Int.toNat ((ats q).getD (0 + k) (V.enc Kd.int).dflt)) (V.enc Kd.rcd).dflt).what != IntKind.i64.wrap ((↑k : Int) + 1))
                          (Out.stop EX.rt
                            {
                              env :=
                                [(0, AV.sl false 0 0 8 q.l.length q.toPP.2), (3, AV.tt), (4, AV.sl false 1 0 5 q.cs.length (q.cs.length + q.toPP.4)),
                                  (5, AV.int IntKind.i64 (IntKind.i64.wrap ((↑(placesTo q.cs q.2 + cntTo q k) : Int) + 1))), (6, AV.int IntKind.i64 (↑q.2 : Int)),
                                  (7, AV.sl true 2 0 1 3 3), (8, AV.int IntKind.i64 (↑k : Int))],
                              heap := [(2, Blk.arr 3 Kd.int (ats q) 0), (1, Blk.arr 35 Kd.cal q.cs q.toPP.4), (0, Blk.ro Kd.rcd q.l)], nx := 3, nt := 155,
                              tl := [0, 1, 2, 3, 4, 5, 6, 7, 8] : St V })
                          (Out.need (0 ≤ (↑k : Int) ∧ (↑k : Int) < 3)
                            (Out.need (0 + k < 3)
                              (Out.need (0 ≤ (ats q).getD (0 + k) (V.enc Kd.int).dflt ∧ (ats q).getD (0 + k) (V.enc Kd.int).dflt < (↑q.l.length : Int))
                                (Out.need (0 + Int.toNat ((ats q).getD (0 + k) (V.enc Kd.int).dflt) < q.l.length)
                                  (Out.need (0 ≤ (↑q.2 : Int) ∧ (↑q.2 : Int) < (↑q.cs.length : Int))
                                    (Out.need (0 + q.2 < q.cs.length)
                                      (Out.ite
                                        ((q.l.getD (0 + Int.toNat ((ats q).getD (0 + k) (V.enc Kd.int).dflt)) (V.enc Kd.rcd).dflt).thread !=
                                          (q.cs.getD (0 + q.2) (V.enc Kd.cal).dflt).thread)
                                        (Out.stop EX.rt
                                          {
                                            env :=
                                              [(0, AV.sl false 0 0 8 q.l.length q.toPP.2), (3, AV.tt),
                                                (4, AV.sl false 1 0 5 q.cs.length (q.cs.length + q.toPP.4)),
                                                (5, AV.int IntKind.i64 (IntKind.i64.wrap ((↑(placesTo q.cs q.2 + cntTo q k) : Int) + 1))),
                                                (6, AV.int IntKind.i64 (↑q.2 : Int)), (7, AV.sl true 2 0 1 3 3), (8, AV.int IntKind.i64 (↑k : Int))],
                                            heap := [(2, Blk.arr 3 Kd.int (ats q) 0), (1, Blk.arr 35 Kd.cal q.cs q.toPP.4), (0, Blk.ro Kd.rcd q.l)], nx := 3,
                                            nt := 155, tl := [0, 1, 2, 3, 4, 5, 6, 7, 8] : St V })
                                        (Out.need (0 ≤ (↑k : Int) ∧ (↑k : Int) < 3)
                                          (Out.need (0 + k < 3)
                                            (Out.need
                                              (0 ≤ (ats q).getD (0 + k) (V.enc Kd.int).dflt ∧ (ats q).getD (0 + k) (V.enc Kd.int).dflt < (↑q.l.length : Int))
                                              (Out.need (0 + Int.toNat ((ats q).getD (0 + k) (V.enc Kd.int).dflt) < q.l.length)
                                                (Out.need (0 ≤ (↑q.2 : Int) ∧ (↑q.2 : Int) < (↑q.cs.length : Int))
                                                  (Out.need (0 + q.2 < q.cs.length)
                                                    (Out.ite
                                                      ((q.l.getD (0 + Int.toNat ((ats q).getD (0 + k) (V.enc Kd.int).dflt)) (V.enc Kd.rcd).dflt).op !=
                                                        (q.cs.getD (0 + q.2) (V.enc Kd.cal).dflt).op)
                                                      (Out.stop EX.rt
                                                        {
                                                          env :=
                                                            [(0, AV.sl false 0 0 8 q.l.length q.toPP.2), (3, AV.tt),
                                                              (4, AV.sl false 1 0 5 q.cs.length (q.cs.length + q.toPP.4)),
                                                              (5, AV.int IntKind.i64 (IntKind.i64.wrap ((↑(placesTo q.cs q.2 + cntTo q k) : Int) + 1))),
                                                              (6, AV.int IntKind.i64 (↑q.2 : Int)), (7, AV.sl true 2 0 1 3 3),
                                                              (8, AV.int IntKind.i64 (↑k : Int))],
                                                          heap := [(2, Blk.arr 3 Kd.int (ats q) 0), (1, Blk.arr 35 Kd.cal q.cs q.toPP.4), (0, Blk.ro Kd.rcd q.l)],
                                                          nx := 3, nt := 155, tl := [0, 1, 2, 3, 4, 5, 6, 7, 8] : St V })
                                                      (Out.stop EX.nx
                                                        {
                                                          env :=
                                                            [(0, AV.sl false 0 0 8 q.l.length q.toPP.2), (3, AV.tt),
                                                              (4, AV.sl false 1 0 5 q.cs.length (q.cs.length + q.toPP.4)),
                                                              (5, AV.int IntKind.i64 (IntKind.i64.wrap ((↑(placesTo q.cs q.2 + cntTo q k) : Int) + 1))),
                                                              (6, AV.int IntKind.i64 (↑q.2 : Int)), (7, AV.sl true 2 0 1 3 3),
                                                              (8, AV.int IntKind.i64 (IntKind.i64.wrap ((↑k : Int) + 1)))],
                                                          heap := [(2, Blk.arr 3 Kd.int (ats q) 0), (1, Blk.arr 35 Kd.cal q.cs q.toPP.4), (0, Blk.ro Kd.rcd q.l)],
                                                          nx := 3, nt := 155, tl := [0, 1, 2, 3, 4, 5, 6, 7, 8] : St V }))))))))))))))))))))))))))
    (Out.stop (EX.ex 2)
      {
        env :=
          [(0, AV.sl false 0 0 8 q.l.length q.toPP.2), (3, AV.tt), (4, AV.sl false 1 0 5 q.cs.length (q.cs.length + q.toPP.4)),
            (5, AV.int IntKind.i64 (↑(placesTo q.cs q.2 + cntTo q k) : Int)), (6, AV.int IntKind.i64 (↑q.2 : Int)), (7, AV.sl true 2 0 1 3 3),
            (8, AV.int IntKind.i64 (↑k : Int))],
        heap := [(2, Blk.arr 3 Kd.int (ats q) 0), (1, Blk.arr 35 Kd.cal q.cs q.toPP.4), (0, Blk.ro Kd.rcd q.l)], nx := 3, nt := 155,
        tl := [0, 1, 2, 3, 4, 5, 6, 7, 8] : St V }) := by kernel_rfl

theorem b80 (p : PP) (i : Nat) : runCode cfg82 60 8 (loopOf Try.f8 0) (I80 p i) (stopT (trimSt [0, 3, 4, 5, 6] [0, 1])) =
  Out.ite (decide ((↑i : Int) < (↑p.cs.length : Int)))
    (Out.need (0 ≤ (↑i : Int) ∧ (↑i : Int) < (↑p.cs.length : Int))
      (Out.need (0 + i < p.cs.length)
        (Out.need (0 ≤ (↑i : Int) ∧ (↑i : Int) < (↑p.cs.length : Int))
          (Out.need (0 + i < p.cs.length)
            (Out.need (0 ≤ (↑i : Int) ∧ (↑i : Int) < (↑p.cs.length : Int))
              (Out.need (0 + i < p.cs.length)
                (Out.need (LoopFor Try.prog 8 2 (loopOf Try.f8 2) L82)
                  (Out.ex (PQ → Prop) fun y =>
                    Out.need
                      (3 ≤ 3 ∧
                        SImp 3
                          {
                            env :=
                              [(0, AV.sl false 0 0 8 p.l.length p.2), (3, AV.tt), (4, AV.sl false 1 0 5 p.cs.length (p.cs.length + p.4)),
                                (5, AV.int IntKind.i64 (↑(placesTo p.cs i) : Int)), (6, AV.int IntKind.i64 (↑i : Int)), (7, AV.sl true 2 0 1 3 3),
                                (8, AV.lit IntKind.i64 0)],
                            heap :=
                              [(2,
                                  Blk.cells 3
                                    [AV.int IntKind.i64 (p.cs.getD (0 + i) (V.enc Kd.cal).dflt).frm,
                                      AV.int IntKind.i64 (p.cs.getD (0 + i) (V.enc Kd.cal).dflt).at_,
                                      AV.int IntKind.i64 (p.cs.getD (0 + i) (V.enc Kd.cal).dflt).to_]),
                                (1, Blk.arr 35 Kd.cal p.cs p.4), (0, Blk.ro Kd.rcd p.l)],
                            nx := 3, nt := 155, tl := [0, 1, 2, 3, 4, 5, 6, 7, 8] : St V }
                          (fun q => I82 q 0) y)
                      (Out.all PQ fun y_1 =>
                        Out.asm (y y_1)
                          (Out.all Unit fun y =>
                            Out.asm ((fun x x_1 => True) y_1 y)
                              (Out.need (0 ≤ (↑y_1.2 : Int) ∧ (↑y_1.2 : Int) < (↑y_1.cs.length : Int))
                                (Out.need (0 + y_1.2 < y_1.cs.length)
                                  (Out.ite (decide ((y_1.cs.getD (0 + y_1.2) (V.enc Kd.cal).dflt).frm < 0))
                                    (Out.stop EX.rt
                                      {
                                        env :=
                                          [(0, AV.sl false 0 0 8 y_1.l.length y_1.toPP.2), (3, AV.tt),
                                            (4, AV.sl false 1 0 5 y_1.cs.length (y_1.cs.length + y_1.toPP.4)),
                                            (5, AV.int IntKind.i64 (↑(placesTo y_1.cs (y_1.2 + 1)) : Int)), (6, AV.int IntKind.i64 (↑y_1.2 : Int))],
                                        heap := [(1, Blk.arr 35 Kd.cal y_1.cs y_1.toPP.4), (0, Blk.ro Kd.rcd y_1.l)], nx := 3, nt := 155,
                                        tl := [0, 1, 2, 3, 4, 5, 6, 7, 8] : St V })
                                    (Out.ite (decide ((↑y_1.2 : Int) > 0))
                                      (Out.need (0 ≤ (↑y_1.2 : Int) ∧ (↑y_1.2 : Int) < (↑y_1.cs.length : Int))
                                        (Out.need (0 + y_1.2 < y_1.cs.length)
                                          (Out.need (0 ≤ IntKind.i64.wrap ((↑y_1.2 : Int) - 1) ∧ IntKind.i64.wrap ((↑y_1.2 : Int) - 1) < (↑y_1.cs.length : Int))
                                            (Out.need (0 + (IntKind.i64.wrap ((↑y_1.2 : Int) - 1)).toNat < y_1.cs.length)
                                              (Out.ite
                                                (decide
                                                  ((y_1.cs.getD (0 + y_1.2) (V.enc Kd.cal).dflt).frm ≤
                                                    (y_1.cs.getD (0 + (IntKind.i64.wrap ((↑y_1.2 : Int) - 1)).toNat) (V.enc Kd.cal).dflt).frm))
                                                (Out.stop EX.rt
                                                  {
                                                    env :=
                                                      [(0, AV.sl false 0 0 8 y_1.l.length y_1.toPP.2), (3, AV.tt),
                                                        (4, AV.sl false 1 0 5 y_1.cs.length (y_1.cs.length + y_1.toPP.4)),
                                                        (5, AV.int IntKind.i64 (↑(placesTo y_1.cs (y_1.2 + 1)) : Int)), (6, AV.int IntKind.i64 (↑y_1.2 : Int))],
                                                    heap := [(1, Blk.arr 35 Kd.cal y_1.cs y_1.toPP.4), (0, Blk.ro Kd.rcd y_1.l)], nx := 3, nt := 155,
                                                    tl := [0, 1, 2, 3, 4, 5, 6, 7, 8] : St V })
                                                (Out.stop EX.nx
                                                  {
                                                    env :=
                                                      [(0, AV.sl false 0 0 8 y_1.l.length y_1.toPP.2), (3, AV.tt),
                                                        (4, AV.sl false 1 0 5 y_1.cs.length (y_1.cs.length + y_1.toPP.4)),
                                                        (5, AV.int IntKind.i64 (↑(placesTo y_1.cs (y_1.2 + 1)) : Int)),
                                                        (6, AV.int IntKind.i64 (IntKind.i64.wrap ((↑y_1.2 : Int) + 1)))],
                                                    heap := [(1, Blk.arr 35 Kd.cal y_1.cs y_1.toPP.4), (0, Blk.ro Kd.rcd y_1.l)], nx := 3, nt := 155,
                                                    tl := [0, 1, 2, 3, 4, 5, 6, 7, 8] : St V }))))))
                                      (Out.stop EX.nx
                                        {
                                          env :=
                                            [(0, AV.sl false 0 0 8 y_1.l.length y_1.toPP.2), (3, AV.tt),
                                              (4, AV.sl false 1 0 5 y_1.cs.length (y_1.cs.length + y_1.toPP.4)),
                                              (5, AV.int IntKind.i64 (↑(placesTo y_1.cs (y_1.2 + 1)) : Int)),
                                              (6, AV.int IntKind.i64 (IntKind.i64.wrap ((↑y_1.2 : Int) + 1)))],
                                          heap := [(1, Blk.arr 35 Kd.cal y_1.cs y_1.toPP.4), (0, Blk.ro Kd.rcd y_1.l)], nx := 3, nt := 155,
                                          tl := [0, 1, 2, 3, 4, 5, 6, 7, 8] : St V })))))))))))))))
    (Out.stop (EX.ex 0)
      {
        env :=
          [(0, AV.sl false 0 0 8 p.l.length p.2), (3, AV.tt), (4, AV.sl false 1 0 5 p.cs.length (p.cs.length + p.4)),
            (5, AV.int IntKind.i64 (↑(placesTo p.cs i) : Int)), (6, AV.int IntKind.i64 (↑i : Int))],
        heap := [(1, Blk.arr 35 Kd.cal p.cs p.4), (0, Blk.ro Kd.rcd p.l)], nx := 2, nt := 155, tl := [0, 1, 2, 3, 4, 5, 6, 7, 8] : St V }) := by kernel_rfl

theorem b84 (p : PP) (i : Nat) : runCode cfgI 60 8 (loopOf Try.f8 4) (I84 p i) (stopT (trimSt [0, 3, 5, 9, 10] [0])) =
  Out.ite (decide ((↑i : Int) < (↑p.l.length : Int)))
    (Out.need (0 ≤ (↑i : Int) ∧ (↑i : Int) < (↑p.l.length : Int))
      (Out.need (0 + i < p.l.length)
        (Out.ite (decide ((p.l.getD (0 + i) (V.enc Kd.rcd).dflt).op < 0))
          (Out.stop EX.nx
            {
              env :=
                [(0, AV.sl false 0 0 8 p.l.length p.2), (3, AV.tt), (5, AV.int IntKind.i64 (↑(placesTo p.cs p.cs.length) : Int)),
                  (9, AV.int IntKind.i64 (IntKind.i64.wrap ((↑(goneTo p.l i) : Int) + 1))), (10, AV.int IntKind.i64 (IntKind.i64.wrap ((↑i : Int) + 1)))],
              heap := [(0, Blk.ro Kd.rcd p.l)], nx := 2, nt := 155, tl := [0, 1, 2, 3, 4, 5, 6, 7, 8] : St V })
          (Out.stop EX.nx
            {
              env :=
                [(0, AV.sl false 0 0 8 p.l.length p.2), (3, AV.tt), (5, AV.int IntKind.i64 (↑(placesTo p.cs p.cs.length) : Int)),
                  (9, AV.int IntKind.i64 (↑(goneTo p.l i) : Int)), (10, AV.int IntKind.i64 (IntKind.i64.wrap ((↑i : Int) + 1)))],
              heap := [(0, Blk.ro Kd.rcd p.l)], nx := 2, nt := 155, tl := [0, 1, 2, 3, 4, 5, 6, 7, 8] : St V }))))
    (Out.stop (EX.ex 4)
      {
        env :=
          [(0, AV.sl false 0 0 8 p.l.length p.2), (3, AV.tt), (5, AV.int IntKind.i64 (↑(placesTo p.cs p.cs.length) : Int)),
            (9, AV.int IntKind.i64 (↑(goneTo p.l i) : Int)), (10, AV.int IntKind.i64 (↑i : Int))],
        heap := [(0, Blk.ro Kd.rcd p.l)], nx := 2, nt := 155, tl := [0, 1, 2, 3, 4, 5, 6, 7, 8] : St V }) := by kernel_rfl

theorem t8 (l : List Rec) (c : Nat) : runL cfg80 60 8 Try.f8 [.sl false 0 0 8 l.length c] [(0, .ro Kd.rcd l)] 1 =
  Out.ite (decide ((↑l.length : Int) > 150)) (Out.fin AV.tt [] 0)
    (Out.need (0 + l.length ≤ l.length)
      (Out.need ((List.take l.length (List.drop 0 l)).length ≤ 1099511627776)
        (Out.all Nat fun y =>
          Out.need (LoopFor Try.prog 8 0 (loopOf Try.f8 0) L80)
            (Out.ex (PP → Prop) fun y_1 =>
              Out.need
                (2 ≤ 2 ∧
                  SImp 2
                    {
                      env :=
                        [(0, AV.sl false 0 0 8 l.length c), (3, AV.tt),
                          (4,
                            AV.sl false 1 0 5 (hCallsOf (List.take l.length (List.drop 0 l))).length
                              ((hCallsOf (List.take l.length (List.drop 0 l))).length + y)),
                          (5, AV.lit IntKind.i64 0), (6, AV.lit IntKind.i64 0)],
                      heap := [(1, Blk.arr 35 Kd.cal (hCallsOf (List.take l.length (List.drop 0 l))) y), (0, Blk.ro Kd.rcd l)], nx := 2, nt := 155, tl := [] :
                      St V }
                    (fun p => I80 p 0) y_1)
                (Out.all PP fun y =>
                  Out.asm (y_1 y)
                    (Out.all Unit fun y_2 =>
                      Out.asm ((fun x x_1 => True) y y_2)
                        (Out.need (LoopFor Try.prog 8 4 (loopOf Try.f8 4) L84)
                          (Out.ex (PP → Prop) fun y_3 =>
                            Out.need
                              (2 ≤ 2 ∧
                                SImp 2
                                  {
                                    env :=
                                      [(0, AV.sl false 0 0 8 y.l.length y.2), (3, AV.tt), (5, AV.int IntKind.i64 (↑(placesTo y.cs y.cs.length) : Int)),
                                        (9, AV.lit IntKind.i64 0), (10, AV.lit IntKind.i64 0)],
                                    heap := [(0, Blk.ro Kd.rcd y.l)], nx := 2, nt := 155, tl := [1, 0, 1, 2, 3, 4, 5, 6, 7, 8] : St V }
                                  (fun p => I84 p 0) y_3)
                              (Out.all PP fun y =>
                                Out.asm (y_3 y)
                                  (Out.all Unit fun y_4 =>
                                    Out.asm ((fun x x_1 => True) y y_4)
                                      (Out.need (0 + y.l.length ≤ y.l.length)
                                        (Out.need ((List.take y.l.length (List.drop 0 y.l)).length ≤ 1099511627776)
                                          (Out.ite (!hRight (List.take y.l.length (List.drop 0 y.l))) (Out.fin AV.tt [] 0)
                                            (Out.fin
                                              (AV.bool
                                                (IntKind.i64.wrap ((↑(placesTo y.cs y.cs.length) : Int) + (↑(goneTo y.l y.l.length) : Int)) ==
                                                  (↑y.l.length : Int)))
                                              [] 0)))))))))))))) := by kernel_rfl

end Sx
end Go.Proofs.Ytemcdjdglcceiaa
