/-
  The law of orders: the runs of the machine.
-/
import Derived.Test.YtemcdjdglcceiaaHSmall
namespace Go.Proofs.Ytemcdjdglcceiaa
namespace Sx
open Go
set_option maxRecDepth 100000
set_option linter.unusedVariables false

/-- What holds of all calls of a row. -/
structure Ord (cs : List Cal) : Prop where
  one : ∀ (i : Nat) (c : Cal), cs[i]? = some c → 0 ≤ c.frm ∧ (0 ≤ c.at_ → c.frm < c.at_) ∧ (0 ≤ c.to_ → c.frm < c.to_ ∧ c.at_ < c.to_)
  two : ∀ (i k : Nat) (c d : Cal), cs[i]? = some c → cs[k]? = some d → c.thread = d.thread → c.op < d.op → 0 ≤ c.to_ ∧ c.to_ < d.frm
structure PO where
  l : List Rec
  c : Nat
  cs : List Cal
  sp : Nat
  hb : cs.length ≤ 1099511627776
  O : Ord cs
structure PK extends PO where
  i : Nat
  hi : i < cs.length
structure PJ extends PK where
  k : Nat
  hk : k < cs.length
def H5 (p : PO) : Heap V := [(1, .arr 35 Kd.cal p.cs p.sp), (0, .ro Kd.rcd p.l)]
def I50 (p : PO) (i : Nat) : St V := ⟨[(0, .sl false 0 0 8 p.l.length p.c), (3, .tt), (4, .sl false 1 0 5 p.cs.length (p.cs.length + p.sp)), (5, .int .i64 (i : Int))], H5 p, 2, 193, [0, 1, 2, 3, 4, 5, 6, 7, 8]⟩
def I52 (p : PK) (k : Nat) : St V := ⟨[(0, .sl false 0 0 8 p.l.length p.c), (3, .tt), (4, .sl false 1 0 5 p.cs.length (p.cs.length + p.sp)), (5, .int .i64 (p.i : Int)), (6, .int .i64 (k : Int))], H5 p.toPO, 2, 193, [0, 1, 2, 3, 4, 5, 6, 7, 8]⟩
def I54 (p : PJ) (j : Nat) : St V := ⟨[(0, .sl false 0 0 8 p.l.length p.c), (3, .tt), (4, .sl false 1 0 5 p.cs.length (p.cs.length + p.sp)), (5, .int .i64 (p.i : Int)), (6, .int .i64 (p.k : Int)), (7, .int .i64 (j : Int))], H5 p.toPO, 2, 193, [0, 1, 2, 3, 4, 5, 6, 7, 8]⟩
def L54 : LoopS V := trimLoop (trimSt [0, 3, 4, 5, 6, 7] [0, 1]) (loopH 2 (fun p : PJ => I54 p 0) (fun _ (_ : Unit) => True) (fun p _ => I52 p.toPK p.k))
def L52 : LoopS V := trimLoop (trimSt [0, 3, 4, 5, 6] [0, 1]) (loopH 2 (fun p : PK => I52 p 0) (fun _ (_ : Unit) => True) (fun p _ => I50 p.toPO p.i))
def L50 : LoopS V := trimLoop (trimSt [0, 3, 4, 5] [0, 1]) (loopH 2 (fun p : PO => I50 p 0) (fun _ (_ : Unit) => True) (fun p _ => I50 p p.cs.length))
noncomputable def cfg54 : Cfg Try.prog V := ⟨tab, kinds, fun _ => none, hooksI, fun f id => match f, id with | 5, 4 => some L54 | _, _ => none⟩
noncomputable def cfg52 : Cfg Try.prog V := ⟨tab, kinds, fun _ => none, hooksI, fun f id => match f, id with | 5, 2 => some L52 | _, _ => none⟩
noncomputable def cfg50 : Cfg Try.prog V := ⟨tab, kinds, fun _ => none, hooksI, fun f id => match f, id with | 5, 0 => some L50 | _, _ => none⟩
theorem b54 (p : PJ) (j : Nat) : runCode cfgI 60 5 (loopOf Try.f5 4) (I54 p j) (stopT (trimSt [0, 3, 4, 5, 6, 7] [0, 1])) =
  Out.ite (decide ((↑j : Int) < (↑p.cs.length : Int)))
    (Out.ite (decide ((↑j : Int) < 12))
      (Out.need (0 ≤ (↑p.toPK.2 : Int) ∧ (↑p.toPK.2 : Int) < (↑p.cs.length : Int))
        (Out.need (0 + p.toPK.2 < p.cs.length)
          (Out.need (0 ≤ (↑p.2 : Int) ∧ (↑p.2 : Int) < (↑p.cs.length : Int))
            (Out.need (0 + p.2 < p.cs.length)
              (Out.ite
                (hBefore
                  { thread := (p.cs.getD (0 + p.toPK.2) (V.enc Kd.cal).dflt).thread, op := (p.cs.getD (0 + p.toPK.2) (V.enc Kd.cal).dflt).op,
                    frm := (p.cs.getD (0 + p.toPK.2) (V.enc Kd.cal).dflt).frm, at_ := (p.cs.getD (0 + p.toPK.2) (V.enc Kd.cal).dflt).at_,
                    to_ := (p.cs.getD (0 + p.toPK.2) (V.enc Kd.cal).dflt).to_ : Cal }
                  { thread := (p.cs.getD (0 + p.2) (V.enc Kd.cal).dflt).thread, op := (p.cs.getD (0 + p.2) (V.enc Kd.cal).dflt).op,
                    frm := (p.cs.getD (0 + p.2) (V.enc Kd.cal).dflt).frm, at_ := (p.cs.getD (0 + p.2) (V.enc Kd.cal).dflt).at_,
                    to_ := (p.cs.getD (0 + p.2) (V.enc Kd.cal).dflt).to_ : Cal })
                (Out.need (0 ≤ (↑p.2 : Int) ∧ (↑p.2 : Int) < (↑p.cs.length : Int))
                  (Out.need (0 + p.2 < p.cs.length)
                    (Out.need (0 ≤ (↑j : Int) ∧ (↑j : Int) < (↑p.cs.length : Int))
                      (Out.need (0 + j < p.cs.length)
                        (Out.ite
                          (hBefore
                            { thread := (p.cs.getD (0 + p.2) (V.enc Kd.cal).dflt).thread, op := (p.cs.getD (0 + p.2) (V.enc Kd.cal).dflt).op,
                              frm := (p.cs.getD (0 + p.2) (V.enc Kd.cal).dflt).frm, at_ := (p.cs.getD (0 + p.2) (V.enc Kd.cal).dflt).at_,
                              to_ := (p.cs.getD (0 + p.2) (V.enc Kd.cal).dflt).to_ : Cal }
                            { thread := (p.cs.getD (0 + j) (V.enc Kd.cal).dflt).thread, op := (p.cs.getD (0 + j) (V.enc Kd.cal).dflt).op,
                              frm := (p.cs.getD (0 + j) (V.enc Kd.cal).dflt).frm, at_ := (p.cs.getD (0 + j) (V.enc Kd.cal).dflt).at_,
                              to_ := (p.cs.getD (0 + j) (V.enc Kd.cal).dflt).to_ : Cal })
                          (Out.need (0 ≤ (↑p.toPK.2 : Int) ∧ (↑p.toPK.2 : Int) < (↑p.cs.length : Int))
                            (Out.need (0 + p.toPK.2 < p.cs.length)
                              (Out.need (0 ≤ (↑j : Int) ∧ (↑j : Int) < (↑p.cs.length : Int))
                                (Out.need (0 + j < p.cs.length)
                                  (Out.ite
                                    (!hBefore
                                        { thread := (p.cs.getD (0 + p.toPK.2) (V.enc Kd.cal).dflt).thread,
                                          op := (p.cs.getD (0 + p.toPK.2) (V.enc Kd.cal).dflt).op, frm := (p.cs.getD (0 + p.toPK.2) (V.enc Kd.cal).dflt).frm,
                                          at_ := (p.cs.getD (0 + p.toPK.2) (V.enc Kd.cal).dflt).at_, to_ := (p.cs.getD (0 + p.toPK.2) (V.enc Kd.cal).dflt).to_ :
                                          Cal }
                                        { thread := (p.cs.getD (0 + j) (V.enc Kd.cal).dflt).thread, op := (p.cs.getD (0 + j) (V.enc Kd.cal).dflt).op,
                                          frm := (p.cs.getD (0 + j) (V.enc Kd.cal).dflt).frm, at_ := (p.cs.getD (0 + j) (V.enc Kd.cal).dflt).at_,
                                          to_ := (p.cs.getD (0 + j) (V.enc Kd.cal).dflt).to_ : Cal })
                                    (Out.stop EX.rt
                                      {
                                        env :=
                                          [(0, AV.sl false 0 0 8 p.l.length p.toPO.2), (3, AV.tt), (4, AV.sl false 1 0 5 p.cs.length (p.cs.length + p.toPO.4)),
                                            (5, AV.int IntKind.i64 (↑p.toPK.2 : Int)), (6, AV.int IntKind.i64 (↑p.2 : Int)), (7, AV.int IntKind.i64 (↑j : Int))],
                                        heap := [(1, Blk.arr 35 Kd.cal p.cs p.toPO.4), (0, Blk.ro Kd.rcd p.l)], nx := 2, nt := 193,
                                        tl := [0, 1, 2, 3, 4, 5, 6, 7, 8] : St V })
                                    (Out.stop EX.nx
                                      {
                                        env :=
                                          [(0, AV.sl false 0 0 8 p.l.length p.toPO.2), (3, AV.tt), (4, AV.sl false 1 0 5 p.cs.length (p.cs.length + p.toPO.4)),
                                            (5, AV.int IntKind.i64 (↑p.toPK.2 : Int)), (6, AV.int IntKind.i64 (↑p.2 : Int)),
                                            (7, AV.int IntKind.i64 (IntKind.i64.wrap ((↑j : Int) + 1)))],
                                        heap := [(1, Blk.arr 35 Kd.cal p.cs p.toPO.4), (0, Blk.ro Kd.rcd p.l)], nx := 2, nt := 193,
                                        tl := [0, 1, 2, 3, 4, 5, 6, 7, 8] : St V }))))))
                          (Out.stop EX.nx
                            {
                              env :=
                                [(0, AV.sl false 0 0 8 p.l.length p.toPO.2), (3, AV.tt), (4, AV.sl false 1 0 5 p.cs.length (p.cs.length + p.toPO.4)),
                                  (5, AV.int IntKind.i64 (↑p.toPK.2 : Int)), (6, AV.int IntKind.i64 (↑p.2 : Int)),
                                  (7, AV.int IntKind.i64 (IntKind.i64.wrap ((↑j : Int) + 1)))],
                              heap := [(1, Blk.arr 35 Kd.cal p.cs p.toPO.4), (0, Blk.ro Kd.rcd p.l)], nx := 2, nt := 193, tl := [0, 1, 2, 3, 4, 5, 6, 7, 8] :
                              St V }))))))
                (Out.stop EX.nx
                  {
                    env :=
                      [(0, AV.sl false 0 0 8 p.l.length p.toPO.2), (3, AV.tt), (4, AV.sl false 1 0 5 p.cs.length (p.cs.length + p.toPO.4)),
                        (5, AV.int IntKind.i64 (↑p.toPK.2 : Int)), (6, AV.int IntKind.i64 (↑p.2 : Int)),
                        (7, AV.int IntKind.i64 (IntKind.i64.wrap ((↑j : Int) + 1)))],
                    heap := [(1, Blk.arr 35 Kd.cal p.cs p.toPO.4), (0, Blk.ro Kd.rcd p.l)], nx := 2, nt := 193, tl := [0, 1, 2, 3, 4, 5, 6, 7, 8] : St V }))))))
      (Out.stop (EX.ex 4)
        {
          env :=
            [(0, AV.sl false 0 0 8 p.l.length p.toPO.2), (3, AV.tt), (4, AV.sl false 1 0 5 p.cs.length (p.cs.length + p.toPO.4)),
              (5, AV.int IntKind.i64 (↑p.toPK.2 : Int)), (6, AV.int IntKind.i64 (↑p.2 : Int)), (7, AV.int IntKind.i64 (↑j : Int))],
          heap := [(1, Blk.arr 35 Kd.cal p.cs p.toPO.4), (0, Blk.ro Kd.rcd p.l)], nx := 2, nt := 193, tl := [0, 1, 2, 3, 4, 5, 6, 7, 8] : St V }))
    (Out.stop (EX.ex 4)
      {
        env :=
          [(0, AV.sl false 0 0 8 p.l.length p.toPO.2), (3, AV.tt), (4, AV.sl false 1 0 5 p.cs.length (p.cs.length + p.toPO.4)),
            (5, AV.int IntKind.i64 (↑p.toPK.2 : Int)), (6, AV.int IntKind.i64 (↑p.2 : Int)), (7, AV.int IntKind.i64 (↑j : Int))],
        heap := [(1, Blk.arr 35 Kd.cal p.cs p.toPO.4), (0, Blk.ro Kd.rcd p.l)], nx := 2, nt := 193, tl := [0, 1, 2, 3, 4, 5, 6, 7, 8] : St V }) := by kernel_rfl

theorem b52 (p : PK) (k : Nat) : runCode cfg54 60 5 (loopOf Try.f5 2) (I52 p k) (stopT (trimSt [0, 3, 4, 5, 6] [0, 1])) =
  Out.ite (decide ((↑k : Int) < (↑p.cs.length : Int)))
    (Out.need (0 ≤ (↑p.2 : Int) ∧ (↑p.2 : Int) < (↑p.cs.length : Int))
      (Out.need (0 + p.2 < p.cs.length)
        (Out.need (0 ≤ (↑k : Int) ∧ (↑k : Int) < (↑p.cs.length : Int))
          (Out.need (0 + k < p.cs.length)
            (Out.ite ((p.cs.getD (0 + p.2) (V.enc Kd.cal).dflt).thread == (p.cs.getD (0 + k) (V.enc Kd.cal).dflt).thread)
              (Out.need (0 ≤ (↑p.2 : Int) ∧ (↑p.2 : Int) < (↑p.cs.length : Int))
                (Out.need (0 + p.2 < p.cs.length)
                  (Out.need (0 ≤ (↑k : Int) ∧ (↑k : Int) < (↑p.cs.length : Int))
                    (Out.need (0 + k < p.cs.length)
                      (Out.ite (decide ((p.cs.getD (0 + p.2) (V.enc Kd.cal).dflt).op < (p.cs.getD (0 + k) (V.enc Kd.cal).dflt).op))
                        (Out.need (0 ≤ (↑p.2 : Int) ∧ (↑p.2 : Int) < (↑p.cs.length : Int))
                          (Out.need (0 + p.2 < p.cs.length)
                            (Out.need (0 ≤ (↑k : Int) ∧ (↑k : Int) < (↑p.cs.length : Int))
                              (Out.need (0 + k < p.cs.length)
                                (Out.ite
                                  (!hBefore
                                      { thread := (p.cs.getD (0 + p.2) (V.enc Kd.cal).dflt).thread, op := (p.cs.getD (0 + p.2) (V.enc Kd.cal).dflt).op,
                                        frm := (p.cs.getD (0 + p.2) (V.enc Kd.cal).dflt).frm, at_ := (p.cs.getD (0 + p.2) (V.enc Kd.cal).dflt).at_,
                                        to_ := (p.cs.getD (0 + p.2) (V.enc Kd.cal).dflt).to_ : Cal }
                                      { thread := (p.cs.getD (0 + k) (V.enc Kd.cal).dflt).thread, op := (p.cs.getD (0 + k) (V.enc Kd.cal).dflt).op,
                                        frm := (p.cs.getD (0 + k) (V.enc Kd.cal).dflt).frm, at_ := (p.cs.getD (0 + k) (V.enc Kd.cal).dflt).at_,
                                        to_ := (p.cs.getD (0 + k) (V.enc Kd.cal).dflt).to_ : Cal })
                                  (Out.stop EX.rt
                                    {
                                      env :=
                                        [(0, AV.sl false 0 0 8 p.l.length p.toPO.2), (3, AV.tt), (4, AV.sl false 1 0 5 p.cs.length (p.cs.length + p.toPO.4)),
                                          (5, AV.int IntKind.i64 (↑p.2 : Int)), (6, AV.int IntKind.i64 (↑k : Int))],
                                      heap := [(1, Blk.arr 35 Kd.cal p.cs p.toPO.4), (0, Blk.ro Kd.rcd p.l)], nx := 2, nt := 193,
                                      tl := [0, 1, 2, 3, 4, 5, 6, 7, 8] : St V })
                                  (Out.need (0 ≤ (↑p.2 : Int) ∧ (↑p.2 : Int) < (↑p.cs.length : Int))
                                    (Out.need (0 + p.2 < p.cs.length)
                                      (Out.need (0 ≤ (↑k : Int) ∧ (↑k : Int) < (↑p.cs.length : Int))
                                        (Out.need (0 + k < p.cs.length)
                                          (Out.ite
                                            (hBefore
                                              { thread := (p.cs.getD (0 + p.2) (V.enc Kd.cal).dflt).thread, op := (p.cs.getD (0 + p.2) (V.enc Kd.cal).dflt).op,
                                                frm := (p.cs.getD (0 + p.2) (V.enc Kd.cal).dflt).frm, at_ := (p.cs.getD (0 + p.2) (V.enc Kd.cal).dflt).at_,
                                                to_ := (p.cs.getD (0 + p.2) (V.enc Kd.cal).dflt).to_ : Cal }
                                              { thread := (p.cs.getD (0 + k) (V.enc Kd.cal).dflt).thread, op := (p.cs.getD (0 + k) (V.enc Kd.cal).dflt).op,
                                                frm := (p.cs.getD (0 + k) (V.enc Kd.cal).dflt).frm, at_ := (p.cs.getD (0 + k) (V.enc Kd.cal).dflt).at_,
                                                to_ := (p.cs.getD (0 + k) (V.enc Kd.cal).dflt).to_ : Cal })
                                            (Out.need (0 ≤ (↑k : Int) ∧ (↑k : Int) < (↑p.cs.length : Int))
                                              (Out.need (0 + k < p.cs.length)
                                                (Out.need (0 ≤ (↑p.2 : Int) ∧ (↑p.2 : Int) < (↑p.cs.length : Int))
                                                  (Out.need (0 + p.2 < p.cs.length)
                                                    (Out.ite
                                                      (hBefore
                                                        { thread := (p.cs.getD (0 + k) (V.enc Kd.cal).dflt).thread,
                                                          op := (p.cs.getD (0 + k) (V.enc Kd.cal).dflt).op, frm := (p.cs.getD (0 + k) (V.enc Kd.cal).dflt).frm,
                                                          at_ := (p.cs.getD (0 + k) (V.enc Kd.cal).dflt).at_, to_ := (p.cs.getD (0 + k) (V.enc Kd.cal).dflt).to_ :
                                                          Cal }
                                                        { thread := (p.cs.getD (0 + p.2) (V.enc Kd.cal).dflt).thread,
                                                          op := (p.cs.getD (0 + p.2) (V.enc Kd.cal).dflt).op,
                                                          frm := (p.cs.getD (0 + p.2) (V.enc Kd.cal).dflt).frm,
                                                          at_ := (p.cs.getD (0 + p.2) (V.enc Kd.cal).dflt).at_,
                                                          to_ := (p.cs.getD (0 + p.2) (V.enc Kd.cal).dflt).to_ : Cal })
                                                      (Out.stop EX.rt
                                                        {
                                                          env :=
                                                            [(0, AV.sl false 0 0 8 p.l.length p.toPO.2), (3, AV.tt),
                                                              (4, AV.sl false 1 0 5 p.cs.length (p.cs.length + p.toPO.4)), (5, AV.int IntKind.i64 (↑p.2 : Int)),
                                                              (6, AV.int IntKind.i64 (↑k : Int))],
                                                          heap := [(1, Blk.arr 35 Kd.cal p.cs p.toPO.4), (0, Blk.ro Kd.rcd p.l)], nx := 2, nt := 193,
                                                          tl := [0, 1, 2, 3, 4, 5, 6, 7, 8] : St V })
                                                      (Out.need (LoopFor Try.prog 5 4 (loopOf Try.f5 4) L54)
                                                        (Out.ex (PJ → Prop) fun y =>
                                                          Out.need
                                                            (2 ≤ 2 ∧
                                                              SImp 2
                                                                {
                                                                  env :=
                                                                    [(0, AV.sl false 0 0 8 p.l.length p.toPO.2), (3, AV.tt),
                                                                      (4, AV.sl false 1 0 5 p.cs.length (p.cs.length + p.toPO.4)),
                                                                      (5, AV.int IntKind.i64 (↑p.2 : Int)), (6, AV.int IntKind.i64 (↑k : Int)),
                                                                      (7, AV.lit IntKind.i64 0)],
                                                                  heap := [(1, Blk.arr 35 Kd.cal p.cs p.toPO.4), (0, Blk.ro Kd.rcd p.l)], nx := 2, nt := 193,
                                                                  tl := [0, 1, 2, 3, 4, 5, 6, 7, 8] : St V }
                                                                (fun p => I54 p 0) y)
                                                            (Out.all PJ fun y_1 =>
                                                              Out.asm (y y_1)
                                                                (Out.all Unit fun y =>
                                                                  Out.asm ((fun x x_1 => True) y_1 y)
                                                                    (Out.stop EX.nx
                                                                      {
                                                                        env :=
                                                                          [(0, AV.sl false 0 0 8 y_1.l.length y_1.toPO.2), (3, AV.tt),
                                                                            (4, AV.sl false 1 0 5 y_1.cs.length (y_1.cs.length + y_1.toPO.4)),
                                                                            (5, AV.int IntKind.i64 (↑y_1.toPK.2 : Int)),
                                                                            (6, AV.int IntKind.i64 (IntKind.i64.wrap ((↑y_1.2 : Int) + 1)))],
                                                                        heap := [(1, Blk.arr 35 Kd.cal y_1.cs y_1.toPO.4), (0, Blk.ro Kd.rcd y_1.l)], nx := 2,
                                                                        nt := 193, tl := [0, 1, 2, 3, 4, 5, 6, 7, 8] : St V }))))))))))
                                            (Out.need (LoopFor Try.prog 5 4 (loopOf Try.f5 4) L54)
                                              (Out.ex (PJ → Prop) fun y =>
                                                Out.need
                                                  (2 ≤ 2 ∧
                                                    SImp 2
                                                      {
                                                        env :=
                                                          [(0, AV.sl false 0 0 8 p.l.length p.toPO.2), (3, AV.tt),
                                                            (4, AV.sl false 1 0 5 p.cs.length (p.cs.length + p.toPO.4)), (5, AV.int IntKind.i64 (↑p.2 : Int)),
                                                            (6, AV.int IntKind.i64 (↑k : Int)), (7, AV.lit IntKind.i64 0)],
                                                        heap := [(1, Blk.arr 35 Kd.cal p.cs p.toPO.4), (0, Blk.ro Kd.rcd p.l)], nx := 2, nt := 193,
                                                        tl := [0, 1, 2, 3, 4, 5, 6, 7, 8] : St V }
                                                      (fun p => I54 p 0) y)
                                                  (Out.all PJ fun y_1 =>
                                                    Out.asm (y y_1)
                                                      (Out.all Unit fun y =>
                                                        Out.asm ((fun x x_1 => True) y_1 y)
                                                          (Out.stop EX.nx
                                                            {
                                                              env :=
                                                                [(0, AV.sl false 0 0 8 y_1.l.length y_1.toPO.2), (3, AV.tt),
                                                                  (4, AV.sl false 1 0 5 y_1.cs.length (y_1.cs.length + y_1.toPO.4)),
                                                                  (5, AV.int IntKind.i64 (↑y_1.toPK.2 : Int)),
                                                                  (6, AV.int IntKind.i64 (IntKind.i64.wrap ((↑y_1.2 : Int) + 1)))],
                                                              heap := [(1, Blk.arr 35 Kd.cal y_1.cs y_1.toPO.4), (0, Blk.ro Kd.rcd y_1.l)], nx := 2, nt := 193,
                                                              tl := [0, 1, 2, 3, 4, 5, 6, 7, 8] : St V })))))))))))))))
                        (Out.need (0 ≤ (↑p.2 : Int) ∧ (↑p.2 : Int) < (↑p.cs.length : Int))
                          (Out.need (0 + p.2 < p.cs.length)
                            (Out.need (0 ≤ (↑k : Int) ∧ (↑k : Int) < (↑p.cs.length : Int))
                              (Out.need (0 + k < p.cs.length)
                                (Out.ite
                                  (hBefore
                                    { thread := (p.cs.getD (0 + p.2) (V.enc Kd.cal).dflt).thread, op := (p.cs.getD (0 + p.2) (V.enc Kd.cal).dflt).op,
                                      frm := (p.cs.getD (0 + p.2) (V.enc Kd.cal).dflt).frm, at_ := (p.cs.getD (0 + p.2) (V.enc Kd.cal).dflt).at_,
                                      to_ := (p.cs.getD (0 + p.2) (V.enc Kd.cal).dflt).to_ : Cal }
                                    { thread := (p.cs.getD (0 + k) (V.enc Kd.cal).dflt).thread, op := (p.cs.getD (0 + k) (V.enc Kd.cal).dflt).op,
                                      frm := (p.cs.getD (0 + k) (V.enc Kd.cal).dflt).frm, at_ := (p.cs.getD (0 + k) (V.enc Kd.cal).dflt).at_,
                                      to_ := (p.cs.getD (0 + k) (V.enc Kd.cal).dflt).to_ : Cal })
                                  (Out.need (0 ≤ (↑k : Int) ∧ (↑k : Int) < (↑p.cs.length : Int))
                                    (Out.need (0 + k < p.cs.length)
                                      (Out.need (0 ≤ (↑p.2 : Int) ∧ (↑p.2 : Int) < (↑p.cs.length : Int))
                                        (Out.need (0 + p.2 < p.cs.length)
                                          (Out.ite
                                            (hBefore
                                              { thread := (p.cs.getD (0 + k) (V.enc Kd.cal).dflt).thread, op := (p.cs.getD (0 + k) (V.enc Kd.cal).dflt).op,
                                                frm := (p.cs.getD (0 + k) (V.enc Kd.cal).dflt).frm, at_ := (p.cs.getD (0 + k) (V.enc Kd.cal).dflt).at_,
                                                to_ := (p.cs.getD (0 + k) (V.enc Kd.cal).dflt).to_ : Cal }
                                              { thread := (p.cs.getD (0 + p.2) (V.enc Kd.cal).dflt).thread, op := (p.cs.getD (0 + p.2) (V.enc Kd.cal).dflt).op,
                                                frm := (p.cs.getD (0 + p.2) (V.enc Kd.cal).dflt).frm, at_ := (p.cs.getD (0 + p.2) (V.enc Kd.cal).dflt).at_,
                                                to_ := (p.cs.getD (0 + p.2) (V.enc Kd.cal).dflt).to_ : Cal })
                                            (Out.stop EX.rt
                                              {
                                                env :=
                                                  [(0, AV.sl false 0 0 8 p.l.length p.toPO.2), (3, AV.tt),
                                                    (4, AV.sl false 1 0 5 p.cs.length (p.cs.length + p.toPO.4)), (5, AV.int IntKind.i64 (↑p.2 : Int)),
                                                    (6, AV.int IntKind.i64 (↑k : Int))],
                                                heap := [(1, Blk.arr 35 Kd.cal p.cs p.toPO.4), (0, Blk.ro Kd.rcd p.l)], nx := 2, nt := 193,
                                                tl := [0, 1, 2, 3, 4, 5, 6, 7, 8] : St V })
                                            (Out.need (LoopFor Try.prog 5 4 (loopOf Try.f5 4) L54)
                                              (Out.ex (PJ → Prop) fun y =>
                                                Out.need
                                                  (2 ≤ 2 ∧
                                                    SImp 2
                                                      {
                                                        env :=
                                                          [(0, AV.sl false 0 0 8 p.l.length p.toPO.2), (3, AV.tt),
                                                            (4, AV.sl false 1 0 5 p.cs.length (p.cs.length + p.toPO.4)), (5, AV.int IntKind.i64 (↑p.2 : Int)),
                                                            (6, AV.int IntKind.i64 (↑k : Int)), (7, AV.lit IntKind.i64 0)],
                                                        heap := [(1, Blk.arr 35 Kd.cal p.cs p.toPO.4), (0, Blk.ro Kd.rcd p.l)], nx := 2, nt := 193,
                                                        tl := [0, 1, 2, 3, 4, 5, 6, 7, 8] : St V }
                                                      (fun p => I54 p 0) y)
                                                  (Out.all PJ fun y_1 =>
                                                    Out.asm (y y_1)
                                                      (Out.all Unit fun y =>
                                                        Out.asm ((fun x x_1 => True) y_1 y)
                                                          (Out.stop EX.nx
                                                            {
                                                              env :=
                                                                [(0, AV.sl false 0 0 8 y_1.l.length y_1.toPO.2), (3, AV.tt),
                                                                  (4, AV.sl false 1 0 5 y_1.cs.length (y_1.cs.length + y_1.toPO.4)),
                                                                  (5, AV.int IntKind.i64 (↑y_1.toPK.2 : Int)),
                                                                  (6, AV.int IntKind.i64 (IntKind.i64.wrap ((↑y_1.2 : Int) + 1)))],
                                                              heap := [(1, Blk.arr 35 Kd.cal y_1.cs y_1.toPO.4), (0, Blk.ro Kd.rcd y_1.l)], nx := 2, nt := 193,
                                                              tl := [0, 1, 2, 3, 4, 5, 6, 7, 8] : St V }))))))))))
                                  (Out.need (LoopFor Try.prog 5 4 (loopOf Try.f5 4) L54)
                                    (Out.ex (PJ → Prop) fun y =>
                                      Out.need
                                        (2 ≤ 2 ∧
                                          SImp 2
                                            {
                                              env :=
                                                [(0, AV.sl false 0 0 8 p.l.length p.toPO.2), (3, AV.tt),
                                                  (4, AV.sl false 1 0 5 p.cs.length (p.cs.length + p.toPO.4)), (5, AV.int IntKind.i64 (↑p.2 : Int)),
                                                  (6, AV.int IntKind.i64 (↑k : Int)), (7, AV.lit IntKind.i64 0)],
                                              heap := [(1, Blk.arr 35 Kd.cal p.cs p.toPO.4), (0, Blk.ro Kd.rcd p.l)], nx := 2, nt := 193,
                                              tl := [0, 1, 2, 3, 4, 5, 6, 7, 8] : St V }
                                            (fun p => I54 p 0) y)
                                        (Out.all PJ fun y_1 =>
                                          Out.asm (y y_1)
                                            (Out.all Unit fun y =>
                                              Out.asm ((fun x x_1 => True) y_1 y)
                                                (Out.stop EX.nx
                                                  {
                                                    env :=
                                                      [(0, AV.sl false 0 0 8 y_1.l.length y_1.toPO.2), (3, AV.tt),
                                                        (4, AV.sl false 1 0 5 y_1.cs.length (y_1.cs.length + y_1.toPO.4)),
                                                        (5, AV.int IntKind.i64 (↑y_1.toPK.2 : Int)),
                                                        (6, AV.int IntKind.i64 (IntKind.i64.wrap ((↑y_1.2 : Int) + 1)))],
                                                    heap := [(1, Blk.arr 35 Kd.cal y_1.cs y_1.toPO.4), (0, Blk.ro Kd.rcd y_1.l)], nx := 2, nt := 193,
                                                    tl := [0, 1, 2, 3, 4, 5, 6, 7, 8] : St V })))))))))))))))
              (Out.need (0 ≤ (↑p.2 : Int) ∧ (↑p.2 : Int) < (↑p.cs.length : Int))
                (Out.need (0 + p.2 < p.cs.length)
                  (Out.need (0 ≤ (↑k : Int) ∧ (↑k : Int) < (↑p.cs.length : Int))
                    (Out.need (0 + k < p.cs.length)
                      (Out.ite
                        (hBefore
                          { thread := (p.cs.getD (0 + p.2) (V.enc Kd.cal).dflt).thread, op := (p.cs.getD (0 + p.2) (V.enc Kd.cal).dflt).op,
                            frm := (p.cs.getD (0 + p.2) (V.enc Kd.cal).dflt).frm, at_ := (p.cs.getD (0 + p.2) (V.enc Kd.cal).dflt).at_,
                            to_ := (p.cs.getD (0 + p.2) (V.enc Kd.cal).dflt).to_ : Cal }
                          { thread := (p.cs.getD (0 + k) (V.enc Kd.cal).dflt).thread, op := (p.cs.getD (0 + k) (V.enc Kd.cal).dflt).op,
                            frm := (p.cs.getD (0 + k) (V.enc Kd.cal).dflt).frm, at_ := (p.cs.getD (0 + k) (V.enc Kd.cal).dflt).at_,
                            to_ := (p.cs.getD (0 + k) (V.enc Kd.cal).dflt).to_ : Cal })
                        (Out.need (0 ≤ (↑k : Int) ∧ (↑k : Int) < (↑p.cs.length : Int))
                          (Out.need (0 + k < p.cs.length)
                            (Out.need (0 ≤ (↑p.2 : Int) ∧ (↑p.2 : Int) < (↑p.cs.length : Int))
                              (Out.need (0 + p.2 < p.cs.length)
                                (Out.ite
                                  (hBefore
                                    { thread := (p.cs.getD (0 + k) (V.enc Kd.cal).dflt).thread, op := (p.cs.getD (0 + k) (V.enc Kd.cal).dflt).op,
                                      frm := (p.cs.getD (0 + k) (V.enc Kd.cal).dflt).frm, at_ := (p.cs.getD (0 + k) (V.enc Kd.cal).dflt).at_,
                                      to_ := (p.cs.getD (0 + k) (V.enc Kd.cal).dflt).to_ : Cal }
                                    { thread := (p.cs.getD (0 + p.2) (V.enc Kd.cal).dflt).thread, op := (p.cs.getD (0 + p.2) (V.enc Kd.cal).dflt).op,
                                      frm := (p.cs.getD (0 + p.2) (V.enc Kd.cal).dflt).frm, at_ := (p.cs.getD (0 + p.2) (V.enc Kd.cal).dflt).at_,
                                      to_ := (p.cs.getD (0 + p.2) (V.enc Kd.cal).dflt).to_ : Cal })
                                  (Out.stop EX.rt
                                    {
                                      env :=
                                        [(0, AV.sl false 0 0 8 p.l.length p.toPO.2), (3, AV.tt), (4, AV.sl false 1 0 5 p.cs.length (p.cs.length + p.toPO.4)),
                                          (5, AV.int IntKind.i64 (↑p.2 : Int)), (6, AV.int IntKind.i64 (↑k : Int))],
                                      heap := [(1, Blk.arr 35 Kd.cal p.cs p.toPO.4), (0, Blk.ro Kd.rcd p.l)], nx := 2, nt := 193,
                                      tl := [0, 1, 2, 3, 4, 5, 6, 7, 8] : St V })
                                  (Out.need (LoopFor Try.prog 5 4 (loopOf Try.f5 4) L54)
                                    (Out.ex (PJ → Prop) fun y =>
                                      Out.need
                                        (2 ≤ 2 ∧
                                          SImp 2
                                            {
                                              env :=
                                                [(0, AV.sl false 0 0 8 p.l.length p.toPO.2), (3, AV.tt),
                                                  (4, AV.sl false 1 0 5 p.cs.length (p.cs.length + p.toPO.4)), (5, AV.int IntKind.i64 (↑p.2 : Int)),
                                                  (6, AV.int IntKind.i64 (↑k : Int)), (7, AV.lit IntKind.i64 0)],
                                              heap := [(1, Blk.arr 35 Kd.cal p.cs p.toPO.4), (0, Blk.ro Kd.rcd p.l)], nx := 2, nt := 193,
                                              tl := [0, 1, 2, 3, 4, 5, 6, 7, 8] : St V }
                                            (fun p => I54 p 0) y)
                                        (Out.all PJ fun y_1 =>
                                          Out.asm (y y_1)
                                            (Out.all Unit fun y =>
                                              Out.asm ((fun x x_1 => True) y_1 y)
                                                (Out.stop EX.nx
                                                  {
                                                    env :=
                                                      [(0, AV.sl false 0 0 8 y_1.l.length y_1.toPO.2), (3, AV.tt),
                                                        (4, AV.sl false 1 0 5 y_1.cs.length (y_1.cs.length + y_1.toPO.4)),
                                                        (5, AV.int IntKind.i64 (↑y_1.toPK.2 : Int)),
                                                        (6, AV.int IntKind.i64 (IntKind.i64.wrap ((↑y_1.2 : Int) + 1)))],
                                                    heap := [(1, Blk.arr 35 Kd.cal y_1.cs y_1.toPO.4), (0, Blk.ro Kd.rcd y_1.l)], nx := 2, nt := 193,
                                                    tl := [0, 1, 2, 3, 4, 5, 6, 7, 8] : St V }))))))))))
                        (Out.need (LoopFor Try.prog 5 4 (loopOf Try.f5 4) L54)
                          (Out.ex (PJ → Prop) fun y =>
                            Out.need
                              (2 ≤ 2 ∧
                                SImp 2
                                  {
                                    env :=
                                      [(0, AV.sl false 0 0 8 p.l.length p.toPO.2), (3, AV.tt), (4, AV.sl false 1 0 5 p.cs.length (p.cs.length + p.toPO.4)),
                                        (5, AV.int IntKind.i64 (↑p.2 : Int)), (6, AV.int IntKind.i64 (↑k : Int)), (7, AV.lit IntKind.i64 0)],
                                    heap := [(1, Blk.arr 35 Kd.cal p.cs p.toPO.4), (0, Blk.ro Kd.rcd p.l)], nx := 2, nt := 193,
                                    tl := [0, 1, 2, 3, 4, 5, 6, 7, 8] : St V }
                                  (fun p => I54 p 0) y)
                              (Out.all PJ fun y_1 =>
                                Out.asm (y y_1)
                                  (Out.all Unit fun y =>
                                    Out.asm ((fun x x_1 => True) y_1 y)
                                      (Out.stop EX.nx
                                        {
                                          env :=
                                            [(0, AV.sl false 0 0 8 y_1.l.length y_1.toPO.2), (3, AV.tt),
                                              (4, AV.sl false 1 0 5 y_1.cs.length (y_1.cs.length + y_1.toPO.4)), (5, AV.int IntKind.i64 (↑y_1.toPK.2 : Int)),
                                              (6, AV.int IntKind.i64 (IntKind.i64.wrap ((↑y_1.2 : Int) + 1)))],
                                          heap := [(1, Blk.arr 35 Kd.cal y_1.cs y_1.toPO.4), (0, Blk.ro Kd.rcd y_1.l)], nx := 2, nt := 193,
                                          tl := [0, 1, 2, 3, 4, 5, 6, 7, 8] : St V })))))))))))))))
    (Out.stop (EX.ex 2)
      {
        env :=
          [(0, AV.sl false 0 0 8 p.l.length p.toPO.2), (3, AV.tt), (4, AV.sl false 1 0 5 p.cs.length (p.cs.length + p.toPO.4)),
            (5, AV.int IntKind.i64 (↑p.2 : Int)), (6, AV.int IntKind.i64 (↑k : Int))],
        heap := [(1, Blk.arr 35 Kd.cal p.cs p.toPO.4), (0, Blk.ro Kd.rcd p.l)], nx := 2, nt := 193, tl := [0, 1, 2, 3, 4, 5, 6, 7, 8] : St V }) := by kernel_rfl

theorem b50 (p : PO) (i : Nat) : runCode cfg52 60 5 (loopOf Try.f5 0) (I50 p i) (stopT (trimSt [0, 3, 4, 5] [0, 1])) =
  Out.ite (decide ((↑i : Int) < (↑p.cs.length : Int)))
    (Out.need (0 ≤ (↑i : Int) ∧ (↑i : Int) < (↑p.cs.length : Int))
      (Out.need (0 + i < p.cs.length)
        (Out.need (0 ≤ (↑i : Int) ∧ (↑i : Int) < (↑p.cs.length : Int))
          (Out.need (0 + i < p.cs.length)
            (Out.ite
              (hBefore
                { thread := (p.cs.getD (0 + i) (V.enc Kd.cal).dflt).thread, op := (p.cs.getD (0 + i) (V.enc Kd.cal).dflt).op,
                  frm := (p.cs.getD (0 + i) (V.enc Kd.cal).dflt).frm, at_ := (p.cs.getD (0 + i) (V.enc Kd.cal).dflt).at_,
                  to_ := (p.cs.getD (0 + i) (V.enc Kd.cal).dflt).to_ : Cal }
                { thread := (p.cs.getD (0 + i) (V.enc Kd.cal).dflt).thread, op := (p.cs.getD (0 + i) (V.enc Kd.cal).dflt).op,
                  frm := (p.cs.getD (0 + i) (V.enc Kd.cal).dflt).frm, at_ := (p.cs.getD (0 + i) (V.enc Kd.cal).dflt).at_,
                  to_ := (p.cs.getD (0 + i) (V.enc Kd.cal).dflt).to_ : Cal })
              (Out.stop EX.rt
                {
                  env :=
                    [(0, AV.sl false 0 0 8 p.l.length p.2), (3, AV.tt), (4, AV.sl false 1 0 5 p.cs.length (p.cs.length + p.4)),
                      (5, AV.int IntKind.i64 (↑i : Int))],
                  heap := [(1, Blk.arr 35 Kd.cal p.cs p.4), (0, Blk.ro Kd.rcd p.l)], nx := 2, nt := 193, tl := [0, 1, 2, 3, 4, 5, 6, 7, 8] : St V })
              (Out.need (0 ≤ (↑i : Int) ∧ (↑i : Int) < (↑p.cs.length : Int))
                (Out.need (0 + i < p.cs.length)
                  (Out.ite (decide ((p.cs.getD (0 + i) (V.enc Kd.cal).dflt).frm < 0))
                    (Out.stop EX.rt
                      {
                        env :=
                          [(0, AV.sl false 0 0 8 p.l.length p.2), (3, AV.tt), (4, AV.sl false 1 0 5 p.cs.length (p.cs.length + p.4)),
                            (5, AV.int IntKind.i64 (↑i : Int))],
                        heap := [(1, Blk.arr 35 Kd.cal p.cs p.4), (0, Blk.ro Kd.rcd p.l)], nx := 2, nt := 193, tl := [0, 1, 2, 3, 4, 5, 6, 7, 8] : St V })
                    (Out.need (0 ≤ (↑i : Int) ∧ (↑i : Int) < (↑p.cs.length : Int))
                      (Out.need (0 + i < p.cs.length)
                        (Out.ite (decide ((p.cs.getD (0 + i) (V.enc Kd.cal).dflt).at_ ≥ 0))
                          (Out.need (0 ≤ (↑i : Int) ∧ (↑i : Int) < (↑p.cs.length : Int))
                            (Out.need (0 + i < p.cs.length)
                              (Out.need (0 ≤ (↑i : Int) ∧ (↑i : Int) < (↑p.cs.length : Int))
                                (Out.need (0 + i < p.cs.length)
                                  (Out.ite (decide ((p.cs.getD (0 + i) (V.enc Kd.cal).dflt).at_ ≤ (p.cs.getD (0 + i) (V.enc Kd.cal).dflt).frm))
                                    (Out.stop EX.rt
                                      {
                                        env :=
                                          [(0, AV.sl false 0 0 8 p.l.length p.2), (3, AV.tt), (4, AV.sl false 1 0 5 p.cs.length (p.cs.length + p.4)),
                                            (5, AV.int IntKind.i64 (↑i : Int))],
                                        heap := [(1, Blk.arr 35 Kd.cal p.cs p.4), (0, Blk.ro Kd.rcd p.l)], nx := 2, nt := 193, tl := [0, 1, 2, 3, 4, 5, 6, 7, 8] :
                                        St V })
                                    (Out.need (0 ≤ (↑i : Int) ∧ (↑i : Int) < (↑p.cs.length : Int))
                                      (Out.need (0 + i < p.cs.length)
                                        (Out.ite (decide ((p.cs.getD (0 + i) (V.enc Kd.cal).dflt).to_ ≥ 0))
                                          (Out.need (0 ≤ (↑i : Int) ∧ (↑i : Int) < (↑p.cs.length : Int))
                                            (Out.need (0 + i < p.cs.length)
                                              (Out.need (0 ≤ (↑i : Int) ∧ (↑i : Int) < (↑p.cs.length : Int))
                                                (Out.need (0 + i < p.cs.length)
                                                  (Out.need (0 ≤ (↑i : Int) ∧ (↑i : Int) < (↑p.cs.length : Int))
                                                    (Out.need (0 + i < p.cs.length)
                                                      (Out.ite
                                                        (decide
                                                          ((p.cs.getD (0 + i) (V.enc Kd.cal).dflt).to_ ≤
                                                            if (p.cs.getD (0 + i) (V.enc Kd.cal).dflt).at_ > (p.cs.getD (0 + i) (V.enc Kd.cal).dflt).frm then
                                                              (p.cs.getD (0 + i) (V.enc Kd.cal).dflt).at_
                                                            else (p.cs.getD (0 + i) (V.enc Kd.cal).dflt).frm))
                                                        (Out.stop EX.rt
                                                          {
                                                            env :=
                                                              [(0, AV.sl false 0 0 8 p.l.length p.2), (3, AV.tt),
                                                                (4, AV.sl false 1 0 5 p.cs.length (p.cs.length + p.4)), (5, AV.int IntKind.i64 (↑i : Int))],
                                                            heap := [(1, Blk.arr 35 Kd.cal p.cs p.4), (0, Blk.ro Kd.rcd p.l)], nx := 2, nt := 193,
                                                            tl := [0, 1, 2, 3, 4, 5, 6, 7, 8] : St V })
                                                        (Out.need (LoopFor Try.prog 5 2 (loopOf Try.f5 2) L52)
                                                          (Out.ex (PK → Prop) fun y =>
                                                            Out.need
                                                              (2 ≤ 2 ∧
                                                                SImp 2
                                                                  {
                                                                    env :=
                                                                      [(0, AV.sl false 0 0 8 p.l.length p.2), (3, AV.tt),
                                                                        (4, AV.sl false 1 0 5 p.cs.length (p.cs.length + p.4)),
                                                                        (5, AV.int IntKind.i64 (↑i : Int)), (6, AV.lit IntKind.i64 0)],
                                                                    heap := [(1, Blk.arr 35 Kd.cal p.cs p.4), (0, Blk.ro Kd.rcd p.l)], nx := 2, nt := 193,
                                                                    tl := [0, 1, 2, 3, 4, 5, 6, 7, 8] : St V }
                                                                  (fun p => I52 p 0) y)
                                                              (Out.all PK fun y_1 =>
                                                                Out.asm (y y_1)
                                                                  (Out.all Unit fun y =>
                                                                    Out.asm ((fun x x_1 => True) y_1 y)
                                                                      (Out.stop EX.nx
                                                                        {
                                                                          env :=
                                                                            [(0, AV.sl false 0 0 8 y_1.l.length y_1.toPO.2), (3, AV.tt),
                                                                              (4, AV.sl false 1 0 5 y_1.cs.length (y_1.cs.length + y_1.toPO.4)),
                                                                              (5, AV.int IntKind.i64 (IntKind.i64.wrap ((↑y_1.2 : Int) + 1)))],
                                                                          heap := [(1, Blk.arr 35 Kd.cal y_1.cs y_1.toPO.4), (0, Blk.ro Kd.rcd y_1.l)], nx := 2,
                                                                          nt := 193, tl := [0, 1, 2, 3, 4, 5, 6, 7, 8] : St V }))))))))))))
                                          (Out.need (LoopFor Try.prog 5 2 (loopOf Try.f5 2) L52)
                                            (Out.ex (PK → Prop) fun y =>
                                              Out.need
                                                (2 ≤ 2 ∧
                                                  SImp 2
                                                    {
                                                      env :=
                                                        [(0, AV.sl false 0 0 8 p.l.length p.2), (3, AV.tt),
                                                          (4, AV.sl false 1 0 5 p.cs.length (p.cs.length + p.4)), (5, AV.int IntKind.i64 (↑i : Int)),
                                                          (6, AV.lit IntKind.i64 0)],
                                                      heap := [(1, Blk.arr 35 Kd.cal p.cs p.4), (0, Blk.ro Kd.rcd p.l)], nx := 2, nt := 193,
                                                      tl := [0, 1, 2, 3, 4, 5, 6, 7, 8] : St V }
                                                    (fun p => I52 p 0) y)
                                                (Out.all PK fun y_1 =>
                                                  Out.asm (y y_1)
                                                    (Out.all Unit fun y =>
                                                      Out.asm ((fun x x_1 => True) y_1 y)
                                                        (Out.stop EX.nx
                                                          {
                                                            env :=
                                                              [(0, AV.sl false 0 0 8 y_1.l.length y_1.toPO.2), (3, AV.tt),
                                                                (4, AV.sl false 1 0 5 y_1.cs.length (y_1.cs.length + y_1.toPO.4)),
                                                                (5, AV.int IntKind.i64 (IntKind.i64.wrap ((↑y_1.2 : Int) + 1)))],
                                                            heap := [(1, Blk.arr 35 Kd.cal y_1.cs y_1.toPO.4), (0, Blk.ro Kd.rcd y_1.l)], nx := 2, nt := 193,
                                                            tl := [0, 1, 2, 3, 4, 5, 6, 7, 8] : St V })))))))))))))
                          (Out.need (0 ≤ (↑i : Int) ∧ (↑i : Int) < (↑p.cs.length : Int))
                            (Out.need (0 + i < p.cs.length)
                              (Out.ite (decide ((p.cs.getD (0 + i) (V.enc Kd.cal).dflt).to_ ≥ 0))
                                (Out.need (0 ≤ (↑i : Int) ∧ (↑i : Int) < (↑p.cs.length : Int))
                                  (Out.need (0 + i < p.cs.length)
                                    (Out.need (0 ≤ (↑i : Int) ∧ (↑i : Int) < (↑p.cs.length : Int))
                                      (Out.need (0 + i < p.cs.length)
                                        (Out.need (0 ≤ (↑i : Int) ∧ (↑i : Int) < (↑p.cs.length : Int))
                                          (Out.need (0 + i < p.cs.length)
                                            (Out.ite
                                              (decide
                                                ((p.cs.getD (0 + i) (V.enc Kd.cal).dflt).to_ ≤
                                                  if (p.cs.getD (0 + i) (V.enc Kd.cal).dflt).at_ > (p.cs.getD (0 + i) (V.enc Kd.cal).dflt).frm then
                                                    (p.cs.getD (0 + i) (V.enc Kd.cal).dflt).at_
                                                  else (p.cs.getD (0 + i) (V.enc Kd.cal).dflt).frm))
                                              (Out.stop EX.rt
                                                {
                                                  env :=
                                                    [(0, AV.sl false 0 0 8 p.l.length p.2), (3, AV.tt), (4, AV.sl false 1 0 5 p.cs.length (p.cs.length + p.4)),
                                                      (5, AV.int IntKind.i64 (↑i : Int))],
                                                  heap := [(1, Blk.arr 35 Kd.cal p.cs p.4), (0, Blk.ro Kd.rcd p.l)], nx := 2, nt := 193,
                                                  tl := [0, 1, 2, 3, 4, 5, 6, 7, 8] : St V })
                                              (Out.need (LoopFor Try.prog 5 2 (loopOf Try.f5 2) L52)
                                                (Out.ex (PK → Prop) fun y =>
                                                  Out.need
                                                    (2 ≤ 2 ∧
                                                      SImp 2
                                                        {
                                                          env :=
                                                            [(0, AV.sl false 0 0 8 p.l.length p.2), (3, AV.tt),
                                                              (4, AV.sl false 1 0 5 p.cs.length (p.cs.length + p.4)), (5, AV.int IntKind.i64 (↑i : Int)),
                                                              (6, AV.lit IntKind.i64 0)],
                                                          heap := [(1, Blk.arr 35 Kd.cal p.cs p.4), (0, Blk.ro Kd.rcd p.l)], nx := 2, nt := 193,
                                                          tl := [0, 1, 2, 3, 4, 5, 6, 7, 8] : St V }
                                                        (fun p => I52 p 0) y)
                                                    (Out.all PK fun y_1 =>
                                                      Out.asm (y y_1)
                                                        (Out.all Unit fun y =>
                                                          Out.asm ((fun x x_1 => True) y_1 y)
                                                            (Out.stop EX.nx
                                                              {
                                                                env :=
                                                                  [(0, AV.sl false 0 0 8 y_1.l.length y_1.toPO.2), (3, AV.tt),
                                                                    (4, AV.sl false 1 0 5 y_1.cs.length (y_1.cs.length + y_1.toPO.4)),
                                                                    (5, AV.int IntKind.i64 (IntKind.i64.wrap ((↑y_1.2 : Int) + 1)))],
                                                                heap := [(1, Blk.arr 35 Kd.cal y_1.cs y_1.toPO.4), (0, Blk.ro Kd.rcd y_1.l)], nx := 2, nt := 193,
                                                                tl := [0, 1, 2, 3, 4, 5, 6, 7, 8] : St V }))))))))))))
                                (Out.need (LoopFor Try.prog 5 2 (loopOf Try.f5 2) L52)
                                  (Out.ex (PK → Prop) fun y =>
                                    Out.need
                                      (2 ≤ 2 ∧
                                        SImp 2
                                          {
                                            env :=
                                              [(0, AV.sl false 0 0 8 p.l.length p.2), (3, AV.tt), (4, AV.sl false 1 0 5 p.cs.length (p.cs.length + p.4)),
                                                (5, AV.int IntKind.i64 (↑i : Int)), (6, AV.lit IntKind.i64 0)],
                                            heap := [(1, Blk.arr 35 Kd.cal p.cs p.4), (0, Blk.ro Kd.rcd p.l)], nx := 2, nt := 193,
                                            tl := [0, 1, 2, 3, 4, 5, 6, 7, 8] : St V }
                                          (fun p => I52 p 0) y)
                                      (Out.all PK fun y_1 =>
                                        Out.asm (y y_1)
                                          (Out.all Unit fun y =>
                                            Out.asm ((fun x x_1 => True) y_1 y)
                                              (Out.stop EX.nx
                                                {
                                                  env :=
                                                    [(0, AV.sl false 0 0 8 y_1.l.length y_1.toPO.2), (3, AV.tt),
                                                      (4, AV.sl false 1 0 5 y_1.cs.length (y_1.cs.length + y_1.toPO.4)),
                                                      (5, AV.int IntKind.i64 (IntKind.i64.wrap ((↑y_1.2 : Int) + 1)))],
                                                  heap := [(1, Blk.arr 35 Kd.cal y_1.cs y_1.toPO.4), (0, Blk.ro Kd.rcd y_1.l)], nx := 2, nt := 193,
                                                  tl := [0, 1, 2, 3, 4, 5, 6, 7, 8] : St V })))))))))))))))))))
    (Out.stop (EX.ex 0)
      { env := [(0, AV.sl false 0 0 8 p.l.length p.2), (3, AV.tt), (4, AV.sl false 1 0 5 p.cs.length (p.cs.length + p.4)), (5, AV.int IntKind.i64 (↑i : Int))],
        heap := [(1, Blk.arr 35 Kd.cal p.cs p.4), (0, Blk.ro Kd.rcd p.l)], nx := 2, nt := 193, tl := [0, 1, 2, 3, 4, 5, 6, 7, 8] : St V }) := by kernel_rfl

theorem t5 (l : List Rec) (c : Nat) : runL cfg50 60 5 Try.f5 [.sl false 0 0 8 l.length c] [(0, .ro Kd.rcd l)] 1 =
  Out.ite (decide ((↑l.length : Int) > 120)) (Out.fin AV.tt [] 0)
    (Out.need (0 + l.length ≤ l.length)
      (Out.need ((List.take l.length (List.drop 0 l)).length ≤ 1099511627776)
        (Out.all Nat fun y =>
          Out.need (LoopFor Try.prog 5 0 (loopOf Try.f5 0) L50)
            (Out.ex (PO → Prop) fun y_1 =>
              Out.need
                (2 ≤ 2 ∧
                  SImp 2
                    {
                      env :=
                        [(0, AV.sl false 0 0 8 l.length c), (3, AV.tt),
                          (4,
                            AV.sl false 1 0 5 (hCallsOf (List.take l.length (List.drop 0 l))).length
                              ((hCallsOf (List.take l.length (List.drop 0 l))).length + y)),
                          (5, AV.lit IntKind.i64 0)],
                      heap := [(1, Blk.arr 35 Kd.cal (hCallsOf (List.take l.length (List.drop 0 l))) y), (0, Blk.ro Kd.rcd l)], nx := 2, nt := 193, tl := [] :
                      St V }
                    (fun p => I50 p 0) y_1)
                (Out.all PO fun y => Out.asm (y_1 y) (Out.all Unit fun y_2 => Out.asm ((fun x x_1 => True) y y_2) (Out.fin AV.tt [] 0))))))) := by kernel_rfl

end Sx
end Go.Proofs.Ytemcdjdglcceiaa
