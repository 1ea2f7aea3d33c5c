/-
  The law of cuts: the runs of the machine.
-/
import Derived.Test.YtemcdjdglcceiaaHOrder
namespace Go.Proofs.Ytemcdjdglcceiaa
namespace Sx
open Go
set_option maxRecDepth 100000
set_option linter.unusedVariables false

def cut (c : Cal) (k : Nat) : Cal := { c with at_ := if c.at_ ≥ k then -1 else c.at_, to_ := if c.to_ ≥ k then -1 else c.to_ }
structure PU where
  k : Nat
  ar : List Cal
  bs : List Cal
  spa : Nat
  spb : Nat
  hb : ar.length ≤ 1000
  hk : k ≤ 1000
  hl : bs.length ≤ ar.length
  C : ∀ i, i < ar.length → (i < bs.length → (ar.getD i c0).frm < k ∧ bs.getD i c0 = cut (ar.getD i c0) k) ∧ (bs.length ≤ i → (k : Int) ≤ (ar.getD i c0).frm)
def I60 (p : PU) (i : Nat) : St V := ⟨[(1, .int .i64 (p.k : Int)), (5, .tt), (6, .sl false 1 0 5 p.ar.length (p.ar.length + p.spa)), (7, .sl false 2 0 5 p.bs.length (p.bs.length + p.spb)), (8, .int .i64 (i : Int))], [(2, .arr 35 Kd.cal p.bs p.spb), (1, .arr 35 Kd.cal p.ar p.spa)], 5, 110, [0, 1, 2, 3, 4, 5, 6, 7, 8, 9, 10, 11, 12]⟩
def R60 (p : PU) : St V := ⟨[(4, .tt)], [], 5, 110, [0, 1, 2, 3, 4, 5, 6, 7, 8, 9, 10, 11, 12]⟩
def L60 : LoopS V := trimLoop (trimSt [1, 4, 5, 6, 7, 8] [1, 2]) (loopG 5 (fun p : PU => I60 p 0) (fun p (_ : Unit) => p.ar.length ≤ p.bs.length) (fun p _ => I60 p p.ar.length) (fun _ (_ : Unit) => True) (fun p _ => R60 p))
noncomputable def cfg60 : Cfg Try.prog V := ⟨tab, kinds, fun _ => none, hooksI, fun f id => match f, id with | 6, 0 => some L60 | _, _ => none⟩
theorem b60 (p : PU) (i : Nat) : runCode cfgI 60 6 (loopOf Try.f6 0) (I60 p i) (stopT (trimSt [1, 4, 5, 6, 7, 8] [1, 2])) =
  Out.ite (decide ((↑i : Int) < (↑p.ar.length : Int)))
    (Out.need (0 ≤ (↑i : Int) ∧ (↑i : Int) < (↑p.ar.length : Int))
      (Out.need (0 + i < p.ar.length)
        (Out.ite (decide ((p.ar.getD (0 + i) (V.enc Kd.cal).dflt).frm ≥ (↑p.1 : Int)))
          (Out.stop EX.rt
            {
              env :=
                [(1, AV.int IntKind.i64 (↑p.1 : Int)), (4, AV.bool ((↑p.bs.length : Int) == (↑i : Int))), (5, AV.tt),
                  (6, AV.sl false 1 0 5 p.ar.length (p.ar.length + p.4)), (7, AV.sl false 2 0 5 p.bs.length (p.bs.length + p.5)),
                  (8, AV.int IntKind.i64 (↑i : Int))],
              heap := [(2, Blk.arr 35 Kd.cal p.bs p.5), (1, Blk.arr 35 Kd.cal p.ar p.4)], nx := 7, nt := 110,
              tl := [5, 5, 0, 1, 2, 3, 4, 5, 6, 7, 8, 9, 10, 11, 12] : St V })
          (Out.ite (decide ((p.ar.getD (0 + i) (V.enc Kd.cal).dflt).at_ ≥ (↑p.1 : Int)))
            (Out.ite (decide ((p.ar.getD (0 + i) (V.enc Kd.cal).dflt).to_ ≥ (↑p.1 : Int)))
              (Out.ite (decide ((↑i : Int) ≥ (↑p.bs.length : Int)))
                (Out.stop EX.rt
                  {
                    env :=
                      [(1, AV.int IntKind.i64 (↑p.1 : Int)), (4, AV.ff), (5, AV.tt), (6, AV.sl false 1 0 5 p.ar.length (p.ar.length + p.4)),
                        (7, AV.sl false 2 0 5 p.bs.length (p.bs.length + p.5)), (8, AV.int IntKind.i64 (↑i : Int))],
                    heap := [(2, Blk.arr 35 Kd.cal p.bs p.5), (1, Blk.arr 35 Kd.cal p.ar p.4)], nx := 9, nt := 110,
                    tl := [5, 5, 5, 5, 0, 1, 2, 3, 4, 5, 6, 7, 8, 9, 10, 11, 12] : St V })
                (Out.need (0 ≤ (↑i : Int) ∧ (↑i : Int) < (↑p.bs.length : Int))
                  (Out.need (0 + i < p.bs.length)
                    (Out.ite
                      (!((p.bs.getD (0 + i) (V.enc Kd.cal).dflt).thread == (p.ar.getD (0 + i) (V.enc Kd.cal).dflt).thread &&
                          ((p.bs.getD (0 + i) (V.enc Kd.cal).dflt).op == (p.ar.getD (0 + i) (V.enc Kd.cal).dflt).op &&
                            ((p.bs.getD (0 + i) (V.enc Kd.cal).dflt).frm == (p.ar.getD (0 + i) (V.enc Kd.cal).dflt).frm &&
                              ((p.bs.getD (0 + i) (V.enc Kd.cal).dflt).at_ == -1 && ((p.bs.getD (0 + i) (V.enc Kd.cal).dflt).to_ == -1 && true))))))
                      (Out.stop EX.rt
                        {
                          env :=
                            [(1, AV.int IntKind.i64 (↑p.1 : Int)), (4, AV.ff), (5, AV.tt), (6, AV.sl false 1 0 5 p.ar.length (p.ar.length + p.4)),
                              (7, AV.sl false 2 0 5 p.bs.length (p.bs.length + p.5)), (8, AV.int IntKind.i64 (↑i : Int))],
                          heap := [(2, Blk.arr 35 Kd.cal p.bs p.5), (1, Blk.arr 35 Kd.cal p.ar p.4)], nx := 9, nt := 110,
                          tl := [5, 5, 5, 5, 0, 1, 2, 3, 4, 5, 6, 7, 8, 9, 10, 11, 12] : St V })
                      (Out.stop EX.nx
                        {
                          env :=
                            [(1, AV.int IntKind.i64 (↑p.1 : Int)), (4, AV.und), (5, AV.tt), (6, AV.sl false 1 0 5 p.ar.length (p.ar.length + p.4)),
                              (7, AV.sl false 2 0 5 p.bs.length (p.bs.length + p.5)), (8, AV.int IntKind.i64 (IntKind.i64.wrap ((↑i : Int) + 1)))],
                          heap := [(2, Blk.arr 35 Kd.cal p.bs p.5), (1, Blk.arr 35 Kd.cal p.ar p.4)], nx := 9, nt := 110,
                          tl := [5, 5, 5, 5, 0, 1, 2, 3, 4, 5, 6, 7, 8, 9, 10, 11, 12] : St V })))))
              (Out.ite (decide ((↑i : Int) ≥ (↑p.bs.length : Int)))
                (Out.stop EX.rt
                  {
                    env :=
                      [(1, AV.int IntKind.i64 (↑p.1 : Int)), (4, AV.ff), (5, AV.tt), (6, AV.sl false 1 0 5 p.ar.length (p.ar.length + p.4)),
                        (7, AV.sl false 2 0 5 p.bs.length (p.bs.length + p.5)), (8, AV.int IntKind.i64 (↑i : Int))],
                    heap := [(2, Blk.arr 35 Kd.cal p.bs p.5), (1, Blk.arr 35 Kd.cal p.ar p.4)], nx := 8, nt := 110,
                    tl := [5, 5, 5, 0, 1, 2, 3, 4, 5, 6, 7, 8, 9, 10, 11, 12] : St V })
                (Out.need (0 ≤ (↑i : Int) ∧ (↑i : Int) < (↑p.bs.length : Int))
                  (Out.need (0 + i < p.bs.length)
                    (Out.ite
                      (!((p.bs.getD (0 + i) (V.enc Kd.cal).dflt).thread == (p.ar.getD (0 + i) (V.enc Kd.cal).dflt).thread &&
                          ((p.bs.getD (0 + i) (V.enc Kd.cal).dflt).op == (p.ar.getD (0 + i) (V.enc Kd.cal).dflt).op &&
                            ((p.bs.getD (0 + i) (V.enc Kd.cal).dflt).frm == (p.ar.getD (0 + i) (V.enc Kd.cal).dflt).frm &&
                              ((p.bs.getD (0 + i) (V.enc Kd.cal).dflt).at_ == -1 &&
                                ((p.bs.getD (0 + i) (V.enc Kd.cal).dflt).to_ == (p.ar.getD (0 + i) (V.enc Kd.cal).dflt).to_ && true))))))
                      (Out.stop EX.rt
                        {
                          env :=
                            [(1, AV.int IntKind.i64 (↑p.1 : Int)), (4, AV.ff), (5, AV.tt), (6, AV.sl false 1 0 5 p.ar.length (p.ar.length + p.4)),
                              (7, AV.sl false 2 0 5 p.bs.length (p.bs.length + p.5)), (8, AV.int IntKind.i64 (↑i : Int))],
                          heap := [(2, Blk.arr 35 Kd.cal p.bs p.5), (1, Blk.arr 35 Kd.cal p.ar p.4)], nx := 8, nt := 110,
                          tl := [5, 5, 5, 0, 1, 2, 3, 4, 5, 6, 7, 8, 9, 10, 11, 12] : St V })
                      (Out.stop EX.nx
                        {
                          env :=
                            [(1, AV.int IntKind.i64 (↑p.1 : Int)), (4, AV.und), (5, AV.tt), (6, AV.sl false 1 0 5 p.ar.length (p.ar.length + p.4)),
                              (7, AV.sl false 2 0 5 p.bs.length (p.bs.length + p.5)), (8, AV.int IntKind.i64 (IntKind.i64.wrap ((↑i : Int) + 1)))],
                          heap := [(2, Blk.arr 35 Kd.cal p.bs p.5), (1, Blk.arr 35 Kd.cal p.ar p.4)], nx := 8, nt := 110,
                          tl := [5, 5, 5, 0, 1, 2, 3, 4, 5, 6, 7, 8, 9, 10, 11, 12] : St V }))))))
            (Out.ite (decide ((p.ar.getD (0 + i) (V.enc Kd.cal).dflt).to_ ≥ (↑p.1 : Int)))
              (Out.ite (decide ((↑i : Int) ≥ (↑p.bs.length : Int)))
                (Out.stop EX.rt
                  {
                    env :=
                      [(1, AV.int IntKind.i64 (↑p.1 : Int)), (4, AV.ff), (5, AV.tt), (6, AV.sl false 1 0 5 p.ar.length (p.ar.length + p.4)),
                        (7, AV.sl false 2 0 5 p.bs.length (p.bs.length + p.5)), (8, AV.int IntKind.i64 (↑i : Int))],
                    heap := [(2, Blk.arr 35 Kd.cal p.bs p.5), (1, Blk.arr 35 Kd.cal p.ar p.4)], nx := 8, nt := 110,
                    tl := [5, 5, 5, 0, 1, 2, 3, 4, 5, 6, 7, 8, 9, 10, 11, 12] : St V })
                (Out.need (0 ≤ (↑i : Int) ∧ (↑i : Int) < (↑p.bs.length : Int))
                  (Out.need (0 + i < p.bs.length)
                    (Out.ite
                      (!((p.bs.getD (0 + i) (V.enc Kd.cal).dflt).thread == (p.ar.getD (0 + i) (V.enc Kd.cal).dflt).thread &&
                          ((p.bs.getD (0 + i) (V.enc Kd.cal).dflt).op == (p.ar.getD (0 + i) (V.enc Kd.cal).dflt).op &&
                            ((p.bs.getD (0 + i) (V.enc Kd.cal).dflt).frm == (p.ar.getD (0 + i) (V.enc Kd.cal).dflt).frm &&
                              ((p.bs.getD (0 + i) (V.enc Kd.cal).dflt).at_ == (p.ar.getD (0 + i) (V.enc Kd.cal).dflt).at_ &&
                                ((p.bs.getD (0 + i) (V.enc Kd.cal).dflt).to_ == -1 && true))))))
                      (Out.stop EX.rt
                        {
                          env :=
                            [(1, AV.int IntKind.i64 (↑p.1 : Int)), (4, AV.ff), (5, AV.tt), (6, AV.sl false 1 0 5 p.ar.length (p.ar.length + p.4)),
                              (7, AV.sl false 2 0 5 p.bs.length (p.bs.length + p.5)), (8, AV.int IntKind.i64 (↑i : Int))],
                          heap := [(2, Blk.arr 35 Kd.cal p.bs p.5), (1, Blk.arr 35 Kd.cal p.ar p.4)], nx := 8, nt := 110,
                          tl := [5, 5, 5, 0, 1, 2, 3, 4, 5, 6, 7, 8, 9, 10, 11, 12] : St V })
                      (Out.stop EX.nx
                        {
                          env :=
                            [(1, AV.int IntKind.i64 (↑p.1 : Int)), (4, AV.und), (5, AV.tt), (6, AV.sl false 1 0 5 p.ar.length (p.ar.length + p.4)),
                              (7, AV.sl false 2 0 5 p.bs.length (p.bs.length + p.5)), (8, AV.int IntKind.i64 (IntKind.i64.wrap ((↑i : Int) + 1)))],
                          heap := [(2, Blk.arr 35 Kd.cal p.bs p.5), (1, Blk.arr 35 Kd.cal p.ar p.4)], nx := 8, nt := 110,
                          tl := [5, 5, 5, 0, 1, 2, 3, 4, 5, 6, 7, 8, 9, 10, 11, 12] : St V })))))
              (Out.ite (decide ((↑i : Int) ≥ (↑p.bs.length : Int)))
                (Out.stop EX.rt
                  {
                    env :=
                      [(1, AV.int IntKind.i64 (↑p.1 : Int)), (4, AV.ff), (5, AV.tt), (6, AV.sl false 1 0 5 p.ar.length (p.ar.length + p.4)),
                        (7, AV.sl false 2 0 5 p.bs.length (p.bs.length + p.5)), (8, AV.int IntKind.i64 (↑i : Int))],
                    heap := [(2, Blk.arr 35 Kd.cal p.bs p.5), (1, Blk.arr 35 Kd.cal p.ar p.4)], nx := 7, nt := 110,
                    tl := [5, 5, 0, 1, 2, 3, 4, 5, 6, 7, 8, 9, 10, 11, 12] : St V })
                (Out.need (0 ≤ (↑i : Int) ∧ (↑i : Int) < (↑p.bs.length : Int))
                  (Out.need (0 + i < p.bs.length)
                    (Out.ite
                      (!((p.bs.getD (0 + i) (V.enc Kd.cal).dflt).thread == (p.ar.getD (0 + i) (V.enc Kd.cal).dflt).thread &&
                          ((p.bs.getD (0 + i) (V.enc Kd.cal).dflt).op == (p.ar.getD (0 + i) (V.enc Kd.cal).dflt).op &&
                            ((p.bs.getD (0 + i) (V.enc Kd.cal).dflt).frm == (p.ar.getD (0 + i) (V.enc Kd.cal).dflt).frm &&
                              ((p.bs.getD (0 + i) (V.enc Kd.cal).dflt).at_ == (p.ar.getD (0 + i) (V.enc Kd.cal).dflt).at_ &&
                                ((p.bs.getD (0 + i) (V.enc Kd.cal).dflt).to_ == (p.ar.getD (0 + i) (V.enc Kd.cal).dflt).to_ && true))))))
                      (Out.stop EX.rt
                        {
                          env :=
                            [(1, AV.int IntKind.i64 (↑p.1 : Int)), (4, AV.ff), (5, AV.tt), (6, AV.sl false 1 0 5 p.ar.length (p.ar.length + p.4)),
                              (7, AV.sl false 2 0 5 p.bs.length (p.bs.length + p.5)), (8, AV.int IntKind.i64 (↑i : Int))],
                          heap := [(2, Blk.arr 35 Kd.cal p.bs p.5), (1, Blk.arr 35 Kd.cal p.ar p.4)], nx := 7, nt := 110,
                          tl := [5, 5, 0, 1, 2, 3, 4, 5, 6, 7, 8, 9, 10, 11, 12] : St V })
                      (Out.stop EX.nx
                        {
                          env :=
                            [(1, AV.int IntKind.i64 (↑p.1 : Int)), (4, AV.und), (5, AV.tt), (6, AV.sl false 1 0 5 p.ar.length (p.ar.length + p.4)),
                              (7, AV.sl false 2 0 5 p.bs.length (p.bs.length + p.5)), (8, AV.int IntKind.i64 (IntKind.i64.wrap ((↑i : Int) + 1)))],
                          heap := [(2, Blk.arr 35 Kd.cal p.bs p.5), (1, Blk.arr 35 Kd.cal p.ar p.4)], nx := 7, nt := 110,
                          tl := [5, 5, 0, 1, 2, 3, 4, 5, 6, 7, 8, 9, 10, 11, 12] : St V }))))))))))
    (Out.stop (EX.ex 0)
      {
        env :=
          [(1, AV.int IntKind.i64 (↑p.1 : Int)), (4, AV.und), (5, AV.tt), (6, AV.sl false 1 0 5 p.ar.length (p.ar.length + p.4)),
            (7, AV.sl false 2 0 5 p.bs.length (p.bs.length + p.5)), (8, AV.int IntKind.i64 (↑i : Int))],
        heap := [(2, Blk.arr 35 Kd.cal p.bs p.5), (1, Blk.arr 35 Kd.cal p.ar p.4)], nx := 5, nt := 110, tl := [0, 1, 2, 3, 4, 5, 6, 7, 8, 9, 10, 11, 12] : St V }) := by kernel_rfl

theorem t6 (l : List Rec) (c : Nat) (k : Int) : runL cfg60 60 6 Try.f6 [.sl false 0 0 8 l.length c, .int .i64 k] [(0, .ro Kd.rcd l)] 1 =
  Out.ite (decide ((↑l.length : Int) > 150)) (Out.fin AV.tt [] 0)
    (Out.ite (decide (k < 0)) (Out.fin AV.tt [] 0)
      (Out.ite (decide (k > (↑l.length : Int))) (Out.fin AV.tt [] 0)
        (Out.need (0 + l.length ≤ l.length)
          (Out.need ((List.take l.length (List.drop 0 l)).length ≤ 1099511627776)
            (Out.ite (!hRight (List.take l.length (List.drop 0 l))) (Out.fin AV.tt [] 0)
              (Out.need (0 + l.length ≤ l.length)
                (Out.need ((List.take l.length (List.drop 0 l)).length ≤ 1099511627776)
                  (Out.all Nat fun y =>
                    Out.need (0 ≤ k ∧ k ≤ (↑c : Int))
                      (Out.need (0 + k.toNat ≤ l.length)
                        (Out.need ((List.take k.toNat (List.drop 0 l)).length ≤ 1099511627776)
                          (Out.all Nat fun y_1 =>
                            Out.need (0 ≤ k ∧ k ≤ (↑c : Int))
                              (Out.need (0 + k.toNat ≤ l.length)
                                (Out.need ((List.take k.toNat (List.drop 0 l)).length ≤ 1099511627776)
                                  (Out.ite (!hRight (List.take k.toNat (List.drop 0 l))) (Out.fin AV.ff [] 0)
                                    (Out.ite
                                      (decide
                                        ((↑(hCallsOf (List.take k.toNat (List.drop 0 l))).length : Int) >
                                          (↑(hCallsOf (List.take l.length (List.drop 0 l))).length : Int)))
                                      (Out.fin AV.ff [] 0)
                                      (Out.need (0 ≤ k ∧ k ≤ (↑c : Int))
                                        (Out.need (0 + k.toNat ≤ l.length)
                                          (Out.need ((List.take k.toNat (List.drop 0 l)).length ≤ 1099511627776)
                                            (Out.all Nat fun y_2 =>
                                              Out.need (0 + l.length ≤ l.length)
                                                (Out.need ((List.take l.length (List.drop 0 l)).length ≤ 1099511627776)
                                                  (Out.all Nat fun y_3 =>
                                                    Out.ite
                                                      (decide
                                                        ((↑(hCommits (List.take k.toNat (List.drop 0 l))).length : Int) >
                                                          (↑(hCommits (List.take l.length (List.drop 0 l))).length : Int)))
                                                      (Out.fin AV.ff [] 0)
                                                      (Out.need (LoopFor Try.prog 6 0 (loopOf Try.f6 0) L60)
                                                        (Out.ex (PU → Prop) fun y_4 =>
                                                          Out.need
                                                            (5 ≤ 5 ∧
                                                              SImp 5
                                                                {
                                                                  env :=
                                                                    [(1, AV.int IntKind.i64 k), (4, AV.ff), (5, AV.tt),
                                                                      (6,
                                                                        AV.sl false 1 0 5 (hCallsOf (List.take l.length (List.drop 0 l))).length
                                                                          ((hCallsOf (List.take l.length (List.drop 0 l))).length + y)),
                                                                      (7,
                                                                        AV.sl false 2 0 5 (hCallsOf (List.take k.toNat (List.drop 0 l))).length
                                                                          ((hCallsOf (List.take k.toNat (List.drop 0 l))).length + y_1)),
                                                                      (8, AV.lit IntKind.i64 0)],
                                                                  heap :=
                                                                    [(2, Blk.arr 35 Kd.cal (hCallsOf (List.take k.toNat (List.drop 0 l))) y_1),
                                                                      (1, Blk.arr 35 Kd.cal (hCallsOf (List.take l.length (List.drop 0 l))) y)],
                                                                  nx := 5, nt := 110, tl := [4, 3, 0] : St V }
                                                                (fun p => I60 p 0) y_4)
                                                            (Out.all PU fun y =>
                                                              Out.asm (y_4 y)
                                                                ((Out.all Unit fun y_5 =>
                                                                      Out.asm ((fun p x => p.ar.length ≤ p.bs.length) y y_5)
                                                                        (Out.fin (AV.bool ((↑y.ar.length : Int) == (↑y.bs.length : Int))) [] 0)).both
                                                                  (Out.all Unit fun y_5 =>
                                                                    Out.asm ((fun x x_1 => True) y y_5) (Out.fin AV.tt [] 0))))))))))))))))))))))))))) := by kernel_rfl

end Sx
end Go.Proofs.Ytemcdjdglcceiaa
