/-
  The law that plays a log again: the runs of the machine.
-/
import Derived.Test.YtjackepkphdibaaPlay
namespace Go.Proofs.Ytjackepkphdibaa
namespace Sx
open Go
set_option maxRecDepth 100000
set_option linter.unusedVariables false

/-- What a log comes to, played from the beginning. -/
def logStep (q : List Int × List Int) (d : Deed) : List Int × List Int :=
  if d.act ≥ 4 then (q.1, q.2.set d.cell.toNat d.after) else (q.1.set d.cell.toNat d.after, q.2)
def logPlay (l : List Deed) : List Int × List Int := l.foldl logStep ([0, 0, 0, 0], [0, 0, 0, 0])
def logCheck (q : List Int × List Int) (d : Deed) : Prop :=
  (0 ≤ d.cell ∧ d.cell ≤ 3) ∧ if d.act ≥ 4 then q.2.getD d.cell.toNat 0 = d.before else q.1.getD d.cell.toNat 0 = d.before ∧ (d.act = 1 → d.after = d.before)
def logGood (l : List Deed) : Prop := ∀ i (h : i < l.length), logCheck (logPlay (l.take i)) l[i]
structure LInv (s : MC) : Prop where
  good : logGood s.log
  words : (logPlay s.log).1 = s.words
  held : (logPlay s.log).2 = s.locks.map fun h => if h.held then 1 else 0
  wl : s.words.length = 4
  ll : s.locks.length = 4
def L60 : LoopS V := loopH 3 (fun p : P4 => I6 p ⟨0, MC.mk0 4 4, MR.mk0 4 4⟩) (fun p (x : X4) => Rel x.s x.r ∧ LInv x.s ∧ x.s.log.length ≤ 200) (fun p x => I6 p x)
structure P62 where
  xs : List Five
  c : Nat
  s : MC
  r : MR
  q : Nat × Nat × Nat × Nat
  sp : Nat
  R : Rel s r
  V : LInv s
  hb : s.log.length ≤ 200
def H62 (p : P62) (s : MC) (ws hs : List Int) : Heap V :=
  [(10, .arr 45 Kd.deed p.s.log p.sp), (4, .arr 3 Kd.int hs 0), (3, .arr 3 Kd.int ws 0), (1, .obj (oC s)), (0, .ro Kd.five p.xs), (2, .cells 43 [.sl false 6 0 1 p.r.w.length (p.r.w.length + p.q.1), .sl false 7 0 1 p.r.h.length (p.r.h.length + p.q.2.1), .sl false 8 0 1 p.r.t.length (p.r.t.length + p.q.2.2.1), .sl false 9 0 5 p.r.l.length (p.r.l.length + p.q.2.2.2)]),
    (6, .arr 3 Kd.int p.r.w p.q.1), (7, .arr 4 Kd.bool p.r.h p.q.2.1), (8, .arr 3 Kd.int p.r.t p.q.2.2.1), (9, .arr 45 Kd.deed p.r.l p.q.2.2.2)]
def I62 (p : P62) (x : Nat × List Int × List Int) : St V :=
  ⟨[(3, .tt), (4, .ptr 1 0), (5, .ptr 2 0), (8, .sl true 3 0 1 4 4), (9, .sl true 4 0 1 4 4), (10, .sl false 10 0 5 p.s.log.length (p.s.log.length + p.sp)), (11, .int .i64 (x.1 : Int))],
   H62 p p.s x.2.1 x.2.2, 11, 180, [1, 2, 3, 4, 5, 6, 7, 8, 9, 10, 11, 12, 13, 14]⟩
def L62 : LoopS V := loopH 11 (fun p : P62 => I62 p (0, [0, 0, 0, 0], [0, 0, 0, 0])) (fun p (x : Nat × List Int × List Int) => x.2 = logPlay p.s.log) I62

def hooks10 : Nat → Option (HookS V) := fun g => match g with
  | 13 => some (hookAfter (openR 2) (hookObj 4 [] (onC runLog)))
  | g => hooks7 g

noncomputable def cfg10 : Cfg Try.prog V := ⟨tab, kinds, fun _ => none, hooks10, fun f id => match f, id with | 6, 0 => some L60 | 6, 2 => some L62 | _, _ => none⟩
theorem b62 (p : P62) (x : Nat × List Int × List Int) : runCode cfg7 40 6 (loopOf Try.f6 2) (I62 p x) (stopK [3, 4, 5, 8, 9, 10, 11]) =
  Out.ite (decide ((↑x.fst : Int) < (↑p.s.log.length : Int)))
    (Out.need (0 ≤ (↑x.fst : Int) ∧ (↑x.fst : Int) < (↑p.s.log.length : Int))
      (Out.need (0 + (↑x.fst : Int).toNat < p.s.log.length)
        (Out.ite (decide ((p.s.log.getD (0 + (↑x.fst : Int).toNat) (V.enc Kd.deed).dflt).cell < 0))
          (Out.stop EX.rt
            {
              env :=
                [(3, AV.tt), (4, AV.ptr 1 0), (5, AV.ptr 2 0), (8, AV.sl true 3 0 1 4 4), (9, AV.sl true 4 0 1 4 4),
                  (10, AV.sl false 10 0 5 p.s.log.length (p.s.log.length + p.sp)), (11, AV.int IntKind.i64 (↑x.fst : Int))],
              heap :=
                [(10, Blk.arr 45 Kd.deed p.s.log p.sp), (4, Blk.arr 3 Kd.int x.snd.snd 0), (3, Blk.arr 3 Kd.int x.snd.fst 0), (1, Blk.obj (oC p.s)),
                  (0, Blk.ro Kd.five p.xs),
                  (2,
                    Blk.cells 43
                      [AV.sl false 6 0 1 p.r.w.length (p.r.w.length + p.q.fst), AV.sl false 7 0 1 p.r.h.length (p.r.h.length + p.q.snd.fst),
                        AV.sl false 8 0 1 p.r.t.length (p.r.t.length + p.q.snd.snd.fst), AV.sl false 9 0 5 p.r.l.length (p.r.l.length + p.q.snd.snd.snd)]),
                  (6, Blk.arr 3 Kd.int p.r.w p.q.fst), (7, Blk.arr 4 Kd.bool p.r.h p.q.snd.fst), (8, Blk.arr 3 Kd.int p.r.t p.q.snd.snd.fst),
                  (9, Blk.arr 45 Kd.deed p.r.l p.q.snd.snd.snd)],
              nx := 11, nt := 180, tl := [1, 2, 3, 4, 5, 6, 7, 8, 9, 10, 11, 12, 13, 14] : St V })
          (Out.need (0 ≤ (↑x.fst : Int) ∧ (↑x.fst : Int) < (↑p.s.log.length : Int))
            (Out.need (0 + (↑x.fst : Int).toNat < p.s.log.length)
              (Out.ite (decide ((p.s.log.getD (0 + (↑x.fst : Int).toNat) (V.enc Kd.deed).dflt).cell > 3))
                (Out.stop EX.rt
                  {
                    env :=
                      [(3, AV.tt), (4, AV.ptr 1 0), (5, AV.ptr 2 0), (8, AV.sl true 3 0 1 4 4), (9, AV.sl true 4 0 1 4 4),
                        (10, AV.sl false 10 0 5 p.s.log.length (p.s.log.length + p.sp)), (11, AV.int IntKind.i64 (↑x.fst : Int))],
                    heap :=
                      [(10, Blk.arr 45 Kd.deed p.s.log p.sp), (4, Blk.arr 3 Kd.int x.snd.snd 0), (3, Blk.arr 3 Kd.int x.snd.fst 0), (1, Blk.obj (oC p.s)),
                        (0, Blk.ro Kd.five p.xs),
                        (2,
                          Blk.cells 43
                            [AV.sl false 6 0 1 p.r.w.length (p.r.w.length + p.q.fst), AV.sl false 7 0 1 p.r.h.length (p.r.h.length + p.q.snd.fst),
                              AV.sl false 8 0 1 p.r.t.length (p.r.t.length + p.q.snd.snd.fst), AV.sl false 9 0 5 p.r.l.length (p.r.l.length + p.q.snd.snd.snd)]),
                        (6, Blk.arr 3 Kd.int p.r.w p.q.fst), (7, Blk.arr 4 Kd.bool p.r.h p.q.snd.fst), (8, Blk.arr 3 Kd.int p.r.t p.q.snd.snd.fst),
                        (9, Blk.arr 45 Kd.deed p.r.l p.q.snd.snd.snd)],
                    nx := 11, nt := 180, tl := [1, 2, 3, 4, 5, 6, 7, 8, 9, 10, 11, 12, 13, 14] : St V })
                (Out.need (0 ≤ (↑x.fst : Int) ∧ (↑x.fst : Int) < (↑p.s.log.length : Int))
                  (Out.need (0 + (↑x.fst : Int).toNat < p.s.log.length)
                    (Out.ite (decide ((p.s.log.getD (0 + (↑x.fst : Int).toNat) (V.enc Kd.deed).dflt).act ≥ 4))
                      (Out.need (0 ≤ (↑x.fst : Int) ∧ (↑x.fst : Int) < (↑p.s.log.length : Int))
                        (Out.need (0 + (↑x.fst : Int).toNat < p.s.log.length)
                          (Out.need
                            (0 ≤ (p.s.log.getD (0 + (↑x.fst : Int).toNat) (V.enc Kd.deed).dflt).cell ∧
                              (p.s.log.getD (0 + (↑x.fst : Int).toNat) (V.enc Kd.deed).dflt).cell < 4)
                            (Out.need (0 + (p.s.log.getD (0 + (↑x.fst : Int).toNat) (V.enc Kd.deed).dflt).cell.toNat < x.snd.snd.length)
                              (Out.need (0 ≤ (↑x.fst : Int) ∧ (↑x.fst : Int) < (↑p.s.log.length : Int))
                                (Out.need (0 + (↑x.fst : Int).toNat < p.s.log.length)
                                  (Out.ite
                                    (x.snd.snd.getD (0 + (p.s.log.getD (0 + (↑x.fst : Int).toNat) (V.enc Kd.deed).dflt).cell.toNat) (V.enc Kd.int).dflt !=
                                      (p.s.log.getD (0 + (↑x.fst : Int).toNat) (V.enc Kd.deed).dflt).before)
                                    (Out.stop EX.rt
                                      {
                                        env :=
                                          [(3, AV.tt), (4, AV.ptr 1 0), (5, AV.ptr 2 0), (8, AV.sl true 3 0 1 4 4), (9, AV.sl true 4 0 1 4 4),
                                            (10, AV.sl false 10 0 5 p.s.log.length (p.s.log.length + p.sp)), (11, AV.int IntKind.i64 (↑x.fst : Int))],
                                        heap :=
                                          [(10, Blk.arr 45 Kd.deed p.s.log p.sp), (4, Blk.arr 3 Kd.int x.snd.snd 0), (3, Blk.arr 3 Kd.int x.snd.fst 0),
                                            (1, Blk.obj (oC p.s)), (0, Blk.ro Kd.five p.xs),
                                            (2,
                                              Blk.cells 43
                                                [AV.sl false 6 0 1 p.r.w.length (p.r.w.length + p.q.fst),
                                                  AV.sl false 7 0 1 p.r.h.length (p.r.h.length + p.q.snd.fst),
                                                  AV.sl false 8 0 1 p.r.t.length (p.r.t.length + p.q.snd.snd.fst),
                                                  AV.sl false 9 0 5 p.r.l.length (p.r.l.length + p.q.snd.snd.snd)]),
                                            (6, Blk.arr 3 Kd.int p.r.w p.q.fst), (7, Blk.arr 4 Kd.bool p.r.h p.q.snd.fst),
                                            (8, Blk.arr 3 Kd.int p.r.t p.q.snd.snd.fst), (9, Blk.arr 45 Kd.deed p.r.l p.q.snd.snd.snd)],
                                        nx := 11, nt := 180, tl := [1, 2, 3, 4, 5, 6, 7, 8, 9, 10, 11, 12, 13, 14] : St V })
                                    (Out.need (0 ≤ (↑x.fst : Int) ∧ (↑x.fst : Int) < (↑p.s.log.length : Int))
                                      (Out.need (0 + (↑x.fst : Int).toNat < p.s.log.length)
                                        (Out.need (0 ≤ (↑x.fst : Int) ∧ (↑x.fst : Int) < (↑p.s.log.length : Int))
                                          (Out.need (0 + (↑x.fst : Int).toNat < p.s.log.length)
                                            (Out.need
                                              (0 ≤ (p.s.log.getD (0 + (↑x.fst : Int).toNat) (V.enc Kd.deed).dflt).cell ∧
                                                (p.s.log.getD (0 + (↑x.fst : Int).toNat) (V.enc Kd.deed).dflt).cell < 4)
                                              (Out.need (0 + (p.s.log.getD (0 + (↑x.fst : Int).toNat) (V.enc Kd.deed).dflt).cell.toNat < x.snd.snd.length)
                                                (Out.stop EX.nx
                                                  {
                                                    env :=
                                                      [(3, AV.tt), (4, AV.ptr 1 0), (5, AV.ptr 2 0), (8, AV.sl true 3 0 1 4 4), (9, AV.sl true 4 0 1 4 4),
                                                        (10, AV.sl false 10 0 5 p.s.log.length (p.s.log.length + p.sp)),
                                                        (11, AV.int IntKind.i64 (IntKind.i64.wrap ((↑x.fst : Int) + 1)))],
                                                    heap :=
                                                      [(10, Blk.arr 45 Kd.deed p.s.log p.sp),
                                                        (4,
                                                          Blk.arr 3 Kd.int
                                                            (x.snd.snd.set (0 + (p.s.log.getD (0 + (↑x.fst : Int).toNat) (V.enc Kd.deed).dflt).cell.toNat)
                                                              (p.s.log.getD (0 + (↑x.fst : Int).toNat) (V.enc Kd.deed).dflt).after)
                                                            0),
                                                        (3, Blk.arr 3 Kd.int x.snd.fst 0), (1, Blk.obj (oC p.s)), (0, Blk.ro Kd.five p.xs),
                                                        (2,
                                                          Blk.cells 43
                                                            [AV.sl false 6 0 1 p.r.w.length (p.r.w.length + p.q.fst),
                                                              AV.sl false 7 0 1 p.r.h.length (p.r.h.length + p.q.snd.fst),
                                                              AV.sl false 8 0 1 p.r.t.length (p.r.t.length + p.q.snd.snd.fst),
                                                              AV.sl false 9 0 5 p.r.l.length (p.r.l.length + p.q.snd.snd.snd)]),
                                                        (6, Blk.arr 3 Kd.int p.r.w p.q.fst), (7, Blk.arr 4 Kd.bool p.r.h p.q.snd.fst),
                                                        (8, Blk.arr 3 Kd.int p.r.t p.q.snd.snd.fst), (9, Blk.arr 45 Kd.deed p.r.l p.q.snd.snd.snd)],
                                                    nx := 12, nt := 180, tl := [4, 1, 2, 3, 4, 5, 6, 7, 8, 9, 10, 11, 12, 13, 14] : St V }))))))))))))))
                      (Out.need (0 ≤ (↑x.fst : Int) ∧ (↑x.fst : Int) < (↑p.s.log.length : Int))
                        (Out.need (0 + (↑x.fst : Int).toNat < p.s.log.length)
                          (Out.need
                            (0 ≤ (p.s.log.getD (0 + (↑x.fst : Int).toNat) (V.enc Kd.deed).dflt).cell ∧
                              (p.s.log.getD (0 + (↑x.fst : Int).toNat) (V.enc Kd.deed).dflt).cell < 4)
                            (Out.need (0 + (p.s.log.getD (0 + (↑x.fst : Int).toNat) (V.enc Kd.deed).dflt).cell.toNat < x.snd.fst.length)
                              (Out.need (0 ≤ (↑x.fst : Int) ∧ (↑x.fst : Int) < (↑p.s.log.length : Int))
                                (Out.need (0 + (↑x.fst : Int).toNat < p.s.log.length)
                                  (Out.ite
                                    (x.snd.fst.getD (0 + (p.s.log.getD (0 + (↑x.fst : Int).toNat) (V.enc Kd.deed).dflt).cell.toNat) (V.enc Kd.int).dflt !=
                                      (p.s.log.getD (0 + (↑x.fst : Int).toNat) (V.enc Kd.deed).dflt).before)
                                    (Out.stop EX.rt
                                      {
                                        env :=
                                          [(3, AV.tt), (4, AV.ptr 1 0), (5, AV.ptr 2 0), (8, AV.sl true 3 0 1 4 4), (9, AV.sl true 4 0 1 4 4),
                                            (10, AV.sl false 10 0 5 p.s.log.length (p.s.log.length + p.sp)), (11, AV.int IntKind.i64 (↑x.fst : Int))],
                                        heap :=
                                          [(10, Blk.arr 45 Kd.deed p.s.log p.sp), (4, Blk.arr 3 Kd.int x.snd.snd 0), (3, Blk.arr 3 Kd.int x.snd.fst 0),
                                            (1, Blk.obj (oC p.s)), (0, Blk.ro Kd.five p.xs),
                                            (2,
                                              Blk.cells 43
                                                [AV.sl false 6 0 1 p.r.w.length (p.r.w.length + p.q.fst),
                                                  AV.sl false 7 0 1 p.r.h.length (p.r.h.length + p.q.snd.fst),
                                                  AV.sl false 8 0 1 p.r.t.length (p.r.t.length + p.q.snd.snd.fst),
                                                  AV.sl false 9 0 5 p.r.l.length (p.r.l.length + p.q.snd.snd.snd)]),
                                            (6, Blk.arr 3 Kd.int p.r.w p.q.fst), (7, Blk.arr 4 Kd.bool p.r.h p.q.snd.fst),
                                            (8, Blk.arr 3 Kd.int p.r.t p.q.snd.snd.fst), (9, Blk.arr 45 Kd.deed p.r.l p.q.snd.snd.snd)],
                                        nx := 11, nt := 180, tl := [1, 2, 3, 4, 5, 6, 7, 8, 9, 10, 11, 12, 13, 14] : St V })
                                    (Out.need (0 ≤ (↑x.fst : Int) ∧ (↑x.fst : Int) < (↑p.s.log.length : Int))
                                      (Out.need (0 + (↑x.fst : Int).toNat < p.s.log.length)
                                        (Out.ite ((p.s.log.getD (0 + (↑x.fst : Int).toNat) (V.enc Kd.deed).dflt).act == 1)
                                          (Out.need (0 ≤ (↑x.fst : Int) ∧ (↑x.fst : Int) < (↑p.s.log.length : Int))
                                            (Out.need (0 + (↑x.fst : Int).toNat < p.s.log.length)
                                              (Out.need (0 ≤ (↑x.fst : Int) ∧ (↑x.fst : Int) < (↑p.s.log.length : Int))
                                                (Out.need (0 + (↑x.fst : Int).toNat < p.s.log.length)
                                                  (Out.ite
                                                    ((p.s.log.getD (0 + (↑x.fst : Int).toNat) (V.enc Kd.deed).dflt).after !=
                                                      (p.s.log.getD (0 + (↑x.fst : Int).toNat) (V.enc Kd.deed).dflt).before)
                                                    (Out.stop EX.rt
                                                      {
                                                        env :=
                                                          [(3, AV.tt), (4, AV.ptr 1 0), (5, AV.ptr 2 0), (8, AV.sl true 3 0 1 4 4), (9, AV.sl true 4 0 1 4 4),
                                                            (10, AV.sl false 10 0 5 p.s.log.length (p.s.log.length + p.sp)),
                                                            (11, AV.int IntKind.i64 (↑x.fst : Int))],
                                                        heap :=
                                                          [(10, Blk.arr 45 Kd.deed p.s.log p.sp), (4, Blk.arr 3 Kd.int x.snd.snd 0),
                                                            (3, Blk.arr 3 Kd.int x.snd.fst 0), (1, Blk.obj (oC p.s)), (0, Blk.ro Kd.five p.xs),
                                                            (2,
                                                              Blk.cells 43
                                                                [AV.sl false 6 0 1 p.r.w.length (p.r.w.length + p.q.fst),
                                                                  AV.sl false 7 0 1 p.r.h.length (p.r.h.length + p.q.snd.fst),
                                                                  AV.sl false 8 0 1 p.r.t.length (p.r.t.length + p.q.snd.snd.fst),
                                                                  AV.sl false 9 0 5 p.r.l.length (p.r.l.length + p.q.snd.snd.snd)]),
                                                            (6, Blk.arr 3 Kd.int p.r.w p.q.fst), (7, Blk.arr 4 Kd.bool p.r.h p.q.snd.fst),
                                                            (8, Blk.arr 3 Kd.int p.r.t p.q.snd.snd.fst), (9, Blk.arr 45 Kd.deed p.r.l p.q.snd.snd.snd)],
                                                        nx := 11, nt := 180, tl := [1, 2, 3, 4, 5, 6, 7, 8, 9, 10, 11, 12, 13, 14] : St V })
                                                    (Out.need (0 ≤ (↑x.fst : Int) ∧ (↑x.fst : Int) < (↑p.s.log.length : Int))
                                                      (Out.need (0 + (↑x.fst : Int).toNat < p.s.log.length)
                                                        (Out.need (0 ≤ (↑x.fst : Int) ∧ (↑x.fst : Int) < (↑p.s.log.length : Int))
                                                          (Out.need (0 + (↑x.fst : Int).toNat < p.s.log.length)
                                                            (Out.need
                                                              (0 ≤ (p.s.log.getD (0 + (↑x.fst : Int).toNat) (V.enc Kd.deed).dflt).cell ∧
                                                                (p.s.log.getD (0 + (↑x.fst : Int).toNat) (V.enc Kd.deed).dflt).cell < 4)
                                                              (Out.need
                                                                (0 + (p.s.log.getD (0 + (↑x.fst : Int).toNat) (V.enc Kd.deed).dflt).cell.toNat < x.snd.fst.length)
                                                                (Out.stop EX.nx
                                                                  {
                                                                    env :=
                                                                      [(3, AV.tt), (4, AV.ptr 1 0), (5, AV.ptr 2 0), (8, AV.sl true 3 0 1 4 4),
                                                                        (9, AV.sl true 4 0 1 4 4),
                                                                        (10, AV.sl false 10 0 5 p.s.log.length (p.s.log.length + p.sp)),
                                                                        (11, AV.int IntKind.i64 (IntKind.i64.wrap ((↑x.fst : Int) + 1)))],
                                                                    heap :=
                                                                      [(10, Blk.arr 45 Kd.deed p.s.log p.sp), (4, Blk.arr 3 Kd.int x.snd.snd 0),
                                                                        (3,
                                                                          Blk.arr 3 Kd.int
                                                                            (x.snd.fst.set
                                                                              (0 + (p.s.log.getD (0 + (↑x.fst : Int).toNat) (V.enc Kd.deed).dflt).cell.toNat)
                                                                              (p.s.log.getD (0 + (↑x.fst : Int).toNat) (V.enc Kd.deed).dflt).after)
                                                                            0),
                                                                        (1, Blk.obj (oC p.s)), (0, Blk.ro Kd.five p.xs),
                                                                        (2,
                                                                          Blk.cells 43
                                                                            [AV.sl false 6 0 1 p.r.w.length (p.r.w.length + p.q.fst),
                                                                              AV.sl false 7 0 1 p.r.h.length (p.r.h.length + p.q.snd.fst),
                                                                              AV.sl false 8 0 1 p.r.t.length (p.r.t.length + p.q.snd.snd.fst),
                                                                              AV.sl false 9 0 5 p.r.l.length (p.r.l.length + p.q.snd.snd.snd)]),
                                                                        (6, Blk.arr 3 Kd.int p.r.w p.q.fst), (7, Blk.arr 4 Kd.bool p.r.h p.q.snd.fst),
                                                                        (8, Blk.arr 3 Kd.int p.r.t p.q.snd.snd.fst),
                                                                        (9, Blk.arr 45 Kd.deed p.r.l p.q.snd.snd.snd)],
                                                                    nx := 12, nt := 180, tl := [3, 1, 2, 3, 4, 5, 6, 7, 8, 9, 10, 11, 12, 13, 14] :
                                                                    St V }))))))))))))
                                          (Out.need (0 ≤ (↑x.fst : Int) ∧ (↑x.fst : Int) < (↑p.s.log.length : Int))
                                            (Out.need (0 + (↑x.fst : Int).toNat < p.s.log.length)
                                              (Out.need (0 ≤ (↑x.fst : Int) ∧ (↑x.fst : Int) < (↑p.s.log.length : Int))
                                                (Out.need (0 + (↑x.fst : Int).toNat < p.s.log.length)
                                                  (Out.need
                                                    (0 ≤ (p.s.log.getD (0 + (↑x.fst : Int).toNat) (V.enc Kd.deed).dflt).cell ∧
                                                      (p.s.log.getD (0 + (↑x.fst : Int).toNat) (V.enc Kd.deed).dflt).cell < 4)
                                                    (Out.need (0 + (p.s.log.getD (0 + (↑x.fst : Int).toNat) (V.enc Kd.deed).dflt).cell.toNat < x.snd.fst.length)
                                                      (Out.stop EX.nx
                                                        {
                                                          env :=
                                                            [(3, AV.tt), (4, AV.ptr 1 0), (5, AV.ptr 2 0), (8, AV.sl true 3 0 1 4 4), (9, AV.sl true 4 0 1 4 4),
                                                              (10, AV.sl false 10 0 5 p.s.log.length (p.s.log.length + p.sp)),
                                                              (11, AV.int IntKind.i64 (IntKind.i64.wrap ((↑x.fst : Int) + 1)))],
                                                          heap :=
                                                            [(10, Blk.arr 45 Kd.deed p.s.log p.sp), (4, Blk.arr 3 Kd.int x.snd.snd 0),
                                                              (3,
                                                                Blk.arr 3 Kd.int
                                                                  (x.snd.fst.set (0 + (p.s.log.getD (0 + (↑x.fst : Int).toNat) (V.enc Kd.deed).dflt).cell.toNat)
                                                                    (p.s.log.getD (0 + (↑x.fst : Int).toNat) (V.enc Kd.deed).dflt).after)
                                                                  0),
                                                              (1, Blk.obj (oC p.s)), (0, Blk.ro Kd.five p.xs),
                                                              (2,
                                                                Blk.cells 43
                                                                  [AV.sl false 6 0 1 p.r.w.length (p.r.w.length + p.q.fst),
                                                                    AV.sl false 7 0 1 p.r.h.length (p.r.h.length + p.q.snd.fst),
                                                                    AV.sl false 8 0 1 p.r.t.length (p.r.t.length + p.q.snd.snd.fst),
                                                                    AV.sl false 9 0 5 p.r.l.length (p.r.l.length + p.q.snd.snd.snd)]),
                                                              (6, Blk.arr 3 Kd.int p.r.w p.q.fst), (7, Blk.arr 4 Kd.bool p.r.h p.q.snd.fst),
                                                              (8, Blk.arr 3 Kd.int p.r.t p.q.snd.snd.fst), (9, Blk.arr 45 Kd.deed p.r.l p.q.snd.snd.snd)],
                                                          nx := 12, nt := 180, tl := [3, 1, 2, 3, 4, 5, 6, 7, 8, 9, 10, 11, 12, 13, 14] :
                                                          St V }))))))))))))))))))))))))))
    (Out.stop (EX.ex 2)
      {
        env :=
          [(3, AV.tt), (4, AV.ptr 1 0), (5, AV.ptr 2 0), (8, AV.sl true 3 0 1 4 4), (9, AV.sl true 4 0 1 4 4),
            (10, AV.sl false 10 0 5 p.s.log.length (p.s.log.length + p.sp)), (11, AV.int IntKind.i64 (↑x.fst : Int))],
        heap :=
          [(10, Blk.arr 45 Kd.deed p.s.log p.sp), (4, Blk.arr 3 Kd.int x.snd.snd 0), (3, Blk.arr 3 Kd.int x.snd.fst 0), (1, Blk.obj (oC p.s)),
            (0, Blk.ro Kd.five p.xs),
            (2,
              Blk.cells 43
                [AV.sl false 6 0 1 p.r.w.length (p.r.w.length + p.q.fst), AV.sl false 7 0 1 p.r.h.length (p.r.h.length + p.q.snd.fst),
                  AV.sl false 8 0 1 p.r.t.length (p.r.t.length + p.q.snd.snd.fst), AV.sl false 9 0 5 p.r.l.length (p.r.l.length + p.q.snd.snd.snd)]),
            (6, Blk.arr 3 Kd.int p.r.w p.q.fst), (7, Blk.arr 4 Kd.bool p.r.h p.q.snd.fst), (8, Blk.arr 3 Kd.int p.r.t p.q.snd.snd.fst),
            (9, Blk.arr 45 Kd.deed p.r.l p.q.snd.snd.snd)],
        nx := 11, nt := 180, tl := [1, 2, 3, 4, 5, 6, 7, 8, 9, 10, 11, 12, 13, 14] : St V }) := by kernel_rfl
theorem t6 (xs : List Five) (c : Nat) : runL cfg10 60 6 Try.f6 [.sl false 0 0 5 xs.length c] [(0, .ro Kd.five xs)] 1 =
  Out.ite (decide ((↑xs.length : Int) > (200 : Int))) (Out.fin AV.tt [] (0 : Nat))
    (Out.need (LoopFor Try.prog (6 : Nat) (0 : Nat) (loopOf Try.f6 (0 : Nat)) L60)
      (Out.ex (P4 → Prop) fun y =>
        Out.need
          ((3 : Nat) ≤ (3 : Nat) ∧
            SImp (3 : Nat)
              {
                env :=
                  [((6 : Nat), AV.lit IntKind.i64 (0 : Int)), ((24 : Nat), AV.bool (decide ((↑xs.length : Int) > (200 : Int)))),
                    ((23 : Nat), AV.bool (decide ((↑xs.length : Int) > (200 : Int)))), ((22 : Nat), AV.int IntKind.i64 (↑xs.length : Int)),
                    ((21 : Nat), AV.sl false (0 : Nat) (0 : Nat) (5 : Nat) xs.length c), ((20 : Nat), AV.ff), ((19 : Nat), AV.ff),
                    ((18 : Nat), AV.ptr (1 : Nat) (0 : Nat)), ((5 : Nat), AV.ptr (2 : Nat) (0 : Nat)), ((17 : Nat), AV.ptr (2 : Nat) (0 : Nat)),
                    ((4 : Nat), AV.ptr (1 : Nat) (0 : Nat)), ((16 : Nat), AV.ptr (1 : Nat) (0 : Nat)), ((3 : Nat), AV.tt), ((15 : Nat), AV.tt),
                    ((2 : Nat), AV.ff), ((0 : Nat), AV.sl false (0 : Nat) (0 : Nat) (5 : Nat) xs.length c)],
                heap :=
                  [((2 : Nat), Blk.obj (oR (MR.mk0 (4 : Int) (4 : Int)))), ((1 : Nat), Blk.obj (oC (MC.mk0 (4 : Int) (4 : Int)))),
                    ((0 : Nat), Blk.ro Kd.five xs)],
                nx := (3 : Nat), nt := (180 : Nat), tl := [] : St V }
              (fun p => I6 p { i := (0 : Nat), s := MC.mk0 (4 : Int) (4 : Int), r := MR.mk0 (4 : Int) (4 : Int) : X4 }) y)
          (Out.all P4 fun y_1 =>
            Out.asm (y y_1)
              (Out.all X4 fun y =>
                Out.asm ((fun p x => Rel x.s x.r ∧ LInv x.s ∧ x.s.log.length ≤ (200 : Nat)) y_1 y)
                  (Out.need ((0 : Int) ≤ (4 : Int) ∧ (4 : Int) ≤ (4 : Int) ∧ (32 : Int) ≤ (281474976710656 : Int))
                    (Out.need ((0 : Int) ≤ (4 : Int) ∧ (4 : Int) ≤ (4 : Int) ∧ (32 : Int) ≤ (281474976710656 : Int))
                      (Out.all (Nat × Nat × Nat × Nat) fun y_2 =>
                        Out.need y.s.room
                          (Out.all Nat fun y_3 =>
                            Out.need (LoopFor Try.prog (6 : Nat) (2 : Nat) (loopOf Try.f6 (2 : Nat)) L62)
                              (Out.ex (P62 → Prop) fun y_4 =>
                                Out.need
                                  ((11 : Nat) ≤ (11 : Nat) ∧
                                    SImp (11 : Nat)
                                      {
                                        env :=
                                          [((11 : Nat), AV.lit IntKind.i64 (0 : Int)),
                                            ((10 : Nat), AV.sl false (10 : Nat) (0 : Nat) (5 : Nat) y.s.log.length (y.s.log.length + y_3)),
                                            ((48 : Nat), AV.sl false (10 : Nat) (0 : Nat) (5 : Nat) y.s.log.length (y.s.log.length + y_3)),
                                            ((47 : Nat), AV.ptr (1 : Nat) (0 : Nat)), ((9 : Nat), AV.sl true (4 : Nat) (0 : Nat) (1 : Nat) (4 : Nat) (4 : Nat)),
                                            ((46 : Nat), AV.sl true (4 : Nat) (0 : Nat) (1 : Nat) (4 : Nat) (4 : Nat)),
                                            ((8 : Nat), AV.sl true (3 : Nat) (0 : Nat) (1 : Nat) (4 : Nat) (4 : Nat)),
                                            ((45 : Nat), AV.sl true (3 : Nat) (0 : Nat) (1 : Nat) (4 : Nat) (4 : Nat)),
                                            ((0 : Nat), AV.sl false (0 : Nat) (0 : Nat) (5 : Nat) y_1.xs.length y_1.c), ((3 : Nat), AV.tt),
                                            ((4 : Nat), AV.ptr (1 : Nat) (0 : Nat)), ((5 : Nat), AV.ptr (2 : Nat) (0 : Nat)),
                                            ((6 : Nat), AV.int IntKind.i64 (↑y.i : Int))],
                                        heap :=
                                          [((10 : Nat), Blk.arr (45 : Nat) Kd.deed y.s.log y_3),
                                            ((4 : Nat), Blk.arr (3 : Nat) Kd.int (List.replicate (4 : Nat) (V.enc Kd.int).dflt) (0 : Nat)),
                                            ((3 : Nat), Blk.arr (3 : Nat) Kd.int (List.replicate (4 : Nat) (V.enc Kd.int).dflt) (0 : Nat)),
                                            ((1 : Nat), Blk.obj (oC y.s)), ((0 : Nat), Blk.ro Kd.five y_1.xs),
                                            ((2 : Nat),
                                              Blk.cells (43 : Nat)
                                                [AV.sl false (6 : Nat) (0 : Nat) (1 : Nat) y.r.w.length (y.r.w.length + y_2.fst),
                                                  AV.sl false (7 : Nat) (0 : Nat) (1 : Nat) y.r.h.length (y.r.h.length + y_2.snd.fst),
                                                  AV.sl false (8 : Nat) (0 : Nat) (1 : Nat) y.r.t.length (y.r.t.length + y_2.snd.snd.fst),
                                                  AV.sl false (9 : Nat) (0 : Nat) (5 : Nat) y.r.l.length (y.r.l.length + y_2.snd.snd.snd)]),
                                            ((6 : Nat), Blk.arr (3 : Nat) Kd.int y.r.w y_2.fst), ((7 : Nat), Blk.arr (4 : Nat) Kd.bool y.r.h y_2.snd.fst),
                                            ((8 : Nat), Blk.arr (3 : Nat) Kd.int y.r.t y_2.snd.snd.fst),
                                            ((9 : Nat), Blk.arr (45 : Nat) Kd.deed y.r.l y_2.snd.snd.snd)],
                                        nx := (11 : Nat), nt := (180 : Nat),
                                        tl := [(2 : Nat), (1 : Nat), (1 : Nat), (2 : Nat), (3 : Nat), (4 : Nat), (5 : Nat), (6 : Nat), (7 : Nat)] : St V }
                                      (fun p => I62 p ((0 : Nat), [(0 : Int), (0 : Int), (0 : Int), (0 : Int)], [(0 : Int), (0 : Int), (0 : Int), (0 : Int)]))
                                      y_4)
                                  (Out.all P62 fun y =>
                                    Out.asm (y_4 y)
                                      (Out.all (Nat × List Int × List Int) fun y_5 =>
                                        Out.asm ((fun p x => x.snd = logPlay p.s.log) y y_5)
                                          (Out.need y.s.room
                                            (Out.need ((0 : Int) ≤ (0 : Int) ∧ (0 : Int) < (4 : Int))
                                              (Out.need ((0 : Nat) < y_5.snd.fst.length)
                                                (Out.ite ((y.s.load (0 : Int) (0 : Int)).fst != y_5.snd.fst.getD (0 : Nat) (V.enc Kd.int).dflt)
                                                  (Out.fin AV.ff [] (0 : Nat))
                                                  (Out.need ((0 : Int) ≤ (0 : Int) ∧ (0 : Int) < (↑y.r.h.length : Int))
                                                    (Out.need ((0 : Nat) < y.r.h.length)
                                                      (Out.need ((0 : Int) ≤ (0 : Int) ∧ (0 : Int) < (4 : Int))
                                                        (Out.need ((0 : Nat) < y_5.snd.snd.length)
                                                          (Out.ite
                                                            (!y.r.h.getD (0 : Nat) (V.enc Kd.bool).dflt ==
                                                                (y_5.snd.snd.getD (0 : Nat) (V.enc Kd.int).dflt == (1 : Int)))
                                                            (Out.fin AV.ff [] (0 : Nat))
                                                            (Out.need (y.s.load (0 : Int) (0 : Int)).snd.snd.room
                                                              (Out.need ((0 : Int) ≤ (1 : Int) ∧ (1 : Int) < (4 : Int))
                                                                (Out.need ((1 : Nat) < y_5.snd.fst.length)
                                                                  (Out.ite
                                                                    (((y.s.load (0 : Int) (0 : Int)).snd.snd.load (0 : Int) (1 : Int)).fst !=
                                                                      y_5.snd.fst.getD (1 : Nat) (V.enc Kd.int).dflt)
                                                                    (Out.fin AV.ff [] (0 : Nat))
                                                                    (Out.need ((0 : Int) ≤ (1 : Int) ∧ (1 : Int) < (↑y.r.h.length : Int))
                                                                      (Out.need ((1 : Nat) < y.r.h.length)
                                                                        (Out.need ((0 : Int) ≤ (1 : Int) ∧ (1 : Int) < (4 : Int))
                                                                          (Out.need ((1 : Nat) < y_5.snd.snd.length)
                                                                            (Out.ite
                                                                              (!y.r.h.getD (1 : Nat) (V.enc Kd.bool).dflt ==
                                                                                  (y_5.snd.snd.getD (1 : Nat) (V.enc Kd.int).dflt == (1 : Int)))
                                                                              (Out.fin AV.ff [] (0 : Nat))
                                                                              (Out.need
                                                                                ((y.s.load (0 : Int) (0 : Int)).snd.snd.load (0 : Int) (1 : Int)).snd.snd.room
                                                                                (Out.need ((0 : Int) ≤ (2 : Int) ∧ (2 : Int) < (4 : Int))
                                                                                  (Out.need ((2 : Nat) < y_5.snd.fst.length)
                                                                                    (Out.ite
                                                                                      ((((y.s.load (0 : Int) (0 : Int)).snd.snd.load (0 : Int)
                                                                                                    (1 : Int)).snd.snd.load
                                                                                            (0 : Int) (2 : Int)).fst !=
                                                                                        y_5.snd.fst.getD (2 : Nat) (V.enc Kd.int).dflt)
                                                                                      (Out.fin AV.ff [] (0 : Nat))
                                                                                      (Out.need ((0 : Int) ≤ (2 : Int) ∧ (2 : Int) < (↑y.r.h.length : Int))
                                                                                        (Out.need ((2 : Nat) < y.r.h.length)
                                                                                          (Out.need ((0 : Int) ≤ (2 : Int) ∧ (2 : Int) < (4 : Int))
                                                                                            (Out.need ((2 : Nat) < y_5.snd.snd.length)
                                                                                              (Out.ite
                                                                                                (!y.r.h.getD (2 : Nat) (V.enc Kd.bool).dflt ==
                                                                                                    (y_5.snd.snd.getD (2 : Nat) (V.enc Kd.int).dflt == (1 : Int)))
                                                                                                (Out.fin AV.ff [] (0 : Nat))
                                                                                                (Out.need
                                                                                                  (((y.s.load (0 : Int) (0 : Int)).snd.snd.load (0 : Int)
                                                                                                                  (1 : Int)).snd.snd.load
                                                                                                          (0 : Int) (2 : Int)).snd.snd.room
                                                                                                  (Out.need ((0 : Int) ≤ (3 : Int) ∧ (3 : Int) < (4 : Int))
                                                                                                    (Out.need ((3 : Nat) < y_5.snd.fst.length)
                                                                                                      (Out.ite
                                                                                                        (((((y.s.load (0 : Int) (0 : Int)).snd.snd.load (0 : Int)
                                                                                                                              (1 : Int)).snd.snd.load
                                                                                                                      (0 : Int) (2 : Int)).snd.snd.load
                                                                                                              (0 : Int) (3 : Int)).fst !=
                                                                                                          y_5.snd.fst.getD (3 : Nat) (V.enc Kd.int).dflt)
                                                                                                        (Out.fin AV.ff [] (0 : Nat))
                                                                                                        (Out.need
                                                                                                          ((0 : Int) ≤ (3 : Int) ∧
                                                                                                            (3 : Int) < (↑y.r.h.length : Int))
                                                                                                          (Out.need ((3 : Nat) < y.r.h.length)
                                                                                                            (Out.need
                                                                                                              ((0 : Int) ≤ (3 : Int) ∧ (3 : Int) < (4 : Int))
                                                                                                              (Out.need ((3 : Nat) < y_5.snd.snd.length)
                                                                                                                (Out.ite
                                                                                                                  (!y.r.h.getD (3 : Nat) (V.enc Kd.bool).dflt ==
                                                                                                                      (y_5.snd.snd.getD (3 : Nat)
                                                                                                                          (V.enc Kd.int).dflt ==
                                                                                                                        (1 : Int)))
                                                                                                                  (Out.fin AV.ff [] (0 : Nat))
                                                                                                                  (Out.fin AV.tt []
                                                                                                                    (0 :
                                                                                                                      Nat))))))))))))))))))))))))))))))))))))))))))))))))) := by kernel_rfl

end Sx
end Go.Proofs.Ytjackepkphdibaa
