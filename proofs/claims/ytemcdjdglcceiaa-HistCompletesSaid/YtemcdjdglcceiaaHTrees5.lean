/-
  The small case: the runs of the machine.
-/
import Derived.Test.YtemcdjdglcceiaaHComp
namespace Go.Proofs.Ytemcdjdglcceiaa
namespace Sx
open Go
set_option maxRecDepth 100000
set_option linter.unusedVariables false

def hooksH : Nat → Option (HookS V) := fun g => match g with
  | 25 => some (hookFree [.rows Kd.rcd] runLeft)
  | 23 => some (hookFree [.rows Kd.rcd] runCommits)
  | 12 => some (hookFree [.rows Kd.rcd] runComplete)
  | g => hooksF g
noncomputable def fnsH : Nat → Option Func := fun g => match g with | 41 => some Try.f41 | _ => none
noncomputable def cfgH : Cfg Try.prog V := ⟨tab, kinds, fnsH, hooksH, fun _ _ => none⟩
def runSmall : RunFree V := fun ar K => match ar with
  | [] => K .tt []
  | _ => .bad 500
def hooksI : Nat → Option (HookS V) := fun g => match g with
  | 11 => some (hookFree [] runSmall)
  | g => hooksH g
noncomputable def cfgI : Cfg Try.prog V := ⟨tab, kinds, fun _ => none, hooksI, fun _ _ => none⟩
theorem t11  : runF cfgH 60 11 Try.f11 [] [] 0 =
  Out.need ((4 : Nat) ≤ (1099511627776 : Nat))
    (Out.all Nat fun y =>
      Out.need ((4 : Nat) ≤ (1099511627776 : Nat))
        (Out.ite
          (hRight
            [{ thread := (0 : Int), op := (0 : Int), what := (1 : Int), act := (2 : Int), key := (7 : Int), value := (1 : Int), hit := false, err := (0 : Int) :
                Rec },
              { thread := (0 : Int), op := (0 : Int), what := (2 : Int), act := (2 : Int), key := (7 : Int), value := (1 : Int), hit := false, err := (0 : Int) :
                Rec },
              { thread := (0 : Int), op := (0 : Int), what := (3 : Int), act := (2 : Int), key := (7 : Int), value := (1 : Int), hit := false, err := (0 : Int) :
                Rec },
              { thread := (0 : Int), op := (1 : Int), what := (1 : Int), act := (2 : Int), key := (7 : Int), value := (1 : Int), hit := false, err := (0 : Int) :
                Rec }])
          (Out.need ((2 : Nat) ≤ (2 : Nat))
            (Out.need ((2 : Nat) ≤ (1099511627776 : Nat))
              (Out.ite
                (decide
                  (List.take (2 : Nat)
                      (List.drop (0 : Nat)
                        (hCallsOf
                          [{ thread := (0 : Int), op := (0 : Int), what := (1 : Int), act := (2 : Int), key := (7 : Int), value := (1 : Int), hit := false,
                              err := (0 : Int) : Rec },
                            { thread := (0 : Int), op := (0 : Int), what := (2 : Int), act := (2 : Int), key := (7 : Int), value := (1 : Int), hit := false,
                              err := (0 : Int) : Rec },
                            { thread := (0 : Int), op := (0 : Int), what := (3 : Int), act := (2 : Int), key := (7 : Int), value := (1 : Int), hit := false,
                              err := (0 : Int) : Rec },
                            { thread := (0 : Int), op := (1 : Int), what := (1 : Int), act := (2 : Int), key := (7 : Int), value := (1 : Int), hit := false,
                              err := (0 : Int) : Rec }])) =
                    [{ thread := (0 : Int), op := (0 : Int), frm := (0 : Int), at_ := (1 : Int), to_ := (2 : Int) : Cal },
                      { thread := (0 : Int), op := (1 : Int), frm := (3 : Int), at_ := (-1 : Int), to_ := (-1 : Int) : Cal }]))
                (Out.need ((4 : Nat) ≤ (1099511627776 : Nat))
                  (Out.ite ((1 : Int) == (1 : Int))
                    (Out.need ((4 : Nat) ≤ (1099511627776 : Nat))
                      (Out.all Nat fun y_1 =>
                        Out.ite ((3 : Int) == (3 : Int))
                          (Out.need ((4 : Nat) ≤ (1099511627776 : Nat))
                            (Out.all Nat fun y_2 =>
                              Out.ite ((1 : Int) == (1 : Int))
                                (Out.ite ((2 : Int) == (2 : Int))
                                  (Out.need ((0 : Int) ≤ (0 : Int) ∧ (0 : Int) < (2 : Int))
                                    (Out.need ((0 : Nat) < (2 : Nat))
                                      (Out.need ((0 : Int) ≤ (1 : Int) ∧ (1 : Int) < (2 : Int))
                                        (Out.need ((1 : Nat) < (2 : Nat))
                                          (Out.ite
                                            (hBefore { thread := (0 : Int), op := (0 : Int), frm := (0 : Int), at_ := (1 : Int), to_ := (2 : Int) : Cal }
                                              { thread := (0 : Int), op := (1 : Int), frm := (3 : Int), at_ := (-1 : Int), to_ := (-1 : Int) : Cal })
                                            (Out.need ((0 : Int) ≤ (1 : Int) ∧ (1 : Int) ≤ (4 : Int))
                                              (Out.need ((3 : Nat) ≤ (1099511627776 : Nat))
                                                (Out.fin
                                                  (AV.bool
                                                    !hRight
                                                        [{ thread := (0 : Int), op := (0 : Int), what := (2 : Int), act := (2 : Int), key := (7 : Int),
                                                            value := (1 : Int), hit := false, err := (0 : Int) : Rec },
                                                          { thread := (0 : Int), op := (0 : Int), what := (3 : Int), act := (2 : Int), key := (7 : Int),
                                                            value := (1 : Int), hit := false, err := (0 : Int) : Rec },
                                                          { thread := (0 : Int), op := (1 : Int), what := (1 : Int), act := (2 : Int), key := (7 : Int),
                                                            value := (1 : Int), hit := false, err := (0 : Int) : Rec }])
                                                  [((6 : Nat),
                                                      Blk.arr (27 : Nat) Kd.com
                                                        (hCommits
                                                          [{ thread := (0 : Int), op := (0 : Int), what := (1 : Int), act := (2 : Int), key := (7 : Int),
                                                              value := (1 : Int), hit := false, err := (0 : Int) : Rec },
                                                            { thread := (0 : Int), op := (0 : Int), what := (2 : Int), act := (2 : Int), key := (7 : Int),
                                                              value := (1 : Int), hit := false, err := (0 : Int) : Rec },
                                                            { thread := (0 : Int), op := (0 : Int), what := (3 : Int), act := (2 : Int), key := (7 : Int),
                                                              value := (1 : Int), hit := false, err := (0 : Int) : Rec },
                                                            { thread := (0 : Int), op := (1 : Int), what := (1 : Int), act := (2 : Int), key := (7 : Int),
                                                              value := (1 : Int), hit := false, err := (0 : Int) : Rec }])
                                                        y_2),
                                                    ((5 : Nat),
                                                      Blk.arr (30 : Nat) Kd.rcd
                                                        (hComplete
                                                          [{ thread := (0 : Int), op := (0 : Int), what := (1 : Int), act := (2 : Int), key := (7 : Int),
                                                              value := (1 : Int), hit := false, err := (0 : Int) : Rec },
                                                            { thread := (0 : Int), op := (0 : Int), what := (2 : Int), act := (2 : Int), key := (7 : Int),
                                                              value := (1 : Int), hit := false, err := (0 : Int) : Rec },
                                                            { thread := (0 : Int), op := (0 : Int), what := (3 : Int), act := (2 : Int), key := (7 : Int),
                                                              value := (1 : Int), hit := false, err := (0 : Int) : Rec },
                                                            { thread := (0 : Int), op := (1 : Int), what := (1 : Int), act := (2 : Int), key := (7 : Int),
                                                              value := (1 : Int), hit := false, err := (0 : Int) : Rec }])
                                                        y_1),
                                                    ((4 : Nat),
                                                      Blk.cells (35 : Nat)
                                                        [AV.lit IntKind.i64 (0 : Int), AV.lit IntKind.i64 (0 : Int), AV.lit IntKind.i64 (0 : Int),
                                                          AV.lit IntKind.i64 (1 : Int), AV.lit IntKind.i64 (2 : Int), AV.lit IntKind.i64 (0 : Int),
                                                          AV.lit IntKind.i64 (1 : Int), AV.lit IntKind.i64 (3 : Int), AV.lit IntKind.i64 (-1 : Int),
                                                          AV.lit IntKind.i64 (-1 : Int)]),
                                                    ((3 : Nat),
                                                      Blk.arr (35 : Nat) Kd.cal
                                                        (hCallsOf
                                                          [{ thread := (0 : Int), op := (0 : Int), what := (1 : Int), act := (2 : Int), key := (7 : Int),
                                                              value := (1 : Int), hit := false, err := (0 : Int) : Rec },
                                                            { thread := (0 : Int), op := (0 : Int), what := (2 : Int), act := (2 : Int), key := (7 : Int),
                                                              value := (1 : Int), hit := false, err := (0 : Int) : Rec },
                                                            { thread := (0 : Int), op := (0 : Int), what := (3 : Int), act := (2 : Int), key := (7 : Int),
                                                              value := (1 : Int), hit := false, err := (0 : Int) : Rec },
                                                            { thread := (0 : Int), op := (1 : Int), what := (1 : Int), act := (2 : Int), key := (7 : Int),
                                                              value := (1 : Int), hit := false, err := (0 : Int) : Rec }])
                                                        y),
                                                    ((2 : Nat),
                                                      Blk.cells (30 : Nat)
                                                        [AV.lit IntKind.i64 (0 : Int), AV.lit IntKind.i64 (0 : Int), AV.lit IntKind.i64 (1 : Int),
                                                          AV.lit IntKind.i64 (2 : Int), AV.lit IntKind.i64 (7 : Int), AV.lit IntKind.i64 (1 : Int), AV.ff,
                                                          AV.lit IntKind.i64 (0 : Int), AV.lit IntKind.i64 (0 : Int), AV.lit IntKind.i64 (0 : Int),
                                                          AV.lit IntKind.i64 (2 : Int), AV.lit IntKind.i64 (2 : Int), AV.lit IntKind.i64 (7 : Int),
                                                          AV.lit IntKind.i64 (1 : Int), AV.ff, AV.lit IntKind.i64 (0 : Int), AV.lit IntKind.i64 (0 : Int),
                                                          AV.lit IntKind.i64 (0 : Int), AV.lit IntKind.i64 (3 : Int), AV.lit IntKind.i64 (2 : Int),
                                                          AV.lit IntKind.i64 (7 : Int), AV.lit IntKind.i64 (1 : Int), AV.ff, AV.lit IntKind.i64 (0 : Int),
                                                          AV.lit IntKind.i64 (0 : Int), AV.lit IntKind.i64 (1 : Int), AV.lit IntKind.i64 (1 : Int),
                                                          AV.lit IntKind.i64 (2 : Int), AV.lit IntKind.i64 (7 : Int), AV.lit IntKind.i64 (1 : Int), AV.ff,
                                                          AV.lit IntKind.i64 (0 : Int)]),
                                                    ((0 : Nat),
                                                      Blk.cells (27 : Nat)
                                                        [AV.lit IntKind.i64 (2 : Int), AV.lit IntKind.i64 (7 : Int), AV.lit IntKind.i64 (1 : Int), AV.ff])]
                                                  (7 : Nat))))
                                            (Out.fin AV.ff
                                              [((6 : Nat),
                                                  Blk.arr (27 : Nat) Kd.com
                                                    (hCommits
                                                      [{ thread := (0 : Int), op := (0 : Int), what := (1 : Int), act := (2 : Int), key := (7 : Int),
                                                          value := (1 : Int), hit := false, err := (0 : Int) : Rec },
                                                        { thread := (0 : Int), op := (0 : Int), what := (2 : Int), act := (2 : Int), key := (7 : Int),
                                                          value := (1 : Int), hit := false, err := (0 : Int) : Rec },
                                                        { thread := (0 : Int), op := (0 : Int), what := (3 : Int), act := (2 : Int), key := (7 : Int),
                                                          value := (1 : Int), hit := false, err := (0 : Int) : Rec },
                                                        { thread := (0 : Int), op := (1 : Int), what := (1 : Int), act := (2 : Int), key := (7 : Int),
                                                          value := (1 : Int), hit := false, err := (0 : Int) : Rec }])
                                                    y_2),
                                                ((5 : Nat),
                                                  Blk.arr (30 : Nat) Kd.rcd
                                                    (hComplete
                                                      [{ thread := (0 : Int), op := (0 : Int), what := (1 : Int), act := (2 : Int), key := (7 : Int),
                                                          value := (1 : Int), hit := false, err := (0 : Int) : Rec },
                                                        { thread := (0 : Int), op := (0 : Int), what := (2 : Int), act := (2 : Int), key := (7 : Int),
                                                          value := (1 : Int), hit := false, err := (0 : Int) : Rec },
                                                        { thread := (0 : Int), op := (0 : Int), what := (3 : Int), act := (2 : Int), key := (7 : Int),
                                                          value := (1 : Int), hit := false, err := (0 : Int) : Rec },
                                                        { thread := (0 : Int), op := (1 : Int), what := (1 : Int), act := (2 : Int), key := (7 : Int),
                                                          value := (1 : Int), hit := false, err := (0 : Int) : Rec }])
                                                    y_1),
                                                ((4 : Nat),
                                                  Blk.cells (35 : Nat)
                                                    [AV.lit IntKind.i64 (0 : Int), AV.lit IntKind.i64 (0 : Int), AV.lit IntKind.i64 (0 : Int),
                                                      AV.lit IntKind.i64 (1 : Int), AV.lit IntKind.i64 (2 : Int), AV.lit IntKind.i64 (0 : Int),
                                                      AV.lit IntKind.i64 (1 : Int), AV.lit IntKind.i64 (3 : Int), AV.lit IntKind.i64 (-1 : Int),
                                                      AV.lit IntKind.i64 (-1 : Int)]),
                                                ((3 : Nat),
                                                  Blk.arr (35 : Nat) Kd.cal
                                                    (hCallsOf
                                                      [{ thread := (0 : Int), op := (0 : Int), what := (1 : Int), act := (2 : Int), key := (7 : Int),
                                                          value := (1 : Int), hit := false, err := (0 : Int) : Rec },
                                                        { thread := (0 : Int), op := (0 : Int), what := (2 : Int), act := (2 : Int), key := (7 : Int),
                                                          value := (1 : Int), hit := false, err := (0 : Int) : Rec },
                                                        { thread := (0 : Int), op := (0 : Int), what := (3 : Int), act := (2 : Int), key := (7 : Int),
                                                          value := (1 : Int), hit := false, err := (0 : Int) : Rec },
                                                        { thread := (0 : Int), op := (1 : Int), what := (1 : Int), act := (2 : Int), key := (7 : Int),
                                                          value := (1 : Int), hit := false, err := (0 : Int) : Rec }])
                                                    y),
                                                ((2 : Nat),
                                                  Blk.cells (30 : Nat)
                                                    [AV.lit IntKind.i64 (0 : Int), AV.lit IntKind.i64 (0 : Int), AV.lit IntKind.i64 (1 : Int),
                                                      AV.lit IntKind.i64 (2 : Int), AV.lit IntKind.i64 (7 : Int), AV.lit IntKind.i64 (1 : Int), AV.ff,
                                                      AV.lit IntKind.i64 (0 : Int), AV.lit IntKind.i64 (0 : Int), AV.lit IntKind.i64 (0 : Int),
                                                      AV.lit IntKind.i64 (2 : Int), AV.lit IntKind.i64 (2 : Int), AV.lit IntKind.i64 (7 : Int),
                                                      AV.lit IntKind.i64 (1 : Int), AV.ff, AV.lit IntKind.i64 (0 : Int), AV.lit IntKind.i64 (0 : Int),
                                                      AV.lit IntKind.i64 (0 : Int), AV.lit IntKind.i64 (3 : Int), AV.lit IntKind.i64 (2 : Int),
                                                      AV.lit IntKind.i64 (7 : Int), AV.lit IntKind.i64 (1 : Int), AV.ff, AV.lit IntKind.i64 (0 : Int),
                                                      AV.lit IntKind.i64 (0 : Int), AV.lit IntKind.i64 (1 : Int), AV.lit IntKind.i64 (1 : Int),
                                                      AV.lit IntKind.i64 (2 : Int), AV.lit IntKind.i64 (7 : Int), AV.lit IntKind.i64 (1 : Int), AV.ff,
                                                      AV.lit IntKind.i64 (0 : Int)]),
                                                ((0 : Nat),
                                                  Blk.cells (27 : Nat)
                                                    [AV.lit IntKind.i64 (2 : Int), AV.lit IntKind.i64 (7 : Int), AV.lit IntKind.i64 (1 : Int), AV.ff])]
                                              (7 : Nat)))))))
                                  (Out.fin AV.ff
                                    [((6 : Nat),
                                        Blk.arr (27 : Nat) Kd.com
                                          (hCommits
                                            [{ thread := (0 : Int), op := (0 : Int), what := (1 : Int), act := (2 : Int), key := (7 : Int), value := (1 : Int),
                                                hit := false, err := (0 : Int) : Rec },
                                              { thread := (0 : Int), op := (0 : Int), what := (2 : Int), act := (2 : Int), key := (7 : Int), value := (1 : Int),
                                                hit := false, err := (0 : Int) : Rec },
                                              { thread := (0 : Int), op := (0 : Int), what := (3 : Int), act := (2 : Int), key := (7 : Int), value := (1 : Int),
                                                hit := false, err := (0 : Int) : Rec },
                                              { thread := (0 : Int), op := (1 : Int), what := (1 : Int), act := (2 : Int), key := (7 : Int), value := (1 : Int),
                                                hit := false, err := (0 : Int) : Rec }])
                                          y_2),
                                      ((5 : Nat),
                                        Blk.arr (30 : Nat) Kd.rcd
                                          (hComplete
                                            [{ thread := (0 : Int), op := (0 : Int), what := (1 : Int), act := (2 : Int), key := (7 : Int), value := (1 : Int),
                                                hit := false, err := (0 : Int) : Rec },
                                              { thread := (0 : Int), op := (0 : Int), what := (2 : Int), act := (2 : Int), key := (7 : Int), value := (1 : Int),
                                                hit := false, err := (0 : Int) : Rec },
                                              { thread := (0 : Int), op := (0 : Int), what := (3 : Int), act := (2 : Int), key := (7 : Int), value := (1 : Int),
                                                hit := false, err := (0 : Int) : Rec },
                                              { thread := (0 : Int), op := (1 : Int), what := (1 : Int), act := (2 : Int), key := (7 : Int), value := (1 : Int),
                                                hit := false, err := (0 : Int) : Rec }])
                                          y_1),
                                      ((4 : Nat),
                                        Blk.cells (35 : Nat)
                                          [AV.lit IntKind.i64 (0 : Int), AV.lit IntKind.i64 (0 : Int), AV.lit IntKind.i64 (0 : Int), AV.lit IntKind.i64 (1 : Int),
                                            AV.lit IntKind.i64 (2 : Int), AV.lit IntKind.i64 (0 : Int), AV.lit IntKind.i64 (1 : Int),
                                            AV.lit IntKind.i64 (3 : Int), AV.lit IntKind.i64 (-1 : Int), AV.lit IntKind.i64 (-1 : Int)]),
                                      ((3 : Nat),
                                        Blk.arr (35 : Nat) Kd.cal
                                          (hCallsOf
                                            [{ thread := (0 : Int), op := (0 : Int), what := (1 : Int), act := (2 : Int), key := (7 : Int), value := (1 : Int),
                                                hit := false, err := (0 : Int) : Rec },
                                              { thread := (0 : Int), op := (0 : Int), what := (2 : Int), act := (2 : Int), key := (7 : Int), value := (1 : Int),
                                                hit := false, err := (0 : Int) : Rec },
                                              { thread := (0 : Int), op := (0 : Int), what := (3 : Int), act := (2 : Int), key := (7 : Int), value := (1 : Int),
                                                hit := false, err := (0 : Int) : Rec },
                                              { thread := (0 : Int), op := (1 : Int), what := (1 : Int), act := (2 : Int), key := (7 : Int), value := (1 : Int),
                                                hit := false, err := (0 : Int) : Rec }])
                                          y),
                                      ((2 : Nat),
                                        Blk.cells (30 : Nat)
                                          [AV.lit IntKind.i64 (0 : Int), AV.lit IntKind.i64 (0 : Int), AV.lit IntKind.i64 (1 : Int), AV.lit IntKind.i64 (2 : Int),
                                            AV.lit IntKind.i64 (7 : Int), AV.lit IntKind.i64 (1 : Int), AV.ff, AV.lit IntKind.i64 (0 : Int),
                                            AV.lit IntKind.i64 (0 : Int), AV.lit IntKind.i64 (0 : Int), AV.lit IntKind.i64 (2 : Int),
                                            AV.lit IntKind.i64 (2 : Int), AV.lit IntKind.i64 (7 : Int), AV.lit IntKind.i64 (1 : Int), AV.ff,
                                            AV.lit IntKind.i64 (0 : Int), AV.lit IntKind.i64 (0 : Int), AV.lit IntKind.i64 (0 : Int),
                                            AV.lit IntKind.i64 (3 : Int), AV.lit IntKind.i64 (2 : Int), AV.lit IntKind.i64 (7 : Int),
                                            AV.lit IntKind.i64 (1 : Int), AV.ff, AV.lit IntKind.i64 (0 : Int), AV.lit IntKind.i64 (0 : Int),
                                            AV.lit IntKind.i64 (1 : Int), AV.lit IntKind.i64 (1 : Int), AV.lit IntKind.i64 (2 : Int),
                                            AV.lit IntKind.i64 (7 : Int), AV.lit IntKind.i64 (1 : Int), AV.ff, AV.lit IntKind.i64 (0 : Int)]),
                                      ((0 : Nat),
                                        Blk.cells (27 : Nat) [AV.lit IntKind.i64 (2 : Int), AV.lit IntKind.i64 (7 : Int), AV.lit IntKind.i64 (1 : Int), AV.ff])]
                                    (7 : Nat)))
                                (Out.fin AV.ff
                                  [((6 : Nat),
                                      Blk.arr (27 : Nat) Kd.com
                                        (hCommits
                                          [{ thread := (0 : Int), op := (0 : Int), what := (1 : Int), act := (2 : Int), key := (7 : Int), value := (1 : Int),
                                              hit := false, err := (0 : Int) : Rec },
                                            { thread := (0 : Int), op := (0 : Int), what := (2 : Int), act := (2 : Int), key := (7 : Int), value := (1 : Int),
                                              hit := false, err := (0 : Int) : Rec },
                                            { thread := (0 : Int), op := (0 : Int), what := (3 : Int), act := (2 : Int), key := (7 : Int), value := (1 : Int),
                                              hit := false, err := (0 : Int) : Rec },
                                            { thread := (0 : Int), op := (1 : Int), what := (1 : Int), act := (2 : Int), key := (7 : Int), value := (1 : Int),
                                              hit := false, err := (0 : Int) : Rec }])
                                        y_2),
                                    ((5 : Nat),
                                      Blk.arr (30 : Nat) Kd.rcd
                                        (hComplete
                                          [{ thread := (0 : Int), op := (0 : Int), what := (1 : Int), act := (2 : Int), key := (7 : Int), value := (1 : Int),
                                              hit := false, err := (0 : Int) : Rec },
                                            { thread := (0 : Int), op := (0 : Int), what := (2 : Int), act := (2 : Int), key := (7 : Int), value := (1 : Int),
                                              hit := false, err := (0 : Int) : Rec },
                                            { thread := (0 : Int), op := (0 : Int), what := (3 : Int), act := (2 : Int), key := (7 : Int), value := (1 : Int),
                                              hit := false, err := (0 : Int) : Rec },
                                            { thread := (0 : Int), op := (1 : Int), what := (1 : Int), act := (2 : Int), key := (7 : Int), value := (1 : Int),
                                              hit := false, err := (0 : Int) : Rec }])
                                        y_1),
                                    ((4 : Nat),
                                      Blk.cells (35 : Nat)
                                        [AV.lit IntKind.i64 (0 : Int), AV.lit IntKind.i64 (0 : Int), AV.lit IntKind.i64 (0 : Int), AV.lit IntKind.i64 (1 : Int),
                                          AV.lit IntKind.i64 (2 : Int), AV.lit IntKind.i64 (0 : Int), AV.lit IntKind.i64 (1 : Int), AV.lit IntKind.i64 (3 : Int),
                                          AV.lit IntKind.i64 (-1 : Int), AV.lit IntKind.i64 (-1 : Int)]),
                                    ((3 : Nat),
                                      Blk.arr (35 : Nat) Kd.cal
                                        (hCallsOf
                                          [{ thread := (0 : Int), op := (0 : Int), what := (1 : Int), act := (2 : Int), key := (7 : Int), value := (1 : Int),
                                              hit := false, err := (0 : Int) : Rec },
                                            { thread := (0 : Int), op := (0 : Int), what := (2 : Int), act := (2 : Int), key := (7 : Int), value := (1 : Int),
                                              hit := false, err := (0 : Int) : Rec },
                                            { thread := (0 : Int), op := (0 : Int), what := (3 : Int), act := (2 : Int), key := (7 : Int), value := (1 : Int),
                                              hit := false, err := (0 : Int) : Rec },
                                            { thread := (0 : Int), op := (1 : Int), what := (1 : Int), act := (2 : Int), key := (7 : Int), value := (1 : Int),
                                              hit := false, err := (0 : Int) : Rec }])
                                        y),
                                    ((2 : Nat),
                                      Blk.cells (30 : Nat)
                                        [AV.lit IntKind.i64 (0 : Int), AV.lit IntKind.i64 (0 : Int), AV.lit IntKind.i64 (1 : Int), AV.lit IntKind.i64 (2 : Int),
                                          AV.lit IntKind.i64 (7 : Int), AV.lit IntKind.i64 (1 : Int), AV.ff, AV.lit IntKind.i64 (0 : Int),
                                          AV.lit IntKind.i64 (0 : Int), AV.lit IntKind.i64 (0 : Int), AV.lit IntKind.i64 (2 : Int), AV.lit IntKind.i64 (2 : Int),
                                          AV.lit IntKind.i64 (7 : Int), AV.lit IntKind.i64 (1 : Int), AV.ff, AV.lit IntKind.i64 (0 : Int),
                                          AV.lit IntKind.i64 (0 : Int), AV.lit IntKind.i64 (0 : Int), AV.lit IntKind.i64 (3 : Int), AV.lit IntKind.i64 (2 : Int),
                                          AV.lit IntKind.i64 (7 : Int), AV.lit IntKind.i64 (1 : Int), AV.ff, AV.lit IntKind.i64 (0 : Int),
                                          AV.lit IntKind.i64 (0 : Int), AV.lit IntKind.i64 (1 : Int), AV.lit IntKind.i64 (1 : Int), AV.lit IntKind.i64 (2 : Int),
                                          AV.lit IntKind.i64 (7 : Int), AV.lit IntKind.i64 (1 : Int), AV.ff, AV.lit IntKind.i64 (0 : Int)]),
                                    ((0 : Nat),
                                      Blk.cells (27 : Nat) [AV.lit IntKind.i64 (2 : Int), AV.lit IntKind.i64 (7 : Int), AV.lit IntKind.i64 (1 : Int), AV.ff])]
                                  (7 : Nat))))
                          (Out.fin AV.ff
                            [((5 : Nat),
                                Blk.arr (30 : Nat) Kd.rcd
                                  (hComplete
                                    [{ thread := (0 : Int), op := (0 : Int), what := (1 : Int), act := (2 : Int), key := (7 : Int), value := (1 : Int),
                                        hit := false, err := (0 : Int) : Rec },
                                      { thread := (0 : Int), op := (0 : Int), what := (2 : Int), act := (2 : Int), key := (7 : Int), value := (1 : Int),
                                        hit := false, err := (0 : Int) : Rec },
                                      { thread := (0 : Int), op := (0 : Int), what := (3 : Int), act := (2 : Int), key := (7 : Int), value := (1 : Int),
                                        hit := false, err := (0 : Int) : Rec },
                                      { thread := (0 : Int), op := (1 : Int), what := (1 : Int), act := (2 : Int), key := (7 : Int), value := (1 : Int),
                                        hit := false, err := (0 : Int) : Rec }])
                                  y_1),
                              ((4 : Nat),
                                Blk.cells (35 : Nat)
                                  [AV.lit IntKind.i64 (0 : Int), AV.lit IntKind.i64 (0 : Int), AV.lit IntKind.i64 (0 : Int), AV.lit IntKind.i64 (1 : Int),
                                    AV.lit IntKind.i64 (2 : Int), AV.lit IntKind.i64 (0 : Int), AV.lit IntKind.i64 (1 : Int), AV.lit IntKind.i64 (3 : Int),
                                    AV.lit IntKind.i64 (-1 : Int), AV.lit IntKind.i64 (-1 : Int)]),
                              ((3 : Nat),
                                Blk.arr (35 : Nat) Kd.cal
                                  (hCallsOf
                                    [{ thread := (0 : Int), op := (0 : Int), what := (1 : Int), act := (2 : Int), key := (7 : Int), value := (1 : Int),
                                        hit := false, err := (0 : Int) : Rec },
                                      { thread := (0 : Int), op := (0 : Int), what := (2 : Int), act := (2 : Int), key := (7 : Int), value := (1 : Int),
                                        hit := false, err := (0 : Int) : Rec },
                                      { thread := (0 : Int), op := (0 : Int), what := (3 : Int), act := (2 : Int), key := (7 : Int), value := (1 : Int),
                                        hit := false, err := (0 : Int) : Rec },
                                      { thread := (0 : Int), op := (1 : Int), what := (1 : Int), act := (2 : Int), key := (7 : Int), value := (1 : Int),
                                        hit := false, err := (0 : Int) : Rec }])
                                  y),
                              ((2 : Nat),
                                Blk.cells (30 : Nat)
                                  [AV.lit IntKind.i64 (0 : Int), AV.lit IntKind.i64 (0 : Int), AV.lit IntKind.i64 (1 : Int), AV.lit IntKind.i64 (2 : Int),
                                    AV.lit IntKind.i64 (7 : Int), AV.lit IntKind.i64 (1 : Int), AV.ff, AV.lit IntKind.i64 (0 : Int), AV.lit IntKind.i64 (0 : Int),
                                    AV.lit IntKind.i64 (0 : Int), AV.lit IntKind.i64 (2 : Int), AV.lit IntKind.i64 (2 : Int), AV.lit IntKind.i64 (7 : Int),
                                    AV.lit IntKind.i64 (1 : Int), AV.ff, AV.lit IntKind.i64 (0 : Int), AV.lit IntKind.i64 (0 : Int), AV.lit IntKind.i64 (0 : Int),
                                    AV.lit IntKind.i64 (3 : Int), AV.lit IntKind.i64 (2 : Int), AV.lit IntKind.i64 (7 : Int), AV.lit IntKind.i64 (1 : Int), AV.ff,
                                    AV.lit IntKind.i64 (0 : Int), AV.lit IntKind.i64 (0 : Int), AV.lit IntKind.i64 (1 : Int), AV.lit IntKind.i64 (1 : Int),
                                    AV.lit IntKind.i64 (2 : Int), AV.lit IntKind.i64 (7 : Int), AV.lit IntKind.i64 (1 : Int), AV.ff,
                                    AV.lit IntKind.i64 (0 : Int)]),
                              ((0 : Nat), Blk.cells (27 : Nat) [AV.lit IntKind.i64 (2 : Int), AV.lit IntKind.i64 (7 : Int), AV.lit IntKind.i64 (1 : Int), AV.ff])]
                            (6 : Nat))))
                    (Out.fin AV.ff
                      [((4 : Nat),
                          Blk.cells (35 : Nat)
                            [AV.lit IntKind.i64 (0 : Int), AV.lit IntKind.i64 (0 : Int), AV.lit IntKind.i64 (0 : Int), AV.lit IntKind.i64 (1 : Int),
                              AV.lit IntKind.i64 (2 : Int), AV.lit IntKind.i64 (0 : Int), AV.lit IntKind.i64 (1 : Int), AV.lit IntKind.i64 (3 : Int),
                              AV.lit IntKind.i64 (-1 : Int), AV.lit IntKind.i64 (-1 : Int)]),
                        ((3 : Nat),
                          Blk.arr (35 : Nat) Kd.cal
                            (hCallsOf
                              [{ thread := (0 : Int), op := (0 : Int), what := (1 : Int), act := (2 : Int), key := (7 : Int), value := (1 : Int), hit := false,
                                  err := (0 : Int) : Rec },
                                { thread := (0 : Int), op := (0 : Int), what := (2 : Int), act := (2 : Int), key := (7 : Int), value := (1 : Int), hit := false,
                                  err := (0 : Int) : Rec },
                                { thread := (0 : Int), op := (0 : Int), what := (3 : Int), act := (2 : Int), key := (7 : Int), value := (1 : Int), hit := false,
                                  err := (0 : Int) : Rec },
                                { thread := (0 : Int), op := (1 : Int), what := (1 : Int), act := (2 : Int), key := (7 : Int), value := (1 : Int), hit := false,
                                  err := (0 : Int) : Rec }])
                            y),
                        ((2 : Nat),
                          Blk.cells (30 : Nat)
                            [AV.lit IntKind.i64 (0 : Int), AV.lit IntKind.i64 (0 : Int), AV.lit IntKind.i64 (1 : Int), AV.lit IntKind.i64 (2 : Int),
                              AV.lit IntKind.i64 (7 : Int), AV.lit IntKind.i64 (1 : Int), AV.ff, AV.lit IntKind.i64 (0 : Int), AV.lit IntKind.i64 (0 : Int),
                              AV.lit IntKind.i64 (0 : Int), AV.lit IntKind.i64 (2 : Int), AV.lit IntKind.i64 (2 : Int), AV.lit IntKind.i64 (7 : Int),
                              AV.lit IntKind.i64 (1 : Int), AV.ff, AV.lit IntKind.i64 (0 : Int), AV.lit IntKind.i64 (0 : Int), AV.lit IntKind.i64 (0 : Int),
                              AV.lit IntKind.i64 (3 : Int), AV.lit IntKind.i64 (2 : Int), AV.lit IntKind.i64 (7 : Int), AV.lit IntKind.i64 (1 : Int), AV.ff,
                              AV.lit IntKind.i64 (0 : Int), AV.lit IntKind.i64 (0 : Int), AV.lit IntKind.i64 (1 : Int), AV.lit IntKind.i64 (1 : Int),
                              AV.lit IntKind.i64 (2 : Int), AV.lit IntKind.i64 (7 : Int), AV.lit IntKind.i64 (1 : Int), AV.ff, AV.lit IntKind.i64 (0 : Int)]),
                        ((0 : Nat), Blk.cells (27 : Nat) [AV.lit IntKind.i64 (2 : Int), AV.lit IntKind.i64 (7 : Int), AV.lit IntKind.i64 (1 : Int), AV.ff])]
                      (5 : Nat))))
                (Out.fin AV.ff
                  [((4 : Nat),
                      Blk.cells (35 : Nat)
                        [AV.lit IntKind.i64 (0 : Int), AV.lit IntKind.i64 (0 : Int), AV.lit IntKind.i64 (0 : Int), AV.lit IntKind.i64 (1 : Int),
                          AV.lit IntKind.i64 (2 : Int), AV.lit IntKind.i64 (0 : Int), AV.lit IntKind.i64 (1 : Int), AV.lit IntKind.i64 (3 : Int),
                          AV.lit IntKind.i64 (-1 : Int), AV.lit IntKind.i64 (-1 : Int)]),
                    ((3 : Nat),
                      Blk.arr (35 : Nat) Kd.cal
                        (hCallsOf
                          [{ thread := (0 : Int), op := (0 : Int), what := (1 : Int), act := (2 : Int), key := (7 : Int), value := (1 : Int), hit := false,
                              err := (0 : Int) : Rec },
                            { thread := (0 : Int), op := (0 : Int), what := (2 : Int), act := (2 : Int), key := (7 : Int), value := (1 : Int), hit := false,
                              err := (0 : Int) : Rec },
                            { thread := (0 : Int), op := (0 : Int), what := (3 : Int), act := (2 : Int), key := (7 : Int), value := (1 : Int), hit := false,
                              err := (0 : Int) : Rec },
                            { thread := (0 : Int), op := (1 : Int), what := (1 : Int), act := (2 : Int), key := (7 : Int), value := (1 : Int), hit := false,
                              err := (0 : Int) : Rec }])
                        y),
                    ((2 : Nat),
                      Blk.cells (30 : Nat)
                        [AV.lit IntKind.i64 (0 : Int), AV.lit IntKind.i64 (0 : Int), AV.lit IntKind.i64 (1 : Int), AV.lit IntKind.i64 (2 : Int),
                          AV.lit IntKind.i64 (7 : Int), AV.lit IntKind.i64 (1 : Int), AV.ff, AV.lit IntKind.i64 (0 : Int), AV.lit IntKind.i64 (0 : Int),
                          AV.lit IntKind.i64 (0 : Int), AV.lit IntKind.i64 (2 : Int), AV.lit IntKind.i64 (2 : Int), AV.lit IntKind.i64 (7 : Int),
                          AV.lit IntKind.i64 (1 : Int), AV.ff, AV.lit IntKind.i64 (0 : Int), AV.lit IntKind.i64 (0 : Int), AV.lit IntKind.i64 (0 : Int),
                          AV.lit IntKind.i64 (3 : Int), AV.lit IntKind.i64 (2 : Int), AV.lit IntKind.i64 (7 : Int), AV.lit IntKind.i64 (1 : Int), AV.ff,
                          AV.lit IntKind.i64 (0 : Int), AV.lit IntKind.i64 (0 : Int), AV.lit IntKind.i64 (1 : Int), AV.lit IntKind.i64 (1 : Int),
                          AV.lit IntKind.i64 (2 : Int), AV.lit IntKind.i64 (7 : Int), AV.lit IntKind.i64 (1 : Int), AV.ff, AV.lit IntKind.i64 (0 : Int)]),
                    ((0 : Nat), Blk.cells (27 : Nat) [AV.lit IntKind.i64 (2 : Int), AV.lit IntKind.i64 (7 : Int), AV.lit IntKind.i64 (1 : Int), AV.ff])]
                  (5 : Nat)))))
          (Out.fin AV.ff
            [((3 : Nat),
                Blk.arr (35 : Nat) Kd.cal
                  (hCallsOf
                    [{ thread := (0 : Int), op := (0 : Int), what := (1 : Int), act := (2 : Int), key := (7 : Int), value := (1 : Int), hit := false,
                        err := (0 : Int) : Rec },
                      { thread := (0 : Int), op := (0 : Int), what := (2 : Int), act := (2 : Int), key := (7 : Int), value := (1 : Int), hit := false,
                        err := (0 : Int) : Rec },
                      { thread := (0 : Int), op := (0 : Int), what := (3 : Int), act := (2 : Int), key := (7 : Int), value := (1 : Int), hit := false,
                        err := (0 : Int) : Rec },
                      { thread := (0 : Int), op := (1 : Int), what := (1 : Int), act := (2 : Int), key := (7 : Int), value := (1 : Int), hit := false,
                        err := (0 : Int) : Rec }])
                  y),
              ((2 : Nat),
                Blk.cells (30 : Nat)
                  [AV.lit IntKind.i64 (0 : Int), AV.lit IntKind.i64 (0 : Int), AV.lit IntKind.i64 (1 : Int), AV.lit IntKind.i64 (2 : Int),
                    AV.lit IntKind.i64 (7 : Int), AV.lit IntKind.i64 (1 : Int), AV.ff, AV.lit IntKind.i64 (0 : Int), AV.lit IntKind.i64 (0 : Int),
                    AV.lit IntKind.i64 (0 : Int), AV.lit IntKind.i64 (2 : Int), AV.lit IntKind.i64 (2 : Int), AV.lit IntKind.i64 (7 : Int),
                    AV.lit IntKind.i64 (1 : Int), AV.ff, AV.lit IntKind.i64 (0 : Int), AV.lit IntKind.i64 (0 : Int), AV.lit IntKind.i64 (0 : Int),
                    AV.lit IntKind.i64 (3 : Int), AV.lit IntKind.i64 (2 : Int), AV.lit IntKind.i64 (7 : Int), AV.lit IntKind.i64 (1 : Int), AV.ff,
                    AV.lit IntKind.i64 (0 : Int), AV.lit IntKind.i64 (0 : Int), AV.lit IntKind.i64 (1 : Int), AV.lit IntKind.i64 (1 : Int),
                    AV.lit IntKind.i64 (2 : Int), AV.lit IntKind.i64 (7 : Int), AV.lit IntKind.i64 (1 : Int), AV.ff, AV.lit IntKind.i64 (0 : Int)]),
              ((0 : Nat), Blk.cells (27 : Nat) [AV.lit IntKind.i64 (2 : Int), AV.lit IntKind.i64 (7 : Int), AV.lit IntKind.i64 (1 : Int), AV.ff])]
            (4 : Nat)))) := by kernel_rfl

end Sx
end Go.Proofs.Ytemcdjdglcceiaa
