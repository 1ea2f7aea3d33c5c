/-
  The law of what is completed: the runs of the machine.
-/
import Derived.Test.YtemcdjdglcceiaaHCompP
namespace Go.Proofs.Ytemcdjdglcceiaa
namespace Sx
open Go
set_option maxRecDepth 100000
set_option linter.unusedVariables false
theorem t4 (l : List Rec) (c : Nat) : runL cfgI 60 4 Try.f4 [.sl false 0 0 8 l.length c] [(0, .ro Kd.rcd l)] 1 =
  Out.ite (decide ((↑l.length : Int) > 300)) (Out.fin AV.tt [] 0)
    (Out.need (0 + l.length ≤ l.length)
      (Out.need ((List.take l.length (List.drop 0 l)).length ≤ 1099511627776)
        (Out.ite (!hRight (List.take l.length (List.drop 0 l))) (Out.fin AV.tt [] 0)
          (Out.need (0 + l.length ≤ l.length)
            (Out.need ((List.take l.length (List.drop 0 l)).length ≤ 1099511627776)
              (Out.all Nat fun y =>
                Out.need (0 + (hComplete (List.take l.length (List.drop 0 l))).length ≤ (hComplete (List.take l.length (List.drop 0 l))).length)
                  (Out.need
                    ((List.take (hComplete (List.take l.length (List.drop 0 l))).length (List.drop 0 (hComplete (List.take l.length (List.drop 0 l))))).length ≤
                      1099511627776)
                    (Out.ite
                      (hRight (List.take (hComplete (List.take l.length (List.drop 0 l))).length (List.drop 0 (hComplete (List.take l.length (List.drop 0 l))))))
                      (Out.need (0 + (hComplete (List.take l.length (List.drop 0 l))).length ≤ (hComplete (List.take l.length (List.drop 0 l))).length)
                        (Out.need
                          ((List.take (hComplete (List.take l.length (List.drop 0 l))).length
                                (List.drop 0 (hComplete (List.take l.length (List.drop 0 l))))).length ≤
                            1099511627776)
                          (Out.ite
                            ((↑(hLeft
                                    (List.take (hComplete (List.take l.length (List.drop 0 l))).length
                                      (List.drop 0 (hComplete (List.take l.length (List.drop 0 l)))))) :
                                Int) ==
                              0)
                            (Out.need (0 + (hComplete (List.take l.length (List.drop 0 l))).length ≤ (hComplete (List.take l.length (List.drop 0 l))).length)
                              (Out.need
                                ((List.take (hComplete (List.take l.length (List.drop 0 l))).length
                                      (List.drop 0 (hComplete (List.take l.length (List.drop 0 l))))).length ≤
                                  1099511627776)
                                (Out.all Nat fun y =>
                                  Out.need (0 + l.length ≤ l.length)
                                    (Out.need ((List.take l.length (List.drop 0 l)).length ≤ 1099511627776)
                                      (Out.all Nat fun y =>
                                        Out.need
                                          (0 +
                                              (hCommits
                                                  (List.take (hComplete (List.take l.length (List.drop 0 l))).length
                                                    (List.drop 0 (hComplete (List.take l.length (List.drop 0 l)))))).length ≤
                                            (hCommits
                                                (List.take (hComplete (List.take l.length (List.drop 0 l))).length
                                                  (List.drop 0 (hComplete (List.take l.length (List.drop 0 l)))))).length)
                                          (Out.need
                                            (0 + (hCommits (List.take l.length (List.drop 0 l))).length ≤ (hCommits (List.take l.length (List.drop 0 l))).length)
                                            (Out.need
                                              ((List.take
                                                    (hCommits
                                                        (List.take (hComplete (List.take l.length (List.drop 0 l))).length
                                                          (List.drop 0 (hComplete (List.take l.length (List.drop 0 l)))))).length
                                                    (List.drop 0
                                                      (hCommits
                                                        (List.take (hComplete (List.take l.length (List.drop 0 l))).length
                                                          (List.drop 0 (hComplete (List.take l.length (List.drop 0 l)))))))).length ≤
                                                1099511627776)
                                              (Out.ite
                                                (decide
                                                  (List.take
                                                      (hCommits
                                                          (List.take (hComplete (List.take l.length (List.drop 0 l))).length
                                                            (List.drop 0 (hComplete (List.take l.length (List.drop 0 l)))))).length
                                                      (List.drop 0
                                                        (hCommits
                                                          (List.take (hComplete (List.take l.length (List.drop 0 l))).length
                                                            (List.drop 0 (hComplete (List.take l.length (List.drop 0 l))))))) =
                                                    List.take (hCommits (List.take l.length (List.drop 0 l))).length
                                                      (List.drop 0 (hCommits (List.take l.length (List.drop 0 l))))))
                                                (Out.need
                                                  (0 + (hComplete (List.take l.length (List.drop 0 l))).length ≤
                                                    (hComplete (List.take l.length (List.drop 0 l))).length)
                                                  (Out.need
                                                    ((List.take (hComplete (List.take l.length (List.drop 0 l))).length
                                                          (List.drop 0 (hComplete (List.take l.length (List.drop 0 l))))).length ≤
                                                      1099511627776)
                                                    (Out.all Nat fun y =>
                                                      Out.need
                                                        (0 +
                                                            (hComplete
                                                                (List.take (hComplete (List.take l.length (List.drop 0 l))).length
                                                                  (List.drop 0 (hComplete (List.take l.length (List.drop 0 l)))))).length ≤
                                                          (hComplete
                                                              (List.take (hComplete (List.take l.length (List.drop 0 l))).length
                                                                (List.drop 0 (hComplete (List.take l.length (List.drop 0 l)))))).length)
                                                        (Out.need
                                                          (0 + (hComplete (List.take l.length (List.drop 0 l))).length ≤
                                                            (hComplete (List.take l.length (List.drop 0 l))).length)
                                                          (Out.need
                                                            ((List.take
                                                                  (hComplete
                                                                      (List.take (hComplete (List.take l.length (List.drop 0 l))).length
                                                                        (List.drop 0 (hComplete (List.take l.length (List.drop 0 l)))))).length
                                                                  (List.drop 0
                                                                    (hComplete
                                                                      (List.take (hComplete (List.take l.length (List.drop 0 l))).length
                                                                        (List.drop 0 (hComplete (List.take l.length (List.drop 0 l)))))))).length ≤
                                                              1099511627776)
                                                            (Out.ite
                                                              (decide
                                                                (List.take
                                                                    (hComplete
                                                                        (List.take (hComplete (List.take l.length (List.drop 0 l))).length
                                                                          (List.drop 0 (hComplete (List.take l.length (List.drop 0 l)))))).length
                                                                    (List.drop 0
                                                                      (hComplete
                                                                        (List.take (hComplete (List.take l.length (List.drop 0 l))).length
                                                                          (List.drop 0 (hComplete (List.take l.length (List.drop 0 l))))))) =
                                                                  List.take (hComplete (List.take l.length (List.drop 0 l))).length
                                                                    (List.drop 0 (hComplete (List.take l.length (List.drop 0 l))))))
                                                              (Out.need
                                                                (0 + (hComplete (List.take l.length (List.drop 0 l))).length ≤
                                                                  (hComplete (List.take l.length (List.drop 0 l))).length)
                                                                (Out.need
                                                                  ((List.take (hComplete (List.take l.length (List.drop 0 l))).length
                                                                        (List.drop 0 (hComplete (List.take l.length (List.drop 0 l))))).length ≤
                                                                    1099511627776)
                                                                  (Out.all Nat fun y =>
                                                                    Out.need (0 + l.length ≤ l.length)
                                                                      (Out.need ((List.take l.length (List.drop 0 l)).length ≤ 1099511627776)
                                                                        (Out.all Nat fun y =>
                                                                          Out.fin
                                                                            (AV.bool
                                                                              (decide
                                                                                ((↑(hCallsOf
                                                                                          (List.take (hComplete (List.take l.length (List.drop 0 l))).length
                                                                                            (List.drop 0
                                                                                              (hComplete (List.take l.length (List.drop 0 l)))))).length :
                                                                                    Int) ≤
                                                                                  (↑(hCallsOf (List.take l.length (List.drop 0 l))).length : Int))))
                                                                            [] 0)))))
                                                              (Out.fin AV.ff [] 0)))))))
                                                (Out.fin AV.ff [] 0)))))))))
                            (Out.fin AV.ff [] 0))))
                      (Out.fin AV.ff [] 0))))))))) := by kernel_rfl

end Sx
end Go.Proofs.Ytemcdjdglcceiaa
