/-
  Rows compared: the runs of the machine.
-/
import Derived.Test.YtemcdjdglcceiaaHCfg
import Derived.Test.YtemcdjdglcceiaaSxTrim
namespace Go.Proofs.Ytemcdjdglcceiaa
namespace Sx
open Go
set_option maxRecDepth 100000
set_option linter.unusedVariables false

structure PR (α : Type) where
  xs : List α
  c : Nat
  ys : List α
  d : Nat
  hl : xs.length = ys.length
  hb : xs.length ≤ 1099511627776
def I13 (p : PR Rec) (i : Nat) : St V :=
  ⟨[(0, .sl false 0 0 8 p.xs.length p.c), (1, .sl false 1 0 8 p.ys.length p.d), (5, .int .i64 (i : Int))], [(0, .ro Kd.rcd p.xs), (1, .ro Kd.rcd p.ys)], 2, 26, [0, 1, 2, 3, 4, 5, 6, 7]⟩
def R13 (p : PR Rec) : St V := ⟨[(4, .ff)], [(0, .ro Kd.rcd p.xs), (1, .ro Kd.rcd p.ys)], 2, 26, [0, 1, 2, 3, 4, 5, 6, 7]⟩
def L13 : LoopS V := loopS 2 (fun p : PR Rec => I13 p 0) (fun p _ => p.xs = p.ys) (fun p (_ : Unit) => I13 p p.xs.length) (fun p _ => p.xs ≠ p.ys) (fun p (_ : Unit) => R13 p)
def I22 (p : PR Com) (i : Nat) : St V :=
  ⟨[(0, .sl false 0 0 4 p.xs.length p.c), (1, .sl false 1 0 4 p.ys.length p.d), (5, .int .i64 (i : Int))], [(0, .ro Kd.com p.xs), (1, .ro Kd.com p.ys)], 2, 26, [0, 1, 2, 3, 4, 5, 6, 7]⟩
def R22 (p : PR Com) : St V := ⟨[(4, .ff)], [(0, .ro Kd.com p.xs), (1, .ro Kd.com p.ys)], 2, 26, [0, 1, 2, 3, 4, 5, 6, 7]⟩
def L22 : LoopS V := loopS 2 (fun p : PR Com => I22 p 0) (fun p _ => p.xs = p.ys) (fun p (_ : Unit) => I22 p p.xs.length) (fun p _ => p.xs ≠ p.ys) (fun p (_ : Unit) => R22 p)
def I21 (p : PR Cal) (i : Nat) : St V :=
  ⟨[(0, .sl false 0 0 5 p.xs.length p.c), (1, .sl false 1 0 5 p.ys.length p.d), (5, .int .i64 (i : Int))], [(0, .ro Kd.cal p.xs), (1, .ro Kd.cal p.ys)], 2, 26, [0, 1, 2, 3, 4, 5, 6, 7]⟩
def R21 (p : PR Cal) : St V := ⟨[(4, .ff)], [(0, .ro Kd.cal p.xs), (1, .ro Kd.cal p.ys)], 2, 26, [0, 1, 2, 3, 4, 5, 6, 7]⟩
def L21 : LoopS V := loopS 2 (fun p : PR Cal => I21 p 0) (fun p _ => p.xs = p.ys) (fun p (_ : Unit) => I21 p p.xs.length) (fun p _ => p.xs ≠ p.ys) (fun p (_ : Unit) => R21 p)
noncomputable def cfgC : Cfg Try.prog V := ⟨tab, kinds, fun _ => none, fun _ => none, fun _ _ => none⟩
noncomputable def cfgD : Cfg Try.prog V := ⟨tab, kinds, fun _ => none, fun _ => none, fun f id => match f, id with | 13, 0 => some L13 | 22, 0 => some L22 | 21, 0 => some L21 | _, _ => none⟩
theorem b13 (p : PR Rec) (i : Nat) : runCode cfgC 40 13 (loopOf Try.f13 0) (I13 p i) Out.stop =
  Out.ite (decide ((↑i : Int) < (↑p.xs.length : Int)))
    (Out.need (0 ≤ (↑i : Int) ∧ (↑i : Int) < (↑p.xs.length : Int))
      (Out.need (0 + i < p.xs.length)
        (Out.need (0 ≤ (↑i : Int) ∧ (↑i : Int) < (↑p.ys.length : Int))
          (Out.need (0 + i < p.ys.length)
            (Out.ite
              (!((p.xs.getD (0 + i) (V.enc Kd.rcd).dflt).thread == (p.ys.getD (0 + i) (V.enc Kd.rcd).dflt).thread &&
                  ((p.xs.getD (0 + i) (V.enc Kd.rcd).dflt).op == (p.ys.getD (0 + i) (V.enc Kd.rcd).dflt).op &&
                    ((p.xs.getD (0 + i) (V.enc Kd.rcd).dflt).what == (p.ys.getD (0 + i) (V.enc Kd.rcd).dflt).what &&
                      ((p.xs.getD (0 + i) (V.enc Kd.rcd).dflt).act == (p.ys.getD (0 + i) (V.enc Kd.rcd).dflt).act &&
                          ((p.xs.getD (0 + i) (V.enc Kd.rcd).dflt).key == (p.ys.getD (0 + i) (V.enc Kd.rcd).dflt).key &&
                            ((p.xs.getD (0 + i) (V.enc Kd.rcd).dflt).value == (p.ys.getD (0 + i) (V.enc Kd.rcd).dflt).value &&
                              ((p.xs.getD (0 + i) (V.enc Kd.rcd).dflt).hit == (p.ys.getD (0 + i) (V.enc Kd.rcd).dflt).hit && true))) &&
                        ((p.xs.getD (0 + i) (V.enc Kd.rcd).dflt).err == (p.ys.getD (0 + i) (V.enc Kd.rcd).dflt).err && true))))))
              (Out.stop EX.rt
                {
                  env :=
                    [(4, AV.ff),
                      (25,
                        AV.bool
                          !((p.xs.getD (0 + i) (V.enc Kd.rcd).dflt).thread == (p.ys.getD (0 + i) (V.enc Kd.rcd).dflt).thread &&
                              ((p.xs.getD (0 + i) (V.enc Kd.rcd).dflt).op == (p.ys.getD (0 + i) (V.enc Kd.rcd).dflt).op &&
                                ((p.xs.getD (0 + i) (V.enc Kd.rcd).dflt).what == (p.ys.getD (0 + i) (V.enc Kd.rcd).dflt).what &&
                                  ((p.xs.getD (0 + i) (V.enc Kd.rcd).dflt).act == (p.ys.getD (0 + i) (V.enc Kd.rcd).dflt).act &&
                                      ((p.xs.getD (0 + i) (V.enc Kd.rcd).dflt).key == (p.ys.getD (0 + i) (V.enc Kd.rcd).dflt).key &&
                                        ((p.xs.getD (0 + i) (V.enc Kd.rcd).dflt).value == (p.ys.getD (0 + i) (V.enc Kd.rcd).dflt).value &&
                                          ((p.xs.getD (0 + i) (V.enc Kd.rcd).dflt).hit == (p.ys.getD (0 + i) (V.enc Kd.rcd).dflt).hit && true))) &&
                                    ((p.xs.getD (0 + i) (V.enc Kd.rcd).dflt).err == (p.ys.getD (0 + i) (V.enc Kd.rcd).dflt).err && true)))))),
                      (24,
                        AV.agg
                          [AV.int IntKind.i64 (p.ys.getD (0 + i) (V.enc Kd.rcd).dflt).thread, AV.int IntKind.i64 (p.ys.getD (0 + i) (V.enc Kd.rcd).dflt).op,
                            AV.int IntKind.i64 (p.ys.getD (0 + i) (V.enc Kd.rcd).dflt).what, AV.int IntKind.i64 (p.ys.getD (0 + i) (V.enc Kd.rcd).dflt).act,
                            AV.int IntKind.i64 (p.ys.getD (0 + i) (V.enc Kd.rcd).dflt).key, AV.int IntKind.i64 (p.ys.getD (0 + i) (V.enc Kd.rcd).dflt).value,
                            AV.bool (p.ys.getD (0 + i) (V.enc Kd.rcd).dflt).hit, AV.int IntKind.i64 (p.ys.getD (0 + i) (V.enc Kd.rcd).dflt).err]),
                      (23, AV.ptrR 1 (0 + i) 8 0), (22, AV.int IntKind.i64 (↑i : Int)), (21, AV.sl false 1 0 8 p.ys.length p.4),
                      (20,
                        AV.agg
                          [AV.int IntKind.i64 (p.xs.getD (0 + i) (V.enc Kd.rcd).dflt).thread, AV.int IntKind.i64 (p.xs.getD (0 + i) (V.enc Kd.rcd).dflt).op,
                            AV.int IntKind.i64 (p.xs.getD (0 + i) (V.enc Kd.rcd).dflt).what, AV.int IntKind.i64 (p.xs.getD (0 + i) (V.enc Kd.rcd).dflt).act,
                            AV.int IntKind.i64 (p.xs.getD (0 + i) (V.enc Kd.rcd).dflt).key, AV.int IntKind.i64 (p.xs.getD (0 + i) (V.enc Kd.rcd).dflt).value,
                            AV.bool (p.xs.getD (0 + i) (V.enc Kd.rcd).dflt).hit, AV.int IntKind.i64 (p.xs.getD (0 + i) (V.enc Kd.rcd).dflt).err]),
                      (19, AV.ptrR 0 (0 + i) 8 0), (18, AV.int IntKind.i64 (↑i : Int)), (17, AV.sl false 0 0 8 p.xs.length p.2),
                      (14, AV.bool (decide ((↑i : Int) < (↑p.xs.length : Int)))), (13, AV.int IntKind.i64 (↑p.xs.length : Int)),
                      (12, AV.sl false 0 0 8 p.xs.length p.2), (11, AV.int IntKind.i64 (↑i : Int)), (0, AV.sl false 0 0 8 p.xs.length p.2),
                      (1, AV.sl false 1 0 8 p.ys.length p.4), (5, AV.int IntKind.i64 (↑i : Int))],
                  heap := [(0, Blk.ro Kd.rcd p.xs), (1, Blk.ro Kd.rcd p.ys)], nx := 2, nt := 26, tl := [0, 1, 2, 3, 4, 5, 6, 7] : St V })
              (Out.stop EX.nx
                {
                  env :=
                    [(5, AV.int IntKind.i64 (IntKind.i64.wrap ((↑i : Int) + 1))), (16, AV.int IntKind.i64 (IntKind.i64.wrap ((↑i : Int) + 1))),
                      (15, AV.int IntKind.i64 (↑i : Int)),
                      (25,
                        AV.bool
                          !((p.xs.getD (0 + i) (V.enc Kd.rcd).dflt).thread == (p.ys.getD (0 + i) (V.enc Kd.rcd).dflt).thread &&
                              ((p.xs.getD (0 + i) (V.enc Kd.rcd).dflt).op == (p.ys.getD (0 + i) (V.enc Kd.rcd).dflt).op &&
                                ((p.xs.getD (0 + i) (V.enc Kd.rcd).dflt).what == (p.ys.getD (0 + i) (V.enc Kd.rcd).dflt).what &&
                                  ((p.xs.getD (0 + i) (V.enc Kd.rcd).dflt).act == (p.ys.getD (0 + i) (V.enc Kd.rcd).dflt).act &&
                                      ((p.xs.getD (0 + i) (V.enc Kd.rcd).dflt).key == (p.ys.getD (0 + i) (V.enc Kd.rcd).dflt).key &&
                                        ((p.xs.getD (0 + i) (V.enc Kd.rcd).dflt).value == (p.ys.getD (0 + i) (V.enc Kd.rcd).dflt).value &&
                                          ((p.xs.getD (0 + i) (V.enc Kd.rcd).dflt).hit == (p.ys.getD (0 + i) (V.enc Kd.rcd).dflt).hit && true))) &&
                                    ((p.xs.getD (0 + i) (V.enc Kd.rcd).dflt).err == (p.ys.getD (0 + i) (V.enc Kd.rcd).dflt).err && true)))))),
                      (24,
                        AV.agg
                          [AV.int IntKind.i64 (p.ys.getD (0 + i) (V.enc Kd.rcd).dflt).thread, AV.int IntKind.i64 (p.ys.getD (0 + i) (V.enc Kd.rcd).dflt).op,
                            AV.int IntKind.i64 (p.ys.getD (0 + i) (V.enc Kd.rcd).dflt).what, AV.int IntKind.i64 (p.ys.getD (0 + i) (V.enc Kd.rcd).dflt).act,
                            AV.int IntKind.i64 (p.ys.getD (0 + i) (V.enc Kd.rcd).dflt).key, AV.int IntKind.i64 (p.ys.getD (0 + i) (V.enc Kd.rcd).dflt).value,
                            AV.bool (p.ys.getD (0 + i) (V.enc Kd.rcd).dflt).hit, AV.int IntKind.i64 (p.ys.getD (0 + i) (V.enc Kd.rcd).dflt).err]),
                      (23, AV.ptrR 1 (0 + i) 8 0), (22, AV.int IntKind.i64 (↑i : Int)), (21, AV.sl false 1 0 8 p.ys.length p.4),
                      (20,
                        AV.agg
                          [AV.int IntKind.i64 (p.xs.getD (0 + i) (V.enc Kd.rcd).dflt).thread, AV.int IntKind.i64 (p.xs.getD (0 + i) (V.enc Kd.rcd).dflt).op,
                            AV.int IntKind.i64 (p.xs.getD (0 + i) (V.enc Kd.rcd).dflt).what, AV.int IntKind.i64 (p.xs.getD (0 + i) (V.enc Kd.rcd).dflt).act,
                            AV.int IntKind.i64 (p.xs.getD (0 + i) (V.enc Kd.rcd).dflt).key, AV.int IntKind.i64 (p.xs.getD (0 + i) (V.enc Kd.rcd).dflt).value,
                            AV.bool (p.xs.getD (0 + i) (V.enc Kd.rcd).dflt).hit, AV.int IntKind.i64 (p.xs.getD (0 + i) (V.enc Kd.rcd).dflt).err]),
                      (19, AV.ptrR 0 (0 + i) 8 0), (18, AV.int IntKind.i64 (↑i : Int)), (17, AV.sl false 0 0 8 p.xs.length p.2),
                      (14, AV.bool (decide ((↑i : Int) < (↑p.xs.length : Int)))), (13, AV.int IntKind.i64 (↑p.xs.length : Int)),
                      (12, AV.sl false 0 0 8 p.xs.length p.2), (11, AV.int IntKind.i64 (↑i : Int)), (0, AV.sl false 0 0 8 p.xs.length p.2),
                      (1, AV.sl false 1 0 8 p.ys.length p.4), (5, AV.int IntKind.i64 (↑i : Int))],
                  heap := [(0, Blk.ro Kd.rcd p.xs), (1, Blk.ro Kd.rcd p.ys)], nx := 2, nt := 26, tl := [0, 1, 2, 3, 4, 5, 6, 7] : St V }))))))
    (Out.stop (EX.ex 0)
      {
        env :=
          [(14, AV.bool (decide ((↑i : Int) < (↑p.xs.length : Int)))), (13, AV.int IntKind.i64 (↑p.xs.length : Int)), (12, AV.sl false 0 0 8 p.xs.length p.2),
            (11, AV.int IntKind.i64 (↑i : Int)), (0, AV.sl false 0 0 8 p.xs.length p.2), (1, AV.sl false 1 0 8 p.ys.length p.4),
            (5, AV.int IntKind.i64 (↑i : Int))],
        heap := [(0, Blk.ro Kd.rcd p.xs), (1, Blk.ro Kd.rcd p.ys)], nx := 2, nt := 26, tl := [0, 1, 2, 3, 4, 5, 6, 7] : St V }) := by kernel_rfl

theorem b22 (p : PR Com) (i : Nat) : runCode cfgC 40 22 (loopOf Try.f22 0) (I22 p i) Out.stop =
  Out.ite (decide ((↑i : Int) < (↑p.xs.length : Int)))
    (Out.need (0 ≤ (↑i : Int) ∧ (↑i : Int) < (↑p.xs.length : Int))
      (Out.need (0 + i < p.xs.length)
        (Out.need (0 ≤ (↑i : Int) ∧ (↑i : Int) < (↑p.ys.length : Int))
          (Out.need (0 + i < p.ys.length)
            (Out.ite
              (!((p.xs.getD (0 + i) (V.enc Kd.com).dflt).act == (p.ys.getD (0 + i) (V.enc Kd.com).dflt).act &&
                  ((p.xs.getD (0 + i) (V.enc Kd.com).dflt).key == (p.ys.getD (0 + i) (V.enc Kd.com).dflt).key &&
                    ((p.xs.getD (0 + i) (V.enc Kd.com).dflt).value == (p.ys.getD (0 + i) (V.enc Kd.com).dflt).value &&
                      ((p.xs.getD (0 + i) (V.enc Kd.com).dflt).hit == (p.ys.getD (0 + i) (V.enc Kd.com).dflt).hit && true)))))
              (Out.stop EX.rt
                {
                  env :=
                    [(4, AV.ff),
                      (25,
                        AV.bool
                          !((p.xs.getD (0 + i) (V.enc Kd.com).dflt).act == (p.ys.getD (0 + i) (V.enc Kd.com).dflt).act &&
                              ((p.xs.getD (0 + i) (V.enc Kd.com).dflt).key == (p.ys.getD (0 + i) (V.enc Kd.com).dflt).key &&
                                ((p.xs.getD (0 + i) (V.enc Kd.com).dflt).value == (p.ys.getD (0 + i) (V.enc Kd.com).dflt).value &&
                                  ((p.xs.getD (0 + i) (V.enc Kd.com).dflt).hit == (p.ys.getD (0 + i) (V.enc Kd.com).dflt).hit && true))))),
                      (24,
                        AV.agg
                          [AV.int IntKind.i64 (p.ys.getD (0 + i) (V.enc Kd.com).dflt).act, AV.int IntKind.i64 (p.ys.getD (0 + i) (V.enc Kd.com).dflt).key,
                            AV.int IntKind.i64 (p.ys.getD (0 + i) (V.enc Kd.com).dflt).value, AV.bool (p.ys.getD (0 + i) (V.enc Kd.com).dflt).hit]),
                      (23, AV.ptrR 1 (0 + i) 4 0), (22, AV.int IntKind.i64 (↑i : Int)), (21, AV.sl false 1 0 4 p.ys.length p.4),
                      (20,
                        AV.agg
                          [AV.int IntKind.i64 (p.xs.getD (0 + i) (V.enc Kd.com).dflt).act, AV.int IntKind.i64 (p.xs.getD (0 + i) (V.enc Kd.com).dflt).key,
                            AV.int IntKind.i64 (p.xs.getD (0 + i) (V.enc Kd.com).dflt).value, AV.bool (p.xs.getD (0 + i) (V.enc Kd.com).dflt).hit]),
                      (19, AV.ptrR 0 (0 + i) 4 0), (18, AV.int IntKind.i64 (↑i : Int)), (17, AV.sl false 0 0 4 p.xs.length p.2),
                      (14, AV.bool (decide ((↑i : Int) < (↑p.xs.length : Int)))), (13, AV.int IntKind.i64 (↑p.xs.length : Int)),
                      (12, AV.sl false 0 0 4 p.xs.length p.2), (11, AV.int IntKind.i64 (↑i : Int)), (0, AV.sl false 0 0 4 p.xs.length p.2),
                      (1, AV.sl false 1 0 4 p.ys.length p.4), (5, AV.int IntKind.i64 (↑i : Int))],
                  heap := [(0, Blk.ro Kd.com p.xs), (1, Blk.ro Kd.com p.ys)], nx := 2, nt := 26, tl := [0, 1, 2, 3, 4, 5, 6, 7] : St V })
              (Out.stop EX.nx
                {
                  env :=
                    [(5, AV.int IntKind.i64 (IntKind.i64.wrap ((↑i : Int) + 1))), (16, AV.int IntKind.i64 (IntKind.i64.wrap ((↑i : Int) + 1))),
                      (15, AV.int IntKind.i64 (↑i : Int)),
                      (25,
                        AV.bool
                          !((p.xs.getD (0 + i) (V.enc Kd.com).dflt).act == (p.ys.getD (0 + i) (V.enc Kd.com).dflt).act &&
                              ((p.xs.getD (0 + i) (V.enc Kd.com).dflt).key == (p.ys.getD (0 + i) (V.enc Kd.com).dflt).key &&
                                ((p.xs.getD (0 + i) (V.enc Kd.com).dflt).value == (p.ys.getD (0 + i) (V.enc Kd.com).dflt).value &&
                                  ((p.xs.getD (0 + i) (V.enc Kd.com).dflt).hit == (p.ys.getD (0 + i) (V.enc Kd.com).dflt).hit && true))))),
                      (24,
                        AV.agg
                          [AV.int IntKind.i64 (p.ys.getD (0 + i) (V.enc Kd.com).dflt).act, AV.int IntKind.i64 (p.ys.getD (0 + i) (V.enc Kd.com).dflt).key,
                            AV.int IntKind.i64 (p.ys.getD (0 + i) (V.enc Kd.com).dflt).value, AV.bool (p.ys.getD (0 + i) (V.enc Kd.com).dflt).hit]),
                      (23, AV.ptrR 1 (0 + i) 4 0), (22, AV.int IntKind.i64 (↑i : Int)), (21, AV.sl false 1 0 4 p.ys.length p.4),
                      (20,
                        AV.agg
                          [AV.int IntKind.i64 (p.xs.getD (0 + i) (V.enc Kd.com).dflt).act, AV.int IntKind.i64 (p.xs.getD (0 + i) (V.enc Kd.com).dflt).key,
                            AV.int IntKind.i64 (p.xs.getD (0 + i) (V.enc Kd.com).dflt).value, AV.bool (p.xs.getD (0 + i) (V.enc Kd.com).dflt).hit]),
                      (19, AV.ptrR 0 (0 + i) 4 0), (18, AV.int IntKind.i64 (↑i : Int)), (17, AV.sl false 0 0 4 p.xs.length p.2),
                      (14, AV.bool (decide ((↑i : Int) < (↑p.xs.length : Int)))), (13, AV.int IntKind.i64 (↑p.xs.length : Int)),
                      (12, AV.sl false 0 0 4 p.xs.length p.2), (11, AV.int IntKind.i64 (↑i : Int)), (0, AV.sl false 0 0 4 p.xs.length p.2),
                      (1, AV.sl false 1 0 4 p.ys.length p.4), (5, AV.int IntKind.i64 (↑i : Int))],
                  heap := [(0, Blk.ro Kd.com p.xs), (1, Blk.ro Kd.com p.ys)], nx := 2, nt := 26, tl := [0, 1, 2, 3, 4, 5, 6, 7] : St V }))))))
    (Out.stop (EX.ex 0)
      {
        env :=
          [(14, AV.bool (decide ((↑i : Int) < (↑p.xs.length : Int)))), (13, AV.int IntKind.i64 (↑p.xs.length : Int)), (12, AV.sl false 0 0 4 p.xs.length p.2),
            (11, AV.int IntKind.i64 (↑i : Int)), (0, AV.sl false 0 0 4 p.xs.length p.2), (1, AV.sl false 1 0 4 p.ys.length p.4),
            (5, AV.int IntKind.i64 (↑i : Int))],
        heap := [(0, Blk.ro Kd.com p.xs), (1, Blk.ro Kd.com p.ys)], nx := 2, nt := 26, tl := [0, 1, 2, 3, 4, 5, 6, 7] : St V }) := by kernel_rfl

theorem b21 (p : PR Cal) (i : Nat) : runCode cfgC 40 21 (loopOf Try.f21 0) (I21 p i) Out.stop =
  Out.ite (decide ((↑i : Int) < (↑p.xs.length : Int)))
    (Out.need (0 ≤ (↑i : Int) ∧ (↑i : Int) < (↑p.xs.length : Int))
      (Out.need (0 + i < p.xs.length)
        (Out.need (0 ≤ (↑i : Int) ∧ (↑i : Int) < (↑p.ys.length : Int))
          (Out.need (0 + i < p.ys.length)
            (Out.ite
              (!((p.xs.getD (0 + i) (V.enc Kd.cal).dflt).thread == (p.ys.getD (0 + i) (V.enc Kd.cal).dflt).thread &&
                  ((p.xs.getD (0 + i) (V.enc Kd.cal).dflt).op == (p.ys.getD (0 + i) (V.enc Kd.cal).dflt).op &&
                    ((p.xs.getD (0 + i) (V.enc Kd.cal).dflt).frm == (p.ys.getD (0 + i) (V.enc Kd.cal).dflt).frm &&
                      ((p.xs.getD (0 + i) (V.enc Kd.cal).dflt).at_ == (p.ys.getD (0 + i) (V.enc Kd.cal).dflt).at_ &&
                        ((p.xs.getD (0 + i) (V.enc Kd.cal).dflt).to_ == (p.ys.getD (0 + i) (V.enc Kd.cal).dflt).to_ && true))))))
              (Out.stop EX.rt
                {
                  env :=
                    [(4, AV.ff),
                      (25,
                        AV.bool
                          !((p.xs.getD (0 + i) (V.enc Kd.cal).dflt).thread == (p.ys.getD (0 + i) (V.enc Kd.cal).dflt).thread &&
                              ((p.xs.getD (0 + i) (V.enc Kd.cal).dflt).op == (p.ys.getD (0 + i) (V.enc Kd.cal).dflt).op &&
                                ((p.xs.getD (0 + i) (V.enc Kd.cal).dflt).frm == (p.ys.getD (0 + i) (V.enc Kd.cal).dflt).frm &&
                                  ((p.xs.getD (0 + i) (V.enc Kd.cal).dflt).at_ == (p.ys.getD (0 + i) (V.enc Kd.cal).dflt).at_ &&
                                    ((p.xs.getD (0 + i) (V.enc Kd.cal).dflt).to_ == (p.ys.getD (0 + i) (V.enc Kd.cal).dflt).to_ && true)))))),
                      (24,
                        AV.agg
                          [AV.int IntKind.i64 (p.ys.getD (0 + i) (V.enc Kd.cal).dflt).thread, AV.int IntKind.i64 (p.ys.getD (0 + i) (V.enc Kd.cal).dflt).op,
                            AV.int IntKind.i64 (p.ys.getD (0 + i) (V.enc Kd.cal).dflt).frm, AV.int IntKind.i64 (p.ys.getD (0 + i) (V.enc Kd.cal).dflt).at_,
                            AV.int IntKind.i64 (p.ys.getD (0 + i) (V.enc Kd.cal).dflt).to_]),
                      (23, AV.ptrR 1 (0 + i) 5 0), (22, AV.int IntKind.i64 (↑i : Int)), (21, AV.sl false 1 0 5 p.ys.length p.4),
                      (20,
                        AV.agg
                          [AV.int IntKind.i64 (p.xs.getD (0 + i) (V.enc Kd.cal).dflt).thread, AV.int IntKind.i64 (p.xs.getD (0 + i) (V.enc Kd.cal).dflt).op,
                            AV.int IntKind.i64 (p.xs.getD (0 + i) (V.enc Kd.cal).dflt).frm, AV.int IntKind.i64 (p.xs.getD (0 + i) (V.enc Kd.cal).dflt).at_,
                            AV.int IntKind.i64 (p.xs.getD (0 + i) (V.enc Kd.cal).dflt).to_]),
                      (19, AV.ptrR 0 (0 + i) 5 0), (18, AV.int IntKind.i64 (↑i : Int)), (17, AV.sl false 0 0 5 p.xs.length p.2),
                      (14, AV.bool (decide ((↑i : Int) < (↑p.xs.length : Int)))), (13, AV.int IntKind.i64 (↑p.xs.length : Int)),
                      (12, AV.sl false 0 0 5 p.xs.length p.2), (11, AV.int IntKind.i64 (↑i : Int)), (0, AV.sl false 0 0 5 p.xs.length p.2),
                      (1, AV.sl false 1 0 5 p.ys.length p.4), (5, AV.int IntKind.i64 (↑i : Int))],
                  heap := [(0, Blk.ro Kd.cal p.xs), (1, Blk.ro Kd.cal p.ys)], nx := 2, nt := 26, tl := [0, 1, 2, 3, 4, 5, 6, 7] : St V })
              (Out.stop EX.nx
                {
                  env :=
                    [(5, AV.int IntKind.i64 (IntKind.i64.wrap ((↑i : Int) + 1))), (16, AV.int IntKind.i64 (IntKind.i64.wrap ((↑i : Int) + 1))),
                      (15, AV.int IntKind.i64 (↑i : Int)),
                      (25,
                        AV.bool
                          !((p.xs.getD (0 + i) (V.enc Kd.cal).dflt).thread == (p.ys.getD (0 + i) (V.enc Kd.cal).dflt).thread &&
                              ((p.xs.getD (0 + i) (V.enc Kd.cal).dflt).op == (p.ys.getD (0 + i) (V.enc Kd.cal).dflt).op &&
                                ((p.xs.getD (0 + i) (V.enc Kd.cal).dflt).frm == (p.ys.getD (0 + i) (V.enc Kd.cal).dflt).frm &&
                                  ((p.xs.getD (0 + i) (V.enc Kd.cal).dflt).at_ == (p.ys.getD (0 + i) (V.enc Kd.cal).dflt).at_ &&
                                    ((p.xs.getD (0 + i) (V.enc Kd.cal).dflt).to_ == (p.ys.getD (0 + i) (V.enc Kd.cal).dflt).to_ && true)))))),
                      (24,
                        AV.agg
                          [AV.int IntKind.i64 (p.ys.getD (0 + i) (V.enc Kd.cal).dflt).thread, AV.int IntKind.i64 (p.ys.getD (0 + i) (V.enc Kd.cal).dflt).op,
                            AV.int IntKind.i64 (p.ys.getD (0 + i) (V.enc Kd.cal).dflt).frm, AV.int IntKind.i64 (p.ys.getD (0 + i) (V.enc Kd.cal).dflt).at_,
                            AV.int IntKind.i64 (p.ys.getD (0 + i) (V.enc Kd.cal).dflt).to_]),
                      (23, AV.ptrR 1 (0 + i) 5 0), (22, AV.int IntKind.i64 (↑i : Int)), (21, AV.sl false 1 0 5 p.ys.length p.4),
                      (20,
                        AV.agg
                          [AV.int IntKind.i64 (p.xs.getD (0 + i) (V.enc Kd.cal).dflt).thread, AV.int IntKind.i64 (p.xs.getD (0 + i) (V.enc Kd.cal).dflt).op,
                            AV.int IntKind.i64 (p.xs.getD (0 + i) (V.enc Kd.cal).dflt).frm, AV.int IntKind.i64 (p.xs.getD (0 + i) (V.enc Kd.cal).dflt).at_,
                            AV.int IntKind.i64 (p.xs.getD (0 + i) (V.enc Kd.cal).dflt).to_]),
                      (19, AV.ptrR 0 (0 + i) 5 0), (18, AV.int IntKind.i64 (↑i : Int)), (17, AV.sl false 0 0 5 p.xs.length p.2),
                      (14, AV.bool (decide ((↑i : Int) < (↑p.xs.length : Int)))), (13, AV.int IntKind.i64 (↑p.xs.length : Int)),
                      (12, AV.sl false 0 0 5 p.xs.length p.2), (11, AV.int IntKind.i64 (↑i : Int)), (0, AV.sl false 0 0 5 p.xs.length p.2),
                      (1, AV.sl false 1 0 5 p.ys.length p.4), (5, AV.int IntKind.i64 (↑i : Int))],
                  heap := [(0, Blk.ro Kd.cal p.xs), (1, Blk.ro Kd.cal p.ys)], nx := 2, nt := 26, tl := [0, 1, 2, 3, 4, 5, 6, 7] : St V }))))))
    (Out.stop (EX.ex 0)
      {
        env :=
          [(14, AV.bool (decide ((↑i : Int) < (↑p.xs.length : Int)))), (13, AV.int IntKind.i64 (↑p.xs.length : Int)), (12, AV.sl false 0 0 5 p.xs.length p.2),
            (11, AV.int IntKind.i64 (↑i : Int)), (0, AV.sl false 0 0 5 p.xs.length p.2), (1, AV.sl false 1 0 5 p.ys.length p.4),
            (5, AV.int IntKind.i64 (↑i : Int))],
        heap := [(0, Blk.ro Kd.cal p.xs), (1, Blk.ro Kd.cal p.ys)], nx := 2, nt := 26, tl := [0, 1, 2, 3, 4, 5, 6, 7] : St V }) := by kernel_rfl

theorem t13 (xs ys : List Rec) (c d : Nat) : runF cfgD 40 13 Try.f13 [.sl false 0 0 8 xs.length c, .sl false 1 0 8 ys.length d] [(0, .ro Kd.rcd xs), (1, .ro Kd.rcd ys)] 2 =
  Out.ite ((↑xs.length : Int) != (↑ys.length : Int)) (Out.fin AV.ff [(0, Blk.ro Kd.rcd xs), (1, Blk.ro Kd.rcd ys)] 2)
    (Out.need (LoopFor Try.prog 13 0 (loopOf Try.f13 0) L13)
      (Out.ex (PR Rec) fun y =>
        Out.ex (List (Nat × Nat)) fun y_1 =>
          Out.need
            (2 ≤ 2 ∧
              Wk 2 y_1
                {
                  env :=
                    [(5, AV.lit IntKind.i64 0), (10, AV.bool ((↑xs.length : Int) != (↑ys.length : Int))), (9, AV.int IntKind.i64 (↑ys.length : Int)),
                      (8, AV.sl false 1 0 8 ys.length d), (7, AV.int IntKind.i64 (↑xs.length : Int)), (6, AV.sl false 0 0 8 xs.length c), (4, AV.ff),
                      (0, AV.sl false 0 0 8 xs.length c), (1, AV.sl false 1 0 8 ys.length d)],
                  heap := [(0, Blk.ro Kd.rcd xs), (1, Blk.ro Kd.rcd ys)], nx := 2, nt := 26, tl := [] : St V }
                ((fun p => I13 p 0) y))
            ((Out.all Unit fun y_2 => Out.asm ((fun p x => p.xs = p.ys) y y_2) (Out.fin AV.tt [(0, Blk.ro Kd.rcd y.xs), (1, Blk.ro Kd.rcd y.ys)] 2)).both
              (Out.all Unit fun y_2 => Out.asm ((fun p x => p.xs ≠ p.ys) y y_2) (Out.fin AV.ff [(0, Blk.ro Kd.rcd y.xs), (1, Blk.ro Kd.rcd y.ys)] 2))))) := by kernel_rfl

theorem t22 (xs ys : List Com) (c d : Nat) : runF cfgD 40 22 Try.f22 [.sl false 0 0 4 xs.length c, .sl false 1 0 4 ys.length d] [(0, .ro Kd.com xs), (1, .ro Kd.com ys)] 2 =
  Out.ite ((↑xs.length : Int) != (↑ys.length : Int)) (Out.fin AV.ff [(0, Blk.ro Kd.com xs), (1, Blk.ro Kd.com ys)] 2)
    (Out.need (LoopFor Try.prog 22 0 (loopOf Try.f22 0) L22)
      (Out.ex (PR Com) fun y =>
        Out.ex (List (Nat × Nat)) fun y_1 =>
          Out.need
            (2 ≤ 2 ∧
              Wk 2 y_1
                {
                  env :=
                    [(5, AV.lit IntKind.i64 0), (10, AV.bool ((↑xs.length : Int) != (↑ys.length : Int))), (9, AV.int IntKind.i64 (↑ys.length : Int)),
                      (8, AV.sl false 1 0 4 ys.length d), (7, AV.int IntKind.i64 (↑xs.length : Int)), (6, AV.sl false 0 0 4 xs.length c), (4, AV.ff),
                      (0, AV.sl false 0 0 4 xs.length c), (1, AV.sl false 1 0 4 ys.length d)],
                  heap := [(0, Blk.ro Kd.com xs), (1, Blk.ro Kd.com ys)], nx := 2, nt := 26, tl := [] : St V }
                ((fun p => I22 p 0) y))
            ((Out.all Unit fun y_2 => Out.asm ((fun p x => p.xs = p.ys) y y_2) (Out.fin AV.tt [(0, Blk.ro Kd.com y.xs), (1, Blk.ro Kd.com y.ys)] 2)).both
              (Out.all Unit fun y_2 => Out.asm ((fun p x => p.xs ≠ p.ys) y y_2) (Out.fin AV.ff [(0, Blk.ro Kd.com y.xs), (1, Blk.ro Kd.com y.ys)] 2))))) := by kernel_rfl

theorem t21 (xs ys : List Cal) (c d : Nat) : runF cfgD 40 21 Try.f21 [.sl false 0 0 5 xs.length c, .sl false 1 0 5 ys.length d] [(0, .ro Kd.cal xs), (1, .ro Kd.cal ys)] 2 =
  Out.ite ((↑xs.length : Int) != (↑ys.length : Int)) (Out.fin AV.ff [(0, Blk.ro Kd.cal xs), (1, Blk.ro Kd.cal ys)] 2)
    (Out.need (LoopFor Try.prog 21 0 (loopOf Try.f21 0) L21)
      (Out.ex (PR Cal) fun y =>
        Out.ex (List (Nat × Nat)) fun y_1 =>
          Out.need
            (2 ≤ 2 ∧
              Wk 2 y_1
                {
                  env :=
                    [(5, AV.lit IntKind.i64 0), (10, AV.bool ((↑xs.length : Int) != (↑ys.length : Int))), (9, AV.int IntKind.i64 (↑ys.length : Int)),
                      (8, AV.sl false 1 0 5 ys.length d), (7, AV.int IntKind.i64 (↑xs.length : Int)), (6, AV.sl false 0 0 5 xs.length c), (4, AV.ff),
                      (0, AV.sl false 0 0 5 xs.length c), (1, AV.sl false 1 0 5 ys.length d)],
                  heap := [(0, Blk.ro Kd.cal xs), (1, Blk.ro Kd.cal ys)], nx := 2, nt := 26, tl := [] : St V }
                ((fun p => I21 p 0) y))
            ((Out.all Unit fun y_2 => Out.asm ((fun p x => p.xs = p.ys) y y_2) (Out.fin AV.tt [(0, Blk.ro Kd.cal y.xs), (1, Blk.ro Kd.cal y.ys)] 2)).both
              (Out.all Unit fun y_2 => Out.asm ((fun p x => p.xs ≠ p.ys) y y_2) (Out.fin AV.ff [(0, Blk.ro Kd.cal y.xs), (1, Blk.ro Kd.cal y.ys)] 2))))) := by kernel_rfl

end Sx
end Go.Proofs.Ytemcdjdglcceiaa
