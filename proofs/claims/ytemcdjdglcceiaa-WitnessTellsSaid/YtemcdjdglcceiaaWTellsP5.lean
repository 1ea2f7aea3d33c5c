/-
  The sorted row of the document: the runs of the machine.
-/
import Derived.Test.YtemcdjdglcceiaaWTellsP4
namespace Go.Proofs.Ytemcdjdglcceiaa
namespace Sx
open Go
set_option maxRecDepth 100000
set_option linter.unusedVariables false

noncomputable def cfgS0 : Cfg Try.prog V := ⟨tab, kinds, fun _ => none, fun _ => none, fun _ _ => none⟩
structure QPR where
  l : List Pr
  c : Nat
  k : Int
  hb : l.length ≤ 1099511627776
def QI3 (p : QPR) (i : Nat) : St V := ⟨[(0, .sl false 0 0 2 p.l.length p.c), (1, .int .i64 p.k), (5, .int .i64 (i : Int))], [(0, .ro Kd.pr p.l)], 2, 20, TQ⟩
def QR3 (p : QPR) (i : Nat) : St V := ⟨[(4, .int .i64 (i : Int))], [(0, .ro Kd.pr p.l)], 2, 20, TQ⟩
def QL3 : LoopS V := trimLoop (trimSt [0, 1, 5] [0]) (loopG 2 (fun p : QPR => QI3 p 0) (fun p (_ : Unit) => fnd p.l p.k = p.l.length) (fun p _ => QI3 p p.l.length) (fun p (_ : Unit) => fnd p.l p.k < p.l.length) (fun p _ => QR3 p (fnd p.l p.k)))
noncomputable def cfgS1 : Cfg Try.prog V := ⟨tab, kinds, fun _ => none, fun _ => none, fun f id => match f, id with | 69, 0 => some QL3 | _, _ => none⟩
def runFind : RunFree V := fun ar K => match ar with
  | [.rows .pr l c, .int .i64 k] => .need (l.length ≤ 1099511627776) (K (.int .i64 (fndI l k)) [])
  | _ => .bad 500
def runWithout : RunFree V := fun ar K => match ar with
  | [.rows .pr l c, .int .i64 k] => .need (l.length ≤ 1099511627776 ∧ 0 ≤ k ∧ k < (l.length : Int) ∧ k ≤ (c : Int)) (.all Nat fun sp => K (.sl false 0 0 2 (without l k.toNat).length ((without l k.toNat).length + sp)) [.arr 89 Kd.pr (without l k.toNat) sp])
  | _ => .bad 500
def hooksS2 : Nat → Option (HookS V) := fun g => match g with
  | 69 => some (hookFree [.rows Kd.pr, .int .i64] runFind)
  | 70 => some (hookFree [.rows Kd.pr, .int .i64] runWithout)
  | _ => none
structure QPS where
  k : Int
  v : Int
  own : List Pr
  sp : Nat
  hb : own.length ≤ 1099511627776
def QI4 (p : QPS) (i : Nat) : St V := ⟨[(2, .int .i64 p.k), (3, .int .i64 p.v), (8, .ptr 4 0), (11, .sl false 30 0 2 p.own.length (p.own.length + p.sp)), (13, .int .i64 (i : Int))], [(30, .arr 89 Kd.pr p.own p.sp), (4, .cells 27 [.lit .i64 0, .lit .i64 0, .lit .i64 0, .ff])], 31, 92, TQ⟩
def QL4 : LoopS V := trimLoop (trimSt [2, 3, 8, 11, 13] [4, 6, 10]) (loopH 30 (fun p : QPS => QI4 p 0) (fun _ (_ : Unit) => True) (fun p _ => QI4 p (below p.own p.k)))
noncomputable def cfgS2 : Cfg Try.prog V := ⟨tab, kinds, fun _ => none, hooksS2, fun _ _ => none⟩
noncomputable def cfgS3 : Cfg Try.prog V := ⟨tab, kinds, fun _ => none, hooksS2, fun f id => match f, id with | 68, 1 => some QL4 | _, _ => none⟩
theorem qb3 (p : QPR) (i : Nat) : runCode cfgS0 60 69 (loopOf Try.f69 0) (QI3 p i) (stopT (trimSt [0, 1, 4, 5] [0])) = Out.ite (decide ((↑i : Int) < (↑p.l.length : Int))) (Out.need (0 ≤ (↑i : Int) ∧ (↑i : Int) < (↑p.l.length : Int)) (Out.need (0 + i < p.l.length) (Out.ite ((p.l.getD (0 + i) (V.enc Kd.pr).dflt).k == p.k) (Out.stop EX.rt {env := [(0, .sl false 0 0 2 p.l.length p.2), (1, .int .i64 p.k), (4, .int .i64 (↑i : Int)), (5, .int .i64 (↑i : Int))], heap := [(0, .ro Kd.pr p.l)], nx := 2, nt := 20, tl := [0, 1, 2, 3, 4, 5, 6, 7, 8, 9, 10, 11, 12, 13, 14, 15, 16] : St V }) (Out.stop EX.nx {env := [(0, .sl false 0 0 2 p.l.length p.2), (1, .int .i64 p.k), (4, .und), (5, .int .i64 (IntKind.i64.wrap ((↑i : Int) + 1)))], heap := [(0, .ro Kd.pr p.l)], nx := 2, nt := 20, tl := [0, 1, 2, 3, 4, 5, 6, 7, 8, 9, 10, 11, 12, 13, 14, 15, 16] : St V })))) (Out.stop (EX.ex 0) {env := [(0, .sl false 0 0 2 p.l.length p.2), (1, .int .i64 p.k), (4, .und), (5, .int .i64 (↑i : Int))], heap := [(0, .ro Kd.pr p.l)], nx := 2, nt := 20, tl := [0, 1, 2, 3, 4, 5, 6, 7, 8, 9, 10, 11, 12, 13, 14, 15, 16] : St V }) := by kernel_rfl

theorem qt3 (l : List Pr) (c : Nat) (k : Int) : runF cfgS1 60 69 Try.f69 [.sl false 0 0 2 l.length c, .int .i64 k] [(0, .ro Kd.pr l)] 2 = Out.need (LoopFor Try.prog 69 0 (loopOf Try.f69 0) QL3) (Out.ex (QPR → Prop) fun y => Out.need (2 ≤ 2 ∧ SImp 2 {env := [(0, .sl false 0 0 2 l.length c), (1, .int .i64 k), (5, .lit .i64 0)], heap := [(0, .ro Kd.pr l)], nx := 2, nt := 20, tl := [] : St V } (fun p => QI3 p 0) y) (Out.all QPR fun y_1 => Out.asm (y y_1) ((Out.all Unit fun y => Out.asm ((fun p x => fnd p.l p.k = p.l.length) y_1 y) (Out.fin (.lit .i64 (-1)) [(0, .ro Kd.pr y_1.l)] 2)).both (Out.all Unit fun y => Out.asm ((fun p x => fnd p.l p.k < p.l.length) y_1 y) (Out.fin (.int .i64 (↑(fnd y_1.l y_1.k) : Int)) [(0, .ro Kd.pr y_1.l)] 2))))) := by kernel_rfl

theorem qt5 (l : List Pr) (c : Nat) (k : Int) : runF cfgS1 60 70 Try.f70 [.sl false 0 0 2 l.length c, .int .i64 k] [(0, .ro Kd.pr l)] 2 = Out.need (0 ≤ k ∧ k ≤ (↑c : Int)) (Out.need (0 ≤ IntKind.i64.wrap (k + 1) ∧ IntKind.i64.wrap (k + 1) ≤ (↑l.length : Int)) (Out.need (0 + k.toNat ≤ l.length) (Out.need ((List.take k.toNat (List.drop 0 l)).length * 16 ≤ 140737488355328) (Out.all Nat fun y => Out.need (0 + (IntKind.i64.wrap (k + 1)).toNat + (l.length - (IntKind.i64.wrap (k + 1)).toNat) ≤ l.length) (Out.need (0 = 0 ∧ (List.take k.toNat (List.drop 0 l)).length = (List.take k.toNat (List.drop 0 l)).length ∧ (List.take k.toNat (List.drop 0 l)).length + y = (List.take k.toNat (List.drop 0 l)).length + y ∧ ((List.take k.toNat (List.drop 0 l)).length + (List.take (l.length - (IntKind.i64.wrap (k + 1)).toNat) (List.drop (0 + (IntKind.i64.wrap (k + 1)).toNat) l)).length) * 16 ≤ 140737488355328) (Out.all Nat fun y => Out.fin (.sl false 4 0 2 ((List.take k.toNat (List.drop 0 l)).length + (List.take (l.length - (IntKind.i64.wrap (k + 1)).toNat) (List.drop (0 + (IntKind.i64.wrap (k + 1)).toNat) l)).length) ((List.take k.toNat (List.drop 0 l)).length + (List.take (l.length - (IntKind.i64.wrap (k + 1)).toNat) (List.drop (0 + (IntKind.i64.wrap (k + 1)).toNat) l)).length + y)) [(4, .arr 89 Kd.pr (List.take k.toNat (List.drop 0 l) ++ List.take (l.length - (IntKind.i64.wrap (k + 1)).toNat) (List.drop (0 + (IntKind.i64.wrap (k + 1)).toNat) l)) y), (2, .cells 89 []), (0, .ro Kd.pr l)] 5)))))) := by kernel_rfl

theorem qb4 (p : QPS) (i : Nat) : runCode cfgS2 60 68 (loopOf Try.f68 1) (QI4 p i) (stopT (trimSt [2, 3, 8, 11, 13] [4, 30])) = Out.ite (decide ((↑i : Int) < (↑p.own.length : Int))) (Out.need (0 ≤ (↑i : Int) ∧ (↑i : Int) < (↑p.own.length : Int)) (Out.need (0 + i < p.own.length) (Out.ite (decide ((p.own.getD (0 + i) (V.enc Kd.pr).dflt).k < p.k)) (Out.stop EX.nx {env := [(2, .int .i64 p.k), (3, .int .i64 p.v), (8, .ptr 4 0), (11, .sl false 30 0 2 p.own.length (p.own.length + p.4)), (13, .int .i64 (IntKind.i64.wrap ((↑i : Int) + 1)))], heap := [(30, .arr 89 Kd.pr p.own p.4), (4, .cells 27 [.lit .i64 0, .lit .i64 0, .lit .i64 0, .ff])], nx := 31, nt := 92, tl := [0, 1, 2, 3, 4, 5, 6, 7, 8, 9, 10, 11, 12, 13, 14, 15, 16] : St V }) (Out.stop (EX.ex 1) {env := [(2, .int .i64 p.k), (3, .int .i64 p.v), (8, .ptr 4 0), (11, .sl false 30 0 2 p.own.length (p.own.length + p.4)), (13, .int .i64 (↑i : Int))], heap := [(30, .arr 89 Kd.pr p.own p.4), (4, .cells 27 [.lit .i64 0, .lit .i64 0, .lit .i64 0, .ff])], nx := 31, nt := 92, tl := [0, 1, 2, 3, 4, 5, 6, 7, 8, 9, 10, 11, 12, 13, 14, 15, 16] : St V })))) (Out.stop (EX.ex 1) {env := [(2, .int .i64 p.k), (3, .int .i64 p.v), (8, .ptr 4 0), (11, .sl false 30 0 2 p.own.length (p.own.length + p.4)), (13, .int .i64 (↑i : Int))], heap := [(30, .arr 89 Kd.pr p.own p.4), (4, .cells 27 [.lit .i64 0, .lit .i64 0, .lit .i64 0, .ff])], nx := 31, nt := 92, tl := [0, 1, 2, 3, 4, 5, 6, 7, 8, 9, 10, 11, 12, 13, 14, 15, 16] : St V }) := by kernel_rfl

theorem qt4 (m : List Pr) (c : Nat) (d k v : Int) : runF cfgS3 60 68 Try.f68 [.sl false 0 0 2 m.length c, .int .i64 d, .int .i64 k, .int .i64 v] [(0, .ro Kd.pr m)] 4 = Out.need (0 + m.length ≤ m.length) (Out.need ((List.take m.length (List.drop 0 m)).length ≤ 1099511627776) (Out.need (0 + m.length ≤ m.length) (Out.need ((List.take m.length (List.drop 0 m)).length * 16 ≤ 140737488355328) (Out.all Nat fun y => Out.ite (decide (fndI (List.take m.length (List.drop 0 m)) k ≥ 0)) (Out.need (0 ≤ fndI (List.take m.length (List.drop 0 m)) k ∧ fndI (List.take m.length (List.drop 0 m)) k < (↑m.length : Int)) (Out.need (0 + (fndI (List.take m.length (List.drop 0 m)) k).toNat < m.length) (Out.ite (d == 1) (Out.fin (.tup [.agg [.int .i64 d, .int .i64 k, .int .i64 (m.getD (0 + (fndI (List.take m.length (List.drop 0 m)) k).toNat) (V.enc Kd.pr).dflt).v, .bool (decide (fndI (List.take m.length (List.drop 0 m)) k ≥ 0))], .sl false 6 0 2 (List.take m.length (List.drop 0 m)).length ((List.take m.length (List.drop 0 m)).length + y)]) [(7, .cells 27 [.int .i64 d, .int .i64 k, .int .i64 (m.getD (0 + (fndI (List.take m.length (List.drop 0 m)) k).toNat) (V.enc Kd.pr).dflt).v, .bool (decide (fndI (List.take m.length (List.drop 0 m)) k ≥ 0))]), (6, .arr 89 Kd.pr (List.take m.length (List.drop 0 m)) y), (5, .cells 89 []), (4, .cells 27 [.int .i64 d, .int .i64 k, .int .i64 (m.getD (0 + (fndI (List.take m.length (List.drop 0 m)) k).toNat) (V.enc Kd.pr).dflt).v, .bool (decide (fndI (List.take m.length (List.drop 0 m)) k ≥ 0))]), (0, .ro Kd.pr m)] 11) (Out.ite (d == 2) (Out.ite (decide (fndI (List.take m.length (List.drop 0 m)) k ≥ 0)) (Out.need (0 + (List.take m.length (List.drop 0 m)).length ≤ (List.take m.length (List.drop 0 m)).length) (Out.need ((List.take (List.take m.length (List.drop 0 m)).length (List.drop 0 (List.take m.length (List.drop 0 m)))).length ≤ 1099511627776 ∧ 0 ≤ fndI (List.take m.length (List.drop 0 m)) k ∧ fndI (List.take m.length (List.drop 0 m)) k < (↑(List.take (List.take m.length (List.drop 0 m)).length (List.drop 0 (List.take m.length (List.drop 0 m)))).length : Int) ∧ fndI (List.take m.length (List.drop 0 m)) k ≤ (↑((List.take m.length (List.drop 0 m)).length + y) : Int)) (Out.all Nat fun y_1 => Out.need (LoopFor Try.prog 68 1 (loopOf Try.f68 1) QL4) (Out.ex (QPS → Prop) fun y_2 => Out.need (11 ≤ 30 ∧ SImp 30 {env := [(2, .int .i64 k), (3, .int .i64 v), (8, .ptr 4 0), (11, .sl false 10 0 2 (without (List.take (List.take m.length (List.drop 0 m)).length (List.drop 0 (List.take m.length (List.drop 0 m)))) (fndI (List.take m.length (List.drop 0 m)) k).toNat).length ((without (List.take (List.take m.length (List.drop 0 m)).length (List.drop 0 (List.take m.length (List.drop 0 m)))) (fndI (List.take m.length (List.drop 0 m)) k).toNat).length + y_1)), (13, .lit .i64 0)], heap := [(10, .arr 89 Kd.pr (without (List.take (List.take m.length (List.drop 0 m)).length (List.drop 0 (List.take m.length (List.drop 0 m)))) (fndI (List.take m.length (List.drop 0 m)) k).toNat) y_1), (6, .arr 89 Kd.pr (List.take m.length (List.drop 0 m)) y), (4, .cells 27 [.lit .i64 0, .lit .i64 0, .lit .i64 0, .ff])], nx := 11, nt := 92, tl := [7, 5, 0, 7, 7] : St V } (fun p => QI4 p 0) y_2) (Out.all QPS fun y => Out.asm (y_2 y) (Out.all Unit fun y_3 => Out.asm ((fun x x_1 => True) y y_3) (Out.need (0 ≤ (↑(below y.own y.k) : Int) ∧ (↑(below y.own y.k) : Int) ≤ (↑(y.own.length + y.4) : Int)) (Out.need (0 ≤ (↑(below y.own y.k) : Int) ∧ (↑(below y.own y.k) : Int) ≤ (↑y.own.length : Int)) (((Out.need (0 + (↑(below y.own y.k) : Int).toNat ≤ y.own.length) (Out.need ((List.take (↑(below y.own y.k) : Int).toNat (List.drop 0 y.own)).length * 16 ≤ 140737488355328) (Out.all Nat fun y_4 => Out.need (0 = 0 ∧ (List.take (↑(below y.own y.k) : Int).toNat (List.drop 0 y.own)).length = (List.take (↑(below y.own y.k) : Int).toNat (List.drop 0 y.own)).length ∧ (List.take (↑(below y.own y.k) : Int).toNat (List.drop 0 y.own)).length + y_4 = (List.take (↑(below y.own y.k) : Int).toNat (List.drop 0 y.own)).length + y_4 ∧ ((List.take (↑(below y.own y.k) : Int).toNat (List.drop 0 y.own)).length + 1) * 16 ≤ 140737488355328) (Out.all Nat fun y_5 => Out.need (0 + (↑(below y.own y.k) : Int).toNat + (y.own.length - (↑(below y.own y.k) : Int).toNat) ≤ y.own.length) (Out.need (0 = 0 ∧ (List.take (↑(below y.own y.k) : Int).toNat (List.drop 0 y.own)).length + 1 = (List.take (↑(below y.own y.k) : Int).toNat (List.drop 0 y.own) ++ [{k := y.k, v := y.v : Pr }]).length ∧ (List.take (↑(below y.own y.k) : Int).toNat (List.drop 0 y.own)).length + 1 + y_5 = (List.take (↑(below y.own y.k) : Int).toNat (List.drop 0 y.own) ++ [{k := y.k, v := y.v : Pr }]).length + y_5 ∧ ((List.take (↑(below y.own y.k) : Int).toNat (List.drop 0 y.own) ++ [{k := y.k, v := y.v : Pr }]).length + (List.take (y.own.length - (↑(below y.own y.k) : Int).toNat) (List.drop (0 + (↑(below y.own y.k) : Int).toNat) y.own)).length) * 16 ≤ 140737488355328) (Out.all Nat fun y_6 => Out.fin (.tup [.agg [.lit .i64 2, .int .i64 y.k, .int .i64 y.v, .ff], .sl false 35 0 2 ((List.take (↑(below y.own y.k) : Int).toNat (List.drop 0 y.own) ++ [{k := y.k, v := y.v : Pr }]).length + (List.take (y.own.length - (↑(below y.own y.k) : Int).toNat) (List.drop (0 + (↑(below y.own y.k) : Int).toNat) y.own)).length) ((List.take (↑(below y.own y.k) : Int).toNat (List.drop 0 y.own) ++ [{k := y.k, v := y.v : Pr }]).length + (List.take (y.own.length - (↑(below y.own y.k) : Int).toNat) (List.drop (0 + (↑(below y.own y.k) : Int).toNat) y.own)).length + y_6)]) [(35, .arr 89 Kd.pr (List.take (↑(below y.own y.k) : Int).toNat (List.drop 0 y.own) ++ [{k := y.k, v := y.v : Pr }] ++ List.take (y.own.length - (↑(below y.own y.k) : Int).toNat) (List.drop (0 + (↑(below y.own y.k) : Int).toNat) y.own)) y_6), (33, .cells 89 [.int .i64 y.k, .int .i64 y.v]), (31, .cells 89 []), (30, .arr 89 Kd.pr y.own y.4), (4, .cells 27 [.lit .i64 2, .int .i64 y.k, .int .i64 y.v, .ff])] 37)))))).both (Out.need (0 + (↑(below y.own y.k) : Int).toNat ≤ y.own.length) (Out.need ((List.take (↑(below y.own y.k) : Int).toNat (List.drop 0 y.own)).length * 16 ≤ 140737488355328) (Out.all Nat fun y_4 => Out.need (0 = 0 ∧ (List.take (↑(below y.own y.k) : Int).toNat (List.drop 0 y.own)).length = (List.take (↑(below y.own y.k) : Int).toNat (List.drop 0 y.own)).length ∧ (List.take (↑(below y.own y.k) : Int).toNat (List.drop 0 y.own)).length + y_4 = (List.take (↑(below y.own y.k) : Int).toNat (List.drop 0 y.own)).length + y_4 ∧ ((List.take (↑(below y.own y.k) : Int).toNat (List.drop 0 y.own)).length + 1) * 16 ≤ 140737488355328) (Out.all Nat fun y_5 => Out.need (0 + (↑(below y.own y.k) : Int).toNat + (y.own.length - (↑(below y.own y.k) : Int).toNat) ≤ y.own.length) (Out.need (0 = 0 ∧ (List.take (↑(below y.own y.k) : Int).toNat (List.drop 0 y.own)).length + 1 = (List.take (↑(below y.own y.k) : Int).toNat (List.drop 0 y.own) ++ [{k := y.k, v := y.v : Pr }]).length ∧ (List.take (↑(below y.own y.k) : Int).toNat (List.drop 0 y.own)).length + 1 + y_5 = (List.take (↑(below y.own y.k) : Int).toNat (List.drop 0 y.own) ++ [{k := y.k, v := y.v : Pr }]).length + y_5 ∧ ((List.take (↑(below y.own y.k) : Int).toNat (List.drop 0 y.own) ++ [{k := y.k, v := y.v : Pr }]).length + (List.take (y.own.length - (↑(below y.own y.k) : Int).toNat) (List.drop (0 + (↑(below y.own y.k) : Int).toNat) y.own)).length) * 16 ≤ 140737488355328) (Out.all Nat fun y_6 => Out.fin (.tup [.agg [.lit .i64 2, .int .i64 y.k, .int .i64 y.v, .ff], .sl false 35 0 2 ((List.take (↑(below y.own y.k) : Int).toNat (List.drop 0 y.own) ++ [{k := y.k, v := y.v : Pr }]).length + (List.take (y.own.length - (↑(below y.own y.k) : Int).toNat) (List.drop (0 + (↑(below y.own y.k) : Int).toNat) y.own)).length) ((List.take (↑(below y.own y.k) : Int).toNat (List.drop 0 y.own) ++ [{k := y.k, v := y.v : Pr }]).length + (List.take (y.own.length - (↑(below y.own y.k) : Int).toNat) (List.drop (0 + (↑(below y.own y.k) : Int).toNat) y.own)).length + y_6)]) [(35, .arr 89 Kd.pr (List.take (↑(below y.own y.k) : Int).toNat (List.drop 0 y.own) ++ [{k := y.k, v := y.v : Pr }] ++ List.take (y.own.length - (↑(below y.own y.k) : Int).toNat) (List.drop (0 + (↑(below y.own y.k) : Int).toNat) y.own)) y_6), (32, .cells 89 [.int .i64 y.k, .int .i64 y.v]), (31, .cells 89 []), (30, .arr 89 Kd.pr y.own y.4), (4, .cells 27 [.lit .i64 2, .int .i64 y.k, .int .i64 y.v, .ff])] 37))))))).both (Out.need (0 + (↑(below y.own y.k) : Int).toNat ≤ y.own.length) (Out.need ((List.take (↑(below y.own y.k) : Int).toNat (List.drop 0 y.own)).length * 16 ≤ 140737488355328) (Out.all Nat fun y_4 => Out.need (0 = 0 ∧ (List.take (↑(below y.own y.k) : Int).toNat (List.drop 0 y.own)).length = (List.take (↑(below y.own y.k) : Int).toNat (List.drop 0 y.own)).length ∧ (List.take (↑(below y.own y.k) : Int).toNat (List.drop 0 y.own)).length + y_4 = (List.take (↑(below y.own y.k) : Int).toNat (List.drop 0 y.own)).length + y_4 ∧ ((List.take (↑(below y.own y.k) : Int).toNat (List.drop 0 y.own)).length + 1) * 16 ≤ 140737488355328) (Out.all Nat fun y_5 => Out.need (0 + (↑(below y.own y.k) : Int).toNat + (y.own.length - (↑(below y.own y.k) : Int).toNat) ≤ y.own.length) (Out.need (0 = 0 ∧ (List.take (↑(below y.own y.k) : Int).toNat (List.drop 0 y.own)).length + 1 = (List.take (↑(below y.own y.k) : Int).toNat (List.drop 0 y.own) ++ [{k := y.k, v := y.v : Pr }]).length ∧ (List.take (↑(below y.own y.k) : Int).toNat (List.drop 0 y.own)).length + 1 + y_5 = (List.take (↑(below y.own y.k) : Int).toNat (List.drop 0 y.own) ++ [{k := y.k, v := y.v : Pr }]).length + y_5 ∧ ((List.take (↑(below y.own y.k) : Int).toNat (List.drop 0 y.own) ++ [{k := y.k, v := y.v : Pr }]).length + (List.take (y.own.length - (↑(below y.own y.k) : Int).toNat) (List.drop (0 + (↑(below y.own y.k) : Int).toNat) y.own)).length) * 16 ≤ 140737488355328) (Out.all Nat fun y_6 => Out.fin (.tup [.agg [.lit .i64 2, .int .i64 y.k, .int .i64 y.v, .ff], .sl false 35 0 2 ((List.take (↑(below y.own y.k) : Int).toNat (List.drop 0 y.own) ++ [{k := y.k, v := y.v : Pr }]).length + (List.take (y.own.length - (↑(below y.own y.k) : Int).toNat) (List.drop (0 + (↑(below y.own y.k) : Int).toNat) y.own)).length) ((List.take (↑(below y.own y.k) : Int).toNat (List.drop 0 y.own) ++ [{k := y.k, v := y.v : Pr }]).length + (List.take (y.own.length - (↑(below y.own y.k) : Int).toNat) (List.drop (0 + (↑(below y.own y.k) : Int).toNat) y.own)).length + y_6)]) [(35, .arr 89 Kd.pr (List.take (↑(below y.own y.k) : Int).toNat (List.drop 0 y.own) ++ [{k := y.k, v := y.v : Pr }] ++ List.take (y.own.length - (↑(below y.own y.k) : Int).toNat) (List.drop (0 + (↑(below y.own y.k) : Int).toNat) y.own)) y_6), (32, .cells 89 []), (31, .cells 89 [.int .i64 y.k, .int .i64 y.v]), (30, .arr 89 Kd.pr y.own y.4), (4, .cells 27 [.lit .i64 2, .int .i64 y.k, .int .i64 y.v, .ff])] 37))))))))))))))) (Out.need (LoopFor Try.prog 68 1 (loopOf Try.f68 1) QL4) (Out.ex (QPS → Prop) fun y_1 => Out.need (10 ≤ 30 ∧ SImp 30 {env := [(2, .int .i64 k), (3, .int .i64 v), (8, .ptr 4 0), (11, .sl false 6 0 2 (List.take m.length (List.drop 0 m)).length ((List.take m.length (List.drop 0 m)).length + y)), (13, .lit .i64 0)], heap := [(6, .arr 89 Kd.pr (List.take m.length (List.drop 0 m)) y), (4, .cells 27 [.lit .i64 0, .lit .i64 0, .lit .i64 0, .ff])], nx := 10, nt := 92, tl := [7, 5, 0, 7, 7] : St V } (fun p => QI4 p 0) y_1) (Out.all QPS fun y => Out.asm (y_1 y) (Out.all Unit fun y_2 => Out.asm ((fun x x_1 => True) y y_2) (Out.need (0 ≤ (↑(below y.own y.k) : Int) ∧ (↑(below y.own y.k) : Int) ≤ (↑(y.own.length + y.4) : Int)) (Out.need (0 ≤ (↑(below y.own y.k) : Int) ∧ (↑(below y.own y.k) : Int) ≤ (↑y.own.length : Int)) (((Out.need (0 + (↑(below y.own y.k) : Int).toNat ≤ y.own.length) (Out.need ((List.take (↑(below y.own y.k) : Int).toNat (List.drop 0 y.own)).length * 16 ≤ 140737488355328) (Out.all Nat fun y_3 => Out.need (0 = 0 ∧ (List.take (↑(below y.own y.k) : Int).toNat (List.drop 0 y.own)).length = (List.take (↑(below y.own y.k) : Int).toNat (List.drop 0 y.own)).length ∧ (List.take (↑(below y.own y.k) : Int).toNat (List.drop 0 y.own)).length + y_3 = (List.take (↑(below y.own y.k) : Int).toNat (List.drop 0 y.own)).length + y_3 ∧ ((List.take (↑(below y.own y.k) : Int).toNat (List.drop 0 y.own)).length + 1) * 16 ≤ 140737488355328) (Out.all Nat fun y_4 => Out.need (0 + (↑(below y.own y.k) : Int).toNat + (y.own.length - (↑(below y.own y.k) : Int).toNat) ≤ y.own.length) (Out.need (0 = 0 ∧ (List.take (↑(below y.own y.k) : Int).toNat (List.drop 0 y.own)).length + 1 = (List.take (↑(below y.own y.k) : Int).toNat (List.drop 0 y.own) ++ [{k := y.k, v := y.v : Pr }]).length ∧ (List.take (↑(below y.own y.k) : Int).toNat (List.drop 0 y.own)).length + 1 + y_4 = (List.take (↑(below y.own y.k) : Int).toNat (List.drop 0 y.own) ++ [{k := y.k, v := y.v : Pr }]).length + y_4 ∧ ((List.take (↑(below y.own y.k) : Int).toNat (List.drop 0 y.own) ++ [{k := y.k, v := y.v : Pr }]).length + (List.take (y.own.length - (↑(below y.own y.k) : Int).toNat) (List.drop (0 + (↑(below y.own y.k) : Int).toNat) y.own)).length) * 16 ≤ 140737488355328) (Out.all Nat fun y_5 => Out.fin (.tup [.agg [.lit .i64 2, .int .i64 y.k, .int .i64 y.v, .ff], .sl false 35 0 2 ((List.take (↑(below y.own y.k) : Int).toNat (List.drop 0 y.own) ++ [{k := y.k, v := y.v : Pr }]).length + (List.take (y.own.length - (↑(below y.own y.k) : Int).toNat) (List.drop (0 + (↑(below y.own y.k) : Int).toNat) y.own)).length) ((List.take (↑(below y.own y.k) : Int).toNat (List.drop 0 y.own) ++ [{k := y.k, v := y.v : Pr }]).length + (List.take (y.own.length - (↑(below y.own y.k) : Int).toNat) (List.drop (0 + (↑(below y.own y.k) : Int).toNat) y.own)).length + y_5)]) [(35, .arr 89 Kd.pr (List.take (↑(below y.own y.k) : Int).toNat (List.drop 0 y.own) ++ [{k := y.k, v := y.v : Pr }] ++ List.take (y.own.length - (↑(below y.own y.k) : Int).toNat) (List.drop (0 + (↑(below y.own y.k) : Int).toNat) y.own)) y_5), (33, .cells 89 [.int .i64 y.k, .int .i64 y.v]), (31, .cells 89 []), (30, .arr 89 Kd.pr y.own y.4), (4, .cells 27 [.lit .i64 2, .int .i64 y.k, .int .i64 y.v, .ff])] 37)))))).both (Out.need (0 + (↑(below y.own y.k) : Int).toNat ≤ y.own.length) (Out.need ((List.take (↑(below y.own y.k) : Int).toNat (List.drop 0 y.own)).length * 16 ≤ 140737488355328) (Out.all Nat fun y_3 => Out.need (0 = 0 ∧ (List.take (↑(below y.own y.k) : Int).toNat (List.drop 0 y.own)).length = (List.take (↑(below y.own y.k) : Int).toNat (List.drop 0 y.own)).length ∧ (List.take (↑(below y.own y.k) : Int).toNat (List.drop 0 y.own)).length + y_3 = (List.take (↑(below y.own y.k) : Int).toNat (List.drop 0 y.own)).length + y_3 ∧ ((List.take (↑(below y.own y.k) : Int).toNat (List.drop 0 y.own)).length + 1) * 16 ≤ 140737488355328) (Out.all Nat fun y_4 => Out.need (0 + (↑(below y.own y.k) : Int).toNat + (y.own.length - (↑(below y.own y.k) : Int).toNat) ≤ y.own.length) (Out.need (0 = 0 ∧ (List.take (↑(below y.own y.k) : Int).toNat (List.drop 0 y.own)).length + 1 = (List.take (↑(below y.own y.k) : Int).toNat (List.drop 0 y.own) ++ [{k := y.k, v := y.v : Pr }]).length ∧ (List.take (↑(below y.own y.k) : Int).toNat (List.drop 0 y.own)).length + 1 + y_4 = (List.take (↑(below y.own y.k) : Int).toNat (List.drop 0 y.own) ++ [{k := y.k, v := y.v : Pr }]).length + y_4 ∧ ((List.take (↑(below y.own y.k) : Int).toNat (List.drop 0 y.own) ++ [{k := y.k, v := y.v : Pr }]).length + (List.take (y.own.length - (↑(below y.own y.k) : Int).toNat) (List.drop (0 + (↑(below y.own y.k) : Int).toNat) y.own)).length) * 16 ≤ 140737488355328) (Out.all Nat fun y_5 => Out.fin (.tup [.agg [.lit .i64 2, .int .i64 y.k, .int .i64 y.v, .ff], .sl false 35 0 2 ((List.take (↑(below y.own y.k) : Int).toNat (List.drop 0 y.own) ++ [{k := y.k, v := y.v : Pr }]).length + (List.take (y.own.length - (↑(below y.own y.k) : Int).toNat) (List.drop (0 + (↑(below y.own y.k) : Int).toNat) y.own)).length) ((List.take (↑(below y.own y.k) : Int).toNat (List.drop 0 y.own) ++ [{k := y.k, v := y.v : Pr }]).length + (List.take (y.own.length - (↑(below y.own y.k) : Int).toNat) (List.drop (0 + (↑(below y.own y.k) : Int).toNat) y.own)).length + y_5)]) [(35, .arr 89 Kd.pr (List.take (↑(below y.own y.k) : Int).toNat (List.drop 0 y.own) ++ [{k := y.k, v := y.v : Pr }] ++ List.take (y.own.length - (↑(below y.own y.k) : Int).toNat) (List.drop (0 + (↑(below y.own y.k) : Int).toNat) y.own)) y_5), (32, .cells 89 [.int .i64 y.k, .int .i64 y.v]), (31, .cells 89 []), (30, .arr 89 Kd.pr y.own y.4), (4, .cells 27 [.lit .i64 2, .int .i64 y.k, .int .i64 y.v, .ff])] 37))))))).both (Out.need (0 + (↑(below y.own y.k) : Int).toNat ≤ y.own.length) (Out.need ((List.take (↑(below y.own y.k) : Int).toNat (List.drop 0 y.own)).length * 16 ≤ 140737488355328) (Out.all Nat fun y_3 => Out.need (0 = 0 ∧ (List.take (↑(below y.own y.k) : Int).toNat (List.drop 0 y.own)).length = (List.take (↑(below y.own y.k) : Int).toNat (List.drop 0 y.own)).length ∧ (List.take (↑(below y.own y.k) : Int).toNat (List.drop 0 y.own)).length + y_3 = (List.take (↑(below y.own y.k) : Int).toNat (List.drop 0 y.own)).length + y_3 ∧ ((List.take (↑(below y.own y.k) : Int).toNat (List.drop 0 y.own)).length + 1) * 16 ≤ 140737488355328) (Out.all Nat fun y_4 => Out.need (0 + (↑(below y.own y.k) : Int).toNat + (y.own.length - (↑(below y.own y.k) : Int).toNat) ≤ y.own.length) (Out.need (0 = 0 ∧ (List.take (↑(below y.own y.k) : Int).toNat (List.drop 0 y.own)).length + 1 = (List.take (↑(below y.own y.k) : Int).toNat (List.drop 0 y.own) ++ [{k := y.k, v := y.v : Pr }]).length ∧ (List.take (↑(below y.own y.k) : Int).toNat (List.drop 0 y.own)).length + 1 + y_4 = (List.take (↑(below y.own y.k) : Int).toNat (List.drop 0 y.own) ++ [{k := y.k, v := y.v : Pr }]).length + y_4 ∧ ((List.take (↑(below y.own y.k) : Int).toNat (List.drop 0 y.own) ++ [{k := y.k, v := y.v : Pr }]).length + (List.take (y.own.length - (↑(below y.own y.k) : Int).toNat) (List.drop (0 + (↑(below y.own y.k) : Int).toNat) y.own)).length) * 16 ≤ 140737488355328) (Out.all Nat fun y_5 => Out.fin (.tup [.agg [.lit .i64 2, .int .i64 y.k, .int .i64 y.v, .ff], .sl false 35 0 2 ((List.take (↑(below y.own y.k) : Int).toNat (List.drop 0 y.own) ++ [{k := y.k, v := y.v : Pr }]).length + (List.take (y.own.length - (↑(below y.own y.k) : Int).toNat) (List.drop (0 + (↑(below y.own y.k) : Int).toNat) y.own)).length) ((List.take (↑(below y.own y.k) : Int).toNat (List.drop 0 y.own) ++ [{k := y.k, v := y.v : Pr }]).length + (List.take (y.own.length - (↑(below y.own y.k) : Int).toNat) (List.drop (0 + (↑(below y.own y.k) : Int).toNat) y.own)).length + y_5)]) [(35, .arr 89 Kd.pr (List.take (↑(below y.own y.k) : Int).toNat (List.drop 0 y.own) ++ [{k := y.k, v := y.v : Pr }] ++ List.take (y.own.length - (↑(below y.own y.k) : Int).toNat) (List.drop (0 + (↑(below y.own y.k) : Int).toNat) y.own)) y_5), (32, .cells 89 []), (31, .cells 89 [.int .i64 y.k, .int .i64 y.v]), (30, .arr 89 Kd.pr y.own y.4), (4, .cells 27 [.lit .i64 2, .int .i64 y.k, .int .i64 y.v, .ff])] 37)))))))))))))) (Out.ite (d == 3) (Out.ite (d == 3) (Out.ite (decide (fndI (List.take m.length (List.drop 0 m)) k ≥ 0)) (Out.need (0 + (List.take m.length (List.drop 0 m)).length ≤ (List.take m.length (List.drop 0 m)).length) (Out.need ((List.take (List.take m.length (List.drop 0 m)).length (List.drop 0 (List.take m.length (List.drop 0 m)))).length ≤ 1099511627776 ∧ 0 ≤ fndI (List.take m.length (List.drop 0 m)) k ∧ fndI (List.take m.length (List.drop 0 m)) k < (↑(List.take (List.take m.length (List.drop 0 m)).length (List.drop 0 (List.take m.length (List.drop 0 m)))).length : Int) ∧ fndI (List.take m.length (List.drop 0 m)) k ≤ (↑((List.take m.length (List.drop 0 m)).length + y) : Int)) (Out.all Nat fun y_1 => Out.fin (.tup [.agg [.int .i64 d, .int .i64 k, .int .i64 (m.getD (0 + (fndI (List.take m.length (List.drop 0 m)) k).toNat) (V.enc Kd.pr).dflt).v, .bool (decide (fndI (List.take m.length (List.drop 0 m)) k ≥ 0))], .sl false 10 0 2 (without (List.take (List.take m.length (List.drop 0 m)).length (List.drop 0 (List.take m.length (List.drop 0 m)))) (fndI (List.take m.length (List.drop 0 m)) k).toNat).length ((without (List.take (List.take m.length (List.drop 0 m)).length (List.drop 0 (List.take m.length (List.drop 0 m)))) (fndI (List.take m.length (List.drop 0 m)) k).toNat).length + y_1)]) [(10, .arr 89 Kd.pr (without (List.take (List.take m.length (List.drop 0 m)).length (List.drop 0 (List.take m.length (List.drop 0 m)))) (fndI (List.take m.length (List.drop 0 m)) k).toNat) y_1), (7, .cells 27 [.int .i64 d, .int .i64 k, .int .i64 (m.getD (0 + (fndI (List.take m.length (List.drop 0 m)) k).toNat) (V.enc Kd.pr).dflt).v, .bool (decide (fndI (List.take m.length (List.drop 0 m)) k ≥ 0))]), (6, .arr 89 Kd.pr (List.take m.length (List.drop 0 m)) y), (5, .cells 89 []), (4, .cells 27 [.int .i64 d, .int .i64 k, .int .i64 (m.getD (0 + (fndI (List.take m.length (List.drop 0 m)) k).toNat) (V.enc Kd.pr).dflt).v, .bool (decide (fndI (List.take m.length (List.drop 0 m)) k ≥ 0))]), (0, .ro Kd.pr m)] 12))) (Out.ite (d == 3) (Out.fin (.tup [.agg [.int .i64 d, .int .i64 k, .int .i64 (m.getD (0 + (fndI (List.take m.length (List.drop 0 m)) k).toNat) (V.enc Kd.pr).dflt).v, .bool (decide (fndI (List.take m.length (List.drop 0 m)) k ≥ 0))], .sl false 6 0 2 (List.take m.length (List.drop 0 m)).length ((List.take m.length (List.drop 0 m)).length + y)]) [(7, .cells 27 [.int .i64 d, .int .i64 k, .int .i64 (m.getD (0 + (fndI (List.take m.length (List.drop 0 m)) k).toNat) (V.enc Kd.pr).dflt).v, .bool (decide (fndI (List.take m.length (List.drop 0 m)) k ≥ 0))]), (6, .arr 89 Kd.pr (List.take m.length (List.drop 0 m)) y), (5, .cells 89 []), (4, .cells 27 [.int .i64 d, .int .i64 k, .int .i64 (m.getD (0 + (fndI (List.take m.length (List.drop 0 m)) k).toNat) (V.enc Kd.pr).dflt).v, .bool (decide (fndI (List.take m.length (List.drop 0 m)) k ≥ 0))]), (0, .ro Kd.pr m)] 11) (Out.fin (.tup [.agg [.lit .i64 0, .lit .i64 0, .lit .i64 0, .ff], .sl false 6 0 2 (List.take m.length (List.drop 0 m)).length ((List.take m.length (List.drop 0 m)).length + y)]) [(7, .cells 27 [.int .i64 d, .int .i64 k, .int .i64 (m.getD (0 + (fndI (List.take m.length (List.drop 0 m)) k).toNat) (V.enc Kd.pr).dflt).v, .bool (decide (fndI (List.take m.length (List.drop 0 m)) k ≥ 0))]), (6, .arr 89 Kd.pr (List.take m.length (List.drop 0 m)) y), (5, .cells 89 []), (4, .cells 27 [.lit .i64 0, .lit .i64 0, .lit .i64 0, .ff]), (0, .ro Kd.pr m)] 11))) (Out.fin (.tup [.agg [.lit .i64 0, .lit .i64 0, .lit .i64 0, .ff], .sl false 6 0 2 (List.take m.length (List.drop 0 m)).length ((List.take m.length (List.drop 0 m)).length + y)]) [(7, .cells 27 [.int .i64 d, .int .i64 k, .int .i64 (m.getD (0 + (fndI (List.take m.length (List.drop 0 m)) k).toNat) (V.enc Kd.pr).dflt).v, .bool (decide (fndI (List.take m.length (List.drop 0 m)) k ≥ 0))]), (6, .arr 89 Kd.pr (List.take m.length (List.drop 0 m)) y), (5, .cells 89 []), (4, .cells 27 [.lit .i64 0, .lit .i64 0, .lit .i64 0, .ff]), (0, .ro Kd.pr m)] 11)) (Out.ite (d == 4) (Out.ite (decide (fndI (List.take m.length (List.drop 0 m)) k ≥ 0)) (Out.need (0 + (List.take m.length (List.drop 0 m)).length ≤ (List.take m.length (List.drop 0 m)).length) (Out.need ((List.take (List.take m.length (List.drop 0 m)).length (List.drop 0 (List.take m.length (List.drop 0 m)))).length ≤ 1099511627776 ∧ 0 ≤ fndI (List.take m.length (List.drop 0 m)) k ∧ fndI (List.take m.length (List.drop 0 m)) k < (↑(List.take (List.take m.length (List.drop 0 m)).length (List.drop 0 (List.take m.length (List.drop 0 m)))).length : Int) ∧ fndI (List.take m.length (List.drop 0 m)) k ≤ (↑((List.take m.length (List.drop 0 m)).length + y) : Int)) (Out.all Nat fun y_1 => Out.fin (.tup [.agg [.int .i64 d, .int .i64 k, .int .i64 (m.getD (0 + (fndI (List.take m.length (List.drop 0 m)) k).toNat) (V.enc Kd.pr).dflt).v, .bool (decide (fndI (List.take m.length (List.drop 0 m)) k ≥ 0))], .sl false 10 0 2 (without (List.take (List.take m.length (List.drop 0 m)).length (List.drop 0 (List.take m.length (List.drop 0 m)))) (fndI (List.take m.length (List.drop 0 m)) k).toNat).length ((without (List.take (List.take m.length (List.drop 0 m)).length (List.drop 0 (List.take m.length (List.drop 0 m)))) (fndI (List.take m.length (List.drop 0 m)) k).toNat).length + y_1)]) [(10, .arr 89 Kd.pr (without (List.take (List.take m.length (List.drop 0 m)).length (List.drop 0 (List.take m.length (List.drop 0 m)))) (fndI (List.take m.length (List.drop 0 m)) k).toNat) y_1), (7, .cells 27 [.int .i64 d, .int .i64 k, .int .i64 (m.getD (0 + (fndI (List.take m.length (List.drop 0 m)) k).toNat) (V.enc Kd.pr).dflt).v, .bool (decide (fndI (List.take m.length (List.drop 0 m)) k ≥ 0))]), (6, .arr 89 Kd.pr (List.take m.length (List.drop 0 m)) y), (5, .cells 89 []), (4, .cells 27 [.int .i64 d, .int .i64 k, .int .i64 (m.getD (0 + (fndI (List.take m.length (List.drop 0 m)) k).toNat) (V.enc Kd.pr).dflt).v, .bool (decide (fndI (List.take m.length (List.drop 0 m)) k ≥ 0))]), (0, .ro Kd.pr m)] 12))) (Out.ite (d == 3) (Out.fin (.tup [.agg [.int .i64 d, .int .i64 k, .int .i64 (m.getD (0 + (fndI (List.take m.length (List.drop 0 m)) k).toNat) (V.enc Kd.pr).dflt).v, .bool (decide (fndI (List.take m.length (List.drop 0 m)) k ≥ 0))], .sl false 6 0 2 (List.take m.length (List.drop 0 m)).length ((List.take m.length (List.drop 0 m)).length + y)]) [(7, .cells 27 [.int .i64 d, .int .i64 k, .int .i64 (m.getD (0 + (fndI (List.take m.length (List.drop 0 m)) k).toNat) (V.enc Kd.pr).dflt).v, .bool (decide (fndI (List.take m.length (List.drop 0 m)) k ≥ 0))]), (6, .arr 89 Kd.pr (List.take m.length (List.drop 0 m)) y), (5, .cells 89 []), (4, .cells 27 [.int .i64 d, .int .i64 k, .int .i64 (m.getD (0 + (fndI (List.take m.length (List.drop 0 m)) k).toNat) (V.enc Kd.pr).dflt).v, .bool (decide (fndI (List.take m.length (List.drop 0 m)) k ≥ 0))]), (0, .ro Kd.pr m)] 11) (Out.fin (.tup [.agg [.lit .i64 0, .lit .i64 0, .lit .i64 0, .ff], .sl false 6 0 2 (List.take m.length (List.drop 0 m)).length ((List.take m.length (List.drop 0 m)).length + y)]) [(7, .cells 27 [.int .i64 d, .int .i64 k, .int .i64 (m.getD (0 + (fndI (List.take m.length (List.drop 0 m)) k).toNat) (V.enc Kd.pr).dflt).v, .bool (decide (fndI (List.take m.length (List.drop 0 m)) k ≥ 0))]), (6, .arr 89 Kd.pr (List.take m.length (List.drop 0 m)) y), (5, .cells 89 []), (4, .cells 27 [.lit .i64 0, .lit .i64 0, .lit .i64 0, .ff]), (0, .ro Kd.pr m)] 11))) (Out.fin (.tup [.agg [.lit .i64 0, .lit .i64 0, .lit .i64 0, .ff], .sl false 6 0 2 (List.take m.length (List.drop 0 m)).length ((List.take m.length (List.drop 0 m)).length + y)]) [(7, .cells 27 [.int .i64 d, .int .i64 k, .int .i64 (m.getD (0 + (fndI (List.take m.length (List.drop 0 m)) k).toNat) (V.enc Kd.pr).dflt).v, .bool (decide (fndI (List.take m.length (List.drop 0 m)) k ≥ 0))]), (6, .arr 89 Kd.pr (List.take m.length (List.drop 0 m)) y), (5, .cells 89 []), (4, .cells 27 [.lit .i64 0, .lit .i64 0, .lit .i64 0, .ff]), (0, .ro Kd.pr m)] 11))))))) (Out.ite (d == 1) (Out.fin (.tup [.agg [.int .i64 d, .int .i64 k, .lit .i64 0, .bool (decide (fndI (List.take m.length (List.drop 0 m)) k ≥ 0))], .sl false 6 0 2 (List.take m.length (List.drop 0 m)).length ((List.take m.length (List.drop 0 m)).length + y)]) [(7, .cells 27 [.int .i64 d, .int .i64 k, .lit .i64 0, .bool (decide (fndI (List.take m.length (List.drop 0 m)) k ≥ 0))]), (6, .arr 89 Kd.pr (List.take m.length (List.drop 0 m)) y), (5, .cells 89 []), (4, .cells 27 [.int .i64 d, .int .i64 k, .lit .i64 0, .bool (decide (fndI (List.take m.length (List.drop 0 m)) k ≥ 0))]), (0, .ro Kd.pr m)] 10) (Out.ite (d == 2) (Out.ite (decide (fndI (List.take m.length (List.drop 0 m)) k ≥ 0)) (Out.need (0 + (List.take m.length (List.drop 0 m)).length ≤ (List.take m.length (List.drop 0 m)).length) (Out.need ((List.take (List.take m.length (List.drop 0 m)).length (List.drop 0 (List.take m.length (List.drop 0 m)))).length ≤ 1099511627776 ∧ 0 ≤ fndI (List.take m.length (List.drop 0 m)) k ∧ fndI (List.take m.length (List.drop 0 m)) k < (↑(List.take (List.take m.length (List.drop 0 m)).length (List.drop 0 (List.take m.length (List.drop 0 m)))).length : Int) ∧ fndI (List.take m.length (List.drop 0 m)) k ≤ (↑((List.take m.length (List.drop 0 m)).length + y) : Int)) (Out.all Nat fun y_1 => Out.need (LoopFor Try.prog 68 1 (loopOf Try.f68 1) QL4) (Out.ex (QPS → Prop) fun y_2 => Out.need (10 ≤ 30 ∧ SImp 30 {env := [(2, .int .i64 k), (3, .int .i64 v), (8, .ptr 4 0), (11, .sl false 9 0 2 (without (List.take (List.take m.length (List.drop 0 m)).length (List.drop 0 (List.take m.length (List.drop 0 m)))) (fndI (List.take m.length (List.drop 0 m)) k).toNat).length ((without (List.take (List.take m.length (List.drop 0 m)).length (List.drop 0 (List.take m.length (List.drop 0 m)))) (fndI (List.take m.length (List.drop 0 m)) k).toNat).length + y_1)), (13, .lit .i64 0)], heap := [(6, .arr 89 Kd.pr (List.take m.length (List.drop 0 m)) y), (4, .cells 27 [.lit .i64 0, .lit .i64 0, .lit .i64 0, .ff])], nx := 10, nt := 92, tl := [9, 7, 5, 0, 7] : St V } (fun p => QI4 p 0) y_2) (Out.all QPS fun y => Out.asm (y_2 y) (Out.all Unit fun y_3 => Out.asm ((fun x x_1 => True) y y_3) (Out.need (0 ≤ (↑(below y.own y.k) : Int) ∧ (↑(below y.own y.k) : Int) ≤ (↑(y.own.length + y.4) : Int)) (Out.need (0 ≤ (↑(below y.own y.k) : Int) ∧ (↑(below y.own y.k) : Int) ≤ (↑y.own.length : Int)) (((Out.need (0 + (↑(below y.own y.k) : Int).toNat ≤ y.own.length) (Out.need ((List.take (↑(below y.own y.k) : Int).toNat (List.drop 0 y.own)).length * 16 ≤ 140737488355328) (Out.all Nat fun y_4 => Out.need (0 = 0 ∧ (List.take (↑(below y.own y.k) : Int).toNat (List.drop 0 y.own)).length = (List.take (↑(below y.own y.k) : Int).toNat (List.drop 0 y.own)).length ∧ (List.take (↑(below y.own y.k) : Int).toNat (List.drop 0 y.own)).length + y_4 = (List.take (↑(below y.own y.k) : Int).toNat (List.drop 0 y.own)).length + y_4 ∧ ((List.take (↑(below y.own y.k) : Int).toNat (List.drop 0 y.own)).length + 1) * 16 ≤ 140737488355328) (Out.all Nat fun y_5 => Out.need (0 + (↑(below y.own y.k) : Int).toNat + (y.own.length - (↑(below y.own y.k) : Int).toNat) ≤ y.own.length) (Out.need (0 = 0 ∧ (List.take (↑(below y.own y.k) : Int).toNat (List.drop 0 y.own)).length + 1 = (List.take (↑(below y.own y.k) : Int).toNat (List.drop 0 y.own) ++ [{k := y.k, v := y.v : Pr }]).length ∧ (List.take (↑(below y.own y.k) : Int).toNat (List.drop 0 y.own)).length + 1 + y_5 = (List.take (↑(below y.own y.k) : Int).toNat (List.drop 0 y.own) ++ [{k := y.k, v := y.v : Pr }]).length + y_5 ∧ ((List.take (↑(below y.own y.k) : Int).toNat (List.drop 0 y.own) ++ [{k := y.k, v := y.v : Pr }]).length + (List.take (y.own.length - (↑(below y.own y.k) : Int).toNat) (List.drop (0 + (↑(below y.own y.k) : Int).toNat) y.own)).length) * 16 ≤ 140737488355328) (Out.all Nat fun y_6 => Out.fin (.tup [.agg [.lit .i64 2, .int .i64 y.k, .int .i64 y.v, .ff], .sl false 35 0 2 ((List.take (↑(below y.own y.k) : Int).toNat (List.drop 0 y.own) ++ [{k := y.k, v := y.v : Pr }]).length + (List.take (y.own.length - (↑(below y.own y.k) : Int).toNat) (List.drop (0 + (↑(below y.own y.k) : Int).toNat) y.own)).length) ((List.take (↑(below y.own y.k) : Int).toNat (List.drop 0 y.own) ++ [{k := y.k, v := y.v : Pr }]).length + (List.take (y.own.length - (↑(below y.own y.k) : Int).toNat) (List.drop (0 + (↑(below y.own y.k) : Int).toNat) y.own)).length + y_6)]) [(35, .arr 89 Kd.pr (List.take (↑(below y.own y.k) : Int).toNat (List.drop 0 y.own) ++ [{k := y.k, v := y.v : Pr }] ++ List.take (y.own.length - (↑(below y.own y.k) : Int).toNat) (List.drop (0 + (↑(below y.own y.k) : Int).toNat) y.own)) y_6), (33, .cells 89 [.int .i64 y.k, .int .i64 y.v]), (31, .cells 89 []), (30, .arr 89 Kd.pr y.own y.4), (4, .cells 27 [.lit .i64 2, .int .i64 y.k, .int .i64 y.v, .ff])] 37)))))).both (Out.need (0 + (↑(below y.own y.k) : Int).toNat ≤ y.own.length) (Out.need ((List.take (↑(below y.own y.k) : Int).toNat (List.drop 0 y.own)).length * 16 ≤ 140737488355328) (Out.all Nat fun y_4 => Out.need (0 = 0 ∧ (List.take (↑(below y.own y.k) : Int).toNat (List.drop 0 y.own)).length = (List.take (↑(below y.own y.k) : Int).toNat (List.drop 0 y.own)).length ∧ (List.take (↑(below y.own y.k) : Int).toNat (List.drop 0 y.own)).length + y_4 = (List.take (↑(below y.own y.k) : Int).toNat (List.drop 0 y.own)).length + y_4 ∧ ((List.take (↑(below y.own y.k) : Int).toNat (List.drop 0 y.own)).length + 1) * 16 ≤ 140737488355328) (Out.all Nat fun y_5 => Out.need (0 + (↑(below y.own y.k) : Int).toNat + (y.own.length - (↑(below y.own y.k) : Int).toNat) ≤ y.own.length) (Out.need (0 = 0 ∧ (List.take (↑(below y.own y.k) : Int).toNat (List.drop 0 y.own)).length + 1 = (List.take (↑(below y.own y.k) : Int).toNat (List.drop 0 y.own) ++ [{k := y.k, v := y.v : Pr }]).length ∧ (List.take (↑(below y.own y.k) : Int).toNat (List.drop 0 y.own)).length + 1 + y_5 = (List.take (↑(below y.own y.k) : Int).toNat (List.drop 0 y.own) ++ [{k := y.k, v := y.v : Pr }]).length + y_5 ∧ ((List.take (↑(below y.own y.k) : Int).toNat (List.drop 0 y.own) ++ [{k := y.k, v := y.v : Pr }]).length + (List.take (y.own.length - (↑(below y.own y.k) : Int).toNat) (List.drop (0 + (↑(below y.own y.k) : Int).toNat) y.own)).length) * 16 ≤ 140737488355328) (Out.all Nat fun y_6 => Out.fin (.tup [.agg [.lit .i64 2, .int .i64 y.k, .int .i64 y.v, .ff], .sl false 35 0 2 ((List.take (↑(below y.own y.k) : Int).toNat (List.drop 0 y.own) ++ [{k := y.k, v := y.v : Pr }]).length + (List.take (y.own.length - (↑(below y.own y.k) : Int).toNat) (List.drop (0 + (↑(below y.own y.k) : Int).toNat) y.own)).length) ((List.take (↑(below y.own y.k) : Int).toNat (List.drop 0 y.own) ++ [{k := y.k, v := y.v : Pr }]).length + (List.take (y.own.length - (↑(below y.own y.k) : Int).toNat) (List.drop (0 + (↑(below y.own y.k) : Int).toNat) y.own)).length + y_6)]) [(35, .arr 89 Kd.pr (List.take (↑(below y.own y.k) : Int).toNat (List.drop 0 y.own) ++ [{k := y.k, v := y.v : Pr }] ++ List.take (y.own.length - (↑(below y.own y.k) : Int).toNat) (List.drop (0 + (↑(below y.own y.k) : Int).toNat) y.own)) y_6), (32, .cells 89 [.int .i64 y.k, .int .i64 y.v]), (31, .cells 89 []), (30, .arr 89 Kd.pr y.own y.4), (4, .cells 27 [.lit .i64 2, .int .i64 y.k, .int .i64 y.v, .ff])] 37))))))).both (Out.need (0 + (↑(below y.own y.k) : Int).toNat ≤ y.own.length) (Out.need ((List.take (↑(below y.own y.k) : Int).toNat (List.drop 0 y.own)).length * 16 ≤ 140737488355328) (Out.all Nat fun y_4 => Out.need (0 = 0 ∧ (List.take (↑(below y.own y.k) : Int).toNat (List.drop 0 y.own)).length = (List.take (↑(below y.own y.k) : Int).toNat (List.drop 0 y.own)).length ∧ (List.take (↑(below y.own y.k) : Int).toNat (List.drop 0 y.own)).length + y_4 = (List.take (↑(below y.own y.k) : Int).toNat (List.drop 0 y.own)).length + y_4 ∧ ((List.take (↑(below y.own y.k) : Int).toNat (List.drop 0 y.own)).length + 1) * 16 ≤ 140737488355328) (Out.all Nat fun y_5 => Out.need (0 + (↑(below y.own y.k) : Int).toNat + (y.own.length - (↑(below y.own y.k) : Int).toNat) ≤ y.own.length) (Out.need (0 = 0 ∧ (List.take (↑(below y.own y.k) : Int).toNat (List.drop 0 y.own)).length + 1 = (List.take (↑(below y.own y.k) : Int).toNat (List.drop 0 y.own) ++ [{k := y.k, v := y.v : Pr }]).length ∧ (List.take (↑(below y.own y.k) : Int).toNat (List.drop 0 y.own)).length + 1 + y_5 = (List.take (↑(below y.own y.k) : Int).toNat (List.drop 0 y.own) ++ [{k := y.k, v := y.v : Pr }]).length + y_5 ∧ ((List.take (↑(below y.own y.k) : Int).toNat (List.drop 0 y.own) ++ [{k := y.k, v := y.v : Pr }]).length + (List.take (y.own.length - (↑(below y.own y.k) : Int).toNat) (List.drop (0 + (↑(below y.own y.k) : Int).toNat) y.own)).length) * 16 ≤ 140737488355328) (Out.all Nat fun y_6 => Out.fin (.tup [.agg [.lit .i64 2, .int .i64 y.k, .int .i64 y.v, .ff], .sl false 35 0 2 ((List.take (↑(below y.own y.k) : Int).toNat (List.drop 0 y.own) ++ [{k := y.k, v := y.v : Pr }]).length + (List.take (y.own.length - (↑(below y.own y.k) : Int).toNat) (List.drop (0 + (↑(below y.own y.k) : Int).toNat) y.own)).length) ((List.take (↑(below y.own y.k) : Int).toNat (List.drop 0 y.own) ++ [{k := y.k, v := y.v : Pr }]).length + (List.take (y.own.length - (↑(below y.own y.k) : Int).toNat) (List.drop (0 + (↑(below y.own y.k) : Int).toNat) y.own)).length + y_6)]) [(35, .arr 89 Kd.pr (List.take (↑(below y.own y.k) : Int).toNat (List.drop 0 y.own) ++ [{k := y.k, v := y.v : Pr }] ++ List.take (y.own.length - (↑(below y.own y.k) : Int).toNat) (List.drop (0 + (↑(below y.own y.k) : Int).toNat) y.own)) y_6), (32, .cells 89 []), (31, .cells 89 [.int .i64 y.k, .int .i64 y.v]), (30, .arr 89 Kd.pr y.own y.4), (4, .cells 27 [.lit .i64 2, .int .i64 y.k, .int .i64 y.v, .ff])] 37))))))))))))))) (Out.need (LoopFor Try.prog 68 1 (loopOf Try.f68 1) QL4) (Out.ex (QPS → Prop) fun y_1 => Out.need (9 ≤ 30 ∧ SImp 30 {env := [(2, .int .i64 k), (3, .int .i64 v), (8, .ptr 4 0), (11, .sl false 6 0 2 (List.take m.length (List.drop 0 m)).length ((List.take m.length (List.drop 0 m)).length + y)), (13, .lit .i64 0)], heap := [(6, .arr 89 Kd.pr (List.take m.length (List.drop 0 m)) y), (4, .cells 27 [.lit .i64 0, .lit .i64 0, .lit .i64 0, .ff])], nx := 9, nt := 92, tl := [7, 5, 0, 7] : St V } (fun p => QI4 p 0) y_1) (Out.all QPS fun y => Out.asm (y_1 y) (Out.all Unit fun y_2 => Out.asm ((fun x x_1 => True) y y_2) (Out.need (0 ≤ (↑(below y.own y.k) : Int) ∧ (↑(below y.own y.k) : Int) ≤ (↑(y.own.length + y.4) : Int)) (Out.need (0 ≤ (↑(below y.own y.k) : Int) ∧ (↑(below y.own y.k) : Int) ≤ (↑y.own.length : Int)) (((Out.need (0 + (↑(below y.own y.k) : Int).toNat ≤ y.own.length) (Out.need ((List.take (↑(below y.own y.k) : Int).toNat (List.drop 0 y.own)).length * 16 ≤ 140737488355328) (Out.all Nat fun y_3 => Out.need (0 = 0 ∧ (List.take (↑(below y.own y.k) : Int).toNat (List.drop 0 y.own)).length = (List.take (↑(below y.own y.k) : Int).toNat (List.drop 0 y.own)).length ∧ (List.take (↑(below y.own y.k) : Int).toNat (List.drop 0 y.own)).length + y_3 = (List.take (↑(below y.own y.k) : Int).toNat (List.drop 0 y.own)).length + y_3 ∧ ((List.take (↑(below y.own y.k) : Int).toNat (List.drop 0 y.own)).length + 1) * 16 ≤ 140737488355328) (Out.all Nat fun y_4 => Out.need (0 + (↑(below y.own y.k) : Int).toNat + (y.own.length - (↑(below y.own y.k) : Int).toNat) ≤ y.own.length) (Out.need (0 = 0 ∧ (List.take (↑(below y.own y.k) : Int).toNat (List.drop 0 y.own)).length + 1 = (List.take (↑(below y.own y.k) : Int).toNat (List.drop 0 y.own) ++ [{k := y.k, v := y.v : Pr }]).length ∧ (List.take (↑(below y.own y.k) : Int).toNat (List.drop 0 y.own)).length + 1 + y_4 = (List.take (↑(below y.own y.k) : Int).toNat (List.drop 0 y.own) ++ [{k := y.k, v := y.v : Pr }]).length + y_4 ∧ ((List.take (↑(below y.own y.k) : Int).toNat (List.drop 0 y.own) ++ [{k := y.k, v := y.v : Pr }]).length + (List.take (y.own.length - (↑(below y.own y.k) : Int).toNat) (List.drop (0 + (↑(below y.own y.k) : Int).toNat) y.own)).length) * 16 ≤ 140737488355328) (Out.all Nat fun y_5 => Out.fin (.tup [.agg [.lit .i64 2, .int .i64 y.k, .int .i64 y.v, .ff], .sl false 35 0 2 ((List.take (↑(below y.own y.k) : Int).toNat (List.drop 0 y.own) ++ [{k := y.k, v := y.v : Pr }]).length + (List.take (y.own.length - (↑(below y.own y.k) : Int).toNat) (List.drop (0 + (↑(below y.own y.k) : Int).toNat) y.own)).length) ((List.take (↑(below y.own y.k) : Int).toNat (List.drop 0 y.own) ++ [{k := y.k, v := y.v : Pr }]).length + (List.take (y.own.length - (↑(below y.own y.k) : Int).toNat) (List.drop (0 + (↑(below y.own y.k) : Int).toNat) y.own)).length + y_5)]) [(35, .arr 89 Kd.pr (List.take (↑(below y.own y.k) : Int).toNat (List.drop 0 y.own) ++ [{k := y.k, v := y.v : Pr }] ++ List.take (y.own.length - (↑(below y.own y.k) : Int).toNat) (List.drop (0 + (↑(below y.own y.k) : Int).toNat) y.own)) y_5), (33, .cells 89 [.int .i64 y.k, .int .i64 y.v]), (31, .cells 89 []), (30, .arr 89 Kd.pr y.own y.4), (4, .cells 27 [.lit .i64 2, .int .i64 y.k, .int .i64 y.v, .ff])] 37)))))).both (Out.need (0 + (↑(below y.own y.k) : Int).toNat ≤ y.own.length) (Out.need ((List.take (↑(below y.own y.k) : Int).toNat (List.drop 0 y.own)).length * 16 ≤ 140737488355328) (Out.all Nat fun y_3 => Out.need (0 = 0 ∧ (List.take (↑(below y.own y.k) : Int).toNat (List.drop 0 y.own)).length = (List.take (↑(below y.own y.k) : Int).toNat (List.drop 0 y.own)).length ∧ (List.take (↑(below y.own y.k) : Int).toNat (List.drop 0 y.own)).length + y_3 = (List.take (↑(below y.own y.k) : Int).toNat (List.drop 0 y.own)).length + y_3 ∧ ((List.take (↑(below y.own y.k) : Int).toNat (List.drop 0 y.own)).length + 1) * 16 ≤ 140737488355328) (Out.all Nat fun y_4 => Out.need (0 + (↑(below y.own y.k) : Int).toNat + (y.own.length - (↑(below y.own y.k) : Int).toNat) ≤ y.own.length) (Out.need (0 = 0 ∧ (List.take (↑(below y.own y.k) : Int).toNat (List.drop 0 y.own)).length + 1 = (List.take (↑(below y.own y.k) : Int).toNat (List.drop 0 y.own) ++ [{k := y.k, v := y.v : Pr }]).length ∧ (List.take (↑(below y.own y.k) : Int).toNat (List.drop 0 y.own)).length + 1 + y_4 = (List.take (↑(below y.own y.k) : Int).toNat (List.drop 0 y.own) ++ [{k := y.k, v := y.v : Pr }]).length + y_4 ∧ ((List.take (↑(below y.own y.k) : Int).toNat (List.drop 0 y.own) ++ [{k := y.k, v := y.v : Pr }]).length + (List.take (y.own.length - (↑(below y.own y.k) : Int).toNat) (List.drop (0 + (↑(below y.own y.k) : Int).toNat) y.own)).length) * 16 ≤ 140737488355328) (Out.all Nat fun y_5 => Out.fin (.tup [.agg [.lit .i64 2, .int .i64 y.k, .int .i64 y.v, .ff], .sl false 35 0 2 ((List.take (↑(below y.own y.k) : Int).toNat (List.drop 0 y.own) ++ [{k := y.k, v := y.v : Pr }]).length + (List.take (y.own.length - (↑(below y.own y.k) : Int).toNat) (List.drop (0 + (↑(below y.own y.k) : Int).toNat) y.own)).length) ((List.take (↑(below y.own y.k) : Int).toNat (List.drop 0 y.own) ++ [{k := y.k, v := y.v : Pr }]).length + (List.take (y.own.length - (↑(below y.own y.k) : Int).toNat) (List.drop (0 + (↑(below y.own y.k) : Int).toNat) y.own)).length + y_5)]) [(35, .arr 89 Kd.pr (List.take (↑(below y.own y.k) : Int).toNat (List.drop 0 y.own) ++ [{k := y.k, v := y.v : Pr }] ++ List.take (y.own.length - (↑(below y.own y.k) : Int).toNat) (List.drop (0 + (↑(below y.own y.k) : Int).toNat) y.own)) y_5), (32, .cells 89 [.int .i64 y.k, .int .i64 y.v]), (31, .cells 89 []), (30, .arr 89 Kd.pr y.own y.4), (4, .cells 27 [.lit .i64 2, .int .i64 y.k, .int .i64 y.v, .ff])] 37))))))).both (Out.need (0 + (↑(below y.own y.k) : Int).toNat ≤ y.own.length) (Out.need ((List.take (↑(below y.own y.k) : Int).toNat (List.drop 0 y.own)).length * 16 ≤ 140737488355328) (Out.all Nat fun y_3 => Out.need (0 = 0 ∧ (List.take (↑(below y.own y.k) : Int).toNat (List.drop 0 y.own)).length = (List.take (↑(below y.own y.k) : Int).toNat (List.drop 0 y.own)).length ∧ (List.take (↑(below y.own y.k) : Int).toNat (List.drop 0 y.own)).length + y_3 = (List.take (↑(below y.own y.k) : Int).toNat (List.drop 0 y.own)).length + y_3 ∧ ((List.take (↑(below y.own y.k) : Int).toNat (List.drop 0 y.own)).length + 1) * 16 ≤ 140737488355328) (Out.all Nat fun y_4 => Out.need (0 + (↑(below y.own y.k) : Int).toNat + (y.own.length - (↑(below y.own y.k) : Int).toNat) ≤ y.own.length) (Out.need (0 = 0 ∧ (List.take (↑(below y.own y.k) : Int).toNat (List.drop 0 y.own)).length + 1 = (List.take (↑(below y.own y.k) : Int).toNat (List.drop 0 y.own) ++ [{k := y.k, v := y.v : Pr }]).length ∧ (List.take (↑(below y.own y.k) : Int).toNat (List.drop 0 y.own)).length + 1 + y_4 = (List.take (↑(below y.own y.k) : Int).toNat (List.drop 0 y.own) ++ [{k := y.k, v := y.v : Pr }]).length + y_4 ∧ ((List.take (↑(below y.own y.k) : Int).toNat (List.drop 0 y.own) ++ [{k := y.k, v := y.v : Pr }]).length + (List.take (y.own.length - (↑(below y.own y.k) : Int).toNat) (List.drop (0 + (↑(below y.own y.k) : Int).toNat) y.own)).length) * 16 ≤ 140737488355328) (Out.all Nat fun y_5 => Out.fin (.tup [.agg [.lit .i64 2, .int .i64 y.k, .int .i64 y.v, .ff], .sl false 35 0 2 ((List.take (↑(below y.own y.k) : Int).toNat (List.drop 0 y.own) ++ [{k := y.k, v := y.v : Pr }]).length + (List.take (y.own.length - (↑(below y.own y.k) : Int).toNat) (List.drop (0 + (↑(below y.own y.k) : Int).toNat) y.own)).length) ((List.take (↑(below y.own y.k) : Int).toNat (List.drop 0 y.own) ++ [{k := y.k, v := y.v : Pr }]).length + (List.take (y.own.length - (↑(below y.own y.k) : Int).toNat) (List.drop (0 + (↑(below y.own y.k) : Int).toNat) y.own)).length + y_5)]) [(35, .arr 89 Kd.pr (List.take (↑(below y.own y.k) : Int).toNat (List.drop 0 y.own) ++ [{k := y.k, v := y.v : Pr }] ++ List.take (y.own.length - (↑(below y.own y.k) : Int).toNat) (List.drop (0 + (↑(below y.own y.k) : Int).toNat) y.own)) y_5), (32, .cells 89 []), (31, .cells 89 [.int .i64 y.k, .int .i64 y.v]), (30, .arr 89 Kd.pr y.own y.4), (4, .cells 27 [.lit .i64 2, .int .i64 y.k, .int .i64 y.v, .ff])] 37)))))))))))))) (Out.ite (d == 3) (Out.ite (d == 3) (Out.ite (decide (fndI (List.take m.length (List.drop 0 m)) k ≥ 0)) (Out.need (0 + (List.take m.length (List.drop 0 m)).length ≤ (List.take m.length (List.drop 0 m)).length) (Out.need ((List.take (List.take m.length (List.drop 0 m)).length (List.drop 0 (List.take m.length (List.drop 0 m)))).length ≤ 1099511627776 ∧ 0 ≤ fndI (List.take m.length (List.drop 0 m)) k ∧ fndI (List.take m.length (List.drop 0 m)) k < (↑(List.take (List.take m.length (List.drop 0 m)).length (List.drop 0 (List.take m.length (List.drop 0 m)))).length : Int) ∧ fndI (List.take m.length (List.drop 0 m)) k ≤ (↑((List.take m.length (List.drop 0 m)).length + y) : Int)) (Out.all Nat fun y_1 => Out.fin (.tup [.agg [.int .i64 d, .int .i64 k, .lit .i64 0, .bool (decide (fndI (List.take m.length (List.drop 0 m)) k ≥ 0))], .sl false 9 0 2 (without (List.take (List.take m.length (List.drop 0 m)).length (List.drop 0 (List.take m.length (List.drop 0 m)))) (fndI (List.take m.length (List.drop 0 m)) k).toNat).length ((without (List.take (List.take m.length (List.drop 0 m)).length (List.drop 0 (List.take m.length (List.drop 0 m)))) (fndI (List.take m.length (List.drop 0 m)) k).toNat).length + y_1)]) [(9, .arr 89 Kd.pr (without (List.take (List.take m.length (List.drop 0 m)).length (List.drop 0 (List.take m.length (List.drop 0 m)))) (fndI (List.take m.length (List.drop 0 m)) k).toNat) y_1), (7, .cells 27 [.int .i64 d, .int .i64 k, .lit .i64 0, .bool (decide (fndI (List.take m.length (List.drop 0 m)) k ≥ 0))]), (6, .arr 89 Kd.pr (List.take m.length (List.drop 0 m)) y), (5, .cells 89 []), (4, .cells 27 [.int .i64 d, .int .i64 k, .lit .i64 0, .bool (decide (fndI (List.take m.length (List.drop 0 m)) k ≥ 0))]), (0, .ro Kd.pr m)] 11))) (Out.ite (d == 3) (Out.fin (.tup [.agg [.int .i64 d, .int .i64 k, .lit .i64 0, .bool (decide (fndI (List.take m.length (List.drop 0 m)) k ≥ 0))], .sl false 6 0 2 (List.take m.length (List.drop 0 m)).length ((List.take m.length (List.drop 0 m)).length + y)]) [(7, .cells 27 [.int .i64 d, .int .i64 k, .lit .i64 0, .bool (decide (fndI (List.take m.length (List.drop 0 m)) k ≥ 0))]), (6, .arr 89 Kd.pr (List.take m.length (List.drop 0 m)) y), (5, .cells 89 []), (4, .cells 27 [.int .i64 d, .int .i64 k, .lit .i64 0, .bool (decide (fndI (List.take m.length (List.drop 0 m)) k ≥ 0))]), (0, .ro Kd.pr m)] 10) (Out.fin (.tup [.agg [.lit .i64 0, .lit .i64 0, .lit .i64 0, .ff], .sl false 6 0 2 (List.take m.length (List.drop 0 m)).length ((List.take m.length (List.drop 0 m)).length + y)]) [(7, .cells 27 [.int .i64 d, .int .i64 k, .lit .i64 0, .bool (decide (fndI (List.take m.length (List.drop 0 m)) k ≥ 0))]), (6, .arr 89 Kd.pr (List.take m.length (List.drop 0 m)) y), (5, .cells 89 []), (4, .cells 27 [.lit .i64 0, .lit .i64 0, .lit .i64 0, .ff]), (0, .ro Kd.pr m)] 10))) (Out.fin (.tup [.agg [.lit .i64 0, .lit .i64 0, .lit .i64 0, .ff], .sl false 6 0 2 (List.take m.length (List.drop 0 m)).length ((List.take m.length (List.drop 0 m)).length + y)]) [(7, .cells 27 [.int .i64 d, .int .i64 k, .lit .i64 0, .bool (decide (fndI (List.take m.length (List.drop 0 m)) k ≥ 0))]), (6, .arr 89 Kd.pr (List.take m.length (List.drop 0 m)) y), (5, .cells 89 []), (4, .cells 27 [.lit .i64 0, .lit .i64 0, .lit .i64 0, .ff]), (0, .ro Kd.pr m)] 10)) (Out.ite (d == 4) (Out.ite (decide (fndI (List.take m.length (List.drop 0 m)) k ≥ 0)) (Out.need (0 + (List.take m.length (List.drop 0 m)).length ≤ (List.take m.length (List.drop 0 m)).length) (Out.need ((List.take (List.take m.length (List.drop 0 m)).length (List.drop 0 (List.take m.length (List.drop 0 m)))).length ≤ 1099511627776 ∧ 0 ≤ fndI (List.take m.length (List.drop 0 m)) k ∧ fndI (List.take m.length (List.drop 0 m)) k < (↑(List.take (List.take m.length (List.drop 0 m)).length (List.drop 0 (List.take m.length (List.drop 0 m)))).length : Int) ∧ fndI (List.take m.length (List.drop 0 m)) k ≤ (↑((List.take m.length (List.drop 0 m)).length + y) : Int)) (Out.all Nat fun y_1 => Out.fin (.tup [.agg [.int .i64 d, .int .i64 k, .lit .i64 0, .bool (decide (fndI (List.take m.length (List.drop 0 m)) k ≥ 0))], .sl false 9 0 2 (without (List.take (List.take m.length (List.drop 0 m)).length (List.drop 0 (List.take m.length (List.drop 0 m)))) (fndI (List.take m.length (List.drop 0 m)) k).toNat).length ((without (List.take (List.take m.length (List.drop 0 m)).length (List.drop 0 (List.take m.length (List.drop 0 m)))) (fndI (List.take m.length (List.drop 0 m)) k).toNat).length + y_1)]) [(9, .arr 89 Kd.pr (without (List.take (List.take m.length (List.drop 0 m)).length (List.drop 0 (List.take m.length (List.drop 0 m)))) (fndI (List.take m.length (List.drop 0 m)) k).toNat) y_1), (7, .cells 27 [.int .i64 d, .int .i64 k, .lit .i64 0, .bool (decide (fndI (List.take m.length (List.drop 0 m)) k ≥ 0))]), (6, .arr 89 Kd.pr (List.take m.length (List.drop 0 m)) y), (5, .cells 89 []), (4, .cells 27 [.int .i64 d, .int .i64 k, .lit .i64 0, .bool (decide (fndI (List.take m.length (List.drop 0 m)) k ≥ 0))]), (0, .ro Kd.pr m)] 11))) (Out.ite (d == 3) (Out.fin (.tup [.agg [.int .i64 d, .int .i64 k, .lit .i64 0, .bool (decide (fndI (List.take m.length (List.drop 0 m)) k ≥ 0))], .sl false 6 0 2 (List.take m.length (List.drop 0 m)).length ((List.take m.length (List.drop 0 m)).length + y)]) [(7, .cells 27 [.int .i64 d, .int .i64 k, .lit .i64 0, .bool (decide (fndI (List.take m.length (List.drop 0 m)) k ≥ 0))]), (6, .arr 89 Kd.pr (List.take m.length (List.drop 0 m)) y), (5, .cells 89 []), (4, .cells 27 [.int .i64 d, .int .i64 k, .lit .i64 0, .bool (decide (fndI (List.take m.length (List.drop 0 m)) k ≥ 0))]), (0, .ro Kd.pr m)] 10) (Out.fin (.tup [.agg [.lit .i64 0, .lit .i64 0, .lit .i64 0, .ff], .sl false 6 0 2 (List.take m.length (List.drop 0 m)).length ((List.take m.length (List.drop 0 m)).length + y)]) [(7, .cells 27 [.int .i64 d, .int .i64 k, .lit .i64 0, .bool (decide (fndI (List.take m.length (List.drop 0 m)) k ≥ 0))]), (6, .arr 89 Kd.pr (List.take m.length (List.drop 0 m)) y), (5, .cells 89 []), (4, .cells 27 [.lit .i64 0, .lit .i64 0, .lit .i64 0, .ff]), (0, .ro Kd.pr m)] 10))) (Out.fin (.tup [.agg [.lit .i64 0, .lit .i64 0, .lit .i64 0, .ff], .sl false 6 0 2 (List.take m.length (List.drop 0 m)).length ((List.take m.length (List.drop 0 m)).length + y)]) [(7, .cells 27 [.int .i64 d, .int .i64 k, .lit .i64 0, .bool (decide (fndI (List.take m.length (List.drop 0 m)) k ≥ 0))]), (6, .arr 89 Kd.pr (List.take m.length (List.drop 0 m)) y), (5, .cells 89 []), (4, .cells 27 [.lit .i64 0, .lit .i64 0, .lit .i64 0, .ff]), (0, .ro Kd.pr m)] 10))))))))) := by kernel_rfl

end Sx
end Go.Proofs.Ytemcdjdglcceiaa

/-
  The sorted row of the document: what its functions do.
-/
namespace Go.Proofs.Ytemcdjdglcceiaa
namespace Sx
open Go
set_option linter.unusedSimpArgs false
set_option linter.unusedVariables false

theorem cfgS0_ok : cfgS0.ok := ⟨tab_met, kinds_met, mixed_met, fun g fn h => (by cases h), fun g H h => (by cases h)⟩
theorem cfgS1_ok : cfgS1.ok := ⟨tab_met, kinds_met, mixed_met, fun g fn h => (by cases h), fun g H h => (by cases h)⟩

theorem fnd_at {l : List Pr} {k : Int} {i : Nat} (hi : i < l.length) (hp : i ≤ fnd l k) (h : (l.getD i pr0).k = k) : fnd l k = i := by
  have e : l.getD i pr0 = l[i] := by rw [List.getD_eq_getElem?_getD, List.getElem?_eq_getElem hi]; rfl
  rw [e] at h
  unfold fnd at hp ⊢
  rcases Nat.lt_or_ge i (l.findIdx (isK k)) with h2 | h2
  · have := List.not_of_lt_findIdx h2
    simp [isK, h] at this
  · omega
theorem fnd_next {l : List Pr} {k : Int} {i : Nat} (hi : i < l.length) (hp : i ≤ fnd l k) (h : ¬ (l.getD i pr0).k = k) : i + 1 ≤ fnd l k := by
  have e : l.getD i pr0 = l[i] := by rw [List.getD_eq_getElem?_getD, List.getElem?_eq_getElem hi]; rfl
  rw [e] at h
  rcases Nat.lt_or_ge i (fnd l k) with h2 | h2
  · exact h2
  · have h3 : fnd l k = i := by omega
    have h4 : l.findIdx (isK k) < l.length := by unfold fnd at h3; omega
    have := List.findIdx_getElem (w := h4)
    have e2 : l[l.findIdx (isK k)] = l[i] := by congr 1
    rw [e2] at this
    exact absurd (of_decide_eq_true this) h
theorem qbody3 (p : QPR) (i : Nat) (hi : i ≤ p.l.length) (Q : EX → St V → Prop) (F : AV → Heap V → Nat → Prop)
    (hrt : ∀ ST : St V, i < p.l.length → (p.l.getD i pr0).k = p.k → Wk 2 [] ST (QR3 p i) → Q .rt ST)
    (hnx : ∀ ST : St V, i < p.l.length → ¬ (p.l.getD i pr0).k = p.k → Wk 2 [] ST (QI3 p (i + 1)) → Q .nx ST)
    (hex : ∀ ST : St V, i = p.l.length → Wk 2 [] ST (QI3 p i) → Q (.ex 0) ST) :
    (runCode cfgS0 60 69 (loopOf Try.f69 0) (QI3 p i) (stopT (trimSt [0, 1, 4, 5] [0]))).holds ⟨Q, F⟩ := by
  rw [qb3]
  have hb := p.hb
  have hw : i < p.l.length → IntKind.wrap .i64 ((i : Int) + 1) = ((i + 1 : Nat) : Int) := fun h => wrap_nat (by omega)
  rw [show (0 + i) = i from Nat.zero_add _, show p.l.getD i (V.enc Kd.pr).dflt = p.l.getD i pr0 from rfl]
  simp only [Out.holds, decide_eq_true_eq, decide_eq_false_iff_not, beq_iff_eq, beq_eq_false_iff_ne]
  by_cases hlt : i < p.l.length
  · refine ⟨fun _ => ⟨by omega, hlt, fun h2 => hrt _ hlt h2 ?_, fun h2 => hnx _ hlt h2 ?_⟩, fun h => absurd hlt (by omega)⟩
    · exact ⟨⟨AV.sub_same _, trivial⟩, ⟨.same _, trivial⟩, rfl, tl_ok rfl, ⟨.inr rfl, trivial⟩, ⟨Nat.le_of_ble_eq_true rfl, rfl⟩⟩
    · exact ⟨⟨AV.sub_same _, AV.sub_same _, AV.sub_int (hw hlt), trivial⟩, ⟨.same _, trivial⟩, rfl, tl_ok rfl, ⟨.inr rfl, trivial⟩, ⟨Nat.le_of_ble_eq_true rfl, rfl⟩⟩
  · exact ⟨fun h => absurd h (by omega), fun h => hex _ (by omega) ⟨⟨AV.sub_same _, AV.sub_same _, AV.sub_same _, trivial⟩, ⟨.same _, trivial⟩, rfl, tl_ok rfl, ⟨.inr rfl, trivial⟩, ⟨Nat.le_of_ble_eq_true rfl, rfl⟩⟩⟩
theorem ql3_ok : LoopOk Try.prog 0 (loopOf Try.f69 0) QL3 := by
  refine trimLoop_ok (trim_ok _ _) (loopT_ok (C := cfgS0) cfgS0_ok (f := 69) (n := 60) (trim_ok [0, 1, 4, 5] [0]) 2 QI3 (fun p i => i ≤ p.l.length ∧ i ≤ fnd p.l p.k) (fun _ => 0) (fun p i => p.l.length - i)
    (fun p (_ : Unit) => fnd p.l p.k = p.l.length) (fun p _ => QI3 p p.l.length) (fun p (_ : Unit) => fnd p.l p.k < p.l.length) (fun p _ => QR3 p (fnd p.l p.k)) (fun p => ⟨Nat.zero_le _, Nat.zero_le _⟩) ?_)
  intro p i ⟨hi, hp⟩
  have hle := fnd_le p.l p.k
  refine qbody3 p i hi _ _ (fun ST hlt h hw => SImp.of_wk (ren := []) () (by rw [fnd_at hlt hp h]; exact hw) (by rw [fnd_at hlt hp h]; exact hlt)) (fun ST hlt h hw => SImp.of_wk (i + 1) hw ⟨⟨hlt, fnd_next hlt hp h⟩, by omega⟩) (fun ST he hw => ⟨rfl, SImp.of_wk (ren := []) () (by subst he; exact hw) (by omega)⟩)
theorem hFind : HookOk Try.prog 69 (hookFree [.rows Kd.pr, .int .i64] runFind) := by
  refine free_hook (C := cfgS1) cfgS1_ok (n := 60) (fn := Try.f69) ⟨by kernel_rfl, by kernel_rfl⟩ (by kernel_rfl) ?_
  intro M ar K0 H
  unfold runFind at H
  split at H
  · rename_i l c k
    obtain ⟨hb, H⟩ := H
    refine ⟨show 2 ≤ _ by decide +kernel, ?_⟩
    show (runF cfgS1 60 69 Try.f69 [.sl false 0 0 2 l.length c, .int .i64 k] [(0, .ro Kd.pr l)] 2).holds _
    rw [qt3]
    refine ⟨ql3_ok, fun p => p = ⟨l, c, k, hb⟩, ⟨Nat.le_refl _, SImp.of_wk (ren := []) ⟨l, c, k, hb⟩ ?_ rfl⟩, ?_⟩
    · exact ⟨⟨AV.sub_same _, AV.sub_same _, AV.sub_lit', trivial⟩, ⟨.same _, trivial⟩, rfl, tl_ok rfl, ⟨.inr rfl, trivial⟩, ⟨Nat.le_of_ble_eq_true rfl, rfl⟩⟩
    · rintro _ rfl
      unfold fndI at H
      refine ⟨fun _ h => ?_, fun _ h => ?_⟩
      · dsimp only at h
        rw [if_neg (by omega)] at H
        exact ⟨_, _, H, endPlain AV.sub_lit' rfl⟩
      · dsimp only at h
        rw [if_pos h] at H
        exact ⟨_, _, H, endPlain (AV.sub_same _) rfl⟩
  · exact H.elim
theorem hWithout : HookOk Try.prog 70 (hookFree [.rows Kd.pr, .int .i64] runWithout) := by
  refine free_hook (C := cfgS1) cfgS1_ok (n := 60) (fn := Try.f70) ⟨by kernel_rfl, by kernel_rfl⟩ (by kernel_rfl) ?_
  intro M ar K0 H
  unfold runWithout at H
  split at H
  · rename_i l c k
    obtain ⟨⟨hb, h0, h1, h2⟩, H⟩ := H
    refine ⟨show 2 ≤ _ by decide +kernel, ?_⟩
    show (runF cfgS1 60 70 Try.f70 [.sl false 0 0 2 l.length c, .int .i64 k] [(0, .ro Kd.pr l)] 2).holds _
    rw [qt5]
    have hk : IntKind.wrap .i64 (k + 1) = ((k.toNat + 1 : Nat) : Int) := by
      rw [show k = ((k.toNat : Nat) : Int) from (Int.toNat_of_nonneg h0).symm, Int.toNat_natCast]
      exact wrap_nat (by omega)
    rw [hk]
    rw [Int.toNat_natCast]
    have e1 : List.take (l.length - (k.toNat + 1)) (List.drop (0 + (k.toNat + 1)) l) = l.drop (k.toNat + 1) := by
      rw [Nat.zero_add, List.take_of_length_le (by rw [List.length_drop]; omega)]
    have e2 : List.take k.toNat (List.drop 0 l) = l.take k.toNat := rfl
    rw [e1, e2]
    have ew : l.take k.toNat ++ l.drop (k.toNat + 1) = without l k.toNat := rfl
    have l1 : (l.take k.toNat).length = k.toNat := by rw [List.length_take]; omega
    have l2 : (l.drop (k.toNat + 1)).length = l.length - (k.toNat + 1) := List.length_drop
    have lw : (l.take k.toNat).length + (l.drop (k.toNat + 1)).length = (without l k.toNat).length := by unfold without; rw [List.length_append]
    refine ⟨⟨h0, h2⟩, ⟨by omega, by omega⟩, by omega, by omega, fun y => ⟨by omega, ⟨rfl, rfl, rfl, by omega⟩, fun z => ?_⟩⟩
    rw [lw, ew]
    exact ⟨_, _, H z, _, HImp.refl _ _, ⟨⟨fun _ => 4, ⟨.same _, trivial⟩, AV.sub_same _⟩, rfl, rfl⟩⟩
  · exact H.elim
theorem hooksS2_ok : ∀ g H, hooksS2 g = some H → HookOk Try.prog g H := by
  intro g H h
  unfold hooksS2 at h
  split at h
  · cases h; exact hFind
  · cases h; exact hWithout
  · cases h
theorem cfgS2_ok : cfgS2.ok := ⟨tab_met, kinds_met, mixed_met, fun g fn h => (by cases h), hooksS2_ok⟩
theorem cfgS3_ok : cfgS3.ok := ⟨tab_met, kinds_met, mixed_met, fun g fn h => (by cases h), hooksS2_ok⟩

/-! ## Answer -/
theorem below_le (l : List Pr) (k : Int) : below l k ≤ l.length := by
  unfold below; exact (List.takeWhile_sublist _).length_le
theorem below_cons (p : Pr) (l : List Pr) (k : Int) : below (p :: l) k = if p.k < k then below l k + 1 else 0 := by
  unfold below
  rw [List.takeWhile_cons]
  by_cases h : p.k < k
  · rw [if_pos (show lowK k p = true from decide_eq_true h), if_pos h]; rfl
  · rw [if_neg (by unfold lowK; simpa using h), if_neg h]; rfl
theorem below_at : ∀ {l : List Pr} {k : Int} {i : Nat}, i < l.length → i ≤ below l k → ((l.getD i pr0).k < k → i + 1 ≤ below l k) ∧ (¬ (l.getD i pr0).k < k → below l k = i)
  | [], k, i, h, _ => absurd h (Nat.not_lt_zero _)
  | p :: l, k, 0, h, hb => by
    rw [below_cons]
    show (p.k < k → _) ∧ (¬ p.k < k → _)
    refine ⟨fun h2 => by rw [if_pos h2]; omega, fun h2 => if_neg h2⟩
  | p :: l, k, i + 1, h, hb => by
    rw [below_cons] at hb ⊢
    have hp : p.k < k := Classical.byContradiction fun h2 => by rw [if_neg h2] at hb; omega
    rw [if_pos hp] at hb ⊢
    have ih := below_at (l := l) (k := k) (i := i) (by simpa using h) (by omega)
    show ((l.getD i pr0).k < k → _) ∧ (¬ (l.getD i pr0).k < k → _)
    exact ⟨fun h2 => by have := ih.1 h2; omega, fun h2 => by have := ih.2 h2; omega⟩
theorem qbody4 (p : QPS) (i : Nat) (hi : i ≤ p.own.length) (Q : EX → St V → Prop) (F : AV → Heap V → Nat → Prop)
    (hnx : ∀ ST : St V, i < p.own.length → (p.own.getD i pr0).k < p.k → Wk 30 [(30, 30)] ST (QI4 p (i + 1)) → Q .nx ST)
    (hex : ∀ ST : St V, (i < p.own.length → ¬ (p.own.getD i pr0).k < p.k) → Wk 30 [(30, 30)] ST (QI4 p i) → Q (.ex 1) ST) :
    (runCode cfgS2 60 68 (loopOf Try.f68 1) (QI4 p i) (stopT (trimSt [2, 3, 8, 11, 13] [4, 30]))).holds ⟨Q, F⟩ := by
  rw [qb4]
  have hb := p.hb
  have hw : i < p.own.length → IntKind.wrap .i64 ((i : Int) + 1) = ((i + 1 : Nat) : Int) := fun h => wrap_nat (by omega)
  rw [show (0 + i) = i from Nat.zero_add _, show p.own.getD i (V.enc Kd.pr).dflt = p.own.getD i pr0 from rfl]
  simp only [Out.holds, decide_eq_true_eq, decide_eq_false_iff_not]
  by_cases hlt : i < p.own.length
  · refine ⟨fun _ => ⟨by omega, hlt, fun h2 => hnx _ hlt h2 ?_, fun h2 => hex _ (fun _ => h2) ?_⟩, fun h => absurd hlt (by omega)⟩
    · exact ⟨⟨AV.sub_same _, AV.sub_same _, AV.sub_same _, AV.sub_same _, AV.sub_int (hw hlt), trivial⟩, ⟨.same _, .same _, trivial⟩, rfl, tl_ok rfl, ⟨.inr rfl, .inr rfl, trivial⟩, ⟨Nat.le_of_ble_eq_true rfl, rfl⟩⟩
    · exact ⟨⟨AV.sub_same _, AV.sub_same _, AV.sub_same _, AV.sub_same _, AV.sub_same _, trivial⟩, ⟨.same _, .same _, trivial⟩, rfl, tl_ok rfl, ⟨.inr rfl, .inr rfl, trivial⟩, ⟨Nat.le_of_ble_eq_true rfl, rfl⟩⟩
  · exact ⟨fun h => absurd h (by omega), fun h => hex _ (fun h2 => absurd h2 hlt) ⟨⟨AV.sub_same _, AV.sub_same _, AV.sub_same _, AV.sub_same _, AV.sub_same _, trivial⟩, ⟨.same _, .same _, trivial⟩, rfl, tl_ok rfl, ⟨.inr rfl, .inr rfl, trivial⟩, ⟨Nat.le_of_ble_eq_true rfl, rfl⟩⟩⟩
theorem ql4_ok : LoopOk Try.prog 1 (loopOf Try.f68 1) QL4 := by
  refine trimLoop_ok (trim_ok _ _) (loopTH_ok (C := cfgS2) cfgS2_ok (f := 68) (n := 60) (trim_ok [2, 3, 8, 11, 13] [4, 30]) 30 QI4 (fun p i => i ≤ p.own.length ∧ i ≤ below p.own p.k) (fun _ => 0) (fun p i => p.own.length - i) (fun _ (_ : Unit) => True) (fun p _ => QI4 p (below p.own p.k)) (fun p => ⟨Nat.zero_le _, Nat.zero_le _⟩) ?_)
  intro p i ⟨hi, hp⟩
  have hle := below_le p.own p.k
  refine qbody4 p i hi _ _ (fun ST hlt h hw => SImp.of_wk (i + 1) hw ⟨⟨hlt, (below_at hlt hp).1 h⟩, by omega⟩) (fun ST he hw => ⟨rfl, SImp.of_wk (ren := [(30, 30)]) () ?_ trivial⟩)
  have : below p.own p.k = i := by
    rcases Nat.lt_or_ge i p.own.length with h | h
    · exact (below_at h hp).2 (he h)
    · omega
  rw [this]; exact hw

end Sx
end Go.Proofs.Ytemcdjdglcceiaa

/-
  The document's answer of what is legal, over a sorted row.
-/
namespace Go.Proofs.Ytemcdjdglcceiaa
namespace Sx
open Go
set_option linter.unusedSimpArgs false
set_option linter.unusedVariables false
set_option maxRecDepth 100000

def comAV (c : Com) : AV := .agg [.int .i64 c.act, .int .i64 c.key, .int .i64 c.value, .bool c.hit]
def runAnswer : RunFree V := fun ar K => match ar with
  | [.rows .pr l c, .int .i64 d, .int .i64 k, .int .i64 v] => .need (l.length ≤ 1073741824 ∧ l.length ≤ c) (.all Nat fun sp => K (.tup [comAV (ansC (rget l k) d k v), .sl false 0 0 2 (nextR l d k v).length ((nextR l d k v).length + sp)]) [.arr 89 Kd.pr (nextR l d k v) sp])
  | _ => .bad 500
theorem AV.sub_agg {xs bs : List AV} (h : ∀ r vs, relL r xs vs → relL r bs vs) : (AV.agg xs).sub (.agg bs) := fun r v ⟨vs, e, k⟩ => ⟨vs, h r vs e, k⟩

theorem without_len {l : List Pr} {i : Nat} (h : i < l.length) : (without l i).length + 1 = l.length := by
  unfold without; rw [List.length_append, List.length_take, List.length_drop]; omega
set_option maxHeartbeats 4000000 in
theorem hAnswer : HookOk Try.prog 68 (hookFree [.rows Kd.pr, .int .i64, .int .i64, .int .i64] runAnswer) := by
  refine free_hook (C := cfgS3) cfgS3_ok (n := 60) (fn := Try.f68) ⟨by kernel_rfl, by kernel_rfl⟩ (by kernel_rfl) ?_
  intro M ar K0 H
  unfold runAnswer at H
  split at H
  · rename_i m c d k v
    obtain ⟨⟨hb, hc⟩, H⟩ := H
    refine ⟨show 4 ≤ _ by decide +kernel, ?_⟩
    show (runF cfgS3 60 68 Try.f68 [.sl false 0 0 2 m.length c, .int .i64 d, .int .i64 k, .int .i64 v] [(0, .ro Kd.pr m)] 4).holds _
    rw [qt4]
    simp only [show List.take m.length (List.drop 0 m) = m from List.take_length ..]
    refine ⟨by omega, by omega, by omega, by omega, fun y => ?_⟩
    by_cases hf : fnd m k < m.length
    · have e : fndI m k = (fnd m k : Int) := if_pos hf
      have e2 : decide (fndI m k ≥ 0) = true := by rw [e]; exact decide_eq_true (by omega)
      have e3 : decide ((fnd m k : Int) ≥ 0) = true := decide_eq_true (by omega)
      have eg : rget m k = some (m.getD (fnd m k) pr0).v := if_pos hf
      have ea : without m (fnd m k) = away m k := (if_pos hf).symm
      have wl := without_len hf
      simp only [e2, e, e3, Int.toNat_natCast, Nat.zero_add]
      refine ⟨fun _ => ⟨by omega, hf, ?_⟩, fun h => by cases h⟩
      rw [show m.getD (fnd m k) (V.enc Kd.pr).dflt = m.getD (fnd m k) pr0 from rfl]
      rw [ea] at wl
      by_cases d1 : d = 1
      · subst d1
        simp only [Out.holds, beq_self_eq_true, Int.reduceBEq, true_implies, false_implies, Bool.true_eq_false, Bool.false_eq_true, and_true, true_and]
        rw [show ansC (rget m k) 1 k v = ⟨1, k, (rget m k).getD 0, (rget m k).isSome⟩ from rfl, eg, show nextR m 1 k v = m from rfl] at H
        exact ⟨_, _, H _, _, HImp.refl _ _, ⟨⟨fun _ => 6, ⟨.same _, trivial⟩, AV.sub_two (AV.sub_agg (AV.subL_cons (AV.sub_same _) (AV.subL_cons (AV.sub_same _) (AV.subL_cons (AV.sub_same _) (AV.subL_cons (AV.sub_tt rfl) AV.subL_nil))))) (AV.sub_same _)⟩, rfl, rfl⟩⟩
      by_cases d2 : d = 2
      · subst d2
        simp only [Out.holds, beq_self_eq_true, Int.reduceBEq, true_implies, false_implies, Bool.true_eq_false, Bool.false_eq_true, and_true, true_and]
        rw [ea]
        rw [show ansC (rget m k) 2 k v = ⟨2, k, v, false⟩ from if_pos rfl, show nextR m 2 k v = putS (away m k) k v from if_pos rfl] at H
        have hbl := below_le (away m k) k
        have hal := away_len m k
        have a1 : ((away m k).take (below (away m k) k)).length = below (away m k) k := by rw [List.length_take]; omega
        have a2 : ((away m k).drop (below (away m k) k)).length = (away m k).length - below (away m k) k := List.length_drop
        have a3 : ((away m k).take (below (away m k) k) ++ [(⟨k, v⟩ : Pr)]).length = below (away m k) k + 1 := by rw [List.length_append, a1]; rfl
        have lw : ((away m k).take (below (away m k) k) ++ [(⟨k, v⟩ : Pr)]).length + ((away m k).drop (below (away m k) k)).length = (putS (away m k) k v).length := List.length_append.symm
        refine ⟨by omega, ⟨by omega, by omega, by omega, by omega⟩, fun sp => ⟨ql4_ok, fun p => p = ⟨k, v, away m k, sp, by omega⟩, ⟨by omega, SImp.of_wk (ren := [(30, 10)]) ⟨k, v, away m k, sp, by omega⟩ ?_ rfl⟩, ?_⟩⟩
        · exact ⟨⟨AV.sub_same _, AV.sub_same _, AV.sub_same _, AV.sub_same _, AV.sub_lit', trivial⟩, ⟨.same _, .same _, trivial⟩, rfl, tl_ok rfl, ⟨.inl (in_ok rfl), .inl (in_ok rfl), .inr rfl, trivial⟩, ⟨Nat.le_of_ble_eq_true rfl, rfl⟩⟩
        · rintro _ rfl _
          dsimp only
          rw [show List.take (below (away m k) k) (List.drop 0 (away m k)) = (away m k).take (below (away m k) k) from rfl]
          rw [show List.take ((away m k).length - below (away m k) k) (List.drop (below (away m k) k) (away m k)) = (away m k).drop (below (away m k) k) from List.take_of_length_le (by rw [List.length_drop]; omega)]
          repeat' first | apply And.intro | intro _
          all_goals first
            | omega
            | exact ⟨_, _, H _, _, HImp.refl _ _, ⟨⟨fun _ => 35, ⟨.same _, trivial⟩, AV.sub_two (AV.sub_agg (AV.subL_cons AV.sub_lit' (AV.subL_cons (AV.sub_same _) (AV.subL_cons (AV.sub_same _) (AV.subL_cons (AV.sub_ff rfl) AV.subL_nil))))) (AV.sub_sl lw (by rw [lw]))⟩, rfl, rfl⟩⟩
      by_cases d3 : d = 3
      · subst d3
        simp only [Out.holds, beq_self_eq_true, Int.reduceBEq, true_implies, false_implies, Bool.true_eq_false, Bool.false_eq_true, and_true, true_and]
        rw [show ansC (rget m k) 3 k v = ⟨3, k, (rget m k).getD 0, (rget m k).isSome⟩ from rfl, eg, show nextR m 3 k v = away m k from rfl, ← ea] at H
        refine ⟨by omega, ⟨by omega, by omega, by omega, by omega⟩, fun sp => ?_⟩
        exact ⟨_, _, H _, _, HImp.refl _ _, ⟨⟨fun _ => 10, ⟨.same _, trivial⟩, AV.sub_two (AV.sub_agg (AV.subL_cons (AV.sub_same _) (AV.subL_cons (AV.sub_same _) (AV.subL_cons (AV.sub_same _) (AV.subL_cons (AV.sub_tt rfl) AV.subL_nil))))) (AV.sub_same _)⟩, rfl, rfl⟩⟩
      by_cases d4 : d = 4
      · subst d4
        simp only [Out.holds, beq_self_eq_true, Int.reduceBEq, true_implies, false_implies, Bool.true_eq_false, Bool.false_eq_true, and_true, true_and]
        rw [eg, show ansC (some (m.getD (fnd m k) pr0).v) 4 k v = ⟨4, k, (m.getD (fnd m k) pr0).v, true⟩ from rfl, show nextR m 4 k v = away m k from rfl, ← ea] at H
        refine ⟨by omega, ⟨by omega, by omega, by omega, by omega⟩, fun sp => ?_⟩
        exact ⟨_, _, H _, _, HImp.refl _ _, ⟨⟨fun _ => 10, ⟨.same _, trivial⟩, AV.sub_two (AV.sub_agg (AV.subL_cons (AV.sub_same _) (AV.subL_cons (AV.sub_same _) (AV.subL_cons (AV.sub_same _) (AV.subL_cons (AV.sub_tt rfl) AV.subL_nil))))) (AV.sub_same _)⟩, rfl, rfl⟩⟩
      · have b1 : (d == 1) = false := beq_false_of_ne d1
        have b2 : (d == 2) = false := beq_false_of_ne d2
        have b3 : (d == 3) = false := beq_false_of_ne d3
        have b4 : (d == 4) = false := beq_false_of_ne d4
        simp only [Out.holds, b1, b2, b3, b4, true_implies, false_implies, Bool.true_eq_false, Bool.false_eq_true, and_true, true_and]
        rw [show ansC (rget m k) d k v = cc0 by unfold ansC; rw [if_neg d2, if_neg (by omega), if_neg (fun h => d4 h.1)], show nextR m d k v = m by unfold nextR; rw [if_neg d2, if_neg (by omega)]] at H
        exact ⟨_, _, H _, _, HImp.refl _ _, ⟨⟨fun _ => 6, ⟨.same _, trivial⟩, AV.sub_two (AV.sub_agg (AV.subL_cons AV.sub_lit' (AV.subL_cons AV.sub_lit' (AV.subL_cons AV.sub_lit' (AV.subL_cons (AV.sub_ff rfl) AV.subL_nil))))) (AV.sub_same _)⟩, rfl, rfl⟩⟩
    · have e : fndI m k = -1 := if_neg hf
      have e2 : decide (fndI m k ≥ 0) = false := by rw [e]; exact decide_eq_false (by omega)
      have e3 : decide ((-1 : Int) ≥ 0) = false := decide_eq_false (by omega)
      have eg : rget m k = none := if_neg hf
      have ea : away m k = m := if_neg hf
      simp only [e2, e, e3, Int.toNat_natCast, Nat.zero_add]
      refine ⟨(fun h => by cases h), fun _ => ?_⟩
      by_cases d1 : d = 1
      · subst d1
        simp only [Out.holds, beq_self_eq_true, Int.reduceBEq, true_implies, false_implies, Bool.true_eq_false, Bool.false_eq_true, and_true, true_and]
        rw [show ansC (rget m k) 1 k v = ⟨1, k, (rget m k).getD 0, (rget m k).isSome⟩ from rfl, eg, show nextR m 1 k v = m from rfl] at H
        exact ⟨_, _, H _, _, HImp.refl _ _, ⟨⟨fun _ => 6, ⟨.same _, trivial⟩, AV.sub_two (AV.sub_agg (AV.subL_cons (AV.sub_same _) (AV.subL_cons (AV.sub_same _) (AV.subL_cons AV.sub_lit' (AV.subL_cons (AV.sub_ff rfl) AV.subL_nil))))) (AV.sub_same _)⟩, rfl, rfl⟩⟩
      by_cases d2 : d = 2
      · subst d2
        simp only [Out.holds, beq_self_eq_true, Int.reduceBEq, true_implies, false_implies, Bool.true_eq_false, Bool.false_eq_true, and_true, true_and]
        rw [show ansC (rget m k) 2 k v = ⟨2, k, v, false⟩ from if_pos rfl, show nextR m 2 k v = putS (away m k) k v from if_pos rfl] at H
        have hbl := below_le (away m k) k
        have hal := away_len m k
        have a1 : ((away m k).take (below (away m k) k)).length = below (away m k) k := by rw [List.length_take]; omega
        have a2 : ((away m k).drop (below (away m k) k)).length = (away m k).length - below (away m k) k := List.length_drop
        have a3 : ((away m k).take (below (away m k) k) ++ [(⟨k, v⟩ : Pr)]).length = below (away m k) k + 1 := by rw [List.length_append, a1]; rfl
        have lw : ((away m k).take (below (away m k) k) ++ [(⟨k, v⟩ : Pr)]).length + ((away m k).drop (below (away m k) k)).length = (putS (away m k) k v).length := List.length_append.symm
        rw [ea] at *
        refine ⟨ql4_ok, fun p => p = ⟨k, v, m, y, by omega⟩, ⟨by omega, SImp.of_wk (ren := [(30, 6)]) ⟨k, v, m, y, by omega⟩ ?_ rfl⟩, ?_⟩
        · exact ⟨⟨AV.sub_same _, AV.sub_same _, AV.sub_same _, AV.sub_same _, AV.sub_lit', trivial⟩, ⟨.same _, .same _, trivial⟩, rfl, tl_ok rfl, ⟨.inl (in_ok rfl), .inr rfl, trivial⟩, ⟨Nat.le_of_ble_eq_true rfl, rfl⟩⟩
        · rintro _ rfl _
          dsimp only
          rw [show List.take (below m k) (List.drop 0 m) = m.take (below m k) from rfl]
          rw [show List.take (m.length - below m k) (List.drop (below m k) m) = m.drop (below m k) from List.take_of_length_le (by rw [List.length_drop]; omega)]
          repeat' first | apply And.intro | intro _
          all_goals first
            | omega
            | exact ⟨_, _, H _, _, HImp.refl _ _, ⟨⟨fun _ => 35, ⟨.same _, trivial⟩, AV.sub_two (AV.sub_agg (AV.subL_cons AV.sub_lit' (AV.subL_cons (AV.sub_same _) (AV.subL_cons (AV.sub_same _) (AV.subL_cons (AV.sub_ff rfl) AV.subL_nil))))) (AV.sub_sl lw (by rw [lw]))⟩, rfl, rfl⟩⟩
      by_cases d3 : d = 3
      · subst d3
        simp only [Out.holds, beq_self_eq_true, Int.reduceBEq, true_implies, false_implies, Bool.true_eq_false, Bool.false_eq_true, and_true, true_and]
        rw [show ansC (rget m k) 3 k v = ⟨3, k, (rget m k).getD 0, (rget m k).isSome⟩ from rfl, eg, show nextR m 3 k v = away m k from rfl, ea] at H
        exact ⟨_, _, H _, _, HImp.refl _ _, ⟨⟨fun _ => 6, ⟨.same _, trivial⟩, AV.sub_two (AV.sub_agg (AV.subL_cons (AV.sub_same _) (AV.subL_cons (AV.sub_same _) (AV.subL_cons AV.sub_lit' (AV.subL_cons (AV.sub_ff rfl) AV.subL_nil))))) (AV.sub_same _)⟩, rfl, rfl⟩⟩
      by_cases d4 : d = 4
      · subst d4
        simp only [Out.holds, beq_self_eq_true, Int.reduceBEq, true_implies, false_implies, Bool.true_eq_false, Bool.false_eq_true, and_true, true_and]
        rw [eg, show ansC none 4 k v = cc0 from rfl, show nextR m 4 k v = away m k from rfl, ea] at H
        exact ⟨_, _, H _, _, HImp.refl _ _, ⟨⟨fun _ => 6, ⟨.same _, trivial⟩, AV.sub_two (AV.sub_agg (AV.subL_cons AV.sub_lit' (AV.subL_cons AV.sub_lit' (AV.subL_cons AV.sub_lit' (AV.subL_cons (AV.sub_ff rfl) AV.subL_nil))))) (AV.sub_same _)⟩, rfl, rfl⟩⟩
      · have b1 : (d == 1) = false := beq_false_of_ne d1
        have b2 : (d == 2) = false := beq_false_of_ne d2
        have b3 : (d == 3) = false := beq_false_of_ne d3
        have b4 : (d == 4) = false := beq_false_of_ne d4
        simp only [Out.holds, b1, b2, b3, b4, true_implies, false_implies, Bool.true_eq_false, Bool.false_eq_true, and_true, true_and]
        rw [show ansC (rget m k) d k v = cc0 by unfold ansC; rw [if_neg d2, if_neg (by omega), if_neg (fun h => d4 h.1)], show nextR m d k v = m by unfold nextR; rw [if_neg d2, if_neg (by omega)]] at H
        exact ⟨_, _, H _, _, HImp.refl _ _, ⟨⟨fun _ => 6, ⟨.same _, trivial⟩, AV.sub_two (AV.sub_agg (AV.subL_cons AV.sub_lit' (AV.subL_cons AV.sub_lit' (AV.subL_cons AV.sub_lit' (AV.subL_cons (AV.sub_ff rfl) AV.subL_nil))))) (AV.sub_same _)⟩, rfl, rfl⟩⟩
  · exact H.elim
end Sx
end Go.Proofs.Ytemcdjdglcceiaa

/-
  The document: which commits are legal: the runs of the machine.
-/
namespace Go.Proofs.Ytemcdjdglcceiaa
namespace Sx
open Go
set_option maxRecDepth 100000
set_option linter.unusedVariables false

def hooksS4 : Nat → Option (HookS V) := fun g => match g with
  | 68 => some (hookFree [.rows Kd.pr, .int .i64, .int .i64, .int .i64] runAnswer)
  | _ => none
noncomputable def cfgS4 : Cfg Try.prog V := ⟨tab, kinds, fun _ => none, hooksS4, fun _ _ => none⟩
structure QPT where
  l : List Com
  c : Nat
  hb : l.length ≤ 1073741824
def QI5 (p : QPT) (x : Nat × List Pr × Nat) : St V := ⟨[(0, .sl false 0 0 4 p.l.length p.c), (4, .sl false 1 0 2 x.2.1.length (x.2.1.length + x.2.2)), (5, .int .i64 (x.1 : Int))], [(1, .arr 89 Kd.pr x.2.1 x.2.2), (0, .ro Kd.com p.l)], 2, 51, TQ⟩
def QR5 (p : QPT) (x : Nat × List Pr × Nat) : St V := ⟨[(2, .int .i64 (x.1 : Int)), (3, .sl false 1 0 2 x.2.1.length (x.2.1.length + x.2.2))], [(1, .arr 89 Kd.pr x.2.1 x.2.2), (0, .ro Kd.com p.l)], 2, 51, TQ⟩
def QL5 : LoopS V := trimLoop (trimSt [0, 4, 5] [0]) (loopG 1 (fun p : QPT => QI5 p (0, [], 0)) (fun p (y : List Pr × Nat) => runR p.l [] = (p.l.length, y.1)) (fun p y => QI5 p (p.l.length, y)) (fun p (y : Nat × List Pr × Nat) => runR p.l [] = (y.1, y.2.1)) (fun p y => QR5 p y))
def QI6 (p : QPQ) (x : Nat × Nat) : St V := ⟨[(0, .sl false 0 0 4 p.l.length p.c), (3, .sl false 1 0 1 (evsOf (p.l.take x.1)).length ((evsOf (p.l.take x.1)).length + x.2)), (4, .int .i64 (x.1 : Int))], [(1, .arr 3 Kd.int (evsOf (p.l.take x.1)) x.2), (0, .ro Kd.com p.l)], 2, 26, TQ⟩
def QL6 : LoopS V := trimLoop (trimSt [0, 3, 4] [0]) (loopH 1 (fun p : QPQ => QI6 p (0, 0)) (fun _ (_ : Nat) => True) (fun p s => QI6 p (p.l.length, s)))
noncomputable def cfgS5 : Cfg Try.prog V := ⟨tab, kinds, fun _ => none, hooksS4, fun f id => match f, id with | 60, 0 => some QL5 | 62, 0 => some QL6 | _, _ => none⟩
def runRefRun : RunFree V := fun ar K => match ar with
  | [.rows .com l c] => .need (l.length ≤ 1073741824) (.all Nat fun sp => K (.tup [.int .i64 ((runR l []).1 : Int), .sl false 0 0 2 (runR l []).2.length ((runR l []).2.length + sp)]) [.arr 89 Kd.pr (runR l []).2 sp])
  | _ => .bad 500
def hooksS6 : Nat → Option (HookS V) := fun g => match g with
  | 60 => some (hookFree [.rows Kd.com] runRefRun)
  | 62 => some (hookFree [.rows Kd.com] runEvicted)
  | 59 => some (hookFree [.rows Kd.com] runSpecRun)
  | 61 => some (hookFree [.rows Kd.com] runEvicted)
  | g => hooksS4 g
noncomputable def fnsS6 : Nat → Option Func := fun g => match g with | 52 => some Try.f52 | _ => none
noncomputable def cfgS6 : Cfg Try.prog V := ⟨tab, kinds, fnsS6, hooksS6, fun _ _ => none⟩
theorem qb5 (p : QPT) (x : Nat × List Pr × Nat) : runCode cfgS4 60 60 (loopOf Try.f60 0) (QI5 p x) (stopT (trimSt [0, 2, 3, 4, 5] [0, 1, 2, 3, 4, 5, 6, 7, 8])) = Out.ite (decide ((↑x.1 : Int) < (↑p.l.length : Int))) (Out.need (0 ≤ (↑x.1 : Int) ∧ (↑x.1 : Int) < (↑p.l.length : Int)) (Out.need (0 + x.1 < p.l.length) (Out.need (0 ≤ (↑x.1 : Int) ∧ (↑x.1 : Int) < (↑p.l.length : Int)) (Out.need (0 + x.1 < p.l.length) (Out.need (0 ≤ (↑x.1 : Int) ∧ (↑x.1 : Int) < (↑p.l.length : Int)) (Out.need (0 + x.1 < p.l.length) ((Out.need (0 + x.snd.fst.length ≤ x.snd.fst.length) (Out.need ((List.take x.snd.fst.length (List.drop 0 x.snd.fst)).length ≤ 1073741824 ∧ (List.take x.snd.fst.length (List.drop 0 x.snd.fst)).length ≤ x.snd.fst.length + x.snd.2) (Out.all Nat fun y => Out.need (0 ≤ (↑x.1 : Int) ∧ (↑x.1 : Int) < (↑p.l.length : Int)) (Out.need (0 + x.1 < p.l.length) (Out.ite (!((ansC (rget (List.take x.snd.fst.length (List.drop 0 x.snd.fst)) (p.l.getD (0 + x.1) (V.enc Kd.com).dflt).key) (p.l.getD (0 + x.1) (V.enc Kd.com).dflt).act (p.l.getD (0 + x.1) (V.enc Kd.com).dflt).key (p.l.getD (0 + x.1) (V.enc Kd.com).dflt).value).act == (p.l.getD (0 + x.1) (V.enc Kd.com).dflt).act && ((ansC (rget (List.take x.snd.fst.length (List.drop 0 x.snd.fst)) (p.l.getD (0 + x.1) (V.enc Kd.com).dflt).key) (p.l.getD (0 + x.1) (V.enc Kd.com).dflt).act (p.l.getD (0 + x.1) (V.enc Kd.com).dflt).key (p.l.getD (0 + x.1) (V.enc Kd.com).dflt).value).key == (p.l.getD (0 + x.1) (V.enc Kd.com).dflt).key && ((ansC (rget (List.take x.snd.fst.length (List.drop 0 x.snd.fst)) (p.l.getD (0 + x.1) (V.enc Kd.com).dflt).key) (p.l.getD (0 + x.1) (V.enc Kd.com).dflt).act (p.l.getD (0 + x.1) (V.enc Kd.com).dflt).key (p.l.getD (0 + x.1) (V.enc Kd.com).dflt).value).value == (p.l.getD (0 + x.1) (V.enc Kd.com).dflt).value && ((ansC (rget (List.take x.snd.fst.length (List.drop 0 x.snd.fst)) (p.l.getD (0 + x.1) (V.enc Kd.com).dflt).key) (p.l.getD (0 + x.1) (V.enc Kd.com).dflt).act (p.l.getD (0 + x.1) (V.enc Kd.com).dflt).key (p.l.getD (0 + x.1) (V.enc Kd.com).dflt).value).hit == (p.l.getD (0 + x.1) (V.enc Kd.com).dflt).hit && true))))) (Out.stop EX.rt {env := [(0, .sl false 0 0 4 p.l.length p.2), (2, .int .i64 (↑x.1 : Int)), (3, .sl false 1 0 2 x.snd.fst.length (x.snd.fst.length + x.snd.2)), (4, .sl false 1 0 2 x.snd.fst.length (x.snd.fst.length + x.snd.2)), (5, .int .i64 (↑x.1 : Int))], heap := [(3, .cells 27 [.int .i64 (ansC (rget (List.take x.snd.fst.length (List.drop 0 x.snd.fst)) (p.l.getD (0 + x.1) (V.enc Kd.com).dflt).key) (p.l.getD (0 + x.1) (V.enc Kd.com).dflt).act (p.l.getD (0 + x.1) (V.enc Kd.com).dflt).key (p.l.getD (0 + x.1) (V.enc Kd.com).dflt).value).act, .int .i64 (ansC (rget (List.take x.snd.fst.length (List.drop 0 x.snd.fst)) (p.l.getD (0 + x.1) (V.enc Kd.com).dflt).key) (p.l.getD (0 + x.1) (V.enc Kd.com).dflt).act (p.l.getD (0 + x.1) (V.enc Kd.com).dflt).key (p.l.getD (0 + x.1) (V.enc Kd.com).dflt).value).key, .int .i64 (ansC (rget (List.take x.snd.fst.length (List.drop 0 x.snd.fst)) (p.l.getD (0 + x.1) (V.enc Kd.com).dflt).key) (p.l.getD (0 + x.1) (V.enc Kd.com).dflt).act (p.l.getD (0 + x.1) (V.enc Kd.com).dflt).key (p.l.getD (0 + x.1) (V.enc Kd.com).dflt).value).value, .bool (ansC (rget (List.take x.snd.fst.length (List.drop 0 x.snd.fst)) (p.l.getD (0 + x.1) (V.enc Kd.com).dflt).key) (p.l.getD (0 + x.1) (V.enc Kd.com).dflt).act (p.l.getD (0 + x.1) (V.enc Kd.com).dflt).key (p.l.getD (0 + x.1) (V.enc Kd.com).dflt).value).hit]), (2, .arr 89 Kd.pr (nextR (List.take x.snd.fst.length (List.drop 0 x.snd.fst)) (p.l.getD (0 + x.1) (V.enc Kd.com).dflt).act (p.l.getD (0 + x.1) (V.enc Kd.com).dflt).key (p.l.getD (0 + x.1) (V.enc Kd.com).dflt).value) y), (1, .arr 89 Kd.pr x.snd.fst x.snd.2), (0, .ro Kd.com p.l)], nx := 5, nt := 51, tl := [3, 0, 1, 2, 3, 4, 5, 6, 7, 8, 9, 10, 11, 12, 13, 14, 15, 16] : St V }) (Out.ite ((ansC (rget (List.take x.snd.fst.length (List.drop 0 x.snd.fst)) (p.l.getD (0 + x.1) (V.enc Kd.com).dflt).key) (p.l.getD (0 + x.1) (V.enc Kd.com).dflt).act (p.l.getD (0 + x.1) (V.enc Kd.com).dflt).key (p.l.getD (0 + x.1) (V.enc Kd.com).dflt).value).act == 0) (Out.stop EX.rt {env := [(0, .sl false 0 0 4 p.l.length p.2), (2, .int .i64 (↑x.1 : Int)), (3, .sl false 1 0 2 x.snd.fst.length (x.snd.fst.length + x.snd.2)), (4, .sl false 1 0 2 x.snd.fst.length (x.snd.fst.length + x.snd.2)), (5, .int .i64 (↑x.1 : Int))], heap := [(3, .cells 27 [.int .i64 (ansC (rget (List.take x.snd.fst.length (List.drop 0 x.snd.fst)) (p.l.getD (0 + x.1) (V.enc Kd.com).dflt).key) (p.l.getD (0 + x.1) (V.enc Kd.com).dflt).act (p.l.getD (0 + x.1) (V.enc Kd.com).dflt).key (p.l.getD (0 + x.1) (V.enc Kd.com).dflt).value).act, .int .i64 (ansC (rget (List.take x.snd.fst.length (List.drop 0 x.snd.fst)) (p.l.getD (0 + x.1) (V.enc Kd.com).dflt).key) (p.l.getD (0 + x.1) (V.enc Kd.com).dflt).act (p.l.getD (0 + x.1) (V.enc Kd.com).dflt).key (p.l.getD (0 + x.1) (V.enc Kd.com).dflt).value).key, .int .i64 (ansC (rget (List.take x.snd.fst.length (List.drop 0 x.snd.fst)) (p.l.getD (0 + x.1) (V.enc Kd.com).dflt).key) (p.l.getD (0 + x.1) (V.enc Kd.com).dflt).act (p.l.getD (0 + x.1) (V.enc Kd.com).dflt).key (p.l.getD (0 + x.1) (V.enc Kd.com).dflt).value).value, .bool (ansC (rget (List.take x.snd.fst.length (List.drop 0 x.snd.fst)) (p.l.getD (0 + x.1) (V.enc Kd.com).dflt).key) (p.l.getD (0 + x.1) (V.enc Kd.com).dflt).act (p.l.getD (0 + x.1) (V.enc Kd.com).dflt).key (p.l.getD (0 + x.1) (V.enc Kd.com).dflt).value).hit]), (2, .arr 89 Kd.pr (nextR (List.take x.snd.fst.length (List.drop 0 x.snd.fst)) (p.l.getD (0 + x.1) (V.enc Kd.com).dflt).act (p.l.getD (0 + x.1) (V.enc Kd.com).dflt).key (p.l.getD (0 + x.1) (V.enc Kd.com).dflt).value) y), (1, .arr 89 Kd.pr x.snd.fst x.snd.2), (0, .ro Kd.com p.l)], nx := 5, nt := 51, tl := [3, 0, 1, 2, 3, 4, 5, 6, 7, 8, 9, 10, 11, 12, 13, 14, 15, 16] : St V }) (Out.stop EX.nx {env := [(0, .sl false 0 0 4 p.l.length p.2), (2, .und), (3, .und), (4, .sl false 2 0 2 (nextR (List.take x.snd.fst.length (List.drop 0 x.snd.fst)) (p.l.getD (0 + x.1) (V.enc Kd.com).dflt).act (p.l.getD (0 + x.1) (V.enc Kd.com).dflt).key (p.l.getD (0 + x.1) (V.enc Kd.com).dflt).value).length ((nextR (List.take x.snd.fst.length (List.drop 0 x.snd.fst)) (p.l.getD (0 + x.1) (V.enc Kd.com).dflt).act (p.l.getD (0 + x.1) (V.enc Kd.com).dflt).key (p.l.getD (0 + x.1) (V.enc Kd.com).dflt).value).length + y)), (5, .int .i64 (IntKind.i64.wrap ((↑x.1 : Int) + 1)))], heap := [(3, .cells 27 [.int .i64 (ansC (rget (List.take x.snd.fst.length (List.drop 0 x.snd.fst)) (p.l.getD (0 + x.1) (V.enc Kd.com).dflt).key) (p.l.getD (0 + x.1) (V.enc Kd.com).dflt).act (p.l.getD (0 + x.1) (V.enc Kd.com).dflt).key (p.l.getD (0 + x.1) (V.enc Kd.com).dflt).value).act, .int .i64 (ansC (rget (List.take x.snd.fst.length (List.drop 0 x.snd.fst)) (p.l.getD (0 + x.1) (V.enc Kd.com).dflt).key) (p.l.getD (0 + x.1) (V.enc Kd.com).dflt).act (p.l.getD (0 + x.1) (V.enc Kd.com).dflt).key (p.l.getD (0 + x.1) (V.enc Kd.com).dflt).value).key, .int .i64 (ansC (rget (List.take x.snd.fst.length (List.drop 0 x.snd.fst)) (p.l.getD (0 + x.1) (V.enc Kd.com).dflt).key) (p.l.getD (0 + x.1) (V.enc Kd.com).dflt).act (p.l.getD (0 + x.1) (V.enc Kd.com).dflt).key (p.l.getD (0 + x.1) (V.enc Kd.com).dflt).value).value, .bool (ansC (rget (List.take x.snd.fst.length (List.drop 0 x.snd.fst)) (p.l.getD (0 + x.1) (V.enc Kd.com).dflt).key) (p.l.getD (0 + x.1) (V.enc Kd.com).dflt).act (p.l.getD (0 + x.1) (V.enc Kd.com).dflt).key (p.l.getD (0 + x.1) (V.enc Kd.com).dflt).value).hit]), (2, .arr 89 Kd.pr (nextR (List.take x.snd.fst.length (List.drop 0 x.snd.fst)) (p.l.getD (0 + x.1) (V.enc Kd.com).dflt).act (p.l.getD (0 + x.1) (V.enc Kd.com).dflt).key (p.l.getD (0 + x.1) (V.enc Kd.com).dflt).value) y), (1, .arr 89 Kd.pr x.snd.fst x.snd.2), (0, .ro Kd.com p.l)], nx := 5, nt := 51, tl := [3, 0, 1, 2, 3, 4, 5, 6, 7, 8, 9, 10, 11, 12, 13, 14, 15, 16] : St V }))))))).both (Out.need (0 + x.snd.fst.length ≤ x.snd.fst.length) (Out.need ((List.take x.snd.fst.length (List.drop 0 x.snd.fst)).length ≤ 1073741824 ∧ (List.take x.snd.fst.length (List.drop 0 x.snd.fst)).length ≤ x.snd.fst.length + x.snd.2) (Out.all Nat fun y => Out.need (0 ≤ (↑x.1 : Int) ∧ (↑x.1 : Int) < (↑p.l.length : Int)) (Out.need (0 + x.1 < p.l.length) (Out.ite (!((ansC (rget (List.take x.snd.fst.length (List.drop 0 x.snd.fst)) (p.l.getD (0 + x.1) (V.enc Kd.com).dflt).key) (p.l.getD (0 + x.1) (V.enc Kd.com).dflt).act (p.l.getD (0 + x.1) (V.enc Kd.com).dflt).key (p.l.getD (0 + x.1) (V.enc Kd.com).dflt).value).act == (p.l.getD (0 + x.1) (V.enc Kd.com).dflt).act && ((ansC (rget (List.take x.snd.fst.length (List.drop 0 x.snd.fst)) (p.l.getD (0 + x.1) (V.enc Kd.com).dflt).key) (p.l.getD (0 + x.1) (V.enc Kd.com).dflt).act (p.l.getD (0 + x.1) (V.enc Kd.com).dflt).key (p.l.getD (0 + x.1) (V.enc Kd.com).dflt).value).key == (p.l.getD (0 + x.1) (V.enc Kd.com).dflt).key && ((ansC (rget (List.take x.snd.fst.length (List.drop 0 x.snd.fst)) (p.l.getD (0 + x.1) (V.enc Kd.com).dflt).key) (p.l.getD (0 + x.1) (V.enc Kd.com).dflt).act (p.l.getD (0 + x.1) (V.enc Kd.com).dflt).key (p.l.getD (0 + x.1) (V.enc Kd.com).dflt).value).value == (p.l.getD (0 + x.1) (V.enc Kd.com).dflt).value && ((ansC (rget (List.take x.snd.fst.length (List.drop 0 x.snd.fst)) (p.l.getD (0 + x.1) (V.enc Kd.com).dflt).key) (p.l.getD (0 + x.1) (V.enc Kd.com).dflt).act (p.l.getD (0 + x.1) (V.enc Kd.com).dflt).key (p.l.getD (0 + x.1) (V.enc Kd.com).dflt).value).hit == (p.l.getD (0 + x.1) (V.enc Kd.com).dflt).hit && true))))) (Out.stop EX.rt {env := [(0, .sl false 0 0 4 p.l.length p.2), (2, .int .i64 (↑x.1 : Int)), (3, .sl false 1 0 2 x.snd.fst.length (x.snd.fst.length + x.snd.2)), (4, .sl false 1 0 2 x.snd.fst.length (x.snd.fst.length + x.snd.2)), (5, .int .i64 (↑x.1 : Int))], heap := [(3, .arr 89 Kd.pr (nextR (List.take x.snd.fst.length (List.drop 0 x.snd.fst)) (p.l.getD (0 + x.1) (V.enc Kd.com).dflt).act (p.l.getD (0 + x.1) (V.enc Kd.com).dflt).key (p.l.getD (0 + x.1) (V.enc Kd.com).dflt).value) y), (2, .cells 27 [.int .i64 (ansC (rget (List.take x.snd.fst.length (List.drop 0 x.snd.fst)) (p.l.getD (0 + x.1) (V.enc Kd.com).dflt).key) (p.l.getD (0 + x.1) (V.enc Kd.com).dflt).act (p.l.getD (0 + x.1) (V.enc Kd.com).dflt).key (p.l.getD (0 + x.1) (V.enc Kd.com).dflt).value).act, .int .i64 (ansC (rget (List.take x.snd.fst.length (List.drop 0 x.snd.fst)) (p.l.getD (0 + x.1) (V.enc Kd.com).dflt).key) (p.l.getD (0 + x.1) (V.enc Kd.com).dflt).act (p.l.getD (0 + x.1) (V.enc Kd.com).dflt).key (p.l.getD (0 + x.1) (V.enc Kd.com).dflt).value).key, .int .i64 (ansC (rget (List.take x.snd.fst.length (List.drop 0 x.snd.fst)) (p.l.getD (0 + x.1) (V.enc Kd.com).dflt).key) (p.l.getD (0 + x.1) (V.enc Kd.com).dflt).act (p.l.getD (0 + x.1) (V.enc Kd.com).dflt).key (p.l.getD (0 + x.1) (V.enc Kd.com).dflt).value).value, .bool (ansC (rget (List.take x.snd.fst.length (List.drop 0 x.snd.fst)) (p.l.getD (0 + x.1) (V.enc Kd.com).dflt).key) (p.l.getD (0 + x.1) (V.enc Kd.com).dflt).act (p.l.getD (0 + x.1) (V.enc Kd.com).dflt).key (p.l.getD (0 + x.1) (V.enc Kd.com).dflt).value).hit]), (1, .arr 89 Kd.pr x.snd.fst x.snd.2), (0, .ro Kd.com p.l)], nx := 5, nt := 51, tl := [2, 0, 1, 2, 3, 4, 5, 6, 7, 8, 9, 10, 11, 12, 13, 14, 15, 16] : St V }) (Out.ite ((ansC (rget (List.take x.snd.fst.length (List.drop 0 x.snd.fst)) (p.l.getD (0 + x.1) (V.enc Kd.com).dflt).key) (p.l.getD (0 + x.1) (V.enc Kd.com).dflt).act (p.l.getD (0 + x.1) (V.enc Kd.com).dflt).key (p.l.getD (0 + x.1) (V.enc Kd.com).dflt).value).act == 0) (Out.stop EX.rt {env := [(0, .sl false 0 0 4 p.l.length p.2), (2, .int .i64 (↑x.1 : Int)), (3, .sl false 1 0 2 x.snd.fst.length (x.snd.fst.length + x.snd.2)), (4, .sl false 1 0 2 x.snd.fst.length (x.snd.fst.length + x.snd.2)), (5, .int .i64 (↑x.1 : Int))], heap := [(3, .arr 89 Kd.pr (nextR (List.take x.snd.fst.length (List.drop 0 x.snd.fst)) (p.l.getD (0 + x.1) (V.enc Kd.com).dflt).act (p.l.getD (0 + x.1) (V.enc Kd.com).dflt).key (p.l.getD (0 + x.1) (V.enc Kd.com).dflt).value) y), (2, .cells 27 [.int .i64 (ansC (rget (List.take x.snd.fst.length (List.drop 0 x.snd.fst)) (p.l.getD (0 + x.1) (V.enc Kd.com).dflt).key) (p.l.getD (0 + x.1) (V.enc Kd.com).dflt).act (p.l.getD (0 + x.1) (V.enc Kd.com).dflt).key (p.l.getD (0 + x.1) (V.enc Kd.com).dflt).value).act, .int .i64 (ansC (rget (List.take x.snd.fst.length (List.drop 0 x.snd.fst)) (p.l.getD (0 + x.1) (V.enc Kd.com).dflt).key) (p.l.getD (0 + x.1) (V.enc Kd.com).dflt).act (p.l.getD (0 + x.1) (V.enc Kd.com).dflt).key (p.l.getD (0 + x.1) (V.enc Kd.com).dflt).value).key, .int .i64 (ansC (rget (List.take x.snd.fst.length (List.drop 0 x.snd.fst)) (p.l.getD (0 + x.1) (V.enc Kd.com).dflt).key) (p.l.getD (0 + x.1) (V.enc Kd.com).dflt).act (p.l.getD (0 + x.1) (V.enc Kd.com).dflt).key (p.l.getD (0 + x.1) (V.enc Kd.com).dflt).value).value, .bool (ansC (rget (List.take x.snd.fst.length (List.drop 0 x.snd.fst)) (p.l.getD (0 + x.1) (V.enc Kd.com).dflt).key) (p.l.getD (0 + x.1) (V.enc Kd.com).dflt).act (p.l.getD (0 + x.1) (V.enc Kd.com).dflt).key (p.l.getD (0 + x.1) (V.enc Kd.com).dflt).value).hit]), (1, .arr 89 Kd.pr x.snd.fst x.snd.2), (0, .ro Kd.com p.l)], nx := 5, nt := 51, tl := [2, 0, 1, 2, 3, 4, 5, 6, 7, 8, 9, 10, 11, 12, 13, 14, 15, 16] : St V }) (Out.stop EX.nx {env := [(0, .sl false 0 0 4 p.l.length p.2), (2, .und), (3, .und), (4, .sl false 3 0 2 (nextR (List.take x.snd.fst.length (List.drop 0 x.snd.fst)) (p.l.getD (0 + x.1) (V.enc Kd.com).dflt).act (p.l.getD (0 + x.1) (V.enc Kd.com).dflt).key (p.l.getD (0 + x.1) (V.enc Kd.com).dflt).value).length ((nextR (List.take x.snd.fst.length (List.drop 0 x.snd.fst)) (p.l.getD (0 + x.1) (V.enc Kd.com).dflt).act (p.l.getD (0 + x.1) (V.enc Kd.com).dflt).key (p.l.getD (0 + x.1) (V.enc Kd.com).dflt).value).length + y)), (5, .int .i64 (IntKind.i64.wrap ((↑x.1 : Int) + 1)))], heap := [(3, .arr 89 Kd.pr (nextR (List.take x.snd.fst.length (List.drop 0 x.snd.fst)) (p.l.getD (0 + x.1) (V.enc Kd.com).dflt).act (p.l.getD (0 + x.1) (V.enc Kd.com).dflt).key (p.l.getD (0 + x.1) (V.enc Kd.com).dflt).value) y), (2, .cells 27 [.int .i64 (ansC (rget (List.take x.snd.fst.length (List.drop 0 x.snd.fst)) (p.l.getD (0 + x.1) (V.enc Kd.com).dflt).key) (p.l.getD (0 + x.1) (V.enc Kd.com).dflt).act (p.l.getD (0 + x.1) (V.enc Kd.com).dflt).key (p.l.getD (0 + x.1) (V.enc Kd.com).dflt).value).act, .int .i64 (ansC (rget (List.take x.snd.fst.length (List.drop 0 x.snd.fst)) (p.l.getD (0 + x.1) (V.enc Kd.com).dflt).key) (p.l.getD (0 + x.1) (V.enc Kd.com).dflt).act (p.l.getD (0 + x.1) (V.enc Kd.com).dflt).key (p.l.getD (0 + x.1) (V.enc Kd.com).dflt).value).key, .int .i64 (ansC (rget (List.take x.snd.fst.length (List.drop 0 x.snd.fst)) (p.l.getD (0 + x.1) (V.enc Kd.com).dflt).key) (p.l.getD (0 + x.1) (V.enc Kd.com).dflt).act (p.l.getD (0 + x.1) (V.enc Kd.com).dflt).key (p.l.getD (0 + x.1) (V.enc Kd.com).dflt).value).value, .bool (ansC (rget (List.take x.snd.fst.length (List.drop 0 x.snd.fst)) (p.l.getD (0 + x.1) (V.enc Kd.com).dflt).key) (p.l.getD (0 + x.1) (V.enc Kd.com).dflt).act (p.l.getD (0 + x.1) (V.enc Kd.com).dflt).key (p.l.getD (0 + x.1) (V.enc Kd.com).dflt).value).hit]), (1, .arr 89 Kd.pr x.snd.fst x.snd.2), (0, .ro Kd.com p.l)], nx := 5, nt := 51, tl := [2, 0, 1, 2, 3, 4, 5, 6, 7, 8, 9, 10, 11, 12, 13, 14, 15, 16] : St V })))))))))))))) (Out.stop (EX.ex 0) {env := [(0, .sl false 0 0 4 p.l.length p.2), (2, .und), (3, .und), (4, .sl false 1 0 2 x.snd.fst.length (x.snd.fst.length + x.snd.2)), (5, .int .i64 (↑x.1 : Int))], heap := [(1, .arr 89 Kd.pr x.snd.fst x.snd.2), (0, .ro Kd.com p.l)], nx := 2, nt := 51, tl := [0, 1, 2, 3, 4, 5, 6, 7, 8, 9, 10, 11, 12, 13, 14, 15, 16] : St V }) := by kernel_rfl

theorem qb6 (p : QPQ) (x : Nat × Nat) : runCode cfgS4 60 62 (loopOf Try.f62 0) (QI6 p x) (stopT (trimSt [0, 3, 4] [0, 1, 2, 3, 4, 5, 6])) = Out.ite (decide ((↑x.1 : Int) < (↑p.l.length : Int))) (Out.need (0 ≤ (↑x.1 : Int) ∧ (↑x.1 : Int) < (↑p.l.length : Int)) (Out.need (0 + x.1 < p.l.length) (Out.ite ((p.l.getD (0 + x.1) (V.enc Kd.com).dflt).act == 4) (Out.need (0 ≤ (↑x.1 : Int) ∧ (↑x.1 : Int) < (↑p.l.length : Int)) (Out.need (0 + x.1 < p.l.length) (Out.need (0 = 0 ∧ (evsOf (List.take x.1 p.l)).length = (evsOf (List.take x.1 p.l)).length ∧ (evsOf (List.take x.1 p.l)).length + x.2 = (evsOf (List.take x.1 p.l)).length + x.2 ∧ ((evsOf (List.take x.1 p.l)).length + 1) * 8 ≤ 140737488355328) (Out.all Nat fun y => Out.stop EX.nx {env := [(0, .sl false 0 0 4 p.l.length p.2), (3, .sl false 3 0 1 ((evsOf (List.take x.1 p.l)).length + 1) ((evsOf (List.take x.1 p.l)).length + 1 + y)), (4, .int .i64 (IntKind.i64.wrap ((↑x.1 : Int) + 1)))], heap := [(3, .arr 3 Kd.int (evsOf (List.take x.1 p.l) ++ [(p.l.getD (0 + x.1) (V.enc Kd.com).dflt).key]) y), (2, .cells 3 [.int .i64 (p.l.getD (0 + x.1) (V.enc Kd.com).dflt).key]), (0, .ro Kd.com p.l)], nx := 4, nt := 26, tl := [1, 0, 1, 2, 3, 4, 5, 6, 7, 8, 9, 10, 11, 12, 13, 14, 15, 16] : St V })))) (Out.stop EX.nx {env := [(0, .sl false 0 0 4 p.l.length p.2), (3, .sl false 1 0 1 (evsOf (List.take x.1 p.l)).length ((evsOf (List.take x.1 p.l)).length + x.2)), (4, .int .i64 (IntKind.i64.wrap ((↑x.1 : Int) + 1)))], heap := [(1, .arr 3 Kd.int (evsOf (List.take x.1 p.l)) x.2), (0, .ro Kd.com p.l)], nx := 2, nt := 26, tl := [0, 1, 2, 3, 4, 5, 6, 7, 8, 9, 10, 11, 12, 13, 14, 15, 16] : St V })))) (Out.stop (EX.ex 0) {env := [(0, .sl false 0 0 4 p.l.length p.2), (3, .sl false 1 0 1 (evsOf (List.take x.1 p.l)).length ((evsOf (List.take x.1 p.l)).length + x.2)), (4, .int .i64 (↑x.1 : Int))], heap := [(1, .arr 3 Kd.int (evsOf (List.take x.1 p.l)) x.2), (0, .ro Kd.com p.l)], nx := 2, nt := 26, tl := [0, 1, 2, 3, 4, 5, 6, 7, 8, 9, 10, 11, 12, 13, 14, 15, 16] : St V }) := by kernel_rfl

theorem qt6 (l : List Com) (c : Nat) : runF cfgS5 60 60 Try.f60 [.sl false 0 0 4 l.length c] [(0, .ro Kd.com l)] 1 = Out.need (LoopFor Try.prog 60 0 (loopOf Try.f60 0) QL5) (Out.ex (QPT → Prop) fun y => Out.need (1 ≤ 1 ∧ SImp 1 {env := [(0, .sl false 0 0 4 l.length c), (4, .nilS), (5, .lit .i64 0)], heap := [(0, .ro Kd.com l)], nx := 1, nt := 51, tl := [] : St V } (fun p => QI5 p (0, [], 0)) y) (Out.all QPT fun y_1 => Out.asm (y y_1) ((Out.all (List Pr × Nat) fun y => Out.asm ((fun p y => runR p.l [] = (p.l.length, y.fst)) y_1 y) (Out.fin (.tup [.int .i64 (↑y_1.l.length : Int), .sl false 1 0 2 (y_1.l.length, y).snd.fst.length ((y_1.l.length, y).snd.fst.length + (y_1.l.length, y).snd.snd)]) [(1, .arr 89 Kd.pr (y_1.l.length, y).snd.fst (y_1.l.length, y).snd.snd), (0, .ro Kd.com y_1.l)] 2)).both (Out.all (Nat × List Pr × Nat) fun y => Out.asm ((fun p y => runR p.l [] = (y.1, y.snd.fst)) y_1 y) (Out.fin (.tup [.int .i64 (↑y.1 : Int), .sl false 1 0 2 y.snd.fst.length (y.snd.fst.length + y.snd.2)]) [(1, .arr 89 Kd.pr y.snd.fst y.snd.2), (0, .ro Kd.com y_1.l)] 2))))) := by kernel_rfl

theorem qt7 (l : List Com) (c : Nat) : runF cfgS5 60 62 Try.f62 [.sl false 0 0 4 l.length c] [(0, .ro Kd.com l)] 1 = Out.need (LoopFor Try.prog 62 0 (loopOf Try.f62 0) QL6) (Out.ex (QPQ → Prop) fun y => Out.need (1 ≤ 1 ∧ SImp 1 {env := [(0, .sl false 0 0 4 l.length c), (3, .nilS), (4, .lit .i64 0)], heap := [(0, .ro Kd.com l)], nx := 1, nt := 26, tl := [] : St V } (fun p => QI6 p (0, 0)) y) (Out.all QPQ fun y_1 => Out.asm (y y_1) (Out.all Nat fun y => Out.asm ((fun x x_1 => True) y_1 y) (Out.fin (.sl false 1 0 1 (evsOf (List.take (y_1.l.length, y).fst y_1.l)).length ((evsOf (List.take (y_1.l.length, y).fst y_1.l)).length + y)) [(1, .arr 3 Kd.int (evsOf (List.take (y_1.l.length, y).fst y_1.l)) y), (0, .ro Kd.com y_1.l)] 2)))) := by kernel_rfl

theorem qt8 (l : List Com) (c : Nat) : runF cfgS6 60 52 Try.f52 [.sl false 0 0 4 l.length c] [(0, .ro Kd.com l)] 1 = Out.need (0 + l.length ≤ l.length) (Out.need ((List.take l.length (List.drop 0 l)).length ≤ 1099511627776) (Out.fin (.int .i64 (↑(runM (List.take l.length (List.drop 0 l)) []).fst : Int)) [(1, .mp .i64 Kd.int (runM (List.take l.length (List.drop 0 l)) []).snd), (0, .ro Kd.com l)] 2)) := by kernel_rfl

theorem qt9 (l : List Com) (c : Nat) : runF cfgS6 60 53 Try.f53 [.sl false 0 0 4 l.length c] [(0, .ro Kd.com l)] 1 = Out.need (0 + l.length ≤ l.length) (Out.need ((List.take l.length (List.drop 0 l)).length ≤ 1073741824) (Out.all Nat fun y => Out.fin (.int .i64 (↑(runR (List.take l.length (List.drop 0 l)) []).fst : Int)) [(1, .arr 89 Kd.pr (runR (List.take l.length (List.drop 0 l)) []).snd y), (0, .ro Kd.com l)] 2)) := by kernel_rfl

theorem qt10 (l : List Com) (c : Nat) : runF cfgS6 60 54 Try.f54 [.sl false 0 0 4 l.length c] [(0, .ro Kd.com l)] 1 = Out.need (0 + l.length ≤ l.length) (Out.need ((List.take l.length (List.drop 0 l)).length ≤ 1099511627776) (Out.ite ((↑(runM (List.take l.length (List.drop 0 l)) []).fst : Int) == (↑l.length : Int)) (Out.need (0 + l.length ≤ l.length) (Out.need ((List.take l.length (List.drop 0 l)).length ≤ 1099511627776) (Out.all Nat fun y => Out.fin (.bool ((↑(evsOf (List.take l.length (List.drop 0 l))).length : Int) == 0)) [(2, .arr 3 Kd.int (evsOf (List.take l.length (List.drop 0 l))) y), (1, .mp .i64 Kd.int (runM (List.take l.length (List.drop 0 l)) []).snd), (0, .ro Kd.com l)] 3))) (Out.fin .ff [(1, .mp .i64 Kd.int (runM (List.take l.length (List.drop 0 l)) []).snd), (0, .ro Kd.com l)] 2))) := by kernel_rfl

theorem qt11 (l : List Com) (c : Nat) : runF cfgS6 60 55 Try.f55 [.sl false 0 0 4 l.length c] [(0, .ro Kd.com l)] 1 = Out.need (0 + l.length ≤ l.length) (Out.need ((List.take l.length (List.drop 0 l)).length ≤ 1073741824) (Out.all Nat fun y => Out.need (0 + l.length ≤ l.length) (Out.need ((List.take l.length (List.drop 0 l)).length ≤ 1099511627776) (Out.all Nat fun y_1 => Out.ite ((↑(runR (List.take l.length (List.drop 0 l)) []).fst : Int) == (↑l.length : Int)) (Out.fin (.bool ((↑(evsOf (List.take l.length (List.drop 0 l))).length : Int) == 0)) [(2, .arr 3 Kd.int (evsOf (List.take l.length (List.drop 0 l))) y_1), (1, .arr 89 Kd.pr (runR (List.take l.length (List.drop 0 l)) []).snd y), (0, .ro Kd.com l)] 3) (Out.fin .ff [(2, .arr 3 Kd.int (evsOf (List.take l.length (List.drop 0 l))) y_1), (1, .arr 89 Kd.pr (runR (List.take l.length (List.drop 0 l)) []).snd y), (0, .ro Kd.com l)] 3))))) := by kernel_rfl

end Sx
end Go.Proofs.Ytemcdjdglcceiaa

/-
  The document: which commits are legal; both ways alike.
-/
namespace Go.Proofs.Ytemcdjdglcceiaa
namespace Sx
open Go
set_option linter.unusedSimpArgs false
set_option linter.unusedVariables false

theorem hooksS4_ok : ∀ g H, hooksS4 g = some H → HookOk Try.prog g H := by
  intro g H h
  unfold hooksS4 at h
  split at h
  · cases h; exact hAnswer
  · cases h
theorem cfgS4_ok : cfgS4.ok := ⟨tab_met, kinds_met, mixed_met, fun g fn h => (by cases h), hooksS4_ok⟩
theorem cfgS5_ok : cfgS5.ok := ⟨tab_met, kinds_met, mixed_met, fun g fn h => (by cases h), hooksS4_ok⟩

theorem qbody5 (p : QPT) (x : Nat × List Pr × Nat) (hi : x.1 ≤ p.l.length) (hx : x.2.1.length ≤ x.1) (Q : EX → St V → Prop) (F : AV → Heap V → Nat → Prop)
    (hrt : ∀ ST : St V, x.1 < p.l.length → ¬ okC (rget x.2.1 (p.l.getD x.1 cc0).key) (p.l.getD x.1 cc0) → Wk 1 [(1, 1)] ST (QR5 p x) → Q .rt ST)
    (hnx : ∀ (ST : St V) (sp b : Nat), x.1 < p.l.length → okC (rget x.2.1 (p.l.getD x.1 cc0).key) (p.l.getD x.1 cc0) → Wk 1 [(1, b)] ST (QI5 p (x.1 + 1, nextR x.2.1 (p.l.getD x.1 cc0).act (p.l.getD x.1 cc0).key (p.l.getD x.1 cc0).value, sp)) → Q .nx ST)
    (hex : ∀ ST : St V, x.1 = p.l.length → Wk 1 [(1, 1)] ST (QI5 p x) → Q (.ex 0) ST) :
    (runCode cfgS4 60 60 (loopOf Try.f60 0) (QI5 p x) (stopT (trimSt [0, 2, 3, 4, 5] [0, 1, 2, 3, 4, 5, 6, 7, 8]))).holds ⟨Q, F⟩ := by
  rw [qb5]
  have hb := p.hb
  have hw : x.1 < p.l.length → IntKind.wrap .i64 ((x.1 : Int) + 1) = ((x.1 + 1 : Nat) : Int) := fun h => wrap_nat (by omega)
  rw [show (0 + x.1) = x.1 from Nat.zero_add _, show p.l.getD x.1 (V.enc Kd.com).dflt = p.l.getD x.1 cc0 from rfl]
  rw [show List.take x.2.1.length (List.drop 0 x.2.1) = x.2.1 from List.take_length ..]
  generalize p.l.getD x.1 cc0 = c at hrt hnx ⊢
  unfold okC at hrt hnx
  generalize ansC (rget x.2.1 c.key) c.act c.key c.value = a at hrt hnx ⊢
  have ext : (a.act = c.act ∧ a.key = c.key ∧ a.value = c.value ∧ a.hit = c.hit) ↔ a = c := by
    obtain ⟨a1, a2, a3, a4⟩ := a
    obtain ⟨b1, b2, b3, b4⟩ := c
    simp
  rw [← ext] at hrt hnx
  clear ext
  simp only [Out.holds, decide_eq_true_eq, decide_eq_false_iff_not, beq_iff_eq, beq_eq_false_iff_ne, Bool.and_true, Bool.not_eq_true', Bool.not_eq_false', Bool.and_eq_true, Bool.and_eq_false_imp, true_implies, true_and]
  by_cases hlt : x.1 < p.l.length
  · refine ⟨fun _ => ?_, fun h => absurd hlt (by omega)⟩
    repeat' first | apply And.intro | intro _
    all_goals first
      | omega
      | exact hrt _ hlt (by simp_all) ⟨⟨AV.sub_same _, AV.sub_same _, trivial⟩, ⟨.same _, .same _, trivial⟩, rfl, tl_ok rfl, ⟨.inl (in_ok rfl), .inl (in_ok rfl), .inl (in_ok rfl), .inr rfl, trivial⟩, ⟨Nat.le_of_ble_eq_true rfl, rfl⟩⟩
      | exact hnx _ _ 2 hlt (by simp_all) ⟨⟨AV.sub_same _, AV.sub_same _, AV.sub_int (hw hlt), trivial⟩, ⟨.same _, .same _, trivial⟩, rfl, tl_ok rfl, ⟨.inl (in_ok rfl), .inl (in_ok rfl), .inl (in_ok rfl), .inr rfl, trivial⟩, ⟨Nat.le_of_ble_eq_true rfl, rfl⟩⟩
      | exact hnx _ _ 3 hlt (by simp_all) ⟨⟨AV.sub_same _, AV.sub_same _, AV.sub_int (hw hlt), trivial⟩, ⟨.same _, .same _, trivial⟩, rfl, tl_ok rfl, ⟨.inl (in_ok rfl), .inl (in_ok rfl), .inl (in_ok rfl), .inr rfl, trivial⟩, ⟨Nat.le_of_ble_eq_true rfl, rfl⟩⟩
      | skip
  · exact ⟨fun h => absurd h (by omega), fun h => hex _ (by omega) ⟨⟨AV.sub_same _, AV.sub_same _, AV.sub_same _, trivial⟩, ⟨.same _, .same _, trivial⟩, rfl, tl_ok rfl, ⟨.inl (in_ok rfl), .inr rfl, trivial⟩, ⟨Nat.le_of_ble_eq_true rfl, rfl⟩⟩⟩
theorem ql5_ok : LoopOk Try.prog 0 (loopOf Try.f60 0) QL5 := by
  refine trimLoop_ok (trim_ok _ _) (loopT_ok (C := cfgS4) cfgS4_ok (f := 60) (n := 60) (trim_ok [0, 2, 3, 4, 5] [0, 1, 2, 3, 4, 5, 6, 7, 8]) 1 QI5 (fun p x => (x.1 ≤ p.l.length ∧ x.2.1.length ≤ x.1) ∧ runR p.l [] = (x.1 + (runR (p.l.drop x.1) x.2.1).1, (runR (p.l.drop x.1) x.2.1).2)) (fun _ => (0, [], 0)) (fun p x => p.l.length - x.1)
    (fun p (y : List Pr × Nat) => runR p.l [] = (p.l.length, y.1)) (fun p y => QI5 p (p.l.length, y)) (fun p (y : Nat × List Pr × Nat) => runR p.l [] = (y.1, y.2.1)) (fun p y => QR5 p y) (fun p => ⟨⟨Nat.zero_le _, Nat.zero_le _⟩, by simp⟩) ?_)
  intro p x ⟨⟨hi, hlen⟩, hx⟩
  have st : x.1 < p.l.length → runR (p.l.drop x.1) x.2.1 = if okC (rget x.2.1 (p.l.getD x.1 cc0).key) (p.l.getD x.1 cc0) then ((runR (p.l.drop (x.1 + 1)) (nextR x.2.1 (p.l.getD x.1 cc0).act (p.l.getD x.1 cc0).key (p.l.getD x.1 cc0).value)).1 + 1, (runR (p.l.drop (x.1 + 1)) (nextR x.2.1 (p.l.getD x.1 cc0).act (p.l.getD x.1 cc0).key (p.l.getD x.1 cc0).value)).2) else (0, x.2.1) := fun h => by rw [drop_cons p.l cc0 h]; rfl
  have hnl := nextR_len x.2.1 (p.l.getD x.1 cc0).act (p.l.getD x.1 cc0).key (p.l.getD x.1 cc0).value
  refine qbody5 p x hi hlen _ _ (fun ST hlt hn hw => SImp.of_wk (ren := [(1, 1)]) x hw ?_) (fun ST sp b hlt ho hw => SImp.of_wk (x.1 + 1, _, sp) hw ⟨⟨⟨hlt, ?_⟩, ?_⟩, ?_⟩) (fun ST he hw => ⟨rfl, SImp.of_wk (ren := [(1, 1)]) x.2 ?_ ?_⟩)
  · rw [hx, st hlt, if_neg hn]; rfl
  · dsimp only; omega
  · rw [hx, st hlt, if_pos ho]
    exact Prod.ext (by dsimp only; omega) rfl
  · show p.l.length - (x.1 + 1) < p.l.length - x.1; omega
  · obtain ⟨i, m⟩ := x; simp only at he; subst he; exact hw
  · rw [hx, he, List.drop_length]; rfl
theorem hRefRun : HookOk Try.prog 60 (hookFree [.rows Kd.com] runRefRun) := by
  refine free_hook (C := cfgS5) cfgS5_ok (n := 60) (fn := Try.f60) ⟨by kernel_rfl, by kernel_rfl⟩ (by kernel_rfl) ?_
  intro M ar K0 H
  unfold runRefRun at H
  split at H
  · rename_i l c
    obtain ⟨hb, H⟩ := H
    refine ⟨show 1 ≤ _ by decide +kernel, ?_⟩
    show (runF cfgS5 60 60 Try.f60 [.sl false 0 0 4 l.length c] [(0, .ro Kd.com l)] 1).holds _
    rw [qt6]
    refine ⟨ql5_ok, fun p => p = ⟨l, c, hb⟩, ⟨Nat.le_refl _, SImp.of_wk (ren := [(1, 99)]) ⟨l, c, hb⟩ ?_ rfl⟩, ?_⟩
    · exact ⟨⟨AV.sub_same _, AV.sub_nilS, AV.sub_lit', trivial⟩, ⟨.none _ _, .same _, trivial⟩, rfl, tl_ok rfl, ⟨.inr rfl, trivial⟩, ⟨Nat.le_of_ble_eq_true rfl, rfl⟩⟩
    · rintro _ rfl
      refine ⟨fun y hy => ?_, fun y hy => ?_⟩
      · have h0 := H y.2
        rw [show runR l [] = (l.length, y.1) from hy] at h0
        exact ⟨_, _, h0, _, HImp.refl _ _, ⟨⟨fun _ => 1, ⟨.same _, trivial⟩, AV.sub_same _⟩, rfl, rfl⟩⟩
      · have h0 := H y.2.2
        rw [show runR l [] = (y.1, y.2.1) from hy] at h0
        exact ⟨_, _, h0, _, HImp.refl _ _, ⟨⟨fun _ => 1, ⟨.same _, trivial⟩, AV.sub_same _⟩, rfl, rfl⟩⟩
  · exact H.elim

theorem qbody6 (p : QPQ) (x : Nat × Nat) (hi : x.1 ≤ p.l.length) (Q : EX → St V → Prop) (F : AV → Heap V → Nat → Prop)
    (hnx : ∀ (ST : St V) (sp b : Nat), x.1 < p.l.length → Wk 1 [(1, b)] ST (QI6 p (x.1 + 1, sp)) → Q .nx ST) (hex : ∀ ST : St V, x.1 = p.l.length → Wk 1 [(1, 1)] ST (QI6 p x) → Q (.ex 0) ST) :
    (runCode cfgS4 60 62 (loopOf Try.f62 0) (QI6 p x) (stopT (trimSt [0, 3, 4] [0, 1, 2, 3, 4, 5, 6]))).holds ⟨Q, F⟩ := by
  rw [qb6]
  have hb := p.hb
  have hle := evs_le p.l x.1
  have hw : x.1 < p.l.length → IntKind.wrap .i64 ((x.1 : Int) + 1) = ((x.1 + 1 : Nat) : Int) := fun h => wrap_nat (by omega)
  have hs : x.1 < p.l.length → evsOf (p.l.take (x.1 + 1)) = evsOf (p.l.take x.1) ++ if (p.l.getD x.1 (V.enc Kd.com).dflt).act = 4 then [(p.l.getD x.1 (V.enc Kd.com).dflt).key] else [] := evs_succ
  have blk : ∀ {a b : List Int} {s : Nat}, a = b → BSub (some (.arr 3 Kd.int a s : Blk V)) (.arr 3 Kd.int b s) := fun h => by rw [h]; exact .same _
  simp only [Out.holds, Nat.zero_add, decide_eq_true_eq, decide_eq_false_iff_not, beq_iff_eq, beq_eq_false_iff_ne]
  refine ⟨fun h => ⟨by omega, by omega, fun h2 => ⟨by omega, by omega, ⟨trivial, trivial, trivial, by omega⟩, fun y => hnx _ y 3 (by omega) ?_⟩, fun h2 => hnx _ x.2 1 (by omega) ?_⟩, fun h => hex _ (by omega) ?_⟩
  · have e := hs (by omega)
    rw [if_pos h2] at e
    have el : (evsOf (p.l.take x.1)).length + 1 = (evsOf (p.l.take (x.1 + 1))).length := by rw [e]; simp
    exact ⟨⟨AV.sub_same _, AV.sub_sl el (by rw [el]), AV.sub_int (hw (by omega)), trivial⟩, ⟨blk e.symm, .same _, trivial⟩, rfl, tl_ok rfl, ⟨.inl (in_ok rfl), .inl (in_ok rfl), .inr rfl, trivial⟩, ⟨Nat.le_of_ble_eq_true rfl, rfl⟩⟩
  · have e := hs (by omega)
    rw [if_neg h2, List.append_nil] at e
    exact ⟨⟨AV.sub_same _, AV.sub_sl (by rw [e]) (by rw [e]), AV.sub_int (hw (by omega)), trivial⟩, ⟨blk e.symm, .same _, trivial⟩, rfl, tl_ok rfl, ⟨.inl (in_ok rfl), .inr rfl, trivial⟩, ⟨Nat.le_of_ble_eq_true rfl, rfl⟩⟩
  · exact ⟨⟨AV.sub_same _, AV.sub_same _, AV.sub_same _, trivial⟩, ⟨.same _, .same _, trivial⟩, rfl, tl_ok rfl, ⟨.inl (in_ok rfl), .inr rfl, trivial⟩, ⟨Nat.le_of_ble_eq_true rfl, rfl⟩⟩
theorem ql6_ok : LoopOk Try.prog 0 (loopOf Try.f62 0) QL6 := by
  refine trimLoop_ok (trim_ok _ _) (loopTH_ok (C := cfgS4) cfgS4_ok (f := 62) (n := 60) (trim_ok [0, 3, 4] [0, 1, 2, 3, 4, 5, 6]) 1 QI6 (fun p x => x.1 ≤ p.l.length) (fun _ => (0, 0)) (fun p x => p.l.length - x.1) (fun _ (_ : Nat) => True) (fun p sp => QI6 p (p.l.length, sp)) (fun p => Nat.zero_le _) ?_)
  intro p x hi
  refine qbody6 p x hi _ _ (fun ST sp b hlt hw => SImp.of_wk (x.1 + 1, sp) hw ⟨hlt, ?_⟩) (fun ST he hw => ⟨rfl, SImp.of_wk (ren := [(1, 1)]) x.2 ?_ trivial⟩)
  · show p.l.length - (x.1 + 1) < p.l.length - x.1; omega
  · obtain ⟨i, x⟩ := x; simp only at he; subst he; exact hw
theorem hRefEvicted : HookOk Try.prog 62 (hookFree [.rows Kd.com] runEvicted) := by
  refine free_hook (C := cfgS5) cfgS5_ok (n := 60) (fn := Try.f62) ⟨by kernel_rfl, by kernel_rfl⟩ (by kernel_rfl) ?_
  intro M ar K0 H
  unfold runEvicted at H
  split at H
  · rename_i l c
    obtain ⟨hb, H⟩ := H
    refine ⟨show 1 ≤ _ by decide +kernel, ?_⟩
    show (runF cfgS5 60 62 Try.f62 [.sl false 0 0 4 l.length c] [(0, .ro Kd.com l)] 1).holds _
    rw [qt7]
    refine ⟨ql6_ok, fun p => p = ⟨l, c, hb⟩, ⟨Nat.le_refl _, SImp.of_wk (ren := [(1, 99)]) ⟨l, c, hb⟩ ?_ rfl⟩, ?_⟩
    · exact ⟨⟨AV.sub_same _, AV.sub_nilS, AV.sub_lit', trivial⟩, ⟨.none _ _, .same _, trivial⟩, rfl, tl_ok rfl, ⟨.inr rfl, trivial⟩, ⟨Nat.le_of_ble_eq_true rfl, rfl⟩⟩
    · rintro _ rfl sp _
      have e : evsOf (l.take l.length) = evsOf l := by rw [List.take_length]
      dsimp only
      rw [e]
      exact ⟨_, _, H sp, _, HImp.refl _ _, ⟨⟨fun _ => 1, ⟨.same _, trivial⟩, AV.sub_same _⟩, rfl, rfl⟩⟩
  · exact H.elim

theorem hooksS6_ok : ∀ g H, hooksS6 g = some H → HookOk Try.prog g H := by
  intro g H h
  unfold hooksS6 at h
  split at h
  · cases h; exact hRefRun
  · cases h; exact hRefEvicted
  · cases h; exact hSpecRun
  · cases h; exact hSpecEvicted
  · exact hooksS4_ok _ _ h
theorem cfgS6_ok : cfgS6.ok := by
  refine ⟨tab_met, kinds_met, mixed_met, fun g fn h => ?_, hooksS6_ok⟩
  unfold cfgS6 fnsS6 at h
  simp only at h
  split at h <;> cases h <;> exact ⟨by kernel_rfl, by kernel_rfl⟩
def runLegal : RunFree V := fun ar K => match ar with
  | [.rows .com l c] => .need (l.length ≤ 1073741824) (K (.int .i64 (legal l : Int)) [])
  | _ => .bad 500
def runPlain : RunFree V := fun ar K => match ar with
  | [.rows .com l c] => .need (l.length ≤ 1073741824) (K (.bool (plainOf l)) [])
  | _ => .bad 500
theorem hSpecLegal : HookOk Try.prog 52 (hookFree [.rows Kd.com] runLegal) := by
  refine free_hook (C := cfgS6) cfgS6_ok (n := 60) (fn := Try.f52) ⟨by kernel_rfl, by kernel_rfl⟩ (by kernel_rfl) ?_
  intro M ar K0 H
  unfold runLegal at H
  split at H
  · rename_i l c
    obtain ⟨hb, H⟩ := H
    refine ⟨show 1 ≤ _ by decide +kernel, ?_⟩
    show (runF cfgS6 60 52 Try.f52 [.sl false 0 0 4 l.length c] [(0, .ro Kd.com l)] 1).holds _
    rw [qt8]
    rw [show List.take l.length (List.drop 0 l) = l from List.take_length ..]
    exact ⟨by omega, by omega, _, _, H, endPlain (AV.sub_same _) rfl⟩
  · exact H.elim
theorem hRefLegal : HookOk Try.prog 53 (hookFree [.rows Kd.com] runLegal) := by
  refine free_hook (C := cfgS6) cfgS6_ok (n := 60) (fn := Try.f53) ⟨by kernel_rfl, by kernel_rfl⟩ (by kernel_rfl) ?_
  intro M ar K0 H
  unfold runLegal at H
  split at H
  · rename_i l c
    obtain ⟨hb, H⟩ := H
    refine ⟨show 1 ≤ _ by decide +kernel, ?_⟩
    show (runF cfgS6 60 53 Try.f53 [.sl false 0 0 4 l.length c] [(0, .ro Kd.com l)] 1).holds _
    rw [qt9]
    rw [show List.take l.length (List.drop 0 l) = l from List.take_length .., legal_alike]
    exact ⟨by omega, by omega, fun y => ⟨_, _, H, endPlain (AV.sub_same _) rfl⟩⟩
  · exact H.elim
theorem plain_yes {l : List Com} (h : (legal l : Int) = l.length) : ((evsOf l).length : Int) = 0 ↔ plainOf l = true := by
  unfold plainOf
  rw [decide_eq_true (by omega), Bool.true_and, decide_eq_true_eq]; omega
theorem plain_no {l : List Com} (h : ¬ (legal l : Int) = l.length) : plainOf l = false := by
  unfold plainOf
  rw [decide_eq_false (by omega), Bool.false_and]
theorem beq_of_iff {a b : Int} {c : Bool} (h : a = b ↔ c = true) : (a == b) = c := by
  cases c with
  | true => exact beq_iff_eq.2 (h.2 rfl)
  | false => exact beq_false_of_ne fun e => by cases h.1 e
theorem hSpecPlain : HookOk Try.prog 54 (hookFree [.rows Kd.com] runPlain) := by
  refine free_hook (C := cfgS6) cfgS6_ok (n := 60) (fn := Try.f54) ⟨by kernel_rfl, by kernel_rfl⟩ (by kernel_rfl) ?_
  intro M ar K0 H
  unfold runPlain at H
  split at H
  · rename_i l c
    obtain ⟨hb, H⟩ := H
    refine ⟨show 1 ≤ _ by decide +kernel, ?_⟩
    show (runF cfgS6 60 54 Try.f54 [.sl false 0 0 4 l.length c] [(0, .ro Kd.com l)] 1).holds _
    rw [qt10]
    rw [show List.take l.length (List.drop 0 l) = l from List.take_length .., show ((runM l []).1 : Int) = (legal l : Int) from rfl]
    simp only [Out.holds, beq_iff_eq, beq_eq_false_iff_ne]
    exact ⟨by omega, by omega, fun h => ⟨by omega, by omega, fun y => ⟨_, _, H, endPlain (AV.sub_bool (beq_of_iff (plain_yes h))) rfl⟩⟩, fun h => ⟨_, _, H, endPlain (AV.sub_ff (plain_no h)) rfl⟩⟩
  · exact H.elim
theorem hRefPlain : HookOk Try.prog 55 (hookFree [.rows Kd.com] runPlain) := by
  refine free_hook (C := cfgS6) cfgS6_ok (n := 60) (fn := Try.f55) ⟨by kernel_rfl, by kernel_rfl⟩ (by kernel_rfl) ?_
  intro M ar K0 H
  unfold runPlain at H
  split at H
  · rename_i l c
    obtain ⟨hb, H⟩ := H
    refine ⟨show 1 ≤ _ by decide +kernel, ?_⟩
    show (runF cfgS6 60 55 Try.f55 [.sl false 0 0 4 l.length c] [(0, .ro Kd.com l)] 1).holds _
    rw [qt11]
    rw [show List.take l.length (List.drop 0 l) = l from List.take_length .., legal_alike]
    simp only [Out.holds, beq_iff_eq, beq_eq_false_iff_ne]
    exact ⟨by omega, by omega, fun y => ⟨by omega, by omega, fun z => ⟨fun h => ⟨_, _, H, endPlain (AV.sub_bool (beq_of_iff (plain_yes h))) rfl⟩, fun h => ⟨_, _, H, endPlain (AV.sub_ff (plain_no h)) rfl⟩⟩⟩⟩
  · exact H.elim

end Sx
end Go.Proofs.Ytemcdjdglcceiaa

/-
  Witness: rows compared, evictions, plain: the runs of the machine.
-/
namespace Go.Proofs.Ytemcdjdglcceiaa
namespace Sx
open Go
set_option maxRecDepth 100000
set_option linter.unusedVariables false

def hooksU : Nat → Option (HookS V) := fun g => match g with
  | 52 => some (hookFree [.rows Kd.com] runLegal)
  | 53 => some (hookFree [.rows Kd.com] runLegal)
  | 54 => some (hookFree [.rows Kd.com] runPlain)
  | 55 => some (hookFree [.rows Kd.com] runPlain)
  | g => hooksT g
noncomputable def cfgU : Cfg Try.prog V := ⟨tab, kinds, fun _ => none, hooksU, fun _ _ => none⟩
structure WI where
  xs : List Int
  c : Nat
  ys : List Int
  d : Nat
  hl : xs.length = ys.length
  hb : xs.length ≤ 1099511627776
def I28 (p : WI) (i : Nat) : St V := ⟨[(0, .sl false 0 0 1 p.xs.length p.c), (1, .sl false 1 0 1 p.ys.length p.d), (5, .int .i64 (i : Int))], [(0, .ro Kd.int p.xs), (1, .ro Kd.int p.ys)], 2, 26, TQ⟩
def R28 (p : WI) : St V := ⟨[(4, .ff)], [(0, .ro Kd.int p.xs), (1, .ro Kd.int p.ys)], 2, 26, TQ⟩
def L28 : LoopS V := trimLoop (trimSt [0, 1, 5] [0, 1]) (loopG 2 (fun p : WI => I28 p 0) (fun p (_ : Unit) => p.xs = p.ys) (fun p _ => I28 p p.xs.length) (fun p (_ : Unit) => p.xs ≠ p.ys) (fun p _ => R28 p))
def evicsTo (l : List Rec) (n : Nat) : List Com := ((l.take n).filter fun r => decide (r.op < 0)).map Rec.com
def I47 (p : PL) (x : Nat × Nat) : St V := ⟨[(3, .sl false 1 0 4 (evicsTo p.l x.1).length ((evicsTo p.l x.1).length + x.2)), (6, .sl false 0 0 8 p.l.length p.c), (7, .int .i64 (p.l.length : Int)), (8, .int .i64 (x.1 : Int))], [(1, .arr 27 Kd.com (evicsTo p.l x.1) x.2), (0, .ro Kd.rcd p.l)], 2, 22, TQ⟩
def L47 : LoopS V := trimLoop (trimSt [3, 6, 7, 8] [0]) (loopH 1 (fun p : PL => I47 p (0, 0)) (fun _ (_ : Nat) => True) (fun p s => I47 p (p.l.length, s)))
def I48 (p : PL) (x : Nat × Nat) : St V := ⟨[(0, .sl false 0 0 8 p.l.length p.c), (3, .sl false 1 0 4 (evicsTo p.l x.1).length ((evicsTo p.l x.1).length + x.2)), (4, .int .i64 (x.1 : Int))], [(1, .arr 27 Kd.com (evicsTo p.l x.1) x.2), (0, .ro Kd.rcd p.l)], 2, 26, TQ⟩
def L48 : LoopS V := trimLoop (trimSt [0, 3, 4] [0]) (loopH 1 (fun p : PL => I48 p (0, 0)) (fun _ (_ : Nat) => True) (fun p s => I48 p (p.l.length, s)))
noncomputable def cfgU1 : Cfg Try.prog V := ⟨tab, kinds, fun _ => none, hooksU, fun f id => match f, id with | 28, 0 => some L28 | 47, 0 => some L47 | 48, 0 => some L48 | _, _ => none⟩
theorem b28 (p : WI) (i : Nat) : runCode cfgU 60 28 (loopOf Try.f28 0) (I28 p i) (stopT (trimSt [0, 1, 4, 5] [0, 1])) = Out.ite (decide ((↑i : Int) < (↑p.xs.length : Int))) (Out.need (0 ≤ (↑i : Int) ∧ (↑i : Int) < (↑p.xs.length : Int)) (Out.need (0 + i < p.xs.length) (Out.need (0 ≤ (↑i : Int) ∧ (↑i : Int) < (↑p.ys.length : Int)) (Out.need (0 + i < p.ys.length) (Out.ite (p.xs.getD (0 + i) (V.enc Kd.int).dflt != p.ys.getD (0 + i) (V.enc Kd.int).dflt) (Out.stop EX.rt {env := [(0, .sl false 0 0 1 p.xs.length p.2), (1, .sl false 1 0 1 p.ys.length p.4), (4, .ff), (5, .int .i64 (↑i : Int))], heap := [(0, .ro Kd.int p.xs), (1, .ro Kd.int p.ys)], nx := 2, nt := 26, tl := [0, 1, 2, 3, 4, 5, 6, 7, 8, 9, 10, 11, 12, 13, 14, 15, 16] : St V }) (Out.stop EX.nx {env := [(0, .sl false 0 0 1 p.xs.length p.2), (1, .sl false 1 0 1 p.ys.length p.4), (4, .und), (5, .int .i64 (IntKind.i64.wrap ((↑i : Int) + 1)))], heap := [(0, .ro Kd.int p.xs), (1, .ro Kd.int p.ys)], nx := 2, nt := 26, tl := [0, 1, 2, 3, 4, 5, 6, 7, 8, 9, 10, 11, 12, 13, 14, 15, 16] : St V })))))) (Out.stop (EX.ex 0) {env := [(0, .sl false 0 0 1 p.xs.length p.2), (1, .sl false 1 0 1 p.ys.length p.4), (4, .und), (5, .int .i64 (↑i : Int))], heap := [(0, .ro Kd.int p.xs), (1, .ro Kd.int p.ys)], nx := 2, nt := 26, tl := [0, 1, 2, 3, 4, 5, 6, 7, 8, 9, 10, 11, 12, 13, 14, 15, 16] : St V }) := by kernel_rfl

theorem b47 (p : PL) (x : Nat × Nat) : runCode cfgU 60 47 (loopOf Try.f47 0) (I47 p x) (stopT (trimSt [3, 6, 7, 8] [0, 1, 2, 3, 4, 5, 6])) = Out.ite (decide ((↑x.1 : Int) < (↑p.l.length : Int))) (Out.need (0 ≤ (↑x.1 : Int) ∧ (↑x.1 : Int) < (↑p.l.length : Int)) (Out.need (0 + x.1 < p.l.length) (Out.ite (decide ((p.l.getD (0 + x.1) (V.enc Kd.rcd).dflt).op < 0)) (Out.need (0 = 0 ∧ (evicsTo p.l x.1).length = (evicsTo p.l x.1).length ∧ (evicsTo p.l x.1).length + x.2 = (evicsTo p.l x.1).length + x.2 ∧ ((evicsTo p.l x.1).length + 1) * 32 ≤ 140737488355328) (Out.all Nat fun y => Out.stop EX.nx {env := [(3, .sl false 5 0 4 ((evicsTo p.l x.1).length + 1) ((evicsTo p.l x.1).length + 1 + y)), (6, .sl false 0 0 8 p.l.length p.2), (7, .int .i64 (↑p.l.length : Int)), (8, .int .i64 (IntKind.i64.wrap ((↑x.1 : Int) + 1)))], heap := [(5, .arr 27 Kd.com (evicsTo p.l x.1 ++ [{act := (p.l.getD (0 + x.1) (V.enc Kd.rcd).dflt).act, key := (p.l.getD (0 + x.1) (V.enc Kd.rcd).dflt).key, value := (p.l.getD (0 + x.1) (V.enc Kd.rcd).dflt).value, hit := (p.l.getD (0 + x.1) (V.enc Kd.rcd).dflt).hit : Com }]) y), (4, .cells 27 [.int .i64 (p.l.getD (0 + x.1) (V.enc Kd.rcd).dflt).act, .int .i64 (p.l.getD (0 + x.1) (V.enc Kd.rcd).dflt).key, .int .i64 (p.l.getD (0 + x.1) (V.enc Kd.rcd).dflt).value, .bool (p.l.getD (0 + x.1) (V.enc Kd.rcd).dflt).hit]), (2, .cells 30 [.int .i64 (p.l.getD (0 + x.1) (V.enc Kd.rcd).dflt).thread, .int .i64 (p.l.getD (0 + x.1) (V.enc Kd.rcd).dflt).op, .int .i64 (p.l.getD (0 + x.1) (V.enc Kd.rcd).dflt).what, .int .i64 (p.l.getD (0 + x.1) (V.enc Kd.rcd).dflt).act, .int .i64 (p.l.getD (0 + x.1) (V.enc Kd.rcd).dflt).key, .int .i64 (p.l.getD (0 + x.1) (V.enc Kd.rcd).dflt).value, .bool (p.l.getD (0 + x.1) (V.enc Kd.rcd).dflt).hit, .int .i64 (p.l.getD (0 + x.1) (V.enc Kd.rcd).dflt).err]), (0, .ro Kd.rcd p.l)], nx := 6, nt := 22, tl := [1, 2, 0, 1, 2, 3, 4, 5, 6, 7, 8, 9, 10, 11, 12, 13, 14, 15, 16] : St V })) (Out.stop EX.nx {env := [(3, .sl false 1 0 4 (evicsTo p.l x.1).length ((evicsTo p.l x.1).length + x.2)), (6, .sl false 0 0 8 p.l.length p.2), (7, .int .i64 (↑p.l.length : Int)), (8, .int .i64 (IntKind.i64.wrap ((↑x.1 : Int) + 1)))], heap := [(2, .cells 30 [.int .i64 (p.l.getD (0 + x.1) (V.enc Kd.rcd).dflt).thread, .int .i64 (p.l.getD (0 + x.1) (V.enc Kd.rcd).dflt).op, .int .i64 (p.l.getD (0 + x.1) (V.enc Kd.rcd).dflt).what, .int .i64 (p.l.getD (0 + x.1) (V.enc Kd.rcd).dflt).act, .int .i64 (p.l.getD (0 + x.1) (V.enc Kd.rcd).dflt).key, .int .i64 (p.l.getD (0 + x.1) (V.enc Kd.rcd).dflt).value, .bool (p.l.getD (0 + x.1) (V.enc Kd.rcd).dflt).hit, .int .i64 (p.l.getD (0 + x.1) (V.enc Kd.rcd).dflt).err]), (1, .arr 27 Kd.com (evicsTo p.l x.1) x.2), (0, .ro Kd.rcd p.l)], nx := 4, nt := 22, tl := [2, 0, 1, 2, 3, 4, 5, 6, 7, 8, 9, 10, 11, 12, 13, 14, 15, 16] : St V })))) (Out.stop (EX.ex 0) {env := [(3, .sl false 1 0 4 (evicsTo p.l x.1).length ((evicsTo p.l x.1).length + x.2)), (6, .sl false 0 0 8 p.l.length p.2), (7, .int .i64 (↑p.l.length : Int)), (8, .int .i64 (↑x.1 : Int))], heap := [(1, .arr 27 Kd.com (evicsTo p.l x.1) x.2), (0, .ro Kd.rcd p.l)], nx := 2, nt := 22, tl := [0, 1, 2, 3, 4, 5, 6, 7, 8, 9, 10, 11, 12, 13, 14, 15, 16] : St V }) := by kernel_rfl

theorem b48 (p : PL) (x : Nat × Nat) : runCode cfgU 60 48 (loopOf Try.f48 0) (I48 p x) (stopT (trimSt [0, 3, 4] [0, 1, 2, 3, 4, 5, 6])) = Out.ite (decide ((↑x.1 : Int) < (↑p.l.length : Int))) (Out.need (0 ≤ (↑x.1 : Int) ∧ (↑x.1 : Int) < (↑p.l.length : Int)) (Out.need (0 + x.1 < p.l.length) (Out.ite (decide ((p.l.getD (0 + x.1) (V.enc Kd.rcd).dflt).op < 0)) (Out.need (0 ≤ (↑x.1 : Int) ∧ (↑x.1 : Int) < (↑p.l.length : Int)) (Out.need (0 + x.1 < p.l.length) (Out.need (0 = 0 ∧ (evicsTo p.l x.1).length = (evicsTo p.l x.1).length ∧ (evicsTo p.l x.1).length + x.2 = (evicsTo p.l x.1).length + x.2 ∧ ((evicsTo p.l x.1).length + 1) * 32 ≤ 140737488355328) (Out.all Nat fun y => Out.stop EX.nx {env := [(0, .sl false 0 0 8 p.l.length p.2), (3, .sl false 3 0 4 ((evicsTo p.l x.1).length + 1) ((evicsTo p.l x.1).length + 1 + y)), (4, .int .i64 (IntKind.i64.wrap ((↑x.1 : Int) + 1)))], heap := [(3, .arr 27 Kd.com (evicsTo p.l x.1 ++ [{act := (p.l.getD (0 + x.1) (V.enc Kd.rcd).dflt).act, key := (p.l.getD (0 + x.1) (V.enc Kd.rcd).dflt).key, value := (p.l.getD (0 + x.1) (V.enc Kd.rcd).dflt).value, hit := (p.l.getD (0 + x.1) (V.enc Kd.rcd).dflt).hit : Com }]) y), (2, .cells 27 [.int .i64 (p.l.getD (0 + x.1) (V.enc Kd.rcd).dflt).act, .int .i64 (p.l.getD (0 + x.1) (V.enc Kd.rcd).dflt).key, .int .i64 (p.l.getD (0 + x.1) (V.enc Kd.rcd).dflt).value, .bool (p.l.getD (0 + x.1) (V.enc Kd.rcd).dflt).hit]), (0, .ro Kd.rcd p.l)], nx := 4, nt := 26, tl := [1, 0, 1, 2, 3, 4, 5, 6, 7, 8, 9, 10, 11, 12, 13, 14, 15, 16] : St V })))) (Out.stop EX.nx {env := [(0, .sl false 0 0 8 p.l.length p.2), (3, .sl false 1 0 4 (evicsTo p.l x.1).length ((evicsTo p.l x.1).length + x.2)), (4, .int .i64 (IntKind.i64.wrap ((↑x.1 : Int) + 1)))], heap := [(1, .arr 27 Kd.com (evicsTo p.l x.1) x.2), (0, .ro Kd.rcd p.l)], nx := 2, nt := 26, tl := [0, 1, 2, 3, 4, 5, 6, 7, 8, 9, 10, 11, 12, 13, 14, 15, 16] : St V })))) (Out.stop (EX.ex 0) {env := [(0, .sl false 0 0 8 p.l.length p.2), (3, .sl false 1 0 4 (evicsTo p.l x.1).length ((evicsTo p.l x.1).length + x.2)), (4, .int .i64 (↑x.1 : Int))], heap := [(1, .arr 27 Kd.com (evicsTo p.l x.1) x.2), (0, .ro Kd.rcd p.l)], nx := 2, nt := 26, tl := [0, 1, 2, 3, 4, 5, 6, 7, 8, 9, 10, 11, 12, 13, 14, 15, 16] : St V }) := by kernel_rfl

theorem t28 (a b : List Int) (c d : Nat) : runF cfgU1 60 28 Try.f28 [.sl false 0 0 1 a.length c, .sl false 1 0 1 b.length d] [(0, .ro Kd.int a), (1, .ro Kd.int b)] 2 = Out.ite ((↑a.length : Int) != (↑b.length : Int)) (Out.fin .ff [(0, .ro Kd.int a), (1, .ro Kd.int b)] 2) (Out.need (LoopFor Try.prog 28 0 (loopOf Try.f28 0) L28) (Out.ex (WI → Prop) fun y => Out.need (2 ≤ 2 ∧ SImp 2 {env := [(0, .sl false 0 0 1 a.length c), (1, .sl false 1 0 1 b.length d), (5, .lit .i64 0)], heap := [(0, .ro Kd.int a), (1, .ro Kd.int b)], nx := 2, nt := 26, tl := [] : St V } (fun p => I28 p 0) y) (Out.all WI fun y_1 => Out.asm (y y_1) ((Out.all Unit fun y => Out.asm ((fun p x => p.xs = p.ys) y_1 y) (Out.fin .tt [(0, .ro Kd.int y_1.xs), (1, .ro Kd.int y_1.ys)] 2)).both (Out.all Unit fun y => Out.asm ((fun p x => p.xs ≠ p.ys) y_1 y) (Out.fin .ff [(0, .ro Kd.int y_1.xs), (1, .ro Kd.int y_1.ys)] 2)))))) := by kernel_rfl

theorem t47 (l : List Rec) (c : Nat) : runF cfgU1 60 47 Try.f47 [.sl false 0 0 8 l.length c] [(0, .ro Kd.rcd l)] 1 = Out.need (LoopFor Try.prog 47 0 (loopOf Try.f47 0) L47) (Out.ex (PL → Prop) fun y => Out.need (1 ≤ 1 ∧ SImp 1 {env := [(3, .nilS), (6, .sl false 0 0 8 l.length c), (7, .int .i64 (↑l.length : Int)), (8, .lit .i64 0)], heap := [(0, .ro Kd.rcd l)], nx := 1, nt := 22, tl := [] : St V } (fun p => I47 p (0, 0)) y) (Out.all PL fun y_1 => Out.asm (y y_1) (Out.all Nat fun y => Out.asm ((fun x x_1 => True) y_1 y) (Out.fin (.sl false 1 0 4 (evicsTo y_1.l (y_1.l.length, y).fst).length ((evicsTo y_1.l (y_1.l.length, y).fst).length + y)) [(1, .arr 27 Kd.com (evicsTo y_1.l (y_1.l.length, y).fst) y), (0, .ro Kd.rcd y_1.l)] 2)))) := by kernel_rfl

theorem t48 (l : List Rec) (c : Nat) : runF cfgU1 60 48 Try.f48 [.sl false 0 0 8 l.length c] [(0, .ro Kd.rcd l)] 1 = Out.need (LoopFor Try.prog 48 0 (loopOf Try.f48 0) L48) (Out.ex (PL → Prop) fun y => Out.need (1 ≤ 1 ∧ SImp 1 {env := [(0, .sl false 0 0 8 l.length c), (3, .nilS), (4, .lit .i64 0)], heap := [(0, .ro Kd.rcd l)], nx := 1, nt := 26, tl := [] : St V } (fun p => I48 p (0, 0)) y) (Out.all PL fun y_1 => Out.asm (y y_1) (Out.all Nat fun y => Out.asm ((fun x x_1 => True) y_1 y) (Out.fin (.sl false 1 0 4 (evicsTo y_1.l (y_1.l.length, y).fst).length ((evicsTo y_1.l (y_1.l.length, y).fst).length + y)) [(1, .arr 27 Kd.com (evicsTo y_1.l (y_1.l.length, y).fst) y), (0, .ro Kd.rcd y_1.l)] 2)))) := by kernel_rfl

theorem t39 (l : List Rec) (c : Nat) : runF cfgU1 60 39 Try.f39 [.sl false 0 0 8 l.length c] [(0, .ro Kd.rcd l)] 1 = Out.need (0 + l.length ≤ l.length) (Out.need ((List.take l.length (List.drop 0 l)).length ≤ 1099511627776) (Out.ite (hRight (List.take l.length (List.drop 0 l))) (Out.need (0 + l.length ≤ l.length) (Out.need ((List.take l.length (List.drop 0 l)).length ≤ 1099511627776) (Out.all Nat fun y => Out.need (0 + (hCommits (List.take l.length (List.drop 0 l))).length ≤ (hCommits (List.take l.length (List.drop 0 l))).length) (Out.need ((List.take (hCommits (List.take l.length (List.drop 0 l))).length (List.drop 0 (hCommits (List.take l.length (List.drop 0 l))))).length ≤ 1073741824) (Out.fin (.bool (plainOf (List.take (hCommits (List.take l.length (List.drop 0 l))).length (List.drop 0 (hCommits (List.take l.length (List.drop 0 l))))))) [(1, .arr 27 Kd.com (hCommits (List.take l.length (List.drop 0 l))) y), (0, .ro Kd.rcd l)] 2))))) (Out.fin .ff [(0, .ro Kd.rcd l)] 1))) := by kernel_rfl

theorem t40 (l : List Rec) (c : Nat) : runF cfgU1 60 40 Try.f40 [.sl false 0 0 8 l.length c] [(0, .ro Kd.rcd l)] 1 = Out.need (0 + l.length ≤ l.length) (Out.need ((List.take l.length (List.drop 0 l)).length ≤ 1099511627776) (Out.ite (hRight (List.take l.length (List.drop 0 l))) (Out.need (0 + l.length ≤ l.length) (Out.need ((List.take l.length (List.drop 0 l)).length ≤ 1099511627776) (Out.all Nat fun y => Out.need (0 + (hCommits (List.take l.length (List.drop 0 l))).length ≤ (hCommits (List.take l.length (List.drop 0 l))).length) (Out.need ((List.take (hCommits (List.take l.length (List.drop 0 l))).length (List.drop 0 (hCommits (List.take l.length (List.drop 0 l))))).length ≤ 1073741824) (Out.fin (.bool (plainOf (List.take (hCommits (List.take l.length (List.drop 0 l))).length (List.drop 0 (hCommits (List.take l.length (List.drop 0 l))))))) [(1, .arr 27 Kd.com (hCommits (List.take l.length (List.drop 0 l))) y), (0, .ro Kd.rcd l)] 2))))) (Out.fin .ff [(0, .ro Kd.rcd l)] 1))) := by kernel_rfl

end Sx
end Go.Proofs.Ytemcdjdglcceiaa

/-
  Witness: rows of numbers compared, evictions, plain rows.
-/
namespace Go.Proofs.Ytemcdjdglcceiaa
namespace Sx
open Go
set_option linter.unusedSimpArgs false
set_option linter.unusedVariables false

theorem hooksU_ok : ∀ g H, hooksU g = some H → HookOk Try.prog g H := by
  intro g H h
  unfold hooksU at h
  split at h
  · cases h; exact hSpecLegal
  · cases h; exact hRefLegal
  · cases h; exact hSpecPlain
  · cases h; exact hRefPlain
  · exact hooksT_ok _ _ h
theorem cfgU_ok : cfgU.ok := ⟨tab_met, kinds_met, mixed_met, fun g fn h => (by cases h), hooksU_ok⟩
theorem cfgU1_ok : cfgU1.ok := ⟨tab_met, kinds_met, mixed_met, fun g fn h => (by cases h), hooksU_ok⟩

theorem take_next {α : Type} {a b : List α} {d : α} {i : Nat} (ha : i < a.length) (hb : i < b.length) (h : a.take i = b.take i) (e : a.getD i d = b.getD i d) : a.take (i + 1) = b.take (i + 1) := by
  rw [List.take_succ_eq_append_getElem ha, List.take_succ_eq_append_getElem hb, h]
  rw [getD_el d ha, getD_el d hb] at e
  rw [e]
theorem body28 (p : WI) (i : Nat) (hi : i ≤ p.xs.length) (Q : EX → St V → Prop) (F : AV → Heap V → Nat → Prop)
    (hrt : ∀ ST : St V, i < p.xs.length → p.xs.getD i 0 ≠ p.ys.getD i 0 → Wk 2 [] ST (R28 p) → Q .rt ST)
    (hnx : ∀ ST : St V, i < p.xs.length → p.xs.getD i 0 = p.ys.getD i 0 → Wk 2 [] ST (I28 p (i + 1)) → Q .nx ST)
    (hex : ∀ ST : St V, i = p.xs.length → Wk 2 [] ST (I28 p i) → Q (.ex 0) ST) :
    (runCode cfgU 60 28 (loopOf Try.f28 0) (I28 p i) (stopT (trimSt [0, 1, 4, 5] [0, 1]))).holds ⟨Q, F⟩ := by
  rw [b28]
  have hb := p.hb
  have hl := p.hl
  have hw : i < p.xs.length → IntKind.wrap .i64 ((i : Int) + 1) = ((i + 1 : Nat) : Int) := fun h => wrap_nat (by omega)
  rw [show (0 + i) = i from Nat.zero_add _, show p.xs.getD i (V.enc Kd.int).dflt = p.xs.getD i 0 from rfl, show p.ys.getD i (V.enc Kd.int).dflt = p.ys.getD i 0 from rfl]
  simp only [Out.holds, decide_eq_true_eq, decide_eq_false_iff_not, bne_iff_ne, bne_eq_false_iff_eq]
  by_cases hlt : i < p.xs.length
  · refine ⟨fun _ => ⟨by omega, hlt, by omega, by omega, fun h2 => hrt _ hlt h2 ?_, fun h2 => hnx _ hlt h2 ?_⟩, fun h => absurd hlt (by omega)⟩
    · exact ⟨⟨AV.sub_same _, trivial⟩, ⟨.same _, .same _, trivial⟩, rfl, tl_ok rfl, ⟨.inr rfl, .inr rfl, trivial⟩, ⟨Nat.le_of_ble_eq_true rfl, rfl⟩⟩
    · exact ⟨⟨AV.sub_same _, AV.sub_same _, AV.sub_int (hw hlt), trivial⟩, ⟨.same _, .same _, trivial⟩, rfl, tl_ok rfl, ⟨.inr rfl, .inr rfl, trivial⟩, ⟨Nat.le_of_ble_eq_true rfl, rfl⟩⟩
  · exact ⟨fun h => absurd h (by omega), fun h => hex _ (by omega) ⟨⟨AV.sub_same _, AV.sub_same _, AV.sub_same _, trivial⟩, ⟨.same _, .same _, trivial⟩, rfl, tl_ok rfl, ⟨.inr rfl, .inr rfl, trivial⟩, ⟨Nat.le_of_ble_eq_true rfl, rfl⟩⟩⟩
theorem l28_ok : LoopOk Try.prog 0 (loopOf Try.f28 0) L28 := by
  refine trimLoop_ok (trim_ok _ _) (loopT_ok (C := cfgU) cfgU_ok (f := 28) (n := 60) (trim_ok [0, 1, 4, 5] [0, 1]) 2 I28 (fun p i => i ≤ p.xs.length ∧ p.xs.take i = p.ys.take i) (fun _ => 0) (fun p i => p.xs.length - i)
    (fun p (_ : Unit) => p.xs = p.ys) (fun p _ => I28 p p.xs.length) (fun p (_ : Unit) => p.xs ≠ p.ys) (fun p _ => R28 p) (fun p => ⟨Nat.zero_le _, rfl⟩) ?_)
  intro p i ⟨hi, ht⟩
  have hl := p.hl
  refine body28 p i hi _ _ (fun ST hlt h hw => SImp.of_wk (ren := []) () hw (fun e => h (by rw [e]))) (fun ST hlt h hw => SImp.of_wk (i + 1) hw ⟨⟨hlt, take_next hlt (by omega) ht h⟩, by omega⟩) (fun ST he hw => ⟨rfl, SImp.of_wk (ren := []) () (by subst he; exact hw) ?_⟩)
  rw [List.take_of_length_le (by omega), List.take_of_length_le (by omega)] at ht
  exact ht
def runInts : RunFree V := fun ar K => match ar with
  | [.rows .int xs c, .rows .int ys d] => .need (xs.length ≤ 1099511627776) (K (.bool (decide (xs = ys))) [])
  | _ => .bad 500
theorem hInts : HookOk Try.prog 28 (hookFree [.rows Kd.int, .rows Kd.int] runInts) := by
  refine free_hook (C := cfgU1) cfgU1_ok (n := 60) (fn := Try.f28) ⟨by kernel_rfl, by kernel_rfl⟩ (by kernel_rfl) ?_
  intro M ar K0 H
  unfold runInts at H
  split at H
  · rename_i xs c ys d
    obtain ⟨hb, H⟩ := H
    refine ⟨show 2 ≤ _ by decide +kernel, ?_⟩
    show (runF cfgU1 60 28 Try.f28 [.sl false 0 0 1 xs.length c, .sl false 1 0 1 ys.length d] [(0, .ro Kd.int xs), (1, .ro Kd.int ys)] 2).holds _
    rw [t28]
    simp only [Out.holds, bne_iff_ne, bne_eq_false_iff_eq]
    refine ⟨fun h => ⟨_, _, H, endPlain (AV.sub_ff (decide_eq_false fun e => h (by rw [e]))) rfl⟩, fun h => ?_⟩
    have hl : xs.length = ys.length := by omega
    refine ⟨l28_ok, fun p => p = ⟨xs, c, ys, d, hl, hb⟩, ⟨Nat.le_refl _, SImp.of_wk (ren := []) ⟨xs, c, ys, d, hl, hb⟩ ?_ rfl⟩, ?_⟩
    · exact ⟨⟨AV.sub_same _, AV.sub_same _, AV.sub_lit', trivial⟩, ⟨.same _, .same _, trivial⟩, rfl, tl_ok rfl, ⟨.inr rfl, .inr rfl, trivial⟩, ⟨Nat.le_of_ble_eq_true rfl, rfl⟩⟩
    · rintro _ rfl
      exact ⟨fun _ e => ⟨_, _, H, endPlain (AV.sub_tt (decide_eq_true e)) rfl⟩, fun _ e => ⟨_, _, H, endPlain (AV.sub_ff (decide_eq_false e)) rfl⟩⟩
  · exact H.elim

/-! ## evictions -/
theorem evics_succ {l : List Rec} {i : Nat} (h : i < l.length) : evicsTo l (i + 1) = evicsTo l i ++ if (l.getD i r0).op < 0 then [(l.getD i r0).com] else [] := by
  unfold evicsTo
  rw [List.take_succ_eq_append_getElem h, List.filter_append, List.map_append, getD_el r0 h]
  congr 1
  by_cases e : (l[i]).op < 0 <;> simp [e]
theorem evics_le (l : List Rec) (i : Nat) : (evicsTo l i).length ≤ l.length := by
  unfold evicsTo
  rw [List.length_map]
  exact Nat.le_trans (List.length_filter_le _ _) (by rw [List.length_take]; omega)
theorem body47 (p : PL) (x : Nat × Nat) (hi : x.1 ≤ p.l.length) (Q : EX → St V → Prop) (F : AV → Heap V → Nat → Prop)
    (hnx : ∀ (ST : St V) (sp b : Nat), x.1 < p.l.length → Wk 1 [(1, b)] ST (I47 p (x.1 + 1, sp)) → Q .nx ST) (hex : ∀ ST : St V, x.1 = p.l.length → Wk 1 [(1, 1)] ST (I47 p x) → Q (.ex 0) ST) :
    (runCode cfgU 60 47 (loopOf Try.f47 0) (I47 p x) (stopT (trimSt [3, 6, 7, 8] [0, 1, 2, 3, 4, 5, 6]))).holds ⟨Q, F⟩ := by
  rw [b47]
  have hb := p.hb
  have hle := evics_le p.l x.1
  have hw : x.1 < p.l.length → IntKind.wrap .i64 ((x.1 : Int) + 1) = ((x.1 + 1 : Nat) : Int) := fun h => wrap_nat (by omega)
  have hs : x.1 < p.l.length → evicsTo p.l (x.1 + 1) = evicsTo p.l x.1 ++ if (p.l.getD x.1 (V.enc Kd.rcd).dflt).op < 0 then [(p.l.getD x.1 (V.enc Kd.rcd).dflt).com] else [] := evics_succ
  have blk : ∀ {a b : List Com} {s : Nat}, a = b → BSub (some (.arr 27 Kd.com a s : Blk V)) (.arr 27 Kd.com b s) := fun h => by rw [h]; exact .same _
  simp only [Out.holds, Nat.zero_add, decide_eq_true_eq, decide_eq_false_iff_not]
  refine ⟨fun h => ⟨by omega, by omega, fun h2 => ⟨⟨trivial, trivial, trivial, by omega⟩, fun y => hnx _ y 5 (by omega) ?_⟩, fun h2 => hnx _ x.2 1 (by omega) ?_⟩, fun h => hex _ (by omega) ?_⟩
  · have e := hs (by omega)
    rw [if_pos h2] at e
    have el : (evicsTo p.l x.1).length + 1 = (evicsTo p.l (x.1 + 1)).length := by rw [e]; simp
    exact ⟨⟨AV.sub_sl el (by rw [el]), AV.sub_same _, AV.sub_same _, AV.sub_int (hw (by omega)), trivial⟩, ⟨blk e.symm, .same _, trivial⟩, rfl, tl_ok rfl, ⟨.inl (in_ok rfl), .inl (in_ok rfl), .inl (in_ok rfl), .inr rfl, trivial⟩, ⟨Nat.le_of_ble_eq_true rfl, rfl⟩⟩
  · have e := hs (by omega)
    rw [if_neg h2, List.append_nil] at e
    exact ⟨⟨AV.sub_sl (by rw [e]) (by rw [e]), AV.sub_same _, AV.sub_same _, AV.sub_int (hw (by omega)), trivial⟩, ⟨blk e.symm, .same _, trivial⟩, rfl, tl_ok rfl, ⟨.inl (in_ok rfl), .inl (in_ok rfl), .inr rfl, trivial⟩, ⟨Nat.le_of_ble_eq_true rfl, rfl⟩⟩
  · exact ⟨⟨AV.sub_same _, AV.sub_same _, AV.sub_same _, AV.sub_same _, trivial⟩, ⟨.same _, .same _, trivial⟩, rfl, tl_ok rfl, ⟨.inl (in_ok rfl), .inr rfl, trivial⟩, ⟨Nat.le_of_ble_eq_true rfl, rfl⟩⟩
theorem l47_ok : LoopOk Try.prog 0 (loopOf Try.f47 0) L47 := by
  refine trimLoop_ok (trim_ok _ _) (loopTH_ok (C := cfgU) cfgU_ok (f := 47) (n := 60) (trim_ok [3, 6, 7, 8] [0, 1, 2, 3, 4, 5, 6]) 1 I47 (fun p x => x.1 ≤ p.l.length) (fun _ => (0, 0)) (fun p x => p.l.length - x.1) (fun _ (_ : Nat) => True) (fun p sp => I47 p (p.l.length, sp)) (fun p => Nat.zero_le _) ?_)
  intro p x hi
  refine body47 p x hi _ _ (fun ST sp b hlt hw => SImp.of_wk (x.1 + 1, sp) hw ⟨hlt, ?_⟩) (fun ST he hw => ⟨rfl, SImp.of_wk (ren := [(1, 1)]) x.2 ?_ trivial⟩)
  · show p.l.length - (x.1 + 1) < p.l.length - x.1; omega
  · obtain ⟨i, x⟩ := x; simp only at he; subst he; exact hw
theorem body48 (p : PL) (x : Nat × Nat) (hi : x.1 ≤ p.l.length) (Q : EX → St V → Prop) (F : AV → Heap V → Nat → Prop)
    (hnx : ∀ (ST : St V) (sp b : Nat), x.1 < p.l.length → Wk 1 [(1, b)] ST (I48 p (x.1 + 1, sp)) → Q .nx ST) (hex : ∀ ST : St V, x.1 = p.l.length → Wk 1 [(1, 1)] ST (I48 p x) → Q (.ex 0) ST) :
    (runCode cfgU 60 48 (loopOf Try.f48 0) (I48 p x) (stopT (trimSt [0, 3, 4] [0, 1, 2, 3, 4, 5, 6]))).holds ⟨Q, F⟩ := by
  rw [b48]
  have hb := p.hb
  have hle := evics_le p.l x.1
  have hw : x.1 < p.l.length → IntKind.wrap .i64 ((x.1 : Int) + 1) = ((x.1 + 1 : Nat) : Int) := fun h => wrap_nat (by omega)
  have hs : x.1 < p.l.length → evicsTo p.l (x.1 + 1) = evicsTo p.l x.1 ++ if (p.l.getD x.1 (V.enc Kd.rcd).dflt).op < 0 then [(p.l.getD x.1 (V.enc Kd.rcd).dflt).com] else [] := evics_succ
  have blk : ∀ {a b : List Com} {s : Nat}, a = b → BSub (some (.arr 27 Kd.com a s : Blk V)) (.arr 27 Kd.com b s) := fun h => by rw [h]; exact .same _
  simp only [Out.holds, Nat.zero_add, decide_eq_true_eq, decide_eq_false_iff_not]
  refine ⟨fun h => ⟨by omega, by omega, fun h2 => ⟨by omega, by omega, ⟨trivial, trivial, trivial, by omega⟩, fun y => hnx _ y 3 (by omega) ?_⟩, fun h2 => hnx _ x.2 1 (by omega) ?_⟩, fun h => hex _ (by omega) ?_⟩
  · have e := hs (by omega)
    rw [if_pos h2] at e
    have el : (evicsTo p.l x.1).length + 1 = (evicsTo p.l (x.1 + 1)).length := by rw [e]; simp
    exact ⟨⟨AV.sub_same _, AV.sub_sl el (by rw [el]), AV.sub_int (hw (by omega)), trivial⟩, ⟨blk e.symm, .same _, trivial⟩, rfl, tl_ok rfl, ⟨.inl (in_ok rfl), .inl (in_ok rfl), .inr rfl, trivial⟩, ⟨Nat.le_of_ble_eq_true rfl, rfl⟩⟩
  · have e := hs (by omega)
    rw [if_neg h2, List.append_nil] at e
    exact ⟨⟨AV.sub_same _, AV.sub_sl (by rw [e]) (by rw [e]), AV.sub_int (hw (by omega)), trivial⟩, ⟨blk e.symm, .same _, trivial⟩, rfl, tl_ok rfl, ⟨.inl (in_ok rfl), .inr rfl, trivial⟩, ⟨Nat.le_of_ble_eq_true rfl, rfl⟩⟩
  · exact ⟨⟨AV.sub_same _, AV.sub_same _, AV.sub_same _, trivial⟩, ⟨.same _, .same _, trivial⟩, rfl, tl_ok rfl, ⟨.inl (in_ok rfl), .inr rfl, trivial⟩, ⟨Nat.le_of_ble_eq_true rfl, rfl⟩⟩
theorem l48_ok : LoopOk Try.prog 0 (loopOf Try.f48 0) L48 := by
  refine trimLoop_ok (trim_ok _ _) (loopTH_ok (C := cfgU) cfgU_ok (f := 48) (n := 60) (trim_ok [0, 3, 4] [0, 1, 2, 3, 4, 5, 6]) 1 I48 (fun p x => x.1 ≤ p.l.length) (fun _ => (0, 0)) (fun p x => p.l.length - x.1) (fun _ (_ : Nat) => True) (fun p sp => I48 p (p.l.length, sp)) (fun p => Nat.zero_le _) ?_)
  intro p x hi
  refine body48 p x hi _ _ (fun ST sp b hlt hw => SImp.of_wk (x.1 + 1, sp) hw ⟨hlt, ?_⟩) (fun ST he hw => ⟨rfl, SImp.of_wk (ren := [(1, 1)]) x.2 ?_ trivial⟩)
  · show p.l.length - (x.1 + 1) < p.l.length - x.1; omega
  · obtain ⟨i, x⟩ := x; simp only at he; subst he; exact hw
def evics (l : List Rec) : List Com := evicsTo l l.length
def runEvics : RunFree V := fun ar K => match ar with
  | [.rows .rcd l c] => .need (l.length ≤ 1099511627776) (.all Nat fun sp => K (.sl false 0 0 4 (evics l).length ((evics l).length + sp)) [.arr 27 Kd.com (evics l) sp])
  | _ => .bad 500
theorem hEvics : HookOk Try.prog 47 (hookFree [.rows Kd.rcd] runEvics) := by
  refine free_hook (C := cfgU1) cfgU1_ok (n := 60) (fn := Try.f47) ⟨by kernel_rfl, by kernel_rfl⟩ (by kernel_rfl) ?_
  intro M ar K0 H
  unfold runEvics at H
  split at H
  · rename_i l c
    obtain ⟨hb, H⟩ := H
    refine ⟨show 1 ≤ _ by decide +kernel, ?_⟩
    show (runF cfgU1 60 47 Try.f47 [.sl false 0 0 8 l.length c] [(0, .ro Kd.rcd l)] 1).holds _
    rw [t47]
    refine ⟨l47_ok, fun p => p = ⟨l, c, hb⟩, ⟨Nat.le_refl _, SImp.of_wk (ren := [(1, 99)]) ⟨l, c, hb⟩ ?_ rfl⟩, ?_⟩
    · exact ⟨⟨AV.sub_nilS, AV.sub_same _, AV.sub_same _, AV.sub_lit', trivial⟩, ⟨.none _ _, .same _, trivial⟩, rfl, tl_ok rfl, ⟨.inr rfl, trivial⟩, ⟨Nat.le_of_ble_eq_true rfl, rfl⟩⟩
    · rintro _ rfl sp _
      exact ⟨_, _, H sp, _, HImp.refl _ _, ⟨⟨fun _ => 1, ⟨.same _, trivial⟩, AV.sub_same _⟩, rfl, rfl⟩⟩
  · exact H.elim
theorem hEvicsRef : HookOk Try.prog 48 (hookFree [.rows Kd.rcd] runEvics) := by
  refine free_hook (C := cfgU1) cfgU1_ok (n := 60) (fn := Try.f48) ⟨by kernel_rfl, by kernel_rfl⟩ (by kernel_rfl) ?_
  intro M ar K0 H
  unfold runEvics at H
  split at H
  · rename_i l c
    obtain ⟨hb, H⟩ := H
    refine ⟨show 1 ≤ _ by decide +kernel, ?_⟩
    show (runF cfgU1 60 48 Try.f48 [.sl false 0 0 8 l.length c] [(0, .ro Kd.rcd l)] 1).holds _
    rw [t48]
    refine ⟨l48_ok, fun p => p = ⟨l, c, hb⟩, ⟨Nat.le_refl _, SImp.of_wk (ren := [(1, 99)]) ⟨l, c, hb⟩ ?_ rfl⟩, ?_⟩
    · exact ⟨⟨AV.sub_same _, AV.sub_nilS, AV.sub_lit', trivial⟩, ⟨.none _ _, .same _, trivial⟩, rfl, tl_ok rfl, ⟨.inr rfl, trivial⟩, ⟨Nat.le_of_ble_eq_true rfl, rfl⟩⟩
    · rintro _ rfl sp _
      exact ⟨_, _, H sp, _, HImp.refl _ _, ⟨⟨fun _ => 1, ⟨.same _, trivial⟩, AV.sub_same _⟩, rfl, rfl⟩⟩
  · exact H.elim

/-! ## Plain -/
def wPlain (l : List Rec) : Bool := hRight l && plainOf (hCommits l)
theorem commits_len (l : List Rec) : (hCommits l).length ≤ l.length := by
  unfold hCommits
  split
  · rw [List.length_map]
    exact List.length_filter_le _ _
  · exact Nat.zero_le _
def runWPlain : RunFree V := fun ar K => match ar with
  | [.rows .rcd l c] => .need (l.length ≤ 1073741824) (K (.bool (wPlain l)) [])
  | _ => .bad 500
theorem hWPlain : HookOk Try.prog 39 (hookFree [.rows Kd.rcd] runWPlain) := by
  refine free_hook (C := cfgU1) cfgU1_ok (n := 60) (fn := Try.f39) ⟨by kernel_rfl, by kernel_rfl⟩ (by kernel_rfl) ?_
  intro M ar K0 H
  unfold runWPlain at H
  split at H
  · rename_i l c
    obtain ⟨hb, H⟩ := H
    refine ⟨show 1 ≤ _ by decide +kernel, ?_⟩
    show (runF cfgU1 60 39 Try.f39 [.sl false 0 0 8 l.length c] [(0, .ro Kd.rcd l)] 1).holds _
    rw [t39]
    have hc := commits_len l
    rw [show List.take l.length (List.drop 0 l) = l from List.take_length .., show List.take (hCommits l).length (List.drop 0 (hCommits l)) = hCommits l from List.take_length ..]
    exact ⟨by omega, by omega, fun h => ⟨by omega, by omega, fun y => ⟨by omega, by omega, _, _, H, endPlain (AV.sub_bool (by unfold wPlain; rw [h, Bool.true_and])) rfl⟩⟩, fun h => ⟨_, _, H, endPlain (AV.sub_ff (by unfold wPlain; rw [h, Bool.false_and])) rfl⟩⟩
  · exact H.elim
theorem hWPlainRef : HookOk Try.prog 40 (hookFree [.rows Kd.rcd] runWPlain) := by
  refine free_hook (C := cfgU1) cfgU1_ok (n := 60) (fn := Try.f40) ⟨by kernel_rfl, by kernel_rfl⟩ (by kernel_rfl) ?_
  intro M ar K0 H
  unfold runWPlain at H
  split at H
  · rename_i l c
    obtain ⟨hb, H⟩ := H
    refine ⟨show 1 ≤ _ by decide +kernel, ?_⟩
    show (runF cfgU1 60 40 Try.f40 [.sl false 0 0 8 l.length c] [(0, .ro Kd.rcd l)] 1).holds _
    rw [t40]
    have hc := commits_len l
    rw [show List.take l.length (List.drop 0 l) = l from List.take_length .., show List.take (hCommits l).length (List.drop 0 (hCommits l)) = hCommits l from List.take_length ..]
    exact ⟨by omega, by omega, fun h => ⟨by omega, by omega, fun y => ⟨by omega, by omega, _, _, H, endPlain (AV.sub_bool (by unfold wPlain; rw [h, Bool.true_and])) rfl⟩⟩, fun h => ⟨_, _, H, endPlain (AV.sub_ff (by unfold wPlain; rw [h, Bool.false_and])) rfl⟩⟩
  · exact H.elim

end Sx
end Go.Proofs.Ytemcdjdglcceiaa

/-
  Witness, as plain data: the order in which all took effect, rows, checks; and that the beginning of what checks does.
-/
namespace Go.Proofs.Ytemcdjdglcceiaa
namespace Sx
open Go
set_option linter.unusedSimpArgs false
set_option linter.unusedVariables false

def ordAt (cs : List Cal) (i : Int) : Nat → Int
  | 0 => -1
  | n + 1 => if (cs.getD n c0).at_ = i then (n : Int) else ordAt cs i n
def ordTo (l : List Rec) (cs : List Cal) : Nat → List Int
  | 0 => []
  | n + 1 => ordTo l cs n ++ if (l.getD n r0).what = 2 then [ordAt cs n cs.length] else []
def wOrder (l : List Rec) : List Int := if hRight l then ordTo l (hCallsOf l) l.length else []
def late (cs : List Cal) (k j : Int) : Bool := decide (j = k) || hBefore (cs.getD k.toNat c0) (cs.getD j.toNat c0)
def respStep (cs : List Cal) (x : Option (List Int)) (k : Int) : Option (List Int) :=
  x.bind fun a => if k = -1 then some a else if k < 0 ∨ (cs.length : Int) ≤ k ∨ a.any (late cs k) = true then none else some (a ++ [k])
def respTo (cs : List Cal) (o : List Int) (n : Nat) : Option (List Int) := (o.take n).foldl (respStep cs) (some [])
def wResp (cs : List Cal) (o : List Int) : Bool := (o.foldl (respStep cs) (some [])).isSome
def rowStep (l : List Rec) (cs : List Cal) (x : Option (List Com × Nat)) (k : Int) : Option (List Com × Nat) :=
  x.bind fun y => if k = -1 ∧ y.2 < (evics l).length then some (y.1 ++ [(evics l).getD y.2 cc0], y.2 + 1)
    else if k < 0 ∨ (cs.length : Int) ≤ k ∨ (cs.getD k.toNat c0).at_ < 0 then none else some (y.1 ++ [(l.getD (cs.getD k.toNat c0).at_.toNat r0).com], y.2)
def rowTo (l : List Rec) (cs : List Cal) (o : List Int) (n : Nat) : Option (List Com × Nat) := (o.take n).foldl (rowStep l cs) (some ([], 0))
def wRow (l : List Rec) (o : List Int) : List Com := if hRight l then (match o.foldl (rowStep l (hCallsOf l)) (some ([], 0)) with | some y => y.1 | none => []) else []
def acts (r : Rec) : Bool := decide (r.err = 0) && decide (1 ≤ r.act) && decide (r.act ≤ 3)
def bareC (l : List Rec) (c : Cal) : Bool := decide (0 ≤ c.to_) && decide (c.at_ < 0) && acts (l.getD c.to_.toNat r0)

theorem ordAt_cases (cs : List Cal) (i : Int) : ∀ n, (ordAt cs i n = -1 ∧ ∀ j, j < n → (cs.getD j c0).at_ ≠ i) ∨ ∃ j, j < n ∧ ordAt cs i n = (j : Int) ∧ (cs.getD j c0).at_ = i
  | 0 => .inl ⟨rfl, fun j h => by omega⟩
  | n + 1 => by
    unfold ordAt
    split
    · rename_i h
      exact .inr ⟨n, by omega, rfl, h⟩
    · rename_i h
      rcases ordAt_cases cs i n with ⟨h1, h2⟩ | ⟨j, h1, h2, h3⟩
      · refine .inl ⟨h1, fun j hj => ?_⟩
        by_cases e : j = n
        · rw [e]; exact h
        · exact h2 j (by omega)
      · exact .inr ⟨j, by omega, h2, h3⟩

theorem at_inj {l : List Rec} {n : Nat} {s : RD} (I : RInv l n s) {j k : Nat} {c d : Cal} (hj : s.cs[j]? = some c) (hk : s.cs[k]? = some d) (h : c.at_ = d.at_) (hn : c.at_ ≠ -1) : j = k := by
  rcases I.at_ j c hj with e | ⟨_, _, _, a1, a2⟩
  · exact absurd e hn
  rcases I.at_ k d hk with e | ⟨_, _, _, b1, b2⟩
  · omega
  rw [h] at a1 a2
  rcases Nat.lt_trichotomy j k with h1 | h1 | h1
  · have := (I.two j k c d h1 hj hk (a1.symm.trans b1)).2.2; omega
  · exact h1
  · have := (I.two k j d c h1 hk hj (b1.symm.trans a1)).2.2; omega

def TakeInv (l : List Rec) (n : Nat) (s : RD) : Prop := ∀ i, i < n → (l.getD i r0).what = 2 → ¬ (l.getD i r0).op < 0 → ∃ (j : Nat) (c : Cal), s.cs[j]? = some c ∧ c.at_ = (i : Int)
theorem keep_at {l : List Rec} {n : Nat} {s s' : RD} (I : RInv l n s) {r : Rec} {i : Nat} (e : s.step r i = some s') {j : Nat} {c : Cal} (hj : s.cs[j]? = some c) (hc : c.at_ ≠ -1) : ∃ c', s'.cs[j]? = some c' ∧ c'.at_ = c.at_ := by
  unfold RD.step at e
  split at e
  · cases e
  · split at e
    · split at e
      · cases e; exact ⟨c, hj, rfl⟩
      · cases e
    · split at e
      · unfold RD.invoke at e
        split at e
        · cases e; exact ⟨c, (List.getElem?_append_left (get_lt hj)).trans hj, rfl⟩
        · cases e
      · unfold RD.follow at e
        split at e
        · cases e
        · rename_i o ho
          obtain ⟨k1, k2, k3, k4, c1, k5, k6, k7, k8, k9, k10⟩ := I.last _ _ ho
          have hd : s.cs.getD o.call.toNat c0 = c1 := by rw [List.getD_eq_getElem?_getD, k5]; rfl
          split at e
          · cases e
          · split at e
            · split at e
              · rename_i hm
                cases e
                refine ⟨c, ?_, rfl⟩
                show (s.cs.set _ _)[j]? = _
                rw [List.getElem?_set_ne (fun h => ?_)]
                · exact hj
                · subst h
                  rw [hj] at k5; cases k5
                  exact hc (k8.1 hm.1).1
              · cases e
            · split at e
              · split at e
                · cases e
                  show ∃ c', (s.cs.set _ _)[j]? = some c' ∧ _
                  rw [hd]
                  by_cases h : j = o.call.toNat
                  · subst h
                    rw [hj] at k5; cases k5
                    exact ⟨_, List.getElem?_set_self k3, rfl⟩
                  · exact ⟨c, (List.getElem?_set_ne (fun e => h e.symm)).trans hj, rfl⟩
                · cases e
              · cases e
theorem TakeInv.step {l : List Rec} (hb : ∀ i, (l.getD i r0).op < 9223372036854775808) {n : Nat} {s s' : RD} (T : TakeInv l n s) (I : RInv l n s) (e : s.step (l.getD n r0) n = some s') : TakeInv l (n + 1) s' := by
  intro i hi hw hop
  by_cases h : i = n
  · subst h
    obtain ⟨_, _, o', g1, g2, g3, g4⟩ := step_sets hop e
    have I' := I.step hb e
    obtain ⟨k1, k2, k3, k4, c1, k5, k6⟩ := I'.last _ _ g1
    exact ⟨_, c1, k5, (g4 hw).2 c1 k5⟩
  · obtain ⟨j, c, h1, h2⟩ := T i (by omega) hw hop
    obtain ⟨c', h3, h4⟩ := keep_at I e h1 (by omega)
    exact ⟨j, c', h3, h4.trans h2⟩
theorem readTo_take_inv {l : List Rec} (hb : ∀ i, (l.getD i r0).op < 9223372036854775808) : ∀ {n : Nat} {s : RD}, readTo l n = some s → TakeInv l n s
  | 0, s, h => fun i hi => by omega
  | n + 1, s', h => by
    obtain ⟨s, h1, h2⟩ := Option.bind_eq_some_iff.1 h
    exact (readTo_take_inv hb h1).step hb (readTo_inv hb h1) h2

/-- What the calls of a right row are to its Takes. -/
structure Takes (l : List Rec) (cs : List Cal) : Prop where
  gone : ∀ i, i < l.length → (l.getD i r0).op < 0 → (l.getD i r0).what = 2 ∧ ∀ (j : Nat) (c : Cal), cs[j]? = some c → c.at_ ≠ (i : Int)
  there : ∀ i, i < l.length → (l.getD i r0).what = 2 → ¬ (l.getD i r0).op < 0 → ∃ (j : Nat) (c : Cal), cs[j]? = some c ∧ c.at_ = (i : Int)
  one : ∀ (j k : Nat) (c d : Cal), cs[j]? = some c → cs[k]? = some d → c.at_ = d.at_ → c.at_ ≠ -1 → j = k
  up : ∀ (j : Nat) (c : Cal), cs[j]? = some c → 0 ≤ c.frm ∧ (c.at_ = -1 ∨ c.frm < c.at_) ∧ c.at_ < l.length ∧ (c.to_ = -1 ∨ (c.at_ < c.to_ ∧ c.frm < c.to_)) ∧ c.to_ < l.length
theorem takes {l : List Rec} (hl : ∀ r ∈ l, r.op < 9223372036854775808) (hr : hRight l = true) : Takes l (hCallsOf l) := by
  have hb := get_bound hl
  cases e : readTo l l.length with
  | none => have := right_none e; rw [this.1] at hr; cases hr
  | some s =>
    rw [(right_some e).2]
    have I := readTo_inv hb e
    refine ⟨fun i hi hop => ⟨?_, fun j c hj h => ?_⟩, readTo_take_inv hb e, fun j k c d h1 h2 h3 h4 => at_inj I h1 h2 h3 h4, fun j c h => ?_⟩
    · obtain ⟨t, ht⟩ := readTo_some e (show i + 1 ≤ l.length by omega)
      obtain ⟨u, hu, hst⟩ := Option.bind_eq_some_iff.1 ht
      unfold RD.step at hst
      split at hst
      · cases hst
      · split at hst
        · rename_i h; exact h.2.1
        · cases hst
    · rcases I.at_ j c hj with h' | ⟨_, _, _, _, a2⟩
      · omega
      · have := (I.frm j c hj).2.2.2.2.2
        rw [h, Int.toNat_natCast] at a2
        omega
    · have a1 := I.at_ j c h
      have a2 := I.to_ j c h
      have a3 := I.frm j c h
      omega

theorem ord_gone {l : List Rec} {cs : List Cal} (T : Takes l cs) {i : Nat} (hi : i < l.length) (hop : (l.getD i r0).op < 0) : ordAt cs i cs.length = -1 := by
  rcases ordAt_cases cs i cs.length with ⟨h, _⟩ | ⟨j, h1, _, h3⟩
  · exact h
  · exact absurd h3 ((T.gone i hi hop).2 j _ (by rw [getD_el c0 h1]; exact List.getElem?_eq_getElem h1))
theorem ord_there {l : List Rec} {cs : List Cal} (T : Takes l cs) {i : Nat} (hi : i < l.length) (hw : (l.getD i r0).what = 2) (hop : ¬ (l.getD i r0).op < 0) : ∃ j, j < cs.length ∧ ordAt cs i cs.length = (j : Int) ∧ (cs.getD j c0).at_ = i := by
  rcases ordAt_cases cs i cs.length with ⟨_, h⟩ | h
  · obtain ⟨j, c, h1, h2⟩ := T.there i hi hw hop
    refine absurd ?_ (h j (get_lt h1))
    rw [List.getD_eq_getElem?_getD, h1]; exact h2
  · exact h
/-! ## beginnings -/
theorem getD_take {l : List Rec} {k i : Nat} (h : i < k) : (l.take k).getD i r0 = l.getD i r0 := by
  rw [List.getD_eq_getElem?_getD, List.getD_eq_getElem?_getD, List.getElem?_take, if_pos h]
structure CutW (l : List Rec) (k : Nat) : Prop where
  hk : k ≤ l.length
  T : Takes l (hCallsOf l)
  T' : Takes (l.take k) (hCallsOf (l.take k))
  C : CutOf k (hCallsOf (l.take k)) (hCallsOf l)
theorem CutW.at_ {l : List Rec} {k : Nat} (W : CutW l k) {i : Nat} (hi : i < k) (hw : (l.getD i r0).what = 2) : ordAt (hCallsOf (l.take k)) i (hCallsOf (l.take k)).length = ordAt (hCallsOf l) i (hCallsOf l).length := by
  have hk := W.hk
  have hlt : (l.take k).length = k := by rw [List.length_take]; omega
  have e := getD_take (l := l) hi
  by_cases hop : (l.getD i r0).op < 0
  · rw [ord_gone W.T (by omega) hop, ord_gone W.T' (by omega) (by rw [e]; exact hop)]
  · obtain ⟨j, h1, h2, h3⟩ := ord_there W.T (show i < l.length by omega) hw hop
    obtain ⟨j', g1, g2, g3⟩ := ord_there W.T' (show i < (l.take k).length by omega) (by rw [e]; exact hw) (by rw [e]; exact hop)
    have hle := W.C.le
    have f := (W.C.facts j' (by omega)).1 g1
    rw [h2, g2]
    have hj' : ((hCallsOf l).getD j' c0).at_ = i := by
      rw [f.2] at g3
      unfold cut at g3
      simp only at g3
      split at g3
      · omega
      · exact g3
    have : j' = j := W.T.one j' j _ _ (by rw [getD_el c0 (by omega)]; exact List.getElem?_eq_getElem (by omega)) (by rw [getD_el c0 h1]; exact List.getElem?_eq_getElem h1) (hj'.trans h3.symm) (by rw [hj']; omega)
    rw [this]
theorem resp_none (cs : List Cal) : ∀ o, List.foldl (respStep cs) none o = none
  | [] => rfl
  | _ :: o => resp_none cs o
/-! ## commits -/
/-! ## checks -/
def Checks (l : List Rec) : Prop := hRight l = true ∧ (hCallsOf l).any (bareC l) = false ∧ wResp (hCallsOf l) (wOrder l) = true ∧ legal (wRow l (wOrder l)) = (wRow l (wOrder l)).length
def wCheck (l : List Rec) : Int :=
  if hRight l = true then (if (hCallsOf l).any (bareC l) = true then 1 else if wResp (hCallsOf l) (wOrder l) = true then (if legal (wRow l (wOrder l)) < (wRow l (wOrder l)).length then 3 else 0) else 1) else 7
theorem legal_le (l : List Com) : legal l ≤ l.length := runM_le l []

end Sx
end Go.Proofs.Ytemcdjdglcceiaa

/-
  Witness: the order in which all took effect: the runs of the machine.
-/
namespace Go.Proofs.Ytemcdjdglcceiaa
namespace Sx
open Go
set_option maxRecDepth 100000
set_option linter.unusedVariables false

def hooksW : Nat → Option (HookS V) := fun g => match g with
  | 28 => some (hookFree [.rows Kd.int, .rows Kd.int] runInts)
  | 47 => some (hookFree [.rows Kd.rcd] runEvics)
  | 48 => some (hookFree [.rows Kd.rcd] runEvics)
  | 39 => some (hookFree [.rows Kd.rcd] runWPlain)
  | 40 => some (hookFree [.rows Kd.rcd] runWPlain)
  | g => hooksU g
noncomputable def cfgW : Cfg Try.prog V := ⟨tab, kinds, fun _ => none, hooksW, fun _ _ => none⟩
def atMap (cs : List Cal) : Nat → List (Int × Int)
  | 0 => []
  | n + 1 => mput (atMap cs n) (cs.getD n c0).at_ (n : Int)
structure PLS extends PL where
  sc : Nat
def I29 (p : PLS) (n : Nat) : St V := ⟨[(0, .sl false 0 0 8 p.l.length p.c), (3, .mp 1), (14, .sl false 2 0 5 (hCallsOf p.l).length ((hCallsOf p.l).length + p.sc)), (15, .int .i64 ((hCallsOf p.l).length : Int)), (16, .int .i64 (n : Int))], [(2, .arr 35 Kd.cal (hCallsOf p.l) p.sc), (1, .mp .i64 Kd.int (atMap (hCallsOf p.l) n)), (0, .ro Kd.rcd p.l)], 3, 52, TQ⟩
def E29 (p : PLS) : St V := ⟨[(0, .sl false 0 0 8 p.l.length p.c), (3, .mp 1)], [(1, .mp .i64 Kd.int (atMap (hCallsOf p.l) (hCallsOf p.l).length)), (0, .ro Kd.rcd p.l)], 3, 52, TQ⟩
def L29 : LoopS V := trimLoop (trimSt [0, 3, 14, 15, 16] [0, 1, 2]) (loopH 3 (fun p : PLS => I29 p 0) (fun _ (_ : Unit) => True) (fun p _ => E29 p))
structure PLT extends PL where
  T : Takes l (hCallsOf l)
def I292 (p : PLT) (x : Nat × Nat) : St V := ⟨[(3, .mp 1), (6, .sl false 3 0 1 (ordTo p.l (hCallsOf p.l) x.1).length ((ordTo p.l (hCallsOf p.l) x.1).length + x.2)), (26, .sl false 0 0 8 p.l.length p.c), (27, .int .i64 (p.l.length : Int)), (28, .int .i64 (x.1 : Int))], [(3, .arr 3 Kd.int (ordTo p.l (hCallsOf p.l) x.1) x.2), (1, .mp .i64 Kd.int (atMap (hCallsOf p.l) (hCallsOf p.l).length)), (0, .ro Kd.rcd p.l)], 4, 52, TQ⟩
def L292 : LoopS V := trimLoop (trimSt [3, 6, 26, 27, 28] [0, 1]) (loopH 3 (fun p : PLT => I292 p (0, 0)) (fun _ (_ : Nat) => True) (fun p s => I292 p (p.l.length, s)))
noncomputable def cfgW29 : Cfg Try.prog V := ⟨tab, kinds, fun _ => none, hooksW, fun g id => match g, id with | 29, 0 => some L29 | 29, 2 => some L292 | _, _ => none⟩
structure PRO extends PLS where
  i : Nat
  sp : Nat
  hi : i < l.length
  hr : hRight l = true
def I302 (q : PRO) (k : Nat) : St V := ⟨[(0, .sl false 0 0 8 q.l.length q.c), (3, .bool (hRight q.l)), (4, .sl false 1 0 5 (hCallsOf q.l).length ((hCallsOf q.l).length + q.sc)), (5, .sl false 2 0 1 (ordTo q.l (hCallsOf q.l) q.i).length ((ordTo q.l (hCallsOf q.l) q.i).length + q.sp)), (6, .int .i64 (q.i : Int)), (7, .int .i64 (ordAt (hCallsOf q.l) q.i k)), (8, .int .i64 (k : Int))], [(2, .arr 3 Kd.int (ordTo q.l (hCallsOf q.l) q.i) q.sp), (1, .arr 35 Kd.cal (hCallsOf q.l) q.sc), (0, .ro Kd.rcd q.l)], 3, 47, TQ⟩
def L302 : LoopS V := trimLoop (trimSt [0, 3, 4, 5, 6, 7, 8] [0, 1, 2]) (loopH 3 (fun q : PRO => I302 q 0) (fun _ (_ : Unit) => True) (fun q _ => I302 q (hCallsOf q.l).length))
noncomputable def cfgW302 : Cfg Try.prog V := ⟨tab, kinds, fun _ => none, hooksW, fun g id => match g, id with | 30, 2 => some L302 | _, _ => none⟩
def I30o (p : PLS) (x : Nat × Nat) : St V := ⟨[(0, .sl false 0 0 8 p.l.length p.c), (3, .bool (hRight p.l)), (4, .sl false 1 0 5 (hCallsOf p.l).length ((hCallsOf p.l).length + p.sc)), (5, .sl false 2 0 1 (ordTo p.l (hCallsOf p.l) x.1).length ((ordTo p.l (hCallsOf p.l) x.1).length + x.2)), (6, .int .i64 (x.1 : Int))], [(2, .arr 3 Kd.int (ordTo p.l (hCallsOf p.l) x.1) x.2), (1, .arr 35 Kd.cal (hCallsOf p.l) p.sc), (0, .ro Kd.rcd p.l)], 3, 47, TQ⟩
def L30o : LoopS V := trimLoop (trimSt [0, 3, 4, 5, 6] [0, 1]) (loopH 2 (fun p : PLS => I30o p (0, 0)) (fun _ (_ : Nat) => True) (fun p s => I30o p (if hRight p.l then p.l.length else 0, s)))
noncomputable def cfgW30 : Cfg Try.prog V := ⟨tab, kinds, fun _ => none, hooksW, fun g id => match g, id with | 30, 0 => some L30o | _, _ => none⟩
theorem w29 (p : PLS) (n : Nat) : runCode cfgW 60 29 (loopOf Try.f29 0) (I29 p n) (stopT (trimSt [0, 3, 14, 15, 16] [0, 1, 2])) = Out.ite (decide ((↑n : Int) < (↑(hCallsOf p.l).length : Int))) (Out.need (0 ≤ (↑n : Int) ∧ (↑n : Int) < (↑(hCallsOf p.l).length : Int)) (Out.need (0 + n < (hCallsOf p.l).length) (Out.stop EX.nx {env := [(0, .sl false 0 0 8 p.l.length p.toPL.2), (3, .mp 1), (14, .sl false 2 0 5 (hCallsOf p.l).length ((hCallsOf p.l).length + p.2)), (15, .int .i64 (↑(hCallsOf p.l).length : Int)), (16, .int .i64 (IntKind.i64.wrap ((↑n : Int) + 1)))], heap := [(2, .arr 35 Kd.cal (hCallsOf p.l) p.2), (1, .mp .i64 Kd.int (mput (atMap (hCallsOf p.l) n) ((hCallsOf p.l).getD (0 + n) (V.enc Kd.cal).dflt).at_ (↑n : Int))), (0, .ro Kd.rcd p.l)], nx := 6, nt := 52, tl := [3, 1, 3, 0, 1, 2, 3, 4, 5, 6, 7, 8, 9, 10, 11, 12, 13, 14, 15, 16] : St V }))) (Out.stop (EX.ex 0) {env := [(0, .sl false 0 0 8 p.l.length p.toPL.2), (3, .mp 1), (14, .sl false 2 0 5 (hCallsOf p.l).length ((hCallsOf p.l).length + p.2)), (15, .int .i64 (↑(hCallsOf p.l).length : Int)), (16, .int .i64 (↑n : Int))], heap := [(2, .arr 35 Kd.cal (hCallsOf p.l) p.2), (1, .mp .i64 Kd.int (atMap (hCallsOf p.l) n)), (0, .ro Kd.rcd p.l)], nx := 3, nt := 52, tl := [0, 1, 2, 3, 4, 5, 6, 7, 8, 9, 10, 11, 12, 13, 14, 15, 16] : St V }) := by kernel_rfl

theorem w292 (p : PLT) (x : Nat × Nat) : runCode cfgW 60 29 (loopOf Try.f29 2) (I292 p x) (stopT (trimSt [3, 6, 26, 27, 28] [0, 1, 2, 3, 4, 5, 6, 7])) = Out.ite (decide ((↑x.1 : Int) < (↑p.l.length : Int))) (Out.need (0 ≤ (↑x.1 : Int) ∧ (↑x.1 : Int) < (↑p.l.length : Int)) (Out.need (0 + x.1 < p.l.length) (Out.ite ((p.l.getD (0 + x.1) (V.enc Kd.rcd).dflt).what != 2) (Out.stop EX.nx {env := [(3, .mp 1), (6, .sl false 3 0 1 (ordTo p.l (hCallsOf p.l) x.1).length ((ordTo p.l (hCallsOf p.l) x.1).length + x.2)), (26, .sl false 0 0 8 p.l.length p.toPL.2), (27, .int .i64 (↑p.l.length : Int)), (28, .int .i64 (IntKind.i64.wrap ((↑x.1 : Int) + 1)))], heap := [(4, .cells 30 [.int .i64 (p.l.getD (0 + x.1) (V.enc Kd.rcd).dflt).thread, .int .i64 (p.l.getD (0 + x.1) (V.enc Kd.rcd).dflt).op, .int .i64 (p.l.getD (0 + x.1) (V.enc Kd.rcd).dflt).what, .int .i64 (p.l.getD (0 + x.1) (V.enc Kd.rcd).dflt).act, .int .i64 (p.l.getD (0 + x.1) (V.enc Kd.rcd).dflt).key, .int .i64 (p.l.getD (0 + x.1) (V.enc Kd.rcd).dflt).value, .bool (p.l.getD (0 + x.1) (V.enc Kd.rcd).dflt).hit, .int .i64 (p.l.getD (0 + x.1) (V.enc Kd.rcd).dflt).err]), (3, .arr 3 Kd.int (ordTo p.l (hCallsOf p.l) x.1) x.2), (1, .mp .i64 Kd.int (atMap (hCallsOf p.l) (hCallsOf p.l).length)), (0, .ro Kd.rcd p.l)], nx := 6, nt := 52, tl := [4, 0, 1, 2, 3, 4, 5, 6, 7, 8, 9, 10, 11, 12, 13, 14, 15, 16] : St V }) (Out.ite (decide ((p.l.getD (0 + x.1) (V.enc Kd.rcd).dflt).op < 0)) (Out.need (0 = 0 ∧ (ordTo p.l (hCallsOf p.l) x.1).length = (ordTo p.l (hCallsOf p.l) x.1).length ∧ (ordTo p.l (hCallsOf p.l) x.1).length + x.2 = (ordTo p.l (hCallsOf p.l) x.1).length + x.2 ∧ ((ordTo p.l (hCallsOf p.l) x.1).length + 1) * 8 ≤ 140737488355328) (Out.all Nat fun y => Out.stop EX.nx {env := [(3, .mp 1), (6, .sl false 7 0 1 ((ordTo p.l (hCallsOf p.l) x.1).length + 1) ((ordTo p.l (hCallsOf p.l) x.1).length + 1 + y)), (26, .sl false 0 0 8 p.l.length p.toPL.2), (27, .int .i64 (↑p.l.length : Int)), (28, .int .i64 (IntKind.i64.wrap ((↑x.1 : Int) + 1)))], heap := [(7, .arr 3 Kd.int (ordTo p.l (hCallsOf p.l) x.1 ++ [-1]) y), (6, .cells 3 [.lit .i64 (-1)]), (4, .cells 30 [.int .i64 (p.l.getD (0 + x.1) (V.enc Kd.rcd).dflt).thread, .int .i64 (p.l.getD (0 + x.1) (V.enc Kd.rcd).dflt).op, .int .i64 (p.l.getD (0 + x.1) (V.enc Kd.rcd).dflt).what, .int .i64 (p.l.getD (0 + x.1) (V.enc Kd.rcd).dflt).act, .int .i64 (p.l.getD (0 + x.1) (V.enc Kd.rcd).dflt).key, .int .i64 (p.l.getD (0 + x.1) (V.enc Kd.rcd).dflt).value, .bool (p.l.getD (0 + x.1) (V.enc Kd.rcd).dflt).hit, .int .i64 (p.l.getD (0 + x.1) (V.enc Kd.rcd).dflt).err]), (1, .mp .i64 Kd.int (atMap (hCallsOf p.l) (hCallsOf p.l).length)), (0, .ro Kd.rcd p.l)], nx := 8, nt := 52, tl := [3, 4, 0, 1, 2, 3, 4, 5, 6, 7, 8, 9, 10, 11, 12, 13, 14, 15, 16] : St V })) (Out.need (0 = 0 ∧ (ordTo p.l (hCallsOf p.l) x.1).length = (ordTo p.l (hCallsOf p.l) x.1).length ∧ (ordTo p.l (hCallsOf p.l) x.1).length + x.2 = (ordTo p.l (hCallsOf p.l) x.1).length + x.2 ∧ ((ordTo p.l (hCallsOf p.l) x.1).length + 1) * 8 ≤ 140737488355328) (Out.all Nat fun y => Out.stop EX.nx {env := [(3, .mp 1), (6, .sl false 7 0 1 ((ordTo p.l (hCallsOf p.l) x.1).length + 1) ((ordTo p.l (hCallsOf p.l) x.1).length + 1 + y)), (26, .sl false 0 0 8 p.l.length p.toPL.2), (27, .int .i64 (↑p.l.length : Int)), (28, .int .i64 (IntKind.i64.wrap ((↑x.1 : Int) + 1)))], heap := [(7, .arr 3 Kd.int (ordTo p.l (hCallsOf p.l) x.1 ++ [(mget (atMap (hCallsOf p.l) (hCallsOf p.l).length) (↑x.1 : Int)).getD (V.enc Kd.int).dflt]) y), (6, .cells 3 [.int .i64 ((mget (atMap (hCallsOf p.l) (hCallsOf p.l).length) (↑x.1 : Int)).getD (V.enc Kd.int).dflt)]), (4, .cells 30 [.int .i64 (p.l.getD (0 + x.1) (V.enc Kd.rcd).dflt).thread, .int .i64 (p.l.getD (0 + x.1) (V.enc Kd.rcd).dflt).op, .int .i64 (p.l.getD (0 + x.1) (V.enc Kd.rcd).dflt).what, .int .i64 (p.l.getD (0 + x.1) (V.enc Kd.rcd).dflt).act, .int .i64 (p.l.getD (0 + x.1) (V.enc Kd.rcd).dflt).key, .int .i64 (p.l.getD (0 + x.1) (V.enc Kd.rcd).dflt).value, .bool (p.l.getD (0 + x.1) (V.enc Kd.rcd).dflt).hit, .int .i64 (p.l.getD (0 + x.1) (V.enc Kd.rcd).dflt).err]), (1, .mp .i64 Kd.int (atMap (hCallsOf p.l) (hCallsOf p.l).length)), (0, .ro Kd.rcd p.l)], nx := 8, nt := 52, tl := [3, 4, 0, 1, 2, 3, 4, 5, 6, 7, 8, 9, 10, 11, 12, 13, 14, 15, 16] : St V })))))) (Out.stop (EX.ex 2) {env := [(3, .mp 1), (6, .sl false 3 0 1 (ordTo p.l (hCallsOf p.l) x.1).length ((ordTo p.l (hCallsOf p.l) x.1).length + x.2)), (26, .sl false 0 0 8 p.l.length p.toPL.2), (27, .int .i64 (↑p.l.length : Int)), (28, .int .i64 (↑x.1 : Int))], heap := [(3, .arr 3 Kd.int (ordTo p.l (hCallsOf p.l) x.1) x.2), (1, .mp .i64 Kd.int (atMap (hCallsOf p.l) (hCallsOf p.l).length)), (0, .ro Kd.rcd p.l)], nx := 4, nt := 52, tl := [0, 1, 2, 3, 4, 5, 6, 7, 8, 9, 10, 11, 12, 13, 14, 15, 16] : St V }) := by kernel_rfl

theorem w302 (q : PRO) (k : Nat) : runCode cfgW 60 30 (loopOf Try.f30 2) (I302 q k) (stopT (trimSt [0, 3, 4, 5, 6, 7, 8] [0, 1, 2])) = Out.ite (decide ((↑k : Int) < (↑(hCallsOf q.l).length : Int))) (Out.need (0 ≤ (↑k : Int) ∧ (↑k : Int) < (↑(hCallsOf q.l).length : Int)) (Out.need (0 + k < (hCallsOf q.l).length) (Out.ite (((hCallsOf q.l).getD (0 + k) (V.enc Kd.cal).dflt).at_ == (↑q.2 : Int)) (Out.stop EX.nx {env := [(0, .sl false 0 0 8 q.l.length q.toPL.2), (3, .bool (hRight q.l)), (4, .sl false 1 0 5 (hCallsOf q.l).length ((hCallsOf q.l).length + q.toPLS.2)), (5, .sl false 2 0 1 (ordTo q.l (hCallsOf q.l) q.2).length ((ordTo q.l (hCallsOf q.l) q.2).length + q.3)), (6, .int .i64 (↑q.2 : Int)), (7, .int .i64 (↑k : Int)), (8, .int .i64 (IntKind.i64.wrap ((↑k : Int) + 1)))], heap := [(2, .arr 3 Kd.int (ordTo q.l (hCallsOf q.l) q.2) q.3), (1, .arr 35 Kd.cal (hCallsOf q.l) q.toPLS.2), (0, .ro Kd.rcd q.l)], nx := 3, nt := 47, tl := [0, 1, 2, 3, 4, 5, 6, 7, 8, 9, 10, 11, 12, 13, 14, 15, 16] : St V }) (Out.stop EX.nx {env := [(0, .sl false 0 0 8 q.l.length q.toPL.2), (3, .bool (hRight q.l)), (4, .sl false 1 0 5 (hCallsOf q.l).length ((hCallsOf q.l).length + q.toPLS.2)), (5, .sl false 2 0 1 (ordTo q.l (hCallsOf q.l) q.2).length ((ordTo q.l (hCallsOf q.l) q.2).length + q.3)), (6, .int .i64 (↑q.2 : Int)), (7, .int .i64 (ordAt (hCallsOf q.l) (↑q.2 : Int) k)), (8, .int .i64 (IntKind.i64.wrap ((↑k : Int) + 1)))], heap := [(2, .arr 3 Kd.int (ordTo q.l (hCallsOf q.l) q.2) q.3), (1, .arr 35 Kd.cal (hCallsOf q.l) q.toPLS.2), (0, .ro Kd.rcd q.l)], nx := 3, nt := 47, tl := [0, 1, 2, 3, 4, 5, 6, 7, 8, 9, 10, 11, 12, 13, 14, 15, 16] : St V })))) (Out.stop (EX.ex 2) {env := [(0, .sl false 0 0 8 q.l.length q.toPL.2), (3, .bool (hRight q.l)), (4, .sl false 1 0 5 (hCallsOf q.l).length ((hCallsOf q.l).length + q.toPLS.2)), (5, .sl false 2 0 1 (ordTo q.l (hCallsOf q.l) q.2).length ((ordTo q.l (hCallsOf q.l) q.2).length + q.3)), (6, .int .i64 (↑q.2 : Int)), (7, .int .i64 (ordAt (hCallsOf q.l) (↑q.2 : Int) k)), (8, .int .i64 (↑k : Int))], heap := [(2, .arr 3 Kd.int (ordTo q.l (hCallsOf q.l) q.2) q.3), (1, .arr 35 Kd.cal (hCallsOf q.l) q.toPLS.2), (0, .ro Kd.rcd q.l)], nx := 3, nt := 47, tl := [0, 1, 2, 3, 4, 5, 6, 7, 8, 9, 10, 11, 12, 13, 14, 15, 16] : St V }) := by kernel_rfl

theorem w30 (p : PLS) (x : Nat × Nat) : runCode cfgW302 60 30 (loopOf Try.f30 0) (I30o p x) (stopT (trimSt [0, 3, 4, 5, 6] [0, 1, 2, 3, 4, 5, 6, 7])) = Out.ite (decide ((↑x.1 : Int) < (↑p.l.length : Int))) (Out.ite (hRight p.l) (Out.need (0 ≤ (↑x.1 : Int) ∧ (↑x.1 : Int) < (↑p.l.length : Int)) (Out.need (0 + x.1 < p.l.length) (Out.ite ((p.l.getD (0 + x.1) (V.enc Kd.rcd).dflt).what != 2) (Out.stop EX.nx {env := [(0, .sl false 0 0 8 p.l.length p.toPL.2), (3, .bool (hRight p.l)), (4, .sl false 1 0 5 (hCallsOf p.l).length ((hCallsOf p.l).length + p.2)), (5, .sl false 2 0 1 (ordTo p.l (hCallsOf p.l) x.1).length ((ordTo p.l (hCallsOf p.l) x.1).length + x.2)), (6, .int .i64 (IntKind.i64.wrap ((↑x.1 : Int) + 1)))], heap := [(2, .arr 3 Kd.int (ordTo p.l (hCallsOf p.l) x.1) x.2), (1, .arr 35 Kd.cal (hCallsOf p.l) p.2), (0, .ro Kd.rcd p.l)], nx := 3, nt := 47, tl := [0, 1, 2, 3, 4, 5, 6, 7, 8, 9, 10, 11, 12, 13, 14, 15, 16] : St V }) (Out.need (LoopFor Try.prog 30 2 (loopOf Try.f30 2) L302) (Out.ex (PRO → Prop) fun y => Out.need (3 ≤ 3 ∧ SImp 3 {env := [(0, .sl false 0 0 8 p.l.length p.toPL.2), (3, .bool (hRight p.l)), (4, .sl false 1 0 5 (hCallsOf p.l).length ((hCallsOf p.l).length + p.2)), (5, .sl false 2 0 1 (ordTo p.l (hCallsOf p.l) x.1).length ((ordTo p.l (hCallsOf p.l) x.1).length + x.2)), (6, .int .i64 (↑x.1 : Int)), (7, .lit .i64 (-1)), (8, .lit .i64 0)], heap := [(2, .arr 3 Kd.int (ordTo p.l (hCallsOf p.l) x.1) x.2), (1, .arr 35 Kd.cal (hCallsOf p.l) p.2), (0, .ro Kd.rcd p.l)], nx := 3, nt := 47, tl := [0, 1, 2, 3, 4, 5, 6, 7, 8, 9, 10, 11, 12, 13, 14, 15, 16] : St V } (fun q => I302 q 0) y) (Out.all PRO fun y_1 => Out.asm (y y_1) (Out.all Unit fun y => Out.asm ((fun x x_1 => True) y_1 y) (Out.need (0 = 0 ∧ (ordTo y_1.l (hCallsOf y_1.l) y_1.2).length = (ordTo y_1.l (hCallsOf y_1.l) y_1.2).length ∧ (ordTo y_1.l (hCallsOf y_1.l) y_1.2).length + y_1.3 = (ordTo y_1.l (hCallsOf y_1.l) y_1.2).length + y_1.3 ∧ ((ordTo y_1.l (hCallsOf y_1.l) y_1.2).length + 1) * 8 ≤ 140737488355328) (Out.all Nat fun y => Out.stop EX.nx {env := [(0, .sl false 0 0 8 y_1.l.length y_1.toPL.2), (3, .bool (hRight y_1.l)), (4, .sl false 1 0 5 (hCallsOf y_1.l).length ((hCallsOf y_1.l).length + y_1.toPLS.2)), (5, .sl false 4 0 1 ((ordTo y_1.l (hCallsOf y_1.l) y_1.2).length + 1) ((ordTo y_1.l (hCallsOf y_1.l) y_1.2).length + 1 + y)), (6, .int .i64 (IntKind.i64.wrap ((↑y_1.2 : Int) + 1)))], heap := [(4, .arr 3 Kd.int (ordTo y_1.l (hCallsOf y_1.l) y_1.2 ++ [ordAt (hCallsOf y_1.l) (↑y_1.2 : Int) (hCallsOf y_1.l).length]) y), (3, .cells 3 [.int .i64 (ordAt (hCallsOf y_1.l) (↑y_1.2 : Int) (hCallsOf y_1.l).length)]), (1, .arr 35 Kd.cal (hCallsOf y_1.l) y_1.toPLS.2), (0, .ro Kd.rcd y_1.l)], nx := 5, nt := 47, tl := [2, 0, 1, 2, 3, 4, 5, 6, 7, 8, 9, 10, 11, 12, 13, 14, 15, 16] : St V }))))))))) (Out.stop (EX.ex 0) {env := [(0, .sl false 0 0 8 p.l.length p.toPL.2), (3, .bool (hRight p.l)), (4, .sl false 1 0 5 (hCallsOf p.l).length ((hCallsOf p.l).length + p.2)), (5, .sl false 2 0 1 (ordTo p.l (hCallsOf p.l) x.1).length ((ordTo p.l (hCallsOf p.l) x.1).length + x.2)), (6, .int .i64 (↑x.1 : Int))], heap := [(2, .arr 3 Kd.int (ordTo p.l (hCallsOf p.l) x.1) x.2), (1, .arr 35 Kd.cal (hCallsOf p.l) p.2), (0, .ro Kd.rcd p.l)], nx := 3, nt := 47, tl := [0, 1, 2, 3, 4, 5, 6, 7, 8, 9, 10, 11, 12, 13, 14, 15, 16] : St V })) (Out.stop (EX.ex 0) {env := [(0, .sl false 0 0 8 p.l.length p.toPL.2), (3, .bool (hRight p.l)), (4, .sl false 1 0 5 (hCallsOf p.l).length ((hCallsOf p.l).length + p.2)), (5, .sl false 2 0 1 (ordTo p.l (hCallsOf p.l) x.1).length ((ordTo p.l (hCallsOf p.l) x.1).length + x.2)), (6, .int .i64 (↑x.1 : Int))], heap := [(2, .arr 3 Kd.int (ordTo p.l (hCallsOf p.l) x.1) x.2), (1, .arr 35 Kd.cal (hCallsOf p.l) p.2), (0, .ro Kd.rcd p.l)], nx := 3, nt := 47, tl := [0, 1, 2, 3, 4, 5, 6, 7, 8, 9, 10, 11, 12, 13, 14, 15, 16] : St V }) := by kernel_rfl

theorem wt29 (l : List Rec) (c : Nat) : runF cfgW29 60 29 Try.f29 [.sl false 0 0 8 l.length c] [(0, .ro Kd.rcd l)] 1 = Out.need (0 + l.length ≤ l.length) (Out.need ((List.take l.length (List.drop 0 l)).length ≤ 1099511627776) (Out.ite (!hRight (List.take l.length (List.drop 0 l))) (Out.fin .nilS [(0, .ro Kd.rcd l)] 1) (Out.need (0 + l.length ≤ l.length) (Out.need ((List.take l.length (List.drop 0 l)).length ≤ 1099511627776) (Out.all Nat fun y => Out.need (LoopFor Try.prog 29 0 (loopOf Try.f29 0) L29) (Out.ex (PLS → Prop) fun y_1 => Out.need (3 ≤ 3 ∧ SImp 3 {env := [(0, .sl false 0 0 8 l.length c), (3, .mp 1), (14, .sl false 2 0 5 (hCallsOf (List.take l.length (List.drop 0 l))).length ((hCallsOf (List.take l.length (List.drop 0 l))).length + y)), (15, .int .i64 (↑(hCallsOf (List.take l.length (List.drop 0 l))).length : Int)), (16, .lit .i64 0)], heap := [(2, .arr 35 Kd.cal (hCallsOf (List.take l.length (List.drop 0 l))) y), (1, .mp .i64 Kd.int []), (0, .ro Kd.rcd l)], nx := 3, nt := 52, tl := [] : St V } (fun p => I29 p 0) y_1) (Out.all PLS fun y => Out.asm (y_1 y) (Out.all Unit fun y_2 => Out.asm ((fun x x_1 => True) y y_2) (Out.need (LoopFor Try.prog 29 2 (loopOf Try.f29 2) L292) (Out.ex (PLT → Prop) fun y_3 => Out.need (3 ≤ 3 ∧ SImp 3 {env := [(3, .mp 1), (6, .nilS), (26, .sl false 0 0 8 y.l.length y.toPL.2), (27, .int .i64 (↑y.l.length : Int)), (28, .lit .i64 0)], heap := [(1, .mp .i64 Kd.int (atMap (hCallsOf y.l) (hCallsOf y.l).length)), (0, .ro Kd.rcd y.l)], nx := 3, nt := 52, tl := [0, 1, 2, 3, 4, 5, 6, 7, 8, 9, 10, 11, 12, 13, 14, 15, 16] : St V } (fun p => I292 p (0, 0)) y_3) (Out.all PLT fun y => Out.asm (y_3 y) (Out.all Nat fun y_4 => Out.asm ((fun x x_1 => True) y y_4) (Out.fin (.sl false 3 0 1 (ordTo y.l (hCallsOf y.l) (y.l.length, y_4).fst).length ((ordTo y.l (hCallsOf y.l) (y.l.length, y_4).fst).length + y_4)) [(3, .arr 3 Kd.int (ordTo y.l (hCallsOf y.l) (y.l.length, y_4).fst) y_4), (1, .mp .i64 Kd.int (atMap (hCallsOf y.l) (hCallsOf y.l).length)), (0, .ro Kd.rcd y.l)] 4))))))))))))) := by kernel_rfl

theorem wt30 (l : List Rec) (c : Nat) : runF cfgW30 60 30 Try.f30 [.sl false 0 0 8 l.length c] [(0, .ro Kd.rcd l)] 1 = Out.need (0 + l.length ≤ l.length) (Out.need ((List.take l.length (List.drop 0 l)).length ≤ 1099511627776) (Out.need (0 + l.length ≤ l.length) (Out.need ((List.take l.length (List.drop 0 l)).length ≤ 1099511627776 ∧ ∀ (r : V.El Kd.rcd), r ∈ List.take l.length (List.drop 0 l) → r.op < 9223372036854775808) (Out.all Nat fun y => Out.need (LoopFor Try.prog 30 0 (loopOf Try.f30 0) L30o) (Out.ex (PLS → Prop) fun y_1 => Out.need (2 ≤ 2 ∧ SImp 2 {env := [(0, .sl false 0 0 8 l.length c), (3, .bool (hRight (List.take l.length (List.drop 0 l)))), (4, .sl false 1 0 5 (hCallsOf (List.take l.length (List.drop 0 l))).length ((hCallsOf (List.take l.length (List.drop 0 l))).length + y)), (5, .nilS), (6, .lit .i64 0)], heap := [(1, .arr 35 Kd.cal (hCallsOf (List.take l.length (List.drop 0 l))) y), (0, .ro Kd.rcd l)], nx := 2, nt := 47, tl := [] : St V } (fun p => I30o p (0, 0)) y_1) (Out.all PLS fun y => Out.asm (y_1 y) (Out.all Nat fun y_2 => Out.asm ((fun x x_1 => True) y y_2) (Out.fin (.sl false 2 0 1 (ordTo y.l (hCallsOf y.l) (if hRight y.l = true then y.l.length else 0, y_2).fst).length ((ordTo y.l (hCallsOf y.l) (if hRight y.l = true then y.l.length else 0, y_2).fst).length + y_2)) [(2, .arr 3 Kd.int (ordTo y.l (hCallsOf y.l) (if hRight y.l = true then y.l.length else 0, y_2).fst) y_2), (1, .arr 35 Kd.cal (hCallsOf y.l) y.2), (0, .ro Kd.rcd y.l)] 3)))))))) := by kernel_rfl

end Sx
end Go.Proofs.Ytemcdjdglcceiaa

/-
  Witness: the order in which all took effect: what the functions do.
-/
namespace Go.Proofs.Ytemcdjdglcceiaa
namespace Sx
open Go
set_option linter.unusedSimpArgs false
set_option linter.unusedVariables false

theorem hooksW_ok : ∀ g H, hooksW g = some H → HookOk Try.prog g H := by
  intro g H h
  unfold hooksW at h
  split at h
  · cases h; exact hInts
  · cases h; exact hEvics
  · cases h; exact hEvicsRef
  · cases h; exact hWPlain
  · cases h; exact hWPlainRef
  · exact hooksU_ok _ _ h
theorem cfgW_ok : cfgW.ok := ⟨tab_met, kinds_met, mixed_met, fun g fn h => (by cases h), hooksW_ok⟩
theorem cfgW29_ok : cfgW29.ok := ⟨tab_met, kinds_met, mixed_met, fun g fn h => (by cases h), hooksW_ok⟩
theorem cfgW302_ok : cfgW302.ok := ⟨tab_met, kinds_met, mixed_met, fun g fn h => (by cases h), hooksW_ok⟩
theorem cfgW30_ok : cfgW30.ok := ⟨tab_met, kinds_met, mixed_met, fun g fn h => (by cases h), hooksW_ok⟩

theorem atMap_get (cs : List Cal) (i : Int) : ∀ n, mget (atMap cs n) i = if ordAt cs i n = -1 then none else some (ordAt cs i n)
  | 0 => rfl
  | n + 1 => by
    unfold atMap ordAt
    rw [mget_put, atMap_get cs i n]
    by_cases h : (cs.getD n c0).at_ = i
    · rw [if_pos h.symm, if_pos h, if_neg (by omega)]
    · rw [if_neg (fun e => h e.symm), if_neg h]
theorem ordTo_le (l : List Rec) (cs : List Cal) : ∀ n, (ordTo l cs n).length ≤ n
  | 0 => Nat.le_refl _
  | n + 1 => by
    unfold ordTo
    rw [List.length_append]
    have := ordTo_le l cs n
    split <;> simp <;> omega
theorem ord_get {l : List Rec} (T : Takes l (hCallsOf l)) {i : Nat} (hi : i < l.length) (hw : (l.getD i r0).what = 2) (hop : ¬ (l.getD i r0).op < 0) : (mget (atMap (hCallsOf l) (hCallsOf l).length) i).getD 0 = ordAt (hCallsOf l) i (hCallsOf l).length := by
  obtain ⟨j, h1, h2, h3⟩ := ord_there T hi hw hop
  rw [atMap_get, h2, if_neg (by omega)]; rfl

theorem wbody29 (p : PLS) (n : Nat) (hn : n ≤ (hCallsOf p.l).length) (Q : EX → St V → Prop) (F : AV → Heap V → Nat → Prop)
    (hnx : ∀ ST : St V, n < (hCallsOf p.l).length → Wk 3 [] ST (I29 p (n + 1)) → Q .nx ST) (hex : ∀ ST : St V, Wk 3 [] ST (E29 p) → Q (.ex 0) ST) :
    (runCode cfgW 60 29 (loopOf Try.f29 0) (I29 p n) (stopT (trimSt [0, 3, 14, 15, 16] [0, 1, 2]))).holds ⟨Q, F⟩ := by
  rw [w29]
  have hb := p.hb
  have hcl := calls_len p.l
  have hw : n < (hCallsOf p.l).length → IntKind.wrap .i64 ((n : Int) + 1) = ((n + 1 : Nat) : Int) := fun h => wrap_nat (by omega)
  have em : ∀ {a b : List (Int × Int)}, a = b → BSub (some (.mp .i64 Kd.int a : Blk V)) (.mp .i64 Kd.int b) := fun h => by rw [h]; exact .same _
  simp only [Out.holds, decide_eq_true_eq, decide_eq_false_iff_not, beq_iff_eq, beq_eq_false_iff_ne, bne_iff_ne, ne_eq, bne_eq_false_iff_eq, Bool.true_and, Bool.and_true, Bool.not_eq_true', Bool.not_eq_false', Bool.and_eq_true, Bool.or_eq_true, Bool.and_eq_false_imp, true_implies, true_and, Bool.not_true, Bool.not_false, Bool.false_eq_true, Bool.true_eq_false, false_implies, and_true, beq_self_eq_true, Decidable.not_not, not_true_eq_false, not_false_eq_true, Nat.zero_add]
  by_cases hlt : n < (hCallsOf p.l).length
  · refine ⟨fun _ => ⟨by omega, hlt, hnx _ hlt ?_⟩, fun h => absurd hlt (by omega)⟩
    (refine ⟨?_, ?_, rfl, tl_ok rfl, ?_, ⟨Nat.le_of_ble_eq_true rfl, rfl⟩⟩ <;> (repeat' first | with_reducible exact trivial | (exact AV.sub_int (hw hlt)) | (exact em rfl) | exact AV.sub_same _ | exact .same _ | exact .inr rfl | exact .inl (in_ok rfl) | exact AV.sub_lit' | exact AV.sub_nilS | exact .none _ _ | exact trivial | refine ⟨?_, ?_⟩))
  · have hn' : n = (hCallsOf p.l).length := by omega
    refine ⟨fun h => absurd h (by omega), fun h => hex _ ?_⟩
    (refine ⟨?_, ?_, rfl, tl_ok rfl, ?_, ⟨Nat.le_of_ble_eq_true rfl, rfl⟩⟩ <;> (repeat' first | with_reducible exact trivial | (exact em (by rw [hn'])) | exact AV.sub_same _ | exact .same _ | exact .inr rfl | exact .inl (in_ok rfl) | exact AV.sub_lit' | exact AV.sub_nilS | exact .none _ _ | exact trivial | refine ⟨?_, ?_⟩))
theorem wl29_ok : LoopOk Try.prog 0 (loopOf Try.f29 0) L29 := by
  refine trimLoop_ok (trim_ok _ _) (loopTH_ok (C := cfgW) cfgW_ok (f := 29) (n := 60) (trim_ok [0, 3, 14, 15, 16] [0, 1, 2]) 3 I29 (fun p n => n ≤ (hCallsOf p.l).length) (fun _ => 0) (fun p n => (hCallsOf p.l).length - n) (fun _ (_ : Unit) => True) (fun p _ => E29 p) (fun p => Nat.zero_le _) ?_)
  intro p n hn
  exact wbody29 p n hn _ _ (fun ST hlt hw => SImp.of_wk (n + 1) hw ⟨hlt, by omega⟩) (fun ST hw => ⟨rfl, SImp.of_wk (ren := []) () hw trivial⟩)

theorem wbody292 (p : PLT) (x : Nat × Nat) (hi : x.1 ≤ p.l.length) (Q : EX → St V → Prop) (F : AV → Heap V → Nat → Prop)
    (hnx : ∀ (ST : St V) (sp b : Nat), x.1 < p.l.length → Wk 3 [(3, b)] ST (I292 p (x.1 + 1, sp)) → Q .nx ST) (hex : ∀ ST : St V, x.1 = p.l.length → Wk 3 [(3, 3)] ST (I292 p x) → Q (.ex 2) ST) :
    (runCode cfgW 60 29 (loopOf Try.f29 2) (I292 p x) (stopT (trimSt [3, 6, 26, 27, 28] [0, 1, 2, 3, 4, 5, 6, 7]))).holds ⟨Q, F⟩ := by
  rw [w292]
  have hb := p.hb
  have T := p.T
  have hle := ordTo_le p.l (hCallsOf p.l) x.1
  have hw : x.1 < p.l.length → IntKind.wrap .i64 ((x.1 : Int) + 1) = ((x.1 + 1 : Nat) : Int) := fun h => wrap_nat (by omega)
  have hs : ordTo p.l (hCallsOf p.l) (x.1 + 1) = ordTo p.l (hCallsOf p.l) x.1 ++ if (p.l.getD x.1 r0).what = 2 then [ordAt (hCallsOf p.l) x.1 (hCallsOf p.l).length] else [] := rfl
  have blk : ∀ {a b : List Int} {s : Nat}, a = b → BSub (some (.arr 3 Kd.int a s : Blk V)) (.arr 3 Kd.int b s) := fun h => by rw [h]; exact .same _
  rw [show (0 + x.1) = x.1 from Nat.zero_add _, show p.l.getD x.1 (V.enc Kd.rcd).dflt = p.l.getD x.1 r0 from rfl, show (V.enc Kd.int).dflt = (0 : Int) from rfl]
  simp only [Out.holds, decide_eq_true_eq, decide_eq_false_iff_not, beq_iff_eq, beq_eq_false_iff_ne, bne_iff_ne, ne_eq, bne_eq_false_iff_eq, Bool.true_and, Bool.and_true, Bool.not_eq_true', Bool.not_eq_false', Bool.and_eq_true, Bool.or_eq_true, Bool.and_eq_false_imp, true_implies, true_and, Bool.not_true, Bool.not_false, Bool.false_eq_true, Bool.true_eq_false, false_implies, and_true, beq_self_eq_true, Decidable.not_not, not_true_eq_false, not_false_eq_true]
  by_cases hlt : x.1 < p.l.length
  · refine ⟨fun _ => ⟨by omega, hlt, fun h2 => hnx _ x.2 3 hlt ?_, fun h2 => ⟨fun h3 => ⟨by omega, fun y => hnx _ y 7 hlt ?_⟩, fun h3 => ⟨by omega, fun y => hnx _ y 7 hlt ?_⟩⟩⟩, fun h => absurd hlt (by omega)⟩
    · have e : ordTo p.l (hCallsOf p.l) (x.1 + 1) = ordTo p.l (hCallsOf p.l) x.1 := by rw [hs, if_neg h2, List.append_nil]
      (refine ⟨?_, ?_, rfl, tl_ok rfl, ?_, ⟨Nat.le_of_ble_eq_true rfl, rfl⟩⟩ <;> (repeat' first | with_reducible exact trivial | (exact AV.sub_int (hw hlt)) | (exact AV.sub_sl (by rw [e]) (by rw [e])) | (exact blk e.symm) | exact AV.sub_same _ | exact .same _ | exact .inr rfl | exact .inl (in_ok rfl) | exact AV.sub_lit' | exact AV.sub_nilS | exact .none _ _ | exact trivial | refine ⟨?_, ?_⟩))
    · have e : ordTo p.l (hCallsOf p.l) (x.1 + 1) = ordTo p.l (hCallsOf p.l) x.1 ++ [-1] := by rw [hs, if_pos h2, ord_gone T hlt h3]
      have el : (ordTo p.l (hCallsOf p.l) x.1).length + 1 = (ordTo p.l (hCallsOf p.l) (x.1 + 1)).length := by rw [e]; simp
      (refine ⟨?_, ?_, rfl, tl_ok rfl, ?_, ⟨Nat.le_of_ble_eq_true rfl, rfl⟩⟩ <;> (repeat' first | with_reducible exact trivial | (exact AV.sub_int (hw hlt)) | (exact AV.sub_sl el (by rw [el])) | (exact blk e.symm) | exact AV.sub_same _ | exact .same _ | exact .inr rfl | exact .inl (in_ok rfl) | exact AV.sub_lit' | exact AV.sub_nilS | exact .none _ _ | exact trivial | refine ⟨?_, ?_⟩))
    · have e : ordTo p.l (hCallsOf p.l) (x.1 + 1) = ordTo p.l (hCallsOf p.l) x.1 ++ [(mget (atMap (hCallsOf p.l) (hCallsOf p.l).length) x.1).getD 0] := by rw [hs, if_pos h2, ord_get T hlt h2 (by omega)]
      have el : (ordTo p.l (hCallsOf p.l) x.1).length + 1 = (ordTo p.l (hCallsOf p.l) (x.1 + 1)).length := by rw [e]; simp
      (refine ⟨?_, ?_, rfl, tl_ok rfl, ?_, ⟨Nat.le_of_ble_eq_true rfl, rfl⟩⟩ <;> (repeat' first | with_reducible exact trivial | (exact AV.sub_int (hw hlt)) | (exact AV.sub_sl el (by rw [el])) | (exact blk e.symm) | exact AV.sub_same _ | exact .same _ | exact .inr rfl | exact .inl (in_ok rfl) | exact AV.sub_lit' | exact AV.sub_nilS | exact .none _ _ | exact trivial | refine ⟨?_, ?_⟩))
  · exact ⟨fun h => absurd h (by omega), fun h => hex _ (by omega) (by (refine ⟨?_, ?_, rfl, tl_ok rfl, ?_, ⟨Nat.le_of_ble_eq_true rfl, rfl⟩⟩ <;> (repeat' first | with_reducible exact trivial | exact AV.sub_same _ | exact .same _ | exact .inr rfl | exact .inl (in_ok rfl) | exact AV.sub_lit' | exact AV.sub_nilS | exact .none _ _ | exact trivial | refine ⟨?_, ?_⟩)))⟩
theorem wl292_ok : LoopOk Try.prog 2 (loopOf Try.f29 2) L292 := by
  refine trimLoop_ok (trim_ok _ _) (loopTH_ok (C := cfgW) cfgW_ok (f := 29) (n := 60) (trim_ok [3, 6, 26, 27, 28] [0, 1, 2, 3, 4, 5, 6, 7]) 3 I292 (fun p x => x.1 ≤ p.l.length) (fun _ => (0, 0)) (fun p x => p.l.length - x.1) (fun _ (_ : Nat) => True) (fun p sp => I292 p (p.l.length, sp)) (fun p => Nat.zero_le _) ?_)
  intro p x hi
  refine wbody292 p x hi _ _ (fun ST sp b hlt hw => SImp.of_wk (x.1 + 1, sp) hw ⟨hlt, ?_⟩) (fun ST he hw => ⟨rfl, SImp.of_wk (ren := [(3, 3)]) x.2 ?_ trivial⟩)
  · show p.l.length - (x.1 + 1) < p.l.length - x.1; omega
  · obtain ⟨i, x⟩ := x; simp only at he; subst he; exact hw
def runOrder : RunFree V := fun ar K => match ar with
  | [.rows .rcd l c] => .need (l.length ≤ 1099511627776 ∧ ∀ r ∈ l, r.op < 9223372036854775808) (.all Nat fun sp => K (.sl false 0 0 1 (wOrder l).length ((wOrder l).length + sp)) [.arr 3 Kd.int (wOrder l) sp])
  | _ => .bad 500
theorem hOrder : HookOk Try.prog 29 (hookFree [.rows Kd.rcd] runOrder) := by
  refine free_hook (C := cfgW29) cfgW29_ok (n := 60) (fn := Try.f29) ⟨by kernel_rfl, by kernel_rfl⟩ (by kernel_rfl) ?_
  intro M ar K0 H
  unfold runOrder at H
  split at H
  · rename_i l c
    obtain ⟨⟨hb, hl⟩, H1⟩ := H
    refine ⟨show 1 ≤ _ by decide +kernel, ?_⟩
    show (runF cfgW29 60 29 Try.f29 [.sl false 0 0 8 l.length c] [(0, .ro Kd.rcd l)] 1).holds _
    rw [wt29]
    rw [show List.take l.length (List.drop 0 l) = l from List.take_length ..]
    refine ⟨by omega, by omega, fun h => ?_, fun h => ⟨by omega, by omega, fun y => ⟨wl29_ok, fun q => q = ⟨⟨l, c, hb⟩, y⟩, ⟨Nat.le_refl _, SImp.of_wk (ren := []) ⟨⟨l, c, hb⟩, y⟩ (by (refine ⟨?_, ?_, rfl, tl_ok rfl, ?_, ⟨Nat.le_of_ble_eq_true rfl, rfl⟩⟩ <;> (repeat' first | with_reducible exact trivial | exact AV.sub_same _ | exact .same _ | exact .inr rfl | exact .inl (in_ok rfl) | exact AV.sub_lit' | exact AV.sub_nilS | exact .none _ _ | exact trivial | refine ⟨?_, ?_⟩))) rfl⟩, ?_⟩⟩⟩
    · have e : wOrder l = [] := by unfold wOrder; rw [show hRight l = false by simpa using h]; rfl
      have h0 := H1 0
      rw [e] at h0
      exact ⟨_, _, h0, _, HImp.refl _ _, ⟨⟨fun _ => 99, ⟨.none _ _, trivial⟩, AV.sub_nilS⟩, rfl, rfl⟩⟩
    have hr : hRight l = true := by simpa using h
    have e : wOrder l = ordTo l (hCallsOf l) l.length := by unfold wOrder; rw [if_pos hr]
    rintro _ rfl _ _
    refine ⟨wl292_ok, fun q => q = ⟨⟨l, c, hb⟩, takes hl hr⟩, ⟨Nat.le_refl _, SImp.of_wk (ren := [(3, 99)]) ⟨⟨l, c, hb⟩, takes hl hr⟩ (by (refine ⟨?_, ?_, rfl, tl_ok rfl, ?_, ⟨Nat.le_of_ble_eq_true rfl, rfl⟩⟩ <;> (repeat' first | with_reducible exact trivial | exact AV.sub_same _ | exact .same _ | exact .inr rfl | exact .inl (in_ok rfl) | exact AV.sub_lit' | exact AV.sub_nilS | exact .none _ _ | exact trivial | refine ⟨?_, ?_⟩))) rfl⟩, ?_⟩
    rintro _ rfl sp _
    have h0 := H1 sp
    rw [e] at h0
    exact ⟨_, _, h0, _, HImp.refl _ _, ⟨⟨fun _ => 3, ⟨.same _, trivial⟩, AV.sub_same _⟩, rfl, rfl⟩⟩
  · exact H.elim

/-! ## the document's -/
theorem wbody302 (q : PRO) (k : Nat) (hk : k ≤ (hCallsOf q.l).length) (Q : EX → St V → Prop) (F : AV → Heap V → Nat → Prop)
    (hnx : ∀ ST : St V, k < (hCallsOf q.l).length → Wk 3 [] ST (I302 q (k + 1)) → Q .nx ST) (hex : ∀ ST : St V, k = (hCallsOf q.l).length → Wk 3 [] ST (I302 q k) → Q (.ex 2) ST) :
    (runCode cfgW 60 30 (loopOf Try.f30 2) (I302 q k) (stopT (trimSt [0, 3, 4, 5, 6, 7, 8] [0, 1, 2]))).holds ⟨Q, F⟩ := by
  rw [w302]
  have hb := q.hb
  have hcl := calls_len q.l
  have hw : k < (hCallsOf q.l).length → IntKind.wrap .i64 ((k : Int) + 1) = ((k + 1 : Nat) : Int) := fun h => wrap_nat (by omega)
  have hs : ordAt (hCallsOf q.l) q.i (k + 1) = if ((hCallsOf q.l).getD k c0).at_ = q.i then (k : Int) else ordAt (hCallsOf q.l) q.i k := rfl
  rw [show (0 + k) = k from Nat.zero_add _, show (hCallsOf q.l).getD k (V.enc Kd.cal).dflt = (hCallsOf q.l).getD k c0 from rfl]
  simp only [Out.holds, decide_eq_true_eq, decide_eq_false_iff_not, beq_iff_eq, beq_eq_false_iff_ne, bne_iff_ne, ne_eq, bne_eq_false_iff_eq, Bool.true_and, Bool.and_true, Bool.not_eq_true', Bool.not_eq_false', Bool.and_eq_true, Bool.or_eq_true, Bool.and_eq_false_imp, true_implies, true_and, Bool.not_true, Bool.not_false, Bool.false_eq_true, Bool.true_eq_false, false_implies, and_true, beq_self_eq_true, Decidable.not_not, not_true_eq_false, not_false_eq_true]
  by_cases hlt : k < (hCallsOf q.l).length
  · refine ⟨fun _ => ⟨by omega, hlt, fun h => hnx _ hlt ?_, fun h => hnx _ hlt ?_⟩, fun h => absurd hlt (by omega)⟩
    · rw [if_pos h] at hs
      (refine ⟨?_, ?_, rfl, tl_ok rfl, ?_, ⟨Nat.le_of_ble_eq_true rfl, rfl⟩⟩ <;> (repeat' first | with_reducible exact trivial | (exact AV.sub_int (hw hlt)) | (exact AV.sub_int hs.symm) | exact AV.sub_same _ | exact .same _ | exact .inr rfl | exact .inl (in_ok rfl) | exact AV.sub_lit' | exact AV.sub_nilS | exact .none _ _ | exact trivial | refine ⟨?_, ?_⟩))
    · rw [if_neg h] at hs
      (refine ⟨?_, ?_, rfl, tl_ok rfl, ?_, ⟨Nat.le_of_ble_eq_true rfl, rfl⟩⟩ <;> (repeat' first | with_reducible exact trivial | (exact AV.sub_int (hw hlt)) | (exact AV.sub_int hs.symm) | exact AV.sub_same _ | exact .same _ | exact .inr rfl | exact .inl (in_ok rfl) | exact AV.sub_lit' | exact AV.sub_nilS | exact .none _ _ | exact trivial | refine ⟨?_, ?_⟩))
  · exact ⟨fun h => absurd h (by omega), fun h => hex _ (by omega) (by (refine ⟨?_, ?_, rfl, tl_ok rfl, ?_, ⟨Nat.le_of_ble_eq_true rfl, rfl⟩⟩ <;> (repeat' first | with_reducible exact trivial | exact AV.sub_same _ | exact .same _ | exact .inr rfl | exact .inl (in_ok rfl) | exact AV.sub_lit' | exact AV.sub_nilS | exact .none _ _ | exact trivial | refine ⟨?_, ?_⟩)))⟩
theorem wl302_ok : LoopOk Try.prog 2 (loopOf Try.f30 2) L302 := by
  refine trimLoop_ok (trim_ok _ _) (loopTH_ok (C := cfgW) cfgW_ok (f := 30) (n := 60) (trim_ok [0, 3, 4, 5, 6, 7, 8] [0, 1, 2]) 3 I302 (fun q k => k ≤ (hCallsOf q.l).length) (fun _ => 0) (fun q k => (hCallsOf q.l).length - k) (fun _ (_ : Unit) => True) (fun q _ => I302 q (hCallsOf q.l).length) (fun q => Nat.zero_le _) ?_)
  intro q k hk
  exact wbody302 q k hk _ _ (fun ST hlt hw => SImp.of_wk (k + 1) hw ⟨hlt, by omega⟩) (fun ST he hw => ⟨rfl, SImp.of_wk (ren := []) () (by subst he; exact hw) trivial⟩)
theorem wbody30 (p : PLS) (x : Nat × Nat) (hi : x.1 ≤ p.l.length) (Q : EX → St V → Prop) (F : AV → Heap V → Nat → Prop)
    (hnx : ∀ (ST : St V) (sp b : Nat), x.1 < p.l.length → hRight p.l = true → Wk 2 [(2, b)] ST (I30o p (x.1 + 1, sp)) → Q .nx ST) (hex : ∀ ST : St V, x.1 = p.l.length ∨ hRight p.l = false → Wk 2 [(2, 2)] ST (I30o p x) → Q (.ex 0) ST) :
    (runCode cfgW302 60 30 (loopOf Try.f30 0) (I30o p x) (stopT (trimSt [0, 3, 4, 5, 6] [0, 1, 2, 3, 4, 5, 6, 7]))).holds ⟨Q, F⟩ := by
  rw [w30]
  have hb := p.hb
  have hle := ordTo_le p.l (hCallsOf p.l) x.1
  have hw : x.1 < p.l.length → IntKind.wrap .i64 ((x.1 : Int) + 1) = ((x.1 + 1 : Nat) : Int) := fun h => wrap_nat (by omega)
  have hs : ordTo p.l (hCallsOf p.l) (x.1 + 1) = ordTo p.l (hCallsOf p.l) x.1 ++ if (p.l.getD x.1 r0).what = 2 then [ordAt (hCallsOf p.l) x.1 (hCallsOf p.l).length] else [] := rfl
  have blk : ∀ {a b : List Int} {s : Nat}, a = b → BSub (some (.arr 3 Kd.int a s : Blk V)) (.arr 3 Kd.int b s) := fun h => by rw [h]; exact .same _
  rw [show (0 + x.1) = x.1 from Nat.zero_add _, show p.l.getD x.1 (V.enc Kd.rcd).dflt = p.l.getD x.1 r0 from rfl]
  simp only [Out.holds, decide_eq_true_eq, decide_eq_false_iff_not, beq_iff_eq, beq_eq_false_iff_ne, bne_iff_ne, ne_eq, bne_eq_false_iff_eq, Bool.true_and, Bool.and_true, Bool.not_eq_true', Bool.not_eq_false', Bool.and_eq_true, Bool.or_eq_true, Bool.and_eq_false_imp, true_implies, true_and, Bool.not_true, Bool.not_false, Bool.false_eq_true, Bool.true_eq_false, false_implies, and_true, beq_self_eq_true, Decidable.not_not, not_true_eq_false, not_false_eq_true]
  by_cases hlt : x.1 < p.l.length
  · refine ⟨fun _ => ⟨fun hr => ⟨by omega, hlt, fun h2 => hnx _ x.2 2 hlt hr ?_, fun h2 => ⟨wl302_ok, fun q => q = ⟨p, x.1, x.2, hlt, hr⟩, ⟨Nat.le_refl _, SImp.of_wk (ren := []) ⟨p, x.1, x.2, hlt, hr⟩ (by (refine ⟨?_, ?_, rfl, tl_ok rfl, ?_, ⟨Nat.le_of_ble_eq_true rfl, rfl⟩⟩ <;> (repeat' first | with_reducible exact trivial | (exact AV.sub_lit') | exact AV.sub_same _ | exact .same _ | exact .inr rfl | exact .inl (in_ok rfl) | exact AV.sub_lit' | exact AV.sub_nilS | exact .none _ _ | exact trivial | refine ⟨?_, ?_⟩))) rfl⟩, ?_⟩⟩, fun hr => hex _ (.inr hr) (by (refine ⟨?_, ?_, rfl, tl_ok rfl, ?_, ⟨Nat.le_of_ble_eq_true rfl, rfl⟩⟩ <;> (repeat' first | with_reducible exact trivial | exact AV.sub_same _ | exact .same _ | exact .inr rfl | exact .inl (in_ok rfl) | exact AV.sub_lit' | exact AV.sub_nilS | exact .none _ _ | exact trivial | refine ⟨?_, ?_⟩)))⟩, fun h => absurd hlt (by omega)⟩
    · have e : ordTo p.l (hCallsOf p.l) (x.1 + 1) = ordTo p.l (hCallsOf p.l) x.1 := by rw [hs, if_neg h2, List.append_nil]
      (refine ⟨?_, ?_, rfl, tl_ok rfl, ?_, ⟨Nat.le_of_ble_eq_true rfl, rfl⟩⟩ <;> (repeat' first | with_reducible exact trivial | (exact AV.sub_int (hw hlt)) | (exact AV.sub_sl (by rw [e]) (by rw [e])) | (exact blk e.symm) | exact AV.sub_same _ | exact .same _ | exact .inr rfl | exact .inl (in_ok rfl) | exact AV.sub_lit' | exact AV.sub_nilS | exact .none _ _ | exact trivial | refine ⟨?_, ?_⟩))
    · rintro _ rfl _
      dsimp only
      refine ⟨by omega, fun y => hnx _ y 4 hlt hr ?_⟩
      have e : ordTo p.l (hCallsOf p.l) (x.1 + 1) = ordTo p.l (hCallsOf p.l) x.1 ++ [ordAt (hCallsOf p.l) x.1 (hCallsOf p.l).length] := by rw [hs, if_pos h2]
      have el : (ordTo p.l (hCallsOf p.l) x.1).length + 1 = (ordTo p.l (hCallsOf p.l) (x.1 + 1)).length := by rw [e]; simp
      (refine ⟨?_, ?_, rfl, tl_ok rfl, ?_, ⟨Nat.le_of_ble_eq_true rfl, rfl⟩⟩ <;> (repeat' first | with_reducible exact trivial | (exact AV.sub_int (hw hlt)) | (exact AV.sub_sl el (by rw [el])) | (exact blk e.symm) | exact AV.sub_same _ | exact .same _ | exact .inr rfl | exact .inl (in_ok rfl) | exact AV.sub_lit' | exact AV.sub_nilS | exact .none _ _ | exact trivial | refine ⟨?_, ?_⟩))
  · exact ⟨fun h => absurd h (by omega), fun h => hex _ (by omega) (by (refine ⟨?_, ?_, rfl, tl_ok rfl, ?_, ⟨Nat.le_of_ble_eq_true rfl, rfl⟩⟩ <;> (repeat' first | with_reducible exact trivial | exact AV.sub_same _ | exact .same _ | exact .inr rfl | exact .inl (in_ok rfl) | exact AV.sub_lit' | exact AV.sub_nilS | exact .none _ _ | exact trivial | refine ⟨?_, ?_⟩)))⟩
theorem wl30_ok : LoopOk Try.prog 0 (loopOf Try.f30 0) L30o := by
  refine trimLoop_ok (trim_ok _ _) (loopTH_ok (C := cfgW302) cfgW302_ok (f := 30) (n := 60) (trim_ok [0, 3, 4, 5, 6] [0, 1, 2, 3, 4, 5, 6, 7]) 2 I30o (fun p x => x.1 ≤ p.l.length ∧ (hRight p.l = true ∨ x.1 = 0)) (fun _ => (0, 0)) (fun p x => p.l.length - x.1) (fun _ (_ : Nat) => True) (fun p s => I30o p (if hRight p.l then p.l.length else 0, s)) (fun p => ⟨Nat.zero_le _, .inr rfl⟩) ?_)
  intro p x ⟨hi, hr⟩
  refine wbody30 p x hi _ _ (fun ST sp b hlt hr hw => SImp.of_wk (x.1 + 1, sp) hw ⟨⟨hlt, .inl hr⟩, ?_⟩) (fun ST he hw => ⟨rfl, SImp.of_wk (ren := [(2, 2)]) x.2 ?_ trivial⟩)
  · show p.l.length - (x.1 + 1) < p.l.length - x.1; omega
  · have e : x.1 = if hRight p.l then p.l.length else 0 := by
      cases h : hRight p.l with
      | true => rw [h] at he; simpa using he
      | false => rw [h] at hr; simpa using hr
    obtain ⟨i, x⟩ := x; simp only at e; subst e; exact hw
theorem hOrderRef : HookOk Try.prog 30 (hookFree [.rows Kd.rcd] runOrder) := by
  refine free_hook (C := cfgW30) cfgW30_ok (n := 60) (fn := Try.f30) ⟨by kernel_rfl, by kernel_rfl⟩ (by kernel_rfl) ?_
  intro M ar K0 H
  unfold runOrder at H
  split at H
  · rename_i l c
    obtain ⟨⟨hb, hl⟩, H1⟩ := H
    refine ⟨show 1 ≤ _ by decide +kernel, ?_⟩
    show (runF cfgW30 60 30 Try.f30 [.sl false 0 0 8 l.length c] [(0, .ro Kd.rcd l)] 1).holds _
    rw [wt30]
    rw [show List.take l.length (List.drop 0 l) = l from List.take_length ..]
    refine ⟨by omega, by omega, by omega, ⟨by omega, hl⟩, fun y => ⟨wl30_ok, fun q => q = ⟨⟨l, c, hb⟩, y⟩, ⟨Nat.le_refl _, SImp.of_wk (ren := [(2, 99)]) ⟨⟨l, c, hb⟩, y⟩ (by (refine ⟨?_, ?_, rfl, tl_ok rfl, ?_, ⟨Nat.le_of_ble_eq_true rfl, rfl⟩⟩ <;> (repeat' first | with_reducible exact trivial | exact AV.sub_same _ | exact .same _ | exact .inr rfl | exact .inl (in_ok rfl) | exact AV.sub_lit' | exact AV.sub_nilS | exact .none _ _ | exact trivial | refine ⟨?_, ?_⟩))) rfl⟩, ?_⟩⟩
    have e : wOrder l = ordTo l (hCallsOf l) (if hRight l then l.length else 0) := by unfold wOrder; split <;> rfl
    rintro _ rfl sp _
    have h0 := H1 sp
    rw [e] at h0
    exact ⟨_, _, h0, _, HImp.refl _ _, ⟨⟨fun _ => 2, ⟨.same _, trivial⟩, AV.sub_same _⟩, rfl, rfl⟩⟩
  · exact H.elim

end Sx
end Go.Proofs.Ytemcdjdglcceiaa

/-
  Witness: what respects an order: the runs of the machine.
-/
namespace Go.Proofs.Ytemcdjdglcceiaa
namespace Sx
open Go
set_option maxRecDepth 100000
set_option linter.unusedVariables false

def hooksX : Nat → Option (HookS V) := fun g => match g with
  | 29 => some (hookFree [.rows Kd.rcd] runOrder)
  | 30 => some (hookFree [.rows Kd.rcd] runOrder)
  | g => hooksW g
noncomputable def fnsX : Nat → Option Func := fun g => match g with | 46 => some Try.f46 | 57 => some Try.f57 | 45 => some Try.f45 | 51 => some Try.f51 | 58 => some Try.f58 | 49 => some Try.f49 | 50 => some Try.f50 | _ => none
noncomputable def cfgX : Cfg Try.prog V := ⟨tab, kinds, fnsX, hooksX, fun _ _ => none⟩
structure PRS where
  cs : List Cal
  c : Nat
  o : List Int
  co : Nat
  hb : cs.length ≤ 1099511627776
  hbo : o.length ≤ 1099511627776
structure PIN extends PRS where
  i : Nat
  a : List Int
  sp : Nat
  hi : i < o.length
  hk : 0 ≤ o.getD i 0 ∧ o.getD i 0 < (cs.length : Int)
  ha : a.length ≤ i
  hin : ∀ x ∈ a, 0 ≤ x ∧ x < (cs.length : Int)
def I57 (q : PIN) (j : Nat) : St V := ⟨[(0, .sl false 3 0 1 q.a.length (q.a.length + q.sp)), (1, .fn 45 [] [.ptr 4 0, .ptr 2 0]), (6, .sl false 3 0 1 q.a.length (q.a.length + q.sp)), (7, .int .i64 (q.a.length : Int)), (8, .int .i64 (j : Int))],
  [(4, .cells 3 [.int .i64 (q.o.getD q.i 0)]), (3, .arr 3 Kd.int q.a q.sp), (2, .cells 31 [.sl false 0 0 5 q.cs.length q.c]), (0, .ro Kd.cal q.cs), (1, .ro Kd.int q.o)], 6, 19, TQ⟩
def R57 (q : PIN) (j : Nat) : St V := ⟨[(4, .int .i64 (j : Int))],
  [(4, .cells 3 [.int .i64 (q.o.getD q.i 0)]), (3, .arr 3 Kd.int q.a q.sp), (2, .cells 31 [.sl false 0 0 5 q.cs.length q.c]), (0, .ro Kd.cal q.cs), (1, .ro Kd.int q.o)], 6, 19, TQ⟩
def L57 : LoopS V := trimLoop (trimSt [0, 1, 6, 7, 8] [0, 1, 2, 3, 4]) (loopG 6 (fun q : PIN => I57 q 0) (fun q (_ : Unit) => q.a.any (late q.cs (q.o.getD q.i 0)) = false) (fun q _ => I57 q q.a.length) (fun q (_ : Nat) => q.a.any (late q.cs (q.o.getD q.i 0)) = true) (fun q j => R57 q j))
noncomputable def cfgX57 : Cfg Try.prog V := ⟨tab, kinds, fnsX, hooksX, fun g id => match g, id with | 57, 0 => some L57 | _, _ => none⟩
def I31 (p : PRS) (x : Nat × List Int × Nat) : St V := ⟨[(2, .ptr 2 0), (5, .sl false 3 0 1 x.2.1.length (x.2.1.length + x.2.2)), (9, .sl false 1 0 1 p.o.length p.co), (10, .int .i64 (p.o.length : Int)), (11, .int .i64 (x.1 : Int))],
  [(3, .arr 3 Kd.int x.2.1 x.2.2), (2, .cells 31 [.sl false 0 0 5 p.cs.length p.c]), (0, .ro Kd.cal p.cs), (1, .ro Kd.int p.o)], 4, 38, TQ⟩
def E31 (p : PRS) : St V := ⟨[], [(0, .ro Kd.cal p.cs), (1, .ro Kd.int p.o)], 4, 38, TQ⟩
def R31 (p : PRS) : St V := ⟨[(4, .ff)], [(0, .ro Kd.cal p.cs), (1, .ro Kd.int p.o)], 4, 38, TQ⟩
def L31 : LoopS V := trimLoop (trimSt [2, 5, 9, 10, 11] [0, 1, 2]) (loopG 3 (fun p : PRS => I31 p (0, [], 0)) (fun p (_ : Unit) => wResp p.cs p.o = true) (fun p _ => E31 p) (fun p (_ : Unit) => wResp p.cs p.o = false) (fun p _ => R31 p))
noncomputable def cfgX31 : Cfg Try.prog V := ⟨tab, kinds, fun _ => none, hooksX, fun g id => match g, id with | 31, 0 => some L31 | _, _ => none⟩
structure PIR extends PRS where
  i : Nat
  hi : i < o.length
  hk : 0 ≤ o.getD i 0 ∧ o.getD i 0 < (cs.length : Int)
def lateR (cs : List Cal) (k j : Int) : Bool := decide (j = k) || (decide (0 ≤ j) && decide (j < (cs.length : Int)) && hBefore (cs.getD k.toNat c0) (cs.getD j.toNat c0))
def I322 (q : PIR) (k : Nat) : St V := ⟨[(0, .sl false 0 0 5 q.cs.length q.c), (1, .sl false 1 0 1 q.o.length q.co), (5, .int .i64 (q.i : Int)), (6, .int .i64 (k : Int))], [(0, .ro Kd.cal q.cs), (1, .ro Kd.int q.o)], 2, 77, TQ⟩
def R32 (p : PRS) : St V := ⟨[(4, .ff)], [(0, .ro Kd.cal p.cs), (1, .ro Kd.int p.o)], 2, 77, TQ⟩
def L322 : LoopS V := trimLoop (trimSt [0, 1, 5, 6] [0, 1]) (loopG 2 (fun q : PIR => I322 q 0) (fun q (_ : Unit) => (q.o.take q.i).any (lateR q.cs (q.o.getD q.i 0)) = false) (fun q _ => I322 q q.i) (fun q (_ : Unit) => (q.o.take q.i).any (lateR q.cs (q.o.getD q.i 0)) = true) (fun q _ => R32 q.toPRS))
noncomputable def cfgX322 : Cfg Try.prog V := ⟨tab, kinds, fun _ => none, hooksX, fun g id => match g, id with | 32, 2 => some L322 | _, _ => none⟩
def I320 (p : PRS) (i : Nat) : St V := ⟨[(0, .sl false 0 0 5 p.cs.length p.c), (1, .sl false 1 0 1 p.o.length p.co), (5, .int .i64 (i : Int))], [(0, .ro Kd.cal p.cs), (1, .ro Kd.int p.o)], 2, 77, TQ⟩
def L320 : LoopS V := trimLoop (trimSt [0, 1, 5] [0, 1]) (loopG 2 (fun p : PRS => I320 p 0) (fun p (_ : Unit) => wResp p.cs p.o = true) (fun p _ => I320 p p.o.length) (fun p (_ : Unit) => wResp p.cs p.o = false) (fun p _ => R32 p))
noncomputable def cfgX320 : Cfg Try.prog V := ⟨tab, kinds, fun _ => none, hooksX, fun g id => match g, id with | 32, 0 => some L320 | _, _ => none⟩
theorem w57 (q : PIN) (j : Nat) : runCode cfgX 60 57 (loopOf Try.f57 0) (I57 q j) (stopT (trimSt [0, 1, 4, 6, 7, 8] [0, 1, 2, 3, 4])) = Out.ite (decide ((↑j : Int) < (↑q.a.length : Int))) (Out.need (0 ≤ (↑j : Int) ∧ (↑j : Int) < (↑q.a.length : Int)) (Out.need (0 + j < q.a.length) (Out.ite (q.a.getD (0 + j) (V.enc Kd.int).dflt == q.o.getD q.2 0) (Out.stop EX.rt {env := [(0, .sl false 3 0 1 q.a.length (q.a.length + q.4)), (1, .fn 45 [] [.ptr 4 0, .ptr 2 0]), (4, .int .i64 (↑j : Int)), (6, .sl false 3 0 1 q.a.length (q.a.length + q.4)), (7, .int .i64 (↑q.a.length : Int)), (8, .int .i64 (↑j : Int))], heap := [(4, .cells 3 [.int .i64 (q.o.getD q.2 0)]), (3, .arr 3 Kd.int q.a q.4), (2, .cells 31 [.sl false 0 0 5 q.cs.length q.toPRS.2]), (0, .ro Kd.cal q.cs), (1, .ro Kd.int q.o)], nx := 6, nt := 19, tl := [0, 1, 2, 3, 4, 5, 6, 7, 8, 9, 10, 11, 12, 13, 14, 15, 16] : St V }) (Out.need (0 ≤ q.o.getD q.2 0 ∧ q.o.getD q.2 0 < (↑q.cs.length : Int)) (Out.need (0 + (q.o.getD q.2 0).toNat < q.cs.length) (Out.need (0 ≤ q.a.getD (0 + j) (V.enc Kd.int).dflt ∧ q.a.getD (0 + j) (V.enc Kd.int).dflt < (↑q.cs.length : Int)) (Out.need (0 + Int.toNat (q.a.getD (0 + j) (V.enc Kd.int).dflt) < q.cs.length) (Out.ite (hBefore {thread := (q.cs.getD (0 + (q.o.getD q.2 0).toNat) (V.enc Kd.cal).dflt).thread, op := (q.cs.getD (0 + (q.o.getD q.2 0).toNat) (V.enc Kd.cal).dflt).op, frm := (q.cs.getD (0 + (q.o.getD q.2 0).toNat) (V.enc Kd.cal).dflt).frm, at_ := (q.cs.getD (0 + (q.o.getD q.2 0).toNat) (V.enc Kd.cal).dflt).at_, to_ := (q.cs.getD (0 + (q.o.getD q.2 0).toNat) (V.enc Kd.cal).dflt).to_ : Cal } {thread := (q.cs.getD (0 + Int.toNat (q.a.getD (0 + j) (V.enc Kd.int).dflt)) (V.enc Kd.cal).dflt).thread, op := (q.cs.getD (0 + Int.toNat (q.a.getD (0 + j) (V.enc Kd.int).dflt)) (V.enc Kd.cal).dflt).op, frm := (q.cs.getD (0 + Int.toNat (q.a.getD (0 + j) (V.enc Kd.int).dflt)) (V.enc Kd.cal).dflt).frm, at_ := (q.cs.getD (0 + Int.toNat (q.a.getD (0 + j) (V.enc Kd.int).dflt)) (V.enc Kd.cal).dflt).at_, to_ := (q.cs.getD (0 + Int.toNat (q.a.getD (0 + j) (V.enc Kd.int).dflt)) (V.enc Kd.cal).dflt).to_ : Cal }) (Out.stop EX.rt {env := [(0, .sl false 3 0 1 q.a.length (q.a.length + q.4)), (1, .fn 45 [] [.ptr 4 0, .ptr 2 0]), (4, .int .i64 (↑j : Int)), (6, .sl false 3 0 1 q.a.length (q.a.length + q.4)), (7, .int .i64 (↑q.a.length : Int)), (8, .int .i64 (↑j : Int))], heap := [(4, .cells 3 [.int .i64 (q.o.getD q.2 0)]), (3, .arr 3 Kd.int q.a q.4), (2, .cells 31 [.sl false 0 0 5 q.cs.length q.toPRS.2]), (0, .ro Kd.cal q.cs), (1, .ro Kd.int q.o)], nx := 6, nt := 19, tl := [0, 1, 2, 3, 4, 5, 6, 7, 8, 9, 10, 11, 12, 13, 14, 15, 16] : St V }) (Out.stop EX.nx {env := [(0, .sl false 3 0 1 q.a.length (q.a.length + q.4)), (1, .fn 45 [] [.ptr 4 0, .ptr 2 0]), (4, .und), (6, .sl false 3 0 1 q.a.length (q.a.length + q.4)), (7, .int .i64 (↑q.a.length : Int)), (8, .int .i64 (IntKind.i64.wrap ((↑j : Int) + 1)))], heap := [(4, .cells 3 [.int .i64 (q.o.getD q.2 0)]), (3, .arr 3 Kd.int q.a q.4), (2, .cells 31 [.sl false 0 0 5 q.cs.length q.toPRS.2]), (0, .ro Kd.cal q.cs), (1, .ro Kd.int q.o)], nx := 6, nt := 19, tl := [0, 1, 2, 3, 4, 5, 6, 7, 8, 9, 10, 11, 12, 13, 14, 15, 16] : St V }))))))))) (Out.stop (EX.ex 0) {env := [(0, .sl false 3 0 1 q.a.length (q.a.length + q.4)), (1, .fn 45 [] [.ptr 4 0, .ptr 2 0]), (4, .und), (6, .sl false 3 0 1 q.a.length (q.a.length + q.4)), (7, .int .i64 (↑q.a.length : Int)), (8, .int .i64 (↑j : Int))], heap := [(4, .cells 3 [.int .i64 (q.o.getD q.2 0)]), (3, .arr 3 Kd.int q.a q.4), (2, .cells 31 [.sl false 0 0 5 q.cs.length q.toPRS.2]), (0, .ro Kd.cal q.cs), (1, .ro Kd.int q.o)], nx := 6, nt := 19, tl := [0, 1, 2, 3, 4, 5, 6, 7, 8, 9, 10, 11, 12, 13, 14, 15, 16] : St V }) := by kernel_rfl

theorem w31 (p : PRS) (x : Nat × List Int × Nat) : runCode cfgX57 60 31 (loopOf Try.f31 0) (I31 p x) (stopT (trimSt [2, 4, 5, 9, 10, 11] [0, 1, 2, 3, 4, 5, 6, 7, 8, 9])) = Out.ite (decide ((↑x.1 : Int) < (↑p.o.length : Int))) (Out.need (0 ≤ (↑x.1 : Int) ∧ (↑x.1 : Int) < (↑p.o.length : Int)) (Out.need (0 + x.1 < p.o.length) (Out.ite (p.o.getD (0 + x.1) (V.enc Kd.int).dflt == -1) (Out.stop EX.nx {env := [(2, .ptr 2 0), (4, .und), (5, .sl false 3 0 1 x.snd.fst.length (x.snd.fst.length + x.snd.2)), (9, .sl false 1 0 1 p.o.length p.4), (10, .int .i64 (↑p.o.length : Int)), (11, .int .i64 (IntKind.i64.wrap ((↑x.1 : Int) + 1)))], heap := [(4, .cells 3 [.int .i64 (p.o.getD (0 + x.1) (V.enc Kd.int).dflt)]), (3, .arr 3 Kd.int x.snd.fst x.snd.2), (2, .cells 31 [.sl false 0 0 5 p.cs.length p.2]), (0, .ro Kd.cal p.cs), (1, .ro Kd.int p.o)], nx := 6, nt := 38, tl := [4, 0, 1, 2, 3, 4, 5, 6, 7, 8, 9, 10, 11, 12, 13, 14, 15, 16] : St V }) (Out.ite (decide (p.o.getD (0 + x.1) (V.enc Kd.int).dflt < 0)) (Out.stop EX.rt {env := [(2, .ptr 2 0), (4, .ff), (5, .sl false 3 0 1 x.snd.fst.length (x.snd.fst.length + x.snd.2)), (9, .sl false 1 0 1 p.o.length p.4), (10, .int .i64 (↑p.o.length : Int)), (11, .int .i64 (↑x.1 : Int))], heap := [(4, .cells 3 [.int .i64 (p.o.getD (0 + x.1) (V.enc Kd.int).dflt)]), (3, .arr 3 Kd.int x.snd.fst x.snd.2), (2, .cells 31 [.sl false 0 0 5 p.cs.length p.2]), (0, .ro Kd.cal p.cs), (1, .ro Kd.int p.o)], nx := 6, nt := 38, tl := [4, 0, 1, 2, 3, 4, 5, 6, 7, 8, 9, 10, 11, 12, 13, 14, 15, 16] : St V }) (Out.ite (decide (p.o.getD (0 + x.1) (V.enc Kd.int).dflt ≥ (↑p.cs.length : Int))) (Out.stop EX.rt {env := [(2, .ptr 2 0), (4, .ff), (5, .sl false 3 0 1 x.snd.fst.length (x.snd.fst.length + x.snd.2)), (9, .sl false 1 0 1 p.o.length p.4), (10, .int .i64 (↑p.o.length : Int)), (11, .int .i64 (↑x.1 : Int))], heap := [(4, .cells 3 [.int .i64 (p.o.getD (0 + x.1) (V.enc Kd.int).dflt)]), (3, .arr 3 Kd.int x.snd.fst x.snd.2), (2, .cells 31 [.sl false 0 0 5 p.cs.length p.2]), (0, .ro Kd.cal p.cs), (1, .ro Kd.int p.o)], nx := 6, nt := 38, tl := [4, 0, 1, 2, 3, 4, 5, 6, 7, 8, 9, 10, 11, 12, 13, 14, 15, 16] : St V }) (Out.need (LoopFor Try.prog 57 0 (loopOf Try.f57 0) L57) (Out.ex (PIN → Prop) fun y => Out.need (6 ≤ 6 ∧ SImp 6 {env := [(0, .sl false 3 0 1 x.snd.fst.length (x.snd.fst.length + x.snd.2)), (1, .fn 45 [] [.ptr 4 0, .ptr 2 0]), (6, .sl false 3 0 1 x.snd.fst.length (x.snd.fst.length + x.snd.2)), (7, .int .i64 (↑x.snd.fst.length : Int)), (8, .lit .i64 0)], heap := [(4, .cells 3 [.int .i64 (p.o.getD (0 + x.1) (V.enc Kd.int).dflt)]), (3, .arr 3 Kd.int x.snd.fst x.snd.2), (2, .cells 31 [.sl false 0 0 5 p.cs.length p.2]), (0, .ro Kd.cal p.cs), (1, .ro Kd.int p.o)], nx := 6, nt := 19, tl := [] : St V } (fun q => I57 q 0) y) (Out.all PIN fun y_1 => Out.asm (y y_1) ((Out.all Unit fun y => Out.asm ((fun q x => q.a.any (late q.cs (q.o.getD q.2 0)) = false) y_1 y) (Out.need (0 = 0 ∧ x.snd.fst.length = y_1.a.length ∧ x.snd.fst.length + x.snd.2 = y_1.a.length + y_1.4 ∧ (y_1.a.length + 1) * 8 ≤ 140737488355328) (Out.all Nat fun y => Out.stop EX.nx {env := [(2, .ptr 2 0), (4, .und), (5, .sl false 7 0 1 (y_1.a.length + 1) (y_1.a.length + 1 + y)), (9, .sl false 1 0 1 p.o.length p.4), (10, .int .i64 (↑p.o.length : Int)), (11, .int .i64 (IntKind.i64.wrap ((↑x.1 : Int) + 1)))], heap := [(7, .arr 3 Kd.int (y_1.a ++ [y_1.o.getD y_1.2 0]) y), (6, .cells 3 [.int .i64 (y_1.o.getD y_1.2 0)]), (4, .cells 3 [.int .i64 (y_1.o.getD y_1.2 0)]), (2, .cells 31 [.sl false 0 0 5 y_1.cs.length y_1.toPRS.2]), (0, .ro Kd.cal y_1.cs), (1, .ro Kd.int y_1.o)], nx := 8, nt := 38, tl := [3, 0, 1, 2, 3, 4, 5, 6, 7, 8, 9, 10, 11, 12, 13, 14, 15, 16, 4, 0, 1, 2, 3, 4, 5, 6, 7, 8, 9, 10, 11, 12, 13, 14, 15, 16] : St V }))).both (Out.all Nat fun y => Out.asm ((fun q x => q.a.any (late q.cs (q.o.getD q.2 0)) = true) y_1 y) (Out.ite (decide ((↑y : Int) ≥ 0)) (Out.stop EX.rt {env := [(2, .ptr 2 0), (4, .ff), (5, .sl false 3 0 1 x.snd.fst.length (x.snd.fst.length + x.snd.2)), (9, .sl false 1 0 1 p.o.length p.4), (10, .int .i64 (↑p.o.length : Int)), (11, .int .i64 (↑x.1 : Int))], heap := [(4, .cells 3 [.int .i64 (y_1.o.getD y_1.2 0)]), (3, .arr 3 Kd.int y_1.a y_1.4), (2, .cells 31 [.sl false 0 0 5 y_1.cs.length y_1.toPRS.2]), (0, .ro Kd.cal y_1.cs), (1, .ro Kd.int y_1.o)], nx := 6, nt := 38, tl := [0, 1, 2, 3, 4, 5, 6, 7, 8, 9, 10, 11, 12, 13, 14, 15, 16, 4, 0, 1, 2, 3, 4, 5, 6, 7, 8, 9, 10, 11, 12, 13, 14, 15, 16] : St V }) (Out.need (0 = 0 ∧ x.snd.fst.length = y_1.a.length ∧ x.snd.fst.length + x.snd.2 = y_1.a.length + y_1.4 ∧ (y_1.a.length + 1) * 8 ≤ 140737488355328) (Out.all Nat fun y => Out.stop EX.nx {env := [(2, .ptr 2 0), (4, .und), (5, .sl false 7 0 1 (y_1.a.length + 1) (y_1.a.length + 1 + y)), (9, .sl false 1 0 1 p.o.length p.4), (10, .int .i64 (↑p.o.length : Int)), (11, .int .i64 (IntKind.i64.wrap ((↑x.1 : Int) + 1)))], heap := [(7, .arr 3 Kd.int (y_1.a ++ [y_1.o.getD y_1.2 0]) y), (6, .cells 3 [.int .i64 (y_1.o.getD y_1.2 0)]), (4, .cells 3 [.int .i64 (y_1.o.getD y_1.2 0)]), (2, .cells 31 [.sl false 0 0 5 y_1.cs.length y_1.toPRS.2]), (0, .ro Kd.cal y_1.cs), (1, .ro Kd.int y_1.o)], nx := 8, nt := 38, tl := [3, 0, 1, 2, 3, 4, 5, 6, 7, 8, 9, 10, 11, 12, 13, 14, 15, 16, 4, 0, 1, 2, 3, 4, 5, 6, 7, 8, 9, 10, 11, 12, 13, 14, 15, 16] : St V }))))))))))))) (Out.stop (EX.ex 0) {env := [(2, .ptr 2 0), (4, .und), (5, .sl false 3 0 1 x.snd.fst.length (x.snd.fst.length + x.snd.2)), (9, .sl false 1 0 1 p.o.length p.4), (10, .int .i64 (↑p.o.length : Int)), (11, .int .i64 (↑x.1 : Int))], heap := [(3, .arr 3 Kd.int x.snd.fst x.snd.2), (2, .cells 31 [.sl false 0 0 5 p.cs.length p.2]), (0, .ro Kd.cal p.cs), (1, .ro Kd.int p.o)], nx := 4, nt := 38, tl := [0, 1, 2, 3, 4, 5, 6, 7, 8, 9, 10, 11, 12, 13, 14, 15, 16] : St V }) := by kernel_rfl

theorem wt31 (l : List Cal) (c : Nat) (o : List Int) (co : Nat) : runF cfgX31 60 31 Try.f31 [.sl false 0 0 5 l.length c, .sl false 1 0 1 o.length co] [(0, .ro Kd.cal l), (1, .ro Kd.int o)] 2 = Out.need (LoopFor Try.prog 31 0 (loopOf Try.f31 0) L31) (Out.ex (PRS → Prop) fun y => Out.need (3 ≤ 3 ∧ SImp 3 {env := [(2, .ptr 2 0), (5, .nilS), (9, .sl false 1 0 1 o.length co), (10, .int .i64 (↑o.length : Int)), (11, .lit .i64 0)], heap := [(2, .cells 31 [.sl false 0 0 5 l.length c]), (0, .ro Kd.cal l), (1, .ro Kd.int o)], nx := 3, nt := 38, tl := [] : St V } (fun p => I31 p (0, [], 0)) y) (Out.all PRS fun y_1 => Out.asm (y y_1) ((Out.all Unit fun y => Out.asm ((fun p x => wResp p.cs p.o = true) y_1 y) (Out.fin .tt [(0, .ro Kd.cal y_1.cs), (1, .ro Kd.int y_1.o)] 4)).both (Out.all Unit fun y => Out.asm ((fun p x => wResp p.cs p.o = false) y_1 y) (Out.fin .ff [(0, .ro Kd.cal y_1.cs), (1, .ro Kd.int y_1.o)] 4))))) := by kernel_rfl

theorem w322 (q : PIR) (k : Nat) : runCode cfgX 60 32 (loopOf Try.f32 2) (I322 q k) (stopT (trimSt [0, 1, 4, 5, 6] [0, 1])) = Out.ite (decide ((↑k : Int) < (↑q.2 : Int))) (Out.need (0 ≤ (↑k : Int) ∧ (↑k : Int) < (↑q.o.length : Int)) (Out.need (0 + k < q.o.length) (Out.need (0 ≤ (↑q.2 : Int) ∧ (↑q.2 : Int) < (↑q.o.length : Int)) (Out.need (0 + q.2 < q.o.length) (Out.ite (q.o.getD (0 + k) (V.enc Kd.int).dflt == q.o.getD (0 + q.2) (V.enc Kd.int).dflt) (Out.stop EX.rt {env := [(0, .sl false 0 0 5 q.cs.length q.toPRS.2), (1, .sl false 1 0 1 q.o.length q.toPRS.4), (4, .ff), (5, .int .i64 (↑q.2 : Int)), (6, .int .i64 (↑k : Int))], heap := [(0, .ro Kd.cal q.cs), (1, .ro Kd.int q.o)], nx := 2, nt := 77, tl := [0, 1, 2, 3, 4, 5, 6, 7, 8, 9, 10, 11, 12, 13, 14, 15, 16] : St V }) (Out.need (0 ≤ (↑k : Int) ∧ (↑k : Int) < (↑q.o.length : Int)) (Out.need (0 + k < q.o.length) (Out.ite (decide (q.o.getD (0 + k) (V.enc Kd.int).dflt ≥ 0)) (Out.need (0 ≤ (↑k : Int) ∧ (↑k : Int) < (↑q.o.length : Int)) (Out.need (0 + k < q.o.length) (Out.ite (decide (q.o.getD (0 + k) (V.enc Kd.int).dflt < (↑q.cs.length : Int))) (Out.need (0 ≤ (↑q.2 : Int) ∧ (↑q.2 : Int) < (↑q.o.length : Int)) (Out.need (0 + q.2 < q.o.length) (Out.need (0 ≤ q.o.getD (0 + q.2) (V.enc Kd.int).dflt ∧ q.o.getD (0 + q.2) (V.enc Kd.int).dflt < (↑q.cs.length : Int)) (Out.need (0 + Int.toNat (q.o.getD (0 + q.2) (V.enc Kd.int).dflt) < q.cs.length) (Out.need (0 ≤ (↑k : Int) ∧ (↑k : Int) < (↑q.o.length : Int)) (Out.need (0 + k < q.o.length) (Out.need (0 ≤ q.o.getD (0 + k) (V.enc Kd.int).dflt ∧ q.o.getD (0 + k) (V.enc Kd.int).dflt < (↑q.cs.length : Int)) (Out.need (0 + Int.toNat (q.o.getD (0 + k) (V.enc Kd.int).dflt) < q.cs.length) (Out.ite (hBefore {thread := (q.cs.getD (0 + Int.toNat (q.o.getD (0 + q.2) (V.enc Kd.int).dflt)) (V.enc Kd.cal).dflt).thread, op := (q.cs.getD (0 + Int.toNat (q.o.getD (0 + q.2) (V.enc Kd.int).dflt)) (V.enc Kd.cal).dflt).op, frm := (q.cs.getD (0 + Int.toNat (q.o.getD (0 + q.2) (V.enc Kd.int).dflt)) (V.enc Kd.cal).dflt).frm, at_ := (q.cs.getD (0 + Int.toNat (q.o.getD (0 + q.2) (V.enc Kd.int).dflt)) (V.enc Kd.cal).dflt).at_, to_ := (q.cs.getD (0 + Int.toNat (q.o.getD (0 + q.2) (V.enc Kd.int).dflt)) (V.enc Kd.cal).dflt).to_ : Cal } {thread := (q.cs.getD (0 + Int.toNat (q.o.getD (0 + k) (V.enc Kd.int).dflt)) (V.enc Kd.cal).dflt).thread, op := (q.cs.getD (0 + Int.toNat (q.o.getD (0 + k) (V.enc Kd.int).dflt)) (V.enc Kd.cal).dflt).op, frm := (q.cs.getD (0 + Int.toNat (q.o.getD (0 + k) (V.enc Kd.int).dflt)) (V.enc Kd.cal).dflt).frm, at_ := (q.cs.getD (0 + Int.toNat (q.o.getD (0 + k) (V.enc Kd.int).dflt)) (V.enc Kd.cal).dflt).at_, to_ := (q.cs.getD (0 + Int.toNat (q.o.getD (0 + k) (V.enc Kd.int).dflt)) (V.enc Kd.cal).dflt).to_ : Cal }) (Out.stop EX.rt {env := [(0, .sl false 0 0 5 q.cs.length q.toPRS.2), (1, .sl false 1 0 1 q.o.length q.toPRS.4), (4, .ff), (5, .int .i64 (↑q.2 : Int)), (6, .int .i64 (↑k : Int))], heap := [(0, .ro Kd.cal q.cs), (1, .ro Kd.int q.o)], nx := 2, nt := 77, tl := [0, 1, 2, 3, 4, 5, 6, 7, 8, 9, 10, 11, 12, 13, 14, 15, 16] : St V }) (Out.stop EX.nx {env := [(0, .sl false 0 0 5 q.cs.length q.toPRS.2), (1, .sl false 1 0 1 q.o.length q.toPRS.4), (4, .und), (5, .int .i64 (↑q.2 : Int)), (6, .int .i64 (IntKind.i64.wrap ((↑k : Int) + 1)))], heap := [(0, .ro Kd.cal q.cs), (1, .ro Kd.int q.o)], nx := 2, nt := 77, tl := [0, 1, 2, 3, 4, 5, 6, 7, 8, 9, 10, 11, 12, 13, 14, 15, 16] : St V })))))))))) (Out.stop EX.nx {env := [(0, .sl false 0 0 5 q.cs.length q.toPRS.2), (1, .sl false 1 0 1 q.o.length q.toPRS.4), (4, .und), (5, .int .i64 (↑q.2 : Int)), (6, .int .i64 (IntKind.i64.wrap ((↑k : Int) + 1)))], heap := [(0, .ro Kd.cal q.cs), (1, .ro Kd.int q.o)], nx := 2, nt := 77, tl := [0, 1, 2, 3, 4, 5, 6, 7, 8, 9, 10, 11, 12, 13, 14, 15, 16] : St V })))) (Out.stop EX.nx {env := [(0, .sl false 0 0 5 q.cs.length q.toPRS.2), (1, .sl false 1 0 1 q.o.length q.toPRS.4), (4, .und), (5, .int .i64 (↑q.2 : Int)), (6, .int .i64 (IntKind.i64.wrap ((↑k : Int) + 1)))], heap := [(0, .ro Kd.cal q.cs), (1, .ro Kd.int q.o)], nx := 2, nt := 77, tl := [0, 1, 2, 3, 4, 5, 6, 7, 8, 9, 10, 11, 12, 13, 14, 15, 16] : St V }))))))))) (Out.stop (EX.ex 2) {env := [(0, .sl false 0 0 5 q.cs.length q.toPRS.2), (1, .sl false 1 0 1 q.o.length q.toPRS.4), (4, .und), (5, .int .i64 (↑q.2 : Int)), (6, .int .i64 (↑k : Int))], heap := [(0, .ro Kd.cal q.cs), (1, .ro Kd.int q.o)], nx := 2, nt := 77, tl := [0, 1, 2, 3, 4, 5, 6, 7, 8, 9, 10, 11, 12, 13, 14, 15, 16] : St V }) := by kernel_rfl

theorem w320 (p : PRS) (i : Nat) : runCode cfgX322 60 32 (loopOf Try.f32 0) (I320 p i) (stopT (trimSt [0, 1, 4, 5] [0, 1])) = Out.ite (decide ((↑i : Int) < (↑p.o.length : Int))) (Out.need (0 ≤ (↑i : Int) ∧ (↑i : Int) < (↑p.o.length : Int)) (Out.need (0 + i < p.o.length) (Out.ite (p.o.getD (0 + i) (V.enc Kd.int).dflt == -1) (Out.stop EX.nx {env := [(0, .sl false 0 0 5 p.cs.length p.2), (1, .sl false 1 0 1 p.o.length p.4), (4, .und), (5, .int .i64 (IntKind.i64.wrap ((↑i : Int) + 1)))], heap := [(0, .ro Kd.cal p.cs), (1, .ro Kd.int p.o)], nx := 2, nt := 77, tl := [0, 1, 2, 3, 4, 5, 6, 7, 8, 9, 10, 11, 12, 13, 14, 15, 16] : St V }) (Out.need (0 ≤ (↑i : Int) ∧ (↑i : Int) < (↑p.o.length : Int)) (Out.need (0 + i < p.o.length) (Out.ite (decide (p.o.getD (0 + i) (V.enc Kd.int).dflt < 0)) (Out.stop EX.rt {env := [(0, .sl false 0 0 5 p.cs.length p.2), (1, .sl false 1 0 1 p.o.length p.4), (4, .ff), (5, .int .i64 (↑i : Int))], heap := [(0, .ro Kd.cal p.cs), (1, .ro Kd.int p.o)], nx := 2, nt := 77, tl := [0, 1, 2, 3, 4, 5, 6, 7, 8, 9, 10, 11, 12, 13, 14, 15, 16] : St V }) (Out.need (0 ≤ (↑i : Int) ∧ (↑i : Int) < (↑p.o.length : Int)) (Out.need (0 + i < p.o.length) (Out.ite (decide (p.o.getD (0 + i) (V.enc Kd.int).dflt ≥ (↑p.cs.length : Int))) (Out.stop EX.rt {env := [(0, .sl false 0 0 5 p.cs.length p.2), (1, .sl false 1 0 1 p.o.length p.4), (4, .ff), (5, .int .i64 (↑i : Int))], heap := [(0, .ro Kd.cal p.cs), (1, .ro Kd.int p.o)], nx := 2, nt := 77, tl := [0, 1, 2, 3, 4, 5, 6, 7, 8, 9, 10, 11, 12, 13, 14, 15, 16] : St V }) (Out.need (LoopFor Try.prog 32 2 (loopOf Try.f32 2) L322) (Out.ex (PIR → Prop) fun y => Out.need (2 ≤ 2 ∧ SImp 2 {env := [(0, .sl false 0 0 5 p.cs.length p.2), (1, .sl false 1 0 1 p.o.length p.4), (5, .int .i64 (↑i : Int)), (6, .lit .i64 0)], heap := [(0, .ro Kd.cal p.cs), (1, .ro Kd.int p.o)], nx := 2, nt := 77, tl := [0, 1, 2, 3, 4, 5, 6, 7, 8, 9, 10, 11, 12, 13, 14, 15, 16] : St V } (fun q => I322 q 0) y) (Out.all PIR fun y_1 => Out.asm (y y_1) ((Out.all Unit fun y => Out.asm ((fun q x => (List.take q.2 q.o).any (lateR q.cs (q.o.getD q.2 0)) = false) y_1 y) (Out.stop EX.nx {env := [(0, .sl false 0 0 5 y_1.cs.length y_1.toPRS.2), (1, .sl false 1 0 1 y_1.o.length y_1.toPRS.4), (4, .und), (5, .int .i64 (IntKind.i64.wrap ((↑y_1.2 : Int) + 1)))], heap := [(0, .ro Kd.cal y_1.cs), (1, .ro Kd.int y_1.o)], nx := 2, nt := 77, tl := [0, 1, 2, 3, 4, 5, 6, 7, 8, 9, 10, 11, 12, 13, 14, 15, 16] : St V })).both (Out.all Unit fun y => Out.asm ((fun q x => (List.take q.2 q.o).any (lateR q.cs (q.o.getD q.2 0)) = true) y_1 y) (Out.stop EX.rt {env := [(0, .und), (1, .und), (4, .ff), (5, .und)], heap := [(0, .ro Kd.cal y_1.cs), (1, .ro Kd.int y_1.o)], nx := 2, nt := 77, tl := [0, 1, 2, 3, 4, 5, 6, 7, 8, 9, 10, 11, 12, 13, 14, 15, 16] : St V }))))))))))))))) (Out.stop (EX.ex 0) {env := [(0, .sl false 0 0 5 p.cs.length p.2), (1, .sl false 1 0 1 p.o.length p.4), (4, .und), (5, .int .i64 (↑i : Int))], heap := [(0, .ro Kd.cal p.cs), (1, .ro Kd.int p.o)], nx := 2, nt := 77, tl := [0, 1, 2, 3, 4, 5, 6, 7, 8, 9, 10, 11, 12, 13, 14, 15, 16] : St V }) := by kernel_rfl

theorem wt32 (l : List Cal) (c : Nat) (o : List Int) (co : Nat) : runF cfgX320 60 32 Try.f32 [.sl false 0 0 5 l.length c, .sl false 1 0 1 o.length co] [(0, .ro Kd.cal l), (1, .ro Kd.int o)] 2 = Out.need (LoopFor Try.prog 32 0 (loopOf Try.f32 0) L320) (Out.ex (PRS → Prop) fun y => Out.need (2 ≤ 2 ∧ SImp 2 {env := [(0, .sl false 0 0 5 l.length c), (1, .sl false 1 0 1 o.length co), (5, .lit .i64 0)], heap := [(0, .ro Kd.cal l), (1, .ro Kd.int o)], nx := 2, nt := 77, tl := [] : St V } (fun p => I320 p 0) y) (Out.all PRS fun y_1 => Out.asm (y y_1) ((Out.all Unit fun y => Out.asm ((fun p x => wResp p.cs p.o = true) y_1 y) (Out.fin .tt [(0, .ro Kd.cal y_1.cs), (1, .ro Kd.int y_1.o)] 2)).both (Out.all Unit fun y => Out.asm ((fun p x => wResp p.cs p.o = false) y_1 y) (Out.fin .ff [(0, .ro Kd.cal y_1.cs), (1, .ro Kd.int y_1.o)] 2))))) := by kernel_rfl

end Sx
end Go.Proofs.Ytemcdjdglcceiaa

