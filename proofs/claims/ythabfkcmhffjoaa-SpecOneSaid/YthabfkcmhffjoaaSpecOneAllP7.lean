/-
  Commits that are passed in.
-/
import Derived.Test.YthabfkcmhffjoaaSpecOneAllP6
namespace Go.Proofs.Ythabfkcmhffjoaa
namespace Sx
open Go Go.ChangeShapes Go.WideShapes Go.ChangeAt Go.RowKit

theorem reads_com : Reads Try.prog 35 (V.enc Kd.com) (fun r => inR r.key) := by
  intro H enc W base spare held fuel cs x hx
  obtain ⟨hl, hf⟩ := trod_fields (tab_met 35 ty35 rfl).kind hx
  have c3 : Try.prog.cellsOf 3 = 1 := by kernel_rfl
  have c4 : Try.prog.cellsOf 4 = 1 := by kernel_rfl
  have c35 : Try.prog.cellsOf 35 = 4 := by kernel_rfl
  obtain ⟨_, _, g0⟩ := hf 0 _ _ rfl
  obtain ⟨_, _, g1⟩ := hf 1 _ _ rfl
  obtain ⟨_, _, g2⟩ := hf 2 _ _ rfl
  obtain ⟨_, _, g3⟩ := hf 3 _ _ rfl
  obtain ⟨z0, e0, _, w0⟩ := DataW.trod_int Try.underlying3 g0
  obtain ⟨z1, e1, _, w1⟩ := DataW.trod_int Try.underlying3 g1
  obtain ⟨z2, e2, _, w2⟩ := DataW.trod_int Try.underlying3 g2
  obtain ⟨z3, e3, _⟩ := DataW.trod_bool Try.underlying4 g3
  rw [c35] at hl
  rw [c3] at e0 e1 e2
  rw [c4] at e3
  match cs, hl with
  | [a0, a1, a2, a3], _ =>
    simp at e0 e1 e2 e3
    subst e0; subst e1; subst e2; subst e3
    exact ⟨⟨z0, z1, z2, z3⟩, relL_cons.2 ⟨rfl, relL_cons.2 ⟨rfl, relL_cons.2 ⟨rfl, relL_cons.2 ⟨rfl, relL_nil⟩⟩⟩⟩, w1⟩

end Sx
end Go.Proofs.Ythabfkcmhffjoaa

/-
  One more commit: the runs of the machine.
-/
namespace Go.Proofs.Ythabfkcmhffjoaa
namespace Sx
open Go
set_option maxRecDepth 100000
set_option linter.unusedVariables false

def runStateV : RunFree V := fun ar K => match ar with
  | [.rows .com l c] => .need (l.length ≤ 1073741824 ∧ ∀ c ∈ l, inR c.key) (.all (List Pr × Nat) fun z => .asm (z.1 = rowsOf (runM l []).2) (K (.sl false 0 0 2 z.1.length (z.1.length + z.2)) [.arr 27 Kd.pr z.1 z.2]))
  | _ => .bad 500
def runSAnswerV : RunFree V := fun ar K => match ar with
  | [.rows .pr l c, .int .i64 d, .int .i64 k, .int .i64 v] => .need (l.length ≤ 1073741824 ∧ (∀ p ∈ l, inR p.k) ∧ inR k) (.all (Com × List Pr × Nat) fun z => .asm (z.1 = ansC (mget (mapOfRows l) k) d k v ∧ z.2.1 = rowsOf (doM (mapOfRows l) z.1)) (K (.tup [comAV z.1, .sl false 0 0 2 z.2.1.length (z.2.1.length + z.2.2)]) [.arr 27 Kd.pr z.2.1 z.2.2]))
  | _ => .bad 500
def hooksC : Nat → Option (HookS V) := fun g => match g with
  | 10 => some (hookFree [.rows Kd.com] runStateV)
  | 21 => some (hookFree [.rows Kd.pr, .int .i64, .int .i64, .int .i64] runSAnswerV)
  | g => hooksB g
noncomputable def cfgC : Cfg Try.prog V := ⟨tab, kinds, fun _ => none, hooksC, fun _ _ => none⟩

def TQ5 : List Nat := [0, 1, 2, 3, 4, 5, 6, 7, 8, 9, 10, 11, 12, 13, 14, 15, 16, 17, 18, 19, 20]
structure P5_ where
  l : List Com
  c : Nat
  hb : l.length ≤ 200
  hk : ∀ c ∈ l, inR c.key
  x : Com
  hx : inR x.key
structure Y5 where
  d : Com
  hs : List Pr
  a : Nat
def E50 (p : P5_) : St V := ⟨[(0, .sl false 0 0 4 p.l.length p.c), (3, .ptr 4 0), (5, .tt)], [(4, .cells 35 ([.int .i64 p.x.act, .int .i64 p.x.key, .int .i64 p.x.value, .bool p.x.hit])), (0, .ro Kd.com p.l)], 5, 82, TQ5⟩
def E51 (p : P5_) (y : Y5) : St V := ⟨[(0, .sl false 0 0 4 p.l.length p.c), (3, .ptr 4 0), (5, .tt), (6, .ptr 5 0), (7, .sl false 6 0 2 y.hs.length (y.hs.length + y.a))],
  [(5, .cells 35 ([.int .i64 y.d.act, .int .i64 y.d.key, .int .i64 y.d.value, .bool y.d.hit])), (6, .arr 27 Kd.pr y.hs y.a), (4, .cells 35 ([.int .i64 p.x.act, .int .i64 p.x.key, .int .i64 p.x.value, .bool p.x.hit])), (0, .ro Kd.com p.l)], 7, 82, TQ5⟩
def E52 (p : P5_ × Y5) (b : Nat) : St V := ⟨[(0, .sl false 0 0 4 p.1.l.length p.1.c), (3, .ptr 4 0), (5, .tt), (6, .ptr 5 0), (7, .sl false 6 0 2 p.2.hs.length (p.2.hs.length + p.2.a)), (8, .sl false 7 0 4 (p.1.l ++ [p.1.x]).length ((p.1.l ++ [p.1.x]).length + b))],
  [(7, .arr 35 Kd.com (p.1.l ++ [p.1.x]) b), (5, .cells 35 ([.int .i64 p.2.d.act, .int .i64 p.2.d.key, .int .i64 p.2.d.value, .bool p.2.d.hit])), (6, .arr 27 Kd.pr p.2.hs p.2.a), (4, .cells 35 ([.int .i64 p.1.x.act, .int .i64 p.1.x.key, .int .i64 p.1.x.value, .bool p.1.x.hit])), (0, .ro Kd.com p.1.l)], 8, 82, TQ5⟩
def E53 (p : P5_ × Y5) (z : Nat × Nat) : St V := ⟨[(0, .sl false 0 0 4 p.1.l.length p.1.c), (3, .ptr 4 0), (5, .tt), (6, .ptr 5 0), (7, .sl false 6 0 2 p.2.hs.length (p.2.hs.length + p.2.a)), (8, .sl false 7 0 4 (p.1.l ++ [p.1.x]).length ((p.1.l ++ [p.1.x]).length + z.1)), (9, .sl false 8 0 4 (p.1.l ++ [p.2.d]).length ((p.1.l ++ [p.2.d]).length + z.2))],
  [(8, .arr 35 Kd.com (p.1.l ++ [p.2.d]) z.2), (7, .arr 35 Kd.com (p.1.l ++ [p.1.x]) z.1), (5, .cells 35 ([.int .i64 p.2.d.act, .int .i64 p.2.d.key, .int .i64 p.2.d.value, .bool p.2.d.hit])), (6, .arr 27 Kd.pr p.2.hs p.2.a), (4, .cells 35 ([.int .i64 p.1.x.act, .int .i64 p.1.x.key, .int .i64 p.1.x.value, .bool p.1.x.hit])), (0, .ro Kd.com p.1.l)], 9, 82, TQ5⟩
def mapL (l : List Com) := mapOfRows (rowsOf (runM l []).2)
def C4 (p : P5_) (y : Y5) : Prop := y.d = ansC (mget (mapL p.l) p.x.key) p.x.act p.x.key p.x.value ∧ y.hs = rowsOf (doM (mapL p.l) y.d)
noncomputable def MR4 : LoopS V := trimLoop (trimSt [0, 3, 5] [0, 4]) (loopH 5 E50 C4 E51)
noncomputable def MR5 : LoopS V := trimLoop (trimSt [0, 3, 5, 6, 7] [0, 4, 5, 6]) (loopH 7 (fun p : P5_ × Y5 => E51 p.1 p.2) (fun _ (_ : Nat) => True) E52)
noncomputable def MR6 : LoopS V := trimLoop (trimSt [0, 3, 5, 6, 7, 8] [0, 4, 5, 6, 7]) (loopH 8 (fun p : (P5_ × Y5) × Nat => E52 p.1 p.2) (fun _ (_ : Nat) => True) (fun p b => E53 p.1 (p.2, b)))
noncomputable def cfgC5 : Cfg Try.prog V := ⟨tab, kinds, fun _ => none, hooksC, fun f id => match f, id with | 5, 1000004 => some MR4 | 5, 1000005 => some MR5 | 5, 1000006 => some MR6 | _, _ => none⟩
theorem qr4 (p : P5_) : runCode cfgC 60 5 (regOf Try.f5 4) (E50 p) (stopT (trimSt [0, 3, 5, 6, 7] [0, 4, 5, 6, 7, 8])) = (Out.need ((0 : Nat) + p.l.length ≤ p.l.length) (Out.need ((List.take p.l.length (List.drop (0 : Nat) p.l)).length ≤ (1073741824 : Nat) ∧ ∀ (c : V.El Kd.com), c ∈ List.take p.l.length (List.drop (0 : Nat) p.l) → inR c.key) (Out.all (List Pr × Nat) fun y => Out.asm (y.fst = rowsOf (runM (List.take p.l.length (List.drop (0 : Nat) p.l)) []).snd) ((Out.need ((0 : Nat) + y.fst.length ≤ y.fst.length) (Out.need ((List.take y.fst.length (List.drop (0 : Nat) y.fst)).length ≤ (1073741824 : Nat) ∧ (∀ (p : V.El Kd.pr), p ∈ List.take y.fst.length (List.drop (0 : Nat) y.fst) → inR p.k) ∧ inR p.x.key) (Out.all (Com × List Pr × Nat) fun y_1 => Out.asm (y_1.fst = ansC (mget (mapOfRows (List.take y.fst.length (List.drop (0 : Nat) y.fst))) p.x.key) p.x.act p.x.key p.x.value ∧ y_1.snd.fst = rowsOf (doM (mapOfRows (List.take y.fst.length (List.drop (0 : Nat) y.fst))) y_1.fst)) (Out.stop EX.nx {env := [((0 : Nat), .sl false (0 : Nat) (0 : Nat) (4 : Nat) p.l.length p.2), ((3 : Nat), .ptr (4 : Nat) (0 : Nat)), ((5 : Nat), .tt), ((6 : Nat), .ptr (7 : Nat) (0 : Nat)), ((7 : Nat), .sl false (6 : Nat) (0 : Nat) (2 : Nat) y_1.snd.fst.length (y_1.snd.fst.length + y_1.snd.2))], heap := [((7 : Nat), .cells (35 : Nat) [.int .i64 y_1.fst.act, .int .i64 y_1.fst.key, .int .i64 y_1.fst.value, .bool y_1.fst.hit]), ((6 : Nat), .arr (27 : Nat) Kd.pr y_1.snd.fst y_1.snd.2), ((5 : Nat), .arr (27 : Nat) Kd.pr y.fst y.2), ((4 : Nat), .cells (35 : Nat) [.int .i64 p.x.act, .int .i64 p.x.key, .int .i64 p.x.value, .bool p.x.hit]), ((0 : Nat), .ro Kd.com p.l)], nx := (9 : Nat), nt := (82 : Nat), tl := [(7 : Nat), (0 : Nat), (1 : Nat), (2 : Nat), (3 : Nat), (4 : Nat), (5 : Nat), (6 : Nat), (7 : Nat), (8 : Nat), (9 : Nat), (10 : Nat), (11 : Nat), (12 : Nat), (13 : Nat), (14 : Nat), (15 : Nat), (16 : Nat), (17 : Nat), (18 : Nat), (19 : Nat), (20 : Nat)] : St V })))).both (Out.need ((0 : Nat) + y.fst.length ≤ y.fst.length) (Out.need ((List.take y.fst.length (List.drop (0 : Nat) y.fst)).length ≤ (1073741824 : Nat) ∧ (∀ (p : V.El Kd.pr), p ∈ List.take y.fst.length (List.drop (0 : Nat) y.fst) → inR p.k) ∧ inR p.x.key) (Out.all (Com × List Pr × Nat) fun y_1 => Out.asm (y_1.fst = ansC (mget (mapOfRows (List.take y.fst.length (List.drop (0 : Nat) y.fst))) p.x.key) p.x.act p.x.key p.x.value ∧ y_1.snd.fst = rowsOf (doM (mapOfRows (List.take y.fst.length (List.drop (0 : Nat) y.fst))) y_1.fst)) (Out.stop EX.nx {env := [((0 : Nat), .sl false (0 : Nat) (0 : Nat) (4 : Nat) p.l.length p.2), ((3 : Nat), .ptr (4 : Nat) (0 : Nat)), ((5 : Nat), .tt), ((6 : Nat), .ptr (6 : Nat) (0 : Nat)), ((7 : Nat), .sl false (7 : Nat) (0 : Nat) (2 : Nat) y_1.snd.fst.length (y_1.snd.fst.length + y_1.snd.2))], heap := [((7 : Nat), .arr (27 : Nat) Kd.pr y_1.snd.fst y_1.snd.2), ((6 : Nat), .cells (35 : Nat) [.int .i64 y_1.fst.act, .int .i64 y_1.fst.key, .int .i64 y_1.fst.value, .bool y_1.fst.hit]), ((5 : Nat), .arr (27 : Nat) Kd.pr y.fst y.2), ((4 : Nat), .cells (35 : Nat) [.int .i64 p.x.act, .int .i64 p.x.key, .int .i64 p.x.value, .bool p.x.hit]), ((0 : Nat), .ro Kd.com p.l)], nx := (9 : Nat), nt := (82 : Nat), tl := [(6 : Nat), (0 : Nat), (1 : Nat), (2 : Nat), (3 : Nat), (4 : Nat), (5 : Nat), (6 : Nat), (7 : Nat), (8 : Nat), (9 : Nat), (10 : Nat), (11 : Nat), (12 : Nat), (13 : Nat), (14 : Nat), (15 : Nat), (16 : Nat), (17 : Nat), (18 : Nat), (19 : Nat), (20 : Nat)] : St V })))))))).both (Out.need ((0 : Nat) + p.l.length ≤ p.l.length) (Out.need ((List.take p.l.length (List.drop (0 : Nat) p.l)).length ≤ (1073741824 : Nat) ∧ ∀ (c : V.El Kd.com), c ∈ List.take p.l.length (List.drop (0 : Nat) p.l) → inR c.key) (Out.all (List Pr × Nat) fun y => Out.asm (y.fst = rowsOf (runM (List.take p.l.length (List.drop (0 : Nat) p.l)) []).snd) (Out.need ((0 : Nat) + y.fst.length ≤ y.fst.length) (Out.need ((List.take y.fst.length (List.drop (0 : Nat) y.fst)).length ≤ (1073741824 : Nat) ∧ (∀ (p : V.El Kd.pr), p ∈ List.take y.fst.length (List.drop (0 : Nat) y.fst) → inR p.k) ∧ inR p.x.key) (Out.all (Com × List Pr × Nat) fun y_1 => Out.asm (y_1.fst = ansC (mget (mapOfRows (List.take y.fst.length (List.drop (0 : Nat) y.fst))) p.x.key) p.x.act p.x.key p.x.value ∧ y_1.snd.fst = rowsOf (doM (mapOfRows (List.take y.fst.length (List.drop (0 : Nat) y.fst))) y_1.fst)) (Out.stop EX.nx {env := [((0 : Nat), .sl false (0 : Nat) (0 : Nat) (4 : Nat) p.l.length p.2), ((3 : Nat), .ptr (4 : Nat) (0 : Nat)), ((5 : Nat), .tt), ((6 : Nat), .ptr (5 : Nat) (0 : Nat)), ((7 : Nat), .sl false (7 : Nat) (0 : Nat) (2 : Nat) y_1.snd.fst.length (y_1.snd.fst.length + y_1.snd.2))], heap := [((7 : Nat), .arr (27 : Nat) Kd.pr y_1.snd.fst y_1.snd.2), ((6 : Nat), .arr (27 : Nat) Kd.pr y.fst y.2), ((5 : Nat), .cells (35 : Nat) [.int .i64 y_1.fst.act, .int .i64 y_1.fst.key, .int .i64 y_1.fst.value, .bool y_1.fst.hit]), ((4 : Nat), .cells (35 : Nat) [.int .i64 p.x.act, .int .i64 p.x.key, .int .i64 p.x.value, .bool p.x.hit]), ((0 : Nat), .ro Kd.com p.l)], nx := (9 : Nat), nt := (82 : Nat), tl := [(5 : Nat), (0 : Nat), (1 : Nat), (2 : Nat), (3 : Nat), (4 : Nat), (5 : Nat), (6 : Nat), (7 : Nat), (8 : Nat), (9 : Nat), (10 : Nat), (11 : Nat), (12 : Nat), (13 : Nat), (14 : Nat), (15 : Nat), (16 : Nat), (17 : Nat), (18 : Nat), (19 : Nat), (20 : Nat)] : St V }))))))) := by kernel_rfl

theorem qr5 (p : P5_) (y : Y5) : runCode cfgC 60 5 (regOf Try.f5 5) (E51 p y) (stopT (trimSt [0, 3, 5, 6, 7, 8] [0, 4, 5, 6, 10])) = ((Out.need ((0 : Nat) + p.l.length ≤ p.l.length) (Out.need ((List.take p.l.length (List.drop (0 : Nat) p.l)).length * (32 : Nat) ≤ (140737488355328 : Nat)) (Out.all Nat fun y_1 => Out.need ((0 : Nat) = (0 : Nat) ∧ (List.take p.l.length (List.drop (0 : Nat) p.l)).length = (List.take p.l.length (List.drop (0 : Nat) p.l)).length ∧ (List.take p.l.length (List.drop (0 : Nat) p.l)).length + y_1 = (List.take p.l.length (List.drop (0 : Nat) p.l)).length + y_1 ∧ ((List.take p.l.length (List.drop (0 : Nat) p.l)).length + (1 : Nat)) * (32 : Nat) ≤ (140737488355328 : Nat)) (Out.all Nat fun y_2 => Out.stop EX.nx {env := [((0 : Nat), .sl false (0 : Nat) (0 : Nat) (4 : Nat) p.l.length p.2), ((3 : Nat), .ptr (4 : Nat) (0 : Nat)), ((5 : Nat), .tt), ((6 : Nat), .ptr (5 : Nat) (0 : Nat)), ((7 : Nat), .sl false (6 : Nat) (0 : Nat) (2 : Nat) y.hs.length (y.hs.length + y.3)), ((8 : Nat), .sl false (10 : Nat) (0 : Nat) (4 : Nat) ((List.take p.l.length (List.drop (0 : Nat) p.l)).length + (1 : Nat)) ((List.take p.l.length (List.drop (0 : Nat) p.l)).length + (1 : Nat) + y_2))], heap := [((10 : Nat), .arr (35 : Nat) Kd.com (List.take p.l.length (List.drop (0 : Nat) p.l) ++ [{act := p.x.act, key := p.x.key, value := p.x.value, hit := p.x.hit : Com }]) y_2), ((5 : Nat), .cells (35 : Nat) [.int .i64 y.d.act, .int .i64 y.d.key, .int .i64 y.d.value, .bool y.d.hit]), ((6 : Nat), .arr (27 : Nat) Kd.pr y.hs y.3), ((4 : Nat), .cells (35 : Nat) [.int .i64 p.x.act, .int .i64 p.x.key, .int .i64 p.x.value, .bool p.x.hit]), ((0 : Nat), .ro Kd.com p.l)], nx := (11 : Nat), nt := (82 : Nat), tl := [(9 : Nat), (7 : Nat), (8 : Nat), (0 : Nat), (1 : Nat), (2 : Nat), (3 : Nat), (4 : Nat), (5 : Nat), (6 : Nat), (7 : Nat), (8 : Nat), (9 : Nat), (10 : Nat), (11 : Nat), (12 : Nat), (13 : Nat), (14 : Nat), (15 : Nat), (16 : Nat), (17 : Nat), (18 : Nat), (19 : Nat), (20 : Nat)] : St V })))).both (Out.need ((0 : Nat) + p.l.length ≤ p.l.length) (Out.need ((List.take p.l.length (List.drop (0 : Nat) p.l)).length * (32 : Nat) ≤ (140737488355328 : Nat)) (Out.all Nat fun y_1 => Out.need ((0 : Nat) = (0 : Nat) ∧ (List.take p.l.length (List.drop (0 : Nat) p.l)).length = (List.take p.l.length (List.drop (0 : Nat) p.l)).length ∧ (List.take p.l.length (List.drop (0 : Nat) p.l)).length + y_1 = (List.take p.l.length (List.drop (0 : Nat) p.l)).length + y_1 ∧ ((List.take p.l.length (List.drop (0 : Nat) p.l)).length + (1 : Nat)) * (32 : Nat) ≤ (140737488355328 : Nat)) (Out.all Nat fun y_2 => Out.stop EX.nx {env := [((0 : Nat), .sl false (0 : Nat) (0 : Nat) (4 : Nat) p.l.length p.2), ((3 : Nat), .ptr (4 : Nat) (0 : Nat)), ((5 : Nat), .tt), ((6 : Nat), .ptr (5 : Nat) (0 : Nat)), ((7 : Nat), .sl false (6 : Nat) (0 : Nat) (2 : Nat) y.hs.length (y.hs.length + y.3)), ((8 : Nat), .sl false (10 : Nat) (0 : Nat) (4 : Nat) ((List.take p.l.length (List.drop (0 : Nat) p.l)).length + (1 : Nat)) ((List.take p.l.length (List.drop (0 : Nat) p.l)).length + (1 : Nat) + y_2))], heap := [((10 : Nat), .arr (35 : Nat) Kd.com (List.take p.l.length (List.drop (0 : Nat) p.l) ++ [{act := p.x.act, key := p.x.key, value := p.x.value, hit := p.x.hit : Com }]) y_2), ((5 : Nat), .cells (35 : Nat) [.int .i64 y.d.act, .int .i64 y.d.key, .int .i64 y.d.value, .bool y.d.hit]), ((6 : Nat), .arr (27 : Nat) Kd.pr y.hs y.3), ((4 : Nat), .cells (35 : Nat) [.int .i64 p.x.act, .int .i64 p.x.key, .int .i64 p.x.value, .bool p.x.hit]), ((0 : Nat), .ro Kd.com p.l)], nx := (11 : Nat), nt := (82 : Nat), tl := [(8 : Nat), (7 : Nat), (9 : Nat), (0 : Nat), (1 : Nat), (2 : Nat), (3 : Nat), (4 : Nat), (5 : Nat), (6 : Nat), (7 : Nat), (8 : Nat), (9 : Nat), (10 : Nat), (11 : Nat), (12 : Nat), (13 : Nat), (14 : Nat), (15 : Nat), (16 : Nat), (17 : Nat), (18 : Nat), (19 : Nat), (20 : Nat)] : St V }))))).both (Out.need ((0 : Nat) + p.l.length ≤ p.l.length) (Out.need ((List.take p.l.length (List.drop (0 : Nat) p.l)).length * (32 : Nat) ≤ (140737488355328 : Nat)) (Out.all Nat fun y_1 => Out.need ((0 : Nat) = (0 : Nat) ∧ (List.take p.l.length (List.drop (0 : Nat) p.l)).length = (List.take p.l.length (List.drop (0 : Nat) p.l)).length ∧ (List.take p.l.length (List.drop (0 : Nat) p.l)).length + y_1 = (List.take p.l.length (List.drop (0 : Nat) p.l)).length + y_1 ∧ ((List.take p.l.length (List.drop (0 : Nat) p.l)).length + (1 : Nat)) * (32 : Nat) ≤ (140737488355328 : Nat)) (Out.all Nat fun y_2 => Out.stop EX.nx {env := [((0 : Nat), .sl false (0 : Nat) (0 : Nat) (4 : Nat) p.l.length p.2), ((3 : Nat), .ptr (4 : Nat) (0 : Nat)), ((5 : Nat), .tt), ((6 : Nat), .ptr (5 : Nat) (0 : Nat)), ((7 : Nat), .sl false (6 : Nat) (0 : Nat) (2 : Nat) y.hs.length (y.hs.length + y.3)), ((8 : Nat), .sl false (10 : Nat) (0 : Nat) (4 : Nat) ((List.take p.l.length (List.drop (0 : Nat) p.l)).length + (1 : Nat)) ((List.take p.l.length (List.drop (0 : Nat) p.l)).length + (1 : Nat) + y_2))], heap := [((10 : Nat), .arr (35 : Nat) Kd.com (List.take p.l.length (List.drop (0 : Nat) p.l) ++ [{act := p.x.act, key := p.x.key, value := p.x.value, hit := p.x.hit : Com }]) y_2), ((5 : Nat), .cells (35 : Nat) [.int .i64 y.d.act, .int .i64 y.d.key, .int .i64 y.d.value, .bool y.d.hit]), ((6 : Nat), .arr (27 : Nat) Kd.pr y.hs y.3), ((4 : Nat), .cells (35 : Nat) [.int .i64 p.x.act, .int .i64 p.x.key, .int .i64 p.x.value, .bool p.x.hit]), ((0 : Nat), .ro Kd.com p.l)], nx := (11 : Nat), nt := (82 : Nat), tl := [(8 : Nat), (7 : Nat), (9 : Nat), (0 : Nat), (1 : Nat), (2 : Nat), (3 : Nat), (4 : Nat), (5 : Nat), (6 : Nat), (7 : Nat), (8 : Nat), (9 : Nat), (10 : Nat), (11 : Nat), (12 : Nat), (13 : Nat), (14 : Nat), (15 : Nat), (16 : Nat), (17 : Nat), (18 : Nat), (19 : Nat), (20 : Nat)] : St V })))) := by kernel_rfl

theorem qr6 (p : P5_ × Y5) (b : Nat) : runCode cfgC 60 5 (regOf Try.f5 6) (E52 p b) (stopT (trimSt [0, 3, 5, 6, 7, 8, 9] [0, 4, 5, 6, 7, 8, 9, 10, 11, 12])) = ((Out.need ((0 : Nat) + p.fst.l.length ≤ p.fst.l.length) (Out.need ((List.take p.fst.l.length (List.drop (0 : Nat) p.fst.l)).length * (32 : Nat) ≤ (140737488355328 : Nat)) (Out.all Nat fun y => Out.need ((0 : Nat) = (0 : Nat) ∧ (List.take p.fst.l.length (List.drop (0 : Nat) p.fst.l)).length = (List.take p.fst.l.length (List.drop (0 : Nat) p.fst.l)).length ∧ (List.take p.fst.l.length (List.drop (0 : Nat) p.fst.l)).length + y = (List.take p.fst.l.length (List.drop (0 : Nat) p.fst.l)).length + y ∧ ((List.take p.fst.l.length (List.drop (0 : Nat) p.fst.l)).length + (1 : Nat)) * (32 : Nat) ≤ (140737488355328 : Nat)) (Out.all Nat fun y => Out.stop EX.nx {env := [((0 : Nat), .sl false (0 : Nat) (0 : Nat) (4 : Nat) p.fst.l.length p.fst.2), ((3 : Nat), .ptr (4 : Nat) (0 : Nat)), ((5 : Nat), .tt), ((6 : Nat), .ptr (5 : Nat) (0 : Nat)), ((7 : Nat), .sl false (6 : Nat) (0 : Nat) (2 : Nat) p.snd.hs.length (p.snd.hs.length + p.snd.3)), ((8 : Nat), .sl false (7 : Nat) (0 : Nat) (4 : Nat) (p.fst.l ++ [p.fst.x]).length ((p.fst.l ++ [p.fst.x]).length + b)), ((9 : Nat), .sl false (11 : Nat) (0 : Nat) (4 : Nat) ((List.take p.fst.l.length (List.drop (0 : Nat) p.fst.l)).length + (1 : Nat)) ((List.take p.fst.l.length (List.drop (0 : Nat) p.fst.l)).length + (1 : Nat) + y))], heap := [((11 : Nat), .arr (35 : Nat) Kd.com (List.take p.fst.l.length (List.drop (0 : Nat) p.fst.l) ++ [{act := p.snd.d.act, key := p.snd.d.key, value := p.snd.d.value, hit := p.snd.d.hit : Com }]) y), ((10 : Nat), .cells (35 : Nat) [.int .i64 p.snd.d.act, .int .i64 p.snd.d.key, .int .i64 p.snd.d.value, .bool p.snd.d.hit]), ((8 : Nat), .cells (35 : Nat) []), ((7 : Nat), .arr (35 : Nat) Kd.com (p.fst.l ++ [p.fst.x]) b), ((5 : Nat), .cells (35 : Nat) [.int .i64 p.snd.d.act, .int .i64 p.snd.d.key, .int .i64 p.snd.d.value, .bool p.snd.d.hit]), ((6 : Nat), .arr (27 : Nat) Kd.pr p.snd.hs p.snd.3), ((4 : Nat), .cells (35 : Nat) [.int .i64 p.fst.x.act, .int .i64 p.fst.x.key, .int .i64 p.fst.x.value, .bool p.fst.x.hit]), ((0 : Nat), .ro Kd.com p.fst.l)], nx := (12 : Nat), nt := (82 : Nat), tl := [(9 : Nat), (0 : Nat), (1 : Nat), (2 : Nat), (3 : Nat), (4 : Nat), (5 : Nat), (6 : Nat), (7 : Nat), (8 : Nat), (9 : Nat), (10 : Nat), (11 : Nat), (12 : Nat), (13 : Nat), (14 : Nat), (15 : Nat), (16 : Nat), (17 : Nat), (18 : Nat), (19 : Nat), (20 : Nat)] : St V })))).both (Out.need ((0 : Nat) + p.fst.l.length ≤ p.fst.l.length) (Out.need ((List.take p.fst.l.length (List.drop (0 : Nat) p.fst.l)).length * (32 : Nat) ≤ (140737488355328 : Nat)) (Out.all Nat fun y => Out.need ((0 : Nat) = (0 : Nat) ∧ (List.take p.fst.l.length (List.drop (0 : Nat) p.fst.l)).length = (List.take p.fst.l.length (List.drop (0 : Nat) p.fst.l)).length ∧ (List.take p.fst.l.length (List.drop (0 : Nat) p.fst.l)).length + y = (List.take p.fst.l.length (List.drop (0 : Nat) p.fst.l)).length + y ∧ ((List.take p.fst.l.length (List.drop (0 : Nat) p.fst.l)).length + (1 : Nat)) * (32 : Nat) ≤ (140737488355328 : Nat)) (Out.all Nat fun y => Out.stop EX.nx {env := [((0 : Nat), .sl false (0 : Nat) (0 : Nat) (4 : Nat) p.fst.l.length p.fst.2), ((3 : Nat), .ptr (4 : Nat) (0 : Nat)), ((5 : Nat), .tt), ((6 : Nat), .ptr (5 : Nat) (0 : Nat)), ((7 : Nat), .sl false (6 : Nat) (0 : Nat) (2 : Nat) p.snd.hs.length (p.snd.hs.length + p.snd.3)), ((8 : Nat), .sl false (7 : Nat) (0 : Nat) (4 : Nat) (p.fst.l ++ [p.fst.x]).length ((p.fst.l ++ [p.fst.x]).length + b)), ((9 : Nat), .sl false (11 : Nat) (0 : Nat) (4 : Nat) ((List.take p.fst.l.length (List.drop (0 : Nat) p.fst.l)).length + (1 : Nat)) ((List.take p.fst.l.length (List.drop (0 : Nat) p.fst.l)).length + (1 : Nat) + y))], heap := [((11 : Nat), .arr (35 : Nat) Kd.com (List.take p.fst.l.length (List.drop (0 : Nat) p.fst.l) ++ [{act := p.snd.d.act, key := p.snd.d.key, value := p.snd.d.value, hit := p.snd.d.hit : Com }]) y), ((9 : Nat), .cells (35 : Nat) [.int .i64 p.snd.d.act, .int .i64 p.snd.d.key, .int .i64 p.snd.d.value, .bool p.snd.d.hit]), ((8 : Nat), .cells (35 : Nat) []), ((7 : Nat), .arr (35 : Nat) Kd.com (p.fst.l ++ [p.fst.x]) b), ((5 : Nat), .cells (35 : Nat) [.int .i64 p.snd.d.act, .int .i64 p.snd.d.key, .int .i64 p.snd.d.value, .bool p.snd.d.hit]), ((6 : Nat), .arr (27 : Nat) Kd.pr p.snd.hs p.snd.3), ((4 : Nat), .cells (35 : Nat) [.int .i64 p.fst.x.act, .int .i64 p.fst.x.key, .int .i64 p.fst.x.value, .bool p.fst.x.hit]), ((0 : Nat), .ro Kd.com p.fst.l)], nx := (12 : Nat), nt := (82 : Nat), tl := [(10 : Nat), (0 : Nat), (1 : Nat), (2 : Nat), (3 : Nat), (4 : Nat), (5 : Nat), (6 : Nat), (7 : Nat), (8 : Nat), (9 : Nat), (10 : Nat), (11 : Nat), (12 : Nat), (13 : Nat), (14 : Nat), (15 : Nat), (16 : Nat), (17 : Nat), (18 : Nat), (19 : Nat), (20 : Nat)] : St V }))))).both (Out.need ((0 : Nat) + p.fst.l.length ≤ p.fst.l.length) (Out.need ((List.take p.fst.l.length (List.drop (0 : Nat) p.fst.l)).length * (32 : Nat) ≤ (140737488355328 : Nat)) (Out.all Nat fun y => Out.need ((0 : Nat) = (0 : Nat) ∧ (List.take p.fst.l.length (List.drop (0 : Nat) p.fst.l)).length = (List.take p.fst.l.length (List.drop (0 : Nat) p.fst.l)).length ∧ (List.take p.fst.l.length (List.drop (0 : Nat) p.fst.l)).length + y = (List.take p.fst.l.length (List.drop (0 : Nat) p.fst.l)).length + y ∧ ((List.take p.fst.l.length (List.drop (0 : Nat) p.fst.l)).length + (1 : Nat)) * (32 : Nat) ≤ (140737488355328 : Nat)) (Out.all Nat fun y => Out.stop EX.nx {env := [((0 : Nat), .sl false (0 : Nat) (0 : Nat) (4 : Nat) p.fst.l.length p.fst.2), ((3 : Nat), .ptr (4 : Nat) (0 : Nat)), ((5 : Nat), .tt), ((6 : Nat), .ptr (5 : Nat) (0 : Nat)), ((7 : Nat), .sl false (6 : Nat) (0 : Nat) (2 : Nat) p.snd.hs.length (p.snd.hs.length + p.snd.3)), ((8 : Nat), .sl false (7 : Nat) (0 : Nat) (4 : Nat) (p.fst.l ++ [p.fst.x]).length ((p.fst.l ++ [p.fst.x]).length + b)), ((9 : Nat), .sl false (11 : Nat) (0 : Nat) (4 : Nat) ((List.take p.fst.l.length (List.drop (0 : Nat) p.fst.l)).length + (1 : Nat)) ((List.take p.fst.l.length (List.drop (0 : Nat) p.fst.l)).length + (1 : Nat) + y))], heap := [((11 : Nat), .arr (35 : Nat) Kd.com (List.take p.fst.l.length (List.drop (0 : Nat) p.fst.l) ++ [{act := p.snd.d.act, key := p.snd.d.key, value := p.snd.d.value, hit := p.snd.d.hit : Com }]) y), ((9 : Nat), .cells (35 : Nat) []), ((8 : Nat), .cells (35 : Nat) [.int .i64 p.snd.d.act, .int .i64 p.snd.d.key, .int .i64 p.snd.d.value, .bool p.snd.d.hit]), ((7 : Nat), .arr (35 : Nat) Kd.com (p.fst.l ++ [p.fst.x]) b), ((5 : Nat), .cells (35 : Nat) [.int .i64 p.snd.d.act, .int .i64 p.snd.d.key, .int .i64 p.snd.d.value, .bool p.snd.d.hit]), ((6 : Nat), .arr (27 : Nat) Kd.pr p.snd.hs p.snd.3), ((4 : Nat), .cells (35 : Nat) [.int .i64 p.fst.x.act, .int .i64 p.fst.x.key, .int .i64 p.fst.x.value, .bool p.fst.x.hit]), ((0 : Nat), .ro Kd.com p.fst.l)], nx := (12 : Nat), nt := (82 : Nat), tl := [(10 : Nat), (0 : Nat), (1 : Nat), (2 : Nat), (3 : Nat), (4 : Nat), (5 : Nat), (6 : Nat), (7 : Nat), (8 : Nat), (9 : Nat), (10 : Nat), (11 : Nat), (12 : Nat), (13 : Nat), (14 : Nat), (15 : Nat), (16 : Nat), (17 : Nat), (18 : Nat), (19 : Nat), (20 : Nat)] : St V })))) := by kernel_rfl

theorem qlaw5 (l : List Com) (c : Nat) (x : Com) : runL cfgC5 60 5 Try.f5 [.sl false 0 0 4 l.length c, .agg [.int .i64 x.act, .int .i64 x.key, .int .i64 x.value, .bool x.hit]] [(0, .ro Kd.com l)] 4 = Out.ite (decide ((↑l.length : Int) > (200 : Int))) (Out.fin .tt [] (0 : Nat)) (Out.need ((0 : Nat) + l.length ≤ l.length) (Out.need ((List.take l.length (List.drop (0 : Nat) l)).length ≤ (1073741824 : Nat)) (Out.ite ((↑(legal (List.take l.length (List.drop (0 : Nat) l))) : Int) != (↑l.length : Int)) (Out.fin .tt [] (0 : Nat)) (Out.need (RegFor Try.prog (5 : Nat) (nat_lit 4) (regOf Try.f5 (nat_lit 4)) MR4) (Out.ex (P5_ → Prop) fun y => Out.need ((5 : Nat) ≤ (5 : Nat) ∧ SImp (5 : Nat) {env := [((0 : Nat), .sl false (0 : Nat) (0 : Nat) (4 : Nat) l.length c), ((3 : Nat), .ptr (4 : Nat) (0 : Nat)), ((5 : Nat), .tt)], heap := [((4 : Nat), .cells (35 : Nat) [.int .i64 x.act, .int .i64 x.key, .int .i64 x.value, .bool x.hit]), ((0 : Nat), .ro Kd.com l)], nx := (5 : Nat), nt := (82 : Nat), tl := [] : St V } E50 y) (Out.all P5_ fun y_1 => Out.asm (y y_1) (Out.all Y5 fun y => Out.asm (C4 y_1 y) (Out.need (RegFor Try.prog (5 : Nat) (nat_lit 5) (regOf Try.f5 (nat_lit 5)) MR5) (Out.ex (P5_ × Y5 → Prop) fun y_2 => Out.need ((7 : Nat) ≤ (7 : Nat) ∧ SImp (7 : Nat) {env := [((0 : Nat), .sl false (0 : Nat) (0 : Nat) (4 : Nat) y_1.l.length y_1.2), ((3 : Nat), .ptr (4 : Nat) (0 : Nat)), ((5 : Nat), .tt), ((6 : Nat), .ptr (5 : Nat) (0 : Nat)), ((7 : Nat), .sl false (6 : Nat) (0 : Nat) (2 : Nat) y.hs.length (y.hs.length + y.3))], heap := [((5 : Nat), .cells (35 : Nat) [.int .i64 y.d.act, .int .i64 y.d.key, .int .i64 y.d.value, .bool y.d.hit]), ((6 : Nat), .arr (27 : Nat) Kd.pr y.hs y.3), ((4 : Nat), .cells (35 : Nat) [.int .i64 y_1.x.act, .int .i64 y_1.x.key, .int .i64 y_1.x.value, .bool y_1.x.hit]), ((0 : Nat), .ro Kd.com y_1.l)], nx := (7 : Nat), nt := (82 : Nat), tl := [(0 : Nat), (1 : Nat), (2 : Nat), (3 : Nat), (4 : Nat), (5 : Nat), (6 : Nat), (7 : Nat), (8 : Nat), (9 : Nat), (10 : Nat), (11 : Nat), (12 : Nat), (13 : Nat), (14 : Nat), (15 : Nat), (16 : Nat), (17 : Nat), (18 : Nat), (19 : Nat), (20 : Nat)] : St V } (fun p => E51 p.fst p.snd) y_2) (Out.all (P5_ × Y5) fun y => Out.asm (y_2 y) (Out.all Nat fun y_3 => Out.asm ((fun x x_1 => True) y y_3) (Out.need (RegFor Try.prog (5 : Nat) (nat_lit 6) (regOf Try.f5 (nat_lit 6)) MR6) (Out.ex ((P5_ × Y5) × Nat → Prop) fun y_4 => Out.need ((8 : Nat) ≤ (8 : Nat) ∧ SImp (8 : Nat) {env := [((0 : Nat), .sl false (0 : Nat) (0 : Nat) (4 : Nat) y.fst.l.length y.fst.2), ((3 : Nat), .ptr (4 : Nat) (0 : Nat)), ((5 : Nat), .tt), ((6 : Nat), .ptr (5 : Nat) (0 : Nat)), ((7 : Nat), .sl false (6 : Nat) (0 : Nat) (2 : Nat) y.snd.hs.length (y.snd.hs.length + y.snd.3)), ((8 : Nat), .sl false (7 : Nat) (0 : Nat) (4 : Nat) (y.fst.l ++ [y.fst.x]).length ((y.fst.l ++ [y.fst.x]).length + y_3))], heap := [((7 : Nat), .arr (35 : Nat) Kd.com (y.fst.l ++ [y.fst.x]) y_3), ((5 : Nat), .cells (35 : Nat) [.int .i64 y.snd.d.act, .int .i64 y.snd.d.key, .int .i64 y.snd.d.value, .bool y.snd.d.hit]), ((6 : Nat), .arr (27 : Nat) Kd.pr y.snd.hs y.snd.3), ((4 : Nat), .cells (35 : Nat) [.int .i64 y.fst.x.act, .int .i64 y.fst.x.key, .int .i64 y.fst.x.value, .bool y.fst.x.hit]), ((0 : Nat), .ro Kd.com y.fst.l)], nx := (8 : Nat), nt := (82 : Nat), tl := [(0 : Nat), (1 : Nat), (2 : Nat), (3 : Nat), (4 : Nat), (5 : Nat), (6 : Nat), (7 : Nat), (8 : Nat), (9 : Nat), (10 : Nat), (11 : Nat), (12 : Nat), (13 : Nat), (14 : Nat), (15 : Nat), (16 : Nat), (17 : Nat), (18 : Nat), (19 : Nat), (20 : Nat)] : St V } (fun p => E52 p.fst p.2) y_4) (Out.all ((P5_ × Y5) × Nat) fun y => Out.asm (y_4 y) (Out.all Nat fun y_5 => Out.asm ((fun x x_1 => True) y y_5) (Out.need ((0 : Nat) + (y.fst.fst.l ++ [y.fst.fst.x]).length ≤ (y.fst.fst.l ++ [y.fst.fst.x]).length) (Out.need ((List.take (y.fst.fst.l ++ [y.fst.fst.x]).length (List.drop (0 : Nat) (y.fst.fst.l ++ [y.fst.fst.x]))).length ≤ (1073741824 : Nat)) (Out.ite (y.fst.snd.d.act != (0 : Int)) (Out.need ((0 : Nat) + (y.fst.fst.l ++ [y.fst.snd.d]).length ≤ (y.fst.fst.l ++ [y.fst.snd.d]).length) (Out.need ((List.take (y.fst.fst.l ++ [y.fst.snd.d]).length (List.drop (0 : Nat) (y.fst.fst.l ++ [y.fst.snd.d]))).length ≤ (1073741824 : Nat)) (Out.ite ((↑(legal (List.take (y.fst.fst.l ++ [y.fst.snd.d]).length (List.drop (0 : Nat) (y.fst.fst.l ++ [y.fst.snd.d])))) : Int) != (↑(y.fst.fst.l ++ [y.fst.snd.d]).length : Int)) (Out.fin .ff [] (0 : Nat)) (Out.need ((0 : Nat) + (y.fst.fst.l ++ [y.fst.snd.d]).length ≤ (y.fst.fst.l ++ [y.fst.snd.d]).length) (Out.need ((List.take (y.fst.fst.l ++ [y.fst.snd.d]).length (List.drop (0 : Nat) (y.fst.fst.l ++ [y.fst.snd.d]))).length ≤ (1073741824 : Nat) ∧ ∀ (c : V.El Kd.com), c ∈ List.take (y.fst.fst.l ++ [y.fst.snd.d]).length (List.drop (0 : Nat) (y.fst.fst.l ++ [y.fst.snd.d])) → inR c.key) (Out.all (List Pr × Nat) fun y_6 => Out.asm (y_6.fst = rowsOf (runM (List.take (y.fst.fst.l ++ [y.fst.snd.d]).length (List.drop (0 : Nat) (y.fst.fst.l ++ [y.fst.snd.d]))) []).snd) (Out.need ((0 : Nat) + y_6.fst.length ≤ y_6.fst.length) (Out.need ((0 : Nat) + y.fst.snd.hs.length ≤ y.fst.snd.hs.length) (Out.need ((List.take y_6.fst.length (List.drop (0 : Nat) y_6.fst)).length ≤ (1099511627776 : Nat)) (Out.ite (!decide (List.take y_6.fst.length (List.drop (0 : Nat) y_6.fst) = List.take y.fst.snd.hs.length (List.drop (0 : Nat) y.fst.snd.hs))) (Out.fin .ff [] (0 : Nat)) (Out.ite (y.fst.snd.d.act != (0 : Int)) (Out.fin (.bool (((↑(legal (List.take (y.fst.fst.l ++ [y.fst.fst.x]).length (List.drop (0 : Nat) (y.fst.fst.l ++ [y.fst.fst.x])))) : Int) == (↑(y.fst.fst.l ++ [y.fst.fst.x]).length : Int)) == (y.fst.snd.d.act == y.fst.fst.x.act && (y.fst.snd.d.key == y.fst.fst.x.key && (y.fst.snd.d.value == y.fst.fst.x.value && (y.fst.snd.d.hit == y.fst.fst.x.hit && true)))))) [] (0 : Nat)) (Out.fin (.bool (((↑(legal (List.take (y.fst.fst.l ++ [y.fst.fst.x]).length (List.drop (0 : Nat) (y.fst.fst.l ++ [y.fst.fst.x])))) : Int) == (↑(y.fst.fst.l ++ [y.fst.fst.x]).length : Int)) == false)) [] (0 : Nat))))))))))))) (Out.ite (y.fst.snd.d.act != (0 : Int)) (Out.fin (.bool (((↑(legal (List.take (y.fst.fst.l ++ [y.fst.fst.x]).length (List.drop (0 : Nat) (y.fst.fst.l ++ [y.fst.fst.x])))) : Int) == (↑(y.fst.fst.l ++ [y.fst.fst.x]).length : Int)) == (y.fst.snd.d.act == y.fst.fst.x.act && (y.fst.snd.d.key == y.fst.fst.x.key && (y.fst.snd.d.value == y.fst.fst.x.value && (y.fst.snd.d.hit == y.fst.fst.x.hit && true)))))) [] (0 : Nat)) (Out.fin (.bool (((↑(legal (List.take (y.fst.fst.l ++ [y.fst.fst.x]).length (List.drop (0 : Nat) (y.fst.fst.l ++ [y.fst.fst.x])))) : Int) == (↑(y.fst.fst.l ++ [y.fst.fst.x]).length : Int)) == false)) [] (0 : Nat))))))))))))))))))))) := by kernel_rfl

end Sx
end Go.Proofs.Ythabfkcmhffjoaa

/-
  One more commit: the law.
-/
namespace Go.Proofs.Ythabfkcmhffjoaa
namespace Sx
open Go
set_option linter.unusedSimpArgs false
set_option linter.unusedVariables false

theorem hStateV : HookOk Try.prog 10 (hookFree [.rows Kd.com] runStateV) := by
  refine HookOk.free hState fun M ar K H => ?_
  unfold runStateV at H
  split at H
  · exact ⟨H.1, fun sp => H.2 (_, sp) rfl⟩
  · exact H.elim
theorem hSAnswerV : HookOk Try.prog 21 (hookFree [.rows Kd.pr, .int .i64, .int .i64, .int .i64] runSAnswerV) := by
  refine HookOk.free hSAnswer fun M ar K H => ?_
  unfold runSAnswerV at H
  split at H
  · exact ⟨H.1, fun sp => H.2 (_, _, sp) ⟨rfl, rfl⟩⟩
  · exact H.elim
theorem hooksC_ok : ∀ g H, hooksC g = some H → HookOk Try.prog g H := by
  intro g H h
  unfold hooksC at h
  split at h
  · cases h; exact hStateV
  · cases h; exact hSAnswerV
  · exact hooksB_ok _ _ h
theorem cfgC_ok : cfgC.ok := ⟨tab_met, kinds_met, mixed_met, fun g fn h => (by cases h), hooksC_ok⟩
theorem cfgC5_ok : cfgC5.ok := ⟨tab_met, kinds_met, mixed_met, fun g fn h => (by cases h), hooksC_ok⟩

/-! ## plain -/
theorem ans_again (g : Option Int) (d k v : Int) (h : (ansC g d k v).act ≠ 0) : okC g (ansC g d k v) := by
  refine ⟨?_, h⟩
  unfold ansC at h ⊢
  by_cases h1 : d = 2
  · simp [h1]
  · rw [if_neg h1] at h ⊢
    by_cases h2 : d = 1 ∨ d = 3
    · rw [if_pos h2]; simp [h1, h2]
    · rw [if_neg h2] at h ⊢
      by_cases h3 : d = 4 ∧ g.isSome = true
      · rw [if_pos h3]; simp [h3]
      · rw [if_neg h3] at h; exact absurd rfl h
theorem ans_key (g : Option Int) (d k v : Int) (h : (ansC g d k v).act ≠ 0) : (ansC g d k v).key = k := by
  unfold ansC at h ⊢
  split
  · rfl
  · split
    · rfl
    · split
      · rfl
      · rename_i a b c
        rw [if_neg a, if_neg b, if_neg c] at h; exact absurd rfl h
theorem ans_inR (g : Option Int) (d k v : Int) (h : inR k) : inR (ansC g d k v).key := by
  unfold ansC
  split
  · exact h
  · split
    · exact h
    · split
      · exact h
      · show inR 0
        unfold inR; decide
theorem mapL_get (l : List Com) (k : Int) : mget (mapL l) k = mget (runM l []).2 k := by
  have A := state_alike l
  have B := of_alike _ A.srt
  unfold mapL
  rw [← B.get, A.get]
theorem state_val {l : List Com} (hl : legal l = l.length) (k : Int) : mget (runM l []).2 k = vAt l k := by
  rw [state_is, hl, List.take_length, fold_vAt]
theorem next_same (l : List Com) (d k v : Int) : rowsOf (doM (mapL l) (ansC (mget (mapL l) k) d k v)) = rowsOf (doM (runM l []).2 (ansC (mget (mapL l) k) d k v)) := by
  have A := state_alike l
  have B := of_alike _ A.srt
  have e : mget (mapL l) k = rget (rowsOf (runM l []).2) k := by rw [mapL_get, A.get]
  rw [e, next_rows A d k v]
  exact next_rows B d k v
theorem state_app {l : List Com} (hl : legal l = l.length) {d : Com} (hd : okC (vAt l d.key) d) : (runM (l ++ [d]) []).2 = doM (runM l []).2 d := by
  have h2 : legal (l ++ [d]) = (l ++ [d]).length := by rw [legal_app hl, if_pos hd, List.length_append, List.length_singleton]
  rw [state_is, state_is, h2, hl, List.take_length, List.take_length, List.foldl_append]
  rfl

/-! ## regions -/
theorem mr4_ok : RegOk Try.prog (regOf Try.f5 4) MR4 := by
  refine trimReg_ok (trim_ok _ _) (regT_ok (C := cfgC) cfgC_ok (f := 5) (n := 60) (trim_ok [0, 3, 5, 6, 7] [0, 4, 5, 6, 7, 8]) 5 E50 C4 E51 fun p => ?_)
  rw [qr4]
  rw [show List.take p.l.length (List.drop 0 p.l) = p.l from take_allQ p.l]
  obtain ⟨k1, k2⟩ := run_keys p.l (m := []) (fun p h => by cases h) p.hk
  simp only [List.length_nil] at k2
  have hro := rowsOf_len (runM p.l []).2
  have hkr := rows_keys k1
  have hb := p.hb
  have hx := p.hx
  have fin : ∀ (R : List Pr) (y : Com × List Pr × Nat), R = rowsOf (runM p.l []).2 → (y.1 = ansC (mget (mapOfRows (List.take R.length (List.drop 0 R))) p.x.key) p.x.act p.x.key p.x.value ∧ y.2.1 = rowsOf (doM (mapOfRows (List.take R.length (List.drop 0 R))) y.1)) → C4 p ⟨y.1, y.2.1, y.2.2⟩ := by
    intro R y hR hy
    rw [show List.take R.length (List.drop 0 R) = R from take_allQ R] at hy
    subst hR; exact hy
  have len : ∀ R : List Pr, R = rowsOf (runM p.l []).2 → (List.take R.length (List.drop 0 R)).length ≤ 1073741824 := by
    intro R hR
    rw [show List.take R.length (List.drop 0 R) = R from take_allQ R, hR]; omega
  have keys : ∀ R : List Pr, R = rowsOf (runM p.l []).2 → ∀ p ∈ List.take R.length (List.drop 0 R), inR p.k := by
    intro R hR
    rw [show List.take R.length (List.drop 0 R) = R from take_allQ R, hR]; exact hkr
  simp only [Out.holds, decide_eq_true_eq, decide_eq_false_iff_not, beq_iff_eq, beq_eq_false_iff_ne, bne_iff_ne, ne_eq, bne_eq_false_iff_eq, Bool.true_and, Bool.and_true, Bool.not_eq_true', Bool.not_eq_false', Bool.and_eq_true, Bool.or_eq_true, Bool.and_eq_false_imp, true_implies, true_and, Bool.not_true, Bool.not_false, Bool.false_eq_true, Bool.true_eq_false, false_implies, and_true, beq_self_eq_true, Decidable.not_not, not_true_eq_false, not_false_eq_true]
  refine ⟨⟨by omega, ⟨by omega, p.hk⟩, fun z hz => ⟨⟨by omega, ⟨len _ hz, keys _ hz, hx⟩, fun y hy => ?_⟩, by omega, ⟨len _ hz, keys _ hz, hx⟩, fun y hy => ?_⟩⟩, by omega, ⟨by omega, p.hk⟩, fun z hz => ⟨by omega, ⟨len _ hz, keys _ hz, hx⟩, fun y hy => ?_⟩⟩
  · exact SImp.of_wk (ren := [(5, 7), (6, 6)]) ⟨y.1, y.2.1, y.2.2⟩ (by (refine ⟨?_, ?_, rfl, tl_ok rfl, ?_, ⟨Nat.le_of_ble_eq_true rfl, rfl⟩⟩ <;> (repeat' first | with_reducible exact trivial | exact AV.sub_same _ | exact .same _ | exact .inr rfl | exact .inl (in_ok rfl) | exact AV.sub_lit' | exact AV.sub_nilS | exact .none _ _ | exact trivial | refine ⟨?_, ?_⟩))) (fin _ _ hz hy)
  · exact SImp.of_wk (ren := [(5, 6), (6, 7)]) ⟨y.1, y.2.1, y.2.2⟩ (by (refine ⟨?_, ?_, rfl, tl_ok rfl, ?_, ⟨Nat.le_of_ble_eq_true rfl, rfl⟩⟩ <;> (repeat' first | with_reducible exact trivial | exact AV.sub_same _ | exact .same _ | exact .inr rfl | exact .inl (in_ok rfl) | exact AV.sub_lit' | exact AV.sub_nilS | exact .none _ _ | exact trivial | refine ⟨?_, ?_⟩))) (fin _ _ hz hy)
  · exact SImp.of_wk (ren := [(5, 5), (6, 7)]) ⟨y.1, y.2.1, y.2.2⟩ (by (refine ⟨?_, ?_, rfl, tl_ok rfl, ?_, ⟨Nat.le_of_ble_eq_true rfl, rfl⟩⟩ <;> (repeat' first | with_reducible exact trivial | exact AV.sub_same _ | exact .same _ | exact .inr rfl | exact .inl (in_ok rfl) | exact AV.sub_lit' | exact AV.sub_nilS | exact .none _ _ | exact trivial | refine ⟨?_, ?_⟩))) (fin _ _ hz hy)
theorem mr5_ok : RegOk Try.prog (regOf Try.f5 5) MR5 := by
  refine trimReg_ok (trim_ok _ _) (regT_ok (C := cfgC) cfgC_ok (f := 5) (n := 60) (trim_ok [0, 3, 5, 6, 7, 8] [0, 4, 5, 6, 10]) 7 (fun p : P5_ × Y5 => E51 p.1 p.2) (fun _ (_ : Nat) => True) E52 fun p => ?_)
  rw [qr5]
  rw [show List.take p.1.l.length (List.drop 0 p.1.l) = p.1.l from take_allQ p.1.l]
  have hb := p.1.hb
  have el : (p.1.l ++ [p.1.x]).length = p.1.l.length + 1 := by rw [List.length_append, List.length_singleton]
  simp only [Out.holds, decide_eq_true_eq, decide_eq_false_iff_not, beq_iff_eq, beq_eq_false_iff_ne, bne_iff_ne, ne_eq, bne_eq_false_iff_eq, Bool.true_and, Bool.and_true, Bool.not_eq_true', Bool.not_eq_false', Bool.and_eq_true, Bool.or_eq_true, Bool.and_eq_false_imp, true_implies, true_and, Bool.not_true, Bool.not_false, Bool.false_eq_true, Bool.true_eq_false, false_implies, and_true, beq_self_eq_true, Decidable.not_not, not_true_eq_false, not_false_eq_true]
  repeat' first
    | apply And.intro
    | refine (fun b => SImp.of_wk (ren := [(7, 10)]) b ?_ trivial)
    | intro _
  all_goals first
    | omega
    | ((refine ⟨?_, ?_, rfl, tl_ok rfl, ?_, ⟨Nat.le_of_ble_eq_true rfl, rfl⟩⟩ <;> (repeat' first | with_reducible exact trivial | ((exact AV.sub_sl (by omega) (by omega))) | exact AV.sub_same _ | exact .same _ | exact .inr rfl | exact .inl (in_ok rfl) | exact AV.sub_lit' | exact AV.sub_nilS | exact .none _ _ | exact trivial | refine ⟨?_, ?_⟩)); done)
    | skip
theorem mr6_ok : RegOk Try.prog (regOf Try.f5 6) MR6 := by
  refine trimReg_ok (trim_ok _ _) (regT_ok (C := cfgC) cfgC_ok (f := 5) (n := 60) (trim_ok [0, 3, 5, 6, 7, 8, 9] [0, 4, 5, 6, 7, 8, 9, 10, 11, 12]) 8 (fun p : (P5_ × Y5) × Nat => E52 p.1 p.2) (fun _ (_ : Nat) => True) (fun p b => E53 p.1 (p.2, b)) fun p => ?_)
  rw [qr6]
  rw [show List.take p.1.1.l.length (List.drop 0 p.1.1.l) = p.1.1.l from take_allQ p.1.1.l]
  have hb := p.1.1.hb
  have el : (p.1.1.l ++ [p.1.2.d]).length = p.1.1.l.length + 1 := by rw [List.length_append, List.length_singleton]
  simp only [Out.holds, decide_eq_true_eq, decide_eq_false_iff_not, beq_iff_eq, beq_eq_false_iff_ne, bne_iff_ne, ne_eq, bne_eq_false_iff_eq, Bool.true_and, Bool.and_true, Bool.not_eq_true', Bool.not_eq_false', Bool.and_eq_true, Bool.or_eq_true, Bool.and_eq_false_imp, true_implies, true_and, Bool.not_true, Bool.not_false, Bool.false_eq_true, Bool.true_eq_false, false_implies, and_true, beq_self_eq_true, Decidable.not_not, not_true_eq_false, not_false_eq_true]
  repeat' first
    | apply And.intro
    | refine (fun b => SImp.of_wk (ren := [(8, 11)]) b ?_ trivial)
    | intro _
  all_goals first
    | omega
    | ((refine ⟨?_, ?_, rfl, tl_ok rfl, ?_, ⟨Nat.le_of_ble_eq_true rfl, rfl⟩⟩ <;> (repeat' first | with_reducible exact trivial | ((exact AV.sub_sl (by omega) (by omega))) | exact AV.sub_same _ | exact .same _ | exact .inr rfl | exact .inl (in_ok rfl) | exact AV.sub_lit' | exact AV.sub_nilS | exact .none _ _ | exact trivial | refine ⟨?_, ?_⟩)); done)
    | skip

end Sx
end Go.Proofs.Ythabfkcmhffjoaa

/-
  One more commit: the law, as the machine tells it.
-/
namespace Go.Proofs.Ythabfkcmhffjoaa
namespace Sx
open Go
set_option linter.unusedSimpArgs false
set_option linter.unusedVariables false

theorem qwalk5 (l : List Com) (c : Nat) (x : Com) (hl : ∀ c ∈ l, inR c.key) (hk : inR x.key) (F : AV → Heap V → Nat → Prop) (htt : F .tt [] 0) (hF : ∀ b : Bool, b = true → F (.bool b) [] 0) :
    (runL cfgC5 60 5 Try.f5 [.sl false 0 0 4 l.length c, .agg [.int .i64 x.act, .int .i64 x.key, .int .i64 x.value, .bool x.hit]] [(0, .ro Kd.com l)] 4).holds ⟨fun _ _ => False, F⟩ := by
  rw [qlaw5]
  rw [show List.take l.length (List.drop 0 l) = l from take_allQ l]
  refine ⟨fun _ => htt, fun h1 => ?_⟩
  have hb : l.length ≤ 200 := by have := of_decide_eq_false h1; omega
  refine ⟨by omega, by omega, fun _ => htt, fun h2 => ?_⟩
  have h2 : legal l = l.length := by
    have : ((legal l : Int) != (l.length : Int)) = false := h2
    simp only [bne_eq_false_iff_eq] at this; omega
  let p : P5_ := ⟨l, c, hb, hl, x, hk⟩
  refine ⟨mr4_ok, fun q => q = p, ⟨by decide, SImp.of_wk (ren := []) p (by (refine ⟨?_, ?_, rfl, tl_ok rfl, ?_, ⟨Nat.le_of_ble_eq_true rfl, rfl⟩⟩ <;> (repeat' first | with_reducible exact trivial | exact AV.sub_same _ | exact .same _ | exact .inr rfl | exact .inl (in_ok rfl) | exact AV.sub_lit' | exact AV.sub_nilS | exact .none _ _ | exact trivial | refine ⟨?_, ?_⟩))) rfl⟩, ?_⟩
  rintro _ rfl y hy
  refine ⟨mr5_ok, fun q => q = (p, y), ⟨by decide, SImp.of_wk (ren := []) (p, y) (by (refine ⟨?_, ?_, rfl, tl_ok rfl, ?_, ⟨Nat.le_of_ble_eq_true rfl, rfl⟩⟩ <;> (repeat' first | with_reducible exact trivial | exact AV.sub_same _ | exact .same _ | exact .inr rfl | exact .inl (in_ok rfl) | exact AV.sub_lit' | exact AV.sub_nilS | exact .none _ _ | exact trivial | refine ⟨?_, ?_⟩))) rfl⟩, ?_⟩
  rintro _ rfl b _
  refine ⟨mr6_ok, fun q => q = ((p, y), b), ⟨by decide, SImp.of_wk (ren := []) ((p, y), b) (by (refine ⟨?_, ?_, rfl, tl_ok rfl, ?_, ⟨Nat.le_of_ble_eq_true rfl, rfl⟩⟩ <;> (repeat' first | with_reducible exact trivial | exact AV.sub_same _ | exact .same _ | exact .inr rfl | exact .inl (in_ok rfl) | exact AV.sub_lit' | exact AV.sub_nilS | exact .none _ _ | exact trivial | refine ⟨?_, ?_⟩))) rfl⟩, ?_⟩
  rintro _ rfl b2 _
  show Out.holds _ _
  dsimp only [p]
  obtain ⟨d, hs, sp⟩ := y
  obtain ⟨y1, y2⟩ := hy
  dsimp only [p] at y1 y2 ⊢
  rw [show List.take (l ++ [x]).length (List.drop 0 (l ++ [x])) = l ++ [x] from take_allQ _]
  rw [show List.take (l ++ [d]).length (List.drop 0 (l ++ [d])) = l ++ [d] from take_allQ _]
  rw [show List.take hs.length (List.drop 0 hs) = hs from take_allQ _]
  have hg : mget (mapL l) x.key = vAt l x.key := by rw [mapL_get, state_val h2]
  have e1 : (l ++ [x]).length = l.length + 1 := by rw [List.length_append, List.length_singleton]
  have e2 : (l ++ [d]).length = l.length + 1 := by rw [List.length_append, List.length_singleton]
  have hd : d.act ≠ 0 → okC (vAt l d.key) d := fun h => by
    have h' := h
    rw [y1] at h'
    have hkk := ans_key _ _ _ _ h'
    rw [← y1] at hkk
    rw [hkk, ← hg]
    have := ans_again _ _ _ _ h'
    rw [← y1] at this
    exact this
  have hdR : inR d.key := by rw [y1]; exact ans_inR _ _ _ _ hk
  have hs2 : d.act ≠ 0 → rowsOf (runM (l ++ [d]) []).2 = hs := fun h => by
    rw [state_app h2 (hd h), y2, y1, ← next_same]
  have hL2 : d.act ≠ 0 → legal (l ++ [d]) = l.length + 1 := fun h => by rw [legal_app h2, if_pos (hd h)]
  have hLx : legal (l ++ [x]) = if d.act ≠ 0 ∧ d = x then l.length + 1 else l.length := by
    rw [legal_app h2]
    have : okC (vAt l x.key) x ↔ d.act ≠ 0 ∧ d = x := by
      rw [← hg]
      unfold okC
      rw [← y1]
      constructor
      · rintro ⟨a, b⟩; exact ⟨by rw [a]; exact b, a⟩
      · rintro ⟨a, b⟩; exact ⟨b, by rw [← b]; exact a⟩
    by_cases hh : okC (vAt l x.key) x
    · rw [if_pos hh, if_pos (this.1 hh)]
    · rw [if_neg hh, if_neg (fun k => hh (this.2 k))]
  have hall : ∀ c ∈ l ++ [d], inR c.key := fun c hc => by
    rcases List.mem_append.1 hc with h | h
    · exact hl c h
    · rw [List.mem_singleton.1 h]; exact hdR
  have hrl : (rowsOf (runM (l ++ [d]) []).2).length ≤ 1000 := by
    obtain ⟨k1, k2⟩ := run_keys (l ++ [d]) (m := []) (fun p h => by cases h) hall
    simp only [List.length_nil] at k2
    rw [rowsOf_len]; omega
  have fz : d.act ≠ 0 → F (.bool (((legal (l ++ [x]) : Int) == ((l ++ [x]).length : Int)) == (d.act == x.act && (d.key == x.key && (d.value == x.value && (d.hit == x.hit && true)))))) [] 0 := fun h => by
    refine hF _ ?_
    rw [hLx, e1]
    by_cases hx : d = x
    · rw [if_pos ⟨h, hx⟩, hx]; simp
    · rw [if_neg (fun k => hx k.2)]
      have : (d.act == x.act && (d.key == x.key && (d.value == x.value && (d.hit == x.hit && true)))) = false := by
        rw [Bool.eq_false_iff]
        intro k
        simp only [Bool.and_eq_true, beq_iff_eq, and_true] at k
        exact hx (com_extQ ⟨k.1, k.2.1, k.2.2.1, k.2.2.2⟩)
      rw [this]
      have : ((l.length : Int) == ((l.length + 1 : Nat) : Int)) = false := by rw [Bool.eq_false_iff]; intro k; have := eq_of_beq k; omega
      rw [this]; rfl
  have f0 : d.act = 0 → F (.bool (((legal (l ++ [x]) : Int) == ((l ++ [x]).length : Int)) == false)) [] 0 := fun h => by
    refine hF _ ?_
    rw [hLx, e1, if_neg (fun k => k.1 h)]
    have : ((l.length : Int) == ((l.length + 1 : Nat) : Int)) = false := by rw [Bool.eq_false_iff]; intro k; have := eq_of_beq k; omega
    rw [this]; rfl
  simp only [Out.holds, bne_iff_ne, bne_eq_false_iff_eq, ne_eq, Bool.not_eq_true', Bool.not_eq_false', decide_eq_true_eq, decide_eq_false_iff_not] at hd hs2 hL2 fz ⊢
  refine ⟨by omega, by omega, fun h => ⟨by omega, by omega, fun hh => absurd (by rw [hL2 h, e2]) hh, fun _ => ⟨by omega, ⟨by omega, hall⟩, fun z hz => ?_⟩⟩, fun h => ?_⟩
  · have hz' : z.1 = hs := hz.trans (hs2 h)
    have hzl : z.1.length ≤ 1000 := by rw [hz]; exact hrl
    rw [show List.take z.1.length (List.drop 0 z.1) = z.1 from take_allQ _]
    exact ⟨by omega, by omega, by omega, fun k => absurd hz' k, fun _ => ⟨fz, f0⟩⟩
  · exact ⟨fz, f0⟩
theorem qone_law (l : List Com) (c : Nat) (x : Com) (hb : ∀ c ∈ l, inR c.key) (hk : inR x.key) : CallsSx Try.prog 5 [.sl false 0 0 4 l.length c, .agg [.int .i64 x.act, .int .i64 x.key, .int .i64 x.value, .bool x.hit]] ([(0, .ro Kd.com l)] : Heap V) 4 (fun v _ _ _ => v.sub .tt) := by
  refine calls_runL (args := [.sl false 0 0 4 l.length c, .agg [.int .i64 x.act, .int .i64 x.key, .int .i64 x.value, .bool x.hit]]) cfgC5_ok (n := 60) (fn := Try.f5) ⟨by kernel_rfl, by kernel_rfl⟩ (by kernel_rfl) (show 2 ≤ _ by decide +kernel) ?_
  exact qwalk5 l c x hb hk _ (AV.sub_same _) (fun b h r z hz => hz.trans (congrArg Value.bool h))

end Sx
end Go.Proofs.Ythabfkcmhffjoaa

