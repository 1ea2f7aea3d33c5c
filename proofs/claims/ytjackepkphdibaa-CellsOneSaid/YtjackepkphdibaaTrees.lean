/-
  What the words and locks of this seat do, call by call: the runs of the machine.
-/
import Derived.Test.YtjackepkphdibaaCfg
import Derived.KernelRfl
namespace Go.Proofs.Ytjackepkphdibaa
namespace Sx
open Go

noncomputable def fns0 : Nat → Option Func := fun g => match g with
  | 25 => some Try.f25 | 26 => some Try.f26 | 27 => some Try.f27 | 28 => some Try.f28 | 29 => some Try.f29 | 36 => some Try.f36
  | 37 => some Try.f37 | 38 => some Try.f38 | 39 => some Try.f39
  | _ => none
noncomputable def cfg0 : Cfg Try.prog V := ⟨tab, kinds, fns0, fun _ => none, fun _ _ => none⟩
noncomputable def runF (C : Cfg Try.prog V) (n g : Nat) (fn : Func) (args : List AV) (h : Heap V) (nx : Nat) : Out V :=
  match fn.body with
  | some b => runCode C n g b ⟨argsEnv 0 args, h, nx, fn.ntmps, []⟩ (fun e s' => match e with
     | .nx => resAll C.τ fn s' fun v => .fin v s'.heap s'.nx
     | .rt => resAll C.τ fn s' fun v => .fin v s'.heap s'.nx
     | .ex _ => .bad 301)
  | none => .bad 0

theorem cfg0_ok : cfg0.ok := by
  refine ⟨tab_met, kinds_met, mixed_met, fun g fn h => ?_, fun g H h => by cases h⟩
  unfold cfg0 fns0 at h
  simp only at h
  split at h <;> cases h <;> exact ⟨by kernel_rfl, by kernel_rfl⟩
set_option maxRecDepth 100000
set_option linter.unusedVariables false
theorem t21 (s : MC) (sw sl sg : Nat) (t k : Int) : runF cfg0 40 21 Try.f21 [.ptr 0 0, .int .i64 t, .int .i64 k] (cUp s sw sl sg) 6 =
  Out.ite (decide (k < 0))
    (Out.fin (AV.tup [AV.lit IntKind.i64 0, AV.lit IntKind.i64 1])
      [(0,
          Blk.cells 56
            [AV.sl false 1 0 1 s.words.length (s.words.length + sw), AV.sl false 2 0 2 s.locks.length (s.locks.length + sl),
              AV.sl false 3 0 5 s.log.length (s.log.length + sg)]),
        (1, Blk.arr 3 Kd.int s.words sw), (2, Blk.arr 62 Kd.holder s.locks sl), (3, Blk.arr 45 Kd.deed s.log sg)]
      6)
    (Out.ite (decide (k ≥ (↑s.words.length : Int)))
      (Out.fin (AV.tup [AV.lit IntKind.i64 0, AV.lit IntKind.i64 1])
        [(0,
            Blk.cells 56
              [AV.sl false 1 0 1 s.words.length (s.words.length + sw), AV.sl false 2 0 2 s.locks.length (s.locks.length + sl),
                AV.sl false 3 0 5 s.log.length (s.log.length + sg)]),
          (1, Blk.arr 3 Kd.int s.words sw), (2, Blk.arr 62 Kd.holder s.locks sl), (3, Blk.arr 45 Kd.deed s.log sg)]
        6)
      (Out.need (0 ≤ k ∧ k < (↑s.words.length : Int))
        (Out.need (0 + k.toNat < s.words.length)
          (Out.need (0 + k.toNat < s.words.length)
            (Out.need (0 = 0 ∧ s.log.length = s.log.length ∧ s.log.length + sg = s.log.length + sg ∧ (s.log.length + 1) * 40 ≤ 140737488355328)
              (Out.all Nat fun y =>
                Out.need (0 + k.toNat < s.words.length)
                  (Out.fin (AV.tup [AV.int IntKind.i64 (s.words.getD (0 + k.toNat) (V.enc Kd.int).dflt), AV.lit IntKind.i64 0])
                    [(8,
                        Blk.arr 45 Kd.deed
                          (s.log ++
                            [{ thread := t, act := 1, cell := k, before := s.words.getD (0 + k.toNat) (V.enc Kd.int).dflt,
                                after := s.words.getD (0 + k.toNat) (V.enc Kd.int).dflt }])
                          y),
                      (7,
                        Blk.cells 45
                          [AV.int IntKind.i64 t, AV.lit IntKind.i64 1, AV.int IntKind.i64 k, AV.int IntKind.i64 (s.words.getD (0 + k.toNat) (V.enc Kd.int).dflt),
                            AV.int IntKind.i64 (s.words.getD (0 + k.toNat) (V.enc Kd.int).dflt)]),
                      (6,
                        Blk.cells 45
                          [AV.int IntKind.i64 t, AV.lit IntKind.i64 1, AV.int IntKind.i64 k, AV.int IntKind.i64 (s.words.getD (0 + k.toNat) (V.enc Kd.int).dflt),
                            AV.int IntKind.i64 (s.words.getD (0 + k.toNat) (V.enc Kd.int).dflt)]),
                      (0,
                        Blk.cells 56
                          [AV.sl false 1 0 1 s.words.length (s.words.length + sw), AV.sl false 2 0 2 s.locks.length (s.locks.length + sl),
                            AV.sl false 8 0 5 (s.log.length + 1) (s.log.length + 1 + y)]),
                      (1, Blk.arr 3 Kd.int s.words sw), (2, Blk.arr 62 Kd.holder s.locks sl)]
                    10))))))) := by kernel_rfl

theorem t22 (s : MC) (sw sl sg : Nat) (t k v : Int) : runF cfg0 40 22 Try.f22 [.ptr 0 0, .int .i64 t, .int .i64 k, .int .i64 v] (cUp s sw sl sg) 7 =
  Out.ite (decide (k < 0))
    (Out.fin (AV.lit IntKind.i64 1)
      [(0,
          Blk.cells 56
            [AV.sl false 1 0 1 s.words.length (s.words.length + sw), AV.sl false 2 0 2 s.locks.length (s.locks.length + sl),
              AV.sl false 3 0 5 s.log.length (s.log.length + sg)]),
        (1, Blk.arr 3 Kd.int s.words sw), (2, Blk.arr 62 Kd.holder s.locks sl), (3, Blk.arr 45 Kd.deed s.log sg)]
      7)
    (Out.ite (decide (k ≥ (↑s.words.length : Int)))
      (Out.fin (AV.lit IntKind.i64 1)
        [(0,
            Blk.cells 56
              [AV.sl false 1 0 1 s.words.length (s.words.length + sw), AV.sl false 2 0 2 s.locks.length (s.locks.length + sl),
                AV.sl false 3 0 5 s.log.length (s.log.length + sg)]),
          (1, Blk.arr 3 Kd.int s.words sw), (2, Blk.arr 62 Kd.holder s.locks sl), (3, Blk.arr 45 Kd.deed s.log sg)]
        7)
      (Out.need (0 ≤ k ∧ k < (↑s.words.length : Int))
        (Out.need (0 + k.toNat < s.words.length)
          (Out.need (0 = 0 ∧ s.log.length = s.log.length ∧ s.log.length + sg = s.log.length + sg ∧ (s.log.length + 1) * 40 ≤ 140737488355328)
            (Out.all Nat fun y =>
              Out.need (0 + k.toNat < s.words.length)
                (Out.fin (AV.lit IntKind.i64 0)
                  [(9,
                      Blk.arr 45 Kd.deed (s.log ++ [{ thread := t, act := 2, cell := k, before := s.words.getD (0 + k.toNat) (V.enc Kd.int).dflt, after := v }])
                        y),
                    (8,
                      Blk.cells 45
                        [AV.int IntKind.i64 t, AV.lit IntKind.i64 2, AV.int IntKind.i64 k, AV.int IntKind.i64 (s.words.getD (0 + k.toNat) (V.enc Kd.int).dflt),
                          AV.int IntKind.i64 v]),
                    (7,
                      Blk.cells 45
                        [AV.int IntKind.i64 t, AV.lit IntKind.i64 2, AV.int IntKind.i64 k, AV.int IntKind.i64 (s.words.getD (0 + k.toNat) (V.enc Kd.int).dflt),
                          AV.int IntKind.i64 v]),
                    (0,
                      Blk.cells 56
                        [AV.sl false 1 0 1 s.words.length (s.words.length + sw), AV.sl false 2 0 2 s.locks.length (s.locks.length + sl),
                          AV.sl false 9 0 5 (s.log.length + 1) (s.log.length + 1 + y)]),
                    (1, Blk.arr 3 Kd.int (s.words.set (0 + k.toNat) v) sw), (2, Blk.arr 62 Kd.holder s.locks sl)]
                  12)))))) := by kernel_rfl

theorem t10 (s : MC) (sw sl sg : Nat) (t k o v : Int) : runF cfg0 40 10 Try.f10 [.ptr 0 0, .int .i64 t, .int .i64 k, .int .i64 o, .int .i64 v] (cUp s sw sl sg) 8 =
  Out.ite (decide (k < 0))
    (Out.fin (AV.tup [AV.ff, AV.lit IntKind.i64 1])
      [(0,
          Blk.cells 56
            [AV.sl false 1 0 1 s.words.length (s.words.length + sw), AV.sl false 2 0 2 s.locks.length (s.locks.length + sl),
              AV.sl false 3 0 5 s.log.length (s.log.length + sg)]),
        (1, Blk.arr 3 Kd.int s.words sw), (2, Blk.arr 62 Kd.holder s.locks sl), (3, Blk.arr 45 Kd.deed s.log sg)]
      8)
    (Out.ite (decide (k ≥ (↑s.words.length : Int)))
      (Out.fin (AV.tup [AV.ff, AV.lit IntKind.i64 1])
        [(0,
            Blk.cells 56
              [AV.sl false 1 0 1 s.words.length (s.words.length + sw), AV.sl false 2 0 2 s.locks.length (s.locks.length + sl),
                AV.sl false 3 0 5 s.log.length (s.log.length + sg)]),
          (1, Blk.arr 3 Kd.int s.words sw), (2, Blk.arr 62 Kd.holder s.locks sl), (3, Blk.arr 45 Kd.deed s.log sg)]
        8)
      (Out.need (0 ≤ k ∧ k < (↑s.words.length : Int))
        (Out.need (0 + k.toNat < s.words.length)
          (Out.ite (s.words.getD (0 + k.toNat) (V.enc Kd.int).dflt == o)
            (Out.need (0 + k.toNat < s.words.length)
              (Out.need (0 + k.toNat < (s.words.set (0 + k.toNat) v).length)
                (Out.need (0 = 0 ∧ s.log.length = s.log.length ∧ s.log.length + sg = s.log.length + sg ∧ (s.log.length + 1) * 40 ≤ 140737488355328)
                  (Out.all Nat fun y =>
                    Out.fin (AV.tup [AV.bool (s.words.getD (0 + k.toNat) (V.enc Kd.int).dflt == o), AV.lit IntKind.i64 0])
                      [(11,
                          Blk.arr 45 Kd.deed
                            (s.log ++
                              [{ thread := t, act := 3, cell := k, before := s.words.getD (0 + k.toNat) (V.enc Kd.int).dflt,
                                  after := (s.words.set (0 + k.toNat) v).getD (0 + k.toNat) (V.enc Kd.int).dflt }])
                            y),
                        (10,
                          Blk.cells 45
                            [AV.int IntKind.i64 t, AV.lit IntKind.i64 3, AV.int IntKind.i64 k,
                              AV.int IntKind.i64 (s.words.getD (0 + k.toNat) (V.enc Kd.int).dflt),
                              AV.int IntKind.i64 ((s.words.set (0 + k.toNat) v).getD (0 + k.toNat) (V.enc Kd.int).dflt)]),
                        (9,
                          Blk.cells 45
                            [AV.int IntKind.i64 t, AV.lit IntKind.i64 3, AV.int IntKind.i64 k,
                              AV.int IntKind.i64 (s.words.getD (0 + k.toNat) (V.enc Kd.int).dflt),
                              AV.int IntKind.i64 ((s.words.set (0 + k.toNat) v).getD (0 + k.toNat) (V.enc Kd.int).dflt)]),
                        (0,
                          Blk.cells 56
                            [AV.sl false 1 0 1 s.words.length (s.words.length + sw), AV.sl false 2 0 2 s.locks.length (s.locks.length + sl),
                              AV.sl false 11 0 5 (s.log.length + 1) (s.log.length + 1 + y)]),
                        (1, Blk.arr 3 Kd.int (s.words.set (0 + k.toNat) v) sw), (2, Blk.arr 62 Kd.holder s.locks sl)]
                      13))))
            (Out.need (0 + k.toNat < s.words.length)
              (Out.need (0 = 0 ∧ s.log.length = s.log.length ∧ s.log.length + sg = s.log.length + sg ∧ (s.log.length + 1) * 40 ≤ 140737488355328)
                (Out.all Nat fun y =>
                  Out.fin (AV.tup [AV.bool (s.words.getD (0 + k.toNat) (V.enc Kd.int).dflt == o), AV.lit IntKind.i64 0])
                    [(10,
                        Blk.arr 45 Kd.deed
                          (s.log ++
                            [{ thread := t, act := 3, cell := k, before := s.words.getD (0 + k.toNat) (V.enc Kd.int).dflt,
                                after := s.words.getD (0 + k.toNat) (V.enc Kd.int).dflt }])
                          y),
                      (9,
                        Blk.cells 45
                          [AV.int IntKind.i64 t, AV.lit IntKind.i64 3, AV.int IntKind.i64 k, AV.int IntKind.i64 (s.words.getD (0 + k.toNat) (V.enc Kd.int).dflt),
                            AV.int IntKind.i64 (s.words.getD (0 + k.toNat) (V.enc Kd.int).dflt)]),
                      (8,
                        Blk.cells 45
                          [AV.int IntKind.i64 t, AV.lit IntKind.i64 3, AV.int IntKind.i64 k, AV.int IntKind.i64 (s.words.getD (0 + k.toNat) (V.enc Kd.int).dflt),
                            AV.int IntKind.i64 (s.words.getD (0 + k.toNat) (V.enc Kd.int).dflt)]),
                      (0,
                        Blk.cells 56
                          [AV.sl false 1 0 1 s.words.length (s.words.length + sw), AV.sl false 2 0 2 s.locks.length (s.locks.length + sl),
                            AV.sl false 10 0 5 (s.log.length + 1) (s.log.length + 1 + y)]),
                      (1, Blk.arr 3 Kd.int s.words sw), (2, Blk.arr 62 Kd.holder s.locks sl)]
                    12))))))) := by kernel_rfl

theorem t11 (s : MC) (sw sl sg : Nat) (t k : Int) : runF cfg0 40 11 Try.f11 [.ptr 0 0, .int .i64 t, .int .i64 k] (cUp s sw sl sg) 6 =
  Out.ite (decide (k < 0))
    (Out.fin (AV.lit IntKind.i64 1)
      [(6, Blk.cells 62 [AV.int IntKind.i64 t, AV.tt]),
        (0,
          Blk.cells 56
            [AV.sl false 1 0 1 s.words.length (s.words.length + sw), AV.sl false 2 0 2 s.locks.length (s.locks.length + sl),
              AV.sl false 3 0 5 s.log.length (s.log.length + sg)]),
        (1, Blk.arr 3 Kd.int s.words sw), (2, Blk.arr 62 Kd.holder s.locks sl), (3, Blk.arr 45 Kd.deed s.log sg)]
      8)
    (Out.ite (decide (k ≥ (↑s.locks.length : Int)))
      (Out.fin (AV.lit IntKind.i64 1)
        [(6, Blk.cells 62 [AV.int IntKind.i64 t, AV.tt]),
          (0,
            Blk.cells 56
              [AV.sl false 1 0 1 s.words.length (s.words.length + sw), AV.sl false 2 0 2 s.locks.length (s.locks.length + sl),
                AV.sl false 3 0 5 s.log.length (s.log.length + sg)]),
          (1, Blk.arr 3 Kd.int s.words sw), (2, Blk.arr 62 Kd.holder s.locks sl), (3, Blk.arr 45 Kd.deed s.log sg)]
        8)
      (Out.need (0 ≤ k ∧ k < (↑s.locks.length : Int))
        (Out.need (0 + k.toNat < s.locks.length)
          (Out.ite ((s.locks.getD (0 + k.toNat) (V.enc Kd.holder).dflt).thread == t && ((s.locks.getD (0 + k.toNat) (V.enc Kd.holder).dflt).held == true && true))
            (Out.fin (AV.lit IntKind.i64 5)
              [(6, Blk.cells 62 [AV.int IntKind.i64 t, AV.tt]),
                (0,
                  Blk.cells 56
                    [AV.sl false 1 0 1 s.words.length (s.words.length + sw), AV.sl false 2 0 2 s.locks.length (s.locks.length + sl),
                      AV.sl false 3 0 5 s.log.length (s.log.length + sg)]),
                (1, Blk.arr 3 Kd.int s.words sw), (2, Blk.arr 62 Kd.holder s.locks sl), (3, Blk.arr 45 Kd.deed s.log sg)]
              8)
            (Out.need (0 + k.toNat < s.locks.length)
              (Out.ite (s.locks.getD (0 + k.toNat) (V.enc Kd.holder).dflt).held
                (Out.fin (AV.lit IntKind.i64 6)
                  [(6, Blk.cells 62 [AV.int IntKind.i64 t, AV.tt]),
                    (0,
                      Blk.cells 56
                        [AV.sl false 1 0 1 s.words.length (s.words.length + sw), AV.sl false 2 0 2 s.locks.length (s.locks.length + sl),
                          AV.sl false 3 0 5 s.log.length (s.log.length + sg)]),
                    (1, Blk.arr 3 Kd.int s.words sw), (2, Blk.arr 62 Kd.holder s.locks sl), (3, Blk.arr 45 Kd.deed s.log sg)]
                  8)
                (Out.need (0 + k.toNat < s.locks.length)
                  (Out.ite (s.locks.getD (0 + k.toNat) (V.enc Kd.holder).dflt).held
                    (Out.need (0 = 0 ∧ s.log.length = s.log.length ∧ s.log.length + sg = s.log.length + sg ∧ (s.log.length + 1) * 40 ≤ 140737488355328)
                      (Out.all Nat fun y =>
                        Out.fin (AV.lit IntKind.i64 0)
                          [(10, Blk.arr 45 Kd.deed (s.log ++ [{ thread := t, act := 4, cell := k, before := 1, after := 1 }]) y),
                            (9, Blk.cells 45 [AV.int IntKind.i64 t, AV.lit IntKind.i64 4, AV.int IntKind.i64 k, AV.lit IntKind.i64 1, AV.lit IntKind.i64 1]),
                            (8, Blk.cells 45 [AV.int IntKind.i64 t, AV.lit IntKind.i64 4, AV.int IntKind.i64 k, AV.lit IntKind.i64 1, AV.lit IntKind.i64 1]),
                            (6, Blk.cells 62 [AV.int IntKind.i64 t, AV.tt]),
                            (0,
                              Blk.cells 56
                                [AV.sl false 1 0 1 s.words.length (s.words.length + sw), AV.sl false 2 0 2 s.locks.length (s.locks.length + sl),
                                  AV.sl false 10 0 5 (s.log.length + 1) (s.log.length + 1 + y)]),
                            (1, Blk.arr 3 Kd.int s.words sw), (2, Blk.arr 62 Kd.holder s.locks sl)]
                          12))
                    (Out.need (0 + k.toNat < s.locks.length)
                      (Out.need (0 = 0 ∧ s.log.length = s.log.length ∧ s.log.length + sg = s.log.length + sg ∧ (s.log.length + 1) * 40 ≤ 140737488355328)
                        (Out.all Nat fun y =>
                          Out.fin (AV.lit IntKind.i64 0)
                            [(11, Blk.arr 45 Kd.deed (s.log ++ [{ thread := t, act := 4, cell := k, before := 0, after := 1 }]) y),
                              (10, Blk.cells 45 [AV.int IntKind.i64 t, AV.lit IntKind.i64 4, AV.int IntKind.i64 k, AV.lit IntKind.i64 0, AV.lit IntKind.i64 1]),
                              (9, Blk.cells 45 [AV.int IntKind.i64 t, AV.lit IntKind.i64 4, AV.int IntKind.i64 k, AV.lit IntKind.i64 0, AV.lit IntKind.i64 1]),
                              (6, Blk.cells 62 [AV.int IntKind.i64 t, AV.tt]),
                              (0,
                                Blk.cells 56
                                  [AV.sl false 1 0 1 s.words.length (s.words.length + sw), AV.sl false 2 0 2 s.locks.length (s.locks.length + sl),
                                    AV.sl false 11 0 5 (s.log.length + 1) (s.log.length + 1 + y)]),
                              (1, Blk.arr 3 Kd.int s.words sw), (2, Blk.arr 62 Kd.holder (s.locks.set (0 + k.toNat) { thread := t, held := true }) sl)]
                            13))))))))))) := by kernel_rfl

theorem t23 (s : MC) (sw sl sg : Nat) (t k : Int) : runF cfg0 40 23 Try.f23 [.ptr 0 0, .int .i64 t, .int .i64 k] (cUp s sw sl sg) 6 =
  Out.ite (decide (k < 0))
    (Out.fin (AV.tup [AV.ff, AV.lit IntKind.i64 1])
      [(6, Blk.cells 62 [AV.int IntKind.i64 t, AV.tt]),
        (0,
          Blk.cells 56
            [AV.sl false 1 0 1 s.words.length (s.words.length + sw), AV.sl false 2 0 2 s.locks.length (s.locks.length + sl),
              AV.sl false 3 0 5 s.log.length (s.log.length + sg)]),
        (1, Blk.arr 3 Kd.int s.words sw), (2, Blk.arr 62 Kd.holder s.locks sl), (3, Blk.arr 45 Kd.deed s.log sg)]
      8)
    (Out.ite (decide (k ≥ (↑s.locks.length : Int)))
      (Out.fin (AV.tup [AV.ff, AV.lit IntKind.i64 1])
        [(6, Blk.cells 62 [AV.int IntKind.i64 t, AV.tt]),
          (0,
            Blk.cells 56
              [AV.sl false 1 0 1 s.words.length (s.words.length + sw), AV.sl false 2 0 2 s.locks.length (s.locks.length + sl),
                AV.sl false 3 0 5 s.log.length (s.log.length + sg)]),
          (1, Blk.arr 3 Kd.int s.words sw), (2, Blk.arr 62 Kd.holder s.locks sl), (3, Blk.arr 45 Kd.deed s.log sg)]
        8)
      (Out.need (0 ≤ k ∧ k < (↑s.locks.length : Int))
        (Out.need (0 + k.toNat < s.locks.length)
          (Out.ite ((s.locks.getD (0 + k.toNat) (V.enc Kd.holder).dflt).thread == t && ((s.locks.getD (0 + k.toNat) (V.enc Kd.holder).dflt).held == true && true))
            (Out.fin (AV.tup [AV.ff, AV.lit IntKind.i64 5])
              [(6, Blk.cells 62 [AV.int IntKind.i64 t, AV.tt]),
                (0,
                  Blk.cells 56
                    [AV.sl false 1 0 1 s.words.length (s.words.length + sw), AV.sl false 2 0 2 s.locks.length (s.locks.length + sl),
                      AV.sl false 3 0 5 s.log.length (s.log.length + sg)]),
                (1, Blk.arr 3 Kd.int s.words sw), (2, Blk.arr 62 Kd.holder s.locks sl), (3, Blk.arr 45 Kd.deed s.log sg)]
              8)
            (Out.need (0 + k.toNat < s.locks.length)
              (Out.ite (s.locks.getD (0 + k.toNat) (V.enc Kd.holder).dflt).held
                (Out.need (0 + k.toNat < s.locks.length)
                  (Out.ite (s.locks.getD (0 + k.toNat) (V.enc Kd.holder).dflt).held
                    (Out.need (0 = 0 ∧ s.log.length = s.log.length ∧ s.log.length + sg = s.log.length + sg ∧ (s.log.length + 1) * 40 ≤ 140737488355328)
                      (Out.all Nat fun y =>
                        Out.fin (AV.tup [AV.ff, AV.lit IntKind.i64 0])
                          [(10, Blk.arr 45 Kd.deed (s.log ++ [{ thread := t, act := 5, cell := k, before := 1, after := 1 }]) y),
                            (9, Blk.cells 45 [AV.int IntKind.i64 t, AV.lit IntKind.i64 5, AV.int IntKind.i64 k, AV.lit IntKind.i64 1, AV.lit IntKind.i64 1]),
                            (8, Blk.cells 45 [AV.int IntKind.i64 t, AV.lit IntKind.i64 5, AV.int IntKind.i64 k, AV.lit IntKind.i64 1, AV.lit IntKind.i64 1]),
                            (6, Blk.cells 62 [AV.int IntKind.i64 t, AV.tt]),
                            (0,
                              Blk.cells 56
                                [AV.sl false 1 0 1 s.words.length (s.words.length + sw), AV.sl false 2 0 2 s.locks.length (s.locks.length + sl),
                                  AV.sl false 10 0 5 (s.log.length + 1) (s.log.length + 1 + y)]),
                            (1, Blk.arr 3 Kd.int s.words sw), (2, Blk.arr 62 Kd.holder s.locks sl)]
                          12))
                    (Out.need (0 + k.toNat < s.locks.length)
                      (Out.need (0 = 0 ∧ s.log.length = s.log.length ∧ s.log.length + sg = s.log.length + sg ∧ (s.log.length + 1) * 40 ≤ 140737488355328)
                        (Out.all Nat fun y =>
                          Out.fin (AV.tup [AV.tt, AV.lit IntKind.i64 0])
                            [(11, Blk.arr 45 Kd.deed (s.log ++ [{ thread := t, act := 5, cell := k, before := 0, after := 1 }]) y),
                              (10, Blk.cells 45 [AV.int IntKind.i64 t, AV.lit IntKind.i64 5, AV.int IntKind.i64 k, AV.lit IntKind.i64 0, AV.lit IntKind.i64 1]),
                              (9, Blk.cells 45 [AV.int IntKind.i64 t, AV.lit IntKind.i64 5, AV.int IntKind.i64 k, AV.lit IntKind.i64 0, AV.lit IntKind.i64 1]),
                              (6, Blk.cells 62 [AV.int IntKind.i64 t, AV.tt]),
                              (0,
                                Blk.cells 56
                                  [AV.sl false 1 0 1 s.words.length (s.words.length + sw), AV.sl false 2 0 2 s.locks.length (s.locks.length + sl),
                                    AV.sl false 11 0 5 (s.log.length + 1) (s.log.length + 1 + y)]),
                              (1, Blk.arr 3 Kd.int s.words sw), (2, Blk.arr 62 Kd.holder (s.locks.set (0 + k.toNat) { thread := t, held := true }) sl)]
                            13)))))
                (Out.need (0 + k.toNat < s.locks.length)
                  (Out.ite (s.locks.getD (0 + k.toNat) (V.enc Kd.holder).dflt).held
                    (Out.need (0 = 0 ∧ s.log.length = s.log.length ∧ s.log.length + sg = s.log.length + sg ∧ (s.log.length + 1) * 40 ≤ 140737488355328)
                      (Out.all Nat fun y =>
                        Out.fin (AV.tup [AV.ff, AV.lit IntKind.i64 0])
                          [(10, Blk.arr 45 Kd.deed (s.log ++ [{ thread := t, act := 5, cell := k, before := 1, after := 1 }]) y),
                            (9, Blk.cells 45 [AV.int IntKind.i64 t, AV.lit IntKind.i64 5, AV.int IntKind.i64 k, AV.lit IntKind.i64 1, AV.lit IntKind.i64 1]),
                            (8, Blk.cells 45 [AV.int IntKind.i64 t, AV.lit IntKind.i64 5, AV.int IntKind.i64 k, AV.lit IntKind.i64 1, AV.lit IntKind.i64 1]),
                            (6, Blk.cells 62 [AV.int IntKind.i64 t, AV.tt]),
                            (0,
                              Blk.cells 56
                                [AV.sl false 1 0 1 s.words.length (s.words.length + sw), AV.sl false 2 0 2 s.locks.length (s.locks.length + sl),
                                  AV.sl false 10 0 5 (s.log.length + 1) (s.log.length + 1 + y)]),
                            (1, Blk.arr 3 Kd.int s.words sw), (2, Blk.arr 62 Kd.holder s.locks sl)]
                          12))
                    (Out.need (0 + k.toNat < s.locks.length)
                      (Out.need (0 = 0 ∧ s.log.length = s.log.length ∧ s.log.length + sg = s.log.length + sg ∧ (s.log.length + 1) * 40 ≤ 140737488355328)
                        (Out.all Nat fun y =>
                          Out.fin (AV.tup [AV.tt, AV.lit IntKind.i64 0])
                            [(11, Blk.arr 45 Kd.deed (s.log ++ [{ thread := t, act := 5, cell := k, before := 0, after := 1 }]) y),
                              (10, Blk.cells 45 [AV.int IntKind.i64 t, AV.lit IntKind.i64 5, AV.int IntKind.i64 k, AV.lit IntKind.i64 0, AV.lit IntKind.i64 1]),
                              (9, Blk.cells 45 [AV.int IntKind.i64 t, AV.lit IntKind.i64 5, AV.int IntKind.i64 k, AV.lit IntKind.i64 0, AV.lit IntKind.i64 1]),
                              (6, Blk.cells 62 [AV.int IntKind.i64 t, AV.tt]),
                              (0,
                                Blk.cells 56
                                  [AV.sl false 1 0 1 s.words.length (s.words.length + sw), AV.sl false 2 0 2 s.locks.length (s.locks.length + sl),
                                    AV.sl false 11 0 5 (s.log.length + 1) (s.log.length + 1 + y)]),
                              (1, Blk.arr 3 Kd.int s.words sw), (2, Blk.arr 62 Kd.holder (s.locks.set (0 + k.toNat) { thread := t, held := true }) sl)]
                            13))))))))))) := by kernel_rfl

theorem t24 (s : MC) (sw sl sg : Nat) (t k : Int) : runF cfg0 40 24 Try.f24 [.ptr 0 0, .int .i64 t, .int .i64 k] (cUp s sw sl sg) 6 =
  Out.ite (decide (k < 0))
    (Out.fin (AV.lit IntKind.i64 1)
      [(0,
          Blk.cells 56
            [AV.sl false 1 0 1 s.words.length (s.words.length + sw), AV.sl false 2 0 2 s.locks.length (s.locks.length + sl),
              AV.sl false 3 0 5 s.log.length (s.log.length + sg)]),
        (1, Blk.arr 3 Kd.int s.words sw), (2, Blk.arr 62 Kd.holder s.locks sl), (3, Blk.arr 45 Kd.deed s.log sg)]
      6)
    (Out.ite (decide (k ≥ (↑s.locks.length : Int)))
      (Out.fin (AV.lit IntKind.i64 1)
        [(0,
            Blk.cells 56
              [AV.sl false 1 0 1 s.words.length (s.words.length + sw), AV.sl false 2 0 2 s.locks.length (s.locks.length + sl),
                AV.sl false 3 0 5 s.log.length (s.log.length + sg)]),
          (1, Blk.arr 3 Kd.int s.words sw), (2, Blk.arr 62 Kd.holder s.locks sl), (3, Blk.arr 45 Kd.deed s.log sg)]
        6)
      (Out.need (0 ≤ k ∧ k < (↑s.locks.length : Int))
        (Out.need (0 + k.toNat < s.locks.length)
          (Out.ite
            (!((s.locks.getD (0 + k.toNat) (V.enc Kd.holder).dflt).thread == t && ((s.locks.getD (0 + k.toNat) (V.enc Kd.holder).dflt).held == true && true)))
            (Out.fin (AV.lit IntKind.i64 3)
              [(0,
                  Blk.cells 56
                    [AV.sl false 1 0 1 s.words.length (s.words.length + sw), AV.sl false 2 0 2 s.locks.length (s.locks.length + sl),
                      AV.sl false 3 0 5 s.log.length (s.log.length + sg)]),
                (1, Blk.arr 3 Kd.int s.words sw), (2, Blk.arr 62 Kd.holder s.locks sl), (3, Blk.arr 45 Kd.deed s.log sg)]
              6)
            (Out.need (0 + k.toNat < s.locks.length)
              (Out.need (0 = 0 ∧ s.log.length = s.log.length ∧ s.log.length + sg = s.log.length + sg ∧ (s.log.length + 1) * 40 ≤ 140737488355328)
                (Out.all Nat fun y =>
                  Out.fin (AV.lit IntKind.i64 0)
                    [(9, Blk.arr 45 Kd.deed (s.log ++ [{ thread := t, act := 6, cell := k, before := 1, after := 0 }]) y),
                      (8, Blk.cells 45 [AV.int IntKind.i64 t, AV.lit IntKind.i64 6, AV.int IntKind.i64 k, AV.lit IntKind.i64 1, AV.lit IntKind.i64 0]),
                      (7, Blk.cells 45 [AV.int IntKind.i64 t, AV.lit IntKind.i64 6, AV.int IntKind.i64 k, AV.lit IntKind.i64 1, AV.lit IntKind.i64 0]),
                      (0,
                        Blk.cells 56
                          [AV.sl false 1 0 1 s.words.length (s.words.length + sw), AV.sl false 2 0 2 s.locks.length (s.locks.length + sl),
                            AV.sl false 9 0 5 (s.log.length + 1) (s.log.length + 1 + y)]),
                      (1, Blk.arr 3 Kd.int s.words sw), (2, Blk.arr 62 Kd.holder (s.locks.set (0 + k.toNat) { thread := 0, held := false }) sl)]
                    11))))))) := by kernel_rfl

theorem t16 (s : MC) (sw sl sg : Nat) (k : Int) : runF cfg0 40 16 Try.f16 [.ptr 0 0, .int .i64 k] (cUp s sw sl sg) 5 =
  Out.ite (decide (k < 0))
    (Out.fin (AV.lit IntKind.i64 (-1))
      [(0,
          Blk.cells 56
            [AV.sl false 1 0 1 s.words.length (s.words.length + sw), AV.sl false 2 0 2 s.locks.length (s.locks.length + sl),
              AV.sl false 3 0 5 s.log.length (s.log.length + sg)]),
        (1, Blk.arr 3 Kd.int s.words sw), (2, Blk.arr 62 Kd.holder s.locks sl), (3, Blk.arr 45 Kd.deed s.log sg)]
      5)
    (Out.ite (decide (k ≥ (↑s.locks.length : Int)))
      (Out.fin (AV.lit IntKind.i64 (-1))
        [(0,
            Blk.cells 56
              [AV.sl false 1 0 1 s.words.length (s.words.length + sw), AV.sl false 2 0 2 s.locks.length (s.locks.length + sl),
                AV.sl false 3 0 5 s.log.length (s.log.length + sg)]),
          (1, Blk.arr 3 Kd.int s.words sw), (2, Blk.arr 62 Kd.holder s.locks sl), (3, Blk.arr 45 Kd.deed s.log sg)]
        5)
      (Out.need (0 ≤ k ∧ k < (↑s.locks.length : Int))
        (Out.need (0 + k.toNat < s.locks.length)
          (Out.ite (!(s.locks.getD (0 + k.toNat) (V.enc Kd.holder).dflt).held)
            (Out.fin (AV.lit IntKind.i64 (-1))
              [(0,
                  Blk.cells 56
                    [AV.sl false 1 0 1 s.words.length (s.words.length + sw), AV.sl false 2 0 2 s.locks.length (s.locks.length + sl),
                      AV.sl false 3 0 5 s.log.length (s.log.length + sg)]),
                (1, Blk.arr 3 Kd.int s.words sw), (2, Blk.arr 62 Kd.holder s.locks sl), (3, Blk.arr 45 Kd.deed s.log sg)]
              5)
            (Out.need (0 + k.toNat < s.locks.length)
              (Out.fin (AV.int IntKind.i64 (s.locks.getD (0 + k.toNat) (V.enc Kd.holder).dflt).thread)
                [(0,
                    Blk.cells 56
                      [AV.sl false 1 0 1 s.words.length (s.words.length + sw), AV.sl false 2 0 2 s.locks.length (s.locks.length + sl),
                        AV.sl false 3 0 5 s.log.length (s.log.length + sg)]),
                  (1, Blk.arr 3 Kd.int s.words sw), (2, Blk.arr 62 Kd.holder s.locks sl), (3, Blk.arr 45 Kd.deed s.log sg)]
                5)))))) := by kernel_rfl

theorem t13 (s : MC) (sw sl sg : Nat) : runF cfg0 40 13 Try.f13 [.ptr 0 0] (cUp s sw sl sg) 4 =
  (Out.asm ((s.log.length + sg).beq 0 = true)
        (Out.fin AV.nilS
          [(0,
              Blk.cells 56
                [AV.sl false 1 0 1 s.words.length (s.words.length + sw), AV.sl false 2 0 2 s.locks.length (s.locks.length + sl),
                  AV.sl false 3 0 5 s.log.length (s.log.length + sg)]),
            (1, Blk.arr 3 Kd.int s.words sw), (2, Blk.arr 62 Kd.holder s.locks sl), (3, Blk.arr 45 Kd.deed s.log sg)]
          4)).both
    (Out.need (0 + s.log.length ≤ s.log.length)
      (Out.need ((List.take s.log.length (List.drop 0 s.log)).length * 40 ≤ 140737488355328)
        (Out.all Nat fun y =>
          Out.fin (AV.sl false 5 0 5 (List.take s.log.length (List.drop 0 s.log)).length ((List.take s.log.length (List.drop 0 s.log)).length + y))
            [(5, Blk.arr 45 Kd.deed (List.take s.log.length (List.drop 0 s.log)) y), (4, Blk.cells 45 []),
              (0,
                Blk.cells 56
                  [AV.sl false 1 0 1 s.words.length (s.words.length + sw), AV.sl false 2 0 2 s.locks.length (s.locks.length + sl),
                    AV.sl false 3 0 5 s.log.length (s.log.length + sg)]),
              (1, Blk.arr 3 Kd.int s.words sw), (2, Blk.arr 62 Kd.holder s.locks sl), (3, Blk.arr 45 Kd.deed s.log sg)]
            6))) := by kernel_rfl

theorem t9 (a b : Int) : runF cfg0 40 9 Try.f9 [.int .i64 a, .int .i64 b] [] 2 =
  (Out.need
        ((0 ≤ if 4096 < if a > 0 then a else 0 then 4096 else if a > 0 then a else 0) ∧
          ((if 4096 < if a > 0 then a else 0 then 4096 else if a > 0 then a else 0) ≤ if 4096 < if a > 0 then a else 0 then 4096 else if a > 0 then a else 0) ∧
            (8 * if 4096 < if a > 0 then a else 0 then 4096 else if a > 0 then a else 0) ≤ 281474976710656)
        (Out.need
          ((0 ≤ if 4096 < if b > 0 then b else 0 then 4096 else if b > 0 then b else 0) ∧
            ((if 4096 < if b > 0 then b else 0 then 4096 else if b > 0 then b else 0) ≤ if 4096 < if b > 0 then b else 0 then 4096 else if b > 0 then b else 0) ∧
              (16 * if 4096 < if b > 0 then b else 0 then 4096 else if b > 0 then b else 0) ≤ 281474976710656)
          (Out.fin (AV.ptr 4 0)
            [(4,
                Blk.cells 56
                  [AV.sl false 2 0 1 (if 4096 < if a > 0 then a else 0 then 4096 else if a > 0 then a else 0).toNat
                      (if 4096 < if a > 0 then a else 0 then 4096 else if a > 0 then a else 0).toNat,
                    AV.sl false 3 0 2 (if 4096 < if b > 0 then b else 0 then 4096 else if b > 0 then b else 0).toNat
                      (if 4096 < if b > 0 then b else 0 then 4096 else if b > 0 then b else 0).toNat,
                    AV.nilS]),
              (3,
                Blk.arr 62 Kd.holder (List.replicate (if 4096 < if b > 0 then b else 0 then 4096 else if b > 0 then b else 0).toNat (V.enc Kd.holder).dflt)
                  ((if 4096 < if b > 0 then b else 0 then 4096 else if b > 0 then b else 0).toNat -
                    (if 4096 < if b > 0 then b else 0 then 4096 else if b > 0 then b else 0).toNat)),
              (2,
                Blk.arr 3 Kd.int (List.replicate (if 4096 < if a > 0 then a else 0 then 4096 else if a > 0 then a else 0).toNat (V.enc Kd.int).dflt)
                  ((if 4096 < if a > 0 then a else 0 then 4096 else if a > 0 then a else 0).toNat -
                    (if 4096 < if a > 0 then a else 0 then 4096 else if a > 0 then a else 0).toNat))]
            5))).both
    ((Out.need
          ((0 ≤ if 4096 < if a > 0 then a else 0 then 4096 else if a > 0 then a else 0) ∧
            ((if 4096 < if a > 0 then a else 0 then 4096 else if a > 0 then a else 0) ≤ if 4096 < if a > 0 then a else 0 then 4096 else if a > 0 then a else 0) ∧
              (8 * if 4096 < if a > 0 then a else 0 then 4096 else if a > 0 then a else 0) ≤ 281474976710656)
          (Out.need
            ((0 ≤ if 4096 < if b > 0 then b else 0 then 4096 else if b > 0 then b else 0) ∧
              ((if 4096 < if b > 0 then b else 0 then 4096 else if b > 0 then b else 0) ≤
                  if 4096 < if b > 0 then b else 0 then 4096 else if b > 0 then b else 0) ∧
                (16 * if 4096 < if b > 0 then b else 0 then 4096 else if b > 0 then b else 0) ≤ 281474976710656)
            (Out.fin (AV.ptr 4 0)
              [(4,
                  Blk.cells 56
                    [AV.sl false 2 0 1 (if 4096 < if a > 0 then a else 0 then 4096 else if a > 0 then a else 0).toNat
                        (if 4096 < if a > 0 then a else 0 then 4096 else if a > 0 then a else 0).toNat,
                      AV.sl false 3 0 2 (if 4096 < if b > 0 then b else 0 then 4096 else if b > 0 then b else 0).toNat
                        (if 4096 < if b > 0 then b else 0 then 4096 else if b > 0 then b else 0).toNat,
                      AV.nilS]),
                (3,
                  Blk.arr 62 Kd.holder (List.replicate (if 4096 < if b > 0 then b else 0 then 4096 else if b > 0 then b else 0).toNat (V.enc Kd.holder).dflt)
                    ((if 4096 < if b > 0 then b else 0 then 4096 else if b > 0 then b else 0).toNat -
                      (if 4096 < if b > 0 then b else 0 then 4096 else if b > 0 then b else 0).toNat)),
                (2,
                  Blk.arr 3 Kd.int (List.replicate (if 4096 < if a > 0 then a else 0 then 4096 else if a > 0 then a else 0).toNat (V.enc Kd.int).dflt)
                    ((if 4096 < if a > 0 then a else 0 then 4096 else if a > 0 then a else 0).toNat -
                      (if 4096 < if a > 0 then a else 0 then 4096 else if a > 0 then a else 0).toNat))]
              5))).both
      (Out.need
        ((0 ≤ if 4096 < if b > 0 then b else 0 then 4096 else if b > 0 then b else 0) ∧
          ((if 4096 < if b > 0 then b else 0 then 4096 else if b > 0 then b else 0) ≤ if 4096 < if b > 0 then b else 0 then 4096 else if b > 0 then b else 0) ∧
            (16 * if 4096 < if b > 0 then b else 0 then 4096 else if b > 0 then b else 0) ≤ 281474976710656)
        (Out.need
          ((0 ≤ if 4096 < if a > 0 then a else 0 then 4096 else if a > 0 then a else 0) ∧
            ((if 4096 < if a > 0 then a else 0 then 4096 else if a > 0 then a else 0) ≤ if 4096 < if a > 0 then a else 0 then 4096 else if a > 0 then a else 0) ∧
              (8 * if 4096 < if a > 0 then a else 0 then 4096 else if a > 0 then a else 0) ≤ 281474976710656)
          (Out.fin (AV.ptr 4 0)
            [(4,
                Blk.cells 56
                  [AV.sl false 3 0 1 (if 4096 < if a > 0 then a else 0 then 4096 else if a > 0 then a else 0).toNat
                      (if 4096 < if a > 0 then a else 0 then 4096 else if a > 0 then a else 0).toNat,
                    AV.sl false 2 0 2 (if 4096 < if b > 0 then b else 0 then 4096 else if b > 0 then b else 0).toNat
                      (if 4096 < if b > 0 then b else 0 then 4096 else if b > 0 then b else 0).toNat,
                    AV.nilS]),
              (3,
                Blk.arr 3 Kd.int (List.replicate (if 4096 < if a > 0 then a else 0 then 4096 else if a > 0 then a else 0).toNat (V.enc Kd.int).dflt)
                  ((if 4096 < if a > 0 then a else 0 then 4096 else if a > 0 then a else 0).toNat -
                    (if 4096 < if a > 0 then a else 0 then 4096 else if a > 0 then a else 0).toNat)),
              (2,
                Blk.arr 62 Kd.holder (List.replicate (if 4096 < if b > 0 then b else 0 then 4096 else if b > 0 then b else 0).toNat (V.enc Kd.holder).dflt)
                  ((if 4096 < if b > 0 then b else 0 then 4096 else if b > 0 then b else 0).toNat -
                    (if 4096 < if b > 0 then b else 0 then 4096 else if b > 0 then b else 0).toNat))]
            5)))) := by kernel_rfl

theorem t30 (s : MR) (sw sh st sl : Nat) (t k : Int) : runF cfg0 40 30 Try.f30 [.ptr 0 0, .int .i64 t, .int .i64 k] (rUp s sw sh st sl) 7 =
  Out.ite (decide (k ≥ 0))
    (Out.ite (!decide (k < (↑s.w.length : Int)))
      (Out.fin (AV.tup [AV.lit IntKind.i64 0, AV.lit IntKind.i64 1])
        [(0,
            Blk.cells 43
              [AV.sl false 1 0 1 s.w.length (s.w.length + sw), AV.sl false 2 0 1 s.h.length (s.h.length + sh), AV.sl false 3 0 1 s.t.length (s.t.length + st),
                AV.sl false 4 0 5 s.l.length (s.l.length + sl)]),
          (1, Blk.arr 3 Kd.int s.w sw), (2, Blk.arr 4 Kd.bool s.h sh), (3, Blk.arr 3 Kd.int s.t st), (4, Blk.arr 45 Kd.deed s.l sl)]
        7)
      (Out.need (0 ≤ k ∧ k < (↑s.w.length : Int))
        (Out.need (0 + k.toNat < s.w.length)
          (Out.need (0 ≤ k ∧ k < (↑s.w.length : Int))
            (Out.need (0 + k.toNat < s.w.length)
              (Out.need (0 = 0 ∧ s.l.length = s.l.length ∧ s.l.length + sl = s.l.length + sl ∧ (s.l.length + 1) * 40 ≤ 140737488355328)
                (Out.all Nat fun y =>
                  Out.need (0 ≤ k ∧ k < (↑s.w.length : Int))
                    (Out.need (0 + k.toNat < s.w.length)
                      (Out.fin (AV.tup [AV.int IntKind.i64 (s.w.getD (0 + k.toNat) (V.enc Kd.int).dflt), AV.lit IntKind.i64 0])
                        [(8,
                            Blk.arr 45 Kd.deed
                              (s.l ++
                                [{ thread := t, act := 1, cell := k, before := s.w.getD (0 + k.toNat) (V.enc Kd.int).dflt,
                                    after := s.w.getD (0 + k.toNat) (V.enc Kd.int).dflt }])
                              y),
                          (7,
                            Blk.cells 45
                              [AV.int IntKind.i64 t, AV.lit IntKind.i64 1, AV.int IntKind.i64 k, AV.int IntKind.i64 (s.w.getD (0 + k.toNat) (V.enc Kd.int).dflt),
                                AV.int IntKind.i64 (s.w.getD (0 + k.toNat) (V.enc Kd.int).dflt)]),
                          (0,
                            Blk.cells 43
                              [AV.sl false 1 0 1 s.w.length (s.w.length + sw), AV.sl false 2 0 1 s.h.length (s.h.length + sh),
                                AV.sl false 3 0 1 s.t.length (s.t.length + st), AV.sl false 8 0 5 (s.l.length + 1) (s.l.length + 1 + y)]),
                          (1, Blk.arr 3 Kd.int s.w sw), (2, Blk.arr 4 Kd.bool s.h sh), (3, Blk.arr 3 Kd.int s.t st)]
                        10)))))))))
    (Out.fin (AV.tup [AV.lit IntKind.i64 0, AV.lit IntKind.i64 1])
      [(0,
          Blk.cells 43
            [AV.sl false 1 0 1 s.w.length (s.w.length + sw), AV.sl false 2 0 1 s.h.length (s.h.length + sh), AV.sl false 3 0 1 s.t.length (s.t.length + st),
              AV.sl false 4 0 5 s.l.length (s.l.length + sl)]),
        (1, Blk.arr 3 Kd.int s.w sw), (2, Blk.arr 4 Kd.bool s.h sh), (3, Blk.arr 3 Kd.int s.t st), (4, Blk.arr 45 Kd.deed s.l sl)]
      7) := by kernel_rfl

theorem t31 (s : MR) (sw sh st sl : Nat) (t k v : Int) : runF cfg0 40 31 Try.f31 [.ptr 0 0, .int .i64 t, .int .i64 k, .int .i64 v] (rUp s sw sh st sl) 8 =
  Out.ite (decide (k ≥ 0))
    (Out.ite (!decide (k < (↑s.w.length : Int)))
      (Out.fin (AV.lit IntKind.i64 1)
        [(0,
            Blk.cells 43
              [AV.sl false 1 0 1 s.w.length (s.w.length + sw), AV.sl false 2 0 1 s.h.length (s.h.length + sh), AV.sl false 3 0 1 s.t.length (s.t.length + st),
                AV.sl false 4 0 5 s.l.length (s.l.length + sl)]),
          (1, Blk.arr 3 Kd.int s.w sw), (2, Blk.arr 4 Kd.bool s.h sh), (3, Blk.arr 3 Kd.int s.t st), (4, Blk.arr 45 Kd.deed s.l sl)]
        8)
      (Out.need (0 ≤ k ∧ k < (↑s.w.length : Int))
        (Out.need (0 + k.toNat < s.w.length)
          (Out.need (0 = 0 ∧ s.l.length = s.l.length ∧ s.l.length + sl = s.l.length + sl ∧ (s.l.length + 1) * 40 ≤ 140737488355328)
            (Out.all Nat fun y =>
              Out.need (0 ≤ k ∧ k < (↑s.w.length : Int))
                (Out.need (0 + k.toNat < s.w.length)
                  (Out.fin (AV.lit IntKind.i64 0)
                    [(9, Blk.arr 45 Kd.deed (s.l ++ [{ thread := t, act := 2, cell := k, before := s.w.getD (0 + k.toNat) (V.enc Kd.int).dflt, after := v }]) y),
                      (8,
                        Blk.cells 45
                          [AV.int IntKind.i64 t, AV.lit IntKind.i64 2, AV.int IntKind.i64 k, AV.int IntKind.i64 (s.w.getD (0 + k.toNat) (V.enc Kd.int).dflt),
                            AV.int IntKind.i64 v]),
                      (0,
                        Blk.cells 43
                          [AV.sl false 1 0 1 s.w.length (s.w.length + sw), AV.sl false 2 0 1 s.h.length (s.h.length + sh),
                            AV.sl false 3 0 1 s.t.length (s.t.length + st), AV.sl false 9 0 5 (s.l.length + 1) (s.l.length + 1 + y)]),
                      (1, Blk.arr 3 Kd.int (s.w.set (0 + k.toNat) v) sw), (2, Blk.arr 4 Kd.bool s.h sh), (3, Blk.arr 3 Kd.int s.t st)]
                    12)))))))
    (Out.fin (AV.lit IntKind.i64 1)
      [(0,
          Blk.cells 43
            [AV.sl false 1 0 1 s.w.length (s.w.length + sw), AV.sl false 2 0 1 s.h.length (s.h.length + sh), AV.sl false 3 0 1 s.t.length (s.t.length + st),
              AV.sl false 4 0 5 s.l.length (s.l.length + sl)]),
        (1, Blk.arr 3 Kd.int s.w sw), (2, Blk.arr 4 Kd.bool s.h sh), (3, Blk.arr 3 Kd.int s.t st), (4, Blk.arr 45 Kd.deed s.l sl)]
      8) := by kernel_rfl

theorem t32 (s : MR) (sw sh st sl : Nat) (t k o v : Int) : runF cfg0 40 32 Try.f32 [.ptr 0 0, .int .i64 t, .int .i64 k, .int .i64 o, .int .i64 v] (rUp s sw sh st sl) 9 =
  Out.ite (decide (k ≥ 0))
    (Out.ite (!decide (k < (↑s.w.length : Int)))
      (Out.fin (AV.tup [AV.ff, AV.lit IntKind.i64 1])
        [(0,
            Blk.cells 43
              [AV.sl false 1 0 1 s.w.length (s.w.length + sw), AV.sl false 2 0 1 s.h.length (s.h.length + sh), AV.sl false 3 0 1 s.t.length (s.t.length + st),
                AV.sl false 4 0 5 s.l.length (s.l.length + sl)]),
          (1, Blk.arr 3 Kd.int s.w sw), (2, Blk.arr 4 Kd.bool s.h sh), (3, Blk.arr 3 Kd.int s.t st), (4, Blk.arr 45 Kd.deed s.l sl)]
        9)
      (Out.need (0 ≤ k ∧ k < (↑s.w.length : Int))
        (Out.need (0 + k.toNat < s.w.length)
          (Out.ite (s.w.getD (0 + k.toNat) (V.enc Kd.int).dflt == o)
            (Out.need (0 ≤ k ∧ k < (↑s.w.length : Int))
              (Out.need (0 + k.toNat < s.w.length)
                (Out.need (0 ≤ k ∧ k < (↑s.w.length : Int))
                  (Out.need (0 + k.toNat < (s.w.set (0 + k.toNat) v).length)
                    (Out.need (0 = 0 ∧ s.l.length = s.l.length ∧ s.l.length + sl = s.l.length + sl ∧ (s.l.length + 1) * 40 ≤ 140737488355328)
                      (Out.all Nat fun y =>
                        Out.fin (AV.tup [AV.bool (s.w.getD (0 + k.toNat) (V.enc Kd.int).dflt == o), AV.lit IntKind.i64 0])
                          [(11,
                              Blk.arr 45 Kd.deed
                                (s.l ++
                                  [{ thread := t, act := 3, cell := k, before := s.w.getD (0 + k.toNat) (V.enc Kd.int).dflt,
                                      after := (s.w.set (0 + k.toNat) v).getD (0 + k.toNat) (V.enc Kd.int).dflt }])
                                y),
                            (10,
                              Blk.cells 45
                                [AV.int IntKind.i64 t, AV.lit IntKind.i64 3, AV.int IntKind.i64 k,
                                  AV.int IntKind.i64 (s.w.getD (0 + k.toNat) (V.enc Kd.int).dflt),
                                  AV.int IntKind.i64 ((s.w.set (0 + k.toNat) v).getD (0 + k.toNat) (V.enc Kd.int).dflt)]),
                            (0,
                              Blk.cells 43
                                [AV.sl false 1 0 1 s.w.length (s.w.length + sw), AV.sl false 2 0 1 s.h.length (s.h.length + sh),
                                  AV.sl false 3 0 1 s.t.length (s.t.length + st), AV.sl false 11 0 5 (s.l.length + 1) (s.l.length + 1 + y)]),
                            (1, Blk.arr 3 Kd.int (s.w.set (0 + k.toNat) v) sw), (2, Blk.arr 4 Kd.bool s.h sh), (3, Blk.arr 3 Kd.int s.t st)]
                          13))))))
            (Out.need (0 ≤ k ∧ k < (↑s.w.length : Int))
              (Out.need (0 + k.toNat < s.w.length)
                (Out.need (0 = 0 ∧ s.l.length = s.l.length ∧ s.l.length + sl = s.l.length + sl ∧ (s.l.length + 1) * 40 ≤ 140737488355328)
                  (Out.all Nat fun y =>
                    Out.fin (AV.tup [AV.bool (s.w.getD (0 + k.toNat) (V.enc Kd.int).dflt == o), AV.lit IntKind.i64 0])
                      [(10,
                          Blk.arr 45 Kd.deed
                            (s.l ++
                              [{ thread := t, act := 3, cell := k, before := s.w.getD (0 + k.toNat) (V.enc Kd.int).dflt,
                                  after := s.w.getD (0 + k.toNat) (V.enc Kd.int).dflt }])
                            y),
                        (9,
                          Blk.cells 45
                            [AV.int IntKind.i64 t, AV.lit IntKind.i64 3, AV.int IntKind.i64 k, AV.int IntKind.i64 (s.w.getD (0 + k.toNat) (V.enc Kd.int).dflt),
                              AV.int IntKind.i64 (s.w.getD (0 + k.toNat) (V.enc Kd.int).dflt)]),
                        (0,
                          Blk.cells 43
                            [AV.sl false 1 0 1 s.w.length (s.w.length + sw), AV.sl false 2 0 1 s.h.length (s.h.length + sh),
                              AV.sl false 3 0 1 s.t.length (s.t.length + st), AV.sl false 10 0 5 (s.l.length + 1) (s.l.length + 1 + y)]),
                        (1, Blk.arr 3 Kd.int s.w sw), (2, Blk.arr 4 Kd.bool s.h sh), (3, Blk.arr 3 Kd.int s.t st)]
                      12))))))))
    (Out.fin (AV.tup [AV.ff, AV.lit IntKind.i64 1])
      [(0,
          Blk.cells 43
            [AV.sl false 1 0 1 s.w.length (s.w.length + sw), AV.sl false 2 0 1 s.h.length (s.h.length + sh), AV.sl false 3 0 1 s.t.length (s.t.length + st),
              AV.sl false 4 0 5 s.l.length (s.l.length + sl)]),
        (1, Blk.arr 3 Kd.int s.w sw), (2, Blk.arr 4 Kd.bool s.h sh), (3, Blk.arr 3 Kd.int s.t st), (4, Blk.arr 45 Kd.deed s.l sl)]
      9) := by kernel_rfl

theorem t33 (s : MR) (sw sh st sl : Nat) (t k : Int) : runF cfg0 40 33 Try.f33 [.ptr 0 0, .int .i64 t, .int .i64 k] (rUp s sw sh st sl) 7 =
  Out.ite (decide (k ≥ 0))
    (Out.ite (!decide (k < (↑s.h.length : Int)))
      (Out.fin (AV.lit IntKind.i64 1)
        [(0,
            Blk.cells 43
              [AV.sl false 1 0 1 s.w.length (s.w.length + sw), AV.sl false 2 0 1 s.h.length (s.h.length + sh), AV.sl false 3 0 1 s.t.length (s.t.length + st),
                AV.sl false 4 0 5 s.l.length (s.l.length + sl)]),
          (1, Blk.arr 3 Kd.int s.w sw), (2, Blk.arr 4 Kd.bool s.h sh), (3, Blk.arr 3 Kd.int s.t st), (4, Blk.arr 45 Kd.deed s.l sl)]
        7)
      (Out.need (0 ≤ k ∧ k < (↑s.h.length : Int))
        (Out.need (0 + k.toNat < s.h.length)
          (Out.ite (s.h.getD (0 + k.toNat) (V.enc Kd.bool).dflt)
            (Out.need (0 ≤ k ∧ k < (↑s.t.length : Int))
              (Out.need (0 + k.toNat < s.t.length)
                (Out.ite (s.t.getD (0 + k.toNat) (V.enc Kd.int).dflt == t)
                  (Out.fin (AV.lit IntKind.i64 5)
                    [(0,
                        Blk.cells 43
                          [AV.sl false 1 0 1 s.w.length (s.w.length + sw), AV.sl false 2 0 1 s.h.length (s.h.length + sh),
                            AV.sl false 3 0 1 s.t.length (s.t.length + st), AV.sl false 4 0 5 s.l.length (s.l.length + sl)]),
                      (1, Blk.arr 3 Kd.int s.w sw), (2, Blk.arr 4 Kd.bool s.h sh), (3, Blk.arr 3 Kd.int s.t st), (4, Blk.arr 45 Kd.deed s.l sl)]
                    7)
                  (Out.fin (AV.lit IntKind.i64 6)
                    [(0,
                        Blk.cells 43
                          [AV.sl false 1 0 1 s.w.length (s.w.length + sw), AV.sl false 2 0 1 s.h.length (s.h.length + sh),
                            AV.sl false 3 0 1 s.t.length (s.t.length + st), AV.sl false 4 0 5 s.l.length (s.l.length + sl)]),
                      (1, Blk.arr 3 Kd.int s.w sw), (2, Blk.arr 4 Kd.bool s.h sh), (3, Blk.arr 3 Kd.int s.t st), (4, Blk.arr 45 Kd.deed s.l sl)]
                    7))))
            (Out.need (0 ≤ k ∧ k < (↑s.h.length : Int))
              (Out.need (0 + k.toNat < s.h.length)
                (Out.need (0 ≤ k ∧ k < (↑s.t.length : Int))
                  (Out.need (0 + k.toNat < s.t.length)
                    (Out.need (0 = 0 ∧ s.l.length = s.l.length ∧ s.l.length + sl = s.l.length + sl ∧ (s.l.length + 1) * 40 ≤ 140737488355328)
                      (Out.all Nat fun y =>
                        Out.fin (AV.lit IntKind.i64 0)
                          [(10, Blk.arr 45 Kd.deed (s.l ++ [{ thread := t, act := 4, cell := k, before := 0, after := 1 }]) y),
                            (9, Blk.cells 45 [AV.int IntKind.i64 t, AV.lit IntKind.i64 4, AV.int IntKind.i64 k, AV.lit IntKind.i64 0, AV.lit IntKind.i64 1]),
                            (0,
                              Blk.cells 43
                                [AV.sl false 1 0 1 s.w.length (s.w.length + sw), AV.sl false 2 0 1 s.h.length (s.h.length + sh),
                                  AV.sl false 3 0 1 s.t.length (s.t.length + st), AV.sl false 10 0 5 (s.l.length + 1) (s.l.length + 1 + y)]),
                            (1, Blk.arr 3 Kd.int s.w sw), (2, Blk.arr 4 Kd.bool (s.h.set (0 + k.toNat) true) sh),
                            (3, Blk.arr 3 Kd.int (s.t.set (0 + k.toNat) t) st)]
                          12))))))))))
    (Out.fin (AV.lit IntKind.i64 1)
      [(0,
          Blk.cells 43
            [AV.sl false 1 0 1 s.w.length (s.w.length + sw), AV.sl false 2 0 1 s.h.length (s.h.length + sh), AV.sl false 3 0 1 s.t.length (s.t.length + st),
              AV.sl false 4 0 5 s.l.length (s.l.length + sl)]),
        (1, Blk.arr 3 Kd.int s.w sw), (2, Blk.arr 4 Kd.bool s.h sh), (3, Blk.arr 3 Kd.int s.t st), (4, Blk.arr 45 Kd.deed s.l sl)]
      7) := by kernel_rfl

theorem t34 (s : MR) (sw sh st sl : Nat) (t k : Int) : runF cfg0 40 34 Try.f34 [.ptr 0 0, .int .i64 t, .int .i64 k] (rUp s sw sh st sl) 7 =
  Out.ite (decide (k ≥ 0))
    (Out.ite (!decide (k < (↑s.h.length : Int)))
      (Out.fin (AV.tup [AV.ff, AV.lit IntKind.i64 1])
        [(0,
            Blk.cells 43
              [AV.sl false 1 0 1 s.w.length (s.w.length + sw), AV.sl false 2 0 1 s.h.length (s.h.length + sh), AV.sl false 3 0 1 s.t.length (s.t.length + st),
                AV.sl false 4 0 5 s.l.length (s.l.length + sl)]),
          (1, Blk.arr 3 Kd.int s.w sw), (2, Blk.arr 4 Kd.bool s.h sh), (3, Blk.arr 3 Kd.int s.t st), (4, Blk.arr 45 Kd.deed s.l sl)]
        7)
      (Out.need (0 ≤ k ∧ k < (↑s.h.length : Int))
        (Out.need (0 + k.toNat < s.h.length)
          (Out.ite (s.h.getD (0 + k.toNat) (V.enc Kd.bool).dflt)
            (Out.need (0 ≤ k ∧ k < (↑s.t.length : Int))
              (Out.need (0 + k.toNat < s.t.length)
                (Out.ite (s.t.getD (0 + k.toNat) (V.enc Kd.int).dflt == t)
                  (Out.fin (AV.tup [AV.ff, AV.lit IntKind.i64 5])
                    [(0,
                        Blk.cells 43
                          [AV.sl false 1 0 1 s.w.length (s.w.length + sw), AV.sl false 2 0 1 s.h.length (s.h.length + sh),
                            AV.sl false 3 0 1 s.t.length (s.t.length + st), AV.sl false 4 0 5 s.l.length (s.l.length + sl)]),
                      (1, Blk.arr 3 Kd.int s.w sw), (2, Blk.arr 4 Kd.bool s.h sh), (3, Blk.arr 3 Kd.int s.t st), (4, Blk.arr 45 Kd.deed s.l sl)]
                    7)
                  (Out.need (0 ≤ k ∧ k < (↑s.h.length : Int))
                    (Out.need (0 + k.toNat < s.h.length)
                      (Out.ite (s.h.getD (0 + k.toNat) (V.enc Kd.bool).dflt)
                        (Out.need (0 = 0 ∧ s.l.length = s.l.length ∧ s.l.length + sl = s.l.length + sl ∧ (s.l.length + 1) * 40 ≤ 140737488355328)
                          (Out.all Nat fun y =>
                            Out.fin (AV.tup [AV.ff, AV.lit IntKind.i64 0])
                              [(8, Blk.arr 45 Kd.deed (s.l ++ [{ thread := t, act := 5, cell := k, before := 1, after := 1 }]) y),
                                (7, Blk.cells 45 [AV.int IntKind.i64 t, AV.lit IntKind.i64 5, AV.int IntKind.i64 k, AV.lit IntKind.i64 1, AV.lit IntKind.i64 1]),
                                (0,
                                  Blk.cells 43
                                    [AV.sl false 1 0 1 s.w.length (s.w.length + sw), AV.sl false 2 0 1 s.h.length (s.h.length + sh),
                                      AV.sl false 3 0 1 s.t.length (s.t.length + st), AV.sl false 8 0 5 (s.l.length + 1) (s.l.length + 1 + y)]),
                                (1, Blk.arr 3 Kd.int s.w sw), (2, Blk.arr 4 Kd.bool s.h sh), (3, Blk.arr 3 Kd.int s.t st)]
                              10))
                        (Out.need (0 ≤ k ∧ k < (↑s.h.length : Int))
                          (Out.need (0 + k.toNat < s.h.length)
                            (Out.need (0 ≤ k ∧ k < (↑s.t.length : Int))
                              (Out.need (0 + k.toNat < s.t.length)
                                (Out.need (0 = 0 ∧ s.l.length = s.l.length ∧ s.l.length + sl = s.l.length + sl ∧ (s.l.length + 1) * 40 ≤ 140737488355328)
                                  (Out.all Nat fun y =>
                                    Out.fin (AV.tup [AV.tt, AV.lit IntKind.i64 0])
                                      [(10, Blk.arr 45 Kd.deed (s.l ++ [{ thread := t, act := 5, cell := k, before := 0, after := 1 }]) y),
                                        (9,
                                          Blk.cells 45
                                            [AV.int IntKind.i64 t, AV.lit IntKind.i64 5, AV.int IntKind.i64 k, AV.lit IntKind.i64 0, AV.lit IntKind.i64 1]),
                                        (0,
                                          Blk.cells 43
                                            [AV.sl false 1 0 1 s.w.length (s.w.length + sw), AV.sl false 2 0 1 s.h.length (s.h.length + sh),
                                              AV.sl false 3 0 1 s.t.length (s.t.length + st), AV.sl false 10 0 5 (s.l.length + 1) (s.l.length + 1 + y)]),
                                        (1, Blk.arr 3 Kd.int s.w sw), (2, Blk.arr 4 Kd.bool (s.h.set (0 + k.toNat) true) sh),
                                        (3, Blk.arr 3 Kd.int (s.t.set (0 + k.toNat) t) st)]
                                      12))))))))))))
            (Out.need (0 ≤ k ∧ k < (↑s.h.length : Int))
              (Out.need (0 + k.toNat < s.h.length)
                (Out.ite (s.h.getD (0 + k.toNat) (V.enc Kd.bool).dflt)
                  (Out.need (0 = 0 ∧ s.l.length = s.l.length ∧ s.l.length + sl = s.l.length + sl ∧ (s.l.length + 1) * 40 ≤ 140737488355328)
                    (Out.all Nat fun y =>
                      Out.fin (AV.tup [AV.ff, AV.lit IntKind.i64 0])
                        [(8, Blk.arr 45 Kd.deed (s.l ++ [{ thread := t, act := 5, cell := k, before := 1, after := 1 }]) y),
                          (7, Blk.cells 45 [AV.int IntKind.i64 t, AV.lit IntKind.i64 5, AV.int IntKind.i64 k, AV.lit IntKind.i64 1, AV.lit IntKind.i64 1]),
                          (0,
                            Blk.cells 43
                              [AV.sl false 1 0 1 s.w.length (s.w.length + sw), AV.sl false 2 0 1 s.h.length (s.h.length + sh),
                                AV.sl false 3 0 1 s.t.length (s.t.length + st), AV.sl false 8 0 5 (s.l.length + 1) (s.l.length + 1 + y)]),
                          (1, Blk.arr 3 Kd.int s.w sw), (2, Blk.arr 4 Kd.bool s.h sh), (3, Blk.arr 3 Kd.int s.t st)]
                        10))
                  (Out.need (0 ≤ k ∧ k < (↑s.h.length : Int))
                    (Out.need (0 + k.toNat < s.h.length)
                      (Out.need (0 ≤ k ∧ k < (↑s.t.length : Int))
                        (Out.need (0 + k.toNat < s.t.length)
                          (Out.need (0 = 0 ∧ s.l.length = s.l.length ∧ s.l.length + sl = s.l.length + sl ∧ (s.l.length + 1) * 40 ≤ 140737488355328)
                            (Out.all Nat fun y =>
                              Out.fin (AV.tup [AV.tt, AV.lit IntKind.i64 0])
                                [(10, Blk.arr 45 Kd.deed (s.l ++ [{ thread := t, act := 5, cell := k, before := 0, after := 1 }]) y),
                                  (9,
                                    Blk.cells 45 [AV.int IntKind.i64 t, AV.lit IntKind.i64 5, AV.int IntKind.i64 k, AV.lit IntKind.i64 0, AV.lit IntKind.i64 1]),
                                  (0,
                                    Blk.cells 43
                                      [AV.sl false 1 0 1 s.w.length (s.w.length + sw), AV.sl false 2 0 1 s.h.length (s.h.length + sh),
                                        AV.sl false 3 0 1 s.t.length (s.t.length + st), AV.sl false 10 0 5 (s.l.length + 1) (s.l.length + 1 + y)]),
                                  (1, Blk.arr 3 Kd.int s.w sw), (2, Blk.arr 4 Kd.bool (s.h.set (0 + k.toNat) true) sh),
                                  (3, Blk.arr 3 Kd.int (s.t.set (0 + k.toNat) t) st)]
                                12)))))))))))))
    (Out.fin (AV.tup [AV.ff, AV.lit IntKind.i64 1])
      [(0,
          Blk.cells 43
            [AV.sl false 1 0 1 s.w.length (s.w.length + sw), AV.sl false 2 0 1 s.h.length (s.h.length + sh), AV.sl false 3 0 1 s.t.length (s.t.length + st),
              AV.sl false 4 0 5 s.l.length (s.l.length + sl)]),
        (1, Blk.arr 3 Kd.int s.w sw), (2, Blk.arr 4 Kd.bool s.h sh), (3, Blk.arr 3 Kd.int s.t st), (4, Blk.arr 45 Kd.deed s.l sl)]
      7) := by kernel_rfl

theorem t35 (s : MR) (sw sh st sl : Nat) (t k : Int) : runF cfg0 40 35 Try.f35 [.ptr 0 0, .int .i64 t, .int .i64 k] (rUp s sw sh st sl) 7 =
  Out.ite (decide (k ≥ 0))
    (Out.ite (!decide (k < (↑s.h.length : Int)))
      (Out.fin (AV.lit IntKind.i64 1)
        [(0,
            Blk.cells 43
              [AV.sl false 1 0 1 s.w.length (s.w.length + sw), AV.sl false 2 0 1 s.h.length (s.h.length + sh), AV.sl false 3 0 1 s.t.length (s.t.length + st),
                AV.sl false 4 0 5 s.l.length (s.l.length + sl)]),
          (1, Blk.arr 3 Kd.int s.w sw), (2, Blk.arr 4 Kd.bool s.h sh), (3, Blk.arr 3 Kd.int s.t st), (4, Blk.arr 45 Kd.deed s.l sl)]
        7)
      (Out.need (0 ≤ k ∧ k < (↑s.h.length : Int))
        (Out.need (0 + k.toNat < s.h.length)
          (Out.ite (!s.h.getD (0 + k.toNat) (V.enc Kd.bool).dflt)
            (Out.fin (AV.lit IntKind.i64 3)
              [(0,
                  Blk.cells 43
                    [AV.sl false 1 0 1 s.w.length (s.w.length + sw), AV.sl false 2 0 1 s.h.length (s.h.length + sh),
                      AV.sl false 3 0 1 s.t.length (s.t.length + st), AV.sl false 4 0 5 s.l.length (s.l.length + sl)]),
                (1, Blk.arr 3 Kd.int s.w sw), (2, Blk.arr 4 Kd.bool s.h sh), (3, Blk.arr 3 Kd.int s.t st), (4, Blk.arr 45 Kd.deed s.l sl)]
              7)
            (Out.need (0 ≤ k ∧ k < (↑s.t.length : Int))
              (Out.need (0 + k.toNat < s.t.length)
                (Out.ite (s.t.getD (0 + k.toNat) (V.enc Kd.int).dflt != t)
                  (Out.fin (AV.lit IntKind.i64 3)
                    [(0,
                        Blk.cells 43
                          [AV.sl false 1 0 1 s.w.length (s.w.length + sw), AV.sl false 2 0 1 s.h.length (s.h.length + sh),
                            AV.sl false 3 0 1 s.t.length (s.t.length + st), AV.sl false 4 0 5 s.l.length (s.l.length + sl)]),
                      (1, Blk.arr 3 Kd.int s.w sw), (2, Blk.arr 4 Kd.bool s.h sh), (3, Blk.arr 3 Kd.int s.t st), (4, Blk.arr 45 Kd.deed s.l sl)]
                    7)
                  (Out.need (0 ≤ k ∧ k < (↑s.h.length : Int))
                    (Out.need (0 + k.toNat < s.h.length)
                      (Out.need (0 = 0 ∧ s.l.length = s.l.length ∧ s.l.length + sl = s.l.length + sl ∧ (s.l.length + 1) * 40 ≤ 140737488355328)
                        (Out.all Nat fun y =>
                          Out.fin (AV.lit IntKind.i64 0)
                            [(9, Blk.arr 45 Kd.deed (s.l ++ [{ thread := t, act := 6, cell := k, before := 1, after := 0 }]) y),
                              (8, Blk.cells 45 [AV.int IntKind.i64 t, AV.lit IntKind.i64 6, AV.int IntKind.i64 k, AV.lit IntKind.i64 1, AV.lit IntKind.i64 0]),
                              (0,
                                Blk.cells 43
                                  [AV.sl false 1 0 1 s.w.length (s.w.length + sw), AV.sl false 2 0 1 s.h.length (s.h.length + sh),
                                    AV.sl false 3 0 1 s.t.length (s.t.length + st), AV.sl false 9 0 5 (s.l.length + 1) (s.l.length + 1 + y)]),
                              (1, Blk.arr 3 Kd.int s.w sw), (2, Blk.arr 4 Kd.bool (s.h.set (0 + k.toNat) false) sh), (3, Blk.arr 3 Kd.int s.t st)]
                            11)))))))))))
    (Out.fin (AV.lit IntKind.i64 1)
      [(0,
          Blk.cells 43
            [AV.sl false 1 0 1 s.w.length (s.w.length + sw), AV.sl false 2 0 1 s.h.length (s.h.length + sh), AV.sl false 3 0 1 s.t.length (s.t.length + st),
              AV.sl false 4 0 5 s.l.length (s.l.length + sl)]),
        (1, Blk.arr 3 Kd.int s.w sw), (2, Blk.arr 4 Kd.bool s.h sh), (3, Blk.arr 3 Kd.int s.t st), (4, Blk.arr 45 Kd.deed s.l sl)]
      7) := by kernel_rfl

theorem t17 (s : MR) (sw sh st sl : Nat) (k : Int) : runF cfg0 40 17 Try.f17 [.ptr 0 0, .int .i64 k] (rUp s sw sh st sl) 6 =
  Out.ite (decide (k ≥ 0))
    (Out.ite (!decide (k < (↑s.h.length : Int)))
      (Out.fin (AV.lit IntKind.i64 (-1))
        [(0,
            Blk.cells 43
              [AV.sl false 1 0 1 s.w.length (s.w.length + sw), AV.sl false 2 0 1 s.h.length (s.h.length + sh), AV.sl false 3 0 1 s.t.length (s.t.length + st),
                AV.sl false 4 0 5 s.l.length (s.l.length + sl)]),
          (1, Blk.arr 3 Kd.int s.w sw), (2, Blk.arr 4 Kd.bool s.h sh), (3, Blk.arr 3 Kd.int s.t st), (4, Blk.arr 45 Kd.deed s.l sl)]
        6)
      (Out.need (0 ≤ k ∧ k < (↑s.h.length : Int))
        (Out.need (0 + k.toNat < s.h.length)
          (Out.ite (!s.h.getD (0 + k.toNat) (V.enc Kd.bool).dflt)
            (Out.fin (AV.lit IntKind.i64 (-1))
              [(0,
                  Blk.cells 43
                    [AV.sl false 1 0 1 s.w.length (s.w.length + sw), AV.sl false 2 0 1 s.h.length (s.h.length + sh),
                      AV.sl false 3 0 1 s.t.length (s.t.length + st), AV.sl false 4 0 5 s.l.length (s.l.length + sl)]),
                (1, Blk.arr 3 Kd.int s.w sw), (2, Blk.arr 4 Kd.bool s.h sh), (3, Blk.arr 3 Kd.int s.t st), (4, Blk.arr 45 Kd.deed s.l sl)]
              6)
            (Out.need (0 ≤ k ∧ k < (↑s.t.length : Int))
              (Out.need (0 + k.toNat < s.t.length)
                (Out.fin (AV.int IntKind.i64 (s.t.getD (0 + k.toNat) (V.enc Kd.int).dflt))
                  [(0,
                      Blk.cells 43
                        [AV.sl false 1 0 1 s.w.length (s.w.length + sw), AV.sl false 2 0 1 s.h.length (s.h.length + sh),
                          AV.sl false 3 0 1 s.t.length (s.t.length + st), AV.sl false 4 0 5 s.l.length (s.l.length + sl)]),
                    (1, Blk.arr 3 Kd.int s.w sw), (2, Blk.arr 4 Kd.bool s.h sh), (3, Blk.arr 3 Kd.int s.t st), (4, Blk.arr 45 Kd.deed s.l sl)]
                  6)))))))
    (Out.fin (AV.lit IntKind.i64 (-1))
      [(0,
          Blk.cells 43
            [AV.sl false 1 0 1 s.w.length (s.w.length + sw), AV.sl false 2 0 1 s.h.length (s.h.length + sh), AV.sl false 3 0 1 s.t.length (s.t.length + st),
              AV.sl false 4 0 5 s.l.length (s.l.length + sl)]),
        (1, Blk.arr 3 Kd.int s.w sw), (2, Blk.arr 4 Kd.bool s.h sh), (3, Blk.arr 3 Kd.int s.t st), (4, Blk.arr 45 Kd.deed s.l sl)]
      6) := by kernel_rfl

theorem t14 (a b : Int) : runF cfg0 40 14 Try.f14 [.int .i64 a, .int .i64 b] [] 2 =
  (Out.need
        ((0 ≤ if 4096 < if 0 > a then 0 else a then 4096 else if 0 > a then 0 else a) ∧
          ((if 4096 < if 0 > a then 0 else a then 4096 else if 0 > a then 0 else a) ≤ if 4096 < if 0 > a then 0 else a then 4096 else if 0 > a then 0 else a) ∧
            (8 * if 4096 < if 0 > a then 0 else a then 4096 else if 0 > a then 0 else a) ≤ 281474976710656)
        ((Out.need
              ((0 ≤ if 4096 < if 0 > b then 0 else b then 4096 else if 0 > b then 0 else b) ∧
                ((if 4096 < if 0 > b then 0 else b then 4096 else if 0 > b then 0 else b) ≤
                    if 4096 < if 0 > b then 0 else b then 4096 else if 0 > b then 0 else b) ∧
                  (1 * if 4096 < if 0 > b then 0 else b then 4096 else if 0 > b then 0 else b) ≤ 281474976710656)
              (Out.need
                ((0 ≤ if 4096 < if 0 > b then 0 else b then 4096 else if 0 > b then 0 else b) ∧
                  ((if 4096 < if 0 > b then 0 else b then 4096 else if 0 > b then 0 else b) ≤
                      if 4096 < if 0 > b then 0 else b then 4096 else if 0 > b then 0 else b) ∧
                    (8 * if 4096 < if 0 > b then 0 else b then 4096 else if 0 > b then 0 else b) ≤ 281474976710656)
                (Out.fin (AV.ptr 5 0)
                  [(5,
                      Blk.cells 43
                        [AV.sl false 2 0 1 (if 4096 < if 0 > a then 0 else a then 4096 else if 0 > a then 0 else a).toNat
                            (if 4096 < if 0 > a then 0 else a then 4096 else if 0 > a then 0 else a).toNat,
                          AV.sl false 3 0 1 (if 4096 < if 0 > b then 0 else b then 4096 else if 0 > b then 0 else b).toNat
                            (if 4096 < if 0 > b then 0 else b then 4096 else if 0 > b then 0 else b).toNat,
                          AV.sl false 4 0 1 (if 4096 < if 0 > b then 0 else b then 4096 else if 0 > b then 0 else b).toNat
                            (if 4096 < if 0 > b then 0 else b then 4096 else if 0 > b then 0 else b).toNat,
                          AV.nilS]),
                    (4,
                      Blk.arr 3 Kd.int (List.replicate (if 4096 < if 0 > b then 0 else b then 4096 else if 0 > b then 0 else b).toNat (V.enc Kd.int).dflt)
                        ((if 4096 < if 0 > b then 0 else b then 4096 else if 0 > b then 0 else b).toNat -
                          (if 4096 < if 0 > b then 0 else b then 4096 else if 0 > b then 0 else b).toNat)),
                    (3,
                      Blk.arr 4 Kd.bool (List.replicate (if 4096 < if 0 > b then 0 else b then 4096 else if 0 > b then 0 else b).toNat (V.enc Kd.bool).dflt)
                        ((if 4096 < if 0 > b then 0 else b then 4096 else if 0 > b then 0 else b).toNat -
                          (if 4096 < if 0 > b then 0 else b then 4096 else if 0 > b then 0 else b).toNat)),
                    (2,
                      Blk.arr 3 Kd.int (List.replicate (if 4096 < if 0 > a then 0 else a then 4096 else if 0 > a then 0 else a).toNat (V.enc Kd.int).dflt)
                        ((if 4096 < if 0 > a then 0 else a then 4096 else if 0 > a then 0 else a).toNat -
                          (if 4096 < if 0 > a then 0 else a then 4096 else if 0 > a then 0 else a).toNat))]
                  6))).both
          (Out.need
            ((0 ≤ if 4096 < if 0 > b then 0 else b then 4096 else if 0 > b then 0 else b) ∧
              ((if 4096 < if 0 > b then 0 else b then 4096 else if 0 > b then 0 else b) ≤
                  if 4096 < if 0 > b then 0 else b then 4096 else if 0 > b then 0 else b) ∧
                (8 * if 4096 < if 0 > b then 0 else b then 4096 else if 0 > b then 0 else b) ≤ 281474976710656)
            (Out.need
              ((0 ≤ if 4096 < if 0 > b then 0 else b then 4096 else if 0 > b then 0 else b) ∧
                ((if 4096 < if 0 > b then 0 else b then 4096 else if 0 > b then 0 else b) ≤
                    if 4096 < if 0 > b then 0 else b then 4096 else if 0 > b then 0 else b) ∧
                  (1 * if 4096 < if 0 > b then 0 else b then 4096 else if 0 > b then 0 else b) ≤ 281474976710656)
              (Out.fin (AV.ptr 5 0)
                [(5,
                    Blk.cells 43
                      [AV.sl false 2 0 1 (if 4096 < if 0 > a then 0 else a then 4096 else if 0 > a then 0 else a).toNat
                          (if 4096 < if 0 > a then 0 else a then 4096 else if 0 > a then 0 else a).toNat,
                        AV.sl false 4 0 1 (if 4096 < if 0 > b then 0 else b then 4096 else if 0 > b then 0 else b).toNat
                          (if 4096 < if 0 > b then 0 else b then 4096 else if 0 > b then 0 else b).toNat,
                        AV.sl false 3 0 1 (if 4096 < if 0 > b then 0 else b then 4096 else if 0 > b then 0 else b).toNat
                          (if 4096 < if 0 > b then 0 else b then 4096 else if 0 > b then 0 else b).toNat,
                        AV.nilS]),
                  (4,
                    Blk.arr 4 Kd.bool (List.replicate (if 4096 < if 0 > b then 0 else b then 4096 else if 0 > b then 0 else b).toNat (V.enc Kd.bool).dflt)
                      ((if 4096 < if 0 > b then 0 else b then 4096 else if 0 > b then 0 else b).toNat -
                        (if 4096 < if 0 > b then 0 else b then 4096 else if 0 > b then 0 else b).toNat)),
                  (3,
                    Blk.arr 3 Kd.int (List.replicate (if 4096 < if 0 > b then 0 else b then 4096 else if 0 > b then 0 else b).toNat (V.enc Kd.int).dflt)
                      ((if 4096 < if 0 > b then 0 else b then 4096 else if 0 > b then 0 else b).toNat -
                        (if 4096 < if 0 > b then 0 else b then 4096 else if 0 > b then 0 else b).toNat)),
                  (2,
                    Blk.arr 3 Kd.int (List.replicate (if 4096 < if 0 > a then 0 else a then 4096 else if 0 > a then 0 else a).toNat (V.enc Kd.int).dflt)
                      ((if 4096 < if 0 > a then 0 else a then 4096 else if 0 > a then 0 else a).toNat -
                        (if 4096 < if 0 > a then 0 else a then 4096 else if 0 > a then 0 else a).toNat))]
                6))))).both
    ((Out.need
          ((0 ≤ if 4096 < if 0 > b then 0 else b then 4096 else if 0 > b then 0 else b) ∧
            ((if 4096 < if 0 > b then 0 else b then 4096 else if 0 > b then 0 else b) ≤ if 4096 < if 0 > b then 0 else b then 4096 else if 0 > b then 0 else b) ∧
              (1 * if 4096 < if 0 > b then 0 else b then 4096 else if 0 > b then 0 else b) ≤ 281474976710656)
          ((Out.need
                ((0 ≤ if 4096 < if 0 > a then 0 else a then 4096 else if 0 > a then 0 else a) ∧
                  ((if 4096 < if 0 > a then 0 else a then 4096 else if 0 > a then 0 else a) ≤
                      if 4096 < if 0 > a then 0 else a then 4096 else if 0 > a then 0 else a) ∧
                    (8 * if 4096 < if 0 > a then 0 else a then 4096 else if 0 > a then 0 else a) ≤ 281474976710656)
                (Out.need
                  ((0 ≤ if 4096 < if 0 > b then 0 else b then 4096 else if 0 > b then 0 else b) ∧
                    ((if 4096 < if 0 > b then 0 else b then 4096 else if 0 > b then 0 else b) ≤
                        if 4096 < if 0 > b then 0 else b then 4096 else if 0 > b then 0 else b) ∧
                      (8 * if 4096 < if 0 > b then 0 else b then 4096 else if 0 > b then 0 else b) ≤ 281474976710656)
                  (Out.fin (AV.ptr 5 0)
                    [(5,
                        Blk.cells 43
                          [AV.sl false 3 0 1 (if 4096 < if 0 > a then 0 else a then 4096 else if 0 > a then 0 else a).toNat
                              (if 4096 < if 0 > a then 0 else a then 4096 else if 0 > a then 0 else a).toNat,
                            AV.sl false 2 0 1 (if 4096 < if 0 > b then 0 else b then 4096 else if 0 > b then 0 else b).toNat
                              (if 4096 < if 0 > b then 0 else b then 4096 else if 0 > b then 0 else b).toNat,
                            AV.sl false 4 0 1 (if 4096 < if 0 > b then 0 else b then 4096 else if 0 > b then 0 else b).toNat
                              (if 4096 < if 0 > b then 0 else b then 4096 else if 0 > b then 0 else b).toNat,
                            AV.nilS]),
                      (4,
                        Blk.arr 3 Kd.int (List.replicate (if 4096 < if 0 > b then 0 else b then 4096 else if 0 > b then 0 else b).toNat (V.enc Kd.int).dflt)
                          ((if 4096 < if 0 > b then 0 else b then 4096 else if 0 > b then 0 else b).toNat -
                            (if 4096 < if 0 > b then 0 else b then 4096 else if 0 > b then 0 else b).toNat)),
                      (3,
                        Blk.arr 3 Kd.int (List.replicate (if 4096 < if 0 > a then 0 else a then 4096 else if 0 > a then 0 else a).toNat (V.enc Kd.int).dflt)
                          ((if 4096 < if 0 > a then 0 else a then 4096 else if 0 > a then 0 else a).toNat -
                            (if 4096 < if 0 > a then 0 else a then 4096 else if 0 > a then 0 else a).toNat)),
                      (2,
                        Blk.arr 4 Kd.bool (List.replicate (if 4096 < if 0 > b then 0 else b then 4096 else if 0 > b then 0 else b).toNat (V.enc Kd.bool).dflt)
                          ((if 4096 < if 0 > b then 0 else b then 4096 else if 0 > b then 0 else b).toNat -
                            (if 4096 < if 0 > b then 0 else b then 4096 else if 0 > b then 0 else b).toNat))]
                    6))).both
            (Out.need
              ((0 ≤ if 4096 < if 0 > b then 0 else b then 4096 else if 0 > b then 0 else b) ∧
                ((if 4096 < if 0 > b then 0 else b then 4096 else if 0 > b then 0 else b) ≤
                    if 4096 < if 0 > b then 0 else b then 4096 else if 0 > b then 0 else b) ∧
                  (8 * if 4096 < if 0 > b then 0 else b then 4096 else if 0 > b then 0 else b) ≤ 281474976710656)
              (Out.need
                ((0 ≤ if 4096 < if 0 > a then 0 else a then 4096 else if 0 > a then 0 else a) ∧
                  ((if 4096 < if 0 > a then 0 else a then 4096 else if 0 > a then 0 else a) ≤
                      if 4096 < if 0 > a then 0 else a then 4096 else if 0 > a then 0 else a) ∧
                    (8 * if 4096 < if 0 > a then 0 else a then 4096 else if 0 > a then 0 else a) ≤ 281474976710656)
                (Out.fin (AV.ptr 5 0)
                  [(5,
                      Blk.cells 43
                        [AV.sl false 4 0 1 (if 4096 < if 0 > a then 0 else a then 4096 else if 0 > a then 0 else a).toNat
                            (if 4096 < if 0 > a then 0 else a then 4096 else if 0 > a then 0 else a).toNat,
                          AV.sl false 2 0 1 (if 4096 < if 0 > b then 0 else b then 4096 else if 0 > b then 0 else b).toNat
                            (if 4096 < if 0 > b then 0 else b then 4096 else if 0 > b then 0 else b).toNat,
                          AV.sl false 3 0 1 (if 4096 < if 0 > b then 0 else b then 4096 else if 0 > b then 0 else b).toNat
                            (if 4096 < if 0 > b then 0 else b then 4096 else if 0 > b then 0 else b).toNat,
                          AV.nilS]),
                    (4,
                      Blk.arr 3 Kd.int (List.replicate (if 4096 < if 0 > a then 0 else a then 4096 else if 0 > a then 0 else a).toNat (V.enc Kd.int).dflt)
                        ((if 4096 < if 0 > a then 0 else a then 4096 else if 0 > a then 0 else a).toNat -
                          (if 4096 < if 0 > a then 0 else a then 4096 else if 0 > a then 0 else a).toNat)),
                    (3,
                      Blk.arr 3 Kd.int (List.replicate (if 4096 < if 0 > b then 0 else b then 4096 else if 0 > b then 0 else b).toNat (V.enc Kd.int).dflt)
                        ((if 4096 < if 0 > b then 0 else b then 4096 else if 0 > b then 0 else b).toNat -
                          (if 4096 < if 0 > b then 0 else b then 4096 else if 0 > b then 0 else b).toNat)),
                    (2,
                      Blk.arr 4 Kd.bool (List.replicate (if 4096 < if 0 > b then 0 else b then 4096 else if 0 > b then 0 else b).toNat (V.enc Kd.bool).dflt)
                        ((if 4096 < if 0 > b then 0 else b then 4096 else if 0 > b then 0 else b).toNat -
                          (if 4096 < if 0 > b then 0 else b then 4096 else if 0 > b then 0 else b).toNat))]
                  6))))).both
      (Out.need
        ((0 ≤ if 4096 < if 0 > b then 0 else b then 4096 else if 0 > b then 0 else b) ∧
          ((if 4096 < if 0 > b then 0 else b then 4096 else if 0 > b then 0 else b) ≤ if 4096 < if 0 > b then 0 else b then 4096 else if 0 > b then 0 else b) ∧
            (8 * if 4096 < if 0 > b then 0 else b then 4096 else if 0 > b then 0 else b) ≤ 281474976710656)
        ((Out.need
              ((0 ≤ if 4096 < if 0 > a then 0 else a then 4096 else if 0 > a then 0 else a) ∧
                ((if 4096 < if 0 > a then 0 else a then 4096 else if 0 > a then 0 else a) ≤
                    if 4096 < if 0 > a then 0 else a then 4096 else if 0 > a then 0 else a) ∧
                  (8 * if 4096 < if 0 > a then 0 else a then 4096 else if 0 > a then 0 else a) ≤ 281474976710656)
              (Out.need
                ((0 ≤ if 4096 < if 0 > b then 0 else b then 4096 else if 0 > b then 0 else b) ∧
                  ((if 4096 < if 0 > b then 0 else b then 4096 else if 0 > b then 0 else b) ≤
                      if 4096 < if 0 > b then 0 else b then 4096 else if 0 > b then 0 else b) ∧
                    (1 * if 4096 < if 0 > b then 0 else b then 4096 else if 0 > b then 0 else b) ≤ 281474976710656)
                (Out.fin (AV.ptr 5 0)
                  [(5,
                      Blk.cells 43
                        [AV.sl false 3 0 1 (if 4096 < if 0 > a then 0 else a then 4096 else if 0 > a then 0 else a).toNat
                            (if 4096 < if 0 > a then 0 else a then 4096 else if 0 > a then 0 else a).toNat,
                          AV.sl false 4 0 1 (if 4096 < if 0 > b then 0 else b then 4096 else if 0 > b then 0 else b).toNat
                            (if 4096 < if 0 > b then 0 else b then 4096 else if 0 > b then 0 else b).toNat,
                          AV.sl false 2 0 1 (if 4096 < if 0 > b then 0 else b then 4096 else if 0 > b then 0 else b).toNat
                            (if 4096 < if 0 > b then 0 else b then 4096 else if 0 > b then 0 else b).toNat,
                          AV.nilS]),
                    (4,
                      Blk.arr 4 Kd.bool (List.replicate (if 4096 < if 0 > b then 0 else b then 4096 else if 0 > b then 0 else b).toNat (V.enc Kd.bool).dflt)
                        ((if 4096 < if 0 > b then 0 else b then 4096 else if 0 > b then 0 else b).toNat -
                          (if 4096 < if 0 > b then 0 else b then 4096 else if 0 > b then 0 else b).toNat)),
                    (3,
                      Blk.arr 3 Kd.int (List.replicate (if 4096 < if 0 > a then 0 else a then 4096 else if 0 > a then 0 else a).toNat (V.enc Kd.int).dflt)
                        ((if 4096 < if 0 > a then 0 else a then 4096 else if 0 > a then 0 else a).toNat -
                          (if 4096 < if 0 > a then 0 else a then 4096 else if 0 > a then 0 else a).toNat)),
                    (2,
                      Blk.arr 3 Kd.int (List.replicate (if 4096 < if 0 > b then 0 else b then 4096 else if 0 > b then 0 else b).toNat (V.enc Kd.int).dflt)
                        ((if 4096 < if 0 > b then 0 else b then 4096 else if 0 > b then 0 else b).toNat -
                          (if 4096 < if 0 > b then 0 else b then 4096 else if 0 > b then 0 else b).toNat))]
                  6))).both
          (Out.need
            ((0 ≤ if 4096 < if 0 > b then 0 else b then 4096 else if 0 > b then 0 else b) ∧
              ((if 4096 < if 0 > b then 0 else b then 4096 else if 0 > b then 0 else b) ≤
                  if 4096 < if 0 > b then 0 else b then 4096 else if 0 > b then 0 else b) ∧
                (1 * if 4096 < if 0 > b then 0 else b then 4096 else if 0 > b then 0 else b) ≤ 281474976710656)
            (Out.need
              ((0 ≤ if 4096 < if 0 > a then 0 else a then 4096 else if 0 > a then 0 else a) ∧
                ((if 4096 < if 0 > a then 0 else a then 4096 else if 0 > a then 0 else a) ≤
                    if 4096 < if 0 > a then 0 else a then 4096 else if 0 > a then 0 else a) ∧
                  (8 * if 4096 < if 0 > a then 0 else a then 4096 else if 0 > a then 0 else a) ≤ 281474976710656)
              (Out.fin (AV.ptr 5 0)
                [(5,
                    Blk.cells 43
                      [AV.sl false 4 0 1 (if 4096 < if 0 > a then 0 else a then 4096 else if 0 > a then 0 else a).toNat
                          (if 4096 < if 0 > a then 0 else a then 4096 else if 0 > a then 0 else a).toNat,
                        AV.sl false 3 0 1 (if 4096 < if 0 > b then 0 else b then 4096 else if 0 > b then 0 else b).toNat
                          (if 4096 < if 0 > b then 0 else b then 4096 else if 0 > b then 0 else b).toNat,
                        AV.sl false 2 0 1 (if 4096 < if 0 > b then 0 else b then 4096 else if 0 > b then 0 else b).toNat
                          (if 4096 < if 0 > b then 0 else b then 4096 else if 0 > b then 0 else b).toNat,
                        AV.nilS]),
                  (4,
                    Blk.arr 3 Kd.int (List.replicate (if 4096 < if 0 > a then 0 else a then 4096 else if 0 > a then 0 else a).toNat (V.enc Kd.int).dflt)
                      ((if 4096 < if 0 > a then 0 else a then 4096 else if 0 > a then 0 else a).toNat -
                        (if 4096 < if 0 > a then 0 else a then 4096 else if 0 > a then 0 else a).toNat)),
                  (3,
                    Blk.arr 4 Kd.bool (List.replicate (if 4096 < if 0 > b then 0 else b then 4096 else if 0 > b then 0 else b).toNat (V.enc Kd.bool).dflt)
                      ((if 4096 < if 0 > b then 0 else b then 4096 else if 0 > b then 0 else b).toNat -
                        (if 4096 < if 0 > b then 0 else b then 4096 else if 0 > b then 0 else b).toNat)),
                  (2,
                    Blk.arr 3 Kd.int (List.replicate (if 4096 < if 0 > b then 0 else b then 4096 else if 0 > b then 0 else b).toNat (V.enc Kd.int).dflt)
                      ((if 4096 < if 0 > b then 0 else b then 4096 else if 0 > b then 0 else b).toNat -
                        (if 4096 < if 0 > b then 0 else b then 4096 else if 0 > b then 0 else b).toNat))]
                6)))))) := by kernel_rfl

end Sx
end Go.Proofs.Ytjackepkphdibaa
