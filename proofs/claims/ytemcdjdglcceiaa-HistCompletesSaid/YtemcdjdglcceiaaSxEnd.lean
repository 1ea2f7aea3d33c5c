/-
  Whole functions, run and met: what all seats use alike.
-/
import Derived.Test.YtemcdjdglcceiaaSxY
namespace Go.Proofs.Ytemcdjdglcceiaa
namespace Sx
open Go

section
variable {U : Uni} {P : Program}

/-- A run of a whole function. -/
noncomputable def runF (C : Cfg P U) (n g : Nat) (fn : Func) (args : List AV) (h : Heap U) (nx : Nat) : Out U :=
  match fn.body with
  | some b => runCode C n g b ⟨argsEnv 0 args, h, nx, fn.ntmps, []⟩ (fun e s' => match e with
     | .nx => resAll C.τ fn s' fun v => .fin v s'.heap s'.nx
     | .rt => resAll C.τ fn s' fun v => .fin v s'.heap s'.nx
     | .ex _ => .bad 301)
  | none => .bad 0
/-- A run of which only what it tells is kept. -/
noncomputable def runL (C : Cfg P U) (n g : Nat) (fn : Func) (args : List AV) (h : Heap U) (nx : Nat) : Out U :=
  match fn.body with
  | some b => runCode C n g b ⟨argsEnv 0 args, h, nx, fn.ntmps, []⟩ (fun e s' => match e with
     | .nx => resAll C.τ fn s' fun v => .fin v [] 0
     | .rt => resAll C.τ fn s' fun v => .fin v [] 0
     | .ex _ => .bad 301)
  | none => .bad 0

theorem calls_runF {C : Cfg P U} (hC : C.ok) {n g : Nat} {fn : Func} (hg : P.funcs[g]? = some fn ∧ (fn.name == "runtime.NumGoroutine") = false) (hb : fn.body.isSome = true) {args : List AV} (hl : args.length ≤ fn.ntmps) {h : Heap U} {nx : Nat}
    {R : AV → Heap U → Nat → List Nat → Prop} (H : (runF C n g fn args h nx).holds ⟨fun _ _ => False, fun v h' nx' => R v h' nx' []⟩) : CallsSx P g args h nx (fun v h' nx' _ => R v h' nx' []) := by
  unfold runF at H
  cases hbd : fn.body with
  | none => rw [hbd] at hb; cases hb
  | some body =>
    rw [hbd] at H
    exact calls_of_run hC (n := n) (M := ⟨fun _ _ => False, fun v h' nx' => R v h' nx' []⟩) (R := fun v h' nx' _ => R v h' nx' []) (k := fun v h' nx' _ => .fin v h' nx') hg.1 hg.2 hbd hl (fun _ _ _ _ hh => hh) H
theorem calls_runL {C : Cfg P U} (hC : C.ok) {n g : Nat} {fn : Func} (hg : P.funcs[g]? = some fn ∧ (fn.name == "runtime.NumGoroutine") = false) (hb : fn.body.isSome = true) {args : List AV} (hl : args.length ≤ fn.ntmps) {h : Heap U} {nx : Nat}
    (H : (runL C n g fn args h nx).holds ⟨fun _ _ => False, fun v _ _ => v.sub .tt⟩) : CallsSx P g args h nx (fun v _ _ _ => v.sub .tt) := by
  unfold runL at H
  cases hbd : fn.body with
  | none => rw [hbd] at hb; cases hb
  | some body =>
    rw [hbd] at H
    exact calls_of_run hC (n := n) (M := ⟨fun _ _ => False, fun v _ _ => v.sub .tt⟩) (R := fun v _ _ _ => v.sub .tt) (k := fun v h' nx' _ => .fin v [] 0) hg.1 hg.2 hbd hl (fun _ _ _ _ hh => hh) H

theorem AV.sub_lit' {k : IntKind} {n : Int} : (AV.lit k n).sub (.int k n) := fun _ _ h => h
theorem AV.sub_same (a : AV) : a.sub a := fun _ _ h => h
theorem AV.sub_tup {xs bs : List AV} (h : ∀ r vs, relL r xs vs → relL r bs vs) : (AV.tup xs).sub (.tup bs) := fun r v ⟨vs, e, k⟩ => ⟨vs, h r vs e, k⟩
theorem AV.sub_two {a b c d : AV} (h : a.sub c) (k : b.sub d) : (AV.tup [a, b]).sub (.tup [c, d]) := AV.sub_tup (AV.subL_cons h (AV.subL_cons k AV.subL_nil))

theorem free_hook [Plain U] [Bare U] {C : Cfg P U} (hC : C.ok) {f n : Nat} {fn : Func} {sgn : List (Sg U)} {run : RunFree U} (hg : P.funcs[f]? = some fn ∧ (fn.name == "runtime.NumGoroutine") = false) (hb : fn.body.isSome = true)
    (H : ∀ (M : Goal U) (ar : List (Arg U)) (K0 : AV → List (Blk U) → Out U), (run ar K0).holds M → ar.length ≤ fn.ntmps ∧
      (runF C n f fn (argAV 0 ar) (argHeap 0 ar) ar.length).holds ⟨fun _ _ => False, fun v0 h' n' => ∃ v E, (K0 v E).holds M ∧ EndFree n' v0 h' v E⟩) :
    HookOk P f (hookFree sgn run) := by
  refine hookFree_ok ⟨fn, hg.1, hg.2, by cases hb' : fn.body <;> simp [hb'] at hb ⊢⟩ ?_
  intro M ar K0 h
  obtain ⟨hl, h⟩ := H M ar _ h
  refine calls_runF (R := fun v0 h' n' _ => ∃ v E, (K0 v E).holds M ∧ EndFree n' v0 h' v E) hC (n := n) hg hb ?_ h
  have : ∀ (j : Nat) (l : List (Arg U)), (argAV j l).length = l.length := by
    intro j l; induction l generalizing j with
    | nil => rfl
    | cons a l ih => simp [argAV, ih]
  rw [this]; exact hl

theorem endPlain {n' : Nat} {v0 v : AV} {h' : Heap U} (h : v0.sub v) (hv : v.on noName = true) : EndFree n' v0 h' v [] := ⟨h', HImp.refl _ _, .plain h hv⟩

theorem wrap_nat {n : Nat} (h : n < 4611686018427387904) : IntKind.wrap .i64 ((n : Int) + 1) = ((n + 1 : Nat) : Int) := by
  simp [IntKind.wrap, IntKind.bits, IntKind.signed]; omega
theorem wrap_low {n : Int} (h0 : -4611686018427387904 < n) (h : n < 4611686018427387904) : IntKind.wrap .i64 n = n := by
  simp [IntKind.wrap, IntKind.bits, IntKind.signed]; omega
end
end Sx
end Go.Proofs.Ytemcdjdglcceiaa
