/-
  A closed case, run whole: what it tells is true; handed on as a hook of any universe.
-/
import Derived.Test.YtnegocgblmdihaaGreatDoorCuttingP5
namespace Go.Proofs.YtnegocgblmdihaaGreatDoor
namespace Sx
open Go

section
variable {U : Uni}
/-- Each choice made, and true told at the end. -/
def Out.goodC : Out U → Prop
  | .fin v _ _ => (match v with | .tt => True | .bool b => b = true | _ => False)
  | .stop _ _ => False
  | .ite b t e => (match b with | true => t.goodC | false => e.goodC)
  | .need _ _ => False
  | @Out.needd _ p _ k => cond (decide p) k.goodC False
  | .same a b k => a = b ∧ k.goodC
  | .asm _ k => k.goodC
  | .all _ f => ∀ x, (f x).goodC
  | .ex _ _ => False
  | .both a b => a.goodC ∧ b.goodC
  | .maybe b t e => (match b with | true => t.goodC ∧ e.goodC | false => e.goodC)
  | .bad _ => False
theorem Out.goodC_holds {M : Goal U} (hM : ∀ (v : AV) h n, (v = .tt ∨ v = .bool true) → M.F v h n) : ∀ (o : Out U), o.goodC → o.holds M
  | .fin v h n, e => by
    apply hM
    cases v <;> first | exact .inl rfl | exact e.elim | (have e : _ = true := e; subst e; exact .inr rfl)
  | .stop _ _, e => e.elim
  | .ite b t k, e => by
    cases b with
    | true => exact And.intro (fun _ => Out.goodC_holds hM t e) (fun h => Bool.noConfusion h)
    | false => exact And.intro (fun h => Bool.noConfusion h) (fun _ => Out.goodC_holds hM k e)
  | .need _ _, e => e.elim
  | @Out.needd _ p _ k, e => by
    have e : cond (decide p) k.goodC False := e
    show p ∧ k.holds M
    cases hp : decide p with
    | true => rw [hp] at e; exact ⟨of_decide_eq_true hp, Out.goodC_holds hM k e⟩
    | false => rw [hp] at e; exact e.elim
  | .same a b k, ⟨h1, h2⟩ => ⟨h1, Out.goodC_holds hM k h2⟩
  | .asm p k, e => fun _ => Out.goodC_holds hM k e
  | .all β f, e => fun x => Out.goodC_holds hM (f x) (e x)
  | .ex _ _, e => e.elim
  | .both a b, ⟨h1, h2⟩ => ⟨Out.goodC_holds hM a h1, Out.goodC_holds hM b h2⟩
  | .maybe b t k, e => by
    cases b with
    | true => exact And.intro (fun _ => Out.goodC_holds hM t e.1) (Out.goodC_holds hM k e.2)
    | false => exact And.intro (fun h => Bool.noConfusion h) (Out.goodC_holds hM k e)
  | .bad _, e => e.elim
end

noncomputable section
variable {P : Program}
/-- A closed run of a whole function. -/
def runQ (P : Program) (fns : Nat → Option Func) (hooks : Nat → Option (HookS RU)) (n f : Nat) (fn : Func) : Out RU := match fn.body with
  | some body => fastCode P fns hooks (fun _ _ => none) n f body ⟨[], [], 0, fn.ntmps, []⟩ (fun e s' => @EX.rec (fun _ => Out RU) (resF fn s' fun v => .fin v [] 0) (resF fn s' fun v => .fin v [] 0) (fun _ => .bad 301) e)
  | none => .bad 0
theorem runQ_eq (fns : Nat → Option Func) (hooks : Nat → Option (HookS RU)) (n f : Nat) (fn : Func) : runQ P fns hooks n f fn = runL (cfgQ P fns hooks (fun _ _ => none)) n f fn [] [] 0 := by
  unfold runQ runL
  cases fn.body with
  | none => rfl
  | some body =>
    show fastCode P fns hooks (fun _ _ => none) n f body ⟨[], [], 0, fn.ntmps, []⟩ _ = runCode _ n f body ⟨argsEnv 0 [], [], 0, fn.ntmps, []⟩ _
    rw [fast_eq]
    refine congrArg (fun K => runCode (cfgQ P fns hooks (fun _ _ => none)) n f body ⟨[], [], 0, fn.ntmps, []⟩ K) ?_
    funext e s'
    cases e <;> first | exact resF_eq fn s' _ | rfl
theorem closed_calls {fns : Nat → Option Func} {hooks : Nat → Option (HookS RU)} (hC : (cfgQ P fns hooks (fun _ _ => none)).ok) {n f : Nat} {fn : Func} (hg : P.funcs[f]? = some fn ∧ (fn.name == "runtime.NumGoroutine") = false) (hb : fn.body.isSome = true)
    (H : (runQ P fns hooks n f fn).goodC) : CallsSx (U := RU) P f [] [] 0 (fun v _ _ _ => v.sub .tt) := by
  rw [runQ_eq] at H
  refine calls_runL hC (n := n) hg hb (Nat.zero_le _) (Out.goodC_holds (fun v h k hv => ?_) _ H)
  rcases hv with rfl | rfl
  · exact AV.sub_refl _
  · exact fun r v h => h
end

section
variable {U : Uni} {P : Program}
/-- What takes nothing and tells true. -/
def hookTrue : HookS U := fun args h nx K => match args with
  | [] => K .tt h nx []
  | _ => .bad 720
theorem hookTrue_ok {f : Nat} {U' : Uni} (hc : CallsSx (U := U') P f [] [] 0 (fun v _ _ _ => v.sub .tt)) : HookOk (U := U) P f hookTrue := by
  intro M args h nx K H
  unfold hookTrue at H
  split at H
  · refine ⟨hc.1, fun β r vs w hr hs hf => ?_⟩
    obtain ⟨hm, A, hd, hap, hin⟩ := hs
    have hGin : (A.join β.G).inW w := (Hp.inW_join hap).2 ⟨hin, hm.G⟩
    have hsat : Sat (U := U') ⟨A.join β.G, β.os, β.output, β.tape⟩ (fun _ => none) [] w :=
      ⟨⟨hm.os, hm.output, hm.tape, hGin⟩, Hp.nil, rfl, Hp.nil_apart _, Hp.inW_nil w⟩
    have hvs : vs = [] := by simpa [relL] using hr
    subst hvs
    refine (hc.2 _ (fun _ => none) [] w (by simp [relL]) hsat (fun _ _ => rfl)).mono ?_
    rintro e w' ⟨v, h', nx', T, z, r', rfl, hv, _, _, hz, ⟨hm', _⟩, _⟩
    have hG' := (Hp.inW_join hap).1 hm'.G
    have hz' : z = .bool true := hv r' z hz
    exact ⟨.tt, h, nx, [], z, r, rfl, H, Nm.le.refl r, hf, by rw [hz']; simp [rel], ⟨⟨hm'.os, hm'.output, hm'.tape, hG'.2⟩, A, hd, hap, hG'.1⟩, Kept.refl _ _⟩
  · exact H.elim
end
end Sx
end Go.Proofs.YtnegocgblmdihaaGreatDoor

