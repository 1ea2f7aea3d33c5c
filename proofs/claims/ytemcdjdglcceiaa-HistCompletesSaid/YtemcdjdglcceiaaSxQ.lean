/-
  Code, whole: functions run in place, by what is known of them, loops by what is said of them; and that the machine does the same.
-/
import Derived.Test.YtemcdjdglcceiaaSxP
namespace Go.Proofs.Ytemcdjdglcceiaa
namespace Sx
open Go

section
variable {U : Uni} {P : Program} {τ : Tab}

abbrev LoopS (U : Uni) := St U → (EX → St U → Out U) → Out U
abbrev HookS (U : Uni) := List AV → Heap U → Nat → (AV → Heap U → Nat → List Nat → Out U) → Out U

def LoopOk (P : Program) (id : Nat) (body : Code) (L : LoopS U) : Prop := ∀ (M : Goal U) (s : St U) (K : EX → St U → Out U), (L s K).holds M → WP P (.block id (.loop body)) s (fun e s' => (K e s').holds M)
def HookOk (P : Program) (f : Nat) (H : HookS U) : Prop := ∀ (M : Goal U) (args : List AV) (h : Heap U) (nx : Nat) (K : AV → Heap U → Nat → List Nat → Out U), (H args h nx K).holds M → CallsSx P f args h nx (fun v h' nx' T => (K v h' nx' T).holds M)

/-- A function's loop, by the number of its block. -/
def loopAt (id : Nat) : Code → Option Code
  | .block j c => bif Nat.beq j id then (match c with | .loop b => some b | _ => none) else loopAt id c
  | .seq a b => (match loopAt id a with | some c => some c | none => loopAt id b)
  | .cond _ a b => (match loopAt id a with | some c => some c | none => loopAt id b)
  | .loop b => loopAt id b
  | _ => none
def loopOf (fn : Func) (id : Nat) : Code := match fn.body with
  | some c => (match loopAt id c with | some b => b | none => .skip)
  | none => .skip
def LoopFor (P : Program) (_f id : Nat) (body : Code) (L : LoopS U) : Prop := LoopOk P id body L

structure Cfg (P : Program) (U : Uni) where
  τ : Tab
  κ : Kinds U
  fns : Nat → Option Func
  hooks : Nat → Option (HookS U)
  loops : Nat → Nat → Option (LoopS U)

structure Cfg.ok (C : Cfg P U) : Prop where
  τ : C.τ.met P
  κ : C.κ.met C.τ
  mixed : P.follows .mixedOrders = true
  fns : ∀ g fn, C.fns g = some fn → P.funcs[g]? = some fn ∧ (fn.name == "runtime.NumGoroutine") = false
  hooks : ∀ g H, C.hooks g = some H → HookOk P g H

def argsEnv : Nat → List AV → List (Nat × AV)
  | _, [] => []
  | i, v :: vs => (i, v) :: argsEnv (i + 1) vs

/-- The value of one result. -/
def resOne (τ : Tab) (s : St U) (x : ResultVar) (K : AV → Out U) : Out U :=
  match x with
  | .tmp t => K (envGet s.env t)
  | .cell a t => (match envGet s.env a with
    | .ptr id off => evalLoad τ t (.ptr id off) s.heap (fun v _ => K v)
    | _ => .bad 310)

def resList (τ : Tab) (s : St U) : List ResultVar → (List AV → Out U) → Out U
  | [], K => K []
  | x :: xs, K => resOne τ s x fun v => resList τ s xs fun vs => K (v :: vs)

def resAll (τ : Tab) (fn : Func) (s : St U) (K : AV → Out U) : Out U :=
  resList τ s fn.results.toList fun vs => match vs with
    | [v] => K v
    | vs => K (.tup vs)

def runCode (C : Cfg P U) : Nat → Nat → Code → St U → (EX → St U → Out U) → Out U
  | 0, _, _, _, _ => .bad 300
  | n + 1, f, c, s, K =>
    let callf : CallF U := fun g args h nx k => match C.hooks g with
      | some H => H args h nx k
      | none => (match C.fns g with
        | some fn => (match fn.body with
          | some body => bif Nat.ble args.length fn.ntmps then
              runCode C n g body ⟨argsEnv 0 args, h, nx, fn.ntmps, []⟩ (fun e s' => match e with
                | .nx => resAll C.τ fn s' fun v => k v s'.heap s'.nx s'.tl
                | .rt => resAll C.τ fn s' fun v => k v s'.heap s'.nx s'.tl
                | .ex _ => .bad 301) else .bad 302
          | none => .bad 303)
        | none => .bad 304)
    match c with
    | .skip => K .nx s
    | .region _ ops draw => bif draw then
        (bif regOk s.nt ops then explore C.τ C.κ callf ops (ops.size + ops.size + 2) ⟨s.env, s.heap, s.nx, s.tl, [], []⟩ (fun x => K .nx { s with env := x.env, heap := x.heap, nx := x.nx, tl := x.tl }) else .bad 305)
      else (bif dstsOk s.nt ops then seqOps C.τ C.κ callf ops ops.toList s (K .nx) else .bad 306)
    | .seq a b => runCode C n f a s (fun e s' => match e with
        | .nx => runCode C n f b s' K
        | .rt => K .rt s'
        | .ex id => K (.ex id) s')
    | .cond c t e => (match evO s.env c with
        | .tt => runCode C n f t s K
        | .ff => runCode C n f e s K
        | .bool b => .ite b (runCode C n f t s K) (runCode C n f e s K)
        | .may neg b => .both (.asm (b = true) (runCode C n f (bif neg then e else t) s K)) (runCode C n f (bif neg then t else e) s K)
        | _ => .bad 307)
    | .block id body =>
      (match C.loops f id, body with
        | some L, .loop lb => .need (LoopFor P f id lb L) (L s K)
        | _, body => runCode C n f body s (fun e s' => match e with
          | .nx => K .nx s'
          | .rt => K .rt s'
          | .ex j => bif Nat.beq j id then K .nx s' else K (.ex j) s'))
    | .loop body => runCode C n f body s (fun e s' => match e with
        | .nx => runCode C n f (.loop body) s' K
        | .rt => K .rt s'
        | .ex j => K (.ex j) s')
    | .exit id => K (.ex id) s
    | .ret => K .rt s
    | .label _ => K .nx s
    | _ => .bad 308

theorem WP.mono {c : Code} {s : St U} {R R' : EX → St U → Prop} (h : WP P c s R) (k : ∀ e s', R e s' → R' e s') : WP P c s R' :=
  fun β r a w hs Q hQ => h β r a w hs Q (fun e s' r' a' w' hR => hQ e s' r' a' w' (k e s' hR))

theorem WP.seq {a b : Code} {s : St U} {R R' : EX → St U → Prop} (h : WP P a s R') (k : ∀ s', R' .nx s' → WP P b s' R) (k2 : ∀ e s', e ≠ .nx → R' e s' → R e s') : WP P (.seq a b) s R := by
  intro β r ac w hs Q hQ
  refine wp_seq (h β r ac w hs _ ?_)
  intro e s' r' a' w' hR hle hs' hf
  cases e with
  | nx =>
    show b.wp P Q a' w'
    exact k s' hR β r' a' w' hs' Q (fun e s'' r'' a'' w'' hR' hle' hs'' hf' => hQ e s'' r'' a'' w'' hR' (hle.trans hle') hs'' (hf.trans hf'))
  | rt => exact hQ .rt s' r' a' w' (k2 _ _ (by simp) hR) hle hs' hf
  | ex id => exact hQ (.ex id) s' r' a' w' (k2 _ _ (by simp) hR) hle hs' hf

theorem WP.block {id : Nat} {c : Code} {s : St U} {R R' : EX → St U → Prop} (h : WP P c s R') (k1 : ∀ s', R' .nx s' → R .nx s') (k2 : ∀ s', R' .rt s' → R .rt s') (k3 : ∀ j s', R' (.ex j) s' → R (if j = id then .nx else .ex j) s') : WP P (.block id c) s R := by
  intro β r ac w hs Q hQ
  refine wp_block (h β r ac w hs _ ?_)
  intro e s' r' a' w' hR hle hs' hf
  cases e with
  | nx => exact hQ .nx s' r' a' w' (k1 _ hR) hle hs' hf
  | rt => exact hQ .rt s' r' a' w' (k2 _ hR) hle hs' hf
  | ex j =>
    show (if j = id then Q .normal a' w' else Q (.exit j) a' w')
    have := k3 j s' hR
    split
    · rename_i e; rw [if_pos e] at this; exact hQ .nx s' r' a' w' this hle hs' hf
    · rename_i e; rw [if_neg e] at this; exact hQ (.ex j) s' r' a' w' this hle hs' hf

theorem argsEnv_ok {r : Nm} : ∀ (args : List AV) (vs : List Value) (i t : Nat), relL r args vs → rel r (envGet (argsEnv i args) t) (if i ≤ t then vs.getD (t - i) undef else undef) := by
  intro args
  induction args with
  | nil => intro vs i t _; exact trivial
  | cons x xs ih =>
    intro vs i t h
    simp only [relL] at h
    obtain ⟨v, us, rfl, h1, h2⟩ := h
    show rel r (bif Nat.beq i t then x else envGet (argsEnv (i + 1) xs) t) _
    cases e : Nat.beq i t with
    | true =>
      have := Nat.eq_of_beq_eq_true e
      subst this; simpa using h1
    | false =>
      have hne : i ≠ t := fun e' => by subst e'; simp at e
      have := ih us (i + 1) t h2
      simp only [cond_false]
      by_cases hle : i ≤ t
      · rw [if_pos (by omega)] at this
        rw [if_pos hle, show t - i = (t - (i + 1)) + 1 by omega]
        simpa using this
      · rw [if_neg (by omega)] at this
        rw [if_neg hle]; exact this

theorem entry_ok {r : Nm} {args : List AV} {vs : List Value} (h : relL r args vs) (nt : Nat) (hn : args.length ≤ nt) :
    EnvOk r (argsEnv 0 args) { tmps := vs.toArray ++ Array.replicate (nt - vs.toArray.size) undef, defers := [] } ∧ (vs.toArray ++ Array.replicate (nt - vs.toArray.size) undef).size = nt := by
  have hl := relL_length h
  refine ⟨fun t => ?_, by simp; omega⟩
  have := argsEnv_ok args vs 0 t h
  simp only [Nat.zero_le, if_true, Nat.sub_zero] at this
  have e : (vs.toArray ++ Array.replicate (nt - vs.toArray.size) undef).getD t undef = vs.getD t undef := by
    simp only [Array.getD_eq_getD_getElem?, Array.getElem?_append, List.size_toArray, List.getElem?_toArray, Array.getElem?_replicate, List.getD_eq_getElem?_getD]
    split
    · rfl
    · rename_i hh
      rw [List.getElem?_eq_none (by omega)]
      split <;> rfl
  show rel r _ ((vs.toArray ++ Array.replicate (nt - vs.toArray.size) undef).getD t undef)
  rw [e]; exact this

def resVal (tmps : Array Value) : ResultVar → Sem Value
  | .tmp t => pure (tmps.getD t undef)
  | .cell b t => do loadVar t (← asAddr (tmps.getD b undef))
theorem results_eq (fn : Func) (tmps : Array Value) : results fn tmps = (do let vs ← fn.results.mapM (resVal tmps); pure (if h : vs.size = 1 then vs[0] else .tuple vs)) := rfl

theorem resOne_sound (hτ : τ.met P) {M : Goal U} {s : St U} {x : ResultVar} {K : AV → Out U} (H : (resOne τ s x K).holds M) :
    ∃ v, (K v).holds M ∧ ∀ (β : Base) (r : Nm) (a : Act) (w : World), SatS β r s a w → ∃ z, (resVal a.tmps x).run P w = .ok z w ∧ rel r v z := by
  cases x with
  | tmp t => exact ⟨_, H, fun β r a w hs => ⟨_, rfl, hs.env t⟩⟩
  | cell b t =>
    simp only [resOne] at H
    split at H
    · rename_i id off hb
      unfold evalLoad at H
      split at H
      · rename_i R id' hR hid
        split at H
        · rename_i B hB
          obtain ⟨v, hK, hall⟩ := readAt_sound (P := P) (hτ t R hR) H hid
          refine ⟨v, hK, fun β r a w hs => ?_⟩
          obtain ⟨H1, hd, hw, hG⟩ := hs.sat.at hB
          have he := hs.env b; rw [hb] at he
          obtain ⟨z, hz, hr⟩ := hall β r w H1 _ he hd hw hG
          refine ⟨z, ?_, hr⟩
          obtain ⟨y, hy, he⟩ := he
          rw [he] at hz
          show (do let x ← asAddr (a.tmps.getD b undef); loadVar t x : Sem Value).run P w = _
          rw [he]
          simp only [asAddr, Sem.run_bind, Sem.run_pure, Result.andThen_ok]
          simpa [Instr.loadAt, Instr.sureAddr] using hz
        · exact H.elim
      · exact H.elim
    · exact H.elim

theorem resList_sound (hτ : τ.met P) {M : Goal U} {s : St U} : ∀ (xs : List ResultVar) (K : List AV → Out U), (resList τ s xs K).holds M →
    ∃ vs, (K vs).holds M ∧ vs.length = xs.length ∧ ∀ (β : Base) (r : Nm) (a : Act) (w : World), SatS β r s a w → ∃ zs, (xs.mapM (resVal a.tmps)).run P w = .ok zs w ∧ relL r vs zs
  | [], K, H => ⟨[], H, rfl, fun β r a w _ => ⟨[], rfl, relL_nil⟩⟩
  | x :: xs, K, H => by
    obtain ⟨v, hK, h1⟩ := resOne_sound hτ H
    obtain ⟨vs, hK', hl, h2⟩ := resList_sound hτ xs _ hK
    refine ⟨v :: vs, hK', by simp [hl], fun β r a w hs => ?_⟩
    obtain ⟨z, hz, hr⟩ := h1 β r a w hs
    obtain ⟨zs, hzs, hrs⟩ := h2 β r a w hs
    refine ⟨z :: zs, ?_, relL_cons.2 ⟨hr, hrs⟩⟩
    simp only [List.mapM_cons, Sem.run_bind, hz, Result.andThen_ok, hzs, Sem.run_pure]

theorem resAll_sound (hτ : τ.met P) {M : Goal U} {fn : Func} {s : St U} {K : AV → Out U} (H : (resAll τ fn s K).holds M) :
    ∃ v, (K v).holds M ∧ ∀ (β : Base) (r : Nm) (a : Act) (w : World), SatS β r s a w → ∃ z, (results fn a.tmps).run P w = .ok z w ∧ rel r v z := by
  obtain ⟨vs, hK, hl, h⟩ := resList_sound hτ _ _ H
  have key : ∀ (a : Act) (w : World) (zs : List Value), (fn.results.toList.mapM (resVal a.tmps)).run P w = .ok zs w →
      (results fn a.tmps).run P w = .ok (if h : zs.toArray.size = 1 then zs.toArray[0] else .tuple zs.toArray) w := by
    intro a w zs hz
    rw [results_eq, Sem.run_bind, Array.mapM_eq_mapM_toList, Sem.run_map, hz]
    simp only [Result.andThen_ok, Sem.run_pure]
  match vs, hK, h with
  | [v], hK, h =>
    refine ⟨v, hK, fun β r a w hs => ?_⟩
    obtain ⟨zs, hz, hr⟩ := h β r a w hs
    simp only [relL] at hr
    obtain ⟨z, us, rfl, h1, rfl⟩ := hr
    exact ⟨z, by rw [key a w _ hz]; rfl, h1⟩
  | [], hK, h =>
    refine ⟨.tup [], hK, fun β r a w hs => ?_⟩
    obtain ⟨zs, hz, hr⟩ := h β r a w hs
    simp only [relL] at hr; subst hr
    exact ⟨.tuple #[], by rw [key a w _ hz]; rfl, ⟨[], relL_nil, rfl⟩⟩
  | x :: y :: vs, hK, h =>
    refine ⟨.tup (x :: y :: vs), hK, fun β r a w hs => ?_⟩
    obtain ⟨zs, hz, hr⟩ := h β r a w hs
    have hlz := relL_length hr
    refine ⟨.tuple zs.toArray, ?_, ⟨zs, hr, rfl⟩⟩
    rw [key a w _ hz, dif_neg (by simp [hlz])]

theorem calls_in_place {C : Cfg P U} (hC : C.ok) {M : Goal U} {n : Nat} (ih : ∀ (f : Nat) (c : Code) (s : St U) (K : EX → St U → Out U), (runCode C n f c s K).holds M → WP P c s (fun e s' => (K e s').holds M))
    {g : Nat} {fn : Func} (hfn : C.fns g = some fn) {body : Code} (hb : fn.body = some body) {args : List AV} (hl : args.length ≤ fn.ntmps) {h : Heap U} {nx : Nat} {k : AV → Heap U → Nat → List Nat → Out U}
    (H : (runCode C n g body ⟨argsEnv 0 args, h, nx, fn.ntmps, []⟩ (fun e s' => match e with
                | .nx => resAll C.τ fn s' fun v => k v s'.heap s'.nx s'.tl
                | .rt => resAll C.τ fn s' fun v => k v s'.heap s'.nx s'.tl
                | .ex _ => .bad 301)).holds M) : CallsSx P g args h nx (fun v h' nx' T => (k v h' nx' T).holds M) := by
  obtain ⟨h1, h2⟩ := hC.fns g fn hfn
  refine ⟨⟨fn, h1, h2, by rw [hb]; rfl⟩, fun β r vs w hr hs hf => ?_⟩
  obtain ⟨e1, e2⟩ := entry_ok hr fn.ntmps hl
  refine calls_of_wp h1 hb (ih g body _ _ H β r _ w ⟨hs, hf, e1, e2, rfl⟩ _ ?_)
  have fin : ∀ (s' : St U) (r' : Nm) (a' : Act) (w' : World), (resAll C.τ fn s' fun v => k v s'.heap s'.nx s'.tl).holds M → r.le r' → SatS β r' s' a' w' → Fr (⟨argsEnv 0 args, h, nx, fn.ntmps, []⟩ : St U) s' →
      a'.defers = [] ∧ ∃ v, (results fn a'.tmps).run P w' = .ok v w' ∧ ∃ av h' nx' T z r', (Ending.returned v) = .returned z ∧ (k av h' nx' T).holds M ∧ r.le r' ∧ Fresh r' nx' ∧ rel r' av z ∧ Sat β r' h' w' ∧ Kept h h' T := by
    intro s' r' a' w' hres hle hs' hfr
    obtain ⟨v, hK, hh⟩ := resAll_sound hC.τ hres
    obtain ⟨z, hz, hrz⟩ := hh β r' a' w' hs'
    exact ⟨hs'.defers, z, hz, v, s'.heap, s'.nx, s'.tl, z, r', rfl, hK, hle, hs'.fresh, hrz, hs'.sat, hfr.kept⟩
  intro e s' r' a' w' hR hle hs' hfr
  cases e with
  | nx => exact fin s' r' a' w' hR hle hs' hfr
  | rt => exact fin s' r' a' w' hR hle hs' hfr
  | ex j => exact hR.elim

theorem runCode_both {C : Cfg P U} (hC : C.ok) {M : Goal U} : ∀ (n : Nat), (∀ (f : Nat) (c : Code) (s : St U) (K : EX → St U → Out U), (runCode C n f c s K).holds M → WP P c s (fun e s' => (K e s').holds M)) ∧
    (∀ (f : Nat) (body : Code) (s : St U) (K : EX → St U → Out U), (runCode C n f (.loop body) s K).holds M → ∀ (β : Base) (r : Nm) (a : Act) (w : World), SatS β r s a w → ∀ Q : Exit → Act → World → Prop,
      (∀ e s' r' a' w', (K e s').holds M → r.le r' → SatS β r' s' a' w' → Fr s s' → Q (exOf e) a' w') → Code.rounds P body Q n a w) := by
  intro n
  induction n with
  | zero => exact ⟨fun f c s K H => H.elim, fun f c s K H => H.elim⟩
  | succ n ihb =>
    obtain ⟨ih, ihl⟩ := ihb
    have loops : ∀ (f : Nat) (body : Code) (s : St U) (K : EX → St U → Out U), (runCode C (n + 1) f (.loop body) s K).holds M → ∀ (β : Base) (r : Nm) (a : Act) (w : World), SatS β r s a w → ∀ Q : Exit → Act → World → Prop,
        (∀ e s' r' a' w', (K e s').holds M → r.le r' → SatS β r' s' a' w' → Fr s s' → Q (exOf e) a' w') → Code.rounds P body Q (n + 1) a w := by
      intro f body s K H β r a w hs Q hQ
      simp only [runCode] at H
      refine ih f body s _ H β r a w hs _ ?_
      intro e s' r' a' w' hR hle hs' hf
      cases e with
      | nx => exact ihl f body s' K hR β r' a' w' hs' Q (fun e s'' r'' a'' w'' hR' hle' hs'' hf' => hQ e s'' r'' a'' w'' hR' (hle.trans hle') hs'' (hf.trans hf'))
      | rt => exact hQ .rt s' r' a' w' hR hle hs' hf
      | ex j => exact hQ (.ex j) s' r' a' w' hR hle hs' hf
    refine ⟨?_, loops⟩
    intro f c s K H
    have hcall : CallF.ok P M (fun g args h nx k => match C.hooks g with
      | some H => H args h nx k
      | none => (match C.fns g with
        | some fn => (match fn.body with
          | some body => bif Nat.ble args.length fn.ntmps then
              runCode C n g body ⟨argsEnv 0 args, h, nx, fn.ntmps, []⟩ (fun e s' => match e with
                | .nx => resAll C.τ fn s' fun v => k v s'.heap s'.nx s'.tl
                | .rt => resAll C.τ fn s' fun v => k v s'.heap s'.nx s'.tl
                | .ex _ => .bad 301) else .bad 302
          | none => .bad 303)
        | none => .bad 304)) := by
      intro g args h nx k Hk
      simp only at Hk
      split at Hk
      · rename_i Hh hh
        exact hC.hooks g Hh hh M args h nx k Hk
      · split at Hk
        · rename_i fn hfn
          split at Hk
          · rename_i body hb
            rw [holds_bif] at Hk
            split at Hk
            · rename_i hl
              exact calls_in_place hC (fun f c s K => ih f c s K) hfn hb (Nat.le_of_ble_eq_true hl) Hk
            · exact Hk.elim
          · exact Hk.elim
        · exact Hk.elim
    have simple : ∀ (e : EX) (c : Code), (∀ (Q : Exit → Act → World → Prop) a w, Q (exOf e) a w → c.wp P Q a w) → (K e s).holds M → WP P c s (fun e s' => (K e s').holds M) :=
      fun e c hc hK β r a w hs Q hQ => hc Q a w (hQ e s r a w hK (Nm.le.refl r) hs (Fr.refl s))
    cases c <;> simp only [runCode] at H <;> try exact H.elim
    case skip => exact simple .nx _ (fun Q a w h => wp_skip h) H
    case region id ops draw =>
      cases draw with
      | true =>
        simp only [cond_true] at H
        rw [holds_bif] at H
        split at H
        · rename_i hok
          exact (region_drawn (K := K .nx) hC.τ hC.mixed hC.κ hcall hok H).mono (fun e s' hh => by obtain ⟨rfl, hh⟩ := hh; exact hh)
        · exact H.elim
      | false =>
        simp only [cond_false] at H
        rw [holds_bif] at H
        split at H
        · rename_i hok
          exact (region_text hC.τ hC.κ hcall hok H).mono (fun e s' hh => by obtain ⟨rfl, hh⟩ := hh; exact hh)
        · exact H.elim
    case seq a b =>
      refine WP.seq (ih f a s _ H) (fun s' h => ih f b s' K h) (fun e s' hne h => ?_)
      cases e with
      | nx => exact absurd rfl hne
      | rt => exact h
      | ex id => exact h
    case cond c t e =>
      have key : ∀ (b : Bool) (hcv : ∀ (β : Base) (r : Nm) (a : Act) (w : World), SatS β r s a w → a.eval c = .bool b), (runCode C n f (if b then t else e) s K).holds M → WP P (.cond c t e) s (fun e s' => (K e s').holds M) := by
        intro b hcv hh β r a w hs Q hQ
        exact wp_cond (hcv β r a w hs) (ih f _ s K hh β r a w hs Q hQ)
      split at H
      · rename_i hc
        exact key true (fun β r a w hs => by have := evO_ok hs.env c; rw [hc] at this; exact this) H
      · rename_i hc
        exact key false (fun β r a w hs => by have := evO_ok hs.env c; rw [hc] at this; exact this) H
      · rename_i b hc
        have hcv : ∀ (β : Base) (r : Nm) (a : Act) (w : World), SatS β r s a w → a.eval c = .bool b := fun β r a w hs => by have := evO_ok hs.env c; rw [hc] at this; exact this
        cases hb : b with
        | true => exact key true (fun β r a w hs => by rw [← hb]; exact hcv β r a w hs) (H.1 hb)
        | false => exact key false (fun β r a w hs => by rw [← hb]; exact hcv β r a w hs) (H.2 hb)
      · rename_i neg b hc
        intro β r a w hs Q hQ
        have hv := evO_ok hs.env c; rw [hc] at hv
        obtain ⟨x, hx, himp⟩ := hv
        refine wp_cond hx ?_
        by_cases hxn : x = !neg
        · have hh := H.1 (himp hxn)
          have : (bif neg then e else t) = (if x then t else e) := by subst hxn; cases neg <;> rfl
          rw [this] at hh
          exact ih f _ s K hh β r a w hs Q hQ
        · have hh := H.2
          have : (bif neg then t else e) = (if x then t else e) := by cases neg <;> cases x <;> simp at hxn ⊢
          rw [this] at hh
          exact ih f _ s K hh β r a w hs Q hQ
      · exact H.elim
    case block id body =>
      split at H
      · rename_i L lb hL
        exact H.1 M s K H.2
      · refine WP.block (ih f _ s _ H) (fun s' h => h) (fun s' h => h) (fun j s' h => ?_)
        simp only [holds_bif] at h
        by_cases hj : j = id
        · subst hj; simp only [Nat.beq_refl, if_true] at h; rw [if_pos rfl]; exact h
        · have : Nat.beq j id = false := by cases e : Nat.beq j id with | true => exact absurd (Nat.eq_of_beq_eq_true e) hj | false => rfl
          simp only [this, Bool.false_eq_true, if_false] at h; rw [if_neg hj]; exact h
    case loop body =>
      intro β r a w hs Q hQ
      exact wp_loop_rounds (n + 1) (loops f body s K (by simp only [runCode]; exact H) β r a w hs Q hQ)
    case exit id => exact simple (.ex id) _ (fun Q a w h => wp_exit h) H
    case ret => exact simple .rt _ (fun Q a w h => wp_ret h) H
    case label l => exact simple .nx _ (fun Q a w h => wp_label h) H

theorem runCode_sound {C : Cfg P U} (hC : C.ok) {M : Goal U} (n f : Nat) (c : Code) (s : St U) (K : EX → St U → Out U) (H : (runCode C n f c s K).holds M) : WP P c s (fun e s' => (K e s').holds M) :=
  (runCode_both hC n).1 f c s K H

end
end Sx
end Go.Proofs.Ytemcdjdglcceiaa
