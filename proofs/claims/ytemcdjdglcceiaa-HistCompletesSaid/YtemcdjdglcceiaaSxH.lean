/-
  One evaluator for every operation that leaves memory alone; 'Lz': such an operation tells the same wherever what it reads is the same.
-/
import Derived.Test.YtemcdjdglcceiaaSxG
namespace Go.Proofs.Ytemcdjdglcceiaa
namespace Sx
open Go

section
variable {U : Uni} {P : Program} {τ : Tab}

def AV.solid : AV → Bool
  | .ptr .. => true
  | .ptrR .. => true
  | .fn .. => true
  | .ifc .. => true
  | _ => false

def onOpt (x : Option AV) (n : Nat) (K : AV → Option Nat → Out U) : Out U := match x with | some v => K v none | none => .bad n

/-- A slice against nil: whether it may be. -/
def slNil (τ : Tab) (T : Nat) (a b : AV) : Option Bool :=
  match τ T with
  | some R => (match R.kind, a, b with
    | .slice _, .sl _ _ _ _ _ cap, .nilS => some (Nat.beq cap 0)
    | _, _, _ => none)
  | none => none

theorem slNil_sound (hτ : τ.met P) {T : Nat} {a b : AV} {c : Bool} (h : slNil τ T a b = some c) {r : Nm} {u v : Value} (hu : rel r a u) (hv : rel r b v) (w : World) (p q : Operand) :
    ∃ x : Bool, (x = true → c = true) ∧ (do eqGuard .eql T p q u v; binOp .eql T u v : Sem Value).run P w = .ok (.bool x) w ∧ (do eqGuard .neq T p q u v; binOp .neq T u v : Sem Value).run P w = .ok (.bool (!x)) w := by
  unfold slNil at h
  split at h
  · rename_i R hR
    have hm := hτ T R hR
    have hk := hm.kind
    split at h
    · rename_i e kn id s wd len cap hK
      rw [hK] at hk; simp only [TK.met] at hk
      simp only [Option.some.injEq] at h; subst h
      obtain ⟨a, rfl, hlc, ha⟩ := hu
      simp only [rel] at hv; subst hv
      refine ⟨a.isNone, fun hx => ?_, run_both rfl rfl rfl rfl ?_⟩
      · rcases ha with h0 | ⟨y, _, rfl⟩
        · subst h0; rfl
        · simp at hx
      · exact (fun n : Nat => show (Op.equalIn (n + 1) _ _ _).run P w = _ by cases a <;> simp [Op.equalIn, run_underlying hk]) 9999
    · cases h
  · cases h

/-- Two operands equal, or not. -/
def evalEq (τ : Tab) (neg : Bool) (T : Nat) (x y : Operand) (a b : AV) (K : AV → Option Nat → Out U) : Out U :=
  match a.num with
  | some _ => evalBin (bif neg then .neq else .eql) a b fun v => K v none
  | none => (match slNil τ T a b with
   | some c => K (.may neg c) none
   | none => match evalEql τ T a b with
    | some (c, l) => bif Operand.isConst x || Operand.isConst y || !(a.isNilI) then K (mkBool l (bif neg then !c else c)) none else .bad 60
    | none => .bad 61)

def evalLoad (τ : Tab) (T : Nat) (p : AV) (h : Heap U) (K : AV → Option Nat → Out U) : Out U :=
  match τ T, p.id? with
  | some R, some id => (match h.get id with | some B => readAt R B p fun v => K v (some id) | none => .bad 62)
  | _, _ => .bad 63

def evalL (τ : Tab) (κ : Kinds U) (op : Op) (ev : Operand → AV) (h : Heap U) (K : AV → Option Nat → Out U) : Out U :=
  match op with
  | .move x => K (ev x) none
  | .assign x => K (ev x) none
  | .pick c a b => (match (ev c).bl with
    | some (cb, true) => K (bif cb then ev a else ev b) none
    | some (cb, false) => (match (ev a).bl, (ev b).bl with
      | some (x, _), some (y, _) => K (.bool (bif cb then x else y)) none
      | _, _ => .bad 64)
    | none => .bad 65)
  | .nilCheck x => bif (ev x).solid then K (ev x) none else .bad 66
  | .binOp o T x y _ => (match o with
    | .eql => evalEq τ false T x y (ev x) (ev y) K
    | .neq => evalEq τ true T x y (ev x) (ev y) K
    | o => evalBin o (ev x) (ev y) fun v => K v none)
  | .unOp o _ x => onOpt (evalUn o (ev x)) 67 K
  | .convert s d x => onOpt (evalConv τ s d (ev x)) 68 K
  | .field T x f => onOpt (evalField τ T f (ev x)) 69 K
  | .index T x ix => onOpt (evalIndex τ T (ev x) (ev ix)) 70 K
  | .extract x i => (match ev x with | .tup vs => onOpt vs[i]? 71 K | _ => .bad 72)
  | .fieldAddr T x f => onOpt (evalFieldAddr τ T f (ev x)) 73 K
  | .indexAddr T x ix => evalIndexAddr τ T (ev x) (ev ix) fun v => K v none
  | .slice T x lo hi mx => evalSlice τ T (ev x) (lo.map ev) (hi.map ev) (mx.map ev) fun v => K v none
  | .load T x => evalLoad τ T (ev x) h K
  | .makeFunc fn fs cs => (match fn with | .func f => K (.fn f (fs.toList.map ev) (cs.toList.map ev)) none | _ => .bad 74)
  | .makeInterface T x => (match τ T with | some R => (match R.kind with | .iface => .bad 75 | .other => .bad 75 | _ => K (.ifc T (ev x)) none) | none => .bad 76)
  | .build T ps => (match τ T with
    | some R => (match R.kind with
      | .struct fs => bif (ps.toList.all fun q => (ev q.2).plain) then (match fillAV (fun i => match fs[i]? with | some (off, ft) => (match τ ft with | some F => some (off, F.size) | none => none) | none => none) R.zero (ps.toList.map fun q => (q.1, ev q.2)) with | some cs => bif fs.all (fun q => (τ q.2).isSome) then K (.agg cs) none else .bad 77 | none => .bad 77) else .bad 78
      | _ => .bad 79)
    | none => .bad 80)
  | .lookup T m k ok => (match ev m with
    | .mp id => (match h.get id with | some B => evalLookup τ κ T B (ev k) ok fun v => K v (some id) | none => .bad 81)
    | _ => .bad 82)
  | .call { callee := .builtin b, args, argTypes } => (match b, args.toList, argTypes[0]? with
    | .len, [x], some T => (match ev x with
      | .mp id => (match h.get id, τ T with
        | some (.mp _ _ m), some R => (match R.kind with | .map _ _ => K (.int .i64 (m.length : Int)) (some id) | _ => .bad 83)
        | _, _ => .bad 84)
      | v => onOpt (evalLen τ T v) 85 K)
    | .min, [x, y], _ => onOpt (evalMin2 (ev x) (ev y)) 86 K
    | .max, [x, y], _ => onOpt (evalMax2 (ev x) (ev y)) 87 K
    | _, _, _ => .bad 88)
  | _ => .bad 89

def Lz (P : Program) (o : Oper) (ev : Operand → AV) (v : AV) (rd : Option (Nat × Blk U)) : Prop :=
  ∀ (β : Base) (r : Nm) (a : Act) (w : World), (∀ x ∈ o.op.operands.toList, rel r (ev x) (a.eval x)) →
    (∀ id B, rd = some (id, B) → ∃ H1, B.den β.G r id H1 ∧ H1.inW w ∧ β.G.inW w) → ∃ z, (execOp a.eval o).run P w = .ok (.value z) w ∧ rel r v z

def rdOf (h : Heap U) (rd : Option Nat) : Option (Nat × Blk U) := match rd with | some id => (match h.get id with | some B => some (id, B) | none => none) | none => none

/-- What an evaluator owes. -/
def LzOut (P : Program) (M : Goal U) (o : Oper) (ev : Operand → AV) (h : Heap U) (K : AV → Option Nat → Out U) : Prop :=
  ∃ v rd, (K v rd).holds M ∧ Lz P o ev v (rdOf h rd) ∧ (∀ id, rd = some id → h.get id ≠ none)

theorem lz_none {M : Goal U} {o : Oper} {ev : Operand → AV} {h : Heap U} {K : AV → Option Nat → Out U} {v : AV} (hK : (K v none).holds M)
    (hv : ∀ (r : Nm) (a : Act) (w : World), (∀ x ∈ o.op.operands.toList, rel r (ev x) (a.eval x)) → ∃ z, (execOp a.eval o).run P w = .ok (.value z) w ∧ rel r v z) : LzOut P M o ev h K :=
  ⟨v, none, hK, fun _ r a w ho _ => hv r a w ho, fun _ e => by cases e⟩

theorem onOpt_some {M : Goal U} {x : Option AV} {n : Nat} {K : AV → Option Nat → Out U} (h : (onOpt x n K).holds M) : ∃ v, x = some v ∧ (K v none).holds M := by
  unfold onOpt at h; split at h
  · exact ⟨_, rfl, h⟩
  · exact h.elim

theorem run_value {s : Sem Value} {z : Value} {w : World} (h : s.run P w = .ok z w) : (do pure (Next.value (← s)) : Sem Next).run P w = .ok (.value z) w := by
  simp [h]

set_option maxHeartbeats 2000000 in
theorem evalL_sound (hτ : τ.met P) {κ : Kinds U} (hκ : κ.met τ) {M : Goal U} {dst : Option Tmp} {op : Op} {type : Nat} {pos : String} {after : Array Edge} {guard : Option (Nat × Bool)} {ev : Operand → AV} {h : Heap U} {K : AV → Option Nat → Out U}
    (H : (evalL τ κ op ev h K).holds M) : LzOut P M ⟨dst, op, type, pos, after, guard⟩ ev h K := by
  cases op <;> simp only [evalL] at H <;> try exact H.elim
  case move x =>
    exact lz_none H fun r a w ho => ⟨_, rfl, ho x (by simp [Op.operands])⟩
  case assign x =>
    exact lz_none H fun r a w ho => ⟨_, rfl, ho x (by simp [Op.operands])⟩
  case pick c x y =>
    split at H
    · rename_i cb hc
      refine lz_none H fun r a w ho => ?_
      have e := rel_bl hc (ho c (by simp [Op.operands]))
      refine ⟨if cb then a.eval x else a.eval y, ?_, ?_⟩
      · simp [execOp, e, asBool]
      · cases cb
        · exact ho y (by simp [Op.operands])
        · exact ho x (by simp [Op.operands])
    · rename_i cb hc
      split at H
      · rename_i p lp q lq hp hq
        refine lz_none H fun r a w ho => ?_
        have e := rel_bl hc (ho c (by simp [Op.operands]))
        have e1 := rel_bl hp (ho x (by simp [Op.operands]))
        have e2 := rel_bl hq (ho y (by simp [Op.operands]))
        refine ⟨if cb then a.eval x else a.eval y, ?_, ?_⟩
        · simp [execOp, e, asBool]
        · cases cb <;> simp [e1, e2, rel]
      · exact H.elim
    · exact H.elim
  case nilCheck x =>
    rw [holds_bif] at H
    split at H
    · rename_i hs
      refine lz_none H fun r a w ho => ?_
      have e := ho x (by simp [Op.operands])
      refine ⟨a.eval x, ?_, e⟩
      cases hx : ev x <;> rw [hx] at hs e <;> simp [AV.solid] at hs <;> simp only [rel] at e
      · obtain ⟨y, _, e⟩ := e; simp [execOp, e]
      · obtain ⟨y, _, e⟩ := e; simp [execOp, e]
      · obtain ⟨y, z, _, _, e⟩ := e; simp [execOp, e]
      · obtain ⟨y, _, e⟩ := e; simp [execOp, e]
    · exact H.elim
  case binOp o T x y yt =>
    have fin : ∀ o, (evalBin o (ev x) (ev y) fun v => K v none).holds M → LzOut P M ⟨dst, .binOp o T x y yt, type, pos, after, guard⟩ ev h K := by
      intro o H
      obtain ⟨v, hv, hall⟩ := evalBin_sound H
      refine lz_none hv fun r a w ho => ?_
      obtain ⟨z, hz, hr⟩ := hall P r w T _ _ x y (ho x (by simp [Op.operands])) (ho y (by simp [Op.operands]))
      exact ⟨z, run_value hz, hr⟩
    have fin2 : ∀ neg, (evalEq τ neg T x y (ev x) (ev y) K).holds M → LzOut P M ⟨dst, .binOp (bif neg then .neq else .eql) T x y yt, type, pos, after, guard⟩ ev h K := by
      intro neg H
      unfold evalEq at H
      split at H
      · exact fin _ H
      · split at H
        · rename_i c he
          refine lz_none H fun r a w ho => ?_
          obtain ⟨x', h0, e1, e2⟩ := slNil_sound hτ he (ho x (by simp [Op.operands])) (ho y (by simp [Op.operands])) w x y
          cases neg
          · exact ⟨_, run_value e1, ⟨x', rfl, fun hh => h0 (by simpa using hh)⟩⟩
          · exact ⟨_, run_value e2, ⟨!x', rfl, fun hh => h0 (by simpa using hh)⟩⟩
        split at H
        · rename_i c l he
          rw [holds_bif] at H
          split at H
          · rename_i hc
            refine lz_none H fun r a w ho => ?_
            obtain ⟨e1, e2⟩ := evalEql_sound hτ he (ho x (by simp [Op.operands])) (ho y (by simp [Op.operands])) w x y (by simpa [or_assoc] using hc)
            cases neg
            · exact ⟨_, run_value e1, by simp [rel_mkBool]⟩
            · exact ⟨_, run_value e2, by simp [rel_mkBool]⟩
          · exact H.elim
        · exact H.elim
    split at H
    · exact fin2 false H
    · exact fin2 true H
    · exact fin _ H
  case unOp o T x =>
    obtain ⟨v, hv, hK⟩ := onOpt_some H
    refine lz_none hK fun r a w ho => ?_
    obtain ⟨z, hz, hr⟩ := evalUn_sound (P := P) hv (ho x (by simp [Op.operands])) w
    exact ⟨z, run_value hz, hr⟩
  case convert s d x =>
    obtain ⟨v, hv, hK⟩ := onOpt_some H
    refine lz_none hK fun r a w ho => ?_
    obtain ⟨z, hz, hr⟩ := evalConv_sound hτ hv (ho x (by simp [Op.operands])) w
    exact ⟨z, run_value hz, hr⟩
  case field T x f =>
    obtain ⟨v, hv, hK⟩ := onOpt_some H
    refine lz_none hK fun r a w ho => ?_
    obtain ⟨z, hz, hr⟩ := evalField_sound hτ hv (ho x (by simp [Op.operands])) w
    exact ⟨z, run_value hz, hr⟩
  case index T x ix =>
    obtain ⟨v, hv, hK⟩ := onOpt_some H
    refine lz_none hK fun r a w ho => ?_
    obtain ⟨z, hz, hr⟩ := evalIndex_sound hτ hv (ho x (by simp [Op.operands])) (ho ix (by simp [Op.operands])) w
    exact ⟨z, run_value hz, hr⟩
  case fieldAddr T x f =>
    obtain ⟨v, hv, hK⟩ := onOpt_some H
    refine lz_none hK fun r a w ho => ?_
    obtain ⟨z, hz, hr⟩ := evalFieldAddr_sound hτ hv (ho x (by simp [Op.operands])) w
    exact ⟨z, run_value hz, hr⟩
  case indexAddr T x ix =>
    obtain ⟨v, hK, hall⟩ := evalIndexAddr_sound hτ H
    refine lz_none hK fun r a w ho => ?_
    obtain ⟨z, hz, hr⟩ := hall r _ _ w (ho x (by simp [Op.operands])) (ho ix (by simp [Op.operands]))
    exact ⟨z, run_value hz, hr⟩
  case extract x i =>
    split at H
    · rename_i vs hx
      obtain ⟨v, hv, hK⟩ := onOpt_some H
      refine lz_none hK fun r a w ho => ?_
      have e := ho x (by simp [Op.operands])
      rw [hx] at e
      obtain ⟨us, hus, e⟩ := e
      obtain ⟨u, hu, hr⟩ := relL_get hus hv
      exact ⟨u, by simp [execOp, e, Instr.extract, hu], hr⟩
    · exact H.elim
  case slice T x lo hi mx =>
    obtain ⟨v, hK, hall⟩ := evalSlice_sound hτ H
    refine lz_none hK fun r a w ho => ?_
    have hin : ∀ (q : Option Operand), (∀ y ∈ q.toArray.toList, rel r (ev y) (a.eval y)) → (∀ y, q.map ev = some y → ∃ z, q.map a.eval = some z ∧ rel r y z) ∧ (q.map ev = none → q.map a.eval = none) := by
      intro q hq
      cases q with
      | none => exact ⟨fun y e => by simp at e, fun _ => rfl⟩
      | some y => exact ⟨fun z e => by simp at e; subst e; exact ⟨_, rfl, hq y (by simp)⟩, fun e => by simp at e⟩
    have h1 := hin lo (fun y hy => ho y (by simp [Op.operands] at hy ⊢; simp [hy]))
    have h2 := hin hi (fun y hy => ho y (by simp [Op.operands] at hy ⊢; simp [hy]))
    have h3 := hin mx (fun y hy => ho y (by simp [Op.operands] at hy ⊢; simp [hy]))
    obtain ⟨z, hz, hr⟩ := hall r _ _ _ _ w (ho x (by simp [Op.operands])) h1.1 h1.2 h2.1 h2.2 h3.1 h3.2
    exact ⟨z, run_value hz, hr⟩
  case load T x =>
    unfold evalLoad at H
    split at H
    · rename_i R id hR hid
      split at H
      · rename_i B hB
        obtain ⟨v, hK, hall⟩ := readAt_sound (hτ T R hR) H hid
        refine ⟨v, some id, hK, ?_, fun id' e => by cases e; rw [hB]; simp⟩
        intro β r a w ho hrd
        obtain ⟨H1, hd, hw, hG⟩ := hrd id B (by simp [rdOf, hB])
        obtain ⟨z, hz, hr⟩ := hall β r w H1 _ (ho x (by simp [Op.operands])) hd hw hG
        exact ⟨z, run_value hz, hr⟩
      · exact H.elim
    · exact H.elim
  case makeFunc fn fs cs =>
    split at H
    · rename_i f
      refine lz_none H fun r a w ho => ?_
      have hl : ∀ l : List Operand, (∀ x ∈ l, rel r (ev x) (a.eval x)) → relL r (l.map ev) (l.map a.eval) := by
        intro l
        induction l with
        | nil => intro _; exact relL_nil
        | cons x l ih => intro hh; exact relL_cons.2 ⟨hh x (by simp), ih fun y hy => hh y (by simp [hy])⟩
      refine ⟨_, rfl, ⟨_, _, hl fs.toList (fun x hx => ho x (by simp [Op.operands] at hx ⊢; simp [hx])), hl cs.toList (fun x hx => ho x (by simp [Op.operands] at hx ⊢; simp [hx])), ?_⟩⟩
      have hmap : ∀ l : Array Operand, l.map a.eval = (l.toList.map a.eval).toArray := fun l => by apply Array.ext'; simp
      simp only [hmap]
    · exact H.elim
  case makeInterface T x =>
    split at H
    · rename_i R hR
      have hm := (hτ T R hR).kind
      have key : ∀ d, P.underlying T = some d → (∀ ms, d ≠ .interface ms) → (K (.ifc T (ev x)) none).holds M → LzOut P M ⟨dst, .makeInterface T x, type, pos, after, guard⟩ ev h K := by
        intro d hd hne H
        refine lz_none H fun r a w ho => ⟨.iface T (a.eval x), ?_, ⟨_, ho x (by simp [Op.operands]), rfl⟩⟩
        refine run_value ?_
        simp only [Instr.makeInterface, Sem.run_bind, run_underlying hd, Result.andThen_ok]
        cases d <;> first | rfl | exact absurd rfl (hne _)
      cases hk : R.kind <;> rw [hk] at H hm <;> simp only [TK.met] at hm <;> simp only at H <;>
        first
          | exact H.elim
          | exact key _ hm (fun _ e => by cases e) H
          | (obtain ⟨fs, hm, _⟩ := hm; exact key _ hm (fun _ e => by cases e) H)
          | (obtain ⟨b1, b2, b3, hm⟩ := hm; exact key _ hm (fun _ e => by cases e) H)
    · exact H.elim
  case build T ps =>
    split at H
    · rename_i R hR
      split at H
      · rename_i fs hk
        rw [holds_bif] at H
        split at H
        · rename_i hpl
          split at H
          · rename_i cs hfill
            rw [holds_bif] at H
            split at H
            · rename_i hsome
              refine lz_none H fun r a w ho => ?_
              have hm := hτ T R hR
              obtain ⟨fields, hu, hmap⟩ := (by have := hm.kind; rw [hk] at this; exact this : TK.met P T (.struct fs))
              obtain ⟨i, z, hi, _, _, hz, _, hrz, _⟩ := hm.info
              rw [hk] at hrz
              obtain ⟨zs, hzs, rfl⟩ := hrz
              have hzs' : relL r R.zero zs := relL_mono (fun _ _ e => by cases e) _ _ hzs
              have hplaces : (fields.mapM fun f => do pure (f.offset, ← sizeOf f.type) : Sem (Array (Nat × Nat))).run P w = .ok ((fs.map fun q => (q.1, ((τ q.2).map (·.size)).getD 0)).toArray) w := by
                rw [Array.mapM_eq_mapM_toList]
                have : ∀ (l : List Field), (∀ f ∈ l, (τ f.type).isSome = true) → (l.mapM (fun f => do pure (f.offset, ← sizeOf f.type) : Field → Sem (Nat × Nat))).run P w = .ok (l.map fun f => (f.offset, ((τ f.type).map (·.size)).getD 0)) w := by
                  intro l
                  induction l with
                  | nil => intro _; rfl
                  | cons f l ih =>
                    intro hh
                    have hf := hh f (by simp)
                    cases hF : τ f.type with
                    | none => rw [hF] at hf; simp at hf
                    | some F =>
                      simp only [List.mapM_cons, Sem.run_bind, run_sizeOf (hτ _ F hF), Result.andThen_ok, Sem.run_pure, ih fun g hg => hh g (by simp [hg]), List.map_cons, hF, Option.map_some, Option.getD_some]
                have hh := this fields.toList (fun f hf => by
                  have := List.all_eq_true.1 hsome (f.offset, f.type) (by rw [← hmap]; exact List.mem_map.2 ⟨f, hf, rfl⟩)
                  simpa using this)
                rw [← hmap]
                simp only [Sem.run_map, hh, Result.andThen_ok, List.map_map]
                rfl
              have hpl' : ((ps.toList.map fun q => (q.1, ev q.2)).all fun q => q.2.plain) = true := by simpa [List.all_map] using hpl
              obtain ⟨ov, ho1, ho2⟩ := fill_sound (r := r) _ ((ps.map fun q => (q.1, a.eval q.2)).toList) _ cs zs.toArray hfill hpl' (by simp) (fun j i x hj => by
                simp only [List.getElem?_map, Option.map_eq_some_iff] at hj
                obtain ⟨q, hq, he⟩ := hj
                simp only [Prod.mk.injEq] at he
                obtain ⟨rfl, rfl⟩ := he
                refine ⟨a.eval q.2, by simp [hq], ho q.2 ?_⟩
                simp only [Op.operands, List.mem_map]
                exact ⟨q, List.mem_of_getElem? hq, rfl⟩) (by simpa using hzs')
              refine ⟨.agg ov, run_value ?_, ⟨ov.toList, ho2, by simp⟩⟩
              unfold Instr.build
              simp only [Sem.run_bind, zeroValue, typeInfo, run_program, hi, Result.andThen_ok, Sem.run_pure, hz, run_underlying hu, hplaces, Value.cells]
              have hpe : (fun i : Nat => (fs.map fun q => (q.1, ((τ q.2).map (·.size)).getD 0)).toArray[i]?) = (fun i : Nat => match fs[i]? with | some (off, ft) => (match τ ft with | some F => some (off, F.size) | none => none) | none => none) := by
                funext i
                simp only [List.getElem?_toArray, List.getElem?_map]
                cases hi : fs[i]? with
                | none => rfl
                | some q =>
                  obtain ⟨off, ft⟩ := q
                  have := List.all_eq_true.1 hsome (off, ft) (List.mem_of_getElem? hi)
                  cases hft : τ ft with
                  | none => simp [hft] at this
                  | some F => simp [hft]
              rw [hpe]
              simp only [ho1]
              rfl
            · exact H.elim
          · exact H.elim
        · exact H.elim
      · exact H.elim
    · exact H.elim
  case lookup T m k ok =>
    split at H
    · rename_i id hm
      split at H
      · rename_i B hB
        obtain ⟨v, hK, hall⟩ := evalLookup_sound (id := id) hτ hκ H
        refine ⟨v, some id, hK, ?_, fun id' e => by cases e; rw [hB]; simp⟩
        intro β r a w ho hrd
        obtain ⟨H1, hd, hw, _⟩ := hrd id B (by simp [rdOf, hB])
        have hmm := ho m (by simp [Op.operands]); rw [hm] at hmm
        obtain ⟨z, hz, hr⟩ := hall β r w H1 _ _ hmm (ho k (by simp [Op.operands])) hd hw
        exact ⟨z, run_value hz, hr⟩
      · exact H.elim
    · exact H.elim
  case call c =>
    obtain ⟨callee, args, argTypes⟩ := c
    cases callee <;> simp only at H <;> try exact H.elim
    rename_i b
    split at H
    · rename_i x T hargs hT
      obtain ⟨args⟩ := args
      simp only at hargs; subst hargs
      split at H
      · rename_i id hx
        split at H
        · rename_i kk k m R hB hR
          split at H
          · rename_i k' e' hK'
            refine ⟨_, some id, H, ?_, fun id' e => by cases e; rw [hB]; simp⟩
            intro β r a w ho hrd
            obtain ⟨H1, hd, hw, _⟩ := hrd id (.mp kk k m) (by simp [rdOf, hB])
            have hxx := ho x (by simp [Op.operands, Call.operands]); rw [hx] at hxx
            obtain ⟨y, hy, hxx⟩ := hxx
            obtain ⟨b, es, clock, hb, hrm, rfl⟩ := hd
            rw [hy] at hb; cases hb
            have hT' := (hτ T R hR).kind; rw [hK'] at hT'; simp only [TK.met] at hT'
            have hget : (getObj b).run P w = .ok (.map es clock) w := by simp [getObj, Sem.run, Hp.inW_one.1 hw]
            refine ⟨.int .i64 (es.size : Int), ?_, ?_⟩
            · have : (Builtin.len_ argTypes type #[.map (some b)]).run P w = .ok (.int .i64 (es.size : Int)) w := by
                simp [Builtin.len_, hT, run_underlying hT', hget, goInt]
              simp [execOp, resolve, invoke, builtin, hxx, this]
            · have := relM_length hrm
              simp only [Array.length_toList] at this
              simp [rel, this]
          · exact H.elim
        · exact H.elim
      · obtain ⟨v, hv, hK⟩ := onOpt_some H
        refine lz_none hK fun r a w ho => ?_
        obtain ⟨z, hz, hr⟩ := evalLen_sound hτ hv (ho x (by simp [Op.operands, Call.operands])) argTypes hT type w
        exact ⟨z, by simp [execOp, resolve, invoke, builtin, hz], hr⟩
    · rename_i x y hargs
      obtain ⟨args⟩ := args
      simp only at hargs; subst hargs
      obtain ⟨v, hv, hK⟩ := onOpt_some H
      refine lz_none hK fun r a w ho => ?_
      obtain ⟨z, hz, hr⟩ := evalMin2_sound (P := P) hv (ho x (by simp [Op.operands, Call.operands])) (ho y (by simp [Op.operands, Call.operands])) argTypes type w
      exact ⟨z, by simp [execOp, resolve, invoke, builtin, hz], hr⟩
    · rename_i x y hargs
      obtain ⟨args⟩ := args
      simp only at hargs; subst hargs
      obtain ⟨v, hv, hK⟩ := onOpt_some H
      refine lz_none hK fun r a w ho => ?_
      obtain ⟨z, hz, hr⟩ := evalMax2_sound (P := P) hv (ho x (by simp [Op.operands, Call.operands])) (ho y (by simp [Op.operands, Call.operands])) argTypes type w
      exact ⟨z, by simp [execOp, resolve, invoke, builtin, hz], hr⟩
    · exact H.elim

end
end Sx
end Go.Proofs.Ytemcdjdglcceiaa
