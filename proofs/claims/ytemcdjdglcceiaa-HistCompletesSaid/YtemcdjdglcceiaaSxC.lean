/-
  What comes of a run (a tree of ways), the table of types, and operations that only read: what they tell, and that the model tells the same.
-/
import Derived.Test.YtemcdjdglcceiaaSxB
namespace Go.Proofs.Ytemcdjdglcceiaa
namespace Sx
open Go

inductive EX where
  | nx | rt | ex (id : Nat)

structure St (U : Uni) where
  env : List (Nat × AV)
  heap : Heap U
  nx : Nat
  nt : Nat
  tl : List Nat

inductive Out (U : Uni) : Type 1 where
  | fin (v : AV) (h : Heap U) (n : Nat)
  | stop (e : EX) (s : St U)
  | ite (b : Bool) (t e : Out U)
  | need (p : Prop) (k : Out U)
  | asm (p : Prop) (k : Out U)
  | all (β : Type) (f : β → Out U)
  | ex (β : Type) (f : β → Out U)
  | both (a b : Out U)
  | bad (n : Nat)

structure Goal (U : Uni) where
  Q : EX → St U → Prop
  F : AV → Heap U → Nat → Prop

section
variable {U : Uni}

def Out.holds (M : Goal U) : Out U → Prop
  | .fin v h n => M.F v h n
  | .stop e s => M.Q e s
  | .ite b t e => (b = true → t.holds M) ∧ (b = false → e.holds M)
  | .need p k => p ∧ k.holds M
  | .asm p k => p → k.holds M
  | .all _ f => ∀ x, (f x).holds M
  | .ex _ f => ∃ x, (f x).holds M
  | .both a b => a.holds M ∧ b.holds M
  | .bad _ => False

/-! ## the table of types -/
inductive TK where
  | int (k : IntKind) | bool | str | ptr (e : Nat) | slice (e : Nat) | array (n e : Nat) | struct (fs : List (Nat × Nat)) | map (k e : Nat) | iface | func | other

structure TyRow where
  kind : TK
  size : Nat
  bytes : Nat
  zero : List AV
  cmp : Bool

def TK.agg : TK → Bool
  | .array .. | .struct .. => true
  | _ => false

def TK.met (P : Program) (t : Nat) : TK → Prop
  | .int k => P.underlying t = some (.int k)
  | .bool => P.underlying t = some .bool
  | .str => P.underlying t = some .string
  | .ptr e => P.underlying t = some (.pointer e)
  | .slice e => P.underlying t = some (.slice e)
  | .array n e => P.underlying t = some (.array n e)
  | .struct fs => ∃ fields, P.underlying t = some (.struct fields) ∧ fields.toList.map (fun f => (f.offset, f.type)) = fs
  | .map k e => P.underlying t = some (.map k e)
  | .iface => ∃ ms, P.underlying t = some (.interface ms)
  | .func => ∃ a b c, P.underlying t = some (.func a b c)
  | .other => ∃ d, P.underlying t = some d ∧ (match d with | .struct _ | .array _ _ => False | _ => True)

structure TyRow.met (P : Program) (t : Nat) (R : TyRow) : Prop where
  kind : R.kind.met P t
  info : ∃ i z, P.info? t = some i ∧ i.size = R.size ∧ i.bytes = R.bytes ∧ i.zero = some z ∧ z.cells.size = R.size ∧ relV R.kind.agg (fun _ => none) R.zero z ∧ relL (fun _ => none) R.zero z.cells.toList
  cmp : R.cmp = true → P.stoodInHeld t = false ∧ P.eqGuardType P.depth t = false ∧ ∀ fields, P.underlying t = some (.struct fields) → ∀ f ∈ fields.toList, f.name ≠ "_"

abbrev Tab := Nat → Option TyRow
def Tab.met (P : Program) (τ : Tab) : Prop := ∀ t R, τ t = some R → R.met P t

/-! ## numbers and truths among the values -/
def AV.num : AV → Option (IntKind × Int × Bool)
  | .int k n => some (k, n, false)
  | .lit k n => some (k, n, true)
  | _ => none
def AV.bl : AV → Option (Bool × Bool)
  | .tt => some (true, true)
  | .ff => some (false, true)
  | .bool b => some (b, false)
  | _ => none
def mkInt (l : Bool) (k : IntKind) (n : Int) : AV := bif l then .lit k n else .int k n
def mkBool (l : Bool) (b : Bool) : AV := bif l then (bif b then .tt else .ff) else .bool b
theorem rel_mkInt {r : Nm} {l : Bool} {k : IntKind} {n : Int} {v : Value} : rel r (mkInt l k n) v ↔ v = .int k n := by cases l <;> simp [mkInt, rel]
theorem rel_mkBool {r : Nm} {l b : Bool} {v : Value} : rel r (mkBool l b) v ↔ v = .bool b := by cases l <;> cases b <;> simp [mkBool, rel]
theorem rel_num {r : Nm} {x : AV} {k : IntKind} {n : Int} {l : Bool} (h : x.num = some (k, n, l)) {v : Value} (e : rel r x v) : v = .int k n := by
  cases x <;> simp [AV.num] at h <;> obtain ⟨rfl, rfl, rfl⟩ := h <;> simpa [rel] using e
theorem rel_bl {r : Nm} {x : AV} {b l : Bool} (h : x.bl = some (b, l)) {v : Value} (e : rel r x v) : v = .bool b := by
  cases x <;> simp [AV.bl] at h <;> obtain ⟨rfl, rfl⟩ := h <;> simpa [rel] using e

def cellAV : Value → AV
  | .int k n => .lit k n
  | .bool true => .tt
  | .bool false => .ff
  | .pointer none => .nilP
  | .slice none 0 0 => .nilS
  | .map none => .nilM
  | .nilIface => .nilI
  | .nilFunc => .nilF
  | v => .raw v
def constAV : Value → AV
  | .agg cs => .agg (cs.toList.map cellAV)
  | v => cellAV v
theorem rel_cellAV (r : Nm) (v : Value) : rel r (cellAV v) v := by
  unfold cellAV; split <;> simp [rel]
theorem relL_cellAV (r : Nm) : ∀ l : List Value, relL r (l.map cellAV) l
  | [] => relL_nil
  | v :: l => relL_cons.2 ⟨rel_cellAV r v, relL_cellAV r l⟩
theorem rel_constAV (r : Nm) (v : Value) : rel r (constAV v) v := by
  unfold constAV; split
  · exact ⟨_, relL_cellAV r _, by simp⟩
  · exact rel_cellAV r v

/-! ## binary operations -/
def bitsOp (op : BinOp) (k : IntKind) (x y : Int) : Int :=
  let a := BitVec.ofInt k.bits x
  let b := BitVec.ofInt k.bits y
  match op with
  | .and => k.wrap (a &&& b).toNat
  | .or => k.wrap (a ||| b).toNat
  | .xor => k.wrap (a ^^^ b).toNat
  | _ => k.wrap (a &&& ~~~b).toNat

def evalBin (op : BinOp) (x y : AV) (K : AV → Out U) : Out U :=
  match x.num, y.num with
  | some (k, a, la), some (k', b, lb) =>
    match op with
    | .shl => bif la && lb then (bif decide (b < 0) then .bad 1 else K (.lit k (k.wrap (a * 2 ^ (min b.toNat k.bits))))) else .need (0 ≤ b) (K (.int k (k.wrap (a * 2 ^ (min b.toNat k.bits)))))
    | .shr => bif la && lb then (bif decide (b < 0) then .bad 1 else K (.lit k (a.fdiv (2 ^ (min b.toNat k.bits))))) else .need (0 ≤ b) (K (.int k (a.fdiv (2 ^ (min b.toNat k.bits)))))
    | .quo => bif decide (k = k') then (bif lb then (bif decide (b = 0) then .bad 2 else K (mkInt la k (k.wrap (a.tdiv b)))) else .need (b ≠ 0) (K (.int k (k.wrap (a.tdiv b))))) else .bad 3
    | .rem => bif decide (k = k') then (bif lb then (bif decide (b = 0) then .bad 2 else K (mkInt la k (a.tmod b))) else .need (b ≠ 0) (K (.int k (a.tmod b)))) else .bad 3
    | .add => bif decide (k = k') then K (mkInt (la && lb) k (k.wrap (a + b))) else .bad 3
    | .sub => bif decide (k = k') then K (mkInt (la && lb) k (k.wrap (a - b))) else .bad 3
    | .mul => bif decide (k = k') then K (mkInt (la && lb) k (k.wrap (a * b))) else .bad 3
    | .eql => bif decide (k = k') then K (mkBool (la && lb) (a == b)) else .bad 3
    | .neq => bif decide (k = k') then K (mkBool (la && lb) (a != b)) else .bad 3
    | .lss => bif decide (k = k') then K (mkBool (la && lb) (decide (a < b))) else .bad 3
    | .leq => bif decide (k = k') then K (mkBool (la && lb) (decide (a ≤ b))) else .bad 3
    | .gtr => bif decide (k = k') then K (mkBool (la && lb) (decide (a > b))) else .bad 3
    | .geq => bif decide (k = k') then K (mkBool (la && lb) (decide (a ≥ b))) else .bad 3
    | .and => bif decide (k = k') then K (mkInt (la && lb) k (bitsOp .and k a b)) else .bad 3
    | .or => bif decide (k = k') then K (mkInt (la && lb) k (bitsOp .or k a b)) else .bad 3
    | .xor => bif decide (k = k') then K (mkInt (la && lb) k (bitsOp .xor k a b)) else .bad 3
    | .andNot => bif decide (k = k') then K (mkInt (la && lb) k (bitsOp .andNot k a b)) else .bad 3
  | _, _ => .bad 5

theorem holds_bif {M : Goal U} {b : Bool} {x y : Out U} : (bif b then x else y).holds M ↔ if b = true then x.holds M else y.holds M := by cases b <;> simp

theorem evalBin_sound {M : Goal U} {op : BinOp} {x y : AV} {K : AV → Out U} (h : (evalBin op x y K).holds M) :
    ∃ v, (K v).holds M ∧ ∀ (P : Program) (r : Nm) (w : World) (T : Nat) (u u' : Value) (p q : Operand), rel r x u → rel r y u' →
      ∃ z, (do eqGuard op T p q u u'; binOp op T u u' : Sem Value).run P w = .ok z w ∧ rel r v z := by
  unfold evalBin at h
  split at h
  · rename_i k a la k' b lb hx hy
    cases op <;> simp only [holds_bif, Out.holds] at h <;>
      first
        | (exact h.elim)
        | (split at h
           · rename_i hk
             first
               | (simp only [decide_eq_true_eq] at hk; subst hk
                  first
                    | (refine ⟨_, h, fun P r w T u u' p q hu hu' => ?_⟩
                       have e1 := rel_num hx hu; have e2 := rel_num hy hu'; subst e1; subst e2
                       exact ⟨_, by simp [eqGuard, binOp, Op.intArith, Op.intCmp, Op.intBits]; rfl, by simp [rel_mkInt, rel_mkBool, bitsOp]⟩)
                    | (split at h
                       · split at h
                         · exact h.elim
                         · rename_i hb
                           simp only [decide_eq_true_eq] at hb
                           refine ⟨_, h, fun P r w T u u' p q hu hu' => ?_⟩
                           have e1 := rel_num hx hu; have e2 := rel_num hy hu'; subst e1; subst e2
                           exact ⟨_, by simp [eqGuard, binOp, Op.intDiv, hb]; rfl, by simp [rel_mkInt]⟩
                       · obtain ⟨hb, h⟩ := h
                         refine ⟨_, h, fun P r w T u u' p q hu hu' => ?_⟩
                         have e1 := rel_num hx hu; have e2 := rel_num hy hu'; subst e1; subst e2
                         exact ⟨_, by simp [eqGuard, binOp, Op.intDiv, hb]; rfl, by simp [rel]⟩))
               | (split at h
                  · exact h.elim
                  · rename_i hb
                    simp only [decide_eq_true_eq] at hb
                    refine ⟨_, h, fun P r w T u u' p q hu hu' => ?_⟩
                    have e1 := rel_num hx hu; have e2 := rel_num hy hu'; subst e1; subst e2
                    exact ⟨_, by simp [eqGuard, binOp, Op.shift, hb]; rfl, by simp [rel]⟩)
           · first
               | (exact h.elim)
               | (obtain ⟨hb, h⟩ := h
                  refine ⟨_, h, fun P r w T u u' p q hu hu' => ?_⟩
                  have e1 := rel_num hx hu; have e2 := rel_num hy hu'; subst e1; subst e2
                  exact ⟨_, by simp [eqGuard, binOp, Op.shift, Int.not_lt.2 hb]; rfl, by simp [rel]⟩))
  · exact h.elim

end
end Sx
end Go.Proofs.Ytemcdjdglcceiaa
