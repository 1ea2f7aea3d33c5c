/-
  The kinds of elements of this seat.
-/
import Derived.Test.YtmcmdghmglopnaaGreatDoorWaitsP5
import Derived.Maps.Range
namespace Go.Proofs.YtmcmdghmglopnaaGreatDoor
namespace Sx
open Go

def rsDec : List AV → Option (Option Addr × Nat × Nat)
  | [.raw (.slice a l c)] => some (a, l, c)
  | [.rs o l c] => some (addrOf o, l, c)
  | [.nilS] => some (none, 0, 0)
  | _ => none
theorem rsBack (cs : List AV) (a : Option Addr × Nat × Nat) (h : rsDec cs = some a) (r : Nm) (vs : List Value) (hr : relL r cs vs) : relL r [.raw (.slice a.1 a.2.1 a.2.2)] vs := by
  unfold rsDec at h
  split at h
  · cases h; exact hr
  · cases h; simp only [relL] at hr; obtain ⟨v, us, rfl, h1, rfl⟩ := hr; exact relL_cons.2 ⟨h1, relL_nil⟩
  · cases h; simp only [relL] at hr; obtain ⟨v, us, rfl, h1, rfl⟩ := hr; exact relL_cons.2 ⟨h1, relL_nil⟩
  · cases h
/-- A row, by its place and its length alone. -/
def rsLay : Enc (Option Addr × Nat × Nat) := ⟨1, false, fun n => [.raw (.slice n.1 n.2.1 n.2.2)], rsDec, (none, 0, 0), fun _ => rfl, rsBack, fun a r vs h => by
  simp only [relL, rel] at h
  obtain ⟨v, us, rfl, rfl, rfl⟩ := h
  intro v hv
  rw [List.mem_singleton] at hv
  subst hv; rfl, by decide⟩

inductive Kd where
  | int | bool | rws | op
  deriving DecidableEq
@[reducible] def kEl : Kd → Type
  | .int => Int
  | .bool => Bool
  | .rws => Option Addr × Nat × Nat
  | .op => Opr
@[reducible] def kEnc : (k : Kd) → Enc (kEl k)
  | .int => intLay
  | .bool => boolLay
  | .rws => rsLay
  | .op => Opr.lay
/-- A map of numbers that is gone over: all entries, those that are still to come, and the one at hand. -/
structure Walk where
  m : List (Int × Int)
  left : List (Int × Int)
  cur : Option (Int × Int)
def KV (es : List MapEntry) (m : List (Int × Int)) : Prop := es.map (fun e => (e.key, e.val)) = m.map (fun q => (Value.int .i64 q.1, Value.int .i64 q.2))
def Walk.D (x : Walk) (r : Nat) (H : Hp) : Prop := ∃ b es clock since seen c0, b ≠ r ∧ H = (Hp.one b (.map es clock)).join (Hp.one r (.mapIter (some b) since seen c0)) ∧ KV es.toList x.m ∧ MapKept.Stamped es clock ∧ (∀ y ∈ es.toList, y.born < since) ∧ since ≤ c0 ∧ since ≤ clock ∧
  KV (leftOf es seen).toList x.left ∧ (∀ q, x.cur = some q → ∃ (seen' : Array Nat) (e : MapEntry), e ∈ es.toList ∧ seen = seen'.push e.born ∧ c0 = clock ∧ e.key = .int .i64 q.1 ∧ e.val = .int .i64 q.2)
abbrev V : Uni := ⟨Kd, inferInstance, kEl, kEnc, Walk, Walk.D⟩
instance plainV : Plain V := ⟨fun k a f => by cases k <;> rfl⟩
instance bareV : Bare V := ⟨fun k a => by cases k <;> rfl⟩

def kinds : Kinds V := fun t => match t with
  | 3 => some .int
  | 4 => some .bool
  | 37 => some .rws
  | 39 => some .op
  | _ => none
theorem kinds_met : kinds.met tab := by
  intro e k h
  unfold kinds at h
  split at h <;> cases h
  · exact ⟨ty3, rfl, rfl, rfl, by decide, fun r vs h => h⟩
  · exact ⟨ty4, rfl, rfl, rfl, by decide, fun r vs h => h⟩
  · exact ⟨ty37, rfl, rfl, rfl, by decide, fun r vs h => rsBack [.nilS] (none, 0, 0) rfl r vs h⟩
  · exact ⟨ty39, rfl, rfl, rfl, by decide, fun r vs h => h⟩
theorem mixed_met : Tryz.prog.follows .mixedOrders = true := by kernel_rfl
noncomputable def fnsOf (l : List (Nat × Func)) : Nat → Option Func := fun g => l.lookup g
end Sx
end Go.Proofs.YtmcmdghmglopnaaGreatDoor

/-
  Turns, crews: the runs of the machine.
-/
namespace Go.Proofs.YtmcmdghmglopnaaGreatDoor
namespace Sx
open Go
set_option maxRecDepth 100000
set_option linter.unusedVariables false

noncomputable def cfgF0 : Cfg Tryz.prog V := ⟨tab, kinds, fun _ => none, fun _ => none, fun _ _ => none⟩
theorem ft22 (n t : Int) : runF cfgF0 40 22 Tryz.f22 [.int .i64 n, .int .i64 t] [] 0 = Out.needd (n ≠ 0) (Out.needd (n ≠ 0) (Out.fin (.fn 34 [] [.ptr 0 0, .ptr 1 0, .ptr 2 0]) [(2, .cells 3 [.int .i64 ((IntKind.i64.wrap (t.tmod n + n)).tmod n)]), (1, .cells 3 [.int .i64 t]), (0, .cells 3 [.int .i64 n])] 4)) := by kernel_rfl

end Sx
end Go.Proofs.YtmcmdghmglopnaaGreatDoor

