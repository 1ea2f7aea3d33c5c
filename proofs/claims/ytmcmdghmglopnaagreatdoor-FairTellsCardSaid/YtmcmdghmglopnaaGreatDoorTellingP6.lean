/-
  The kinds of elements of this seat.
-/
import Derived.Test.YtmcmdghmglopnaaGreatDoorTellingP5
import Derived.Maps.Range
namespace Go.Proofs.YtmcmdghmglopnaaGreatDoor
namespace Sx
open Go

def rsDec : List AV → Option (Option Addr × Nat × Nat)
  | [.raw (.slice a l c)] => some (a, l, c)
  | [.rs o l c] => some (addrOf o, l, c)
  | [.nilS] => some (none, 0, 0)
  | _ => none
theorem rsBack (cs : List AV) (a : Option Addr × Nat × Nat) (h : rsDec cs = some a) (r : Nm) (vs : List Value) (hr : relL r cs vs) : relL r [.raw (.slice a.1 a.2.1 a.2.2)] vs := by
  unfold rsDec at h
  split at h
  · cases h; exact hr
  · cases h; simp only [relL] at hr; obtain ⟨v, us, rfl, h1, rfl⟩ := hr; exact relL_cons.2 ⟨h1, relL_nil⟩
  · cases h; simp only [relL] at hr; obtain ⟨v, us, rfl, h1, rfl⟩ := hr; exact relL_cons.2 ⟨h1, relL_nil⟩
  · cases h
/-- A row, by its place and its length alone. -/
def rsLay : Enc (Option Addr × Nat × Nat) := ⟨1, false, fun n => [.raw (.slice n.1 n.2.1 n.2.2)], rsDec, (none, 0, 0), fun _ => rfl, rsBack, fun a r vs h => by
  simp only [relL, rel] at h
  obtain ⟨v, us, rfl, rfl, rfl⟩ := h
  intro v hv
  rw [List.mem_singleton] at hv
  subst hv; rfl, by decide⟩

inductive Kd where
  | int | bool | rws | op
  deriving DecidableEq
@[reducible] def kEl : Kd → Type
  | .int => Int
  | .bool => Bool
  | .rws => Option Addr × Nat × Nat
  | .op => Opr
@[reducible] def kEnc : (k : Kd) → Enc (kEl k)
  | .int => intLay
  | .bool => boolLay
  | .rws => rsLay
  | .op => Opr.lay
/-- A map of numbers that is gone over: all entries, those that are still to come, and the one at hand. -/
structure Walk where
  m : List (Int × Int)
  left : List (Int × Int)
  cur : Option (Int × Int)
def KV (es : List MapEntry) (m : List (Int × Int)) : Prop := es.map (fun e => (e.key, e.val)) = m.map (fun q => (Value.int .i64 q.1, Value.int .i64 q.2))
def Walk.D (x : Walk) (r : Nat) (H : Hp) : Prop := ∃ b es clock since seen c0, b ≠ r ∧ H = (Hp.one b (.map es clock)).join (Hp.one r (.mapIter (some b) since seen c0)) ∧ KV es.toList x.m ∧ MapKept.Stamped es clock ∧ (∀ y ∈ es.toList, y.born < since) ∧ since ≤ c0 ∧ since ≤ clock ∧
  KV (leftOf es seen).toList x.left ∧ (∀ q, x.cur = some q → ∃ (seen' : Array Nat) (e : MapEntry), e ∈ es.toList ∧ seen = seen'.push e.born ∧ c0 = clock ∧ e.key = .int .i64 q.1 ∧ e.val = .int .i64 q.2)
abbrev V : Uni := ⟨Kd, inferInstance, kEl, kEnc, Walk, Walk.D⟩
instance plainV : Plain V := ⟨fun k a f => by cases k <;> rfl⟩
instance bareV : Bare V := ⟨fun k a => by cases k <;> rfl⟩

def kinds : Kinds V := fun t => match t with
  | 3 => some .int
  | 4 => some .bool
  | 37 => some .rws
  | 39 => some .op
  | _ => none
theorem kinds_met : kinds.met tab := by
  intro e k h
  unfold kinds at h
  split at h <;> cases h
  · exact ⟨ty3, rfl, rfl, rfl, by decide, fun r vs h => h⟩
  · exact ⟨ty4, rfl, rfl, rfl, by decide, fun r vs h => h⟩
  · exact ⟨ty37, rfl, rfl, rfl, by decide, fun r vs h => rsBack [.nilS] (none, 0, 0) rfl r vs h⟩
  · exact ⟨ty39, rfl, rfl, rfl, by decide, fun r vs h => h⟩
theorem mixed_met : Tryz.prog.follows .mixedOrders = true := by kernel_rfl
noncomputable def fnsOf (l : List (Nat × Func)) : Nat → Option Func := fun g => l.lookup g
end Sx
end Go.Proofs.YtmcmdghmglopnaaGreatDoor

/-
  The document's turns: the runs of the machine.
-/
namespace Go.Proofs.YtmcmdghmglopnaaGreatDoor
namespace Sx
open Go
set_option maxRecDepth 100000
set_option linter.unusedVariables false

noncomputable def cfgG : Cfg Tryz.prog V := ⟨tab, kinds, fun _ => none, fun _ => none, fun _ _ => none⟩
abbrev TG : List Nat := [0, 1, 2, 3, 4, 5, 6, 7, 8, 9, 10, 11, 12]
/-! The document's turns. -/
structure T2 where
  b : Bool
  n : Nat
  hn : 1 ≤ n ∧ n ≤ 64
  l : List Int
  c : Nat
  hl : l.length ≤ 4096
/-- What comes at a place of a turn. -/
def atk (n t : Int) (k : Nat) : Int := (t % n + (if t % 2 = 0 then (k : Int) else n - k)) % n
structure T3 extends T2 where
  i : Nat
  t : Int
  out : List Int
  sp0 : Nat
  hout : out.length ≤ 262144
def stepOf (n : Nat) (t : Int) : Int := if t % 2 = 0 then 1 else (n : Int) - 1
def outK (p : T3) (k : Nat) : List Int := p.out ++ (List.range k).map (atk p.n p.t)
def InA (p : T3) (x : Nat × Nat) : St V := ⟨[(0, .int .i64 (p.n : Int)), (1, .sl false 1 0 1 p.l.length p.c), (5, .sl false 4 0 1 (outK p x.1).length ((outK p x.1).length + x.2)), (6, .int .i64 (p.i : Int)), (7, .int .i64 (atk p.n p.t x.1)), (8, .int .i64 (stepOf p.n p.t)), (9, .int .i64 (x.1 : Int))], [(4, .arr 3 Kd.int (outK p x.1) x.2), (1, .ro Kd.int p.l)], 5, 65, TG⟩
def InB (p : T3) (x : Nat × Nat) : St V := ⟨[(0, .int .i64 (p.n : Int)), (1, .sl false 2 0 1 p.l.length p.c), (5, .sl false 4 0 1 (outK p x.1).length ((outK p x.1).length + x.2)), (6, .int .i64 (p.i : Int)), (7, .int .i64 (atk p.n p.t x.1)), (8, .int .i64 (stepOf p.n p.t)), (9, .int .i64 (x.1 : Int))], [(4, .arr 3 Kd.int (outK p x.1) x.2), (2, .arr 3 Kd.int p.l 0)], 5, 65, TG⟩
def InAZ (p : T3) : St V := InA p (0, p.sp0)
def InBZ (p : T3) : St V := InB p (0, p.sp0)
def InAE (p : T3) (sp : Nat) : St V := InA p (p.n, sp)
def InBE (p : T3) (sp : Nat) : St V := InB p (p.n, sp)
def InC (_ : T3) (_ : Nat) : Prop := True
def isA (s : St V) : Bool := match envGet s.env 1 with | .sl _ id _ _ _ _ => Nat.beq id 1 | _ => false
def LInA : LoopS V := trimLoop (trimSt [0, 1, 5, 6, 7, 8, 9] [1, 2, 3]) (loopH 4 InAZ InC InAE)
def LInB : LoopS V := trimLoop (trimSt [0, 1, 5, 6, 7, 8, 9] [1, 2, 3]) (loopH 4 InBZ InC InBE)
def LIn : LoopS V := fun s K => bif isA s then LInA s K else LInB s K
def OutA (p : T2) (x : Nat × List Int × Nat) : St V := ⟨[(0, .int .i64 (p.n : Int)), (1, .sl false 1 0 1 p.l.length p.c), (5, .sl false 3 0 1 x.2.1.length (x.2.1.length + x.2.2)), (6, .int .i64 (x.1 : Int))], [(3, .arr 3 Kd.int x.2.1 x.2.2), (1, .ro Kd.int p.l)], 4, 65, TG⟩
def OutB (p : T2) (x : Nat × List Int × Nat) : St V := ⟨[(0, .int .i64 (p.n : Int)), (1, .sl false 2 0 1 p.l.length p.c), (5, .sl false 3 0 1 x.2.1.length (x.2.1.length + x.2.2)), (6, .int .i64 (x.1 : Int))], [(3, .arr 3 Kd.int x.2.1 x.2.2), (2, .arr 3 Kd.int p.l 0)], 4, 65, TG⟩

noncomputable def cfgG1 : Cfg Tryz.prog V := ⟨tab, kinds, fun _ => none, fun _ => none, fun f id => match f, id with | 12, 2 => some LIn | _, _ => none⟩
theorem bia (p : T3) (x : Nat × Nat) : runCode cfgG 60 12 (loopOf Tryz.f12 2) (InA p x) (stopT (trimSt [0, 1, 5, 6, 7, 8, 9] [0, 1, 2, 3, 4, 5, 6, 7, 8])) = Out.ite (decide ((↑x.1 : Int) < (↑p.toT2.2 : Int))) (Out.same ((outK p x.1).length + x.2) ((outK p x.1).length + x.2) (Out.needd (0 = 0 ∧ (outK p x.1).length = (outK p x.1).length ∧ ((outK p x.1).length + 1) * 8 ≤ 140737488355328) (Out.all Nat fun y => Out.needd ((↑p.toT2.2 : Int) ≠ 0) (Out.stop EX.nx {env := [(0, .int .i64 (↑p.toT2.2 : Int)), (1, .sl false 1 0 1 p.l.length p.toT2.5), (5, .sl false 6 0 1 ((outK p x.1).length + 1) ((outK p x.1).length + 1 + y)), (6, .int .i64 (↑p.2 : Int)), (7, .int .i64 ((IntKind.i64.wrap (atk (↑p.toT2.2 : Int) p.t x.1 + stepOf p.toT2.2 p.t)).tmod (↑p.toT2.2 : Int))), (8, .int .i64 (stepOf p.toT2.2 p.t)), (9, .int .i64 (IntKind.i64.wrap ((↑x.1 : Int) + 1)))], heap := [(6, .arr 3 Kd.int (outK p x.1 ++ [atk (↑p.toT2.2 : Int) p.t x.1]) y), (5, .cells 3 [.int .i64 (atk (↑p.toT2.2 : Int) p.t x.1)]), (1, .ro Kd.int p.l)], nx := 7, nt := 65, tl := [4, 0, 1, 2, 3, 4, 5, 6, 7, 8, 9, 10, 11, 12] : St V })))) (Out.stop (EX.ex 2) {env := [(0, .int .i64 (↑p.toT2.2 : Int)), (1, .sl false 1 0 1 p.l.length p.toT2.5), (5, .sl false 4 0 1 (outK p x.1).length ((outK p x.1).length + x.2)), (6, .int .i64 (↑p.2 : Int)), (7, .int .i64 (atk (↑p.toT2.2 : Int) p.t x.1)), (8, .int .i64 (stepOf p.toT2.2 p.t)), (9, .int .i64 (↑x.1 : Int))], heap := [(4, .arr 3 Kd.int (outK p x.1) x.2), (1, .ro Kd.int p.l)], nx := 5, nt := 65, tl := [0, 1, 2, 3, 4, 5, 6, 7, 8, 9, 10, 11, 12] : St V }) := by kernel_rfl

theorem bib (p : T3) (x : Nat × Nat) : runCode cfgG 60 12 (loopOf Tryz.f12 2) (InB p x) (stopT (trimSt [0, 1, 5, 6, 7, 8, 9] [0, 1, 2, 3, 4, 5, 6, 7, 8])) = Out.ite (decide ((↑x.1 : Int) < (↑p.toT2.2 : Int))) (Out.same ((outK p x.1).length + x.2) ((outK p x.1).length + x.2) (Out.needd (0 = 0 ∧ (outK p x.1).length = (outK p x.1).length ∧ ((outK p x.1).length + 1) * 8 ≤ 140737488355328) (Out.all Nat fun y => Out.needd ((↑p.toT2.2 : Int) ≠ 0) (Out.stop EX.nx {env := [(0, .int .i64 (↑p.toT2.2 : Int)), (1, .sl false 2 0 1 p.l.length p.toT2.5), (5, .sl false 6 0 1 ((outK p x.1).length + 1) ((outK p x.1).length + 1 + y)), (6, .int .i64 (↑p.2 : Int)), (7, .int .i64 ((IntKind.i64.wrap (atk (↑p.toT2.2 : Int) p.t x.1 + stepOf p.toT2.2 p.t)).tmod (↑p.toT2.2 : Int))), (8, .int .i64 (stepOf p.toT2.2 p.t)), (9, .int .i64 (IntKind.i64.wrap ((↑x.1 : Int) + 1)))], heap := [(6, .arr 3 Kd.int (outK p x.1 ++ [atk (↑p.toT2.2 : Int) p.t x.1]) y), (5, .cells 3 [.int .i64 (atk (↑p.toT2.2 : Int) p.t x.1)]), (2, .arr 3 Kd.int p.l 0)], nx := 7, nt := 65, tl := [4, 0, 1, 2, 3, 4, 5, 6, 7, 8, 9, 10, 11, 12] : St V })))) (Out.stop (EX.ex 2) {env := [(0, .int .i64 (↑p.toT2.2 : Int)), (1, .sl false 2 0 1 p.l.length p.toT2.5), (5, .sl false 4 0 1 (outK p x.1).length ((outK p x.1).length + x.2)), (6, .int .i64 (↑p.2 : Int)), (7, .int .i64 (atk (↑p.toT2.2 : Int) p.t x.1)), (8, .int .i64 (stepOf p.toT2.2 p.t)), (9, .int .i64 (↑x.1 : Int))], heap := [(4, .arr 3 Kd.int (outK p x.1) x.2), (2, .arr 3 Kd.int p.l 0)], nx := 5, nt := 65, tl := [0, 1, 2, 3, 4, 5, 6, 7, 8, 9, 10, 11, 12] : St V }) := by kernel_rfl

theorem boa (p : T2) (x : Nat × List Int × Nat) : runCode cfgG1 60 12 (loopOf Tryz.f12 0) (OutA p x) (stopT (trimSt [0, 1, 5, 6] [0, 1, 2, 3, 4, 5, 6, 7, 8])) = Out.ite (decide ((↑x.1 : Int) < (↑p.l.length : Int))) (Out.needd (0 ≤ (↑x.1 : Int) ∧ (↑x.1 : Int) < (↑p.l.length : Int)) (Out.needd (0 + x.1 < p.l.length) (Out.needd ((↑p.2 : Int) ≠ 0) (Out.ite (decide (Int.tmod (p.l.getD (0 + x.1) (V.enc Kd.int).dflt) (↑p.2 : Int) < 0)) (Out.needd (0 ≤ (↑x.1 : Int) ∧ (↑x.1 : Int) < (↑p.l.length : Int)) (Out.needd (0 + x.1 < p.l.length) (Out.ite (Int.tmod (p.l.getD (0 + x.1) (V.enc Kd.int).dflt) 2 != 0) (Out.need (LoopFor Tryz.prog 12 2 (loopOf Tryz.f12 2) LIn) (Out.ex (T3 → Prop) fun y => Out.need (4 ≤ 4 ∧ SImp 4 {env := [(0, .int .i64 (↑p.2 : Int)), (1, .sl false 1 0 1 p.l.length p.5), (5, .sl false 3 0 1 x.snd.fst.length (x.snd.fst.length + x.snd.2)), (6, .int .i64 (↑x.1 : Int)), (7, .int .i64 (IntKind.i64.wrap (Int.tmod (p.l.getD (0 + x.1) (V.enc Kd.int).dflt) (↑p.2 : Int) + (↑p.2 : Int)))), (8, .int .i64 (IntKind.i64.wrap ((↑p.2 : Int) - 1))), (9, .lit .i64 0)], heap := [(3, .arr 3 Kd.int x.snd.fst x.snd.2), (1, .ro Kd.int p.l)], nx := 4, nt := 65, tl := [0, 1, 2, 3, 4, 5, 6, 7, 8, 9, 10, 11, 12] : St V } InAZ y) (Out.all T3 fun y_1 => Out.asm (y y_1) (Out.all Nat fun y => Out.asm (InC y_1 y) (Out.stop EX.nx {env := [(0, .int .i64 (↑y_1.toT2.2 : Int)), (1, .sl false 1 0 1 y_1.l.length y_1.toT2.5), (5, .sl false 4 0 1 (outK y_1 y_1.toT2.2).length ((outK y_1 y_1.toT2.2).length + y)), (6, .int .i64 (IntKind.i64.wrap ((↑y_1.2 : Int) + 1)))], heap := [(4, .arr 3 Kd.int (outK y_1 y_1.toT2.2) y), (1, .ro Kd.int y_1.l)], nx := 5, nt := 65, tl := [0, 1, 2, 3, 4, 5, 6, 7, 8, 9, 10, 11, 12] : St V }))))) (Out.need (LoopFor Tryz.prog 12 2 (loopOf Tryz.f12 2) LIn) (Out.ex (T3 → Prop) fun y => Out.need (4 ≤ 4 ∧ SImp 4 {env := [(0, .int .i64 (↑p.2 : Int)), (1, .sl false 1 0 1 p.l.length p.5), (5, .sl false 3 0 1 x.snd.fst.length (x.snd.fst.length + x.snd.2)), (6, .int .i64 (↑x.1 : Int)), (7, .int .i64 (IntKind.i64.wrap (Int.tmod (p.l.getD (0 + x.1) (V.enc Kd.int).dflt) (↑p.2 : Int) + (↑p.2 : Int)))), (8, .lit .i64 1), (9, .lit .i64 0)], heap := [(3, .arr 3 Kd.int x.snd.fst x.snd.2), (1, .ro Kd.int p.l)], nx := 4, nt := 65, tl := [0, 1, 2, 3, 4, 5, 6, 7, 8, 9, 10, 11, 12] : St V } InAZ y) (Out.all T3 fun y_1 => Out.asm (y y_1) (Out.all Nat fun y => Out.asm (InC y_1 y) (Out.stop EX.nx {env := [(0, .int .i64 (↑y_1.toT2.2 : Int)), (1, .sl false 1 0 1 y_1.l.length y_1.toT2.5), (5, .sl false 4 0 1 (outK y_1 y_1.toT2.2).length ((outK y_1 y_1.toT2.2).length + y)), (6, .int .i64 (IntKind.i64.wrap ((↑y_1.2 : Int) + 1)))], heap := [(4, .arr 3 Kd.int (outK y_1 y_1.toT2.2) y), (1, .ro Kd.int y_1.l)], nx := 5, nt := 65, tl := [0, 1, 2, 3, 4, 5, 6, 7, 8, 9, 10, 11, 12] : St V })))))))) (Out.needd (0 ≤ (↑x.1 : Int) ∧ (↑x.1 : Int) < (↑p.l.length : Int)) (Out.needd (0 + x.1 < p.l.length) (Out.ite (Int.tmod (p.l.getD (0 + x.1) (V.enc Kd.int).dflt) 2 != 0) (Out.need (LoopFor Tryz.prog 12 2 (loopOf Tryz.f12 2) LIn) (Out.ex (T3 → Prop) fun y => Out.need (4 ≤ 4 ∧ SImp 4 {env := [(0, .int .i64 (↑p.2 : Int)), (1, .sl false 1 0 1 p.l.length p.5), (5, .sl false 3 0 1 x.snd.fst.length (x.snd.fst.length + x.snd.2)), (6, .int .i64 (↑x.1 : Int)), (7, .int .i64 (Int.tmod (p.l.getD (0 + x.1) (V.enc Kd.int).dflt) (↑p.2 : Int))), (8, .int .i64 (IntKind.i64.wrap ((↑p.2 : Int) - 1))), (9, .lit .i64 0)], heap := [(3, .arr 3 Kd.int x.snd.fst x.snd.2), (1, .ro Kd.int p.l)], nx := 4, nt := 65, tl := [0, 1, 2, 3, 4, 5, 6, 7, 8, 9, 10, 11, 12] : St V } InAZ y) (Out.all T3 fun y_1 => Out.asm (y y_1) (Out.all Nat fun y => Out.asm (InC y_1 y) (Out.stop EX.nx {env := [(0, .int .i64 (↑y_1.toT2.2 : Int)), (1, .sl false 1 0 1 y_1.l.length y_1.toT2.5), (5, .sl false 4 0 1 (outK y_1 y_1.toT2.2).length ((outK y_1 y_1.toT2.2).length + y)), (6, .int .i64 (IntKind.i64.wrap ((↑y_1.2 : Int) + 1)))], heap := [(4, .arr 3 Kd.int (outK y_1 y_1.toT2.2) y), (1, .ro Kd.int y_1.l)], nx := 5, nt := 65, tl := [0, 1, 2, 3, 4, 5, 6, 7, 8, 9, 10, 11, 12] : St V }))))) (Out.need (LoopFor Tryz.prog 12 2 (loopOf Tryz.f12 2) LIn) (Out.ex (T3 → Prop) fun y => Out.need (4 ≤ 4 ∧ SImp 4 {env := [(0, .int .i64 (↑p.2 : Int)), (1, .sl false 1 0 1 p.l.length p.5), (5, .sl false 3 0 1 x.snd.fst.length (x.snd.fst.length + x.snd.2)), (6, .int .i64 (↑x.1 : Int)), (7, .int .i64 (Int.tmod (p.l.getD (0 + x.1) (V.enc Kd.int).dflt) (↑p.2 : Int))), (8, .lit .i64 1), (9, .lit .i64 0)], heap := [(3, .arr 3 Kd.int x.snd.fst x.snd.2), (1, .ro Kd.int p.l)], nx := 4, nt := 65, tl := [0, 1, 2, 3, 4, 5, 6, 7, 8, 9, 10, 11, 12] : St V } InAZ y) (Out.all T3 fun y_1 => Out.asm (y y_1) (Out.all Nat fun y => Out.asm (InC y_1 y) (Out.stop EX.nx {env := [(0, .int .i64 (↑y_1.toT2.2 : Int)), (1, .sl false 1 0 1 y_1.l.length y_1.toT2.5), (5, .sl false 4 0 1 (outK y_1 y_1.toT2.2).length ((outK y_1 y_1.toT2.2).length + y)), (6, .int .i64 (IntKind.i64.wrap ((↑y_1.2 : Int) + 1)))], heap := [(4, .arr 3 Kd.int (outK y_1 y_1.toT2.2) y), (1, .ro Kd.int y_1.l)], nx := 5, nt := 65, tl := [0, 1, 2, 3, 4, 5, 6, 7, 8, 9, 10, 11, 12] : St V })))))))))))) (Out.stop (EX.ex 0) {env := [(0, .int .i64 (↑p.2 : Int)), (1, .sl false 1 0 1 p.l.length p.5), (5, .sl false 3 0 1 x.snd.fst.length (x.snd.fst.length + x.snd.2)), (6, .int .i64 (↑x.1 : Int))], heap := [(3, .arr 3 Kd.int x.snd.fst x.snd.2), (1, .ro Kd.int p.l)], nx := 4, nt := 65, tl := [0, 1, 2, 3, 4, 5, 6, 7, 8, 9, 10, 11, 12] : St V }) := by kernel_rfl

theorem bob (p : T2) (x : Nat × List Int × Nat) : runCode cfgG1 60 12 (loopOf Tryz.f12 0) (OutB p x) (stopT (trimSt [0, 1, 5, 6] [0, 1, 2, 3, 4, 5, 6, 7, 8])) = Out.ite (decide ((↑x.1 : Int) < (↑p.l.length : Int))) (Out.needd (0 ≤ (↑x.1 : Int) ∧ (↑x.1 : Int) < (↑p.l.length : Int)) (Out.needd (0 + x.1 < p.l.length) (Out.needd ((↑p.2 : Int) ≠ 0) (Out.ite (decide (Int.tmod (p.l.getD (0 + x.1) (V.enc Kd.int).dflt) (↑p.2 : Int) < 0)) (Out.needd (0 ≤ (↑x.1 : Int) ∧ (↑x.1 : Int) < (↑p.l.length : Int)) (Out.needd (0 + x.1 < p.l.length) (Out.ite (Int.tmod (p.l.getD (0 + x.1) (V.enc Kd.int).dflt) 2 != 0) (Out.need (LoopFor Tryz.prog 12 2 (loopOf Tryz.f12 2) LIn) (Out.ex (T3 → Prop) fun y => Out.need (4 ≤ 4 ∧ SImp 4 {env := [(0, .int .i64 (↑p.2 : Int)), (1, .sl false 2 0 1 p.l.length p.5), (5, .sl false 3 0 1 x.snd.fst.length (x.snd.fst.length + x.snd.2)), (6, .int .i64 (↑x.1 : Int)), (7, .int .i64 (IntKind.i64.wrap (Int.tmod (p.l.getD (0 + x.1) (V.enc Kd.int).dflt) (↑p.2 : Int) + (↑p.2 : Int)))), (8, .int .i64 (IntKind.i64.wrap ((↑p.2 : Int) - 1))), (9, .lit .i64 0)], heap := [(3, .arr 3 Kd.int x.snd.fst x.snd.2), (2, .arr 3 Kd.int p.l 0)], nx := 4, nt := 65, tl := [0, 1, 2, 3, 4, 5, 6, 7, 8, 9, 10, 11, 12] : St V } InBZ y) (Out.all T3 fun y_1 => Out.asm (y y_1) (Out.all Nat fun y => Out.asm (InC y_1 y) (Out.stop EX.nx {env := [(0, .int .i64 (↑y_1.toT2.2 : Int)), (1, .sl false 2 0 1 y_1.l.length y_1.toT2.5), (5, .sl false 4 0 1 (outK y_1 y_1.toT2.2).length ((outK y_1 y_1.toT2.2).length + y)), (6, .int .i64 (IntKind.i64.wrap ((↑y_1.2 : Int) + 1)))], heap := [(4, .arr 3 Kd.int (outK y_1 y_1.toT2.2) y), (2, .arr 3 Kd.int y_1.l 0)], nx := 5, nt := 65, tl := [0, 1, 2, 3, 4, 5, 6, 7, 8, 9, 10, 11, 12] : St V }))))) (Out.need (LoopFor Tryz.prog 12 2 (loopOf Tryz.f12 2) LIn) (Out.ex (T3 → Prop) fun y => Out.need (4 ≤ 4 ∧ SImp 4 {env := [(0, .int .i64 (↑p.2 : Int)), (1, .sl false 2 0 1 p.l.length p.5), (5, .sl false 3 0 1 x.snd.fst.length (x.snd.fst.length + x.snd.2)), (6, .int .i64 (↑x.1 : Int)), (7, .int .i64 (IntKind.i64.wrap (Int.tmod (p.l.getD (0 + x.1) (V.enc Kd.int).dflt) (↑p.2 : Int) + (↑p.2 : Int)))), (8, .lit .i64 1), (9, .lit .i64 0)], heap := [(3, .arr 3 Kd.int x.snd.fst x.snd.2), (2, .arr 3 Kd.int p.l 0)], nx := 4, nt := 65, tl := [0, 1, 2, 3, 4, 5, 6, 7, 8, 9, 10, 11, 12] : St V } InBZ y) (Out.all T3 fun y_1 => Out.asm (y y_1) (Out.all Nat fun y => Out.asm (InC y_1 y) (Out.stop EX.nx {env := [(0, .int .i64 (↑y_1.toT2.2 : Int)), (1, .sl false 2 0 1 y_1.l.length y_1.toT2.5), (5, .sl false 4 0 1 (outK y_1 y_1.toT2.2).length ((outK y_1 y_1.toT2.2).length + y)), (6, .int .i64 (IntKind.i64.wrap ((↑y_1.2 : Int) + 1)))], heap := [(4, .arr 3 Kd.int (outK y_1 y_1.toT2.2) y), (2, .arr 3 Kd.int y_1.l 0)], nx := 5, nt := 65, tl := [0, 1, 2, 3, 4, 5, 6, 7, 8, 9, 10, 11, 12] : St V })))))))) (Out.needd (0 ≤ (↑x.1 : Int) ∧ (↑x.1 : Int) < (↑p.l.length : Int)) (Out.needd (0 + x.1 < p.l.length) (Out.ite (Int.tmod (p.l.getD (0 + x.1) (V.enc Kd.int).dflt) 2 != 0) (Out.need (LoopFor Tryz.prog 12 2 (loopOf Tryz.f12 2) LIn) (Out.ex (T3 → Prop) fun y => Out.need (4 ≤ 4 ∧ SImp 4 {env := [(0, .int .i64 (↑p.2 : Int)), (1, .sl false 2 0 1 p.l.length p.5), (5, .sl false 3 0 1 x.snd.fst.length (x.snd.fst.length + x.snd.2)), (6, .int .i64 (↑x.1 : Int)), (7, .int .i64 (Int.tmod (p.l.getD (0 + x.1) (V.enc Kd.int).dflt) (↑p.2 : Int))), (8, .int .i64 (IntKind.i64.wrap ((↑p.2 : Int) - 1))), (9, .lit .i64 0)], heap := [(3, .arr 3 Kd.int x.snd.fst x.snd.2), (2, .arr 3 Kd.int p.l 0)], nx := 4, nt := 65, tl := [0, 1, 2, 3, 4, 5, 6, 7, 8, 9, 10, 11, 12] : St V } InBZ y) (Out.all T3 fun y_1 => Out.asm (y y_1) (Out.all Nat fun y => Out.asm (InC y_1 y) (Out.stop EX.nx {env := [(0, .int .i64 (↑y_1.toT2.2 : Int)), (1, .sl false 2 0 1 y_1.l.length y_1.toT2.5), (5, .sl false 4 0 1 (outK y_1 y_1.toT2.2).length ((outK y_1 y_1.toT2.2).length + y)), (6, .int .i64 (IntKind.i64.wrap ((↑y_1.2 : Int) + 1)))], heap := [(4, .arr 3 Kd.int (outK y_1 y_1.toT2.2) y), (2, .arr 3 Kd.int y_1.l 0)], nx := 5, nt := 65, tl := [0, 1, 2, 3, 4, 5, 6, 7, 8, 9, 10, 11, 12] : St V }))))) (Out.need (LoopFor Tryz.prog 12 2 (loopOf Tryz.f12 2) LIn) (Out.ex (T3 → Prop) fun y => Out.need (4 ≤ 4 ∧ SImp 4 {env := [(0, .int .i64 (↑p.2 : Int)), (1, .sl false 2 0 1 p.l.length p.5), (5, .sl false 3 0 1 x.snd.fst.length (x.snd.fst.length + x.snd.2)), (6, .int .i64 (↑x.1 : Int)), (7, .int .i64 (Int.tmod (p.l.getD (0 + x.1) (V.enc Kd.int).dflt) (↑p.2 : Int))), (8, .lit .i64 1), (9, .lit .i64 0)], heap := [(3, .arr 3 Kd.int x.snd.fst x.snd.2), (2, .arr 3 Kd.int p.l 0)], nx := 4, nt := 65, tl := [0, 1, 2, 3, 4, 5, 6, 7, 8, 9, 10, 11, 12] : St V } InBZ y) (Out.all T3 fun y_1 => Out.asm (y y_1) (Out.all Nat fun y => Out.asm (InC y_1 y) (Out.stop EX.nx {env := [(0, .int .i64 (↑y_1.toT2.2 : Int)), (1, .sl false 2 0 1 y_1.l.length y_1.toT2.5), (5, .sl false 4 0 1 (outK y_1 y_1.toT2.2).length ((outK y_1 y_1.toT2.2).length + y)), (6, .int .i64 (IntKind.i64.wrap ((↑y_1.2 : Int) + 1)))], heap := [(4, .arr 3 Kd.int (outK y_1 y_1.toT2.2) y), (2, .arr 3 Kd.int y_1.l 0)], nx := 5, nt := 65, tl := [0, 1, 2, 3, 4, 5, 6, 7, 8, 9, 10, 11, 12] : St V })))))))))))) (Out.stop (EX.ex 0) {env := [(0, .int .i64 (↑p.2 : Int)), (1, .sl false 2 0 1 p.l.length p.5), (5, .sl false 3 0 1 x.snd.fst.length (x.snd.fst.length + x.snd.2)), (6, .int .i64 (↑x.1 : Int))], heap := [(3, .arr 3 Kd.int x.snd.fst x.snd.2), (2, .arr 3 Kd.int p.l 0)], nx := 4, nt := 65, tl := [0, 1, 2, 3, 4, 5, 6, 7, 8, 9, 10, 11, 12] : St V }) := by kernel_rfl

end Sx
end Go.Proofs.YtmcmdghmglopnaaGreatDoor

/-
  The document's waiting: the runs of the machine.
-/
namespace Go.Proofs.YtmcmdghmglopnaaGreatDoor
namespace Sx
open Go
set_option maxRecDepth 100000
set_option linter.unusedVariables false

def OutAZ (p : T2) : St V := OutA p (0, [], 0)
def OutBZ (p : T2) : St V := OutB p (0, [], 0)
def OutAE (p : T2) (y : List Int × Nat) : St V := OutA p (p.l.length, y.1, y.2)
def OutBE (p : T2) (y : List Int × Nat) : St V := OutB p (p.l.length, y.1, y.2)
def OutC (p : T2) (y : List Int × Nat) : Prop := y.1 = p.l.flatMap (turnI p.n)
def LOutA : LoopS V := trimLoop (trimSt [0, 1, 5, 6] [1, 2]) (loopH 3 OutAZ OutC OutAE)
def LOutB : LoopS V := trimLoop (trimSt [0, 1, 5, 6] [1, 2]) (loopH 3 OutBZ OutC OutBE)
def LOut : LoopS V := fun s K => bif isA s then LOutA s K else LOutB s K
noncomputable def cfgG2 : Cfg Tryz.prog V := ⟨tab, kinds, fun _ => none, fun _ => none, fun f id => match f, id with | 12, 0 => some LOut | _, _ => none⟩
/-! Fair, of the document. -/
structure FrP where
  l : List Int
  c : Nat
  n : Nat
  w : Nat
  hb : l.length ≤ 1099511627776
  hn : n ≤ 1099511627776
  hw : 1 ≤ w ∧ w ≤ 1099511627776
/-- Is it in so many from there? -/
def anyIn (l : List Int) (t : Int) (fr k : Nat) : Bool := ((l.drop fr).take k).any (fun x => x == t)
structure FrP1 extends FrP where
  fr : Nat
  hfr : fr + w ≤ l.length
structure FrP2 extends FrP1 where
  t : Nat
  ht : t < n
def FI2 (p : FrP2) (k : Nat) : St V := ⟨[(0, .sl false 0 0 1 p.l.length p.c), (1, .int .i64 (p.n : Int)), (2, .int .i64 (p.w : Int)), (7, .int .i64 (p.fr : Int)), (8, .int .i64 (p.t : Int)), (9, .bool (anyIn p.l p.t p.fr k)), (10, .int .i64 ((p.fr + k : Nat) : Int))], [(0, .ro Kd.int p.l)], 3, 47, TG⟩
def FI2Z (p : FrP2) : St V := FI2 p 0
def FI2E (p : FrP2) (_ : Unit) : St V := FI2 p p.w
def FTr (α : Type) (_ : α) (_ : Unit) : Prop := True
def LF2 : LoopS V := trimLoop (trimSt [0, 1, 2, 7, 8, 9, 10] [0]) (loopH 3 FI2Z (FTr FrP2) FI2E)
def FI1 (p : FrP1) (t : Nat) : St V := ⟨[(0, .sl false 0 0 1 p.l.length p.c), (1, .int .i64 (p.n : Int)), (2, .int .i64 (p.w : Int)), (7, .int .i64 (p.fr : Int)), (8, .int .i64 (t : Int))], [(0, .ro Kd.int p.l)], 3, 47, TG⟩
def FI1Z (p : FrP1) : St V := FI1 p 0
def FI1E (p : FrP1) (_ : Unit) : St V := FI1 p p.n
def FR (p : FrP1) (_ : Unit) : St V := ⟨[(6, .ff)], [(0, .ro Kd.int p.l)], 3, 47, TG⟩
def FC1 (p : FrP1) (_ : Unit) : Prop := ∀ t : Nat, t < p.n → anyIn p.l t p.fr p.w = true
def FC1r (p : FrP1) (_ : Unit) : Prop := ¬ FairP p.l p.n p.w
def LF1 : LoopS V := trimLoop (trimSt [0, 1, 2, 7, 8] [0]) (loopG 3 FI1Z FC1 FI1E FC1r FR)
def FI0 (p : FrP) (fr : Nat) : St V := ⟨[(0, .sl false 0 0 1 p.l.length p.c), (1, .int .i64 (p.n : Int)), (2, .int .i64 (p.w : Int)), (7, .int .i64 (fr : Int))], [(0, .ro Kd.int p.l)], 3, 47, TG⟩
def FI0Z (p : FrP) : St V := FI0 p 0
def FI0E (p : FrP) (fr : Nat) : St V := FI0 p fr
def FR0 (p : FrP) (_ : Unit) : St V := ⟨[(6, .ff)], [(0, .ro Kd.int p.l)], 3, 47, TG⟩
def FC0 (p : FrP) (_ : Nat) : Prop := FairP p.l p.n p.w
def FC0r (p : FrP) (_ : Unit) : Prop := ¬ FairP p.l p.n p.w
def LF0 : LoopS V := trimLoop (trimSt [0, 1, 2, 7] [0]) (loopG 3 FI0Z FC0 FI0E FC0r FR0)
noncomputable def cfgFr2 : Cfg Tryz.prog V := ⟨tab, kinds, fun _ => none, fun _ => none, fun f id => match f, id with | 25, 4 => some LF2 | _, _ => none⟩
noncomputable def cfgFr1 : Cfg Tryz.prog V := ⟨tab, kinds, fun _ => none, fun _ => none, fun f id => match f, id with | 25, 2 => some LF1 | _, _ => none⟩
noncomputable def cfgFr0 : Cfg Tryz.prog V := ⟨tab, kinds, fun _ => none, fun _ => none, fun f id => match f, id with | 25, 0 => some LF0 | _, _ => none⟩
def runFair2 : RunFree V := fun ar K => match ar with
  | [.rows .int l c, .int .i64 n, .int .i64 w] => .need (1 ≤ n ∧ n ≤ 1099511627776 ∧ 1 ≤ w ∧ w ≤ 1099511627776 ∧ l.length ≤ 1099511627776) (.all Bool fun b => .asm (b = true ↔ FairP l n w.toNat) (K (.bool b) []))
  | _ => .bad 510
noncomputable def hooksWt : Nat → Option (HookS V) := fun g => match g with | 25 => some (hookFree [.rows Kd.int, .int .i64, .int .i64] runFair2) | _ => none
noncomputable def cfgWt : Cfg Tryz.prog V := ⟨tab, kinds, fun _ => none, hooksWt, fun _ _ => none⟩
structure WtP where
  l : List Int
  c : Nat
  n : Nat
  hb : l.length ≤ 1073741824
  hn : 1 ≤ n ∧ n ≤ 1099511627776
def WI16 (p : WtP) (w : Nat) : St V := ⟨[(0, .sl false 0 0 1 p.l.length p.c), (1, .int .i64 (p.n : Int)), (5, .int .i64 (w : Int))], [(0, .ro Kd.int p.l)], 2, 22, TG⟩
def WZ16 (p : WtP) : St V := WI16 p 1
def WC16 (p : WtP) (w : Nat) : Prop := 1 ≤ w ∧ LongIs p.l p.n (w - 1)
def LW16 : LoopS V := trimLoop (trimSt [0, 1, 5] [0]) (loopH 2 WZ16 WC16 WI16)
noncomputable def cfgWt1 : Cfg Tryz.prog V := ⟨tab, kinds, fun _ => none, hooksWt, fun f id => match f, id with | 16, 0 => some LW16 | _, _ => none⟩
theorem t12 (n : Int) (l : List Int) (c : Nat) : runF cfgG2 60 12 Tryz.f12 [.int .i64 n, .sl false 1 0 1 l.length c] [(1, .ro Kd.int l)] 2 = Out.ite (decide (n < 1)) (Out.fin .nilS [(1, .ro Kd.int l)] 2) (Out.ite (decide (n > 64)) (Out.fin .nilS [(1, .ro Kd.int l)] 2) (Out.ite (decide ((↑l.length : Int) > 4096)) (Out.fin .nilS [(1, .ro Kd.int l)] 2) (Out.ite ((↑l.length : Int) == 0) (Out.need (LoopFor Tryz.prog 12 0 (loopOf Tryz.f12 0) LOut) (Out.ex (T2 → Prop) fun y => Out.need (3 ≤ 3 ∧ SImp 3 {env := [(0, .int .i64 n), (1, .sl true 2 0 1 1 1), (5, .nilS), (6, .lit .i64 0)], heap := [(2, .cells 3 [.lit .i64 0]), (1, .ro Kd.int l)], nx := 3, nt := 65, tl := [] : St V } OutBZ y) (Out.all T2 fun y_1 => Out.asm (y y_1) (Out.all (List Int × Nat) fun y => Out.asm (OutC y_1 y) (Out.fin (.sl false 3 0 1 (y_1.l.length, y.fst, y.2).snd.fst.length ((y_1.l.length, y.fst, y.2).snd.fst.length + y.2)) [(3, .arr 3 Kd.int (y_1.l.length, y.fst, y.2).snd.fst y.2), (2, .arr 3 Kd.int y_1.l 0)] 4))))) (Out.need (LoopFor Tryz.prog 12 0 (loopOf Tryz.f12 0) LOut) (Out.ex (T2 → Prop) fun y => Out.need (2 ≤ 3 ∧ SImp 3 {env := [(0, .int .i64 n), (1, .sl false 1 0 1 l.length c), (5, .nilS), (6, .lit .i64 0)], heap := [(1, .ro Kd.int l)], nx := 2, nt := 65, tl := [] : St V } OutAZ y) (Out.all T2 fun y_1 => Out.asm (y y_1) (Out.all (List Int × Nat) fun y => Out.asm (OutC y_1 y) (Out.fin (.sl false 3 0 1 (y_1.l.length, y.fst, y.2).snd.fst.length ((y_1.l.length, y.fst, y.2).snd.fst.length + y.2)) [(3, .arr 3 Kd.int (y_1.l.length, y.fst, y.2).snd.fst y.2), (1, .ro Kd.int y_1.l)] 4)))))))) := by kernel_rfl

theorem b25c (p : FrP2) (k : Nat) : runCode cfgG 60 25 (loopOf Tryz.f25 4) (FI2 p k) (stopT (trimSt [0, 1, 2, 7, 8, 9, 10] [0])) = Out.ite (decide ((↑(p.toFrP1.2 + k) : Int) < IntKind.i64.wrap ((↑p.toFrP1.2 : Int) + (↑p.toFrP.4 : Int)))) (Out.ite (anyIn p.l (↑p.2 : Int) p.toFrP1.2 k) (Out.stop EX.nx {env := [(0, .sl false 0 0 1 p.l.length p.toFrP.2), (1, .int .i64 (↑p.toFrP.3 : Int)), (2, .int .i64 (↑p.toFrP.4 : Int)), (7, .int .i64 (↑p.toFrP1.2 : Int)), (8, .int .i64 (↑p.2 : Int)), (9, .tt), (10, .int .i64 (IntKind.i64.wrap ((↑(p.toFrP1.2 + k) : Int) + 1)))], heap := [(0, .ro Kd.int p.l)], nx := 3, nt := 47, tl := [0, 1, 2, 3, 4, 5, 6, 7, 8, 9, 10, 11, 12] : St V }) (Out.needd (0 ≤ (↑(p.toFrP1.2 + k) : Int) ∧ (↑(p.toFrP1.2 + k) : Int) < (↑p.l.length : Int)) (Out.needd (0 + (↑(p.toFrP1.2 + k) : Int).toNat < p.l.length) (Out.stop EX.nx {env := [(0, .sl false 0 0 1 p.l.length p.toFrP.2), (1, .int .i64 (↑p.toFrP.3 : Int)), (2, .int .i64 (↑p.toFrP.4 : Int)), (7, .int .i64 (↑p.toFrP1.2 : Int)), (8, .int .i64 (↑p.2 : Int)), (9, .bool (p.l.getD (0 + (↑(p.toFrP1.2 + k) : Int).toNat) (V.enc Kd.int).dflt == (↑p.2 : Int))), (10, .int .i64 (IntKind.i64.wrap ((↑(p.toFrP1.2 + k) : Int) + 1)))], heap := [(0, .ro Kd.int p.l)], nx := 3, nt := 47, tl := [0, 1, 2, 3, 4, 5, 6, 7, 8, 9, 10, 11, 12] : St V })))) (Out.stop (EX.ex 4) {env := [(0, .sl false 0 0 1 p.l.length p.toFrP.2), (1, .int .i64 (↑p.toFrP.3 : Int)), (2, .int .i64 (↑p.toFrP.4 : Int)), (7, .int .i64 (↑p.toFrP1.2 : Int)), (8, .int .i64 (↑p.2 : Int)), (9, .bool (anyIn p.l (↑p.2 : Int) p.toFrP1.2 k)), (10, .int .i64 (↑(p.toFrP1.2 + k) : Int))], heap := [(0, .ro Kd.int p.l)], nx := 3, nt := 47, tl := [0, 1, 2, 3, 4, 5, 6, 7, 8, 9, 10, 11, 12] : St V }) := by kernel_rfl

theorem b25b (p : FrP1) (t : Nat) : runCode cfgFr2 60 25 (loopOf Tryz.f25 2) (FI1 p t) (stopT (trimSt [0, 1, 2, 6, 7, 8] [0])) = Out.ite (decide ((↑t : Int) < (↑p.toFrP.3 : Int))) (Out.need (LoopFor Tryz.prog 25 4 (loopOf Tryz.f25 4) LF2) (Out.ex (FrP2 → Prop) fun y => Out.need (3 ≤ 3 ∧ SImp 3 {env := [(0, .sl false 0 0 1 p.l.length p.toFrP.2), (1, .int .i64 (↑p.toFrP.3 : Int)), (2, .int .i64 (↑p.toFrP.4 : Int)), (7, .int .i64 (↑p.2 : Int)), (8, .int .i64 (↑t : Int)), (9, .ff), (10, .int .i64 (↑p.2 : Int))], heap := [(0, .ro Kd.int p.l)], nx := 3, nt := 47, tl := [0, 1, 2, 3, 4, 5, 6, 7, 8, 9, 10, 11, 12] : St V } FI2Z y) (Out.all FrP2 fun y_1 => Out.asm (y y_1) (Out.all Unit fun y => Out.asm (FTr FrP2 y_1 y) (Out.ite (!anyIn y_1.l (↑y_1.2 : Int) y_1.toFrP1.2 y_1.toFrP.4) (Out.stop EX.rt {env := [(0, .sl false 0 0 1 y_1.l.length y_1.toFrP.2), (1, .int .i64 (↑y_1.toFrP.3 : Int)), (2, .int .i64 (↑y_1.toFrP.4 : Int)), (6, .ff), (7, .int .i64 (↑y_1.toFrP1.2 : Int)), (8, .int .i64 (↑y_1.2 : Int))], heap := [(0, .ro Kd.int y_1.l)], nx := 3, nt := 47, tl := [0, 1, 2, 3, 4, 5, 6, 7, 8, 9, 10, 11, 12] : St V }) (Out.stop EX.nx {env := [(0, .sl false 0 0 1 y_1.l.length y_1.toFrP.2), (1, .int .i64 (↑y_1.toFrP.3 : Int)), (2, .int .i64 (↑y_1.toFrP.4 : Int)), (6, .und), (7, .int .i64 (↑y_1.toFrP1.2 : Int)), (8, .int .i64 (IntKind.i64.wrap ((↑y_1.2 : Int) + 1)))], heap := [(0, .ro Kd.int y_1.l)], nx := 3, nt := 47, tl := [0, 1, 2, 3, 4, 5, 6, 7, 8, 9, 10, 11, 12] : St V })))))) (Out.stop (EX.ex 2) {env := [(0, .sl false 0 0 1 p.l.length p.toFrP.2), (1, .int .i64 (↑p.toFrP.3 : Int)), (2, .int .i64 (↑p.toFrP.4 : Int)), (6, .und), (7, .int .i64 (↑p.2 : Int)), (8, .int .i64 (↑t : Int))], heap := [(0, .ro Kd.int p.l)], nx := 3, nt := 47, tl := [0, 1, 2, 3, 4, 5, 6, 7, 8, 9, 10, 11, 12] : St V }) := by kernel_rfl

theorem b25a (p : FrP) (fr : Nat) : runCode cfgFr1 60 25 (loopOf Tryz.f25 0) (FI0 p fr) (stopT (trimSt [0, 1, 2, 6, 7] [0])) = Out.ite (decide ((↑fr : Int) ≤ IntKind.i64.wrap ((↑p.l.length : Int) - (↑p.4 : Int)))) (Out.need (LoopFor Tryz.prog 25 2 (loopOf Tryz.f25 2) LF1) (Out.ex (FrP1 → Prop) fun y => Out.need (3 ≤ 3 ∧ SImp 3 {env := [(0, .sl false 0 0 1 p.l.length p.2), (1, .int .i64 (↑p.3 : Int)), (2, .int .i64 (↑p.4 : Int)), (7, .int .i64 (↑fr : Int)), (8, .lit .i64 0)], heap := [(0, .ro Kd.int p.l)], nx := 3, nt := 47, tl := [0, 1, 2, 3, 4, 5, 6, 7, 8, 9, 10, 11, 12] : St V } FI1Z y) (Out.all FrP1 fun y_1 => Out.asm (y y_1) ((Out.all Unit fun y => Out.asm (FC1 y_1 y) (Out.stop EX.nx {env := [(0, .sl false 0 0 1 y_1.l.length y_1.toFrP.2), (1, .int .i64 (↑y_1.toFrP.3 : Int)), (2, .int .i64 (↑y_1.toFrP.4 : Int)), (6, .und), (7, .int .i64 (IntKind.i64.wrap ((↑y_1.2 : Int) + 1)))], heap := [(0, .ro Kd.int y_1.l)], nx := 3, nt := 47, tl := [0, 1, 2, 3, 4, 5, 6, 7, 8, 9, 10, 11, 12] : St V })).both (Out.all Unit fun y => Out.asm (FC1r y_1 y) (Out.stop EX.rt {env := [(0, .und), (1, .und), (2, .und), (6, .ff), (7, .und)], heap := [(0, .ro Kd.int y_1.l)], nx := 3, nt := 47, tl := [0, 1, 2, 3, 4, 5, 6, 7, 8, 9, 10, 11, 12] : St V })))))) (Out.stop (EX.ex 0) {env := [(0, .sl false 0 0 1 p.l.length p.2), (1, .int .i64 (↑p.3 : Int)), (2, .int .i64 (↑p.4 : Int)), (6, .und), (7, .int .i64 (↑fr : Int))], heap := [(0, .ro Kd.int p.l)], nx := 3, nt := 47, tl := [0, 1, 2, 3, 4, 5, 6, 7, 8, 9, 10, 11, 12] : St V }) := by kernel_rfl

theorem t25 (l : List Int) (c : Nat) (n w : Int) : runF cfgFr0 60 25 Tryz.f25 [.sl false 0 0 1 l.length c, .int .i64 n, .int .i64 w] [(0, .ro Kd.int l)] 3 = Out.ite (decide (n < 1)) (Out.fin .tt [(0, .ro Kd.int l)] 3) (Out.ite (decide (w < 1)) (Out.fin .ff [(0, .ro Kd.int l)] 3) (Out.need (LoopFor Tryz.prog 25 0 (loopOf Tryz.f25 0) LF0) (Out.ex (FrP → Prop) fun y => Out.need (3 ≤ 3 ∧ SImp 3 {env := [(0, .sl false 0 0 1 l.length c), (1, .int .i64 n), (2, .int .i64 w), (7, .lit .i64 0)], heap := [(0, .ro Kd.int l)], nx := 3, nt := 47, tl := [] : St V } FI0Z y) (Out.all FrP fun y_1 => Out.asm (y y_1) ((Out.all Nat fun y => Out.asm (FC0 y_1 y) (Out.fin .tt [(0, .ro Kd.int y_1.l)] 3)).both (Out.all Unit fun y => Out.asm (FC0r y_1 y) (Out.fin .ff [(0, .ro Kd.int y_1.l)] 3))))))) := by kernel_rfl

theorem b16 (p : WtP) (w : Nat) : runCode cfgWt 60 16 (loopOf Tryz.f16 0) (WI16 p w) (stopT (trimSt [0, 1, 5] [0])) = Out.ite (decide ((↑w : Int) ≤ (↑p.l.length : Int))) (Out.need (0 + p.l.length ≤ p.l.length) (Out.need (1 ≤ (↑p.3 : Int) ∧ (↑p.3 : Int) ≤ 1099511627776 ∧ 1 ≤ (↑w : Int) ∧ (↑w : Int) ≤ 1099511627776 ∧ (List.take p.l.length (List.drop 0 p.l)).length ≤ 1099511627776) (Out.all Bool fun y => Out.asm (y = true ↔ FairP (List.take p.l.length (List.drop 0 p.l)) (↑p.3 : Int) w) (Out.ite (!y) (Out.stop EX.nx {env := [(0, .sl false 0 0 1 p.l.length p.2), (1, .int .i64 (↑p.3 : Int)), (5, .int .i64 (IntKind.i64.wrap ((↑w : Int) + 1)))], heap := [(0, .ro Kd.int p.l)], nx := 2, nt := 22, tl := [0, 1, 2, 3, 4, 5, 6, 7, 8, 9, 10, 11, 12] : St V }) (Out.stop (EX.ex 0) {env := [(0, .sl false 0 0 1 p.l.length p.2), (1, .int .i64 (↑p.3 : Int)), (5, .int .i64 (↑w : Int))], heap := [(0, .ro Kd.int p.l)], nx := 2, nt := 22, tl := [0, 1, 2, 3, 4, 5, 6, 7, 8, 9, 10, 11, 12] : St V }))))) (Out.stop (EX.ex 0) {env := [(0, .sl false 0 0 1 p.l.length p.2), (1, .int .i64 (↑p.3 : Int)), (5, .int .i64 (↑w : Int))], heap := [(0, .ro Kd.int p.l)], nx := 2, nt := 22, tl := [0, 1, 2, 3, 4, 5, 6, 7, 8, 9, 10, 11, 12] : St V }) := by kernel_rfl

theorem t16 (l : List Int) (c : Nat) (n : Int) : runF cfgWt1 60 16 Tryz.f16 [.sl false 0 0 1 l.length c, .int .i64 n] [(0, .ro Kd.int l)] 2 = Out.ite (decide (n < 1)) (Out.fin (.lit .i64 0) [(0, .ro Kd.int l)] 2) (Out.need (LoopFor Tryz.prog 16 0 (loopOf Tryz.f16 0) LW16) (Out.ex (WtP → Prop) fun y => Out.need (2 ≤ 2 ∧ SImp 2 {env := [(0, .sl false 0 0 1 l.length c), (1, .int .i64 n), (5, .lit .i64 1)], heap := [(0, .ro Kd.int l)], nx := 2, nt := 22, tl := [] : St V } WZ16 y) (Out.all WtP fun y_1 => Out.asm (y y_1) (Out.all Nat fun y => Out.asm (WC16 y_1 y) (Out.fin (.int .i64 (↑y : Int)) [(0, .ro Kd.int y_1.l)] 2))))) := by kernel_rfl

end Sx
end Go.Proofs.YtmcmdghmglopnaaGreatDoor

/-
  The document's turns: for all callers.
-/
namespace Go.Proofs.YtmcmdghmglopnaaGreatDoor
namespace Sx
open Go
set_option linter.unusedSimpArgs false
set_option linter.unusedVariables false

theorem cfgG_ok : cfgG.ok := ⟨tab_met, kinds_met, mixed_met, fun g fn h => (by cases h), fun g H h => (by cases h)⟩
theorem cfgG1_ok : cfgG1.ok := ⟨tab_met, kinds_met, mixed_met, fun g fn h => (by cases h), fun g H h => (by cases h)⟩
theorem cfgG2_ok : cfgG2.ok := ⟨tab_met, kinds_met, mixed_met, fun g fn h => (by cases h), fun g H h => (by cases h)⟩

theorem mod_two {a n : Int} (h0 : 0 ≤ a) (h : a < 2 * n) : a % n = if a < n then a else a - n := by
  split
  · exact Int.emod_eq_of_lt h0 (by omega)
  · rw [← Int.sub_emod_right, Int.emod_eq_of_lt (by omega) (by omega)]
theorem atk_range {n t : Int} {k : Nat} (hn : 1 ≤ n) : 0 ≤ atk n t k ∧ atk n t k < n :=
  ⟨Int.emod_nonneg _ (by omega), Int.emod_lt_of_pos _ (by omega)⟩
theorem atk_is {n t : Int} {k : Nat} (hn : 1 ≤ n) (hk : (k : Int) ≤ n) : atk n t k = if t % n + (if t % 2 = 0 then (k : Int) else n - k) < n then t % n + (if t % 2 = 0 then (k : Int) else n - k) else t % n + (if t % 2 = 0 then (k : Int) else n - k) - n := by
  have ha := Int.emod_nonneg t (show n ≠ 0 by omega)
  have hb := Int.emod_lt_of_pos t (show 0 < n by omega)
  unfold atk
  exact mod_two (by split <;> omega) (by split <;> omega)
theorem atk_next {n : Nat} {t : Int} {k : Nat} (hn : 1 ≤ n ∧ n ≤ 64) (hk : k < n) : (IntKind.i64.wrap (atk n t k + stepOf n t)).tmod n = atk n t (k + 1) := by
  have ha := Int.emod_nonneg t (show (n : Int) ≠ 0 by omega)
  have hb := Int.emod_lt_of_pos t (show 0 < (n : Int) by omega)
  have h1 := atk_is (n := n) (t := t) (k := k) (by omega) (by omega)
  have h2 := atk_is (n := n) (t := t) (k := k + 1) (by omega) (by omega)
  have h3 := atk_range (n := n) (t := t) (k := k) (by omega)
  have hs : stepOf n t = if t % 2 = 0 then 1 else (n : Int) - 1 := rfl
  generalize atk n t k = v at h1 h3
  generalize t % (n : Int) = f at ha hb h1 h2
  have hr : 0 ≤ v + stepOf n t ∧ v + stepOf n t < 2 * n := by rw [hs]; split <;> omega
  rw [wrap_low (by omega) (by omega), Int.tmod_eq_emod_of_nonneg hr.1, mod_two hr.1 hr.2, h2, h1, hs]
  by_cases he : t % 2 = 0
  · simp only [if_pos he]; split <;> split <;> omega
  · simp only [if_neg he]; split <;> split <;> omega
theorem tmod_pos {t n : Int} (hn : 1 ≤ n) (h : ¬ t.tmod n < 0) : t.tmod n = t % n := by
  have h1 := Int.emod_nonneg t (show n ≠ 0 by omega)
  rw [Int.tmod_eq_emod] at h ⊢
  split at h
  · rename_i c; rw [if_pos c]; omega
  · have := Int.emod_lt_of_pos t (show 0 < n by omega); omega
theorem tmod_neg {t n : Int} (hn : 1 ≤ n) (h : t.tmod n < 0) : t.tmod n + n = t % n := by
  have h1 := Int.emod_nonneg t (show n ≠ 0 by omega)
  rw [Int.tmod_eq_emod] at h ⊢
  split at h
  · omega
  · rename_i c; rw [if_neg c]; omega
theorem atk_zero {n t : Int} (hn : 1 ≤ n) : atk n t 0 = t % n := by
  have ha := Int.emod_nonneg t (show n ≠ 0 by omega)
  have hb := Int.emod_lt_of_pos t (show 0 < n by omega)
  rw [atk_is hn (by omega)]
  split <;> split at * <;> simp_all <;> omega
theorem step_odd {n : Nat} {t : Int} (hn : 1 ≤ n ∧ n ≤ 64) (h : (t.tmod 2 != 0) = true) : IntKind.i64.wrap ((n : Int) - 1) = stepOf n t := by
  have : ¬ t % 2 = 0 := by
    simp only [bne_iff_ne, ne_eq] at h
    intro e; apply h
    rw [Int.tmod_eq_emod]; split <;> rename_i c <;> omega
  unfold stepOf
  rw [if_neg this, wrap_low (by omega) (by omega)]
theorem step_even {n : Nat} {t : Int} (h : (t.tmod 2 != 0) = false) : (1 : Int) = stepOf n t := by
  have : t % 2 = 0 := by
    simp only [bne_eq_false_iff_eq] at h
    rw [Int.tmod_eq_emod] at h; split at h <;> omega
  unfold stepOf
  rw [if_pos this]
theorem outK_succ (p : T3) (k : Nat) : outK p (k + 1) = outK p k ++ [atk p.n p.t k] := by
  unfold outK; rw [List.range_succ, List.map_append, List.append_assoc]; rfl
theorem outK_len (p : T3) (k : Nat) : (outK p k).length = p.out.length + k := by unfold outK; simp
theorem outK_all (p : T3) : outK p p.n = p.out ++ turnI p.n p.t := by
  unfold outK turnI atk; rw [Int.toNat_natCast]
theorem arrE {xs ys : List Int} {s t : Nat} (h : xs = ys) (k : s = t) : BSub (some (.arr 3 Kd.int xs s : Blk V)) (.arr 3 Kd.int ys t) := by rw [h, k]; exact .same _

theorem lina_ok : LoopOk Tryz.prog 2 (loopOf Tryz.f12 2) LInA := by
  refine trimLoop_ok (trim_ok _ _) (loopTH_ok (C := cfgG) cfgG_ok (f := 12) (n := 60) (trim_ok [0, 1, 5, 6, 7, 8, 9] [0, 1, 2, 3, 4, 5, 6, 7, 8]) 4 InA (fun p x => x.1 ≤ p.n) (fun p => (0, p.sp0)) (fun p x => p.n - x.1) InC InAE (fun p => Nat.zero_le _) ?_)
  intro p x hi
  rw [bia]
  have hn := p.hn
  have ho := p.hout
  have hl := outK_len p x.1
  simp only [Out.holds, decide_eq_true_eq, decide_eq_false_iff_not]
  by_cases hlt : x.1 < p.n
  · have hw : IntKind.wrap .i64 ((x.1 : Int) + 1) = ((x.1 + 1 : Nat) : Int) := wrap_nat (by omega)
    refine ⟨fun _ => ⟨trivial, ⟨trivial, trivial, by omega⟩, fun y => ⟨by omega, ?_⟩⟩, fun h => absurd hlt (by omega)⟩
    refine SImp.of_wk (ren := [(4, 6)]) (x.1 + 1, y) ?_ ⟨hlt, ?_⟩
    · have e := outK_succ p x.1
      have el : (outK p x.1).length + 1 = (outK p (x.1 + 1)).length := by rw [e]; simp
      exact ⟨⟨AV.sub_same _, AV.sub_same _, AV.sub_sl el (by rw [el]), AV.sub_same _, AV.sub_int (atk_next hn hlt), AV.sub_same _, AV.sub_int hw, trivial⟩, ⟨arrE e.symm rfl, .same _, trivial⟩, rfl, tl_ok rfl, ⟨.inl (in_ok rfl), .inl (in_ok rfl), .inr rfl, trivial⟩, ⟨Nat.le_of_ble_eq_true rfl, rfl⟩⟩
    · show p.n - (x.1 + 1) < p.n - x.1; omega
  · refine ⟨fun h => absurd h (by omega), fun _ => ⟨trivial, ?_⟩⟩
    obtain ⟨i, sp⟩ := x
    have he : i = p.n := by simp only at hi hlt; omega
    subst he
    refine SImp.of_wk (ren := [(4, 4)]) sp ?_ trivial
    exact ⟨⟨AV.sub_same _, AV.sub_same _, AV.sub_same _, AV.sub_same _, AV.sub_same _, AV.sub_same _, AV.sub_same _, trivial⟩, ⟨.same _, .same _, trivial⟩, rfl, tl_ok rfl, ⟨.inl (in_ok rfl), .inr rfl, trivial⟩, ⟨Nat.le_of_ble_eq_true rfl, rfl⟩⟩
theorem linb_ok : LoopOk Tryz.prog 2 (loopOf Tryz.f12 2) LInB := by
  refine trimLoop_ok (trim_ok _ _) (loopTH_ok (C := cfgG) cfgG_ok (f := 12) (n := 60) (trim_ok [0, 1, 5, 6, 7, 8, 9] [0, 1, 2, 3, 4, 5, 6, 7, 8]) 4 InB (fun p x => x.1 ≤ p.n) (fun p => (0, p.sp0)) (fun p x => p.n - x.1) InC InBE (fun p => Nat.zero_le _) ?_)
  intro p x hi
  rw [bib]
  have hn := p.hn
  have ho := p.hout
  have hl := outK_len p x.1
  simp only [Out.holds, decide_eq_true_eq, decide_eq_false_iff_not]
  by_cases hlt : x.1 < p.n
  · have hw : IntKind.wrap .i64 ((x.1 : Int) + 1) = ((x.1 + 1 : Nat) : Int) := wrap_nat (by omega)
    refine ⟨fun _ => ⟨trivial, ⟨trivial, trivial, by omega⟩, fun y => ⟨by omega, ?_⟩⟩, fun h => absurd hlt (by omega)⟩
    refine SImp.of_wk (ren := [(4, 6)]) (x.1 + 1, y) ?_ ⟨hlt, ?_⟩
    · have e := outK_succ p x.1
      have el : (outK p x.1).length + 1 = (outK p (x.1 + 1)).length := by rw [e]; simp
      exact ⟨⟨AV.sub_same _, AV.sub_same _, AV.sub_sl el (by rw [el]), AV.sub_same _, AV.sub_int (atk_next hn hlt), AV.sub_same _, AV.sub_int hw, trivial⟩, ⟨arrE e.symm rfl, .same _, trivial⟩, rfl, tl_ok rfl, ⟨.inl (in_ok rfl), .inl (in_ok rfl), .inr rfl, trivial⟩, ⟨Nat.le_of_ble_eq_true rfl, rfl⟩⟩
    · show p.n - (x.1 + 1) < p.n - x.1; omega
  · refine ⟨fun h => absurd h (by omega), fun _ => ⟨trivial, ?_⟩⟩
    obtain ⟨i, sp⟩ := x
    have he : i = p.n := by simp only at hi hlt; omega
    subst he
    refine SImp.of_wk (ren := [(4, 4)]) sp ?_ trivial
    exact ⟨⟨AV.sub_same _, AV.sub_same _, AV.sub_same _, AV.sub_same _, AV.sub_same _, AV.sub_same _, AV.sub_same _, trivial⟩, ⟨.same _, .same _, trivial⟩, rfl, tl_ok rfl, ⟨.inl (in_ok rfl), .inr rfl, trivial⟩, ⟨Nat.le_of_ble_eq_true rfl, rfl⟩⟩
theorem lin_ok : LoopOk Tryz.prog 2 (loopOf Tryz.f12 2) LIn := by
  intro M s K H
  unfold LIn at H
  cases h : isA s with
  | true => rw [h] at H; exact lina_ok M s K H
  | false => rw [h] at H; exact linb_ok M s K H
theorem flat_len {n : Nat} (hn : 1 ≤ n ∧ n ≤ 64) {l : List Int} {i : Nat} (hi : i ≤ l.length) (hl : l.length ≤ 4096) : ((l.take i).flatMap (turnI n)).length ≤ 262144 := by
  have key : ∀ m : List Int, (m.flatMap (turnI n)).length = m.length * n := by
    intro m
    induction m with
    | nil => simp
    | cons a m ih => rw [List.flatMap_cons, List.length_append, ih, turnI_length, Int.toNat_natCast, List.length_cons, Nat.add_mul]; omega
  rw [key, List.length_take]
  exact Nat.le_trans (Nat.mul_le_mul (show min i l.length ≤ 4096 by omega) hn.2) (by omega)
def p3 (p : T2) (x : Nat × List Int × Nat) (h : x.2.1.length ≤ 262144) : T3 := ⟨p, x.1, p.l.getD (0 + x.1) 0, x.2.1, x.2.2, h⟩

theorem inA (p : T2) (x : Nat × List Int × Nat) (h : x.2.1.length ≤ 262144) (a1 a2 : AV) (h1 : a1.sub (.int .i64 (atk p.n (p.l.getD (0 + x.1) 0) 0))) (h2 : a2.sub (.int .i64 (stepOf p.n (p.l.getD (0 + x.1) 0)))) :
    SImp 4 (⟨[(0, .int .i64 (p.n : Int)), (1, .sl false 1 0 1 p.l.length p.c), (5, .sl false 3 0 1 x.2.1.length (x.2.1.length + x.2.2)), (6, .int .i64 (x.1 : Int)), (7, a1), (8, a2), (9, .lit .i64 0)], [(3, .arr 3 Kd.int x.2.1 x.2.2), (1, .ro Kd.int p.l)], 4, 65, TG⟩ : St V) InAZ (fun q => q = p3 p x h) := by
  refine SImp.of_wk (ren := [(4, 3)]) (p3 p x h) ?_ rfl
  have e : outK (p3 p x h) 0 = x.2.1 := by unfold outK p3; simp
  exact ⟨⟨AV.sub_same _, AV.sub_same _, AV.sub_sl (by rw [e]) (by rw [e]; rfl), AV.sub_same _, h1, h2, AV.sub_lit', trivial⟩, ⟨arrE e.symm rfl, .same _, trivial⟩, rfl, tl_ok rfl, ⟨.inl (in_ok rfl), .inr rfl, trivial⟩, ⟨Nat.le_of_ble_eq_true rfl, rfl⟩⟩
theorem nxA (p : T2) (x : Nat × List Int × Nat) (h : x.2.1.length ≤ 262144) (y : Nat) (hi : x.1 < p.l.length) (hx : x.2.1 = (p.l.take x.1).flatMap (turnI p.n)) :
    SImp 3 (⟨[(0, .int .i64 (p.n : Int)), (1, .sl false 1 0 1 p.l.length p.c), (5, .sl false 4 0 1 (outK (p3 p x h) p.n).length ((outK (p3 p x h) p.n).length + y)), (6, .int .i64 (IntKind.i64.wrap ((x.1 : Int) + 1)))], [(4, .arr 3 Kd.int (outK (p3 p x h) p.n) y), (1, .ro Kd.int p.l)], 5, 65, TG⟩ : St V) (OutA p) (fun z => (z.1 ≤ p.l.length ∧ z.2.1 = (p.l.take z.1).flatMap (turnI p.n)) ∧ p.l.length - z.1 < p.l.length - x.1) := by
  have hw : IntKind.wrap .i64 ((x.1 : Int) + 1) = ((x.1 + 1 : Nat) : Int) := wrap_nat (by have := p.hl; omega)
  refine SImp.of_wk (ren := [(3, 4)]) (x.1 + 1, outK (p3 p x h) p.n, y) ?_ ⟨⟨hi, ?_⟩, ?_⟩
  · exact ⟨⟨AV.sub_same _, AV.sub_same _, AV.sub_same _, AV.sub_int hw, trivial⟩, ⟨.same _, .same _, trivial⟩, rfl, tl_ok rfl, ⟨.inl (in_ok rfl), .inr rfl, trivial⟩, ⟨Nat.le_of_ble_eq_true rfl, rfl⟩⟩
  · show outK (p3 p x h) (p3 p x h).n = _
    rw [outK_all, List.take_succ_eq_append_getElem hi, List.flatMap_append]
    show x.2.1 ++ turnI p.n (p.l.getD (0 + x.1) 0) = _
    rw [hx, Nat.zero_add, List.getD_eq_getElem?_getD, List.getElem?_eq_getElem hi]
    simp
  · show p.l.length - (x.1 + 1) < p.l.length - x.1; omega
theorem louta_ok : LoopOk Tryz.prog 0 (loopOf Tryz.f12 0) LOutA := by
  refine trimLoop_ok (trim_ok _ _) (loopTH_ok (C := cfgG1) cfgG1_ok (f := 12) (n := 60) (trim_ok [0, 1, 5, 6] [0, 1, 2, 3, 4, 5, 6, 7, 8]) 3 OutA (fun p x => x.1 ≤ p.l.length ∧ x.2.1 = (p.l.take x.1).flatMap (turnI p.n)) (fun p => (0, [], 0)) (fun p x => p.l.length - x.1) OutC OutAE (fun p => ⟨Nat.zero_le _, rfl⟩) ?_)
  intro p x ⟨hi, hx⟩
  rw [boa]
  have hn := p.hn
  have hl := p.hl
  have ho : x.2.1.length ≤ 262144 := by rw [hx]; exact flat_len hn hi hl
  simp only [Out.holds, decide_eq_true_eq, decide_eq_false_iff_not]
  rw [show (V.enc Kd.int).dflt = (0 : Int) from rfl]
  by_cases hlt : x.1 < p.l.length
  · have hw : ∀ {a : Int}, 0 ≤ a → a < 64 → IntKind.i64.wrap a = a := fun h0 h => wrap_low (by omega) (by omega)
    have hr := Int.lt_tmod_of_pos (p.l.getD (0 + x.1) 0) (show 0 < (p.n : Int) by omega)
    refine ⟨fun _ => ⟨by omega, by omega, by omega, fun hneg => ⟨by omega, by omega, fun ho1 => ?_, fun ho1 => ?_⟩, fun hneg => ⟨by omega, by omega, fun ho1 => ?_, fun ho1 => ?_⟩⟩, fun h => absurd hlt (by omega)⟩
    all_goals refine ⟨lin_ok, fun q => q = p3 p x ho, ⟨Nat.le_refl _, inA p x ho _ _ ?_ ?_⟩, ?_⟩
    all_goals first
      | (rintro _ rfl y _; exact nxA p x ho y hlt hx)
      | exact AV.sub_int (step_odd hn ho1)
      | exact AV.sub_lit (step_even ho1)
      | exact AV.sub_int (by rw [atk_zero (by omega), ← tmod_neg (by omega) hneg]; exact wrap_low (by omega) (by omega))
      | exact AV.sub_int (by rw [atk_zero (by omega), ← tmod_pos (by omega) hneg])
  · refine ⟨fun h => absurd h (by omega), fun _ => ⟨trivial, ?_⟩⟩
    obtain ⟨i, out, sp⟩ := x
    have he : i = p.l.length := by simp only at hi hlt; omega
    subst he
    refine SImp.of_wk (ren := [(3, 3)]) (out, sp) ?_ ?_
    · exact ⟨⟨AV.sub_same _, AV.sub_same _, AV.sub_same _, AV.sub_same _, trivial⟩, ⟨.same _, .same _, trivial⟩, rfl, tl_ok rfl, ⟨.inl (in_ok rfl), .inr rfl, trivial⟩, ⟨Nat.le_of_ble_eq_true rfl, rfl⟩⟩
    · show out = p.l.flatMap (turnI p.n)
      rw [List.take_of_length_le (Nat.le_refl _)] at hx; exact hx

theorem inB (p : T2) (x : Nat × List Int × Nat) (h : x.2.1.length ≤ 262144) (a1 a2 : AV) (h1 : a1.sub (.int .i64 (atk p.n (p.l.getD (0 + x.1) 0) 0))) (h2 : a2.sub (.int .i64 (stepOf p.n (p.l.getD (0 + x.1) 0)))) :
    SImp 4 (⟨[(0, .int .i64 (p.n : Int)), (1, .sl false 2 0 1 p.l.length p.c), (5, .sl false 3 0 1 x.2.1.length (x.2.1.length + x.2.2)), (6, .int .i64 (x.1 : Int)), (7, a1), (8, a2), (9, .lit .i64 0)], [(3, .arr 3 Kd.int x.2.1 x.2.2), (2, .arr 3 Kd.int p.l 0)], 4, 65, TG⟩ : St V) InBZ (fun q => q = p3 p x h) := by
  refine SImp.of_wk (ren := [(4, 3)]) (p3 p x h) ?_ rfl
  have e : outK (p3 p x h) 0 = x.2.1 := by unfold outK p3; simp
  exact ⟨⟨AV.sub_same _, AV.sub_same _, AV.sub_sl (by rw [e]) (by rw [e]; rfl), AV.sub_same _, h1, h2, AV.sub_lit', trivial⟩, ⟨arrE e.symm rfl, .same _, trivial⟩, rfl, tl_ok rfl, ⟨.inl (in_ok rfl), .inr rfl, trivial⟩, ⟨Nat.le_of_ble_eq_true rfl, rfl⟩⟩
theorem nxB (p : T2) (x : Nat × List Int × Nat) (h : x.2.1.length ≤ 262144) (y : Nat) (hi : x.1 < p.l.length) (hx : x.2.1 = (p.l.take x.1).flatMap (turnI p.n)) :
    SImp 3 (⟨[(0, .int .i64 (p.n : Int)), (1, .sl false 2 0 1 p.l.length p.c), (5, .sl false 4 0 1 (outK (p3 p x h) p.n).length ((outK (p3 p x h) p.n).length + y)), (6, .int .i64 (IntKind.i64.wrap ((x.1 : Int) + 1)))], [(4, .arr 3 Kd.int (outK (p3 p x h) p.n) y), (2, .arr 3 Kd.int p.l 0)], 5, 65, TG⟩ : St V) (OutB p) (fun z => (z.1 ≤ p.l.length ∧ z.2.1 = (p.l.take z.1).flatMap (turnI p.n)) ∧ p.l.length - z.1 < p.l.length - x.1) := by
  have hw : IntKind.wrap .i64 ((x.1 : Int) + 1) = ((x.1 + 1 : Nat) : Int) := wrap_nat (by have := p.hl; omega)
  refine SImp.of_wk (ren := [(3, 4)]) (x.1 + 1, outK (p3 p x h) p.n, y) ?_ ⟨⟨hi, ?_⟩, ?_⟩
  · exact ⟨⟨AV.sub_same _, AV.sub_same _, AV.sub_same _, AV.sub_int hw, trivial⟩, ⟨.same _, .same _, trivial⟩, rfl, tl_ok rfl, ⟨.inl (in_ok rfl), .inr rfl, trivial⟩, ⟨Nat.le_of_ble_eq_true rfl, rfl⟩⟩
  · show outK (p3 p x h) (p3 p x h).n = _
    rw [outK_all, List.take_succ_eq_append_getElem hi, List.flatMap_append]
    show x.2.1 ++ turnI p.n (p.l.getD (0 + x.1) 0) = _
    rw [hx, Nat.zero_add, List.getD_eq_getElem?_getD, List.getElem?_eq_getElem hi]
    simp
  · show p.l.length - (x.1 + 1) < p.l.length - x.1; omega
theorem loutb_ok : LoopOk Tryz.prog 0 (loopOf Tryz.f12 0) LOutB := by
  refine trimLoop_ok (trim_ok _ _) (loopTH_ok (C := cfgG1) cfgG1_ok (f := 12) (n := 60) (trim_ok [0, 1, 5, 6] [0, 1, 2, 3, 4, 5, 6, 7, 8]) 3 OutB (fun p x => x.1 ≤ p.l.length ∧ x.2.1 = (p.l.take x.1).flatMap (turnI p.n)) (fun p => (0, [], 0)) (fun p x => p.l.length - x.1) OutC OutBE (fun p => ⟨Nat.zero_le _, rfl⟩) ?_)
  intro p x ⟨hi, hx⟩
  rw [bob]
  have hn := p.hn
  have hl := p.hl
  have ho : x.2.1.length ≤ 262144 := by rw [hx]; exact flat_len hn hi hl
  simp only [Out.holds, decide_eq_true_eq, decide_eq_false_iff_not]
  rw [show (V.enc Kd.int).dflt = (0 : Int) from rfl]
  by_cases hlt : x.1 < p.l.length
  · have hw : ∀ {a : Int}, 0 ≤ a → a < 64 → IntKind.i64.wrap a = a := fun h0 h => wrap_low (by omega) (by omega)
    have hr := Int.lt_tmod_of_pos (p.l.getD (0 + x.1) 0) (show 0 < (p.n : Int) by omega)
    refine ⟨fun _ => ⟨by omega, by omega, by omega, fun hneg => ⟨by omega, by omega, fun ho1 => ?_, fun ho1 => ?_⟩, fun hneg => ⟨by omega, by omega, fun ho1 => ?_, fun ho1 => ?_⟩⟩, fun h => absurd hlt (by omega)⟩
    all_goals refine ⟨lin_ok, fun q => q = p3 p x ho, ⟨Nat.le_refl _, inB p x ho _ _ ?_ ?_⟩, ?_⟩
    all_goals first
      | (rintro _ rfl y _; exact nxB p x ho y hlt hx)
      | exact AV.sub_int (step_odd hn ho1)
      | exact AV.sub_lit (step_even ho1)
      | exact AV.sub_int (by rw [atk_zero (by omega), ← tmod_neg (by omega) hneg]; exact wrap_low (by omega) (by omega))
      | exact AV.sub_int (by rw [atk_zero (by omega), ← tmod_pos (by omega) hneg])
  · refine ⟨fun h => absurd h (by omega), fun _ => ⟨trivial, ?_⟩⟩
    obtain ⟨i, out, sp⟩ := x
    have he : i = p.l.length := by simp only at hi hlt; omega
    subst he
    refine SImp.of_wk (ren := [(3, 3)]) (out, sp) ?_ ?_
    · exact ⟨⟨AV.sub_same _, AV.sub_same _, AV.sub_same _, AV.sub_same _, trivial⟩, ⟨.same _, .same _, trivial⟩, rfl, tl_ok rfl, ⟨.inl (in_ok rfl), .inr rfl, trivial⟩, ⟨Nat.le_of_ble_eq_true rfl, rfl⟩⟩
    · show out = p.l.flatMap (turnI p.n)
      rw [List.take_of_length_le (Nat.le_refl _)] at hx; exact hx

theorem lout_ok : LoopOk Tryz.prog 0 (loopOf Tryz.f12 0) LOut := by
  intro M s K H
  unfold LOut at H
  cases h : isA s with
  | true => rw [h] at H; exact louta_ok M s K H
  | false => rw [h] at H; exact loutb_ok M s K H
theorem rowsZ : BSub (some (.cells 3 [AV.lit .i64 0] : Blk V)) (.arr 3 Kd.int [(0 : Int)] 0) := BSub.rows (U := V) 3 Kd.int [AV.lit .i64 0] [(0 : Int)] 1 (by kernel_rfl) (by decide)
/-- The document's turns, for all callers. -/
def runTurns2 : RunFree V := fun ar K => match ar with
  | [.int .i64 n, .rows .int l c] => .ite (decide (1 ≤ n) && decide (n ≤ 64) && Nat.ble l.length 4096) (.all Nat fun sp => K (.sl false 0 0 1 (turnsI n l).length ((turnsI n l).length + sp)) [.arr 3 Kd.int (turnsI n l) sp]) (K .nilS [])
  | _ => .bad 520
theorem hTurns2 : HookOk Tryz.prog 12 (hookFree [.int .i64, .rows Kd.int] runTurns2) := by
  refine free_hook (C := cfgG2) cfgG2_ok (n := 60) (fn := Tryz.f12) ⟨by kernel_rfl, by kernel_rfl⟩ (by kernel_rfl) ?_
  intro M ar K0 H
  unfold runTurns2 at H
  split at H
  · rename_i n l c
    refine ⟨show 2 ≤ _ by decide +kernel, ?_⟩
    show (runF cfgG2 60 12 Tryz.f12 [.int .i64 n, .sl false 1 0 1 l.length c] [(1, .ro Kd.int l)] 2).holds _
    rw [t12]
    simp only [Out.holds, decide_eq_true_eq, decide_eq_false_iff_not] at H ⊢
    refine ⟨fun h => ?_, fun h1 => ⟨fun h => ?_, fun h2 => ⟨fun h => ?_, fun h3 => ⟨fun h4 => ?_, fun h4 => ?_⟩⟩⟩⟩
    · exact ⟨_, _, H.2 (by rw [Bool.eq_false_iff]; simp only [ne_eq, Bool.and_eq_true, decide_eq_true_eq]; omega), endPlain (AV.sub_same _) rfl⟩
    · exact ⟨_, _, H.2 (by rw [Bool.eq_false_iff]; simp only [ne_eq, Bool.and_eq_true, decide_eq_true_eq]; omega), endPlain (AV.sub_same _) rfl⟩
    · exact ⟨_, _, H.2 (by rw [Bool.eq_false_iff]; simp only [ne_eq, Bool.and_eq_true, decide_eq_true_eq, Nat.ble_eq]; omega), endPlain (AV.sub_same _) rfl⟩
    · have H := H.1 (by simp only [Bool.and_eq_true, decide_eq_true_eq, Nat.ble_eq]; omega)
      have hz : l = [] := by
        have h4 : (l.length : Int) = 0 := by simpa using h4
        exact List.eq_nil_of_length_eq_zero (by omega)
      refine ⟨lout_ok, fun q => q = ⟨true, n.toNat, by omega, [0], 1, by decide⟩, ⟨Nat.le_refl _, SImp.of_wk (ren := [(3, 99)]) ⟨true, n.toNat, by omega, [0], 1, by decide⟩ ?_ rfl⟩, ?_⟩
      · exact ⟨⟨AV.sub_int (show n = ((n.toNat : Nat) : Int) by omega), AV.sub_sl rfl rfl, AV.sub_nilS, AV.sub_lit', trivial⟩, ⟨.none _ _, rowsZ, trivial⟩, rfl, tl_ok rfl, ⟨.inl (in_ok rfl), .inl (in_ok rfl), trivial⟩, ⟨Nat.le_of_ble_eq_true rfl, rfl⟩⟩
      · rintro _ rfl ⟨out, sp⟩ hy
        have hy : out = [(0 : Int)].flatMap (turnI (n.toNat : Int)) := hy
        have e : out = turnsI n l := by rw [hy, hz]; unfold turnsI; rw [if_pos rfl, show (n.toNat : Int) = n by omega]
        refine ⟨_, _, H sp, _, HImp.refl _ _, ⟨⟨fun _ => 3, ⟨arrE e rfl, trivial⟩, AV.sub_sl ?_ ?_⟩, rfl, rfl⟩⟩ <;> simp only [e]
    · have H := H.1 (by simp only [Bool.and_eq_true, decide_eq_true_eq, Nat.ble_eq]; omega)
      have hz : l ≠ [] := by rintro rfl; simp at h4
      refine ⟨lout_ok, fun q => q = ⟨true, n.toNat, by omega, l, c, by omega⟩, ⟨by omega, SImp.of_wk (ren := [(3, 99)]) ⟨true, n.toNat, by omega, l, c, by omega⟩ ?_ rfl⟩, ?_⟩
      · exact ⟨⟨AV.sub_int (show n = ((n.toNat : Nat) : Int) by omega), AV.sub_same _, AV.sub_nilS, AV.sub_lit', trivial⟩, ⟨.none _ _, .same _, trivial⟩, rfl, tl_ok rfl, ⟨.inr rfl, trivial⟩, ⟨Nat.le_of_ble_eq_true rfl, rfl⟩⟩
      · rintro _ rfl ⟨out, sp⟩ hy
        have hy : out = l.flatMap (turnI (n.toNat : Int)) := hy
        have e : out = turnsI n l := by rw [hy]; unfold turnsI; rw [if_neg hz, show (n.toNat : Int) = n by omega]
        refine ⟨_, _, H sp, _, HImp.refl _ _, ⟨⟨fun _ => 3, ⟨arrE e rfl, trivial⟩, AV.sub_sl ?_ ?_⟩, rfl, rfl⟩⟩ <;> simp only [e]
  · exact H.elim
end Sx
end Go.Proofs.YtmcmdghmglopnaaGreatDoor

/-
  How long picks wait, of the document: for all callers.
-/
namespace Go.Proofs.YtmcmdghmglopnaaGreatDoor
namespace Sx
open Go
set_option linter.unusedSimpArgs false
set_option linter.unusedVariables false

theorem cfgFr2_ok : cfgFr2.ok := ⟨tab_met, kinds_met, mixed_met, fun g fn h => (by cases h), fun g H h => (by cases h)⟩
theorem cfgFr1_ok : cfgFr1.ok := ⟨tab_met, kinds_met, mixed_met, fun g fn h => (by cases h), fun g H h => (by cases h)⟩
theorem cfgFr0_ok : cfgFr0.ok := ⟨tab_met, kinds_met, mixed_met, fun g fn h => (by cases h), fun g H h => (by cases h)⟩

theorem anyIn_succ {l : List Int} {t : Int} {fr k : Nat} (h : fr + k < l.length) : anyIn l t fr (k + 1) = (anyIn l t fr k || (l.getD (fr + k) 0 == t)) := by
  unfold anyIn
  have hk : k < (l.drop fr).length := by rw [List.length_drop]; omega
  rw [List.take_succ_eq_append_getElem hk, List.any_append, List.getElem_drop, List.getD_eq_getElem?_getD, List.getElem?_eq_getElem h]
  simp
theorem anyIn_iff {l : List Int} {t : Int} {fr w : Nat} : anyIn l t fr w = true ↔ ∃ i, fr ≤ i ∧ i < fr + w ∧ l[i]? = some t := by
  unfold anyIn
  rw [List.any_eq_true]
  constructor
  · rintro ⟨x, hx, he⟩
    obtain ⟨j, hj⟩ := List.mem_iff_getElem?.1 hx
    have hjl := (List.getElem?_eq_some_iff.1 hj).1
    rw [List.length_take, List.length_drop] at hjl
    rw [List.getElem?_take_of_lt (by omega), List.getElem?_drop] at hj
    have : x = t := by simpa using he
    exact ⟨fr + j, by omega, by omega, by rw [hj, this]⟩
  · rintro ⟨i, h1, h2, h3⟩
    refine ⟨t, List.mem_iff_getElem?.2 ⟨i - fr, ?_⟩, by simp⟩
    rw [List.getElem?_take_of_lt (by omega), List.getElem?_drop, show fr + (i - fr) = i by omega]; exact h3
theorem lf2_ok : LoopOk Tryz.prog 4 (loopOf Tryz.f25 4) LF2 := by
  refine trimLoop_ok (trim_ok _ _) (loopTH_ok (C := cfgG) cfgG_ok (f := 25) (n := 60) (trim_ok [0, 1, 2, 7, 8, 9, 10] [0]) 3 FI2 (fun p k => k ≤ p.w) (fun p => 0) (fun p k => p.w - k) (FTr FrP2) FI2E (fun p => Nat.zero_le _) ?_)
  intro p k hi
  rw [b25c]
  have hb := p.hb
  have hw := p.hw
  have hfr := p.hfr
  simp only [Out.holds, decide_eq_true_eq, decide_eq_false_iff_not, Int.toNat_natCast, Nat.zero_add]
  have e1 : IntKind.i64.wrap ((p.fr : Int) + (p.w : Int)) = ((p.fr + p.w : Nat) : Int) := by rw [wrap_low (by omega) (by omega)]; omega
  rw [show (V.enc Kd.int).dflt = (0 : Int) from rfl, e1]
  by_cases hlt : k < p.w
  · have hs := anyIn_succ (l := p.l) (t := p.t) (fr := p.fr) (k := k) (by omega)
    have hx : IntKind.wrap .i64 (((p.fr + k : Nat) : Int) + 1) = ((p.fr + (k + 1) : Nat) : Int) := wrap_nat (by omega)
    refine ⟨fun _ => ⟨fun h => ?_, fun h => ⟨by omega, by omega, ?_⟩⟩, fun h => absurd hlt (by omega)⟩
    · refine SImp.of_wk (ren := []) (k + 1) ?_ ⟨hlt, by omega⟩
      exact ⟨⟨AV.sub_same _, AV.sub_same _, AV.sub_same _, AV.sub_same _, AV.sub_same _, AV.sub_tt (by rw [hs, h, Bool.true_or]), AV.sub_int hx, trivial⟩, ⟨.same _, trivial⟩, rfl, tl_ok rfl, ⟨.inr rfl, trivial⟩, ⟨Nat.le_of_ble_eq_true rfl, rfl⟩⟩
    · refine SImp.of_wk (ren := []) (k + 1) ?_ ⟨hlt, by omega⟩
      exact ⟨⟨AV.sub_same _, AV.sub_same _, AV.sub_same _, AV.sub_same _, AV.sub_same _, AV.sub_bool (by rw [hs, h, Bool.false_or]), AV.sub_int hx, trivial⟩, ⟨.same _, trivial⟩, rfl, tl_ok rfl, ⟨.inr rfl, trivial⟩, ⟨Nat.le_of_ble_eq_true rfl, rfl⟩⟩
  · refine ⟨fun h => absurd h (by omega), fun _ => ⟨trivial, ?_⟩⟩
    have he : k = p.w := by omega
    subst he
    refine SImp.of_wk (ren := []) () ?_ trivial
    exact ⟨⟨AV.sub_same _, AV.sub_same _, AV.sub_same _, AV.sub_same _, AV.sub_same _, AV.sub_same _, AV.sub_same _, trivial⟩, ⟨.same _, trivial⟩, rfl, tl_ok rfl, ⟨.inr rfl, trivial⟩, ⟨Nat.le_of_ble_eq_true rfl, rfl⟩⟩
theorem lf1_ok : LoopOk Tryz.prog 2 (loopOf Tryz.f25 2) LF1 := by
  refine trimLoop_ok (trim_ok _ _) (loopT_ok (C := cfgFr2) cfgFr2_ok (f := 25) (n := 60) (trim_ok [0, 1, 2, 6, 7, 8] [0]) 3 FI1 (fun p t => t ≤ p.n ∧ ∀ u : Nat, u < t → anyIn p.l u p.fr p.w = true) (fun p => 0) (fun p t => p.n - t) FC1 FI1E FC1r FR (fun p => ⟨Nat.zero_le _, fun u h => absurd h (Nat.not_lt_zero _)⟩) ?_)
  intro p t ⟨hi, hall⟩
  rw [b25b]
  have hb := p.hb
  have hw := p.hw
  have hn := p.hn
  have hfr := p.hfr
  by_cases hlt : t < p.n
  · refine ⟨fun _ => ⟨lf2_ok, fun q => q = ⟨p, t, hlt⟩, ⟨Nat.le_refl _, SImp.of_wk (ren := []) ⟨p, t, hlt⟩ ?_ rfl⟩, ?_⟩, fun h => absurd hlt (by have := of_decide_eq_false h; omega)⟩
    · refine ⟨⟨AV.sub_same _, AV.sub_same _, AV.sub_same _, AV.sub_same _, AV.sub_same _, AV.sub_ff ?_, AV.sub_same _, trivial⟩, ⟨.same _, trivial⟩, rfl, tl_ok rfl, ⟨.inr rfl, trivial⟩, ⟨Nat.le_of_ble_eq_true rfl, rfl⟩⟩
      unfold anyIn; rw [List.take_zero]; rfl
    · rintro _ rfl _ _
      refine ⟨fun h => ?_, fun h => ?_⟩
      · have h : anyIn p.l t p.fr p.w = false := by simpa using h
        refine SImp.of_wk (ren := []) () ?_ ?_
        · exact ⟨⟨AV.sub_same _, trivial⟩, ⟨.same _, trivial⟩, rfl, tl_ok rfl, ⟨.inr rfl, trivial⟩, ⟨Nat.le_of_ble_eq_true rfl, rfl⟩⟩
        · intro hf
          have := anyIn_iff.2 (hf t (by omega) (by omega) p.fr hfr)
          rw [h] at this; cases this
      · have h : anyIn p.l t p.fr p.w = true := by simpa using h
        have hx : IntKind.wrap .i64 ((t : Int) + 1) = ((t + 1 : Nat) : Int) := wrap_nat (by omega)
        refine SImp.of_wk (ren := []) (t + 1) ?_ ⟨⟨hlt, fun u hu => ?_⟩, by omega⟩
        · exact ⟨⟨AV.sub_same _, AV.sub_same _, AV.sub_same _, AV.sub_same _, AV.sub_int hx, trivial⟩, ⟨.same _, trivial⟩, rfl, tl_ok rfl, ⟨.inr rfl, trivial⟩, ⟨Nat.le_of_ble_eq_true rfl, rfl⟩⟩
        · rcases Nat.lt_or_ge u t with h1 | h1
          · exact hall u h1
          · rw [show u = t by omega]; exact h
  · refine ⟨fun h => absurd (of_decide_eq_true h) (by omega), fun _ => ⟨rfl, ?_⟩⟩
    have he : t = p.n := by omega
    subst he
    refine SImp.of_wk (ren := []) () ?_ hall
    exact ⟨⟨AV.sub_same _, AV.sub_same _, AV.sub_same _, AV.sub_same _, AV.sub_same _, trivial⟩, ⟨.same _, trivial⟩, rfl, tl_ok rfl, ⟨.inr rfl, trivial⟩, ⟨Nat.le_of_ble_eq_true rfl, rfl⟩⟩
theorem lf0_ok : LoopOk Tryz.prog 0 (loopOf Tryz.f25 0) LF0 := by
  refine trimLoop_ok (trim_ok _ _) (loopT_ok (C := cfgFr1) cfgFr1_ok (f := 25) (n := 60) (trim_ok [0, 1, 2, 6, 7] [0]) 3 FI0 (fun p fr => fr ≤ p.l.length + 1 ∧ ∀ s : Nat, s < fr → ∀ u : Nat, u < p.n → anyIn p.l u s p.w = true) (fun p => 0) (fun p fr => p.l.length + 1 - fr) FC0 FI0E FC0r FR0 (fun p => ⟨Nat.zero_le _, fun s h => absurd h (Nat.not_lt_zero _)⟩) ?_)
  intro p fr ⟨hi, hall⟩
  rw [b25a]
  have hb := p.hb
  have hw := p.hw
  have hn := p.hn
  have e1 : IntKind.i64.wrap ((p.l.length : Int) - (p.w : Int)) = (p.l.length : Int) - (p.w : Int) := wrap_low (by omega) (by omega)
  rw [e1]
  by_cases hlt : fr + p.w ≤ p.l.length
  · refine ⟨fun _ => ⟨lf1_ok, fun q => q = ⟨p, fr, hlt⟩, ⟨Nat.le_refl _, SImp.of_wk (ren := []) ⟨p, fr, hlt⟩ ?_ rfl⟩, ?_⟩, fun h => absurd hlt (by have := of_decide_eq_false h; omega)⟩
    · exact ⟨⟨AV.sub_same _, AV.sub_same _, AV.sub_same _, AV.sub_same _, AV.sub_lit', trivial⟩, ⟨.same _, trivial⟩, rfl, tl_ok rfl, ⟨.inr rfl, trivial⟩, ⟨Nat.le_of_ble_eq_true rfl, rfl⟩⟩
    · rintro _ rfl
      refine ⟨fun _ hc => ?_, fun _ hc => ?_⟩
      · have hx : IntKind.wrap .i64 ((fr : Int) + 1) = ((fr + 1 : Nat) : Int) := wrap_nat (by omega)
        refine SImp.of_wk (ren := []) (fr + 1) ?_ ⟨⟨by omega, fun s hs => ?_⟩, by omega⟩
        · exact ⟨⟨AV.sub_same _, AV.sub_same _, AV.sub_same _, AV.sub_int hx, trivial⟩, ⟨.same _, trivial⟩, rfl, tl_ok rfl, ⟨.inr rfl, trivial⟩, ⟨Nat.le_of_ble_eq_true rfl, rfl⟩⟩
        · rcases Nat.lt_or_ge s fr with h1 | h1
          · exact hall s h1
          · rw [show s = fr by omega]; exact hc
      · refine SImp.of_wk (ren := []) () ?_ hc
        exact ⟨⟨AV.sub_same _, trivial⟩, ⟨.same _, trivial⟩, rfl, tl_ok rfl, ⟨.inr rfl, trivial⟩, ⟨Nat.le_of_ble_eq_true rfl, rfl⟩⟩
  · refine ⟨fun h => absurd (of_decide_eq_true h) (by omega), fun _ => ⟨rfl, ?_⟩⟩
    refine SImp.of_wk (ren := []) fr ?_ (fun t h0 h1 s hs => ?_)
    · exact ⟨⟨AV.sub_same _, AV.sub_same _, AV.sub_same _, AV.sub_same _, trivial⟩, ⟨.same _, trivial⟩, rfl, tl_ok rfl, ⟨.inr rfl, trivial⟩, ⟨Nat.le_of_ble_eq_true rfl, rfl⟩⟩
    · have := anyIn_iff.1 (hall s (by omega) t.toNat (by omega))
      rwa [show ((t.toNat : Nat) : Int) = t by omega] at this
theorem hFair2 : HookOk Tryz.prog 25 (hookFree [.rows Kd.int, .int .i64, .int .i64] runFair2) := by
  refine free_hook (C := cfgFr0) cfgFr0_ok (n := 60) (fn := Tryz.f25) ⟨by kernel_rfl, by kernel_rfl⟩ (by kernel_rfl) ?_
  intro M ar K0 H
  unfold runFair2 at H
  split at H
  · rename_i l c n w
    obtain ⟨⟨h1, h2, h3, h4, h5⟩, H⟩ := H
    refine ⟨show 3 ≤ _ by decide +kernel, ?_⟩
    show (runF cfgFr0 60 25 Tryz.f25 [.sl false 0 0 1 l.length c, .int .i64 n, .int .i64 w] [(0, .ro Kd.int l)] 3).holds _
    rw [t25]
    refine ⟨fun h => absurd (of_decide_eq_true h) (by omega), fun _ => ⟨fun h => absurd (of_decide_eq_true h) (by omega), fun _ => ?_⟩⟩
    refine ⟨lf0_ok, fun q => q = ⟨l, c, n.toNat, w.toNat, h5, by omega, by omega⟩, ⟨Nat.le_refl _, SImp.of_wk (ren := []) ⟨l, c, n.toNat, w.toNat, h5, by omega, by omega⟩ ?_ rfl⟩, ?_⟩
    · exact ⟨⟨AV.sub_same _, AV.sub_int (show n = ((n.toNat : Nat) : Int) by omega), AV.sub_int (show w = ((w.toNat : Nat) : Int) by omega), AV.sub_lit', trivial⟩, ⟨.same _, trivial⟩, rfl, tl_ok rfl, ⟨.inr rfl, trivial⟩, ⟨Nat.le_of_ble_eq_true rfl, rfl⟩⟩
    · rintro _ rfl
      refine ⟨fun fr hc => ?_, fun _ hc => ?_⟩
      · have hc : FairP l (n.toNat : Int) w.toNat := hc
        rw [show ((n.toNat : Nat) : Int) = n by omega] at hc
        exact ⟨_, _, H true ⟨fun _ => hc, fun _ => rfl⟩, endPlain (AV.sub_tt rfl) rfl⟩
      · have hc : ¬ FairP l (n.toNat : Int) w.toNat := hc
        rw [show ((n.toNat : Nat) : Int) = n by omega] at hc
        exact ⟨_, _, H false ⟨fun h => (by cases h), fun h => absurd h hc⟩, endPlain (AV.sub_ff rfl) rfl⟩
  · exact H.elim

/-! ## Wait -/
theorem cfgWt_ok : cfgWt.ok := by
  refine ⟨tab_met, kinds_met, mixed_met, fun g fn h => (by cases h), fun g H h => ?_⟩
  unfold cfgWt hooksWt at h
  simp only at h
  split at h <;> cases h
  exact hFair2
theorem cfgWt1_ok : cfgWt1.ok := ⟨tab_met, kinds_met, mixed_met, fun g fn h => (by cases h), cfgWt_ok.hooks⟩
theorem FairP.mono {l : List Int} {n : Int} {v w : Nat} (hv : v ≤ w) (h : FairP l n v) : FairP l n w := fun t h0 h1 s hs => by
  obtain ⟨i, a, b, c⟩ := h t h0 h1 s (by omega)
  exact ⟨i, a, by omega, c⟩
theorem lw16_ok : LoopOk Tryz.prog 0 (loopOf Tryz.f16 0) LW16 := by
  refine trimLoop_ok (trim_ok _ _) (loopTH_ok (C := cfgWt) cfgWt_ok (f := 16) (n := 60) (trim_ok [0, 1, 5] [0]) 2 WI16 (fun p w => 1 ≤ w ∧ w ≤ p.l.length + 1 ∧ ∀ v, 1 ≤ v → v < w → ¬ FairP p.l p.n v) (fun p => 1) (fun p w => p.l.length + 1 - w) WC16 WI16 (fun p => ⟨Nat.le_refl _, by omega, fun v h0 h1 => by omega⟩) ?_)
  intro p w ⟨h1, h2, hno⟩
  rw [b16]
  have hb := p.hb
  have hn := p.hn
  have hx : IntKind.wrap .i64 ((w : Int) + 1) = ((w + 1 : Nat) : Int) := wrap_nat (by omega)
  have hlong : FairP p.l p.n w → WC16 p w := fun hf => ⟨h1, fun v hv => ⟨fun h => hf.mono (by omega), fun h => by
    rcases Nat.lt_or_ge (w - 1) v with k | k
    · exact k
    · exact absurd h (hno v hv (by omega))⟩⟩
  rw [show (p.l.drop 0).take p.l.length = p.l by simp]
  refine ⟨fun h => ⟨by omega, ⟨by omega, by omega, by omega, by have := of_decide_eq_true h; omega, by omega⟩, fun y hy => ⟨fun hf => ?_, fun hf => ⟨rfl, ?_⟩⟩⟩, fun h => ⟨rfl, ?_⟩⟩
  · have h := of_decide_eq_true h
    have hny : ¬ FairP p.l p.n w := fun e => by have := hy.2 e; subst this; cases hf
    refine SImp.of_wk (ren := []) (w + 1) ?_ ⟨⟨by omega, by omega, fun v hv hv2 => ?_⟩, by omega⟩
    · exact ⟨⟨AV.sub_same _, AV.sub_same _, AV.sub_int hx, trivial⟩, ⟨.same _, trivial⟩, rfl, tl_ok rfl, ⟨.inr rfl, trivial⟩, ⟨Nat.le_of_ble_eq_true rfl, rfl⟩⟩
    · rcases Nat.lt_or_ge v w with k | k
      · exact hno v hv k
      · rw [show v = w by omega]; exact hny
  · have hyt : y = true := by simpa using hf
    refine SImp.of_wk (ren := []) w ?_ (hlong (hy.1 hyt))
    exact ⟨⟨AV.sub_same _, AV.sub_same _, AV.sub_same _, trivial⟩, ⟨.same _, trivial⟩, rfl, tl_ok rfl, ⟨.inr rfl, trivial⟩, ⟨Nat.le_of_ble_eq_true rfl, rfl⟩⟩
  · have h := of_decide_eq_false h
    refine SImp.of_wk (ren := []) w ?_ (hlong fun t _ _ s hs => by omega)
    exact ⟨⟨AV.sub_same _, AV.sub_same _, AV.sub_same _, trivial⟩, ⟨.same _, trivial⟩, rfl, tl_ok rfl, ⟨.inr rfl, trivial⟩, ⟨Nat.le_of_ble_eq_true rfl, rfl⟩⟩
/-- How long picks wait, of the document. -/
def runWait2 : RunFree V := fun ar K => match ar with
  | [.rows .int l c, .int .i64 n] => .need (l.length ≤ 1073741824 ∧ n ≤ 1099511627776) (.ite (decide (n < 1)) (K (.int .i64 0) []) (.all Nat fun r => .asm (LongIs l n r) (K (.int .i64 ((r + 1 : Nat) : Int)) [])))
  | _ => .bad 530
theorem hWait2 : HookOk Tryz.prog 16 (hookFree [.rows Kd.int, .int .i64] runWait2) := by
  refine free_hook (C := cfgWt1) cfgWt1_ok (n := 60) (fn := Tryz.f16) ⟨by kernel_rfl, by kernel_rfl⟩ (by kernel_rfl) ?_
  intro M ar K0 H
  unfold runWait2 at H
  split at H
  · rename_i l c n
    obtain ⟨⟨h5, h6⟩, H⟩ := H
    refine ⟨show 2 ≤ _ by decide +kernel, ?_⟩
    show (runF cfgWt1 60 16 Tryz.f16 [.sl false 0 0 1 l.length c, .int .i64 n] [(0, .ro Kd.int l)] 2).holds _
    rw [t16]
    refine ⟨fun h => ⟨_, _, H.1 h, endPlain AV.sub_lit' rfl⟩, fun h => ?_⟩
    have H := H.2 h
    have h := of_decide_eq_false h
    refine ⟨lw16_ok, fun q => q = ⟨l, c, n.toNat, h5, by omega⟩, ⟨Nat.le_refl _, SImp.of_wk (ren := []) ⟨l, c, n.toNat, h5, by omega⟩ ?_ rfl⟩, ?_⟩
    · exact ⟨⟨AV.sub_same _, AV.sub_int (show n = ((n.toNat : Nat) : Int) by omega), AV.sub_lit', trivial⟩, ⟨.same _, trivial⟩, rfl, tl_ok rfl, ⟨.inr rfl, trivial⟩, ⟨Nat.le_of_ble_eq_true rfl, rfl⟩⟩
    · rintro _ rfl w ⟨hw, hc⟩
      have hc : LongIs l (n.toNat : Int) (w - 1) := hc
      rw [show ((n.toNat : Nat) : Int) = n by omega] at hc
      exact ⟨_, _, H (w - 1) hc, endPlain (AV.sub_int (by omega)) rfl⟩
  · exact H.elim
end Sx
end Go.Proofs.YtmcmdghmglopnaaGreatDoor

/-
  Rows compared, bounds: the runs of the machine.
-/
namespace Go.Proofs.YtmcmdghmglopnaaGreatDoor
namespace Sx
open Go
set_option maxRecDepth 100000
set_option linter.unusedVariables false

noncomputable def fnsB : Nat → Option Func := fun g => match g with | 23 => some Tryz.f23 | _ => none
noncomputable def cfgE : Cfg Tryz.prog V := ⟨tab, kinds, fnsB, fun _ => none, fun _ _ => none⟩
/-! Rows of numbers compared. -/
structure WI where
  xs : List Int
  c : Nat
  ys : List Int
  d : Nat
  hl : xs.length = ys.length
  hb : xs.length ≤ 1099511627776
abbrev TQ : List Nat := [0, 1, 2, 3, 4, 5, 6, 7, 8, 9, 10]
def I10 (p : WI) (i : Nat) : St V := ⟨[(0, .sl false 0 0 1 p.xs.length p.c), (1, .sl false 1 0 1 p.ys.length p.d), (5, .int .i64 (i : Int))], [(0, .ro Kd.int p.xs), (1, .ro Kd.int p.ys)], 2, 26, TQ⟩
def R10 (p : WI) : St V := ⟨[(4, .ff)], [(0, .ro Kd.int p.xs), (1, .ro Kd.int p.ys)], 2, 26, TQ⟩
def L10 : LoopS V := trimLoop (trimSt [0, 1, 5] [0, 1]) (loopG 2 (fun p : WI => I10 p 0) (fun p (_ : Unit) => p.xs = p.ys) (fun p _ => I10 p p.xs.length) (fun p (_ : Unit) => p.xs ≠ p.ys) (fun p _ => R10 p))
/-! Bounds. -/
abbrev Hd := Option Addr × Nat × Nat
structure BdP where
  ps : List Hd
  c : Nat
  t : Nat
  ht : t ≤ ps.length
  h64 : t ≤ 64
/-- The lengths of so many rows, each at most 1024. -/
def lensTo (ps : List Hd) (i : Nat) : Nat := ((ps.take i).map fun h => min h.2.1 1024).foldl (· + ·) 0
def I13 (p : BdP) (i : Nat) : St V := ⟨[(0, .sl false 0 0 1 p.ps.length p.c), (3, .int .i64 ((1 + lensTo p.ps i : Nat) : Int)), (9, .sl false 0 0 1 p.t p.c), (10, .int .i64 (p.t : Int)), (11, .int .i64 (i : Int))], [(0, .ro Kd.rws p.ps)], 1, 28, TQ⟩
def I14 (p : BdP) (i : Nat) : St V := ⟨[(0, .sl false 0 0 1 p.ps.length p.c), (3, .int .i64 (lensTo p.ps i : Int)), (4, .int .i64 (p.t : Int)), (5, .int .i64 (i : Int))], [(0, .ro Kd.rws p.ps)], 1, 29, TQ⟩
def L13 : LoopS V := trimLoop (trimSt [0, 3, 9, 10, 11] [0]) (loopH 1 (fun p : BdP => I13 p 0) (fun _ (_ : Unit) => True) (fun p _ => I13 p p.t))
def L14 : LoopS V := trimLoop (trimSt [0, 3, 4, 5] [0]) (loopH 1 (fun p : BdP => I14 p 0) (fun _ (_ : Unit) => True) (fun p _ => I14 p p.t))
noncomputable def cfgE1 : Cfg Tryz.prog V := ⟨tab, kinds, fnsB, fun _ => none, fun f id => match f, id with | 10, 0 => some L10 | 13, 0 => some L13 | 14, 0 => some L14 | _, _ => none⟩
theorem b10 (p : WI) (i : Nat) : runCode cfgE 60 10 (loopOf Tryz.f10 0) (I10 p i) (stopT (trimSt [0, 1, 4, 5] [0, 1])) = Out.ite (decide ((↑i : Int) < (↑p.xs.length : Int))) (Out.needd (0 ≤ (↑i : Int) ∧ (↑i : Int) < (↑p.xs.length : Int)) (Out.needd (0 + i < p.xs.length) (Out.needd (0 ≤ (↑i : Int) ∧ (↑i : Int) < (↑p.ys.length : Int)) (Out.needd (0 + i < p.ys.length) (Out.ite (p.xs.getD (0 + i) (V.enc Kd.int).dflt != p.ys.getD (0 + i) (V.enc Kd.int).dflt) (Out.stop EX.rt {env := [(0, .sl false 0 0 1 p.xs.length p.2), (1, .sl false 1 0 1 p.ys.length p.4), (4, .ff), (5, .int .i64 (↑i : Int))], heap := [(0, .ro Kd.int p.xs), (1, .ro Kd.int p.ys)], nx := 2, nt := 26, tl := [0, 1, 2, 3, 4, 5, 6, 7, 8, 9, 10] : St V }) (Out.stop EX.nx {env := [(0, .sl false 0 0 1 p.xs.length p.2), (1, .sl false 1 0 1 p.ys.length p.4), (4, .und), (5, .int .i64 (IntKind.i64.wrap ((↑i : Int) + 1)))], heap := [(0, .ro Kd.int p.xs), (1, .ro Kd.int p.ys)], nx := 2, nt := 26, tl := [0, 1, 2, 3, 4, 5, 6, 7, 8, 9, 10] : St V })))))) (Out.stop (EX.ex 0) {env := [(0, .sl false 0 0 1 p.xs.length p.2), (1, .sl false 1 0 1 p.ys.length p.4), (4, .und), (5, .int .i64 (↑i : Int))], heap := [(0, .ro Kd.int p.xs), (1, .ro Kd.int p.ys)], nx := 2, nt := 26, tl := [0, 1, 2, 3, 4, 5, 6, 7, 8, 9, 10] : St V }) := by kernel_rfl

theorem t10 (a b : List Int) (c d : Nat) : runF cfgE1 60 10 Tryz.f10 [.sl false 0 0 1 a.length c, .sl false 1 0 1 b.length d] [(0, .ro Kd.int a), (1, .ro Kd.int b)] 2 = Out.ite ((↑a.length : Int) != (↑b.length : Int)) (Out.fin .ff [(0, .ro Kd.int a), (1, .ro Kd.int b)] 2) (Out.need (LoopFor Tryz.prog 10 0 (loopOf Tryz.f10 0) L10) (Out.ex (WI → Prop) fun y => Out.need (2 ≤ 2 ∧ SImp 2 {env := [(0, .sl false 0 0 1 a.length c), (1, .sl false 1 0 1 b.length d), (5, .lit .i64 0)], heap := [(0, .ro Kd.int a), (1, .ro Kd.int b)], nx := 2, nt := 26, tl := [] : St V } (fun p => I10 p 0) y) (Out.all WI fun y_1 => Out.asm (y y_1) ((Out.all Unit fun y => Out.asm ((fun p x => p.xs = p.ys) y_1 y) (Out.fin .tt [(0, .ro Kd.int y_1.xs), (1, .ro Kd.int y_1.ys)] 2)).both (Out.all Unit fun y => Out.asm ((fun p x => p.xs ≠ p.ys) y_1 y) (Out.fin .ff [(0, .ro Kd.int y_1.xs), (1, .ro Kd.int y_1.ys)] 2)))))) := by kernel_rfl

theorem b13 (p : BdP) (i : Nat) : runCode cfgE 60 13 (loopOf Tryz.f13 0) (I13 p i) (stopT (trimSt [0, 3, 9, 10, 11] [0])) = Out.ite (decide ((↑i : Int) < (↑p.3 : Int))) (Out.needd (0 ≤ (↑i : Int) ∧ (↑i : Int) < (↑p.3 : Int)) (Out.needd (0 + i < p.ps.length) (Out.stop EX.nx {env := [(0, .sl false 0 0 1 p.ps.length p.2), (3, .int .i64 (IntKind.i64.wrap ((↑(1 + lensTo p.ps i) : Int) + if 1024 < (↑(p.ps.getD (0 + i) (V.enc Kd.rws).dflt).snd.fst : Int) then 1024 else (↑(p.ps.getD (0 + i) (V.enc Kd.rws).dflt).snd.fst : Int)))), (9, .sl false 0 0 1 p.3 p.2), (10, .int .i64 (↑p.3 : Int)), (11, .int .i64 (IntKind.i64.wrap ((↑i : Int) + 1)))], heap := [(0, .ro Kd.rws p.ps)], nx := 1, nt := 28, tl := [0, 1, 2, 3, 4, 5, 6, 7, 8, 9, 10] : St V }))) (Out.stop (EX.ex 0) {env := [(0, .sl false 0 0 1 p.ps.length p.2), (3, .int .i64 (↑(1 + lensTo p.ps i) : Int)), (9, .sl false 0 0 1 p.3 p.2), (10, .int .i64 (↑p.3 : Int)), (11, .int .i64 (↑i : Int))], heap := [(0, .ro Kd.rws p.ps)], nx := 1, nt := 28, tl := [0, 1, 2, 3, 4, 5, 6, 7, 8, 9, 10] : St V }) := by kernel_rfl

theorem t13 (ps : List Hd) (c : Nat) : runF cfgE1 60 13 Tryz.f13 [.sl false 0 0 1 ps.length c] [(0, .ro Kd.rws ps)] 1 = Out.needd ((0 ≤ if 64 < (↑ps.length : Int) then 64 else (↑ps.length : Int)) ∧ ((if 64 < (↑ps.length : Int) then 64 else (↑ps.length : Int)) ≤ (↑ps.length : Int) ∨ (if 64 < (↑ps.length : Int) then 64 else (↑ps.length : Int)) ≤ (↑c : Int))) (Out.need (LoopFor Tryz.prog 13 0 (loopOf Tryz.f13 0) L13) (Out.ex (BdP → Prop) fun y => Out.need (1 ≤ 1 ∧ SImp 1 {env := [(0, .sl false 0 0 1 ps.length c), (3, .lit .i64 1), (9, .sl false 0 0 1 (if 64 < (↑ps.length : Int) then 64 else (↑ps.length : Int)).toNat c), (10, .int .i64 (↑(if 64 < (↑ps.length : Int) then 64 else (↑ps.length : Int)).toNat : Int)), (11, .lit .i64 0)], heap := [(0, .ro Kd.rws ps)], nx := 1, nt := 28, tl := [] : St V } (fun p => I13 p 0) y) (Out.all BdP fun y_1 => Out.asm (y y_1) (Out.all Unit fun y => Out.asm ((fun x x_1 => True) y_1 y) (Out.fin (.int .i64 (IntKind.i64.wrap (IntKind.i64.wrap (1024 * (↑(1 + lensTo y_1.ps y_1.3) : Int)) * if IntKind.i64.wrap (2 * if 64 < (↑y_1.ps.length : Int) then 64 else (↑y_1.ps.length : Int)) > 1 then IntKind.i64.wrap (2 * if 64 < (↑y_1.ps.length : Int) then 64 else (↑y_1.ps.length : Int)) else 1))) [(0, .ro Kd.rws y_1.ps)] 1))))) := by kernel_rfl

theorem b14 (p : BdP) (i : Nat) : runCode cfgE 60 14 (loopOf Tryz.f14 0) (I14 p i) (stopT (trimSt [0, 3, 4, 5] [0])) = Out.ite (decide ((↑i : Int) < (↑p.3 : Int))) (Out.needd (0 ≤ (↑i : Int) ∧ (↑i : Int) < (↑p.ps.length : Int)) (Out.needd (0 + i < p.ps.length) (Out.stop EX.nx {env := [(0, .sl false 0 0 1 p.ps.length p.2), (3, .int .i64 (IntKind.i64.wrap ((↑(lensTo p.ps i) : Int) + if 1024 < (↑(p.ps.getD (0 + i) (V.enc Kd.rws).dflt).snd.fst : Int) then 1024 else (↑(p.ps.getD (0 + i) (V.enc Kd.rws).dflt).snd.fst : Int)))), (4, .int .i64 (↑p.3 : Int)), (5, .int .i64 (IntKind.i64.wrap ((↑i : Int) + 1)))], heap := [(0, .ro Kd.rws p.ps)], nx := 1, nt := 29, tl := [0, 1, 2, 3, 4, 5, 6, 7, 8, 9, 10] : St V }))) (Out.stop (EX.ex 0) {env := [(0, .sl false 0 0 1 p.ps.length p.2), (3, .int .i64 (↑(lensTo p.ps i) : Int)), (4, .int .i64 (↑p.3 : Int)), (5, .int .i64 (↑i : Int))], heap := [(0, .ro Kd.rws p.ps)], nx := 1, nt := 29, tl := [0, 1, 2, 3, 4, 5, 6, 7, 8, 9, 10] : St V }) := by kernel_rfl

theorem t14 (ps : List Hd) (c : Nat) : runF cfgE1 60 14 Tryz.f14 [.sl false 0 0 1 ps.length c] [(0, .ro Kd.rws ps)] 1 = Out.need (LoopFor Tryz.prog 14 0 (loopOf Tryz.f14 0) L14) (Out.ex (BdP → Prop) fun y => Out.need (1 ≤ 1 ∧ SImp 1 {env := [(0, .sl false 0 0 1 ps.length c), (3, .lit .i64 0), (4, .int .i64 (if 64 < (↑ps.length : Int) then 64 else (↑ps.length : Int))), (5, .lit .i64 0)], heap := [(0, .ro Kd.rws ps)], nx := 1, nt := 29, tl := [] : St V } (fun p => I14 p 0) y) (Out.all BdP fun y_1 => Out.asm (y y_1) (Out.all Unit fun y => Out.asm ((fun x x_1 => True) y_1 y) (Out.fin (.int .i64 (IntKind.i64.wrap (IntKind.i64.wrap (1024 * IntKind.i64.wrap ((↑(lensTo y_1.ps y_1.3) : Int) + 1)) * if 1 > IntKind.i64.wrap (2 * (↑y_1.3 : Int)) then 1 else IntKind.i64.wrap (2 * (↑y_1.3 : Int))))) [(0, .ro Kd.rws y_1.ps)] 1)))) := by kernel_rfl

end Sx
end Go.Proofs.YtmcmdghmglopnaaGreatDoor

/-
  Rows of numbers compared; bounds: the functions' contracts.
-/
namespace Go.Proofs.YtmcmdghmglopnaaGreatDoor
namespace Sx
open Go
set_option linter.unusedSimpArgs false
set_option linter.unusedVariables false

theorem cfgE_ok : cfgE.ok := by
  refine ⟨tab_met, kinds_met, mixed_met, fun g fn h => ?_, fun g H h => (by cases h)⟩
  unfold cfgE fnsB at h
  simp only at h
  split at h <;> cases h <;> exact ⟨by kernel_rfl, by kernel_rfl⟩
theorem cfgE1_ok : cfgE1.ok := ⟨cfgE_ok.τ, cfgE_ok.κ, cfgE_ok.mixed, cfgE_ok.fns, cfgE_ok.hooks⟩

theorem take_next {α : Type} {a b : List α} {d : α} {i : Nat} (ha : i < a.length) (hb : i < b.length) (h : a.take i = b.take i) (e : a.getD i d = b.getD i d) : a.take (i + 1) = b.take (i + 1) := by
  rw [List.take_succ_eq_append_getElem ha, List.take_succ_eq_append_getElem hb, h]
  rw [List.getD_eq_getElem?_getD, List.getElem?_eq_getElem ha, List.getD_eq_getElem?_getD, List.getElem?_eq_getElem hb] at e
  simp only [Option.getD_some] at e
  rw [e]
theorem l10_ok : LoopOk Tryz.prog 0 (loopOf Tryz.f10 0) L10 := by
  refine trimLoop_ok (trim_ok _ _) (loopT_ok (C := cfgE) cfgE_ok (f := 10) (n := 60) (trim_ok [0, 1, 4, 5] [0, 1]) 2 I10 (fun p i => i ≤ p.xs.length ∧ p.xs.take i = p.ys.take i) (fun _ => 0) (fun p i => p.xs.length - i)
    (fun p (_ : Unit) => p.xs = p.ys) (fun p _ => I10 p p.xs.length) (fun p (_ : Unit) => p.xs ≠ p.ys) (fun p _ => R10 p) (fun p => ⟨Nat.zero_le _, rfl⟩) ?_)
  intro p i ⟨hi, ht⟩
  rw [b10]
  have hl := p.hl
  have hb := p.hb
  rw [show (0 + i) = i from Nat.zero_add _, show p.xs.getD i (V.enc Kd.int).dflt = p.xs.getD i 0 from rfl, show p.ys.getD i (V.enc Kd.int).dflt = p.ys.getD i 0 from rfl]
  simp only [Out.holds, decide_eq_true_eq, decide_eq_false_iff_not, bne_iff_ne, bne_eq_false_iff_eq]
  by_cases hlt : i < p.xs.length
  · have hw : IntKind.wrap .i64 ((i : Int) + 1) = ((i + 1 : Nat) : Int) := wrap_nat (by omega)
    refine ⟨fun _ => ⟨by omega, hlt, by omega, by omega, fun h2 => ?_, fun h2 => ?_⟩, fun h => absurd hlt (by omega)⟩
    · refine SImp.of_wk (ren := []) () ?_ (fun e => h2 (by rw [e]))
      exact ⟨⟨AV.sub_same _, trivial⟩, ⟨.same _, .same _, trivial⟩, rfl, tl_ok rfl, ⟨.inr rfl, .inr rfl, trivial⟩, ⟨Nat.le_of_ble_eq_true rfl, rfl⟩⟩
    · refine SImp.of_wk (ren := []) (i + 1) ?_ ⟨⟨hlt, take_next hlt (by omega) ht h2⟩, by omega⟩
      exact ⟨⟨AV.sub_same _, AV.sub_same _, AV.sub_int hw, trivial⟩, ⟨.same _, .same _, trivial⟩, rfl, tl_ok rfl, ⟨.inr rfl, .inr rfl, trivial⟩, ⟨Nat.le_of_ble_eq_true rfl, rfl⟩⟩
  · refine ⟨fun h => absurd h (by omega), fun h => ⟨trivial, ?_⟩⟩
    have he : i = p.xs.length := by omega
    refine SImp.of_wk (ren := []) () ?_ (by rwa [List.take_of_length_le (by omega), List.take_of_length_le (by omega)] at ht)
    exact ⟨⟨AV.sub_same _, AV.sub_same _, AV.sub_int (by rw [he]), trivial⟩, ⟨.same _, .same _, trivial⟩, rfl, tl_ok rfl, ⟨.inr rfl, .inr rfl, trivial⟩, ⟨Nat.le_of_ble_eq_true rfl, rfl⟩⟩
def runInts : RunFree V := fun ar K => match ar with
  | [.rows .int xs c, .rows .int ys d] => .need (xs.length ≤ 1099511627776) (K (.bool (decide (xs = ys))) [])
  | _ => .bad 500
theorem hInts : HookOk Tryz.prog 10 (hookFree [.rows Kd.int, .rows Kd.int] runInts) := by
  refine free_hook (C := cfgE1) cfgE1_ok (n := 60) (fn := Tryz.f10) ⟨by kernel_rfl, by kernel_rfl⟩ (by kernel_rfl) ?_
  intro M ar K0 H
  unfold runInts at H
  split at H
  · rename_i xs c ys d
    obtain ⟨hb, H⟩ := H
    refine ⟨show 2 ≤ _ by decide +kernel, ?_⟩
    show (runF cfgE1 60 10 Tryz.f10 [.sl false 0 0 1 xs.length c, .sl false 1 0 1 ys.length d] [(0, .ro Kd.int xs), (1, .ro Kd.int ys)] 2).holds _
    rw [t10]
    simp only [Out.holds, bne_iff_ne, bne_eq_false_iff_eq]
    refine ⟨fun h => ⟨_, _, H, endPlain (AV.sub_ff (decide_eq_false fun e => h (by rw [e]))) rfl⟩, fun h => ?_⟩
    have hl : xs.length = ys.length := by omega
    refine ⟨l10_ok, fun p => p = ⟨xs, c, ys, d, hl, hb⟩, ⟨Nat.le_refl _, SImp.of_wk (ren := []) ⟨xs, c, ys, d, hl, hb⟩ ?_ rfl⟩, ?_⟩
    · exact ⟨⟨AV.sub_same _, AV.sub_same _, AV.sub_lit', trivial⟩, ⟨.same _, .same _, trivial⟩, rfl, tl_ok rfl, ⟨.inr rfl, .inr rfl, trivial⟩, ⟨Nat.le_of_ble_eq_true rfl, rfl⟩⟩
    · rintro _ rfl
      exact ⟨fun _ e => ⟨_, _, H, endPlain (AV.sub_tt (decide_eq_true e)) rfl⟩, fun _ e => ⟨_, _, H, endPlain (AV.sub_ff (decide_eq_false e)) rfl⟩⟩
  · exact H.elim

/-! ## bounds -/
theorem lensTo_succ {ps : List Hd} {i : Nat} (h : i < ps.length) : lensTo ps (i + 1) = lensTo ps i + min (ps.getD i (none, 0, 0)).2.1 1024 := by
  unfold lensTo
  rw [List.take_succ_eq_append_getElem h, List.map_append, List.foldl_append, List.getD_eq_getElem?_getD, List.getElem?_eq_getElem h]
  rfl
theorem lensTo_le (ps : List Hd) : ∀ i : Nat, lensTo ps i ≤ 1024 * i
  | 0 => by simp [lensTo]
  | i + 1 => by
    have ih := lensTo_le ps i
    by_cases h : i < ps.length
    · rw [lensTo_succ h]; omega
    · have : lensTo ps (i + 1) = lensTo ps i := by unfold lensTo; rw [List.take_of_length_le (by omega), List.take_of_length_le (by omega)]
      omega
theorem lens_step {ps : List Hd} {i : Nat} {z : Int} {k : Nat} (hi : i < 64) (h : i < ps.length) (hk : k ≤ 1) :
    IntKind.i64.wrap (((k + lensTo ps i : Nat) : Int) + if 1024 < ((ps.getD (0 + i) (V.enc Kd.rws).dflt).snd.fst : Int) then 1024 else ((ps.getD (0 + i) (V.enc Kd.rws).dflt).snd.fst : Int)) = ((k + lensTo ps (i + 1) : Nat) : Int) := by
  rw [lensTo_succ h, Nat.zero_add, show (V.enc Kd.rws).dflt = (none, 0, 0) from rfl]
  have := lensTo_le ps i
  generalize ps.getD i (none, 0, 0) = q
  rw [wrap_low]
  · split <;> omega
  · split <;> omega
  · split <;> omega
theorem l13_ok : LoopOk Tryz.prog 0 (loopOf Tryz.f13 0) L13 := by
  refine trimLoop_ok (trim_ok _ _) (loopTH_ok (C := cfgE) cfgE_ok (f := 13) (n := 60) (trim_ok [0, 3, 9, 10, 11] [0]) 1 I13 (fun p i => i ≤ p.t) (fun _ => 0) (fun p i => p.t - i)
    (fun _ (_ : Unit) => True) (fun p _ => I13 p p.t) (fun p => Nat.zero_le _) ?_)
  intro p i hi
  rw [b13]
  have ht := p.ht
  have h64 := p.h64
  simp only [Out.holds, decide_eq_true_eq, decide_eq_false_iff_not]
  by_cases hlt : i < p.t
  · have hw : IntKind.wrap .i64 ((i : Int) + 1) = ((i + 1 : Nat) : Int) := wrap_nat (by omega)
    refine ⟨fun _ => ⟨by omega, by omega, ?_⟩, fun h => absurd hlt (by omega)⟩
    refine SImp.of_wk (ren := []) (i + 1) ?_ ⟨hlt, by omega⟩
    exact ⟨⟨AV.sub_same _, AV.sub_int (lens_step (z := 0) (by omega) (by omega) (Nat.le_refl 1)), AV.sub_same _, AV.sub_same _, AV.sub_int hw, trivial⟩, ⟨.same _, trivial⟩, rfl, tl_ok rfl, ⟨.inr rfl, trivial⟩, ⟨Nat.le_of_ble_eq_true rfl, rfl⟩⟩
  · refine ⟨fun h => absurd h (by omega), fun h => ⟨trivial, ?_⟩⟩
    have he : i = p.t := by omega
    refine SImp.of_wk (ren := []) () ?_ trivial
    exact ⟨⟨AV.sub_same _, AV.sub_int (by rw [he]), AV.sub_same _, AV.sub_same _, AV.sub_int (by rw [he]), trivial⟩, ⟨.same _, trivial⟩, rfl, tl_ok rfl, ⟨.inr rfl, trivial⟩, ⟨Nat.le_of_ble_eq_true rfl, rfl⟩⟩
theorem l14_ok : LoopOk Tryz.prog 0 (loopOf Tryz.f14 0) L14 := by
  refine trimLoop_ok (trim_ok _ _) (loopTH_ok (C := cfgE) cfgE_ok (f := 14) (n := 60) (trim_ok [0, 3, 4, 5] [0]) 1 I14 (fun p i => i ≤ p.t) (fun _ => 0) (fun p i => p.t - i)
    (fun _ (_ : Unit) => True) (fun p _ => I14 p p.t) (fun p => Nat.zero_le _) ?_)
  intro p i hi
  rw [b14]
  have ht := p.ht
  have h64 := p.h64
  simp only [Out.holds, decide_eq_true_eq, decide_eq_false_iff_not]
  by_cases hlt : i < p.t
  · have hw : IntKind.wrap .i64 ((i : Int) + 1) = ((i + 1 : Nat) : Int) := wrap_nat (by omega)
    have hs := lens_step (ps := p.ps) (z := 0) (k := 0) (show i < 64 by omega) (by omega) (Nat.zero_le 1)
    rw [Nat.zero_add (lensTo p.ps i), Nat.zero_add (lensTo p.ps (i + 1))] at hs
    refine ⟨fun _ => ⟨by omega, by omega, ?_⟩, fun h => absurd hlt (by omega)⟩
    refine SImp.of_wk (ren := []) (i + 1) ?_ ⟨hlt, by omega⟩
    exact ⟨⟨AV.sub_same _, AV.sub_int hs, AV.sub_same _, AV.sub_int hw, trivial⟩, ⟨.same _, trivial⟩, rfl, tl_ok rfl, ⟨.inr rfl, trivial⟩, ⟨Nat.le_of_ble_eq_true rfl, rfl⟩⟩
  · refine ⟨fun h => absurd h (by omega), fun h => ⟨trivial, ?_⟩⟩
    have he : i = p.t := by omega
    refine SImp.of_wk (ren := []) () ?_ trivial
    exact ⟨⟨AV.sub_same _, AV.sub_int (by rw [he]), AV.sub_same _, AV.sub_int (by rw [he]), trivial⟩, ⟨.same _, trivial⟩, rfl, tl_ok rfl, ⟨.inr rfl, trivial⟩, ⟨Nat.le_of_ble_eq_true rfl, rfl⟩⟩
/-- How many steps there are at most. -/
def boundN (ps : List Hd) : Nat := 1024 * (1 + lensTo ps (min ps.length 64)) * max 1 (2 * min ps.length 64)
theorem bound_is {k : Nat} {q : Nat} (hq : q ≤ 65536) (hk : k ≤ 64) : IntKind.i64.wrap (IntKind.i64.wrap (1024 * ((1 + q : Nat) : Int)) * ((max 1 (2 * k) : Nat) : Int)) = ((1024 * (1 + q) * max 1 (2 * k) : Nat) : Int) := by
  have e1 : IntKind.i64.wrap (1024 * ((1 + q : Nat) : Int)) = ((1024 * (1 + q) : Nat) : Int) := by rw [wrap_low (by omega) (by omega)]; omega
  rw [e1, ← Int.natCast_mul]
  have : 1024 * (1 + q) * max 1 (2 * k) ≤ 67109888 * 128 := Nat.mul_le_mul (by omega) (by omega)
  exact wrap_low (by omega) (by omega)
theorem min64 (n : Nat) : (if 64 < (n : Int) then 64 else (n : Int)) = ((min n 64 : Nat) : Int) := by split <;> omega
theorem two64 {k : Nat} (hk : k ≤ 64) : IntKind.i64.wrap (2 * (k : Int)) = ((2 * k : Nat) : Int) := by rw [wrap_low (by omega) (by omega)]; omega
def runBound : RunFree V := fun ar K => match ar with
  | [.rows .rws ps c] => K (.int .i64 (boundN ps : Int)) []
  | _ => .bad 501
theorem hBound : HookOk Tryz.prog 13 (hookFree [.rows Kd.rws] runBound) := by
  refine free_hook (C := cfgE1) cfgE1_ok (n := 60) (fn := Tryz.f13) ⟨by kernel_rfl, by kernel_rfl⟩ (by kernel_rfl) ?_
  intro M ar K0 H
  unfold runBound at H
  split at H
  · rename_i ps c
    refine ⟨show 1 ≤ _ by decide +kernel, ?_⟩
    show (runF cfgE1 60 13 Tryz.f13 [.sl false 0 0 1 ps.length c] [(0, .ro Kd.rws ps)] 1).holds _
    rw [t13]
    simp only [min64]
    refine ⟨⟨by omega, .inl (by omega)⟩, l13_ok, fun p => p = ⟨ps, c, min ps.length 64, by omega, by omega⟩, ⟨Nat.le_refl _, SImp.of_wk (ren := []) ⟨ps, c, min ps.length 64, by omega, by omega⟩ ?_ rfl⟩, ?_⟩
    · exact ⟨⟨AV.sub_same _, AV.sub_lit', AV.sub_sl (Int.toNat_natCast _) rfl, AV.sub_int (by rw [Int.toNat_natCast]), AV.sub_lit', trivial⟩, ⟨.same _, trivial⟩, rfl, tl_ok rfl, ⟨.inr rfl, trivial⟩, ⟨Nat.le_of_ble_eq_true rfl, rfl⟩⟩
    · rintro _ rfl _ _
      refine ⟨_, _, H, endPlain (AV.sub_int ?_) rfl⟩
      have h1 := lensTo_le ps (min ps.length 64)
      have hk : min ps.length 64 ≤ 64 := by omega
      show IntKind.i64.wrap (IntKind.i64.wrap (1024 * ((1 + lensTo ps (min ps.length 64) : Nat) : Int)) * if IntKind.i64.wrap (2 * ((min ps.length 64 : Nat) : Int)) > 1 then IntKind.i64.wrap (2 * ((min ps.length 64 : Nat) : Int)) else 1) = _
      rw [two64 hk]
      have := bound_is (q := lensTo ps (min ps.length 64)) (by omega) hk
      unfold boundN
      rw [← this]
      congr 1
      split <;> congr 1 <;> omega
  · exact H.elim
theorem hBound2 : HookOk Tryz.prog 14 (hookFree [.rows Kd.rws] runBound) := by
  refine free_hook (C := cfgE1) cfgE1_ok (n := 60) (fn := Tryz.f14) ⟨by kernel_rfl, by kernel_rfl⟩ (by kernel_rfl) ?_
  intro M ar K0 H
  unfold runBound at H
  split at H
  · rename_i ps c
    refine ⟨show 1 ≤ _ by decide +kernel, ?_⟩
    show (runF cfgE1 60 14 Tryz.f14 [.sl false 0 0 1 ps.length c] [(0, .ro Kd.rws ps)] 1).holds _
    rw [t14]
    simp only [min64]
    refine ⟨l14_ok, fun p => p = ⟨ps, c, min ps.length 64, by omega, by omega⟩, ⟨Nat.le_refl _, SImp.of_wk (ren := []) ⟨ps, c, min ps.length 64, by omega, by omega⟩ ?_ rfl⟩, ?_⟩
    · exact ⟨⟨AV.sub_same _, AV.sub_lit', AV.sub_same _, AV.sub_lit', trivial⟩, ⟨.same _, trivial⟩, rfl, tl_ok rfl, ⟨.inr rfl, trivial⟩, ⟨Nat.le_of_ble_eq_true rfl, rfl⟩⟩
    · rintro _ rfl _ _
      refine ⟨_, _, H, endPlain (AV.sub_int ?_) rfl⟩
      have h1 := lensTo_le ps (min ps.length 64)
      have hk : min ps.length 64 ≤ 64 := by omega
      show IntKind.i64.wrap (IntKind.i64.wrap (1024 * IntKind.i64.wrap (((lensTo ps (min ps.length 64) : Nat) : Int) + 1)) * if 1 > IntKind.i64.wrap (2 * ((min ps.length 64 : Nat) : Int)) then 1 else IntKind.i64.wrap (2 * ((min ps.length 64 : Nat) : Int))) = _
      rw [two64 hk, show IntKind.i64.wrap (((lensTo ps (min ps.length 64) : Nat) : Int) + 1) = ((1 + lensTo ps (min ps.length 64) : Nat) : Int) by rw [wrap_nat (by omega)]; omega]
      have := bound_is (q := lensTo ps (min ps.length 64)) (by omega) hk
      unfold boundN
      rw [← this]
      congr 1
      split <;> congr 1 <;> omega
  · exact H.elim
end Sx
end Go.Proofs.YtmcmdghmglopnaaGreatDoor

/-
  Turns, crews: the runs of the machine.
-/
namespace Go.Proofs.YtmcmdghmglopnaaGreatDoor
namespace Sx
open Go
set_option maxRecDepth 100000
set_option linter.unusedVariables false

noncomputable def cfgF0 : Cfg Tryz.prog V := ⟨tab, kinds, fun _ => none, fun _ => none, fun _ _ => none⟩
theorem ft22 (n t : Int) : runF cfgF0 40 22 Tryz.f22 [.int .i64 n, .int .i64 t] [] 0 = Out.needd (n ≠ 0) (Out.needd (n ≠ 0) (Out.fin (.fn 34 [] [.ptr 0 0, .ptr 1 0, .ptr 2 0]) [(2, .cells 3 [.int .i64 ((IntKind.i64.wrap (t.tmod n + n)).tmod n)]), (1, .cells 3 [.int .i64 t]), (0, .cells 3 [.int .i64 n])] 4)) := by kernel_rfl

end Sx
end Go.Proofs.YtmcmdghmglopnaaGreatDoor

