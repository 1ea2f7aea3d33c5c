/-
  The kinds of elements of this seat.
-/
import Derived.Test.YtmcmdghmglopnaaGreatDoorGrowingP5
import Derived.Maps.Range
namespace Go.Proofs.YtmcmdghmglopnaaGreatDoor
namespace Sx
open Go

def rsDec : List AV → Option (Option Addr × Nat × Nat)
  | [.raw (.slice a l c)] => some (a, l, c)
  | [.rs o l c] => some (addrOf o, l, c)
  | [.nilS] => some (none, 0, 0)
  | _ => none
theorem rsBack (cs : List AV) (a : Option Addr × Nat × Nat) (h : rsDec cs = some a) (r : Nm) (vs : List Value) (hr : relL r cs vs) : relL r [.raw (.slice a.1 a.2.1 a.2.2)] vs := by
  unfold rsDec at h
  split at h
  · cases h; exact hr
  · cases h; simp only [relL] at hr; obtain ⟨v, us, rfl, h1, rfl⟩ := hr; exact relL_cons.2 ⟨h1, relL_nil⟩
  · cases h; simp only [relL] at hr; obtain ⟨v, us, rfl, h1, rfl⟩ := hr; exact relL_cons.2 ⟨h1, relL_nil⟩
  · cases h
/-- A row, by its place and its length alone. -/
def rsLay : Enc (Option Addr × Nat × Nat) := ⟨1, false, fun n => [.raw (.slice n.1 n.2.1 n.2.2)], rsDec, (none, 0, 0), fun _ => rfl, rsBack, fun a r vs h => by
  simp only [relL, rel] at h
  obtain ⟨v, us, rfl, rfl, rfl⟩ := h
  intro v hv
  rw [List.mem_singleton] at hv
  subst hv; rfl, by decide⟩

inductive Kd where
  | int | bool | rws | op
  deriving DecidableEq
@[reducible] def kEl : Kd → Type
  | .int => Int
  | .bool => Bool
  | .rws => Option Addr × Nat × Nat
  | .op => Opr
@[reducible] def kEnc : (k : Kd) → Enc (kEl k)
  | .int => intLay
  | .bool => boolLay
  | .rws => rsLay
  | .op => Opr.lay
/-- A map of numbers that is gone over: all entries, those that are still to come, and the one at hand. -/
structure Walk where
  m : List (Int × Int)
  left : List (Int × Int)
  cur : Option (Int × Int)
def KV (es : List MapEntry) (m : List (Int × Int)) : Prop := es.map (fun e => (e.key, e.val)) = m.map (fun q => (Value.int .i64 q.1, Value.int .i64 q.2))
def Walk.D (x : Walk) (r : Nat) (H : Hp) : Prop := ∃ b es clock since seen c0, b ≠ r ∧ H = (Hp.one b (.map es clock)).join (Hp.one r (.mapIter (some b) since seen c0)) ∧ KV es.toList x.m ∧ MapKept.Stamped es clock ∧ (∀ y ∈ es.toList, y.born < since) ∧ since ≤ c0 ∧ since ≤ clock ∧
  KV (leftOf es seen).toList x.left ∧ (∀ q, x.cur = some q → ∃ (seen' : Array Nat) (e : MapEntry), e ∈ es.toList ∧ seen = seen'.push e.born ∧ c0 = clock ∧ e.key = .int .i64 q.1 ∧ e.val = .int .i64 q.2)
abbrev V : Uni := ⟨Kd, inferInstance, kEl, kEnc, Walk, Walk.D⟩
instance plainV : Plain V := ⟨fun k a f => by cases k <;> rfl⟩
instance bareV : Bare V := ⟨fun k a => by cases k <;> rfl⟩

def kinds : Kinds V := fun t => match t with
  | 3 => some .int
  | 4 => some .bool
  | 37 => some .rws
  | 39 => some .op
  | _ => none
theorem kinds_met : kinds.met tab := by
  intro e k h
  unfold kinds at h
  split at h <;> cases h
  · exact ⟨ty3, rfl, rfl, rfl, by decide, fun r vs h => h⟩
  · exact ⟨ty4, rfl, rfl, rfl, by decide, fun r vs h => h⟩
  · exact ⟨ty37, rfl, rfl, rfl, by decide, fun r vs h => rsBack [.nilS] (none, 0, 0) rfl r vs h⟩
  · exact ⟨ty39, rfl, rfl, rfl, by decide, fun r vs h => h⟩
theorem mixed_met : Tryz.prog.follows .mixedOrders = true := by kernel_rfl
noncomputable def fnsOf (l : List (Nat × Func)) : Nat → Option Func := fun g => l.lookup g
end Sx
end Go.Proofs.YtmcmdghmglopnaaGreatDoor

/-
  Rows compared, bounds: the runs of the machine.
-/
namespace Go.Proofs.YtmcmdghmglopnaaGreatDoor
namespace Sx
open Go
set_option maxRecDepth 100000
set_option linter.unusedVariables false

noncomputable def fnsB : Nat → Option Func := fun g => match g with | 23 => some Tryz.f23 | _ => none
noncomputable def cfgE : Cfg Tryz.prog V := ⟨tab, kinds, fnsB, fun _ => none, fun _ _ => none⟩
/-! Rows of numbers compared. -/
structure WI where
  xs : List Int
  c : Nat
  ys : List Int
  d : Nat
  hl : xs.length = ys.length
  hb : xs.length ≤ 1099511627776
abbrev TQ : List Nat := [0, 1, 2, 3, 4, 5, 6, 7, 8, 9, 10]
def I10 (p : WI) (i : Nat) : St V := ⟨[(0, .sl false 0 0 1 p.xs.length p.c), (1, .sl false 1 0 1 p.ys.length p.d), (5, .int .i64 (i : Int))], [(0, .ro Kd.int p.xs), (1, .ro Kd.int p.ys)], 2, 26, TQ⟩
def R10 (p : WI) : St V := ⟨[(4, .ff)], [(0, .ro Kd.int p.xs), (1, .ro Kd.int p.ys)], 2, 26, TQ⟩
def L10 : LoopS V := trimLoop (trimSt [0, 1, 5] [0, 1]) (loopG 2 (fun p : WI => I10 p 0) (fun p (_ : Unit) => p.xs = p.ys) (fun p _ => I10 p p.xs.length) (fun p (_ : Unit) => p.xs ≠ p.ys) (fun p _ => R10 p))
/-! Bounds. -/
abbrev Hd := Option Addr × Nat × Nat
structure BdP where
  ps : List Hd
  c : Nat
  t : Nat
  ht : t ≤ ps.length
  h64 : t ≤ 64
/-- The lengths of so many rows, each at most 1024. -/
def lensTo (ps : List Hd) (i : Nat) : Nat := ((ps.take i).map fun h => min h.2.1 1024).foldl (· + ·) 0
def I13 (p : BdP) (i : Nat) : St V := ⟨[(0, .sl false 0 0 1 p.ps.length p.c), (3, .int .i64 ((1 + lensTo p.ps i : Nat) : Int)), (9, .sl false 0 0 1 p.t p.c), (10, .int .i64 (p.t : Int)), (11, .int .i64 (i : Int))], [(0, .ro Kd.rws p.ps)], 1, 28, TQ⟩
def I14 (p : BdP) (i : Nat) : St V := ⟨[(0, .sl false 0 0 1 p.ps.length p.c), (3, .int .i64 (lensTo p.ps i : Int)), (4, .int .i64 (p.t : Int)), (5, .int .i64 (i : Int))], [(0, .ro Kd.rws p.ps)], 1, 29, TQ⟩
def L13 : LoopS V := trimLoop (trimSt [0, 3, 9, 10, 11] [0]) (loopH 1 (fun p : BdP => I13 p 0) (fun _ (_ : Unit) => True) (fun p _ => I13 p p.t))
def L14 : LoopS V := trimLoop (trimSt [0, 3, 4, 5] [0]) (loopH 1 (fun p : BdP => I14 p 0) (fun _ (_ : Unit) => True) (fun p _ => I14 p p.t))
noncomputable def cfgE1 : Cfg Tryz.prog V := ⟨tab, kinds, fnsB, fun _ => none, fun f id => match f, id with | 10, 0 => some L10 | 13, 0 => some L13 | 14, 0 => some L14 | _, _ => none⟩
theorem b13 (p : BdP) (i : Nat) : runCode cfgE 60 13 (loopOf Tryz.f13 0) (I13 p i) (stopT (trimSt [0, 3, 9, 10, 11] [0])) = Out.ite (decide ((↑i : Int) < (↑p.3 : Int))) (Out.needd (0 ≤ (↑i : Int) ∧ (↑i : Int) < (↑p.3 : Int)) (Out.needd (0 + i < p.ps.length) (Out.stop EX.nx {env := [(0, .sl false 0 0 1 p.ps.length p.2), (3, .int .i64 (IntKind.i64.wrap ((↑(1 + lensTo p.ps i) : Int) + if 1024 < (↑(p.ps.getD (0 + i) (V.enc Kd.rws).dflt).snd.fst : Int) then 1024 else (↑(p.ps.getD (0 + i) (V.enc Kd.rws).dflt).snd.fst : Int)))), (9, .sl false 0 0 1 p.3 p.2), (10, .int .i64 (↑p.3 : Int)), (11, .int .i64 (IntKind.i64.wrap ((↑i : Int) + 1)))], heap := [(0, .ro Kd.rws p.ps)], nx := 1, nt := 28, tl := [0, 1, 2, 3, 4, 5, 6, 7, 8, 9, 10] : St V }))) (Out.stop (EX.ex 0) {env := [(0, .sl false 0 0 1 p.ps.length p.2), (3, .int .i64 (↑(1 + lensTo p.ps i) : Int)), (9, .sl false 0 0 1 p.3 p.2), (10, .int .i64 (↑p.3 : Int)), (11, .int .i64 (↑i : Int))], heap := [(0, .ro Kd.rws p.ps)], nx := 1, nt := 28, tl := [0, 1, 2, 3, 4, 5, 6, 7, 8, 9, 10] : St V }) := by kernel_rfl

theorem t13 (ps : List Hd) (c : Nat) : runF cfgE1 60 13 Tryz.f13 [.sl false 0 0 1 ps.length c] [(0, .ro Kd.rws ps)] 1 = Out.needd ((0 ≤ if 64 < (↑ps.length : Int) then 64 else (↑ps.length : Int)) ∧ ((if 64 < (↑ps.length : Int) then 64 else (↑ps.length : Int)) ≤ (↑ps.length : Int) ∨ (if 64 < (↑ps.length : Int) then 64 else (↑ps.length : Int)) ≤ (↑c : Int))) (Out.need (LoopFor Tryz.prog 13 0 (loopOf Tryz.f13 0) L13) (Out.ex (BdP → Prop) fun y => Out.need (1 ≤ 1 ∧ SImp 1 {env := [(0, .sl false 0 0 1 ps.length c), (3, .lit .i64 1), (9, .sl false 0 0 1 (if 64 < (↑ps.length : Int) then 64 else (↑ps.length : Int)).toNat c), (10, .int .i64 (↑(if 64 < (↑ps.length : Int) then 64 else (↑ps.length : Int)).toNat : Int)), (11, .lit .i64 0)], heap := [(0, .ro Kd.rws ps)], nx := 1, nt := 28, tl := [] : St V } (fun p => I13 p 0) y) (Out.all BdP fun y_1 => Out.asm (y y_1) (Out.all Unit fun y => Out.asm ((fun x x_1 => True) y_1 y) (Out.fin (.int .i64 (IntKind.i64.wrap (IntKind.i64.wrap (1024 * (↑(1 + lensTo y_1.ps y_1.3) : Int)) * if IntKind.i64.wrap (2 * if 64 < (↑y_1.ps.length : Int) then 64 else (↑y_1.ps.length : Int)) > 1 then IntKind.i64.wrap (2 * if 64 < (↑y_1.ps.length : Int) then 64 else (↑y_1.ps.length : Int)) else 1))) [(0, .ro Kd.rws y_1.ps)] 1))))) := by kernel_rfl

end Sx
end Go.Proofs.YtmcmdghmglopnaaGreatDoor

/-
  Rows of numbers compared; bounds: the functions' contracts.
-/
namespace Go.Proofs.YtmcmdghmglopnaaGreatDoor
namespace Sx
open Go
set_option linter.unusedSimpArgs false
set_option linter.unusedVariables false

theorem cfgE_ok : cfgE.ok := by
  refine ⟨tab_met, kinds_met, mixed_met, fun g fn h => ?_, fun g H h => (by cases h)⟩
  unfold cfgE fnsB at h
  simp only at h
  split at h <;> cases h <;> exact ⟨by kernel_rfl, by kernel_rfl⟩
theorem cfgE1_ok : cfgE1.ok := ⟨cfgE_ok.τ, cfgE_ok.κ, cfgE_ok.mixed, cfgE_ok.fns, cfgE_ok.hooks⟩

def runInts : RunFree V := fun ar K => match ar with
  | [.rows .int xs c, .rows .int ys d] => .need (xs.length ≤ 1099511627776) (K (.bool (decide (xs = ys))) [])
  | _ => .bad 500
/-! ## bounds -/
theorem lensTo_succ {ps : List Hd} {i : Nat} (h : i < ps.length) : lensTo ps (i + 1) = lensTo ps i + min (ps.getD i (none, 0, 0)).2.1 1024 := by
  unfold lensTo
  rw [List.take_succ_eq_append_getElem h, List.map_append, List.foldl_append, List.getD_eq_getElem?_getD, List.getElem?_eq_getElem h]
  rfl
theorem lensTo_le (ps : List Hd) : ∀ i : Nat, lensTo ps i ≤ 1024 * i
  | 0 => by simp [lensTo]
  | i + 1 => by
    have ih := lensTo_le ps i
    by_cases h : i < ps.length
    · rw [lensTo_succ h]; omega
    · have : lensTo ps (i + 1) = lensTo ps i := by unfold lensTo; rw [List.take_of_length_le (by omega), List.take_of_length_le (by omega)]
      omega
theorem lens_step {ps : List Hd} {i : Nat} {z : Int} {k : Nat} (hi : i < 64) (h : i < ps.length) (hk : k ≤ 1) :
    IntKind.i64.wrap (((k + lensTo ps i : Nat) : Int) + if 1024 < ((ps.getD (0 + i) (V.enc Kd.rws).dflt).snd.fst : Int) then 1024 else ((ps.getD (0 + i) (V.enc Kd.rws).dflt).snd.fst : Int)) = ((k + lensTo ps (i + 1) : Nat) : Int) := by
  rw [lensTo_succ h, Nat.zero_add, show (V.enc Kd.rws).dflt = (none, 0, 0) from rfl]
  have := lensTo_le ps i
  generalize ps.getD i (none, 0, 0) = q
  rw [wrap_low]
  · split <;> omega
  · split <;> omega
  · split <;> omega
theorem l13_ok : LoopOk Tryz.prog 0 (loopOf Tryz.f13 0) L13 := by
  refine trimLoop_ok (trim_ok _ _) (loopTH_ok (C := cfgE) cfgE_ok (f := 13) (n := 60) (trim_ok [0, 3, 9, 10, 11] [0]) 1 I13 (fun p i => i ≤ p.t) (fun _ => 0) (fun p i => p.t - i)
    (fun _ (_ : Unit) => True) (fun p _ => I13 p p.t) (fun p => Nat.zero_le _) ?_)
  intro p i hi
  rw [b13]
  have ht := p.ht
  have h64 := p.h64
  simp only [Out.holds, decide_eq_true_eq, decide_eq_false_iff_not]
  by_cases hlt : i < p.t
  · have hw : IntKind.wrap .i64 ((i : Int) + 1) = ((i + 1 : Nat) : Int) := wrap_nat (by omega)
    refine ⟨fun _ => ⟨by omega, by omega, ?_⟩, fun h => absurd hlt (by omega)⟩
    refine SImp.of_wk (ren := []) (i + 1) ?_ ⟨hlt, by omega⟩
    exact ⟨⟨AV.sub_same _, AV.sub_int (lens_step (z := 0) (by omega) (by omega) (Nat.le_refl 1)), AV.sub_same _, AV.sub_same _, AV.sub_int hw, trivial⟩, ⟨.same _, trivial⟩, rfl, tl_ok rfl, ⟨.inr rfl, trivial⟩, ⟨Nat.le_of_ble_eq_true rfl, rfl⟩⟩
  · refine ⟨fun h => absurd h (by omega), fun h => ⟨trivial, ?_⟩⟩
    have he : i = p.t := by omega
    refine SImp.of_wk (ren := []) () ?_ trivial
    exact ⟨⟨AV.sub_same _, AV.sub_int (by rw [he]), AV.sub_same _, AV.sub_same _, AV.sub_int (by rw [he]), trivial⟩, ⟨.same _, trivial⟩, rfl, tl_ok rfl, ⟨.inr rfl, trivial⟩, ⟨Nat.le_of_ble_eq_true rfl, rfl⟩⟩
/-- How many steps there are at most. -/
def boundN (ps : List Hd) : Nat := 1024 * (1 + lensTo ps (min ps.length 64)) * max 1 (2 * min ps.length 64)
theorem bound_is {k : Nat} {q : Nat} (hq : q ≤ 65536) (hk : k ≤ 64) : IntKind.i64.wrap (IntKind.i64.wrap (1024 * ((1 + q : Nat) : Int)) * ((max 1 (2 * k) : Nat) : Int)) = ((1024 * (1 + q) * max 1 (2 * k) : Nat) : Int) := by
  have e1 : IntKind.i64.wrap (1024 * ((1 + q : Nat) : Int)) = ((1024 * (1 + q) : Nat) : Int) := by rw [wrap_low (by omega) (by omega)]; omega
  rw [e1, ← Int.natCast_mul]
  have : 1024 * (1 + q) * max 1 (2 * k) ≤ 67109888 * 128 := Nat.mul_le_mul (by omega) (by omega)
  exact wrap_low (by omega) (by omega)
theorem min64 (n : Nat) : (if 64 < (n : Int) then 64 else (n : Int)) = ((min n 64 : Nat) : Int) := by split <;> omega
theorem two64 {k : Nat} (hk : k ≤ 64) : IntKind.i64.wrap (2 * (k : Int)) = ((2 * k : Nat) : Int) := by rw [wrap_low (by omega) (by omega)]; omega
def runBound : RunFree V := fun ar K => match ar with
  | [.rows .rws ps c] => K (.int .i64 (boundN ps : Int)) []
  | _ => .bad 501
theorem hBound : HookOk Tryz.prog 13 (hookFree [.rows Kd.rws] runBound) := by
  refine free_hook (C := cfgE1) cfgE1_ok (n := 60) (fn := Tryz.f13) ⟨by kernel_rfl, by kernel_rfl⟩ (by kernel_rfl) ?_
  intro M ar K0 H
  unfold runBound at H
  split at H
  · rename_i ps c
    refine ⟨show 1 ≤ _ by decide +kernel, ?_⟩
    show (runF cfgE1 60 13 Tryz.f13 [.sl false 0 0 1 ps.length c] [(0, .ro Kd.rws ps)] 1).holds _
    rw [t13]
    simp only [min64]
    refine ⟨⟨by omega, .inl (by omega)⟩, l13_ok, fun p => p = ⟨ps, c, min ps.length 64, by omega, by omega⟩, ⟨Nat.le_refl _, SImp.of_wk (ren := []) ⟨ps, c, min ps.length 64, by omega, by omega⟩ ?_ rfl⟩, ?_⟩
    · exact ⟨⟨AV.sub_same _, AV.sub_lit', AV.sub_sl (Int.toNat_natCast _) rfl, AV.sub_int (by rw [Int.toNat_natCast]), AV.sub_lit', trivial⟩, ⟨.same _, trivial⟩, rfl, tl_ok rfl, ⟨.inr rfl, trivial⟩, ⟨Nat.le_of_ble_eq_true rfl, rfl⟩⟩
    · rintro _ rfl _ _
      refine ⟨_, _, H, endPlain (AV.sub_int ?_) rfl⟩
      have h1 := lensTo_le ps (min ps.length 64)
      have hk : min ps.length 64 ≤ 64 := by omega
      show IntKind.i64.wrap (IntKind.i64.wrap (1024 * ((1 + lensTo ps (min ps.length 64) : Nat) : Int)) * if IntKind.i64.wrap (2 * ((min ps.length 64 : Nat) : Int)) > 1 then IntKind.i64.wrap (2 * ((min ps.length 64 : Nat) : Int)) else 1) = _
      rw [two64 hk]
      have := bound_is (q := lensTo ps (min ps.length 64)) (by omega) hk
      unfold boundN
      rw [← this]
      congr 1
      split <;> congr 1 <;> omega
  · exact H.elim
end Sx
end Go.Proofs.YtmcmdghmglopnaaGreatDoor

/-
  Turns, crews: the runs of the machine.
-/
namespace Go.Proofs.YtmcmdghmglopnaaGreatDoor
namespace Sx
open Go
set_option maxRecDepth 100000
set_option linter.unusedVariables false

noncomputable def cfgF0 : Cfg Tryz.prog V := ⟨tab, kinds, fun _ => none, fun _ => none, fun _ _ => none⟩
theorem ft22 (n t : Int) : runF cfgF0 40 22 Tryz.f22 [.int .i64 n, .int .i64 t] [] 0 = Out.needd (n ≠ 0) (Out.needd (n ≠ 0) (Out.fin (.fn 34 [] [.ptr 0 0, .ptr 1 0, .ptr 2 0]) [(2, .cells 3 [.int .i64 ((IntKind.i64.wrap (t.tmod n + n)).tmod n)]), (1, .cells 3 [.int .i64 t]), (0, .cells 3 [.int .i64 n])] 4)) := by kernel_rfl

end Sx
end Go.Proofs.YtmcmdghmglopnaaGreatDoor

