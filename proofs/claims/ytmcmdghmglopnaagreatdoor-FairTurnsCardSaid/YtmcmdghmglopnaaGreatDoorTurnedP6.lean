/-
  The kinds of elements of this seat.
-/
import Derived.Test.YtmcmdghmglopnaaGreatDoorTurnedP5
import Derived.Maps.Range
namespace Go.Proofs.YtmcmdghmglopnaaGreatDoor
namespace Sx
open Go

def rsDec : List AV → Option (Option Addr × Nat × Nat)
  | [.raw (.slice a l c)] => some (a, l, c)
  | [.rs o l c] => some (addrOf o, l, c)
  | [.nilS] => some (none, 0, 0)
  | _ => none
theorem rsBack (cs : List AV) (a : Option Addr × Nat × Nat) (h : rsDec cs = some a) (r : Nm) (vs : List Value) (hr : relL r cs vs) : relL r [.raw (.slice a.1 a.2.1 a.2.2)] vs := by
  unfold rsDec at h
  split at h
  · cases h; exact hr
  · cases h; simp only [relL] at hr; obtain ⟨v, us, rfl, h1, rfl⟩ := hr; exact relL_cons.2 ⟨h1, relL_nil⟩
  · cases h; simp only [relL] at hr; obtain ⟨v, us, rfl, h1, rfl⟩ := hr; exact relL_cons.2 ⟨h1, relL_nil⟩
  · cases h
/-- A row, by its place and its length alone. -/
def rsLay : Enc (Option Addr × Nat × Nat) := ⟨1, false, fun n => [.raw (.slice n.1 n.2.1 n.2.2)], rsDec, (none, 0, 0), fun _ => rfl, rsBack, fun a r vs h => by
  simp only [relL, rel] at h
  obtain ⟨v, us, rfl, rfl, rfl⟩ := h
  intro v hv
  rw [List.mem_singleton] at hv
  subst hv; rfl, by decide⟩

inductive Kd where
  | int | bool | rws | op
  deriving DecidableEq
@[reducible] def kEl : Kd → Type
  | .int => Int
  | .bool => Bool
  | .rws => Option Addr × Nat × Nat
  | .op => Opr
@[reducible] def kEnc : (k : Kd) → Enc (kEl k)
  | .int => intLay
  | .bool => boolLay
  | .rws => rsLay
  | .op => Opr.lay
/-- A map of numbers that is gone over: all entries, those that are still to come, and the one at hand. -/
structure Walk where
  m : List (Int × Int)
  left : List (Int × Int)
  cur : Option (Int × Int)
def KV (es : List MapEntry) (m : List (Int × Int)) : Prop := es.map (fun e => (e.key, e.val)) = m.map (fun q => (Value.int .i64 q.1, Value.int .i64 q.2))
def Walk.D (x : Walk) (r : Nat) (H : Hp) : Prop := ∃ b es clock since seen c0, b ≠ r ∧ H = (Hp.one b (.map es clock)).join (Hp.one r (.mapIter (some b) since seen c0)) ∧ KV es.toList x.m ∧ MapKept.Stamped es clock ∧ (∀ y ∈ es.toList, y.born < since) ∧ since ≤ c0 ∧ since ≤ clock ∧
  KV (leftOf es seen).toList x.left ∧ (∀ q, x.cur = some q → ∃ (seen' : Array Nat) (e : MapEntry), e ∈ es.toList ∧ seen = seen'.push e.born ∧ c0 = clock ∧ e.key = .int .i64 q.1 ∧ e.val = .int .i64 q.2)
abbrev V : Uni := ⟨Kd, inferInstance, kEl, kEnc, Walk, Walk.D⟩
instance plainV : Plain V := ⟨fun k a f => by cases k <;> rfl⟩
instance bareV : Bare V := ⟨fun k a => by cases k <;> rfl⟩

def kinds : Kinds V := fun t => match t with
  | 3 => some .int
  | 4 => some .bool
  | 37 => some .rws
  | 39 => some .op
  | _ => none
theorem kinds_met : kinds.met tab := by
  intro e k h
  unfold kinds at h
  split at h <;> cases h
  · exact ⟨ty3, rfl, rfl, rfl, by decide, fun r vs h => h⟩
  · exact ⟨ty4, rfl, rfl, rfl, by decide, fun r vs h => h⟩
  · exact ⟨ty37, rfl, rfl, rfl, by decide, fun r vs h => rsBack [.nilS] (none, 0, 0) rfl r vs h⟩
  · exact ⟨ty39, rfl, rfl, rfl, by decide, fun r vs h => h⟩
theorem mixed_met : Tryz.prog.follows .mixedOrders = true := by kernel_rfl
noncomputable def fnsOf (l : List (Nat × Func)) : Nat → Option Func := fun g => l.lookup g
end Sx
end Go.Proofs.YtmcmdghmglopnaaGreatDoor

/-
  How often each comes: the runs of the machine.
-/
namespace Go.Proofs.YtmcmdghmglopnaaGreatDoor
namespace Sx
open Go
set_option maxRecDepth 100000
set_option linter.unusedVariables false

noncomputable def cfgI : Cfg Tryz.prog V := ⟨tab, kinds, fun _ => none, fun _ => none, fun _ _ => none⟩
structure StP where
  l : List Int
  c : Nat
  m : Nat
  hb : l.length ≤ 1099511627776
  hn : 1 ≤ m ∧ m ≤ 4096
abbrev TS : List Nat := [0, 1, 2, 3, 4, 5, 6]
/-- Steps' loop: how many picks are over, the counters. -/
def StI (p : StP) (x : Nat × List Int) : St V := ⟨[(1, .int .i64 (p.m : Int)), (5, .sl false 2 0 1 p.m p.m), (16, .sl false 0 0 1 p.l.length p.c), (17, .int .i64 (p.l.length : Int)), (18, .int .i64 (x.1 : Int))], [(2, .arr 3 Kd.int x.2 0), (0, .ro Kd.int p.l)], 3, 37, TS⟩
def CntOf (l : List Int) (m : Nat) (cs : List Int) : Prop := cs.length = m ∧ ∀ t : Nat, t < m → cs[t]? = some ((l.count (t : Int) : Nat) : Int)
def StZ (p : StP) : St V := StI p (0, List.replicate p.m 0)
def StE (p : StP) (y : List Int) : St V := StI p (p.l.length, y)
def StC (p : StP) (y : List Int) : Prop := CntOf p.l p.m y
def StL : LoopS V := trimLoop (trimSt [1, 5, 16, 17, 18] [0, 2]) (loopH 3 StZ StC StE)
noncomputable def cfgSt : Cfg Tryz.prog V := ⟨tab, kinds, fun _ => none, fun _ => none, fun f id => match f, id with | 20, 0 => some StL | _, _ => none⟩
theorem lb20 (p : StP) (x : Nat × List Int) : runCode cfgI 60 20 (loopOf Tryz.f20 0) (StI p x) (stopT (trimSt [1, 5, 16, 17, 18] [0, 2])) = Out.ite (decide ((↑x.1 : Int) < (↑p.l.length : Int))) (Out.needd (0 ≤ (↑x.1 : Int) ∧ (↑x.1 : Int) < (↑p.l.length : Int)) (Out.needd (0 + x.1 < p.l.length) (Out.ite (decide (p.l.getD (0 + x.1) (V.enc Kd.int).dflt ≥ 0)) (Out.ite (decide (p.l.getD (0 + x.1) (V.enc Kd.int).dflt < (↑p.3 : Int))) (Out.needd (0 ≤ p.l.getD (0 + x.1) (V.enc Kd.int).dflt ∧ p.l.getD (0 + x.1) (V.enc Kd.int).dflt < (↑p.3 : Int)) (Out.needd (0 + Int.toNat (p.l.getD (0 + x.1) (V.enc Kd.int).dflt) < x.snd.length) (Out.needd (0 ≤ p.l.getD (0 + x.1) (V.enc Kd.int).dflt ∧ p.l.getD (0 + x.1) (V.enc Kd.int).dflt < (↑p.3 : Int)) (Out.needd (0 + Int.toNat (p.l.getD (0 + x.1) (V.enc Kd.int).dflt) < x.snd.length) (Out.stop EX.nx {env := [(1, .int .i64 (↑p.3 : Int)), (5, .sl false 2 0 1 p.3 p.3), (16, .sl false 0 0 1 p.l.length p.2), (17, .int .i64 (↑p.l.length : Int)), (18, .int .i64 (IntKind.i64.wrap ((↑x.1 : Int) + 1)))], heap := [(2, .arr 3 Kd.int (x.snd.set (0 + Int.toNat (p.l.getD (0 + x.1) (V.enc Kd.int).dflt)) (IntKind.i64.wrap (x.snd.getD (0 + Int.toNat (p.l.getD (0 + x.1) (V.enc Kd.int).dflt)) (V.enc Kd.int).dflt + 1))) 0), (0, .ro Kd.int p.l)], nx := 4, nt := 37, tl := [2, 0, 1, 2, 3, 4, 5, 6] : St V }))))) (Out.stop EX.nx {env := [(1, .int .i64 (↑p.3 : Int)), (5, .sl false 2 0 1 p.3 p.3), (16, .sl false 0 0 1 p.l.length p.2), (17, .int .i64 (↑p.l.length : Int)), (18, .int .i64 (IntKind.i64.wrap ((↑x.1 : Int) + 1)))], heap := [(2, .arr 3 Kd.int x.snd 0), (0, .ro Kd.int p.l)], nx := 3, nt := 37, tl := [0, 1, 2, 3, 4, 5, 6] : St V })) (Out.stop EX.nx {env := [(1, .int .i64 (↑p.3 : Int)), (5, .sl false 2 0 1 p.3 p.3), (16, .sl false 0 0 1 p.l.length p.2), (17, .int .i64 (↑p.l.length : Int)), (18, .int .i64 (IntKind.i64.wrap ((↑x.1 : Int) + 1)))], heap := [(2, .arr 3 Kd.int x.snd 0), (0, .ro Kd.int p.l)], nx := 3, nt := 37, tl := [0, 1, 2, 3, 4, 5, 6] : St V })))) (Out.stop (EX.ex 0) {env := [(1, .int .i64 (↑p.3 : Int)), (5, .sl false 2 0 1 p.3 p.3), (16, .sl false 0 0 1 p.l.length p.2), (17, .int .i64 (↑p.l.length : Int)), (18, .int .i64 (↑x.1 : Int))], heap := [(2, .arr 3 Kd.int x.snd 0), (0, .ro Kd.int p.l)], nx := 3, nt := 37, tl := [0, 1, 2, 3, 4, 5, 6] : St V }) := by kernel_rfl
theorem lt20 (l : List Int) (c : Nat) (n : Int) : runF cfgSt 60 20 Tryz.f20 [.sl false 0 0 1 l.length c, .int .i64 n] [(0, .ro Kd.int l)] 2 = .ite (decide (n < 1)) (.fin .nilS [(0, .ro Kd.int l)] 2) (.ite (decide (n > 4096)) (.fin .nilS [(0, .ro Kd.int l)] 2) (.needd (0 ≤ n ∧ n ≤ n ∧ 8 * n ≤ 281474976710656) (.need (LoopFor Tryz.prog 20 0 (loopOf Tryz.f20 0) StL) (.ex (StP → Prop) fun c0 => .need ((3 : Nat) ≤ 3 ∧ SImp 3 (⟨[(1, .int .i64 n), (5, .sl false 2 0 1 n.toNat n.toNat), (16, .sl false 0 0 1 l.length c), (17, .int .i64 (l.length : Int)), (18, .lit .i64 0)], [(2, .arr 3 Kd.int (List.replicate n.toNat (0 : Int)) (n.toNat - n.toNat)), (0, .ro Kd.int l)], 3, 37, []⟩ : St V) StZ c0) (.all StP fun p => .asm (c0 p) (.all (List Int) fun y => .asm (StC p y) (.fin (.sl false 2 0 1 p.m p.m) [(2, .arr 3 Kd.int y 0), (0, .ro Kd.int p.l)] 3))))))) := by kernel_rfl

end Sx
end Go.Proofs.YtmcmdghmglopnaaGreatDoor

/-
  picks.Steps, for all callers.
-/
namespace Go.Proofs.YtmcmdghmglopnaaGreatDoor
namespace Sx
open Go
set_option linter.unusedSimpArgs false
set_option linter.unusedVariables false

theorem cfgI_ok : cfgI.ok := ⟨tab_met, kinds_met, mixed_met, fun g fn h => (by cases h), fun g H h => (by cases h)⟩
theorem cfgSt_ok : cfgSt.ok := ⟨tab_met, kinds_met, mixed_met, fun g fn h => (by cases h), fun g H h => (by cases h)⟩
theorem count_take {l : List Int} {i : Nat} {t : Int} (h : l[i]? = some t) (x : Int) : (l.take (i + 1)).count x = (l.take i).count x + if t = x then 1 else 0 := by
  rw [List.take_add_one, h, Option.toList_some, List.count_append, List.count_singleton]
  by_cases e : t = x
  · subst e; simp
  · simp [e]
theorem em3 {xs ys : List Int} {s t : Nat} (h : xs = ys) (k : s = t) : BSub (some (.arr 3 Kd.int xs s : Blk V)) (.arr 3 Kd.int ys t) := by rw [h, k]; exact .same _
theorem stl_ok : LoopOk Tryz.prog 0 (loopOf Tryz.f20 0) StL := by
  refine trimLoop_ok (trim_ok _ _) (loopTH_ok (C := cfgI) cfgI_ok (f := 20) (n := 60) (trim_ok [1, 5, 16, 17, 18] [0, 2]) 3 StI (fun p x => x.1 ≤ p.l.length ∧ x.2.length = p.m ∧ ∀ t : Nat, t < p.m → x.2[t]? = some (((p.l.take x.1).count (t : Int) : Nat) : Int)) (fun p => (0, List.replicate p.m 0)) (fun p x => p.l.length - x.1)
    StC StE (fun p => ⟨Nat.zero_le _, by simp, fun t ht => by simp [ht]⟩) ?_)
  intro p x ⟨hi, hlen, hx⟩
  rw [lb20]
  have hb := p.hb
  simp only [Out.holds, decide_eq_true_eq, decide_eq_false_iff_not]
  by_cases hlt : x.1 < p.l.length
  · refine ⟨fun _ => ⟨by omega, by omega, ?_⟩, fun h => absurd hlt (by omega)⟩
    have hget : p.l[x.1]? = some (p.l.getD (0 + x.1) 0) := by
      rw [Nat.zero_add, List.getD_eq_getElem?_getD, List.getElem?_eq_getElem hlt]; rfl
    rw [show (V.enc Kd.int).dflt = (0 : Int) from rfl]
    generalize p.l.getD (0 + x.1) 0 = t at hget
    have hw : IntKind.wrap .i64 ((x.1 : Int) + 1) = ((x.1 + 1 : Nat) : Int) := wrap_nat (by omega)
    have skip : ¬ (0 ≤ t ∧ t < p.m) → SImp 3 (⟨[(1, .int .i64 (p.m : Int)), (5, .sl false 2 0 1 p.m p.m), (16, .sl false 0 0 1 p.l.length p.c), (17, .int .i64 (p.l.length : Int)), (18, .int .i64 (IntKind.wrap .i64 ((x.1 : Int) + 1)))], [(2, .arr 3 Kd.int x.2 0), (0, .ro Kd.int p.l)], 3, 37, [0, 1, 2, 3, 4, 5, 6]⟩ : St V) (StI p) (fun y => (y.1 ≤ p.l.length ∧ y.2.length = p.m ∧ ∀ t : Nat, t < p.m → y.2[t]? = some (((p.l.take y.1).count (t : Int) : Nat) : Int)) ∧ p.l.length - y.1 < p.l.length - x.1) := by
      intro hv
      refine SImp.of_wk (ren := []) (x.1 + 1, x.2) ?_ ⟨⟨hlt, hlen, fun u hu => ?_⟩, ?_⟩
      · exact ⟨⟨AV.sub_same _, AV.sub_same _, AV.sub_same _, AV.sub_same _, AV.sub_int hw, trivial⟩, ⟨.same _, .same _, trivial⟩, rfl, tl_ok rfl, ⟨.inl (in_ok rfl), .inl (in_ok rfl), trivial⟩, ⟨Nat.le_of_ble_eq_true rfl, rfl⟩⟩
      · rw [hx u hu, count_take hget, if_neg (by omega)]; rfl
      · show p.l.length - (x.1 + 1) < p.l.length - x.1; omega
    refine ⟨fun h0 => ⟨fun h1 => ?_, fun h1 => skip (by omega)⟩, fun h0 => skip (by omega)⟩
    have ht : t.toNat < p.m := by omega
    refine ⟨⟨h0, h1⟩, by omega, ⟨h0, h1⟩, by omega, ?_⟩
    have hold := hx t.toNat ht
    have hd : x.2.getD (0 + t.toNat) 0 = (((p.l.take x.1).count ((t.toNat : Nat) : Int) : Nat) : Int) := by
      rw [Nat.zero_add, List.getD_eq_getElem?_getD, hold]; rfl
    have hc : (p.l.take x.1).count ((t.toNat : Nat) : Int) ≤ p.l.length := Nat.le_trans List.count_le_length (by rw [List.length_take]; omega)
    have hw2 : IntKind.wrap .i64 ((((p.l.take x.1).count ((t.toNat : Nat) : Int) : Nat) : Int) + 1) = (((p.l.take x.1).count ((t.toNat : Nat) : Int) + 1 : Nat) : Int) := wrap_nat (by omega)
    rw [hd, hw2]
    refine SImp.of_wk (ren := []) (x.1 + 1, x.2.set (0 + t.toNat) (((p.l.take x.1).count ((t.toNat : Nat) : Int) + 1 : Nat) : Int)) ?_ ⟨⟨hlt, by rw [List.length_set]; exact hlen, fun u hu => ?_⟩, ?_⟩
    · exact ⟨⟨AV.sub_same _, AV.sub_same _, AV.sub_same _, AV.sub_same _, AV.sub_int hw, trivial⟩, ⟨.same _, .same _, trivial⟩, rfl, tl_ok rfl, ⟨.inl (in_ok rfl), .inl (in_ok rfl), trivial⟩, ⟨Nat.le_of_ble_eq_true rfl, rfl⟩⟩
    · rw [count_take hget]
      by_cases e : u = t.toNat
      · subst e
        rw [if_pos (by omega), Nat.zero_add]
        show (x.2.set t.toNat _)[t.toNat]? = _
        rw [List.getElem?_set_self (by omega)]
      · rw [if_neg (by omega), Nat.add_zero]
        show (x.2.set (0 + t.toNat) _)[u]? = _
        rw [List.getElem?_set_ne (by omega)]
        exact hx u hu
    · show p.l.length - (x.1 + 1) < p.l.length - x.1; omega
  · refine ⟨fun h => absurd h (by omega), fun _ => ⟨trivial, ?_⟩⟩
    have he : x.1 = p.l.length := by omega
    refine SImp.of_wk (ren := []) x.2 ?_ ⟨hlen, fun t ht => by rw [hx t ht, he, List.take_length]⟩
    exact ⟨⟨AV.sub_same _, AV.sub_same _, AV.sub_same _, AV.sub_same _, AV.sub_int (by rw [he]), trivial⟩, ⟨.same _, .same _, trivial⟩, rfl, tl_ok rfl, ⟨.inl (in_ok rfl), .inl (in_ok rfl), trivial⟩, ⟨Nat.le_of_ble_eq_true rfl, rfl⟩⟩
/-- How often each thread comes. -/
def runSteps : RunFree V := fun ar K => match ar with
  | [.rows .int l c, .int .i64 n] => .need (l.length ≤ 1099511627776) (.ite (decide (1 ≤ n) && decide (n ≤ 4096)) (.all (List Int) fun cs => .asm (CntOf l n.toNat cs) (K (.sl false 0 0 1 n.toNat n.toNat) [.arr 3 Kd.int cs 0])) (K .nilS []))
  | _ => .bad 810
theorem hSteps : HookOk Tryz.prog 20 (hookFree [.rows Kd.int, .int .i64] runSteps) := by
  refine free_hook (C := cfgSt) cfgSt_ok (n := 60) (fn := Tryz.f20) ⟨by kernel_rfl, by kernel_rfl⟩ (by kernel_rfl) ?_
  intro M ar K0 H
  unfold runSteps at H
  split at H
  · rename_i l c n
    obtain ⟨hb, H⟩ := H
    refine ⟨show 2 ≤ _ by decide +kernel, ?_⟩
    show (runF cfgSt 60 20 Tryz.f20 [.sl false 0 0 1 l.length c, .int .i64 n] [(0, .ro Kd.int l)] 2).holds _
    rw [lt20]
    simp only [Out.holds, decide_eq_true_eq, decide_eq_false_iff_not] at H ⊢
    refine ⟨fun h => ?_, fun h1 => ⟨fun h => ?_, fun h2 => ?_⟩⟩
    · have hc : (decide (1 ≤ n) && decide (n ≤ 4096)) = false := by
        rw [Bool.eq_false_iff]; simp only [ne_eq, Bool.and_eq_true, decide_eq_true_eq]; omega
      exact ⟨_, _, H.2 hc, endPlain (AV.sub_same _) rfl⟩
    · have hc : (decide (1 ≤ n) && decide (n ≤ 4096)) = false := by
        rw [Bool.eq_false_iff]; simp only [ne_eq, Bool.and_eq_true, decide_eq_true_eq]; omega
      exact ⟨_, _, H.2 hc, endPlain (AV.sub_same _) rfl⟩
    · have hc : (decide (1 ≤ n) && decide (n ≤ 4096)) = true := by
        simp only [Bool.and_eq_true, decide_eq_true_eq]; omega
      have H := H.1 hc
      refine ⟨by omega, stl_ok, fun p => p = ⟨l, c, n.toNat, hb, by omega⟩, ⟨Nat.le_refl _, SImp.of_wk (ren := []) ⟨l, c, n.toNat, hb, by omega⟩ ?_ rfl⟩, ?_⟩
      · exact ⟨⟨AV.sub_int (show n = ((n.toNat : Nat) : Int) by omega), AV.sub_same _, AV.sub_same _, AV.sub_same _, AV.sub_lit', trivial⟩, ⟨em3 rfl (Nat.sub_self _), .same _, trivial⟩, rfl, tl_ok rfl, ⟨.inr (by rw [Nat.sub_self]; rfl), .inr rfl, trivial⟩, ⟨Nat.le_of_ble_eq_true rfl, rfl⟩⟩
      · intro p hp y hy
        subst hp
        exact ⟨_, _, H y hy, _, HImp.refl _ _, ⟨⟨fun _ => 2, ⟨.same _, trivial⟩, AV.sub_same _⟩, rfl, rfl⟩⟩
  · exact H.elim
end Sx
end Go.Proofs.YtmcmdghmglopnaaGreatDoor

/-
  Turns, crews: the runs of the machine.
-/
namespace Go.Proofs.YtmcmdghmglopnaaGreatDoor
namespace Sx
open Go
set_option maxRecDepth 100000
set_option linter.unusedVariables false

noncomputable def cfgF0 : Cfg Tryz.prog V := ⟨tab, kinds, fun _ => none, fun _ => none, fun _ _ => none⟩
theorem ft22 (n t : Int) : runF cfgF0 40 22 Tryz.f22 [.int .i64 n, .int .i64 t] [] 0 = Out.needd (n ≠ 0) (Out.needd (n ≠ 0) (Out.fin (.fn 34 [] [.ptr 0 0, .ptr 1 0, .ptr 2 0]) [(2, .cells 3 [.int .i64 ((IntKind.i64.wrap (t.tmod n + n)).tmod n)]), (1, .cells 3 [.int .i64 t]), (0, .cells 3 [.int .i64 n])] 4)) := by kernel_rfl

end Sx
end Go.Proofs.YtmcmdghmglopnaaGreatDoor

