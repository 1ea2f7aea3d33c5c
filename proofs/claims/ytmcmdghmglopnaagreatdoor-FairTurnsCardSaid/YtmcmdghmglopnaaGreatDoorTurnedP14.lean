/-
  picks.longest, of known numbers.
-/
import Derived.Test.YtmcmdghmglopnaaGreatDoorTurnedP13
namespace Go.Proofs.YtmcmdghmglopnaaGreatDoor
open Go.RowKit
namespace Sx
open Go

def fairB (l : List Int) (n : Int) (w : Nat) : Bool := (upto n).all fun t => (List.range (l.length + 1 - w)).all fun s => ((l.drop s).take w).any fun x => decide (x = t)
theorem fairB_iff {l : List Int} {n : Int} {w : Nat} : fairB l n w = true ↔ FairP l n w := by
  unfold fairB FairP Covers
  rw [List.all_eq_true]
  constructor
  · intro h t h0 h1 s hs
    have h2 := h t (upto_mem.2 ⟨h0, h1⟩)
    rw [List.all_eq_true] at h2
    have h3 := h2 s (List.mem_range.2 (by omega))
    rw [List.any_eq_true] at h3
    obtain ⟨x, hx, e⟩ := h3
    have e := of_decide_eq_true e
    subst e
    obtain ⟨i, hi⟩ := List.getElem?_of_mem hx
    have hlt := (List.getElem?_eq_some_iff.1 hi).1
    rw [List.length_take] at hlt
    rw [List.getElem?_take_of_lt (by omega), List.getElem?_drop] at hi
    exact ⟨s + i, by omega, by omega, hi⟩
  · intro h t ht
    have ht := upto_mem.1 ht
    rw [List.all_eq_true]
    intro s hs
    have hs := List.mem_range.1 hs
    rw [List.any_eq_true]
    obtain ⟨i, i1, i2, i3⟩ := h t ht.1 ht.2 s (by omega)
    refine ⟨t, ?_, by simp⟩
    refine List.mem_of_getElem? (i := i - s) ?_
    rw [List.getElem?_take_of_lt (by omega), List.getElem?_drop, show s + (i - s) = i by omega]
    exact i3
theorem FairP.succ {l : List Int} {n : Int} {w : Nat} (h : FairP l n w) : FairP l n (w + 1) := fun t h0 h1 s hs => by
  obtain ⟨i, i1, i2, i3⟩ := h t h0 h1 s (by omega)
  exact ⟨i, i1, by omega, i3⟩
theorem FairP.le {l : List Int} {n : Int} {w : Nat} (h : FairP l n w) : ∀ {v : Nat}, w ≤ v → FairP l n v := by
  intro v hv
  induction v with
  | zero => have : w = 0 := by omega
            subst this; exact h
  | succ v ih =>
    rcases Nat.lt_or_ge w (v + 1) with k | k
    · exact (ih (by omega)).succ
    · have : w = v + 1 := by omega
      subst this; exact h
def longN (l : List Int) (n : Int) : Nat := ((List.range (l.length + 1)).find? fun r => fairB l n (r + 1)).getD 0
theorem longN_is (l : List Int) (n : Int) : LongIs l n (longN l n) := by
  have hbig : FairP l n (l.length + 1) := fun t _ _ s hs => by omega
  cases hf : (List.range (l.length + 1)).find? fun r => fairB l n (r + 1) with
  | none =>
    have := List.find?_eq_none.1 hf l.length (List.mem_range.2 (by omega))
    exact absurd (fairB_iff.2 hbig) this
  | some r =>
    have e : longN l n = r := by unfold longN; rw [hf]; rfl
    rw [e]
    have h1 := List.find?_some hf
    have h1 : FairP l n (r + 1) := fairB_iff.1 h1
    have h2 : ∀ j, j < r → ¬ FairP l n (j + 1) := by
      intro j hj hfair
      obtain ⟨_, za, zb, hs, hno⟩ := List.find?_eq_some_iff_append.1 hf
      have hlen : za.length = r := by
        have h3 : (List.range (l.length + 1))[za.length]? = some r := by rw [hs]; simp
        have h4 := (List.getElem?_eq_some_iff.1 h3).1
        rw [List.getElem?_range (by simpa using h4)] at h3
        exact Option.some.inj h3
      have hj2 : (List.range (l.length + 1))[j]? = za[j]? := by rw [hs, List.getElem?_append_left (by omega)]
      have hjl : j < (List.range (l.length + 1)).length := by rw [hs]; simp; omega
      rw [List.getElem?_range (by simpa using hjl)] at hj2
      have hmem : j ∈ za := List.mem_of_getElem? hj2.symm
      have := hno j hmem
      rw [fairB_iff.2 hfair] at this
      simp at this
    intro w hw
    constructor
    · intro hlt; exact h1.le (by omega)
    · intro hfair
      rcases Nat.lt_or_ge r w with k | k
      · exact k
      · exact absurd (show FairP l n (w - 1 + 1) by rw [show w - 1 + 1 = w by omega]; exact hfair) (h2 (w - 1) (by omega))
theorem LongIs.unique {l : List Int} {n : Int} {a b : Nat} (h : LongIs l n a) (k : LongIs l n b) : a = b := by
  have h1 := (h (b + 1) (by omega)).2 ((k (b + 1) (by omega)).1 (by omega))
  have h2 := (k (a + 1) (by omega)).2 ((h (a + 1) (by omega)).1 (by omega))
  omega

section
variable {U : Uni}
def hookLong (rd : ReadI U) : HookS U := fun args h nx K => match args with
  | [s, a] => (match a.num with
    | some (kk, n, _) => bif decide (kk = .i64) then rd s h fun l => .needd (l.length ≤ 1099511627776) (K (.lit .i64 (longN l n)) h nx []) else .bad 790
    | none => .bad 791)
  | _ => .bad 792
theorem longest_calls (l : List Int) (n : Int) (hb : l.length ≤ 1099511627776) (w : World) (v : Value) (hv : ReadsInts w v l) :
    Calls Tryz.prog 33 #[v, .int .i64 n] w (fun e w' => e = .returned (.int .i64 (longN l n : Nat)) ∧ w'.os = w.os ∧ w'.output = w.output ∧ w'.tape = w.tape ∧ (whole w).inW w') := by
  obtain ⟨a, c, x, rfl, hle, hcap, hread⟩ : ∃ (a : Option Addr) (c : Nat) (x : Nat × Nat), v = .slice a l.length c ∧ l.length ≤ c ∧ (c = 0 ∨ a = some ⟨x.1, x.2, none⟩) ∧ ∀ i t, l[i]? = some t → w.cell? ⟨x.1, x.2 + i, none⟩ = some (.int .i64 t) := by
    rcases hv with ⟨rfl, a, rfl⟩ | ⟨b, o, c, rfl, hle, h⟩
    · exact ⟨a, 0, (0, 0), rfl, Nat.le_refl _, .inl rfl, by simp⟩
    · exact ⟨_, c, (b, o), rfl, hle, .inr rfl, h⟩
  have hH : (hookFree [.rows Kd.int, .int .i64] runLongest [.sl false 0 0 1 l.length c, .int .i64 n] ([(0, .ro Kd.int l)] : Heap V) 2 (fun v _ _ _ => .fin v [] 0)).holds ⟨fun _ _ => False, fun v _ _ => ∃ r : Nat, v = .int .i64 (r : Int) ∧ LongIs l n r⟩ := by
    have e : ((l.drop 0).take l.length) = l := by simp
    refine And.intro (show 0 + l.length ≤ l.length by omega) (And.intro (show ((l.drop 0).take l.length).length ≤ 1099511627776 by rw [e]; exact hb) (fun r hr => ?_))
    have hr : LongIs ((l.drop 0).take l.length) n r := hr
    rw [e] at hr
    exact ⟨r, rfl, hr⟩
  obtain ⟨_, hc⟩ := hLongest _ _ _ _ _ hH
  let r : Nm := fun i => if i = 0 then some x else none
  have hrel : relL r [.sl false 0 0 1 l.length c, .int .i64 n] [.slice a l.length c, .int .i64 n] := by
    simp only [relL, rel]
    refine ⟨_, _, rfl, ⟨a, rfl, hle, ?_⟩, _, _, rfl, rfl, rfl⟩
    rcases hcap with h | h
    · exact .inl h
    · exact .inr ⟨x, rfl, by rw [h, Nat.zero_mul, Nat.add_zero]⟩
  have hsat : Sat (U := V) ⟨whole w, w.os, w.output, w.tape⟩ r [(0, .ro Kd.int l)] w := by
    refine ⟨⟨rfl, rfl, rfl, fun x o e => e⟩, Hp.nil, ⟨Hp.nil, Hp.nil, ⟨fun i t ht => ?_, rfl⟩, rfl, Hp.nil_apart _, rfl⟩, Hp.nil_apart _, Hp.inW_nil w⟩
    obtain ⟨_, cs, T, fz, q1, q2⟩ := cell_at (hread i t ht)
    refine ⟨x.1, x.2, cs, T, fz, rfl, q1, ?_⟩
    show relL r [.int .i64 t] ((cs.toList.drop (x.2 + i * 1)).take 1)
    have h2 : cs.toList[x.2 + i]? = some (.int .i64 t) := by rw [← q2]; simp
    have hi2 := (List.getElem?_eq_some_iff.1 h2).1
    rw [Nat.mul_one, List.drop_eq_getElem_cons hi2, List.take_succ_cons, List.take_zero]
    rw [List.getElem?_eq_getElem hi2] at h2
    rw [Option.some.inj h2]
    simp [relL, rel]
  refine (hc _ r _ w hrel hsat (fun i hi => by show (if i = 0 then some x else none) = none; rw [if_neg (by omega)])).mono ?_
  rintro e w' ⟨v', h', nx', T, z, r', rfl, ⟨q, rfl, hq⟩, _, _, hz, ⟨hm, _⟩, _⟩
  simp only [rel] at hz
  refine ⟨by rw [hz, hq.unique (longN_is l n)], hm.os, hm.output, hm.tape, hm.G⟩
theorem hasLong : ∃ fn, Tryz.prog.funcs[33]? = some fn ∧ (fn.name == "runtime.NumGoroutine") = false ∧ fn.body.isNone = false := ⟨Tryz.f33, Tryz.func33, by kernel_rfl, by kernel_rfl⟩
theorem hookLong_ok {rd : ReadI U} (hrd : rd.ok) : HookOk Tryz.prog 33 (hookLong rd) := by
  intro M args h nx K H
  unfold hookLong at H
  split at H
  · rename_i s a
    split at H
    · rename_i kk n la hn
      rw [holds_bif] at H
      split at H
      · rename_i hk
        have hk := of_decide_eq_true hk
        subst hk
        obtain ⟨l, ⟨hb, H⟩, hl⟩ := hrd H
        refine ⟨hasLong, fun β r vs w hr hs hf => ?_⟩
        simp only [relL] at hr
        obtain ⟨v0, us, rfl, h0, v1, us1, rfl, h1, rfl⟩ := hr
        obtain rfl := rel_num hn h1
        refine (longest_calls l n hb w v0 (hl β r w v0 h0 hs)).mono ?_
        rintro e w' ⟨rfl, g1, g2, g3, g4⟩
        obtain ⟨hm, A, hd, hap, hin⟩ := hs
        have keep : ∀ {A : Hp}, A.inW w → A.inW w' := fun {A} hA x o e => g4 x o (hA x o e)
        exact ⟨_, h, nx, [], _, r, rfl, H, Nm.le.refl r, hf, by simp [rel], ⟨⟨g1.trans hm.os, g2.trans hm.output, g3.trans hm.tape, keep hm.G⟩, A, hd, hap, keep hin⟩, Kept.refl _ _⟩
      · exact H.elim
    · exact H.elim
  · exact H.elim
end
end Sx
end Go.Proofs.YtmcmdghmglopnaaGreatDoor

/-
  What waits: the run of the machine.
-/
namespace Go.Proofs.YtmcmdghmglopnaaGreatDoor
namespace Sx
open Go
set_option maxRecDepth 100000
set_option linter.unusedVariables false

noncomputable def fnsF : Nat → Option Func := fun g => match g with | 15 => some Tryz.f15 | 23 => some Tryz.f23 | 24 => some Tryz.f24 | 21 => some Tryz.f21 | _ => none
def mkI (x : Int) : Int := x
noncomputable def hooksF : Nat → Option (HookS V) := fun g => match g with | 9 => some hookTrue | 11 => some (hookTurns (U := V) Kd.int mkI readV) | 33 => some (hookFree [.rows Kd.int, .int .i64] runLongest) | _ => none
noncomputable def cfgF : Cfg Tryz.prog V := ⟨tab, kinds, fnsF, hooksF, fun _ _ => none⟩
end Sx
end Go.Proofs.YtmcmdghmglopnaaGreatDoor

/-
  Turns are fair: the run of the machine.
-/
namespace Go.Proofs.YtmcmdghmglopnaaGreatDoor
namespace Sx
open Go
set_option maxRecDepth 100000
set_option linter.unusedVariables false

noncomputable def fnsT : Nat → Option Func := fun g => match g with | 21 => some Tryz.f21 | _ => none
noncomputable def hooksT : Nat → Option (HookS V) := fun g => match g with | 9 => some hookTrue | 11 => some (hookTurns (U := V) Kd.int mkI readV) | 20 => some (hookFree [.rows Kd.int, .int .i64] runSteps) | 33 => some (hookFree [.rows Kd.int, .int .i64] runLongest) | _ => none

noncomputable def cfgT0 : Cfg Tryz.prog V := ⟨tab, kinds, fun _ => none, fun _ => none, fun _ _ => none⟩
structure FtP where
  l : List Int
  d : Nat
  R : List Int
  sp : Nat
  m : Nat
  cs : List Int
  hl : l.length ≤ 20
  hm : m ≤ 4096
  hc : cs.length = m
  hall : ∀ t : Nat, t < m → cs[t]? = some ((max l.length 1 : Nat) : Int)
abbrev TT : List Nat := [0, 1, 2, 3, 4, 5, 6, 7, 8, 9, 10, 11, 12]
def FtI (p : FtP) (t : Nat) : St V := ⟨[(0, .int .i64 (p.m : Int)), (1, .sl false 1 0 1 p.l.length p.d), (7, .tt), (9, .sl false 7 0 1 p.R.length (p.R.length + p.sp)), (10, .sl false 8 0 1 p.m p.m), (11, .int .i64 (t : Int))], [(8, .arr 3 Kd.int p.cs 0), (7, .arr 3 Kd.int p.R p.sp), (1, .ro Kd.int p.l)], 9, 95, TT⟩
def FtZ (p : FtP) : St V := FtI p 0
def FtE (p : FtP) (_ : Unit) : St V := FtI p p.m
def FtC (_ : FtP) (_ : Unit) : Prop := True
def FtL : LoopS V := trimLoop (trimSt [0, 1, 7, 9, 10, 11] [1, 7, 8]) (loopH 9 FtZ FtC FtE)
noncomputable def cfgT : Cfg Tryz.prog V := ⟨tab, kinds, fnsT, hooksT, fun f id => match f, id with | 8, 0 => some FtL | _, _ => none⟩
theorem fb8 (p : FtP) (t : Nat) : runCode cfgT0 60 8 (loopOf Tryz.f8 0) (FtI p t) (stopT (trimSt [0, 1, 7, 9, 10, 11] [1, 7, 8])) = Out.ite (decide ((↑t : Int) < (↑p.5 : Int))) (Out.needd ((0 : Int) ≤ (↑t : Int) ∧ (↑t : Int) < (↑p.5 : Int)) (Out.needd ((0 : Nat) + t < p.cs.length) (Out.ite (p.cs.getD ((0 : Nat) + t) (V.enc Kd.int).dflt != if (1 : Int) > (↑p.l.length : Int) then (1 : Int) else (↑p.l.length : Int)) (Out.stop EX.rt {env := [((0 : Nat), .int .i64 (↑p.5 : Int)), ((1 : Nat), .sl false (1 : Nat) (0 : Nat) (1 : Nat) p.l.length p.2), ((7 : Nat), .tt), ((9 : Nat), .sl false (7 : Nat) (0 : Nat) (1 : Nat) p.R.length (p.R.length + p.4)), ((10 : Nat), .sl false (8 : Nat) (0 : Nat) (1 : Nat) p.5 p.5), ((11 : Nat), .int .i64 (↑t : Int))], heap := [((8 : Nat), .arr (3 : Nat) Kd.int p.cs (0 : Nat)), ((7 : Nat), .arr (3 : Nat) Kd.int p.R p.4), ((1 : Nat), .ro Kd.int p.l)], nx := (9 : Nat), nt := (95 : Nat), tl := [(0 : Nat), (1 : Nat), (2 : Nat), (3 : Nat), (4 : Nat), (5 : Nat), (6 : Nat), (7 : Nat), (8 : Nat), (9 : Nat), (10 : Nat), (11 : Nat), (12 : Nat)] : St V }) (Out.stop EX.nx {env := [((0 : Nat), .int .i64 (↑p.5 : Int)), ((1 : Nat), .sl false (1 : Nat) (0 : Nat) (1 : Nat) p.l.length p.2), ((7 : Nat), .tt), ((9 : Nat), .sl false (7 : Nat) (0 : Nat) (1 : Nat) p.R.length (p.R.length + p.4)), ((10 : Nat), .sl false (8 : Nat) (0 : Nat) (1 : Nat) p.5 p.5), ((11 : Nat), .int .i64 (IntKind.i64.wrap ((↑t : Int) + (1 : Int))))], heap := [((8 : Nat), .arr (3 : Nat) Kd.int p.cs (0 : Nat)), ((7 : Nat), .arr (3 : Nat) Kd.int p.R p.4), ((1 : Nat), .ro Kd.int p.l)], nx := (9 : Nat), nt := (95 : Nat), tl := [(0 : Nat), (1 : Nat), (2 : Nat), (3 : Nat), (4 : Nat), (5 : Nat), (6 : Nat), (7 : Nat), (8 : Nat), (9 : Nat), (10 : Nat), (11 : Nat), (12 : Nat)] : St V })))) (Out.stop (EX.ex (0 : Nat)) {env := [((0 : Nat), .int .i64 (↑p.5 : Int)), ((1 : Nat), .sl false (1 : Nat) (0 : Nat) (1 : Nat) p.l.length p.2), ((7 : Nat), .tt), ((9 : Nat), .sl false (7 : Nat) (0 : Nat) (1 : Nat) p.R.length (p.R.length + p.4)), ((10 : Nat), .sl false (8 : Nat) (0 : Nat) (1 : Nat) p.5 p.5), ((11 : Nat), .int .i64 (↑t : Int))], heap := [((8 : Nat), .arr (3 : Nat) Kd.int p.cs (0 : Nat)), ((7 : Nat), .arr (3 : Nat) Kd.int p.R p.4), ((1 : Nat), .ro Kd.int p.l)], nx := (9 : Nat), nt := (95 : Nat), tl := [(0 : Nat), (1 : Nat), (2 : Nat), (3 : Nat), (4 : Nat), (5 : Nat), (6 : Nat), (7 : Nat), (8 : Nat), (9 : Nat), (10 : Nat), (11 : Nat), (12 : Nat)] : St V }) := by kernel_rfl

theorem ft8 (n : Int) (l : List Int) (d : Nat) (fr : Int) : runL cfgT 60 8 Tryz.f8 [.int .i64 n, .sl false 1 0 1 l.length d, .int .i64 fr] [(1, .ro Kd.int l)] 3 = Out.ite (decide (n < (1 : Int))) (Out.fin .tt [] (0 : Nat)) (Out.ite (decide (n > (12 : Int))) (Out.fin .tt [] (0 : Nat)) (Out.ite (decide ((↑l.length : Int) > (20 : Int))) (Out.fin .tt [] (0 : Nat)) (Out.need (l.length = l.length) (Out.ite (decide ((1 : Int) ≤ n) && decide (n ≤ (64 : Int)) && l.length.ble (4096 : Nat)) (Out.all Nat fun y => Out.ite ((↑(turnsI n l).length : Int) != IntKind.i64.wrap (n * if (1 : Int) > (↑l.length : Int) then (1 : Int) else (↑l.length : Int))) (Out.fin (.bool (decide ((↑(turnsI n l).length : Int) > (0 : Int)))) [] (0 : Nat)) (Out.ite (decide (fr < (0 : Int))) (Out.fin (.bool (decide ((↑(turnsI n l).length : Int) > (0 : Int)))) [] (0 : Nat)) (Out.ite (decide (fr > (↑(turnsI n l).length : Int))) (Out.fin (.bool (decide ((↑(turnsI n l).length : Int) > (0 : Int)))) [] (0 : Nat)) (Out.needd ((0 : Int) ≤ fr ∧ fr ≤ (↑(turnsI n l).length : Int)) (Out.needd ((0 : Int) ≤ fr ∧ (fr ≤ (↑(turnsI n l).length : Int) ∨ fr ≤ (↑((turnsI n l).length + y) : Int))) (Out.needd ((0 : Nat) + fr.toNat + ((turnsI n l).length - fr.toNat) ≤ (List.map mkI (turnsI n l)).length) (Out.needd ((List.take ((turnsI n l).length - fr.toNat) (List.drop ((0 : Nat) + fr.toNat) (List.map mkI (turnsI n l)))).length * (8 : Nat) ≤ (140737488355328 : Nat)) (Out.all Nat fun y => Out.needd ((0 : Nat) + (turnsI n l).length ≤ (List.map mkI (turnsI n l)).length) (Out.same ((List.take ((turnsI n l).length - fr.toNat) (List.drop ((0 : Nat) + fr.toNat) (List.map mkI (turnsI n l)))).length + y) ((List.take ((turnsI n l).length - fr.toNat) (List.drop ((0 : Nat) + fr.toNat) (List.map mkI (turnsI n l)))).length + y) (Out.needd ((0 : Nat) = (0 : Nat) ∧ (List.take ((turnsI n l).length - fr.toNat) (List.drop ((0 : Nat) + fr.toNat) (List.map mkI (turnsI n l)))).length = (List.take ((turnsI n l).length - fr.toNat) (List.drop ((0 : Nat) + fr.toNat) (List.map mkI (turnsI n l)))).length ∧ ((List.take ((turnsI n l).length - fr.toNat) (List.drop ((0 : Nat) + fr.toNat) (List.map mkI (turnsI n l)))).length + (List.take (turnsI n l).length (List.drop (0 : Nat) (List.map mkI (turnsI n l)))).length) * (8 : Nat) ≤ (140737488355328 : Nat)) (Out.all Nat fun y => Out.needd ((0 : Nat) + fr.toNat ≤ (List.map mkI (turnsI n l)).length) (Out.same ((List.take ((turnsI n l).length - fr.toNat) (List.drop ((0 : Nat) + fr.toNat) (List.map mkI (turnsI n l)))).length + (List.take (turnsI n l).length (List.drop (0 : Nat) (List.map mkI (turnsI n l)))).length + y) ((List.take ((turnsI n l).length - fr.toNat) (List.drop ((0 : Nat) + fr.toNat) (List.map mkI (turnsI n l))) ++ List.take (turnsI n l).length (List.drop (0 : Nat) (List.map mkI (turnsI n l)))).length + y) (Out.needd ((0 : Nat) = (0 : Nat) ∧ (List.take ((turnsI n l).length - fr.toNat) (List.drop ((0 : Nat) + fr.toNat) (List.map mkI (turnsI n l)))).length + (List.take (turnsI n l).length (List.drop (0 : Nat) (List.map mkI (turnsI n l)))).length = (List.take ((turnsI n l).length - fr.toNat) (List.drop ((0 : Nat) + fr.toNat) (List.map mkI (turnsI n l))) ++ List.take (turnsI n l).length (List.drop (0 : Nat) (List.map mkI (turnsI n l)))).length ∧ ((List.take ((turnsI n l).length - fr.toNat) (List.drop ((0 : Nat) + fr.toNat) (List.map mkI (turnsI n l))) ++ List.take (turnsI n l).length (List.drop (0 : Nat) (List.map mkI (turnsI n l)))).length + (List.take fr.toNat (List.drop (0 : Nat) (List.map mkI (turnsI n l)))).length) * (8 : Nat) ≤ (140737488355328 : Nat)) (Out.all Nat fun y => Out.need ((0 : Nat) + (turnsI n l).length ≤ (List.map mkI (turnsI n l)).length) (Out.need ((List.take (turnsI n l).length (List.drop (0 : Nat) (List.map mkI (turnsI n l)))).length ≤ (1099511627776 : Nat)) (Out.ite (decide ((1 : Int) ≤ n) && decide (n ≤ (4096 : Int))) (Out.all (List Int) fun y_1 => Out.asm (CntOf (List.take (turnsI n l).length (List.drop (0 : Nat) (List.map mkI (turnsI n l)))) n.toNat y_1) (Out.need (LoopFor Tryz.prog (8 : Nat) (0 : Nat) (loopOf Tryz.f8 (0 : Nat)) FtL) (Out.ex (FtP → Prop) fun y_2 => Out.need ((9 : Nat) ≤ (9 : Nat) ∧ SImp (9 : Nat) {env := [((0 : Nat), .int .i64 n), ((1 : Nat), .sl false (1 : Nat) (0 : Nat) (1 : Nat) l.length d), ((7 : Nat), .tt), ((9 : Nat), .sl false (7 : Nat) (0 : Nat) (1 : Nat) ((List.take ((turnsI n l).length - fr.toNat) (List.drop ((0 : Nat) + fr.toNat) (List.map mkI (turnsI n l))) ++ List.take (turnsI n l).length (List.drop (0 : Nat) (List.map mkI (turnsI n l)))).length + (List.take fr.toNat (List.drop (0 : Nat) (List.map mkI (turnsI n l)))).length) ((List.take ((turnsI n l).length - fr.toNat) (List.drop ((0 : Nat) + fr.toNat) (List.map mkI (turnsI n l))) ++ List.take (turnsI n l).length (List.drop (0 : Nat) (List.map mkI (turnsI n l)))).length + (List.take fr.toNat (List.drop (0 : Nat) (List.map mkI (turnsI n l)))).length + y)), ((10 : Nat), .sl false (8 : Nat) (0 : Nat) (1 : Nat) n.toNat n.toNat), ((11 : Nat), .lit .i64 (0 : Int))], heap := [((8 : Nat), .arr (3 : Nat) Kd.int y_1 (0 : Nat)), ((7 : Nat), .arr (3 : Nat) Kd.int (List.take ((turnsI n l).length - fr.toNat) (List.drop ((0 : Nat) + fr.toNat) (List.map mkI (turnsI n l))) ++ List.take (turnsI n l).length (List.drop (0 : Nat) (List.map mkI (turnsI n l))) ++ List.take fr.toNat (List.drop (0 : Nat) (List.map mkI (turnsI n l)))) y), ((1 : Nat), .ro Kd.int l)], nx := (9 : Nat), nt := (95 : Nat), tl := [(4 : Nat), (3 : Nat), (6 : Nat), (5 : Nat), (3 : Nat)] : St V } FtZ y_2) (Out.all FtP fun y => Out.asm (y_2 y) (Out.all Unit fun y_3 => Out.asm (FtC y y_3) (Out.ite (decide ((↑y.5 : Int) < (1 : Int))) (Out.fin (.bool ((↑y.5 : Int) == (↑y.5 : Int))) [] (0 : Nat)) (Out.ite (decide (IntKind.i64.wrap (IntKind.i64.wrap ((2 : Int) * (↑y.5 : Int)) - (1 : Int)) < (1 : Int))) (Out.fin .ff [] (0 : Nat)) (Out.ite (decide (IntKind.i64.wrap (IntKind.i64.wrap ((2 : Int) * (↑y.5 : Int)) - (1 : Int)) > (↑y.R.length : Int))) (Out.fin (.bool ((↑y.5 : Int) == (↑y.5 : Int))) [] (0 : Nat)) (Out.need ((0 : Nat) + y.R.length ≤ y.R.length) (Out.need ((List.take y.R.length (List.drop (0 : Nat) y.R)).length ≤ (1099511627776 : Nat)) (Out.all Nat fun y_4 => Out.asm (LongIs (List.take y.R.length (List.drop (0 : Nat) y.R)) (↑y.5 : Int) y_4) (Out.ite (decide ((↑y_4 : Int) < IntKind.i64.wrap (IntKind.i64.wrap ((2 : Int) * (↑y.5 : Int)) - (1 : Int)))) (Out.fin (.bool ((↑y.5 : Int) == (↑y.5 : Int))) [] (0 : Nat)) (Out.fin .ff [] (0 : Nat)))))))))))))) (Out.need (LoopFor Tryz.prog (8 : Nat) (0 : Nat) (loopOf Tryz.f8 (0 : Nat)) FtL) (Out.ex (FtP → Prop) fun y_1 => Out.need ((8 : Nat) ≤ (9 : Nat) ∧ SImp (9 : Nat) {env := [((0 : Nat), .int .i64 n), ((1 : Nat), .sl false (1 : Nat) (0 : Nat) (1 : Nat) l.length d), ((7 : Nat), .tt), ((9 : Nat), .sl false (7 : Nat) (0 : Nat) (1 : Nat) ((List.take ((turnsI n l).length - fr.toNat) (List.drop ((0 : Nat) + fr.toNat) (List.map mkI (turnsI n l))) ++ List.take (turnsI n l).length (List.drop (0 : Nat) (List.map mkI (turnsI n l)))).length + (List.take fr.toNat (List.drop (0 : Nat) (List.map mkI (turnsI n l)))).length) ((List.take ((turnsI n l).length - fr.toNat) (List.drop ((0 : Nat) + fr.toNat) (List.map mkI (turnsI n l))) ++ List.take (turnsI n l).length (List.drop (0 : Nat) (List.map mkI (turnsI n l)))).length + (List.take fr.toNat (List.drop (0 : Nat) (List.map mkI (turnsI n l)))).length + y)), ((10 : Nat), .nilS), ((11 : Nat), .lit .i64 (0 : Int))], heap := [((7 : Nat), .arr (3 : Nat) Kd.int (List.take ((turnsI n l).length - fr.toNat) (List.drop ((0 : Nat) + fr.toNat) (List.map mkI (turnsI n l))) ++ List.take (turnsI n l).length (List.drop (0 : Nat) (List.map mkI (turnsI n l))) ++ List.take fr.toNat (List.drop (0 : Nat) (List.map mkI (turnsI n l)))) y), ((1 : Nat), .ro Kd.int l)], nx := (8 : Nat), nt := (95 : Nat), tl := [(4 : Nat), (3 : Nat), (6 : Nat), (5 : Nat), (3 : Nat)] : St V } FtZ y_1) (Out.all FtP fun y => Out.asm (y_1 y) (Out.all Unit fun y_2 => Out.asm (FtC y y_2) (Out.ite (decide ((↑y.5 : Int) < (1 : Int))) (Out.fin (.bool ((↑y.5 : Int) == (↑y.5 : Int))) [] (0 : Nat)) (Out.ite (decide (IntKind.i64.wrap (IntKind.i64.wrap ((2 : Int) * (↑y.5 : Int)) - (1 : Int)) < (1 : Int))) (Out.fin .ff [] (0 : Nat)) (Out.ite (decide (IntKind.i64.wrap (IntKind.i64.wrap ((2 : Int) * (↑y.5 : Int)) - (1 : Int)) > (↑y.R.length : Int))) (Out.fin (.bool ((↑y.5 : Int) == (↑y.5 : Int))) [] (0 : Nat)) (Out.need ((0 : Nat) + y.R.length ≤ y.R.length) (Out.need ((List.take y.R.length (List.drop (0 : Nat) y.R)).length ≤ (1099511627776 : Nat)) (Out.all Nat fun y_3 => Out.asm (LongIs (List.take y.R.length (List.drop (0 : Nat) y.R)) (↑y.5 : Int) y_3) (Out.ite (decide ((↑y_3 : Int) < IntKind.i64.wrap (IntKind.i64.wrap ((2 : Int) * (↑y.5 : Int)) - (1 : Int)))) (Out.fin (.bool ((↑y.5 : Int) == (↑y.5 : Int))) [] (0 : Nat)) (Out.fin .ff [] (0 : Nat))))))))))))))))))))))))))))) (Out.ite ((0 : Int) != IntKind.i64.wrap (n * if (1 : Int) > (↑l.length : Int) then (1 : Int) else (↑l.length : Int))) (Out.fin .ff [] (0 : Nat)) (Out.ite (decide (fr < (0 : Int))) (Out.fin .ff [] (0 : Nat)) (Out.ite (decide (fr > (0 : Int))) (Out.fin .ff [] (0 : Nat)) (Out.needd (fr = (0 : Int) ∧ (0 : Int) = (0 : Int)) (Out.needd ((0 : Int) = (0 : Int) ∧ fr = (0 : Int)) (Out.needd ((0 : Nat) ≤ (140737488355328 : Nat)) (Out.all Nat fun y => Out.same ((0 : Nat) + y) ((0 : Nat) + y) (Out.needd ((0 : Nat) = (0 : Nat) ∧ (0 : Nat) = (0 : Nat) ∧ (0 : Nat) ≤ (140737488355328 : Nat)) (Out.all Nat fun y => Out.same ((0 : Nat) + y) ((0 : Nat) + y) (Out.needd ((0 : Nat) = (0 : Nat) ∧ (0 : Nat) = (0 : Nat) ∧ (0 : Nat) ≤ (140737488355328 : Nat)) (Out.all Nat fun y => Out.need ((0 : Nat) ≤ (1099511627776 : Nat)) (Out.ite (decide ((1 : Int) ≤ n) && decide (n ≤ (4096 : Int))) (Out.all (List Int) fun y_1 => Out.asm (CntOf [] n.toNat y_1) (Out.need (LoopFor Tryz.prog (8 : Nat) (0 : Nat) (loopOf Tryz.f8 (0 : Nat)) FtL) (Out.ex (FtP → Prop) fun y_2 => Out.need ((8 : Nat) ≤ (9 : Nat) ∧ SImp (9 : Nat) {env := [((0 : Nat), .int .i64 n), ((1 : Nat), .sl false (1 : Nat) (0 : Nat) (1 : Nat) l.length d), ((7 : Nat), .tt), ((9 : Nat), .sl false (6 : Nat) (0 : Nat) (1 : Nat) (0 : Nat) ((0 : Nat) + y)), ((10 : Nat), .sl false (7 : Nat) (0 : Nat) (1 : Nat) n.toNat n.toNat), ((11 : Nat), .lit .i64 (0 : Int))], heap := [((7 : Nat), .arr (3 : Nat) Kd.int y_1 (0 : Nat)), ((1 : Nat), .ro Kd.int l)], nx := (8 : Nat), nt := (95 : Nat), tl := [(6 : Nat), (3 : Nat), (5 : Nat), (4 : Nat)] : St V } FtZ y_2) (Out.all FtP fun y => Out.asm (y_2 y) (Out.all Unit fun y_3 => Out.asm (FtC y y_3) (Out.ite (decide ((↑y.5 : Int) < (1 : Int))) (Out.fin (.bool ((↑y.5 : Int) == (↑y.5 : Int))) [] (0 : Nat)) (Out.ite (decide (IntKind.i64.wrap (IntKind.i64.wrap ((2 : Int) * (↑y.5 : Int)) - (1 : Int)) < (1 : Int))) (Out.fin .ff [] (0 : Nat)) (Out.ite (decide (IntKind.i64.wrap (IntKind.i64.wrap ((2 : Int) * (↑y.5 : Int)) - (1 : Int)) > (↑y.R.length : Int))) (Out.fin (.bool ((↑y.5 : Int) == (↑y.5 : Int))) [] (0 : Nat)) (Out.need ((0 : Nat) + y.R.length ≤ y.R.length) (Out.need ((List.take y.R.length (List.drop (0 : Nat) y.R)).length ≤ (1099511627776 : Nat)) (Out.all Nat fun y_4 => Out.asm (LongIs (List.take y.R.length (List.drop (0 : Nat) y.R)) (↑y.5 : Int) y_4) (Out.ite (decide ((↑y_4 : Int) < IntKind.i64.wrap (IntKind.i64.wrap ((2 : Int) * (↑y.5 : Int)) - (1 : Int)))) (Out.fin (.bool ((↑y.5 : Int) == (↑y.5 : Int))) [] (0 : Nat)) (Out.fin .ff [] (0 : Nat)))))))))))))) (Out.need (LoopFor Tryz.prog (8 : Nat) (0 : Nat) (loopOf Tryz.f8 (0 : Nat)) FtL) (Out.ex (FtP → Prop) fun y_1 => Out.need ((7 : Nat) ≤ (9 : Nat) ∧ SImp (9 : Nat) {env := [((0 : Nat), .int .i64 n), ((1 : Nat), .sl false (1 : Nat) (0 : Nat) (1 : Nat) l.length d), ((7 : Nat), .tt), ((9 : Nat), .sl false (6 : Nat) (0 : Nat) (1 : Nat) (0 : Nat) ((0 : Nat) + y)), ((10 : Nat), .nilS), ((11 : Nat), .lit .i64 (0 : Int))], heap := [((1 : Nat), .ro Kd.int l)], nx := (7 : Nat), nt := (95 : Nat), tl := [(6 : Nat), (3 : Nat), (5 : Nat), (4 : Nat)] : St V } FtZ y_1) (Out.all FtP fun y => Out.asm (y_1 y) (Out.all Unit fun y_2 => Out.asm (FtC y y_2) (Out.ite (decide ((↑y.5 : Int) < (1 : Int))) (Out.fin (.bool ((↑y.5 : Int) == (↑y.5 : Int))) [] (0 : Nat)) (Out.ite (decide (IntKind.i64.wrap (IntKind.i64.wrap ((2 : Int) * (↑y.5 : Int)) - (1 : Int)) < (1 : Int))) (Out.fin .ff [] (0 : Nat)) (Out.ite (decide (IntKind.i64.wrap (IntKind.i64.wrap ((2 : Int) * (↑y.5 : Int)) - (1 : Int)) > (↑y.R.length : Int))) (Out.fin (.bool ((↑y.5 : Int) == (↑y.5 : Int))) [] (0 : Nat)) (Out.need ((0 : Nat) + y.R.length ≤ y.R.length) (Out.need ((List.take y.R.length (List.drop (0 : Nat) y.R)).length ≤ (1099511627776 : Nat)) (Out.all Nat fun y_3 => Out.asm (LongIs (List.take y.R.length (List.drop (0 : Nat) y.R)) (↑y.5 : Int) y_3) (Out.ite (decide ((↑y_3 : Int) < IntKind.i64.wrap (IntKind.i64.wrap ((2 : Int) * (↑y.5 : Int)) - (1 : Int)))) (Out.fin (.bool ((↑y.5 : Int) == (↑y.5 : Int))) [] (0 : Nat)) (Out.fin .ff [] (0 : Nat))))))))))))))))))))))))))))) := by kernel_rfl

end Sx
end Go.Proofs.YtmcmdghmglopnaaGreatDoor

