/-
  picks.longest, of known numbers.
-/
import Derived.Test.YtmcmdghmglopnaaGreatDoorGrowingP13
namespace Go.Proofs.YtmcmdghmglopnaaGreatDoor
open Go.RowKit
namespace Sx
open Go

def fairB (l : List Int) (n : Int) (w : Nat) : Bool := (upto n).all fun t => (List.range (l.length + 1 - w)).all fun s => ((l.drop s).take w).any fun x => decide (x = t)
theorem fairB_iff {l : List Int} {n : Int} {w : Nat} : fairB l n w = true ↔ FairP l n w := by
  unfold fairB FairP Covers
  rw [List.all_eq_true]
  constructor
  · intro h t h0 h1 s hs
    have h2 := h t (upto_mem.2 ⟨h0, h1⟩)
    rw [List.all_eq_true] at h2
    have h3 := h2 s (List.mem_range.2 (by omega))
    rw [List.any_eq_true] at h3
    obtain ⟨x, hx, e⟩ := h3
    have e := of_decide_eq_true e
    subst e
    obtain ⟨i, hi⟩ := List.getElem?_of_mem hx
    have hlt := (List.getElem?_eq_some_iff.1 hi).1
    rw [List.length_take] at hlt
    rw [List.getElem?_take_of_lt (by omega), List.getElem?_drop] at hi
    exact ⟨s + i, by omega, by omega, hi⟩
  · intro h t ht
    have ht := upto_mem.1 ht
    rw [List.all_eq_true]
    intro s hs
    have hs := List.mem_range.1 hs
    rw [List.any_eq_true]
    obtain ⟨i, i1, i2, i3⟩ := h t ht.1 ht.2 s (by omega)
    refine ⟨t, ?_, by simp⟩
    refine List.mem_of_getElem? (i := i - s) ?_
    rw [List.getElem?_take_of_lt (by omega), List.getElem?_drop, show s + (i - s) = i by omega]
    exact i3
theorem FairP.succ {l : List Int} {n : Int} {w : Nat} (h : FairP l n w) : FairP l n (w + 1) := fun t h0 h1 s hs => by
  obtain ⟨i, i1, i2, i3⟩ := h t h0 h1 s (by omega)
  exact ⟨i, i1, by omega, i3⟩
theorem FairP.le {l : List Int} {n : Int} {w : Nat} (h : FairP l n w) : ∀ {v : Nat}, w ≤ v → FairP l n v := by
  intro v hv
  induction v with
  | zero => have : w = 0 := by omega
            subst this; exact h
  | succ v ih =>
    rcases Nat.lt_or_ge w (v + 1) with k | k
    · exact (ih (by omega)).succ
    · have : w = v + 1 := by omega
      subst this; exact h
def longN (l : List Int) (n : Int) : Nat := ((List.range (l.length + 1)).find? fun r => fairB l n (r + 1)).getD 0
theorem longN_is (l : List Int) (n : Int) : LongIs l n (longN l n) := by
  have hbig : FairP l n (l.length + 1) := fun t _ _ s hs => by omega
  cases hf : (List.range (l.length + 1)).find? fun r => fairB l n (r + 1) with
  | none =>
    have := List.find?_eq_none.1 hf l.length (List.mem_range.2 (by omega))
    exact absurd (fairB_iff.2 hbig) this
  | some r =>
    have e : longN l n = r := by unfold longN; rw [hf]; rfl
    rw [e]
    have h1 := List.find?_some hf
    have h1 : FairP l n (r + 1) := fairB_iff.1 h1
    have h2 : ∀ j, j < r → ¬ FairP l n (j + 1) := by
      intro j hj hfair
      obtain ⟨_, za, zb, hs, hno⟩ := List.find?_eq_some_iff_append.1 hf
      have hlen : za.length = r := by
        have h3 : (List.range (l.length + 1))[za.length]? = some r := by rw [hs]; simp
        have h4 := (List.getElem?_eq_some_iff.1 h3).1
        rw [List.getElem?_range (by simpa using h4)] at h3
        exact Option.some.inj h3
      have hj2 : (List.range (l.length + 1))[j]? = za[j]? := by rw [hs, List.getElem?_append_left (by omega)]
      have hjl : j < (List.range (l.length + 1)).length := by rw [hs]; simp; omega
      rw [List.getElem?_range (by simpa using hjl)] at hj2
      have hmem : j ∈ za := List.mem_of_getElem? hj2.symm
      have := hno j hmem
      rw [fairB_iff.2 hfair] at this
      simp at this
    intro w hw
    constructor
    · intro hlt; exact h1.le (by omega)
    · intro hfair
      rcases Nat.lt_or_ge r w with k | k
      · exact k
      · exact absurd (show FairP l n (w - 1 + 1) by rw [show w - 1 + 1 = w by omega]; exact hfair) (h2 (w - 1) (by omega))
theorem LongIs.unique {l : List Int} {n : Int} {a b : Nat} (h : LongIs l n a) (k : LongIs l n b) : a = b := by
  have h1 := (h (b + 1) (by omega)).2 ((k (b + 1) (by omega)).1 (by omega))
  have h2 := (k (a + 1) (by omega)).2 ((h (a + 1) (by omega)).1 (by omega))
  omega

section
variable {U : Uni}
def hookLong (rd : ReadI U) : HookS U := fun args h nx K => match args with
  | [s, a] => (match a.num with
    | some (kk, n, _) => bif decide (kk = .i64) then rd s h fun l => .needd (l.length ≤ 1099511627776) (K (.lit .i64 (longN l n)) h nx []) else .bad 790
    | none => .bad 791)
  | _ => .bad 792
theorem longest_calls (l : List Int) (n : Int) (hb : l.length ≤ 1099511627776) (w : World) (v : Value) (hv : ReadsInts w v l) :
    Calls Tryz.prog 33 #[v, .int .i64 n] w (fun e w' => e = .returned (.int .i64 (longN l n : Nat)) ∧ w'.os = w.os ∧ w'.output = w.output ∧ w'.tape = w.tape ∧ (whole w).inW w') := by
  obtain ⟨a, c, x, rfl, hle, hcap, hread⟩ : ∃ (a : Option Addr) (c : Nat) (x : Nat × Nat), v = .slice a l.length c ∧ l.length ≤ c ∧ (c = 0 ∨ a = some ⟨x.1, x.2, none⟩) ∧ ∀ i t, l[i]? = some t → w.cell? ⟨x.1, x.2 + i, none⟩ = some (.int .i64 t) := by
    rcases hv with ⟨rfl, a, rfl⟩ | ⟨b, o, c, rfl, hle, h⟩
    · exact ⟨a, 0, (0, 0), rfl, Nat.le_refl _, .inl rfl, by simp⟩
    · exact ⟨_, c, (b, o), rfl, hle, .inr rfl, h⟩
  have hH : (hookFree [.rows Kd.int, .int .i64] runLongest [.sl false 0 0 1 l.length c, .int .i64 n] ([(0, .ro Kd.int l)] : Heap V) 2 (fun v _ _ _ => .fin v [] 0)).holds ⟨fun _ _ => False, fun v _ _ => ∃ r : Nat, v = .int .i64 (r : Int) ∧ LongIs l n r⟩ := by
    have e : ((l.drop 0).take l.length) = l := by simp
    refine And.intro (show 0 + l.length ≤ l.length by omega) (And.intro (show ((l.drop 0).take l.length).length ≤ 1099511627776 by rw [e]; exact hb) (fun r hr => ?_))
    have hr : LongIs ((l.drop 0).take l.length) n r := hr
    rw [e] at hr
    exact ⟨r, rfl, hr⟩
  obtain ⟨_, hc⟩ := hLongest _ _ _ _ _ hH
  let r : Nm := fun i => if i = 0 then some x else none
  have hrel : relL r [.sl false 0 0 1 l.length c, .int .i64 n] [.slice a l.length c, .int .i64 n] := by
    simp only [relL, rel]
    refine ⟨_, _, rfl, ⟨a, rfl, hle, ?_⟩, _, _, rfl, rfl, rfl⟩
    rcases hcap with h | h
    · exact .inl h
    · exact .inr ⟨x, rfl, by rw [h, Nat.zero_mul, Nat.add_zero]⟩
  have hsat : Sat (U := V) ⟨whole w, w.os, w.output, w.tape⟩ r [(0, .ro Kd.int l)] w := by
    refine ⟨⟨rfl, rfl, rfl, fun x o e => e⟩, Hp.nil, ⟨Hp.nil, Hp.nil, ⟨fun i t ht => ?_, rfl⟩, rfl, Hp.nil_apart _, rfl⟩, Hp.nil_apart _, Hp.inW_nil w⟩
    obtain ⟨_, cs, T, fz, q1, q2⟩ := cell_at (hread i t ht)
    refine ⟨x.1, x.2, cs, T, fz, rfl, q1, ?_⟩
    show relL r [.int .i64 t] ((cs.toList.drop (x.2 + i * 1)).take 1)
    have h2 : cs.toList[x.2 + i]? = some (.int .i64 t) := by rw [← q2]; simp
    have hi2 := (List.getElem?_eq_some_iff.1 h2).1
    rw [Nat.mul_one, List.drop_eq_getElem_cons hi2, List.take_succ_cons, List.take_zero]
    rw [List.getElem?_eq_getElem hi2] at h2
    rw [Option.some.inj h2]
    simp [relL, rel]
  refine (hc _ r _ w hrel hsat (fun i hi => by show (if i = 0 then some x else none) = none; rw [if_neg (by omega)])).mono ?_
  rintro e w' ⟨v', h', nx', T, z, r', rfl, ⟨q, rfl, hq⟩, _, _, hz, ⟨hm, _⟩, _⟩
  simp only [rel] at hz
  refine ⟨by rw [hz, hq.unique (longN_is l n)], hm.os, hm.output, hm.tape, hm.G⟩
theorem hasLong : ∃ fn, Tryz.prog.funcs[33]? = some fn ∧ (fn.name == "runtime.NumGoroutine") = false ∧ fn.body.isNone = false := ⟨Tryz.f33, Tryz.func33, by kernel_rfl, by kernel_rfl⟩
theorem hookLong_ok {rd : ReadI U} (hrd : rd.ok) : HookOk Tryz.prog 33 (hookLong rd) := by
  intro M args h nx K H
  unfold hookLong at H
  split at H
  · rename_i s a
    split at H
    · rename_i kk n la hn
      rw [holds_bif] at H
      split at H
      · rename_i hk
        have hk := of_decide_eq_true hk
        subst hk
        obtain ⟨l, ⟨hb, H⟩, hl⟩ := hrd H
        refine ⟨hasLong, fun β r vs w hr hs hf => ?_⟩
        simp only [relL] at hr
        obtain ⟨v0, us, rfl, h0, v1, us1, rfl, h1, rfl⟩ := hr
        obtain rfl := rel_num hn h1
        refine (longest_calls l n hb w v0 (hl β r w v0 h0 hs)).mono ?_
        rintro e w' ⟨rfl, g1, g2, g3, g4⟩
        obtain ⟨hm, A, hd, hap, hin⟩ := hs
        have keep : ∀ {A : Hp}, A.inW w → A.inW w' := fun {A} hA x o e => g4 x o (hA x o e)
        exact ⟨_, h, nx, [], _, r, rfl, H, Nm.le.refl r, hf, by simp [rel], ⟨⟨g1.trans hm.os, g2.trans hm.output, g3.trans hm.tape, keep hm.G⟩, A, hd, hap, keep hin⟩, Kept.refl _ _⟩
      · exact H.elim
    · exact H.elim
  · exact H.elim
end
end Sx
end Go.Proofs.YtmcmdghmglopnaaGreatDoor

/-
  What waits: the run of the machine.
-/
namespace Go.Proofs.YtmcmdghmglopnaaGreatDoor
namespace Sx
open Go
set_option maxRecDepth 100000
set_option linter.unusedVariables false

noncomputable def fnsF : Nat → Option Func := fun g => match g with | 15 => some Tryz.f15 | 23 => some Tryz.f23 | 24 => some Tryz.f24 | 21 => some Tryz.f21 | _ => none
def mkI (x : Int) : Int := x
noncomputable def hooksF : Nat → Option (HookS V) := fun g => match g with | 9 => some hookTrue | 11 => some (hookTurns (U := V) Kd.int mkI readV) | 33 => some (hookFree [.rows Kd.int, .int .i64] runLongest) | _ => none
noncomputable def cfgF : Cfg Tryz.prog V := ⟨tab, kinds, fnsF, hooksF, fun _ _ => none⟩
end Sx
end Go.Proofs.YtmcmdghmglopnaaGreatDoor

/-
  Bounds grow: the run of the machine.
-/
namespace Go.Proofs.YtmcmdghmglopnaaGreatDoor
namespace Sx
open Go
set_option maxRecDepth 100000
set_option linter.unusedVariables false

def tabP : Tab := fun t => match t with
  | 39 => some { ty39 with pool := true }
  | t => tab t
noncomputable def hooksGw : Nat → Option (HookS V) := fun g => match g with | 9 => some hookTrue | 11 => some (hookTurns (U := V) Kd.int mkI readV) | 13 => some (hookFree [.rows Kd.rws] runBound) | _ => none
noncomputable def cfgG0 : Cfg Tryz.prog V := ⟨tabP, kinds, fun _ => none, fun _ => none, fun _ _ => none⟩

structure FgP where
  l : List Int
  d : Nat
  m : List Hd
  sp : Nat
  ones : List Int
  sq : Nat
  n : Nat
  hb : ones.length ≤ 1024
  hall : ∀ x ∈ ones, x = 0
abbrev TGw : List Nat := [0, 1, 2, 3, 4, 5, 6, 7, 8, 9, 10, 11, 12]
def FgI (p : FgP) (i : Nat) : St V := ⟨[(1, .sl false 1 0 1 p.l.length p.d), (5, .tt), (6, .int .i64 (p.n : Int)), (7, .sl false 7 0 1 p.m.length (p.m.length + p.sp)), (8, .sl false 8 0 1 p.ones.length (p.ones.length + p.sq)), (9, .int .i64 (i : Int))], [(8, .arr 3 Kd.int p.ones p.sq), (7, .arr 37 Kd.rws p.m p.sp), (1, .ro Kd.int p.l)], 9, 82, TGw⟩
def FgZ (p : FgP) : St V := FgI p 0
def FgE (p : FgP) (_ : Unit) : St V := FgI p p.ones.length
def FgC (_ : FgP) (_ : Unit) : Prop := True
def FgL : LoopS V := trimLoop (trimSt [1, 5, 6, 7, 8, 9] [1, 7, 8]) (loopH 9 FgZ FgC FgE)
noncomputable def cfgGw : Cfg Tryz.prog V := ⟨tabP, kinds, fun _ => none, hooksGw, fun f id => match f, id with | 6, 0 => some FgL | _, _ => none⟩
theorem fb6 (p : FgP) (i : Nat) : runCode cfgG0 60 6 (loopOf Tryz.f6 0) (FgI p i) (stopT (trimSt [1, 5, 6, 7, 8, 9] [1, 7, 8])) = Out.ite (decide ((↑i : Int) < (↑p.ones.length : Int))) (Out.needd ((0 : Int) ≤ (↑i : Int) ∧ (↑i : Int) < (↑p.ones.length : Int)) (Out.needd ((0 : Nat) + i < p.ones.length) (Out.ite (p.ones.getD ((0 : Nat) + i) (V.enc Kd.int).dflt != (0 : Int)) (Out.stop EX.rt {env := [((1 : Nat), .sl false (1 : Nat) (0 : Nat) (1 : Nat) p.l.length p.2), ((5 : Nat), .tt), ((6 : Nat), .int .i64 (↑p.7 : Int)), ((7 : Nat), .sl false (7 : Nat) (0 : Nat) (1 : Nat) p.m.length (p.m.length + p.4)), ((8 : Nat), .sl false (8 : Nat) (0 : Nat) (1 : Nat) p.ones.length (p.ones.length + p.6)), ((9 : Nat), .int .i64 (↑i : Int))], heap := [((8 : Nat), .arr (3 : Nat) Kd.int p.ones p.6), ((7 : Nat), .arr (37 : Nat) Kd.rws p.m p.4), ((1 : Nat), .ro Kd.int p.l)], nx := (9 : Nat), nt := (82 : Nat), tl := [(0 : Nat), (1 : Nat), (2 : Nat), (3 : Nat), (4 : Nat), (5 : Nat), (6 : Nat), (7 : Nat), (8 : Nat), (9 : Nat), (10 : Nat), (11 : Nat), (12 : Nat)] : St V }) (Out.stop EX.nx {env := [((1 : Nat), .sl false (1 : Nat) (0 : Nat) (1 : Nat) p.l.length p.2), ((5 : Nat), .tt), ((6 : Nat), .int .i64 (↑p.7 : Int)), ((7 : Nat), .sl false (7 : Nat) (0 : Nat) (1 : Nat) p.m.length (p.m.length + p.4)), ((8 : Nat), .sl false (8 : Nat) (0 : Nat) (1 : Nat) p.ones.length (p.ones.length + p.6)), ((9 : Nat), .int .i64 (IntKind.i64.wrap ((↑i : Int) + (1 : Int))))], heap := [((8 : Nat), .arr (3 : Nat) Kd.int p.ones p.6), ((7 : Nat), .arr (37 : Nat) Kd.rws p.m p.4), ((1 : Nat), .ro Kd.int p.l)], nx := (9 : Nat), nt := (82 : Nat), tl := [(0 : Nat), (1 : Nat), (2 : Nat), (3 : Nat), (4 : Nat), (5 : Nat), (6 : Nat), (7 : Nat), (8 : Nat), (9 : Nat), (10 : Nat), (11 : Nat), (12 : Nat)] : St V })))) (Out.stop (EX.ex (0 : Nat)) {env := [((1 : Nat), .sl false (1 : Nat) (0 : Nat) (1 : Nat) p.l.length p.2), ((5 : Nat), .tt), ((6 : Nat), .int .i64 (↑p.7 : Int)), ((7 : Nat), .sl false (7 : Nat) (0 : Nat) (1 : Nat) p.m.length (p.m.length + p.4)), ((8 : Nat), .sl false (8 : Nat) (0 : Nat) (1 : Nat) p.ones.length (p.ones.length + p.6)), ((9 : Nat), .int .i64 (↑i : Int))], heap := [((8 : Nat), .arr (3 : Nat) Kd.int p.ones p.6), ((7 : Nat), .arr (37 : Nat) Kd.rws p.m p.4), ((1 : Nat), .ro Kd.int p.l)], nx := (9 : Nat), nt := (82 : Nat), tl := [(0 : Nat), (1 : Nat), (2 : Nat), (3 : Nat), (4 : Nat), (5 : Nat), (6 : Nat), (7 : Nat), (8 : Nat), (9 : Nat), (10 : Nat), (11 : Nat), (12 : Nat)] : St V }) := by kernel_rfl

theorem ft6 (ps : List Hd) (c : Nat) (l : List Int) (d : Nat) : runL cfgGw 60 6 Tryz.f6 [.sl false 0 0 1 ps.length c, .sl false 1 0 1 l.length d] [(2, .pool Pool.nil), (0, .ro Kd.rws ps), (1, .ro Kd.int l)] 3 = Out.ite (decide ((↑ps.length : Int) > (40 : Int))) (Out.fin .tt [] (0 : Nat)) (Out.ite (decide ((↑l.length : Int) > (100 : Int))) (Out.fin .tt [] (0 : Nat)) (Out.need ((0 : Nat) + ps.length ≤ ps.length) (Out.needd ((0 : Nat) + ps.length ≤ ps.length) (Out.needd ((List.take ps.length (List.drop (0 : Nat) ps)).length * (24 : Nat) ≤ (140737488355328 : Nat)) (Out.all Nat fun y => Out.all Nat fun y_1 => Out.asm (Pool.nil y_1 = none) (Out.same ((List.take ps.length (List.drop (0 : Nat) ps)).length + y) ((List.take ps.length (List.drop (0 : Nat) ps)).length + y) (Out.needd ((0 : Nat) = (0 : Nat) ∧ (List.take ps.length (List.drop (0 : Nat) ps)).length = (List.take ps.length (List.drop (0 : Nat) ps)).length ∧ ((List.take ps.length (List.drop (0 : Nat) ps)).length + (1 : Nat)) * (24 : Nat) ≤ (140737488355328 : Nat)) (Out.all Nat fun y => Out.need (l.length = l.length) (Out.ite (decide ((1 : Int) ≤ (1 : Int)) && decide ((1 : Int) ≤ (64 : Int)) && l.length.ble (4096 : Nat)) (Out.all Nat fun y_2 => Out.need (LoopFor Tryz.prog (6 : Nat) (0 : Nat) (loopOf Tryz.f6 (0 : Nat)) FgL) (Out.ex (FgP → Prop) fun y_3 => Out.need ((9 : Nat) ≤ (9 : Nat) ∧ SImp (9 : Nat) {env := [((1 : Nat), .sl false (1 : Nat) (0 : Nat) (1 : Nat) l.length d), ((5 : Nat), .tt), ((6 : Nat), .int .i64 (↑(boundN (List.take ps.length (List.drop (0 : Nat) ps))) : Int)), ((7 : Nat), .sl false (7 : Nat) (0 : Nat) (1 : Nat) ((List.take ps.length (List.drop (0 : Nat) ps)).length + (1 : Nat)) ((List.take ps.length (List.drop (0 : Nat) ps)).length + (1 : Nat) + y)), ((8 : Nat), .sl false (8 : Nat) (0 : Nat) (1 : Nat) (turnsI (1 : Int) l).length ((turnsI (1 : Int) l).length + y_2)), ((9 : Nat), .lit .i64 (0 : Int))], heap := [((8 : Nat), .arr (3 : Nat) Kd.int (List.map mkI (turnsI (1 : Int) l)) y_2), ((7 : Nat), .arr (37 : Nat) Kd.rws (List.take ps.length (List.drop (0 : Nat) ps) ++ [(addrOf (some (y_1, (0 : Nat))), (1 : Nat), (1 : Nat))]) y), ((1 : Nat), .ro Kd.int l)], nx := (9 : Nat), nt := (82 : Nat), tl := [(6 : Nat), (3 : Nat), (2 : Nat), (0 : Nat), (8 : Nat), (4 : Nat)] : St V } FgZ y_3) (Out.all FgP fun y => Out.asm (y_3 y) (Out.all Unit fun y_4 => Out.asm (FgC y y_4) (Out.ite (decide ((↑y.7 : Int) ≥ (1024 : Int))) (Out.need ((0 : Nat) + y.m.length ≤ y.m.length) (Out.ite (decide ((↑(boundN (List.take y.m.length (List.drop (0 : Nat) y.m))) : Int) > (↑y.7 : Int))) (Out.ite ((↑y.ones.length : Int) == if (1 : Int) > (↑y.l.length : Int) then (1 : Int) else (↑y.l.length : Int)) (Out.need (y.l.length = y.l.length) (Out.ite (decide ((1 : Int) ≤ (0 : Int)) && decide ((0 : Int) ≤ (64 : Int)) && y.l.length.ble (4096 : Nat)) (Out.all Nat fun y_5 => Out.ite ((↑(turnsI (0 : Int) y.l).length : Int) == (0 : Int)) (Out.need (y.l.length = y.l.length) (Out.ite (decide ((1 : Int) ≤ (65 : Int)) && decide ((65 : Int) ≤ (64 : Int)) && y.l.length.ble (4096 : Nat)) (Out.all Nat fun y_6 => Out.ite ((↑(turnsI (65 : Int) y.l).length : Int) == (0 : Int)) (Out.need (y.l.length = y.l.length) (Out.ite (decide ((1 : Int) ≤ (64 : Int)) && decide ((64 : Int) ≤ (64 : Int)) && y.l.length.ble (4096 : Nat)) (Out.all Nat fun y_7 => Out.fin (.bool ((↑(turnsI (64 : Int) y.l).length : Int) == IntKind.i64.wrap ((64 : Int) * (↑y.ones.length : Int)))) [] (0 : Nat)) (Out.fin (.bool ((0 : Int) == IntKind.i64.wrap ((64 : Int) * (↑y.ones.length : Int)))) [] (0 : Nat)))) (Out.fin .ff [] (0 : Nat))) (Out.need (y.l.length = y.l.length) (Out.ite (decide ((1 : Int) ≤ (64 : Int)) && decide ((64 : Int) ≤ (64 : Int)) && y.l.length.ble (4096 : Nat)) (Out.all Nat fun y_6 => Out.fin (.bool ((↑(turnsI (64 : Int) y.l).length : Int) == IntKind.i64.wrap ((64 : Int) * (↑y.ones.length : Int)))) [] (0 : Nat)) (Out.fin (.bool ((0 : Int) == IntKind.i64.wrap ((64 : Int) * (↑y.ones.length : Int)))) [] (0 : Nat)))))) (Out.fin .ff [] (0 : Nat))) (Out.need (y.l.length = y.l.length) (Out.ite (decide ((1 : Int) ≤ (65 : Int)) && decide ((65 : Int) ≤ (64 : Int)) && y.l.length.ble (4096 : Nat)) (Out.all Nat fun y_5 => Out.ite ((↑(turnsI (65 : Int) y.l).length : Int) == (0 : Int)) (Out.need (y.l.length = y.l.length) (Out.ite (decide ((1 : Int) ≤ (64 : Int)) && decide ((64 : Int) ≤ (64 : Int)) && y.l.length.ble (4096 : Nat)) (Out.all Nat fun y_6 => Out.fin (.bool ((↑(turnsI (64 : Int) y.l).length : Int) == IntKind.i64.wrap ((64 : Int) * (↑y.ones.length : Int)))) [] (0 : Nat)) (Out.fin (.bool ((0 : Int) == IntKind.i64.wrap ((64 : Int) * (↑y.ones.length : Int)))) [] (0 : Nat)))) (Out.fin .ff [] (0 : Nat))) (Out.need (y.l.length = y.l.length) (Out.ite (decide ((1 : Int) ≤ (64 : Int)) && decide ((64 : Int) ≤ (64 : Int)) && y.l.length.ble (4096 : Nat)) (Out.all Nat fun y_5 => Out.fin (.bool ((↑(turnsI (64 : Int) y.l).length : Int) == IntKind.i64.wrap ((64 : Int) * (↑y.ones.length : Int)))) [] (0 : Nat)) (Out.fin (.bool ((0 : Int) == IntKind.i64.wrap ((64 : Int) * (↑y.ones.length : Int)))) [] (0 : Nat)))))))) (Out.fin .ff [] (0 : Nat))) (Out.fin .ff [] (0 : Nat)))) (Out.fin .ff [] (0 : Nat))))))) (Out.need (LoopFor Tryz.prog (6 : Nat) (0 : Nat) (loopOf Tryz.f6 (0 : Nat)) FgL) (Out.ex (FgP → Prop) fun y_2 => Out.need ((8 : Nat) ≤ (9 : Nat) ∧ SImp (9 : Nat) {env := [((1 : Nat), .sl false (1 : Nat) (0 : Nat) (1 : Nat) l.length d), ((5 : Nat), .tt), ((6 : Nat), .int .i64 (↑(boundN (List.take ps.length (List.drop (0 : Nat) ps))) : Int)), ((7 : Nat), .sl false (7 : Nat) (0 : Nat) (1 : Nat) ((List.take ps.length (List.drop (0 : Nat) ps)).length + (1 : Nat)) ((List.take ps.length (List.drop (0 : Nat) ps)).length + (1 : Nat) + y)), ((8 : Nat), .nilS), ((9 : Nat), .lit .i64 (0 : Int))], heap := [((7 : Nat), .arr (37 : Nat) Kd.rws (List.take ps.length (List.drop (0 : Nat) ps) ++ [(addrOf (some (y_1, (0 : Nat))), (1 : Nat), (1 : Nat))]) y), ((1 : Nat), .ro Kd.int l)], nx := (8 : Nat), nt := (82 : Nat), tl := [(6 : Nat), (3 : Nat), (2 : Nat), (0 : Nat), (4 : Nat)] : St V } FgZ y_2) (Out.all FgP fun y => Out.asm (y_2 y) (Out.all Unit fun y_3 => Out.asm (FgC y y_3) (Out.ite (decide ((↑y.7 : Int) ≥ (1024 : Int))) (Out.need ((0 : Nat) + y.m.length ≤ y.m.length) (Out.ite (decide ((↑(boundN (List.take y.m.length (List.drop (0 : Nat) y.m))) : Int) > (↑y.7 : Int))) (Out.ite ((↑y.ones.length : Int) == if (1 : Int) > (↑y.l.length : Int) then (1 : Int) else (↑y.l.length : Int)) (Out.need (y.l.length = y.l.length) (Out.ite (decide ((1 : Int) ≤ (0 : Int)) && decide ((0 : Int) ≤ (64 : Int)) && y.l.length.ble (4096 : Nat)) (Out.all Nat fun y_4 => Out.ite ((↑(turnsI (0 : Int) y.l).length : Int) == (0 : Int)) (Out.need (y.l.length = y.l.length) (Out.ite (decide ((1 : Int) ≤ (65 : Int)) && decide ((65 : Int) ≤ (64 : Int)) && y.l.length.ble (4096 : Nat)) (Out.all Nat fun y_5 => Out.ite ((↑(turnsI (65 : Int) y.l).length : Int) == (0 : Int)) (Out.need (y.l.length = y.l.length) (Out.ite (decide ((1 : Int) ≤ (64 : Int)) && decide ((64 : Int) ≤ (64 : Int)) && y.l.length.ble (4096 : Nat)) (Out.all Nat fun y_6 => Out.fin (.bool ((↑(turnsI (64 : Int) y.l).length : Int) == IntKind.i64.wrap ((64 : Int) * (↑y.ones.length : Int)))) [] (0 : Nat)) (Out.fin (.bool ((0 : Int) == IntKind.i64.wrap ((64 : Int) * (↑y.ones.length : Int)))) [] (0 : Nat)))) (Out.fin .ff [] (0 : Nat))) (Out.need (y.l.length = y.l.length) (Out.ite (decide ((1 : Int) ≤ (64 : Int)) && decide ((64 : Int) ≤ (64 : Int)) && y.l.length.ble (4096 : Nat)) (Out.all Nat fun y_5 => Out.fin (.bool ((↑(turnsI (64 : Int) y.l).length : Int) == IntKind.i64.wrap ((64 : Int) * (↑y.ones.length : Int)))) [] (0 : Nat)) (Out.fin (.bool ((0 : Int) == IntKind.i64.wrap ((64 : Int) * (↑y.ones.length : Int)))) [] (0 : Nat)))))) (Out.fin .ff [] (0 : Nat))) (Out.need (y.l.length = y.l.length) (Out.ite (decide ((1 : Int) ≤ (65 : Int)) && decide ((65 : Int) ≤ (64 : Int)) && y.l.length.ble (4096 : Nat)) (Out.all Nat fun y_4 => Out.ite ((↑(turnsI (65 : Int) y.l).length : Int) == (0 : Int)) (Out.need (y.l.length = y.l.length) (Out.ite (decide ((1 : Int) ≤ (64 : Int)) && decide ((64 : Int) ≤ (64 : Int)) && y.l.length.ble (4096 : Nat)) (Out.all Nat fun y_5 => Out.fin (.bool ((↑(turnsI (64 : Int) y.l).length : Int) == IntKind.i64.wrap ((64 : Int) * (↑y.ones.length : Int)))) [] (0 : Nat)) (Out.fin (.bool ((0 : Int) == IntKind.i64.wrap ((64 : Int) * (↑y.ones.length : Int)))) [] (0 : Nat)))) (Out.fin .ff [] (0 : Nat))) (Out.need (y.l.length = y.l.length) (Out.ite (decide ((1 : Int) ≤ (64 : Int)) && decide ((64 : Int) ≤ (64 : Int)) && y.l.length.ble (4096 : Nat)) (Out.all Nat fun y_4 => Out.fin (.bool ((↑(turnsI (64 : Int) y.l).length : Int) == IntKind.i64.wrap ((64 : Int) * (↑y.ones.length : Int)))) [] (0 : Nat)) (Out.fin (.bool ((0 : Int) == IntKind.i64.wrap ((64 : Int) * (↑y.ones.length : Int)))) [] (0 : Nat)))))))) (Out.fin .ff [] (0 : Nat))) (Out.fin .ff [] (0 : Nat)))) (Out.fin .ff [] (0 : Nat)))))))))))))))) := by kernel_rfl

end Sx
end Go.Proofs.YtmcmdghmglopnaaGreatDoor

