/-
  The beginning of a right row is right, and its calls are those that were invoked in it.
-/
import Derived.Test.YtemcdjdglcceiaaWTellsP3
namespace Go.Proofs.Ytemcdjdglcceiaa
namespace Sx
open Go
set_option linter.unusedSimpArgs false
set_option linter.unusedVariables false

theorem readTo_take {l : List Rec} {k : Nat} (hk : k ≤ l.length) : ∀ {n : Nat}, n ≤ k → readTo (l.take k) n = readTo l n
  | 0, _ => rfl
  | n + 1, h => by
    show (readTo (l.take k) n).bind _ = (readTo l n).bind _
    rw [readTo_take hk (by omega)]
    have e : (l.take k).getD n r0 = l.getD n r0 := by
      rw [List.getD_eq_getElem?_getD, List.getD_eq_getElem?_getD, List.getElem?_take, if_pos (by omega)]
    rw [e]

structure CutOf (k : Nat) (t s : List Cal) : Prop where
  le : t.length ≤ s.length
  el : ∀ (i : Nat) (c : Cal), s[i]? = some c → (i < t.length → c.frm < k ∧ t[i]? = some (cut c k)) ∧ (t.length ≤ i → (k : Int) ≤ c.frm)

theorem cut_self {l : List Rec} {k : Nat} {t : RD} (I : RInv l k t) : CutOf k t.cs t.cs := by
  refine ⟨Nat.le_refl _, fun i c h => ⟨fun _ => ?_, fun hh => absurd (get_lt h) (by omega)⟩⟩
  have f := I.frm i c h
  refine ⟨f.2.1, ?_⟩
  rw [h]
  congr 1
  have e1 : ¬ c.at_ ≥ k := by rcases I.at_ i c h with e | e <;> omega
  have e2 : ¬ c.to_ ≥ k := by
    rcases I.to_ i c h with e | ⟨_, _, e, _⟩ <;> omega
  unfold cut
  rw [if_neg e1, if_neg e2]

theorem cut_step {l : List Rec} {k n : Nat} {t : List Cal} {s s' : RD} (hkn : k ≤ n) (I : RInv l n s) (C : CutOf k t s.cs) {r : Rec} (e : s.step r n = some s') : CutOf k t s'.cs := by
  have hpush : CutOf k t (s.push r n).cs := by
    refine ⟨by show t.length ≤ (s.cs ++ [_]).length; have := C.le; simp; omega, fun i c h => ?_⟩
    rcases get_push h with h | ⟨rfl, rfl⟩
    · exact C.el i c h
    · exact ⟨fun hh => absurd C.le (by omega), fun _ => by show (k : Int) ≤ (n : Int); omega⟩
  have hupd : ∀ (o : Opn) (f : Cal → Cal) (c1 : Cal), s.cs[o.call.toNat]? = some c1 → (f c1).frm = c1.frm → cut (f c1) k = cut c1 k → CutOf k t (s.upd r o f).cs := by
    intro o f c1 h1 h2 h3
    have hd : s.cs.getD o.call.toNat c0 = c1 := by rw [List.getD_eq_getElem?_getD, h1]; rfl
    refine ⟨by show t.length ≤ (s.cs.set _ _).length; rw [List.length_set]; exact C.le, fun i c h => ?_⟩
    have h' : (s.cs.set o.call.toNat (f (s.cs.getD o.call.toNat c0)))[i]? = some c := h
    rw [hd] at h'
    rcases get_set h' with ⟨rfl, rfl⟩ | ⟨_, h'⟩
    · have := C.el _ _ h1
      rw [h2, h3]; exact this
    · exact C.el i c h'
  unfold RD.step at e
  split at e
  · cases e
  · split at e
    · split at e
      · cases e; exact C
      · cases e
    · split at e
      · unfold RD.invoke at e
        split at e
        · cases e; exact hpush
        · cases e
      · unfold RD.follow at e
        split at e
        · cases e
        · rename_i o ho
          obtain ⟨k1, k2, k3, k4, c1, k5, k6, k7, k8, k9, k10⟩ := I.last _ _ ho
          split at e
          · cases e
          · rename_i hno
            have hn3 : o.what ≠ 3 := fun h => hno (.inl h)
            have to1 : c1.to_ = -1 := Classical.byContradiction fun h => hn3 (k10.2 h)
            split at e
            · split at e
              · rename_i hm
                cases e
                obtain ⟨a1, a2⟩ := k8.1 hm.1
                refine hupd o _ c1 k5 rfl ?_
                unfold cut
                have q1 : (n : Int) ≥ k := by omega
                have q2 : ¬ (-1 : Int) ≥ k := by omega
                simp only [q1, q2, if_true, if_false, a1]
              · cases e
            · split at e
              · split at e
                · cases e
                  refine hupd o _ c1 k5 rfl ?_
                  unfold cut
                  have q1 : (n : Int) ≥ k := by omega
                  have q2 : ¬ (-1 : Int) ≥ k := by omega
                  simp only [q1, q2, if_true, if_false, to1]
                · cases e
              · cases e

theorem cut_all {l : List Rec} (hb : ∀ i, (l.getD i r0).op < 9223372036854775808) {k : Nat} {t : RD} (ht : readTo l k = some t) : ∀ {n : Nat} {s : RD}, k ≤ n → readTo l n = some s → CutOf k t.cs s.cs := by
  intro n
  induction n with
  | zero =>
    intro s hk h
    have : k = 0 := by omega
    subst this
    rw [ht] at h; cases h
    exact cut_self (readTo_inv hb ht)
  | succ n ih =>
    intro s' hk h
    rcases Nat.lt_or_ge n k with h1 | h1
    · have : k = n + 1 := by omega
      subst this
      rw [ht] at h; cases h
      exact cut_self (readTo_inv hb ht)
    · obtain ⟨s, h2, h3⟩ := Option.bind_eq_some_iff.1 h
      exact cut_step h1 (readTo_inv hb h2) (ih h1 h2) h3

theorem readTo_some {l : List Rec} {n m : Nat} {s : RD} (h : readTo l m = some s) (hn : n ≤ m) : ∃ t, readTo l n = some t := by
  cases e : readTo l n with
  | some t => exact ⟨t, rfl⟩
  | none => rw [readTo_none e hn] at h; cases h

theorem cuts {l : List Rec} (hb : ∀ r ∈ l, r.op < 9223372036854775808) (hr : hRight l = true) {k : Nat} (hk : k ≤ l.length) :
    hRight (l.take k) = true ∧ CutOf k (hCallsOf (l.take k)) (hCallsOf l) := by
  cases e : readTo l l.length with
  | none => have := right_none e; rw [this.1] at hr; cases hr
  | some s =>
    obtain ⟨t, ht⟩ := readTo_some e hk
    have ht' : readTo (l.take k) (l.take k).length = some t := by
      rw [List.length_take, Nat.min_eq_left hk, readTo_take hk (Nat.le_refl _)]; exact ht
    obtain ⟨a1, a2⟩ := right_some e
    obtain ⟨b1, b2⟩ := right_some ht'
    refine ⟨b1, ?_⟩
    rw [a2, b2]
    exact cut_all (get_bound hb) ht hk e
theorem CutOf.facts {k : Nat} {t s : List Cal} (C : CutOf k t s) : ∀ i, i < s.length → (i < t.length → (s.getD i c0).frm < k ∧ t.getD i c0 = cut (s.getD i c0) k) ∧ (t.length ≤ i → (k : Int) ≤ (s.getD i c0).frm) := by
  intro i hi
  have h := C.el i _ (List.getElem?_eq_getElem hi)
  rw [← getD_el c0 hi] at h
  refine ⟨fun h1 => ⟨(h.1 h1).1, ?_⟩, h.2⟩
  rw [List.getD_eq_getElem?_getD, (h.1 h1).2]; rfl

end Sx
end Go.Proofs.Ytemcdjdglcceiaa

/-
  What one thread records alone.
-/
namespace Go.Proofs.Ytemcdjdglcceiaa
namespace Sx
open Go
set_option linter.unusedSimpArgs false
set_option linter.unusedVariables false

def cntO : Option Opn → Nat
  | none => 0
  | some o => o.op.toNat + 1
def lfO : Option Opn → Nat
  | none => 0
  | some o => if o.what = 3 then 0 else 1
def sumT (f : Nat → Nat) (n : Nat) : Nat := ((List.range n).map f).sum
theorem sumT_succ (f : Nat → Nat) (n : Nat) : sumT f (n + 1) = sumT f n + f n := by unfold sumT; rw [List.range_succ]; simp
theorem sumT_congr {f g : Nat → Nat} : ∀ {n : Nat}, (∀ i, i < n → f i = g i) → sumT f n = sumT g n
  | 0, _ => rfl
  | n + 1, h => by rw [sumT_succ, sumT_succ, sumT_congr (fun i hi => h i (by omega)), h n (by omega)]
theorem sumT_upd {f g : Nat → Nat} {k : Nat} : ∀ {n : Nat}, k < n → (∀ i, i ≠ k → f i = g i) → sumT g n + f k = sumT f n + g k
  | 0, h, _ => by omega
  | n + 1, h, e => by
    rw [sumT_succ, sumT_succ]
    rcases Nat.lt_or_ge k n with hk | hk
    · have := sumT_upd hk e
      have := e n (by omega)
      omega
    · have : k = n := by omega
      subst this
      have := sumT_congr (n := k) (f := f) (g := g) (fun i hi => e i (by omega))
      omega

structure TSum (s : RD) : Prop where
  cnt : s.cs.length = sumT (fun t => cntO (mget s.at_ (t : Int))) 64
  lf : hLeftOf s.cs = sumT (fun t => lfO (mget s.at_ (t : Int))) 64

theorem left_set : ∀ (cs : List Cal) (k : Nat) (c x : Cal), cs[k]? = some c → hLeftOf (cs.set k x) + (if c.to_ = -1 then 1 else 0) = hLeftOf cs + (if x.to_ = -1 then 1 else 0)
  | [], k, c, x, h => by simp at h
  | d :: cs, 0, c, x, h => by
    simp at h; subst h
    unfold hLeftOf
    simp only [List.set_cons_zero, List.filter_cons]
    by_cases h1 : d.to_ = -1 <;> by_cases h2 : x.to_ = -1 <;> simp [h1, h2]
  | d :: cs, k + 1, c, x, h => by
    simp at h
    have ih := left_set cs k c x h
    unfold hLeftOf at *
    simp only [List.set_cons_succ, List.filter_cons]
    by_cases h1 : d.to_ = -1
    · simp [h1] at *; omega
    · simp [h1] at *; omega

theorem at_upd {s : RD} {t : Int} {o : Opn} {f : Option Opn → Nat} (ht : 0 ≤ t ∧ t < 64) : sumT (fun i => f (mget (mput s.at_ t o) (i : Int))) 64 + f (mget s.at_ t) = sumT (fun i => f (mget s.at_ (i : Int))) 64 + f (some o) := by
  have e : ((t.toNat : Nat) : Int) = t := by omega
  have := sumT_upd (f := fun i => f (mget s.at_ (i : Int))) (g := fun i => f (mget (mput s.at_ t o) (i : Int))) (k := t.toNat) (n := 64) (by omega) (fun i hi => by
    show f (mget s.at_ (i : Int)) = f (mget (mput s.at_ t o) (i : Int))
    rw [mget_put, if_neg (by omega)])
  simp only [e] at this
  rw [mget_put, if_pos rfl] at this
  exact this

theorem TSum.step {l : List Rec} {n : Nat} {s s' : RD} (T : TSum s) (I : RInv l n s) (hb : ∀ i, (l.getD i r0).op < 9223372036854775808) {r : Rec} {i : Nat} (hi : i = n) (e : s.step r i = some s') : TSum s' := by
  unfold RD.step at e
  split at e
  · cases e
  · rename_i hthr
    have ht : 0 ≤ r.thread ∧ r.thread < 64 := by omega
    split at e
    · split at e
      · cases e; exact T
      · cases e
    · rename_i hop
      split at e
      · rename_i hw
        unfold RD.invoke at e
        split at e
        · rename_i hm
          cases e
          have hm := hm.1
          unfold RD.may at hm
          have hlen : (s.cs ++ [(⟨r.thread, r.op, i, -1, -1⟩ : Cal)]).length = s.cs.length + 1 := by simp
          have hlf : hLeftOf (s.cs ++ [(⟨r.thread, r.op, i, -1, -1⟩ : Cal)]) = hLeftOf s.cs + 1 := by unfold hLeftOf; rw [List.filter_append]; simp
          have l1 : lfO (some (Opn.of r s.cs.length)) = 1 := by
            show (if r.what = 3 then 0 else 1) = 1
            rw [if_neg (by omega)]
          have u1 := at_upd (s := s) (t := r.thread) (o := Opn.of r s.cs.length) (f := cntO) ht
          have u2 := at_upd (s := s) (t := r.thread) (o := Opn.of r s.cs.length) (f := lfO) ht
          have T1 := T.cnt
          have T2 := T.lf
          refine ⟨?_, ?_⟩
          · show (s.cs ++ [(⟨r.thread, r.op, i, -1, -1⟩ : Cal)]).length = sumT (fun j => cntO (mget (mput s.at_ r.thread (Opn.of r s.cs.length)) (j : Int))) 64
            have c1 : cntO (some (Opn.of r s.cs.length)) = r.op.toNat + 1 := rfl
            cases hg : mget s.at_ r.thread with
            | none =>
              rw [hg] at hm u1
              have : cntO none = 0 := rfl
              have hm' : r.op = 0 := hm
              rw [hm'] at c1
              omega
            | some o =>
              rw [hg] at hm u1
              obtain ⟨m1, m2⟩ := hm
              obtain ⟨k1, k2, k3, k4, c', k5, k6, k7, k8, k9, k10⟩ := I.last _ _ hg
              obtain ⟨f1, f2, f3, f4, f5, f6⟩ := I.frm _ _ k5
              have hop1 : o.op < 9223372036854775808 := by rw [← k7, ← f5]; exact hb _
              have hop0 : 0 ≤ o.op := by rw [← k7]; exact f6
              have e : r.op = o.op + 1 := by
                have := m2
                simp only [IntKind.wrap, IntKind.bits, IntKind.signed] at this
                simp at this
                omega
              have : cntO (some o) = o.op.toNat + 1 := rfl
              omega
          · show hLeftOf (s.cs ++ [(⟨r.thread, r.op, i, -1, -1⟩ : Cal)]) = sumT (fun j => lfO (mget (mput s.at_ r.thread (Opn.of r s.cs.length)) (j : Int))) 64
            cases hg : mget s.at_ r.thread with
            | none =>
              rw [hg] at u2
              have : lfO none = 0 := rfl
              omega
            | some o =>
              rw [hg] at hm u2
              have : lfO (some o) = 0 := by show (if o.what = 3 then 0 else 1) = 0; rw [if_pos hm.1]
              omega
        · cases e
      · unfold RD.follow at e
        split at e
        · cases e
        · rename_i o ho
          obtain ⟨k1, k2, k3, k4, c1, k5, k6, k7, k8, k9, k10⟩ := I.last _ _ ho
          have hd : s.cs.getD o.call.toNat c0 = c1 := by rw [List.getD_eq_getElem?_getD, k5]; rfl
          split at e
          · cases e
          · rename_i hno
            have hn3 : o.what ≠ 3 := fun h => hno (.inl h)
            have hoo : r.op = o.op := Classical.byContradiction fun h => hno (.inr (.inl h))
            have to1 : c1.to_ = -1 := Classical.byContradiction fun h => hn3 (k10.2 h)
            have u1 := at_upd (s := s) (t := r.thread) (o := Opn.of r o.call) (f := cntO) ht
            have u2 := at_upd (s := s) (t := r.thread) (o := Opn.of r o.call) (f := lfO) ht
            rw [ho] at u1 u2
            have q1 : cntO (some (Opn.of r o.call)) = cntO (some o) := by show r.op.toNat + 1 = o.op.toNat + 1; rw [hoo]
            have q2 : lfO (some o) = 1 := by show (if o.what = 3 then 0 else 1) = 1; rw [if_neg hn3]
            have T1 := T.cnt
            have T2 := T.lf
            have gen : ∀ f : Cal → Cal, hLeftOf (s.cs.set o.call.toNat (f c1)) = sumT (fun j => lfO (mget (mput s.at_ r.thread (Opn.of r o.call)) (j : Int))) 64 → TSum (s.upd r o f) := by
              intro f hf
              refine ⟨?_, ?_⟩
              · show (s.cs.set o.call.toNat (f (s.cs.getD o.call.toNat c0))).length = sumT (fun j => cntO (mget (mput s.at_ r.thread (Opn.of r o.call)) (j : Int))) 64
                rw [List.length_set]; omega
              · show hLeftOf (s.cs.set o.call.toNat (f (s.cs.getD o.call.toNat c0))) = _
                rw [hd]; exact hf
            split at e
            · rename_i hw2
              split at e
              · cases e
                refine gen _ ?_
                have := left_set s.cs _ c1 { c1 with at_ := (i : Int) } k5
                simp only [to1, if_true] at this
                have q3 : lfO (some (Opn.of r o.call)) = 1 := by show (if r.what = 3 then 0 else 1) = 1; rw [if_neg (by omega)]
                simp only [to1] at *
                omega
              · cases e
            · split at e
              · rename_i hw3
                split at e
                · cases e
                  refine gen _ ?_
                  have := left_set s.cs _ c1 { c1 with to_ := (i : Int) } k5
                  have hne : ¬ (i : Int) = -1 := by omega
                  simp only [to1, hne, if_true, if_false] at this
                  have q3 : lfO (some (Opn.of r o.call)) = 0 := by show (if r.what = 3 then 0 else 1) = 0; rw [if_pos hw3]
                  omega
                · cases e
              · cases e
theorem readTo_sum {l : List Rec} (hb : ∀ i, (l.getD i r0).op < 9223372036854775808) : ∀ {n : Nat} {s : RD}, readTo l n = some s → TSum s
  | 0, s, h => by cases h; exact ⟨rfl, rfl⟩
  | n + 1, s', h => by
    obtain ⟨s, h1, h2⟩ := Option.bind_eq_some_iff.1 h
    exact (readTo_sum hb h1).step (readTo_inv hb h1) hb rfl h2

/-! ## one thread alone -/
def ownOf (l : List Rec) (t : Int) : List Rec := l.filter fun r => decide (r.thread = t)
def strip (o : Opn) : Opn := { o with call := 0 }
structure Own (t : Int) (s u : RD) : Prop where
  same : (mget u.at_ t).map strip = (mget s.at_ t).map strip
  other : ∀ j, j ≠ t → mget u.at_ j = none

theorem other_step {s s' : RD} {r : Rec} {i : Nat} {t : Int} (ht : r.thread ≠ t) (e : s.step r i = some s') : mget s'.at_ t = mget s.at_ t := by
  have put : ∀ o, mget (mput s.at_ r.thread o) t = mget s.at_ t := fun o => by rw [mget_put, if_neg (fun h => ht h.symm)]
  unfold RD.step at e
  split at e
  · cases e
  · split at e
    · split at e
      · cases e; rfl
      · cases e
    · split at e
      · unfold RD.invoke at e
        split at e
        · cases e; exact put _
        · cases e
      · unfold RD.follow at e
        split at e
        · cases e
        · split at e
          · cases e
          · split at e
            · split at e
              · cases e; exact put _
              · cases e
            · split at e
              · split at e
                · cases e; exact put _
                · cases e
              · cases e

theorem readTo_append {l : List Rec} {r : Rec} : ∀ {n : Nat}, n ≤ l.length → readTo (l ++ [r]) n = readTo l n
  | 0, _ => rfl
  | n + 1, h => by
    show (readTo (l ++ [r]) n).bind _ = (readTo l n).bind _
    rw [readTo_append (by omega)]
    have e : (l ++ [r]).getD n r0 = l.getD n r0 := by
      rw [List.getD_eq_getElem?_getD, List.getD_eq_getElem?_getD, List.getElem?_append_left (by omega)]
    rw [e]

theorem cnt_strip {a b : Option Opn} (h : a.map strip = b.map strip) : cntO a = cntO b ∧ lfO a = lfO b := by
  cases a with
  | none => cases b with
    | none => exact ⟨rfl, rfl⟩
    | some o => cases h
  | some o => cases b with
    | none => cases h
    | some o' =>
      have e := Option.some.inj h
      have e1 : o.what = o'.what := (by have q := congrArg Opn.what e; exact q)
      have e2 : o.op = o'.op := (by have q := congrArg Opn.op e; exact q)
      exact ⟨by show o.op.toNat + 1 = o'.op.toNat + 1; rw [e2], by show (if o.what = 3 then 0 else 1) = (if o'.what = 3 then 0 else 1); rw [e1]⟩

structure Threads (l : List Rec) : Prop where
  right : ∀ t : Nat, t < 64 → hRight (ownOf l t) = true
  left1 : ∀ t : Nat, t < 64 → hLeft (ownOf l t) ≤ 1
  calls : sumT (fun t => (hCallsOf (ownOf l (t : Int))).length) 64 = (hCallsOf l).length
  left : sumT (fun t => hLeft (ownOf l (t : Int))) 64 = hLeft l
end Sx
end Go.Proofs.Ytemcdjdglcceiaa

/-
  What is completed is right, has none left, and stays.
-/
namespace Go.Proofs.Ytemcdjdglcceiaa
namespace Sx
open Go
set_option linter.unusedSimpArgs false
set_option linter.unusedVariables false

/-- A record is read alike where its thread is at the same. -/
theorem sim_step {s s' u : RD} {r : Rec} {i j : Nat} (hs : (mget u.at_ r.thread).map strip = (mget s.at_ r.thread).map strip) (e : s.step r i = some s') :
    ∃ u', u.step r j = some u' ∧ (mget u'.at_ r.thread).map strip = (mget s'.at_ r.thread).map strip ∧ ∀ k, k ≠ r.thread → mget u'.at_ k = mget u.at_ k := by
  have put : ∀ (a b : Int), (mget (mput u.at_ r.thread (Opn.of r a)) r.thread).map strip = (mget (mput s.at_ r.thread (Opn.of r b)) r.thread).map strip := by
    intro a b
    rw [mget_put, mget_put, if_pos rfl, if_pos rfl]
    rfl
  have oth : ∀ (a : Int) (k : Int), k ≠ r.thread → mget (mput u.at_ r.thread (Opn.of r a)) k = mget u.at_ k := by
    intro a k hk
    rw [mget_put, if_neg hk]
  unfold RD.step at e ⊢
  split at e
  · cases e
  · rename_i h1
    rw [if_neg h1]
    split at e
    · rename_i h2
      rw [if_pos h2]
      split at e
      · rename_i h3
        cases e
        exact ⟨u, if_pos h3, hs, fun _ _ => rfl⟩
      · cases e
    · rename_i h2
      rw [if_neg h2]
      split at e
      · rename_i h3
        rw [if_pos h3]
        unfold RD.invoke at e ⊢
        split at e
        · rename_i h4
          cases e
          have hm : u.may r := by
            have hm := h4.1
            unfold RD.may at hm ⊢
            cases hg : mget s.at_ r.thread with
            | none =>
              rw [hg] at hm hs
              cases hu : mget u.at_ r.thread with
              | none => exact hm
              | some o' => rw [hu] at hs; cases hs
            | some o =>
              rw [hg] at hm hs
              cases hu : mget u.at_ r.thread with
              | none => rw [hu] at hs; cases hs
              | some o' =>
                rw [hu] at hs
                have e := Option.some.inj hs
                have e1 : o'.what = o.what := (by have q := congrArg Opn.what e; exact q)
                have e2 : o'.op = o.op := (by have q := congrArg Opn.op e; exact q)
                show o'.what = 3 ∧ r.op = IntKind.wrap .i64 (o'.op + 1)
                rw [e1, e2]; exact hm
          exact ⟨_, if_pos ⟨hm, h4.2⟩, put _ _, oth _⟩
        · cases e
      · rename_i h3
        rw [if_neg h3]
        unfold RD.follow at e ⊢
        split at e
        · cases e
        · rename_i o ho
          rw [ho] at hs
          cases hu : mget u.at_ r.thread with
          | none => rw [hu] at hs; cases hs
          | some o' =>
            rw [hu] at hs
            have es := Option.some.inj hs
            have e1 : o'.what = o.what := (by have q := congrArg Opn.what es; exact q)
            have e2 : o'.op = o.op := (by have q := congrArg Opn.op es; exact q)
            have e3 : o'.act = o.act := (by have q := congrArg Opn.act es; exact q)
            have e4 : o'.key = o.key := (by have q := congrArg Opn.key es; exact q)
            have e5 : o'.value = o.value := (by have q := congrArg Opn.value es; exact q)
            have e6 : o'.hit = o.hit := (by have q := congrArg Opn.hit es; exact q)
            show ∃ u', (if o'.what = 3 ∨ r.op ≠ o'.op ∨ r.act ≠ o'.act ∨ r.key ≠ o'.key then none
              else if r.what = 2 then (if o'.what = 1 ∧ r.err = 0 then some (u.upd r o' fun c => { c with at_ := j }) else none)
              else if r.what = 3 then (if o'.what = 1 ∨ (r.value = o'.value ∧ r.hit = o'.hit ∧ r.err = 0) then some (u.upd r o' fun c => { c with to_ := j }) else none)
              else none) = some u' ∧ (mget u'.at_ r.thread).map strip = (mget s'.at_ r.thread).map strip ∧ ∀ k, k ≠ r.thread → mget u'.at_ k = mget u.at_ k
            rw [e1, e2, e3, e4, e5, e6]
            split at e
            · cases e
            · rename_i g1
              rw [if_neg g1]
              split at e
              · rename_i g2
                rw [if_pos g2]
                split at e
                · rename_i g3
                  rw [if_pos g3]
                  cases e
                  exact ⟨_, rfl, put _ _, oth _⟩
                · cases e
              · rename_i g2
                rw [if_neg g2]
                split at e
                · rename_i g3
                  rw [if_pos g3]
                  split at e
                  · rename_i g4
                    rw [if_pos g4]
                    cases e
                    exact ⟨_, rfl, put _ _, oth _⟩
                  · cases e
                · cases e

/-- What a record that is read leaves its thread at. -/
theorem step_sets {s s' : RD} {r : Rec} {i : Nat} (hop : ¬ r.op < 0) (e : s.step r i = some s') :
    (0 ≤ r.thread ∧ r.thread < 64) ∧ (r.what = 1 ∨ r.what = 2 ∨ r.what = 3) ∧ ∃ o', mget s'.at_ r.thread = some o' ∧ strip o' = Opn.of r 0 ∧ (r.what = 1 → o'.call = s.cs.length ∧ s.may r) ∧ (r.what = 2 → r.err = 0 ∧ ∀ c, s'.cs[o'.call.toNat]? = some c → c.at_ = i) := by
  unfold RD.step at e
  split at e
  · cases e
  · rename_i h1
    refine ⟨by omega, ?_⟩
    split at e
    · rename_i h3
      unfold RD.invoke at e
      split at e
      · rename_i h4
        cases e
        refine ⟨.inl h3, _, by show mget (mput s.at_ r.thread _) r.thread = _; rw [mget_put, if_pos rfl], rfl, fun _ => ⟨rfl, h4.1⟩, fun h => by omega⟩
      · cases e
    · rename_i h3
      unfold RD.follow at e
      split at e
      · cases e
      · rename_i o ho
        split at e
        · cases e
        · split at e
          · rename_i g2
            split at e
            · rename_i g3
              cases e
              refine ⟨.inr (.inl g2), _, by show mget (mput s.at_ r.thread _) r.thread = _; rw [mget_put, if_pos rfl], rfl, fun h => absurd h h3, fun _ => ⟨g3.2, fun c hc => ?_⟩⟩
              have hc' : (s.cs.set o.call.toNat { s.cs.getD o.call.toNat c0 with at_ := (i : Int) })[o.call.toNat]? = some c := hc
              rcases get_set hc' with ⟨_, rfl⟩ | ⟨h, _⟩
              · rfl
              · exact absurd rfl h
            · cases e
          · split at e
            · rename_i g3
              split at e
              · cases e
                exact ⟨.inr (.inr g3), _, by show mget (mput s.at_ r.thread _) r.thread = _; rw [mget_put, if_pos rfl], rfl, fun h => absurd h h3, fun h => by omega⟩
              · cases e
            · cases e

/-- Where the record lies that came last of a thread. -/
structure LRec (l : List Rec) (n : Nat) (s : RD) : Prop where
  rcd : ∀ t o, mget s.at_ t = some o → ∃ p, p < n ∧ strip o = Opn.of (l.getD p r0) 0 ∧ (l.getD p r0).thread = t ∧ (o.what = 2 → (l.getD p r0).err = 0 ∧ ∀ c, s.cs[o.call.toNat]? = some c → c.at_ = p)
theorem other_cs {s s' : RD} {r : Rec} {i : Nat} (e : s.step r i = some s') : ∀ (k : Nat), (∀ o, mget s.at_ r.thread = some o → k ≠ o.call.toNat) → k < s.cs.length → s'.cs[k]? = s.cs[k]? := by
  intro k hk hl
  unfold RD.step at e
  split at e
  · cases e
  · split at e
    · split at e
      · cases e; rfl
      · cases e
    · split at e
      · unfold RD.invoke at e
        split at e
        · cases e; exact List.getElem?_append_left hl
        · cases e
      · unfold RD.follow at e
        split at e
        · cases e
        · rename_i o ho
          have hne := hk o ho
          have hset : ∀ x, (s.cs.set o.call.toNat x)[k]? = s.cs[k]? := fun x => List.getElem?_set_ne (fun h => hne h.symm)
          split at e
          · cases e
          · split at e
            · split at e
              · cases e; exact hset _
              · cases e
            · split at e
              · split at e
                · cases e; exact hset _
                · cases e
              · cases e
theorem evict_same {s s' : RD} {r : Rec} {i : Nat} (hop : r.op < 0) (e : s.step r i = some s') : s' = s ∧ ∀ (u : RD) (j : Nat), u.step r j = some u := by
  unfold RD.step at e
  split at e
  · cases e
  · rename_i h1
    split at e
    · rename_i h2
      cases e
      refine ⟨rfl, fun u j => ?_⟩
      unfold RD.step
      rw [if_neg h1, if_pos hop, if_pos h2]
    · cases e
theorem LRec.step {l : List Rec} {n : Nat} {s s' : RD} (L : LRec l n s) (I : RInv l n s) (e : s.step (l.getD n r0) n = some s') : LRec l (n + 1) s' := by
  refine ⟨fun t o h => ?_⟩
  by_cases hop : (l.getD n r0).op < 0
  · obtain ⟨rfl, _⟩ := evict_same hop e
    obtain ⟨p, h1, h2⟩ := L.rcd t o h
    exact ⟨p, by omega, h2⟩
  · obtain ⟨_, _, o', g1, g2, g3, g4⟩ := step_sets hop e
    by_cases ht : t = (l.getD n r0).thread
    · subst ht
      rw [g1] at h; cases h
      refine ⟨n, by omega, g2, rfl, fun h2 => ?_⟩
      have : (strip o).what = (l.getD n r0).what := by rw [g2]; rfl
      exact g4 (by have h3 : (strip o).what = 2 := h2; omega)
    · rw [other_step (fun h => ht h.symm) e] at h
      obtain ⟨p, h1, h2, h3, h4⟩ := L.rcd t o h
      obtain ⟨k1, k2, k3, k4, c1, k5, k6, _⟩ := I.last _ _ h
      refine ⟨p, by omega, h2, h3, fun hw => ⟨(h4 hw).1, fun c hc => ?_⟩⟩
      rw [other_cs e _ (fun o2 ho2 hh => ?_) k3] at hc
      · exact (h4 hw).2 c hc
      · obtain ⟨q1, q2, q3, q4, c2, q5, q6, _⟩ := I.last _ _ ho2
        rw [← hh, k5] at q5
        cases q5
        exact ht (k6.symm.trans q6)
theorem readTo_lrec {l : List Rec} (hb : ∀ i, (l.getD i r0).op < 9223372036854775808) : ∀ {n : Nat} {s : RD}, readTo l n = some s → LRec l n s
  | 0, s, h => by cases h; exact ⟨fun t o h => by cases h⟩
  | n + 1, s', h => by
    obtain ⟨s, h1, h2⟩ := Option.bind_eq_some_iff.1 h
    exact (readTo_lrec hb h1).step (readTo_inv hb h1) h2

def Dropped (cs : List Cal) (n : Nat) (t : Int) : Prop := ∃ (j : Nat) (c : Cal), cs[j]? = some c ∧ c.thread = t ∧ c.frm < n ∧ c.at_ = -1 ∧ c.to_ = -1
def idle : Option Opn → Prop
  | none => True
  | some o => o.what = 3
def Kept1 (cs : List Cal) (n : Nat) (sn u : RD) (t : Int) : Prop :=
  (¬ Dropped cs n t ∧ (mget u.at_ t).map strip = (mget sn.at_ t).map strip) ∨ (Dropped cs n t ∧ idle (mget u.at_ t) ∧ cntO (mget u.at_ t) ≤ cntO (mget sn.at_ t))

theorem idle_strip {a b : Option Opn} (h : a.map strip = b.map strip) (hb : idle b) : idle a := by
  cases a with
  | none => trivial
  | some o => cases b with
    | none => cases h
    | some o' =>
      have e := Option.some.inj h
      have e1 : o.what = o'.what := (by have q := congrArg Opn.what e; exact q)
      show o.what = 3
      rw [e1]; exact hb

theorem hDrop_iff (cs : List Cal) (n : Nat) : hDrop cs n = true ↔ ∃ (j : Nat) (c : Cal), cs[j]? = some c ∧ c.frm = n ∧ c.at_ = -1 ∧ c.to_ = -1 := by
  unfold hDrop
  rw [List.any_eq_true]
  constructor
  · rintro ⟨c, hc, h⟩
    obtain ⟨j, hj⟩ := List.getElem?_of_mem hc
    have h := of_decide_eq_true h
    exact ⟨j, c, hj, h.2.2, h.2.1, h.1⟩
  · rintro ⟨j, c, h1, h2, h3, h4⟩
    exact ⟨c, List.mem_of_getElem? h1, decide_eq_true ⟨h4, h3, h2⟩⟩
theorem hLate_iff (cs : List Cal) (n : Nat) : hLate cs n = true ↔ ∃ (j : Nat) (c : Cal), cs[j]? = some c ∧ c.at_ = n ∧ c.to_ = -1 := by
  unfold hLate
  rw [List.any_eq_true]
  constructor
  · rintro ⟨c, hc, h⟩
    obtain ⟨j, hj⟩ := List.getElem?_of_mem hc
    have h := of_decide_eq_true h
    exact ⟨j, c, hj, h.2.2, h.1⟩
  · rintro ⟨j, c, h1, h2, h3⟩
    exact ⟨c, List.mem_of_getElem? h1, decide_eq_true ⟨h3, by omega, h2⟩⟩

theorem frm_order {l : List Rec} {n : Nat} {s : RD} (I : RInv l n s) {j k : Nat} {c d : Cal} (h1 : s.cs[j]? = some c) (h2 : s.cs[k]? = some d) (h : c.frm < d.frm) : j < k := by
  rcases Nat.lt_trichotomy j k with h3 | h3 | h3
  · exact h3
  · subst h3; rw [h1] at h2; cases h2; omega
  · have := I.up k j d c h3 h2 h1; omega

theorem op_next {o r : Int} (h : r = IntKind.wrap .i64 (o + 1)) (h0 : 0 ≤ o) (h1 : o < 9223372036854775808) (h2 : 0 ≤ r) : r = o + 1 := by
  simp only [IntKind.wrap, IntKind.bits, IntKind.signed] at h
  simp at h
  omega

/-- What is kept is read as before, but for the calls that are dropped. -/
theorem out_sim {l : List Rec} (hb : ∀ i, (l.getD i r0).op < 9223372036854775808) {s : RD} (hs : readTo l l.length = some s) :
    ∀ {n : Nat} {sn : RD}, n ≤ l.length → readTo l n = some sn → ∃ u, readTo (hOut l s.cs n) (hOut l s.cs n).length = some u ∧ ∀ t, Kept1 s.cs n sn u t
  | 0, sn, _, h => by
    cases h
    refine ⟨⟨[], []⟩, rfl, fun t => .inl ⟨?_, rfl⟩⟩
    rintro ⟨j, c, h1, h2, h3, _⟩
    have := ((readTo_inv hb hs).frm j c h1).1
    omega
  | n + 1, s', hn, h => by
    obtain ⟨sn, h1, e⟩ := Option.bind_eq_some_iff.1 h
    obtain ⟨u, hu, K⟩ := out_sim hb hs (by omega) h1
    have I := readTo_inv hb h1
    have I' := readTo_inv hb h
    have If := readTo_inv hb hs
    have C := cut_all hb h1 (by omega) hs
    have C' := cut_all hb h hn hs
    have hbn := hb n
    have hr : ∀ {j : Nat} {c : Cal}, s.cs[j]? = some c → c.frm = n → (l.getD n r0).what = 1 ∧ (l.getD n r0).thread = c.thread ∧ (l.getD n r0).op = c.op ∧ 0 ≤ c.op := by
      intro j c hj hc
      obtain ⟨_, _, a, b, d, f⟩ := If.frm j c hj
      rw [hc, Int.toNat_natCast] at a b d
      exact ⟨a, b, d, f⟩
    have dn : ∀ t, Dropped s.cs (n + 1) t ↔ Dropped s.cs n t ∨ (hDrop s.cs n = true ∧ (l.getD n r0).thread = t) := by
      intro t
      constructor
      · rintro ⟨j, c, g1, g2, g3, g4, g5⟩
        by_cases hc : c.frm = n
        · exact .inr ⟨(hDrop_iff _ _).2 ⟨j, c, g1, hc, g4, g5⟩, (hr g1 hc).2.1.trans g2⟩
        · exact .inl ⟨j, c, g1, g2, by omega, g4, g5⟩
      · rintro (⟨j, c, g1, g2, g3, g4, g5⟩ | ⟨g, ht⟩)
        · exact ⟨j, c, g1, g2, by omega, g4, g5⟩
        · obtain ⟨j, c, g1, g2, g4, g5⟩ := (hDrop_iff _ _).1 g
          exact ⟨j, c, g1, (hr g1 g2).2.1.symm.trans ht, by omega, g4, g5⟩
    generalize hrr : l.getD n r0 = r at e hr dn hbn
    have keepOther : ∀ {u' : RD} (t : Int), t ≠ r.thread → mget u'.at_ t = mget u.at_ t → Kept1 s.cs (n + 1) s' u' t := by
      intro u' t ht hu'
      have hd : Dropped s.cs (n + 1) t ↔ Dropped s.cs n t := by
        rw [dn]
        exact ⟨fun h => h.resolve_right (fun h => ht h.2.symm), .inl⟩
      unfold Kept1
      rw [hd, other_step (fun h => ht h.symm) e, hu']
      exact K t
    cases hD : hDrop s.cs n with
    | true =>
      refine ⟨u, by rw [hOut_succ, if_pos hD, List.append_nil]; exact hu, fun t => ?_⟩
      by_cases ht : t = r.thread
      · subst ht
        obtain ⟨j, c, g1, g2, g4, g5⟩ := (hDrop_iff _ _).1 hD
        obtain ⟨w1, w2, w3, w4⟩ := hr g1 g2
        have hop : ¬ r.op < 0 := by omega
        obtain ⟨_, _, o', q1, q2, q3, _⟩ := step_sets hop e
        have hm := (q3 w1).2
        have hnd : ¬ Dropped s.cs n r.thread := by
          rintro ⟨j2, c2, f1, f2, f3, f4, f5⟩
          have hlt := frm_order If f1 g1 (by omega)
          have := (If.two j2 j c2 c hlt f1 g1 (by rw [f2, w2])).1
          exact this f5
        have hk := (K r.thread).resolve_right (fun h => hnd h.1)
        refine .inr ⟨(dn _).2 (.inr ⟨hD, rfl⟩), ?_, ?_⟩
        · refine idle_strip hk.2 ?_
          unfold RD.may at hm
          cases hg : mget sn.at_ r.thread with
          | none => trivial
          | some o => rw [hg] at hm; exact hm.1
        · rw [(cnt_strip hk.2).1, q1]
          have e2 : (strip o').op = r.op := by rw [q2]; rfl
          have e3 : cntO (some o') = r.op.toNat + 1 := by show (strip o').op.toNat + 1 = _; rw [e2]
          rw [e3]
          unfold RD.may at hm
          cases hg : mget sn.at_ r.thread with
          | none => exact Nat.zero_le _
          | some o =>
            rw [hg] at hm
            obtain ⟨k1, k2, k3, k4, c', k5, k6, k7, _⟩ := I.last _ _ hg
            obtain ⟨f1, f2, f3, f4, f5, f6⟩ := I.frm _ _ k5
            have := op_next hm.2 (by rw [← k7]; exact f6) (by rw [← k7, ← f5]; exact hb _) (by omega)
            show o.op.toNat + 1 ≤ _
            omega
      · exact keepOther t ht rfl
    | false =>
      have hout : hOut l s.cs (n + 1) = hOut l s.cs n ++ [r] := by rw [hOut_succ, if_neg (by rw [hD]; decide), hrr]
      have hread : ∀ u', u.step r (hOut l s.cs n).length = some u' → readTo (hOut l s.cs (n + 1)) (hOut l s.cs (n + 1)).length = some u' := by
        intro u' h
        rw [hout, List.length_append]
        show (readTo (hOut l s.cs n ++ [r]) (hOut l s.cs n).length).bind _ = some u'
        rw [readTo_append (Nat.le_refl _), hu]
        show u.step ((hOut l s.cs n ++ [r]).getD (hOut l s.cs n).length r0) _ = some u'
        have : (hOut l s.cs n ++ [r]).getD (hOut l s.cs n).length r0 = r := by
          rw [List.getD_eq_getElem?_getD, List.getElem?_append_right (Nat.le_refl _), Nat.sub_self]; rfl
        rw [this]; exact h
      have dn' : ∀ t, Dropped s.cs (n + 1) t ↔ Dropped s.cs n t := fun t => by
        rw [dn]
        exact ⟨fun h => h.resolve_right (fun h => by rw [hD] at h; cases h.1), .inl⟩
      by_cases hop : r.op < 0
      · obtain ⟨rfl, hu'⟩ := evict_same hop e
        refine ⟨u, hread u (hu' u _), fun t => ?_⟩
        unfold Kept1
        rw [dn']
        exact K t
      · obtain ⟨_, q0, o', q1, q2, q3, _⟩ := step_sets hop e
        have hnd : ¬ Dropped s.cs n r.thread := by
          rintro ⟨j2, c2, f1, f2, f3, f4, f5⟩
          have hin : j2 < sn.cs.length := by
            rcases Nat.lt_or_ge j2 sn.cs.length with h | h
            · exact h
            · have := (C.el j2 c2 f1).2 h; omega
          have hin' : j2 < s'.cs.length := by
            rcases Nat.lt_or_ge j2 s'.cs.length with h | h
            · exact h
            · have := (C'.el j2 c2 f1).2 h; omega
          have hc2 := ((C'.el j2 c2 f1).1 hin').2
          have z1 : (cut c2 (n + 1)).at_ = -1 := by show (if c2.at_ ≥ ((n + 1 : Nat) : Int) then -1 else c2.at_) = -1; rw [f4]; split <;> rfl
          have z2 : (cut c2 (n + 1)).to_ = -1 := by show (if c2.to_ ≥ ((n + 1 : Nat) : Int) then -1 else c2.to_) = -1; rw [f5]; split <;> rfl
          have z3 : (cut c2 (n + 1)).thread = r.thread := f2
          obtain ⟨o2, p1, p2, p3⟩ := I'.own j2 _ hc2
          rw [z3, q1] at p1; cases p1
          obtain ⟨k1, k2, k3, k4, c', k5, k6, k7, k8, k9, k10⟩ := I'.last _ _ q1
          rcases Nat.lt_or_ge j2 o'.call.toNat with hlt | hge
          · exact (I'.two j2 _ _ c' hlt hc2 k5 (by rw [z3, k6])).1 z2
          · have ej : j2 = o'.call.toNat := by omega
            rw [ej, k5] at hc2
            cases hc2
            have hw : o'.what = 1 := k8.2 ⟨z1, z2⟩
            have hw2 : r.what = 1 := by
              have : (strip o').what = r.what := by rw [q2]; rfl
              rw [← this]; exact hw
            have := (q3 hw2).1
            omega
        have hk := (K r.thread).resolve_right (fun h => hnd h.1)
        obtain ⟨u', v1, v2, v3⟩ := sim_step (j := (hOut l s.cs n).length) hk.2 e
        refine ⟨u', hread u' v1, fun t => ?_⟩
        by_cases ht : t = r.thread
        · subst ht
          exact .inl ⟨fun h => hnd ((dn' _).1 h), v2⟩
        · exact keepOther t ht (v3 t ht)

def LateTo (cs : List Cal) (n : Nat) (t : Int) : Prop := ∃ (j : Nat) (c : Cal), cs[j]? = some c ∧ c.thread = t ∧ c.at_ < n ∧ c.at_ ≠ -1 ∧ c.to_ = -1
def Kept2 (cs : List Cal) (n : Nat) (v u : RD) (t : Int) : Prop :=
  (¬ LateTo cs n t ∧ mget u.at_ t = mget v.at_ t) ∨ (LateTo cs n t ∧ (∃ o, mget u.at_ t = some o ∧ o.what = 3) ∧ cntO (mget u.at_ t) = cntO (mget v.at_ t))

theorem readTo_left {a b : List Rec} : ∀ {n : Nat}, n ≤ a.length → readTo (a ++ b) n = readTo a n
  | 0, _ => rfl
  | n + 1, h => by
    show (readTo (a ++ b) n).bind _ = (readTo a n).bind _
    rw [readTo_left (by omega)]
    have e : (a ++ b).getD n r0 = a.getD n r0 := by
      rw [List.getD_eq_getElem?_getD, List.getD_eq_getElem?_getD, List.getElem?_append_left (by omega)]
    rw [e]

/-- A late call's own record is what its thread is at. -/
theorem late_at {l : List Rec} (hb : ∀ i, (l.getD i r0).op < 9223372036854775808) {s : RD} (hs : readTo l l.length = some s) {j n : Nat} {c : Cal} (hj : s.cs[j]? = some c) (h1 : c.at_ = n) (h2 : c.to_ = -1) :
    (l.getD n r0).thread = c.thread ∧ 0 ≤ (l.getD n r0).op ∧ (l.getD n r0).err = 0 ∧ (0 ≤ c.thread ∧ c.thread < 64) ∧ ∃ o, mget s.at_ c.thread = some o ∧ strip o = Opn.of (l.getD n r0) 0 ∧ o.what = 2 ∧ o.call.toNat = j := by
  have I := readTo_inv hb hs
  obtain ⟨o, p1, p2, p3⟩ := I.own j c hj
  obtain ⟨k1, k2, k3, k4, c', k5, k6, k7, k8, k9, k10⟩ := I.last _ _ p1
  have ej : j = o.call.toNat := by
    rcases Nat.lt_or_ge j o.call.toNat with hlt | hge
    · exact absurd h2 (I.two j _ c c' hlt hj k5 (by rw [k6])).1
    · omega
  rw [← ej, hj] at k5
  cases k5
  have hw : o.what = 2 := k9.2 ⟨by omega, h2⟩
  obtain ⟨p, q1, q2, q3, q4⟩ := (readTo_lrec hb hs).rcd _ _ p1
  obtain ⟨q5, q6⟩ := q4 hw
  have hp := q6 c (by rw [← ej]; exact hj)
  have : p = n := by omega
  subst this
  obtain ⟨f1, f2, f3, f4, f5, f6⟩ := I.frm j c hj
  have hop : (l.getD p r0).op = c.op := by
    have : (strip o).op = (l.getD p r0).op := by rw [q2]; rfl
    rw [← this]; exact k7.symm
  have hthr : 0 ≤ c.thread ∧ c.thread < 64 := by
    -- the thread of a record that was read
    obtain ⟨t1, ht1⟩ := readTo_some hs (show p + 1 ≤ l.length by omega)
    obtain ⟨t0, ht0, e⟩ := Option.bind_eq_some_iff.1 ht1
    obtain ⟨b, _⟩ := step_sets (r := l.getD p r0) (by omega) e
    rw [← q3]; exact b
  exact ⟨q3, by omega, q5, hthr, o, p1, q2, hw, ej.symm⟩

theorem more_sim {l : List Rec} (hb : ∀ i, (l.getD i r0).op < 9223372036854775808) {s : RD} (hs : readTo l l.length = some s) {v : RD} (hv : readTo (hOut l s.cs l.length) (hOut l s.cs l.length).length = some v) (K : ∀ t, Kept1 s.cs l.length s v t) :
    ∀ {n : Nat}, n ≤ l.length → ∃ u, readTo (hOut l s.cs l.length ++ hMore l s.cs n) ((hOut l s.cs l.length).length + (hMore l s.cs n).length) = some u ∧ ∀ t, Kept2 s.cs n v u t
  | 0, _ => by
    refine ⟨v, ?_, fun t => .inl ⟨?_, rfl⟩⟩
    · show readTo (hOut l s.cs l.length ++ []) _ = some v
      rw [List.append_nil]; exact hv
    · rintro ⟨j, c, h1, h2, h3, h4, h5⟩
      have I := readTo_inv hb hs
      rcases I.at_ j c h1 with e | ⟨e, _⟩
      · exact h4 e
      · have := (I.frm j c h1).1; omega
  | n + 1, hn => by
    obtain ⟨u, hu, Kn⟩ := more_sim hb hs hv K (n := n) (by omega)
    have I := readTo_inv hb hs
    cases hL : hLate s.cs n with
    | false =>
      refine ⟨u, by rw [hMore_succ, if_neg (by rw [hL]; decide), List.append_nil]; exact hu, fun t => ?_⟩
      have : LateTo s.cs (n + 1) t ↔ LateTo s.cs n t := by
        constructor
        · rintro ⟨j, c, h1, h2, h3, h4, h5⟩
          refine ⟨j, c, h1, h2, ?_, h4, h5⟩
          by_cases e : c.at_ = n
          · have := (hLate_iff s.cs n).2 ⟨j, c, h1, e, h5⟩
            rw [hL] at this; cases this
          · omega
        · rintro ⟨j, c, h1, h2, h3, h4, h5⟩
          exact ⟨j, c, h1, h2, by omega, h4, h5⟩
      unfold Kept2
      rw [this]
      exact Kn t
    | true =>
      obtain ⟨j, c, h1, h2, h3⟩ := (hLate_iff _ _).1 hL
      obtain ⟨a1, a2, a3, a4, o, b1, b2, b3, b4⟩ := late_at hb hs h1 h2 h3
      -- one late call of a thread at most
      have uniq : ∀ (j2 : Nat) (c2 : Cal), s.cs[j2]? = some c2 → c2.thread = c.thread → c2.to_ = -1 → j2 = j := by
        intro j2 c2 g1 g2 g3
        rcases Nat.lt_trichotomy j2 j with h | h | h
        · exact absurd g3 (I.two j2 j c2 c h g1 h1 g2).1
        · exact h
        · exact absurd h3 (I.two j j2 c c2 h h1 g1 g2.symm).1
      have hnl : ¬ LateTo s.cs n c.thread := by
        rintro ⟨j2, c2, g1, g2, g3, g4, g5⟩
        have := uniq j2 c2 g1 g2 g5
        subst this
        rw [h1] at g1; cases g1
        omega
      have hnd : ¬ Dropped s.cs l.length c.thread := by
        rintro ⟨j2, c2, g1, g2, g3, g4, g5⟩
        have := uniq j2 c2 g1 g2 g5
        subst this
        rw [h1] at g1; cases g1
        omega
      have hk1 := (K c.thread).resolve_right (fun h => hnd h.1)
      have hk2 := (Kn c.thread).resolve_right (fun h => hnl h.1)
      have hst : (mget u.at_ c.thread).map strip = some (Opn.of (l.getD n r0) 0) := by
        rw [hk2.2, hk1.2, b1]; exact congrArg some b2
      generalize hrr : l.getD n r0 = r at a1 a2 a3 b2 hst
      cases hm : mget u.at_ c.thread with
      | none => rw [hm] at hst; cases hst
      | some o' =>
        rw [hm] at hst
        have es := Option.some.inj hst
        have e1 : o'.what = r.what := (by have q := congrArg Opn.what es; exact q)
        have e2 : o'.op = r.op := (by have q := congrArg Opn.op es; exact q)
        have e3 : o'.act = r.act := (by have q := congrArg Opn.act es; exact q)
        have e4 : o'.key = r.key := (by have q := congrArg Opn.key es; exact q)
        have e5 : o'.value = r.value := (by have q := congrArg Opn.value es; exact q)
        have e6 : o'.hit = r.hit := (by have q := congrArg Opn.hit es; exact q)
        have e7 : r.what = 2 := by
          have : (strip o).what = r.what := by rw [b2]; rfl
          rw [← this]; exact b3
        have hstep : ∀ i, ({ r with what := 3 } : Rec).thread = r.thread → u.step { r with what := 3 } i = some (u.upd { r with what := 3 } o' fun c => { c with to_ := i }) := by
          intro i _
          unfold RD.step
          rw [if_neg (by show ¬ (r.thread < 0 ∨ r.thread ≥ 64); omega), if_neg (by show ¬ r.op < 0; omega), if_neg (by show ¬ (3 : Int) = 1; decide)]
          unfold RD.follow
          show (match mget u.at_ r.thread with | none => none | some o => _) = _
          rw [a1, hm]
          show (if o'.what = 3 ∨ r.op ≠ o'.op ∨ r.act ≠ o'.act ∨ r.key ≠ o'.key then none else if (3 : Int) = 2 then _ else if (3 : Int) = 3 then (if o'.what = 1 ∨ (r.value = o'.value ∧ r.hit = o'.hit ∧ r.err = 0) then some _ else none) else none) = _
          rw [if_neg (by rw [e1, e2, e3, e4, e7]; simp), if_neg (by decide), if_pos rfl, if_pos (.inr ⟨e5.symm, e6.symm, a3⟩)]
        refine ⟨u.upd { r with what := 3 } o' fun c => { c with to_ := ((hOut l s.cs l.length).length + (hMore l s.cs n).length : Nat) }, ?_, fun t => ?_⟩
        · rw [hMore_succ, if_pos hL, hrr, ← List.append_assoc, List.length_append, ← Nat.add_assoc]
          show (readTo _ ((hOut l s.cs l.length).length + (hMore l s.cs n).length)).bind _ = _
          rw [readTo_left (by rw [List.length_append]; exact Nat.le_refl _), hu]
          show u.step ((hOut l s.cs l.length ++ hMore l s.cs n ++ [{ r with what := 3 }]).getD ((hOut l s.cs l.length).length + (hMore l s.cs n).length) r0) _ = _
          have : (hOut l s.cs l.length ++ hMore l s.cs n ++ [{ r with what := 3 }]).getD ((hOut l s.cs l.length).length + (hMore l s.cs n).length) r0 = { r with what := 3 } := by
            rw [List.getD_eq_getElem?_getD, List.getElem?_append_right (by rw [List.length_append]; exact Nat.le_refl _), List.length_append, Nat.sub_self]; rfl
          rw [this]; exact hstep _ rfl
        · have hget : mget (u.upd { r with what := 3 } o' fun c => { c with to_ := ((hOut l s.cs l.length).length + (hMore l s.cs n).length : Nat) }).at_ t = if t = r.thread then some (Opn.of { r with what := 3 } o'.call) else mget u.at_ t := mget_put ..
          by_cases ht : t = r.thread
          · refine .inr ⟨⟨j, c, h1, by rw [ht, a1], by omega, by omega, h3⟩, ⟨_, by rw [hget, if_pos ht], rfl⟩, ?_⟩
            rw [hget, if_pos ht, ht, a1, ← hk2.2, hm]
            show r.op.toNat + 1 = o'.op.toNat + 1
            rw [e2]
          · have : LateTo s.cs (n + 1) t ↔ LateTo s.cs n t := by
              constructor
              · rintro ⟨j2, c2, g1, g2, g3, g4, g5⟩
                refine ⟨j2, c2, g1, g2, ?_, g4, g5⟩
                by_cases e : c2.at_ = n
                · obtain ⟨f1, _⟩ := late_at hb hs g1 e g5
                  rw [hrr] at f1
                  exact absurd (g2.symm.trans f1.symm) ht
                · omega
              · rintro ⟨j2, c2, g1, g2, g3, g4, g5⟩
                exact ⟨j2, c2, g1, g2, by omega, g4, g5⟩
            unfold Kept2
            rw [this, hget, if_neg ht]
            exact Kn t

structure Completed (l c : List Rec) : Prop where
  right : hRight c = true
  left : hLeft c = 0
  coms : hCommits c = hCommits l
  again : hComplete c = c
  calls : (hCallsOf c).length ≤ (hCallsOf l).length
  small : c.length ≤ 2 * l.length

theorem completed {l : List Rec} (hl : ∀ r ∈ l, r.op < 9223372036854775808) (hr : hRight l = true) : Completed l (hComplete l) := by
  have hb := get_bound hl
  cases hs : readTo l l.length with
  | none => have := right_none hs; rw [this.1] at hr; cases hr
  | some s =>
    obtain ⟨a1, a2⟩ := right_some hs
    have hc : hComplete l = hOut l s.cs l.length ++ hMore l s.cs l.length := by rw [hComplete_eq hr, a2]
    obtain ⟨v, hv, K⟩ := out_sim hb hs (Nat.le_refl _) hs
    obtain ⟨u, hu, K2⟩ := more_sim hb hs hv K (Nat.le_refl _)
    rw [← List.length_append, ← hc] at hu
    obtain ⟨b1, b2⟩ := right_some hu
    have I := readTo_inv hb hs
    have hbc : ∀ r ∈ hComplete l, r.op < 9223372036854775808 := by
      intro r hr'
      rw [hc] at hr'
      rcases List.mem_append.1 hr' with h | h
      · unfold hOut at h
        obtain ⟨i, _, rfl⟩ := List.mem_map.1 h
        exact hb i
      · unfold hMore at h
        obtain ⟨i, _, rfl⟩ := List.mem_map.1 h
        exact hb i
    have TU := readTo_sum (get_bound hbc) hu
    have TS := readTo_sum hb hs
    have fin : ∀ t, idle (mget u.at_ t) ∧ cntO (mget u.at_ t) ≤ cntO (mget s.at_ t) := by
      intro t
      rcases K2 t with ⟨h1, h2⟩ | ⟨h1, ⟨o, h2, h3⟩, h4⟩
      · rw [h2]
        rcases K t with ⟨g1, g2⟩ | ⟨g1, g2, g3⟩
        · refine ⟨idle_strip g2 ?_, Nat.le_of_eq (cnt_strip g2).1⟩
          cases hg : mget s.at_ t with
          | none => trivial
          | some o =>
            obtain ⟨k1, k2, k3, k4, c', k5, k6, k7, k8, k9, k10⟩ := I.last _ _ hg
            obtain ⟨f1, f2, _⟩ := I.frm _ _ k5
            rcases k4 with w | w | w
            · obtain ⟨w1, w2⟩ := k8.1 w
              exact absurd ⟨_, c', k5, k6, f2, w1, w2⟩ g1
            · obtain ⟨w1, w2⟩ := k9.1 w
              rcases I.at_ _ _ k5 with e | ⟨_, e, _⟩
              · exact absurd e w1
              · exact absurd ⟨_, c', k5, k6, e, w1, w2⟩ h1
            · exact w
        · exact ⟨g2, g3⟩
      · refine ⟨by rw [h2]; exact h3, ?_⟩
        rw [h4]
        rcases K t with ⟨g1, g2⟩ | ⟨g1, g2, g3⟩
        · exact Nat.le_of_eq (cnt_strip g2).1
        · exact g3
    have hleft : hLeftOf u.cs = 0 := by
      rw [TU.lf]
      have : sumT (fun t => lfO (mget u.at_ (t : Int))) 64 = sumT (fun _ => 0) 64 := sumT_congr fun t _ => by
        have := (fin (t : Int)).1
        cases hg : mget u.at_ (t : Int) with
        | none => rfl
        | some o => rw [hg] at this; show (if o.what = 3 then 0 else 1) = 0; rw [if_pos (show o.what = 3 from this)]
      rw [this]; rfl
    have hto : ∀ c ∈ u.cs, c.to_ ≠ -1 := by
      intro c hc' h
      unfold hLeftOf at hleft
      have : c ∈ u.cs.filter fun c => decide (c.to_ = -1) := List.mem_filter.2 ⟨hc', decide_eq_true h⟩
      rw [List.eq_nil_of_length_eq_zero hleft] at this
      cases this
    have hdrop : ∀ i, hDrop u.cs i = false := by
      intro i
      unfold hDrop
      rw [List.any_eq_false]
      intro c hc'
      simp [hto c hc']
    have hlate : ∀ i, hLate u.cs i = false := by
      intro i
      unfold hLate
      rw [List.any_eq_false]
      intro c hc'
      simp [hto c hc']
    refine ⟨b1, by unfold hLeft; rw [b2]; exact hleft, ?_, ?_, ?_, ?_⟩
    · unfold hCommits
      rw [if_pos b1, if_pos hr]
      congr 1
      rw [hc, List.filter_append]
      have m0 : (hMore l s.cs l.length).filter (fun r => decide (r.what = 2)) = [] := by
        rw [List.filter_eq_nil_iff]
        intro r hr'
        unfold hMore at hr'
        obtain ⟨i, _, rfl⟩ := List.mem_map.1 hr'
        simp
      rw [m0, List.append_nil]
      have key : ∀ n, n ≤ l.length → (hOut l s.cs n).filter (fun r => decide (r.what = 2)) = (l.take n).filter (fun r => decide (r.what = 2)) := by
        intro n
        induction n with
        | zero => intro _; rfl
        | succ n ih =>
          intro hn
          rw [hOut_succ, List.filter_append, ih (by omega), List.take_succ_eq_append_getElem (show n < l.length by omega), List.filter_append, ← getD_el r0 (show n < l.length by omega)]
          congr 1
          cases hD : hDrop s.cs n with
          | false => rfl
          | true =>
            obtain ⟨j, c, g1, g2, g3, g4⟩ := (hDrop_iff _ _).1 hD
            obtain ⟨_, _, w, _⟩ := I.frm j c g1
            rw [g2, Int.toNat_natCast] at w
            simp only [if_true, List.filter_cons, w]
            rfl
      rw [key _ (Nat.le_refl _), List.take_length]
    · rw [hComplete_eq b1, b2]
      have o1 : hOut (hComplete l) u.cs (hComplete l).length = hComplete l := by
        unfold hOut
        rw [List.filter_eq_self.2 (fun i _ => by rw [hdrop i]; rfl)]
        apply List.ext_getElem?
        intro i
        rcases Nat.lt_or_ge i (hComplete l).length with h | h
        · rw [List.getElem?_map, List.getElem?_range h, List.getElem?_eq_getElem h]
          show some ((hComplete l).getD i r0) = _
          rw [getD_el r0 h]
        · rw [List.getElem?_eq_none h, List.getElem?_eq_none (by rw [List.length_map, List.length_range]; exact h)]
      have o2 : hMore (hComplete l) u.cs (hComplete l).length = [] := by
        unfold hMore
        rw [List.filter_eq_nil_iff.2 (fun i _ => by rw [hlate i]; decide)]
        rfl
      rw [o1, o2, List.append_nil]
    · rw [b2, a2, TU.cnt, TS.cnt]
      have mono : ∀ n, sumT (fun t => cntO (mget u.at_ (t : Int))) n ≤ sumT (fun t => cntO (mget s.at_ (t : Int))) n := by
        intro n
        induction n with
        | zero => exact Nat.le_refl _
        | succ n ih => rw [sumT_succ, sumT_succ]; have := (fin (n : Int)).2; omega
      exact mono 64
    · have := hOut_le l s.cs l.length
      have := hMore_le l s.cs l.length
      rw [hc, List.length_append]; omega

end Sx
end Go.Proofs.Ytemcdjdglcceiaa

/-
  The document's answer for rows of records, as plain data: the same as what is read.
-/
namespace Go.Proofs.Ytemcdjdglcceiaa
namespace Sx
open Go
set_option linter.unusedSimpArgs false
set_option linter.unusedVariables false

/-- The last record of a thread, but evictions. -/
def lastTo (l : List Rec) : Nat → Int → Option Rec
  | 0, _ => none
  | n + 1, t => if (l.getD n r0).thread = t ∧ 0 ≤ (l.getD n r0).op then some (l.getD n r0) else lastTo l n t
def nextOk (last : Option Rec) (r : Rec) : Prop :=
  if r.what = 1 then (match last with | none => r.op = 0 ∧ r.err = 0 | some o => o.what = 3 ∧ r.op = IntKind.wrap .i64 (o.op + 1) ∧ r.err = 0)
  else match last with
    | none => False
    | some o => ¬ (o.what = 3 ∨ r.op ≠ o.op ∨ r.act ≠ o.act ∨ r.key ≠ o.key) ∧ ((r.what = 2 ∧ o.what = 1 ∧ r.err = 0) ∨ (r.what = 3 ∧ (o.what = 1 ∨ (r.value = o.value ∧ r.hit = o.hit ∧ r.err = 0))))
def okAt (l : List Rec) (i : Nat) : Prop :=
  (0 ≤ (l.getD i r0).thread ∧ (l.getD i r0).thread ≤ 63) ∧
    (if (l.getD i r0).op < 0 then (l.getD i r0).op = -1 ∧ (l.getD i r0).what = 2 ∧ (l.getD i r0).act = 4 ∧ (l.getD i r0).err = 0 else nextOk (lastTo l i (l.getD i r0).thread) (l.getD i r0))

def LastIs (l : List Rec) (n : Nat) (s : RD) : Prop := ∀ t, (mget s.at_ t).map strip = (lastTo l n t).map fun r => Opn.of r 0

theorem last_step {l : List Rec} {n : Nat} {s s' : RD} (L : LastIs l n s) (e : s.step (l.getD n r0) n = some s') : LastIs l (n + 1) s' := by
  intro t
  show _ = (if (l.getD n r0).thread = t ∧ 0 ≤ (l.getD n r0).op then some (l.getD n r0) else lastTo l n t).map fun r => Opn.of r 0
  by_cases hop : (l.getD n r0).op < 0
  · obtain ⟨rfl, _⟩ := evict_same hop e
    rw [if_neg (fun h => by omega)]
    exact L t
  · obtain ⟨_, _, o', g1, g2, _⟩ := step_sets hop e
    by_cases ht : (l.getD n r0).thread = t
    · rw [if_pos ⟨ht, by omega⟩, ← ht, g1]
      exact congrArg some g2
    · rw [if_neg (fun h => ht h.1), other_step ht e]
      exact L t

theorem step_ok {l : List Rec} {n : Nat} {s : RD} (L : LastIs l n s) : (s.step (l.getD n r0) n).isSome = true ↔ okAt l n := by
  have Lt := L (l.getD n r0).thread
  unfold okAt RD.step
  generalize l.getD n r0 = r at Lt
  by_cases h1 : r.thread < 0 ∨ r.thread ≥ 64
  · rw [if_pos h1]
    exact ⟨(fun h => by cases h), fun h => by omega⟩
  rw [if_neg h1]
  have ht : 0 ≤ r.thread ∧ r.thread ≤ 63 := by omega
  by_cases h2 : r.op < 0
  · rw [if_pos h2, if_pos h2]
    by_cases h3 : r.op = -1 ∧ r.what = 2 ∧ r.act = 4 ∧ r.err = 0
    · rw [if_pos h3]; exact ⟨fun _ => ⟨ht, h3⟩, fun _ => rfl⟩
    · rw [if_neg h3]; exact ⟨(fun h => by cases h), fun h => absurd h.2 h3⟩
  rw [if_neg h2, if_neg h2]
  unfold nextOk
  by_cases h3 : r.what = 1
  · rw [if_pos h3, if_pos h3]
    unfold RD.invoke
    cases hg : mget s.at_ r.thread with
    | none =>
      rw [hg] at Lt
      have hm : s.may r ↔ r.op = 0 := by unfold RD.may; rw [hg]
      cases hl : lastTo l n r.thread with
      | some x => rw [hl] at Lt; cases Lt
      | none =>
        show _ ↔ (0 ≤ r.thread ∧ r.thread ≤ 63) ∧ (r.op = 0 ∧ r.err = 0)
        by_cases h4 : s.may r ∧ r.err = 0
        · rw [if_pos h4]; exact ⟨fun _ => ⟨ht, hm.1 h4.1, h4.2⟩, fun _ => rfl⟩
        · rw [if_neg h4]; exact ⟨(fun h => by cases h), fun h => absurd ⟨hm.2 h.2.1, h.2.2⟩ h4⟩
    | some o =>
      rw [hg] at Lt
      have hm : s.may r ↔ (o.what = 3 ∧ r.op = IntKind.wrap .i64 (o.op + 1)) := by unfold RD.may; rw [hg]
      cases hl : lastTo l n r.thread with
      | none => rw [hl] at Lt; cases Lt
      | some x =>
        rw [hl] at Lt
        have es := Option.some.inj Lt
        have e1 : o.what = x.what := (by have q := congrArg Opn.what es; exact q)
        have e2 : o.op = x.op := (by have q := congrArg Opn.op es; exact q)
        show _ ↔ (0 ≤ r.thread ∧ r.thread ≤ 63) ∧ (x.what = 3 ∧ r.op = IntKind.wrap .i64 (x.op + 1) ∧ r.err = 0)
        rw [← e1, ← e2]
        by_cases h4 : s.may r ∧ r.err = 0
        · rw [if_pos h4]
          exact ⟨fun _ => ⟨ht, (hm.1 h4.1).1, (hm.1 h4.1).2, h4.2⟩, fun _ => rfl⟩
        · rw [if_neg h4]
          exact ⟨(fun h => by cases h), fun h => absurd ⟨hm.2 ⟨h.2.1, h.2.2.1⟩, h.2.2.2⟩ h4⟩
  · rw [if_neg h3, if_neg h3]
    unfold RD.follow
    cases hg : mget s.at_ r.thread with
    | none =>
      rw [hg] at Lt
      cases hl : lastTo l n r.thread with
      | some x => rw [hl] at Lt; cases Lt
      | none => exact ⟨(fun h => by cases h), fun h => h.2.elim⟩
    | some o =>
      rw [hg] at Lt
      cases hl : lastTo l n r.thread with
      | none => rw [hl] at Lt; cases Lt
      | some x =>
        rw [hl] at Lt
        have es := Option.some.inj Lt
        have e1 : o.what = x.what := (by have q := congrArg Opn.what es; exact q)
        have e2 : o.op = x.op := (by have q := congrArg Opn.op es; exact q)
        have e3 : o.act = x.act := (by have q := congrArg Opn.act es; exact q)
        have e4 : o.key = x.key := (by have q := congrArg Opn.key es; exact q)
        have e5 : o.value = x.value := (by have q := congrArg Opn.value es; exact q)
        have e6 : o.hit = x.hit := (by have q := congrArg Opn.hit es; exact q)
        show _ ↔ (0 ≤ r.thread ∧ r.thread ≤ 63) ∧ (¬ (x.what = 3 ∨ r.op ≠ x.op ∨ r.act ≠ x.act ∨ r.key ≠ x.key) ∧ ((r.what = 2 ∧ x.what = 1 ∧ r.err = 0) ∨ (r.what = 3 ∧ (x.what = 1 ∨ (r.value = x.value ∧ r.hit = x.hit ∧ r.err = 0)))))
        rw [← e1, ← e2, ← e3, ← e4, ← e5, ← e6]
        show (if o.what = 3 ∨ r.op ≠ o.op ∨ r.act ≠ o.act ∨ r.key ≠ o.key then none
              else if r.what = 2 then (if o.what = 1 ∧ r.err = 0 then some (s.upd r o fun c => { c with at_ := n }) else none)
              else if r.what = 3 then (if o.what = 1 ∨ (r.value = o.value ∧ r.hit = o.hit ∧ r.err = 0) then some (s.upd r o fun c => { c with to_ := n }) else none)
              else none).isSome = true ↔ _
        by_cases h4 : o.what = 3 ∨ r.op ≠ o.op ∨ r.act ≠ o.act ∨ r.key ≠ o.key
        · rw [if_pos h4]
          exact ⟨(fun h => by cases h), fun h => absurd h4 h.2.1⟩
        rw [if_neg h4]
        by_cases h5 : r.what = 2
        · rw [if_pos h5]
          by_cases h6 : o.what = 1 ∧ r.err = 0
          · rw [if_pos h6]; exact ⟨fun _ => ⟨ht, h4, .inl ⟨h5, h6⟩⟩, fun _ => rfl⟩
          · rw [if_neg h6]
            refine ⟨(fun h => by cases h), fun h => ?_⟩
            rcases h.2.2 with ⟨_, h7⟩ | ⟨h7, _⟩
            · exact absurd h7 h6
            · omega
        · rw [if_neg h5]
          by_cases h6 : r.what = 3
          · rw [if_pos h6]
            by_cases h7 : o.what = 1 ∨ (r.value = o.value ∧ r.hit = o.hit ∧ r.err = 0)
            · rw [if_pos h7]; exact ⟨fun _ => ⟨ht, h4, .inr ⟨h6, h7⟩⟩, fun _ => rfl⟩
            · rw [if_neg h7]
              refine ⟨(fun h => by cases h), fun h => ?_⟩
              rcases h.2.2 with ⟨h8, _⟩ | ⟨_, h8⟩
              · exact absurd h8 h5
              · exact absurd h8 h7
          · rw [if_neg h6]
            refine ⟨(fun h => by cases h), fun h => ?_⟩
            rcases h.2.2 with ⟨h8, _⟩ | ⟨h8, _⟩
            · exact absurd h8 h5
            · exact absurd h8 h6

theorem readTo_last {l : List Rec} : ∀ {n : Nat} {s : RD}, readTo l n = some s → LastIs l n s
  | 0, s, h => by cases h; exact fun t => rfl
  | n + 1, s', h => by
    obtain ⟨s, h1, h2⟩ := Option.bind_eq_some_iff.1 h
    exact last_step (readTo_last h1) h2
theorem readTo_ok {l : List Rec} : ∀ (n : Nat), (readTo l n).isSome = true ↔ ∀ i, i < n → okAt l i
  | 0 => ⟨fun _ i h => by omega, fun _ => rfl⟩
  | n + 1 => by
    have ih := readTo_ok (l := l) n
    show ((readTo l n).bind _).isSome = true ↔ _
    cases e : readTo l n with
    | none =>
      rw [e] at ih
      refine ⟨(fun h => by cases h), fun h => ?_⟩
      have := ih.2 (fun i hi => h i (by omega))
      cases this
    | some s =>
      rw [e] at ih
      have h1 := step_ok (readTo_last e)
      show (s.step (l.getD n r0) n).isSome = true ↔ _
      rw [h1]
      refine ⟨fun h i hi => ?_, fun h => h n (by omega)⟩
      rcases Nat.lt_or_ge i n with h2 | h2
      · exact ih.1 rfl i h2
      · have : i = n := by omega
        subst this; exact h
theorem right_ok {l : List Rec} : hRight l = true ↔ ∀ i, i < l.length → okAt l i := by
  rw [← readTo_ok]
  unfold hRight hCalls
  cases readTo l l.length <;> rfl

/-- What a record does to the calls of a row, in the document's way. -/
def refUpd (r : Rec) (n : Nat) (c : Cal) : Cal := if c.thread = r.thread ∧ c.op = r.op then (if r.what = 2 then { c with at_ := n } else { c with to_ := n }) else c
def refCallsTo (l : List Rec) : Nat → List Cal
  | 0 => []
  | n + 1 => if (l.getD n r0).op < 0 then refCallsTo l n
    else if (l.getD n r0).what = 1 then refCallsTo l n ++ [⟨(l.getD n r0).thread, (l.getD n r0).op, n, -1, -1⟩]
    else (refCallsTo l n).map (refUpd (l.getD n r0) n)
theorem upd_map {l : List Rec} {n : Nat} {s : RD} (I : RInv l n s) {r : Rec} {o : Opn} (ho : mget s.at_ r.thread = some o) (hop : r.op = o.op) (f : Cal → Cal) (hf : ∀ c, c.thread = r.thread → c.op = r.op → f c = refUpd r n c) :
    (s.upd r o f).cs = s.cs.map (refUpd r n) := by
  obtain ⟨k1, k2, k3, k4, c1, k5, k6, k7, _⟩ := I.last _ _ ho
  have hd : s.cs.getD o.call.toNat c0 = c1 := by rw [List.getD_eq_getElem?_getD, k5]; rfl
  show s.cs.set o.call.toNat (f (s.cs.getD o.call.toNat c0)) = _
  rw [hd, hf c1 k6 (by omega)]
  apply List.ext_getElem?
  intro j
  rw [List.getElem?_map, List.getElem?_set]
  by_cases hj : o.call.toNat = j
  · subst hj
    rw [if_pos rfl, if_pos k3, k5]; rfl
  · rw [if_neg hj]
    cases hc : s.cs[j]? with
    | none => rfl
    | some c =>
      show some c = some (refUpd r n c)
      congr 1
      unfold refUpd
      rw [if_neg]
      rintro ⟨g1, g2⟩
      obtain ⟨o2, p1, p2, p3⟩ := I.own j c hc
      rw [g1, ho] at p1
      cases p1
      have := (I.two j _ c c1 (by omega) hc k5 (by rw [g1, k6])).2.2
      omega
theorem readTo_ref {l : List Rec} (hb : ∀ i, (l.getD i r0).op < 9223372036854775808) : ∀ {n : Nat} {s : RD}, readTo l n = some s → s.cs = refCallsTo l n
  | 0, s, h => by cases h; rfl
  | n + 1, s', h => by
    obtain ⟨s, h1, e⟩ := Option.bind_eq_some_iff.1 h
    have ih := readTo_ref hb h1
    have I := readTo_inv hb h1
    show s'.cs = if (l.getD n r0).op < 0 then refCallsTo l n else if (l.getD n r0).what = 1 then _ else _
    rw [← ih]
    generalize l.getD n r0 = r at e
    by_cases hop : r.op < 0
    · obtain ⟨rfl, _⟩ := evict_same hop e
      rw [if_pos hop]
    · rw [if_neg hop]
      unfold RD.step at e
      split at e
      · cases e
      · split at e
        · rename_i h3
          rw [if_pos h3]
          unfold RD.invoke at e
          split at e
          · cases e; rfl
          · cases e
        · rename_i h3
          rw [if_neg h3]
          unfold RD.follow at e
          split at e
          · cases e
          · rename_i o ho
            split at e
            · cases e
            · rename_i hno
              have hoo : r.op = o.op := Classical.byContradiction fun h => hno (.inr (.inl h))
              split at e
              · rename_i h5
                split at e
                · cases e
                  exact upd_map I ho hoo _ (fun c g1 g2 => by unfold refUpd; rw [if_pos ⟨g1, g2⟩, if_pos h5])
                · cases e
              · rename_i h5
                split at e
                · split at e
                  · cases e
                    exact upd_map I ho hoo _ (fun c g1 g2 => by unfold refUpd; rw [if_pos ⟨g1, g2⟩, if_neg h5])
                  · cases e
                · cases e
theorem calls_ref {l : List Rec} (hl : ∀ r ∈ l, r.op < 9223372036854775808) (hr : hRight l = true) : hCallsOf l = refCallsTo l l.length := by
  cases hs : readTo l l.length with
  | none => have := right_none hs; rw [this.1] at hr; cases hr
  | some s => rw [(right_some hs).2]; exact readTo_ref (get_bound hl) hs

end Sx
end Go.Proofs.Ytemcdjdglcceiaa

/-
  The documents answer of what is right: the runs of the machine.
-/
namespace Go.Proofs.Ytemcdjdglcceiaa
namespace Sx
open Go
set_option maxRecDepth 100000
set_option linter.unusedVariables false

noncomputable def fnsN : Nat → Option Func := fun g => match g with | 43 => some Try.f43 | _ => none
noncomputable def cfgN : Cfg Try.prog V := ⟨tab, kinds, fnsN, hooksI, fun _ _ => none⟩
def TL : List Nat := [0, 1, 2, 3, 4, 5, 6, 7, 8, 9, 10, 11, 12, 13, 14, 15, 16]
structure PK2 extends PL where
  i : Nat
  hi : i < l.length
def I200 (p : PL) (i : Nat) : St V := ⟨[(0, .sl false 0 0 8 p.l.length p.c), (3, .int .i64 (i : Int))], [(0, .ro Kd.rcd p.l)], 1, 81, TL⟩
def R200 (p : PL) : St V := ⟨[(2, .ff)], [(0, .ro Kd.rcd p.l)], 1, 81, TL⟩
def I202 (q : PK2) (k : Nat) : St V :=
  ⟨[(0, .sl false 0 0 8 q.l.length q.c), (3, .int .i64 (q.i : Int)), (4, .ptr 1 0), (5, .ptr 3 0), (6, .bool (lastTo q.l k (q.l.getD q.i r0).thread).isSome), (7, .int .i64 (k : Int))],
   [(3, .cells 30 (Rec.enc ((lastTo q.l k (q.l.getD q.i r0).thread).getD r0))), (1, .cells 30 (Rec.enc (q.l.getD q.i r0))), (0, .ro Kd.rcd q.l)], 5, 81, TL⟩
def L202 : LoopS V := trimLoop (trimSt [0, 3, 4, 5, 6, 7] [0, 1, 3]) (loopH 5 (fun q : PK2 => I202 q 0) (fun _ (_ : Unit) => True) (fun q _ => I202 q q.i))
def L200 : LoopS V := trimLoop (trimSt [0, 2, 3] [0]) (loopG 1 (fun p : PL => I200 p 0) (fun p (_ : Unit) => hRight p.l = true) (fun p _ => I200 p p.l.length) (fun p (_ : Unit) => hRight p.l = false) (fun p _ => R200 p))
noncomputable def cfg202 : Cfg Try.prog V := ⟨tab, kinds, fnsN, hooksI, fun f id => match f, id with | 20, 2 => some L202 | _, _ => none⟩
noncomputable def cfg200 : Cfg Try.prog V := ⟨tab, kinds, fnsN, hooksI, fun f id => match f, id with | 20, 0 => some L200 | _, _ => none⟩
theorem b202 (q : PK2) (k : Nat) : runCode cfgN 60 20 (loopOf Try.f20 2) (I202 q k) (stopT (trimSt [0, 3, 4, 5, 6, 7] [0, 1, 3])) = Out.ite (decide ((↑k : Int) < (↑q.2 : Int))) (Out.need (0 ≤ (↑k : Int) ∧ (↑k : Int) < (↑q.l.length : Int)) (Out.need (0 + k < q.l.length) (Out.ite ((q.l.getD (0 + k) (V.enc Kd.rcd).dflt).thread == (q.l.getD q.2 r0).thread) (Out.need (0 ≤ (↑k : Int) ∧ (↑k : Int) < (↑q.l.length : Int)) (Out.need (0 + k < q.l.length) (Out.ite (decide ((q.l.getD (0 + k) (V.enc Kd.rcd).dflt).op ≥ 0)) (Out.need (0 ≤ (↑k : Int) ∧ (↑k : Int) < (↑q.l.length : Int)) (Out.need (0 + k < q.l.length) (Out.stop EX.nx {env := [(0, .sl false 0 0 8 q.l.length q.toPL.2), (3, .int .i64 (↑q.2 : Int)), (4, .ptr 1 0), (5, .ptr 3 0), (6, .tt), (7, .int .i64 (IntKind.i64.wrap ((↑k : Int) + 1)))], heap := [(3, .cells 30 [.int .i64 (q.l.getD (0 + k) (V.enc Kd.rcd).dflt).thread, .int .i64 (q.l.getD (0 + k) (V.enc Kd.rcd).dflt).op, .int .i64 (q.l.getD (0 + k) (V.enc Kd.rcd).dflt).what, .int .i64 (q.l.getD (0 + k) (V.enc Kd.rcd).dflt).act, .int .i64 (q.l.getD (0 + k) (V.enc Kd.rcd).dflt).key, .int .i64 (q.l.getD (0 + k) (V.enc Kd.rcd).dflt).value, .bool (q.l.getD (0 + k) (V.enc Kd.rcd).dflt).hit, .int .i64 (q.l.getD (0 + k) (V.enc Kd.rcd).dflt).err]), (1, .cells 30 [.int .i64 (q.l.getD q.2 r0).thread, .int .i64 (q.l.getD q.2 r0).op, .int .i64 (q.l.getD q.2 r0).what, .int .i64 (q.l.getD q.2 r0).act, .int .i64 (q.l.getD q.2 r0).key, .int .i64 (q.l.getD q.2 r0).value, .bool (q.l.getD q.2 r0).hit, .int .i64 (q.l.getD q.2 r0).err]), (0, .ro Kd.rcd q.l)], nx := 6, nt := 81, tl := [3, 0, 1, 2, 3, 4, 5, 6, 7, 8, 9, 10, 11, 12, 13, 14, 15, 16] : St V }))) (Out.stop EX.nx {env := [(0, .sl false 0 0 8 q.l.length q.toPL.2), (3, .int .i64 (↑q.2 : Int)), (4, .ptr 1 0), (5, .ptr 3 0), (6, .bool (lastTo q.l k (q.l.getD q.2 r0).thread).isSome), (7, .int .i64 (IntKind.i64.wrap ((↑k : Int) + 1)))], heap := [(3, .cells 30 [.int .i64 ((lastTo q.l k (q.l.getD q.2 r0).thread).getD r0).thread, .int .i64 ((lastTo q.l k (q.l.getD q.2 r0).thread).getD r0).op, .int .i64 ((lastTo q.l k (q.l.getD q.2 r0).thread).getD r0).what, .int .i64 ((lastTo q.l k (q.l.getD q.2 r0).thread).getD r0).act, .int .i64 ((lastTo q.l k (q.l.getD q.2 r0).thread).getD r0).key, .int .i64 ((lastTo q.l k (q.l.getD q.2 r0).thread).getD r0).value, .bool ((lastTo q.l k (q.l.getD q.2 r0).thread).getD r0).hit, .int .i64 ((lastTo q.l k (q.l.getD q.2 r0).thread).getD r0).err]), (1, .cells 30 [.int .i64 (q.l.getD q.2 r0).thread, .int .i64 (q.l.getD q.2 r0).op, .int .i64 (q.l.getD q.2 r0).what, .int .i64 (q.l.getD q.2 r0).act, .int .i64 (q.l.getD q.2 r0).key, .int .i64 (q.l.getD q.2 r0).value, .bool (q.l.getD q.2 r0).hit, .int .i64 (q.l.getD q.2 r0).err]), (0, .ro Kd.rcd q.l)], nx := 5, nt := 81, tl := [0, 1, 2, 3, 4, 5, 6, 7, 8, 9, 10, 11, 12, 13, 14, 15, 16] : St V })))) (Out.stop EX.nx {env := [(0, .sl false 0 0 8 q.l.length q.toPL.2), (3, .int .i64 (↑q.2 : Int)), (4, .ptr 1 0), (5, .ptr 3 0), (6, .bool (lastTo q.l k (q.l.getD q.2 r0).thread).isSome), (7, .int .i64 (IntKind.i64.wrap ((↑k : Int) + 1)))], heap := [(3, .cells 30 [.int .i64 ((lastTo q.l k (q.l.getD q.2 r0).thread).getD r0).thread, .int .i64 ((lastTo q.l k (q.l.getD q.2 r0).thread).getD r0).op, .int .i64 ((lastTo q.l k (q.l.getD q.2 r0).thread).getD r0).what, .int .i64 ((lastTo q.l k (q.l.getD q.2 r0).thread).getD r0).act, .int .i64 ((lastTo q.l k (q.l.getD q.2 r0).thread).getD r0).key, .int .i64 ((lastTo q.l k (q.l.getD q.2 r0).thread).getD r0).value, .bool ((lastTo q.l k (q.l.getD q.2 r0).thread).getD r0).hit, .int .i64 ((lastTo q.l k (q.l.getD q.2 r0).thread).getD r0).err]), (1, .cells 30 [.int .i64 (q.l.getD q.2 r0).thread, .int .i64 (q.l.getD q.2 r0).op, .int .i64 (q.l.getD q.2 r0).what, .int .i64 (q.l.getD q.2 r0).act, .int .i64 (q.l.getD q.2 r0).key, .int .i64 (q.l.getD q.2 r0).value, .bool (q.l.getD q.2 r0).hit, .int .i64 (q.l.getD q.2 r0).err]), (0, .ro Kd.rcd q.l)], nx := 5, nt := 81, tl := [0, 1, 2, 3, 4, 5, 6, 7, 8, 9, 10, 11, 12, 13, 14, 15, 16] : St V })))) (Out.stop (EX.ex 2) {env := [(0, .sl false 0 0 8 q.l.length q.toPL.2), (3, .int .i64 (↑q.2 : Int)), (4, .ptr 1 0), (5, .ptr 3 0), (6, .bool (lastTo q.l k (q.l.getD q.2 r0).thread).isSome), (7, .int .i64 (↑k : Int))], heap := [(3, .cells 30 [.int .i64 ((lastTo q.l k (q.l.getD q.2 r0).thread).getD r0).thread, .int .i64 ((lastTo q.l k (q.l.getD q.2 r0).thread).getD r0).op, .int .i64 ((lastTo q.l k (q.l.getD q.2 r0).thread).getD r0).what, .int .i64 ((lastTo q.l k (q.l.getD q.2 r0).thread).getD r0).act, .int .i64 ((lastTo q.l k (q.l.getD q.2 r0).thread).getD r0).key, .int .i64 ((lastTo q.l k (q.l.getD q.2 r0).thread).getD r0).value, .bool ((lastTo q.l k (q.l.getD q.2 r0).thread).getD r0).hit, .int .i64 ((lastTo q.l k (q.l.getD q.2 r0).thread).getD r0).err]), (1, .cells 30 [.int .i64 (q.l.getD q.2 r0).thread, .int .i64 (q.l.getD q.2 r0).op, .int .i64 (q.l.getD q.2 r0).what, .int .i64 (q.l.getD q.2 r0).act, .int .i64 (q.l.getD q.2 r0).key, .int .i64 (q.l.getD q.2 r0).value, .bool (q.l.getD q.2 r0).hit, .int .i64 (q.l.getD q.2 r0).err]), (0, .ro Kd.rcd q.l)], nx := 5, nt := 81, tl := [0, 1, 2, 3, 4, 5, 6, 7, 8, 9, 10, 11, 12, 13, 14, 15, 16] : St V }) := by kernel_rfl

theorem b200 (p : PL) (i : Nat) : runCode cfg202 60 20 (loopOf Try.f20 0) (I200 p i) (stopT (trimSt [0, 2, 3] [0])) = Out.ite (decide ((↑i : Int) < (↑p.l.length : Int))) (Out.need (0 ≤ (↑i : Int) ∧ (↑i : Int) < (↑p.l.length : Int)) (Out.need (0 + i < p.l.length) (Out.ite (decide ((p.l.getD (0 + i) (V.enc Kd.rcd).dflt).thread < 0)) (Out.stop EX.rt {env := [(0, .sl false 0 0 8 p.l.length p.2), (2, .ff), (3, .int .i64 (↑i : Int))], heap := [(0, .ro Kd.rcd p.l)], nx := 3, nt := 81, tl := [1, 1, 0, 1, 2, 3, 4, 5, 6, 7, 8, 9, 10, 11, 12, 13, 14, 15, 16] : St V }) (Out.ite (decide ((p.l.getD (0 + i) (V.enc Kd.rcd).dflt).thread > 63)) (Out.stop EX.rt {env := [(0, .sl false 0 0 8 p.l.length p.2), (2, .ff), (3, .int .i64 (↑i : Int))], heap := [(0, .ro Kd.rcd p.l)], nx := 3, nt := 81, tl := [1, 1, 0, 1, 2, 3, 4, 5, 6, 7, 8, 9, 10, 11, 12, 13, 14, 15, 16] : St V }) (Out.ite (decide ((p.l.getD (0 + i) (V.enc Kd.rcd).dflt).op < 0)) (Out.ite ((p.l.getD (0 + i) (V.enc Kd.rcd).dflt).op != -1) (Out.stop EX.rt {env := [(0, .sl false 0 0 8 p.l.length p.2), (2, .ff), (3, .int .i64 (↑i : Int))], heap := [(0, .ro Kd.rcd p.l)], nx := 3, nt := 81, tl := [1, 1, 0, 1, 2, 3, 4, 5, 6, 7, 8, 9, 10, 11, 12, 13, 14, 15, 16] : St V }) (Out.ite ((p.l.getD (0 + i) (V.enc Kd.rcd).dflt).what != 2) (Out.stop EX.rt {env := [(0, .sl false 0 0 8 p.l.length p.2), (2, .ff), (3, .int .i64 (↑i : Int))], heap := [(0, .ro Kd.rcd p.l)], nx := 3, nt := 81, tl := [1, 1, 0, 1, 2, 3, 4, 5, 6, 7, 8, 9, 10, 11, 12, 13, 14, 15, 16] : St V }) (Out.ite ((p.l.getD (0 + i) (V.enc Kd.rcd).dflt).act != 4) (Out.stop EX.rt {env := [(0, .sl false 0 0 8 p.l.length p.2), (2, .ff), (3, .int .i64 (↑i : Int))], heap := [(0, .ro Kd.rcd p.l)], nx := 3, nt := 81, tl := [1, 1, 0, 1, 2, 3, 4, 5, 6, 7, 8, 9, 10, 11, 12, 13, 14, 15, 16] : St V }) (Out.ite ((p.l.getD (0 + i) (V.enc Kd.rcd).dflt).err != 0) (Out.stop EX.rt {env := [(0, .sl false 0 0 8 p.l.length p.2), (2, .ff), (3, .int .i64 (↑i : Int))], heap := [(0, .ro Kd.rcd p.l)], nx := 3, nt := 81, tl := [1, 1, 0, 1, 2, 3, 4, 5, 6, 7, 8, 9, 10, 11, 12, 13, 14, 15, 16] : St V }) (Out.stop EX.nx {env := [(0, .sl false 0 0 8 p.l.length p.2), (2, .und), (3, .int .i64 (IntKind.i64.wrap ((↑i : Int) + 1)))], heap := [(0, .ro Kd.rcd p.l)], nx := 3, nt := 81, tl := [1, 1, 0, 1, 2, 3, 4, 5, 6, 7, 8, 9, 10, 11, 12, 13, 14, 15, 16] : St V }))))) (Out.need (LoopFor Try.prog 20 2 (loopOf Try.f20 2) L202) (Out.ex (PK2 → Prop) fun y => Out.need (5 ≤ 5 ∧ SImp 5 {env := [(0, .sl false 0 0 8 p.l.length p.2), (3, .int .i64 (↑i : Int)), (4, .ptr 1 0), (5, .ptr 3 0), (6, .ff), (7, .lit .i64 0)], heap := [(3, .cells 30 [.lit .i64 0, .lit .i64 0, .lit .i64 0, .lit .i64 0, .lit .i64 0, .lit .i64 0, .ff, .lit .i64 0]), (1, .cells 30 [.int .i64 (p.l.getD (0 + i) (V.enc Kd.rcd).dflt).thread, .int .i64 (p.l.getD (0 + i) (V.enc Kd.rcd).dflt).op, .int .i64 (p.l.getD (0 + i) (V.enc Kd.rcd).dflt).what, .int .i64 (p.l.getD (0 + i) (V.enc Kd.rcd).dflt).act, .int .i64 (p.l.getD (0 + i) (V.enc Kd.rcd).dflt).key, .int .i64 (p.l.getD (0 + i) (V.enc Kd.rcd).dflt).value, .bool (p.l.getD (0 + i) (V.enc Kd.rcd).dflt).hit, .int .i64 (p.l.getD (0 + i) (V.enc Kd.rcd).dflt).err]), (0, .ro Kd.rcd p.l)], nx := 5, nt := 81, tl := [3, 1, 0, 1, 2, 3, 4, 5, 6, 7, 8, 9, 10, 11, 12, 13, 14, 15, 16] : St V } (fun q => I202 q 0) y) (Out.all PK2 fun y_1 => Out.asm (y y_1) (Out.all Unit fun y => Out.asm ((fun x x_1 => True) y_1 y) (Out.ite ((y_1.l.getD y_1.2 r0).what == 1) (Out.ite (!(lastTo y_1.l y_1.2 (y_1.l.getD y_1.2 r0).thread).isSome) (Out.ite ((y_1.l.getD y_1.2 r0).op == 0) (Out.ite (!(y_1.l.getD y_1.2 r0).err == 0) (Out.stop EX.rt {env := [(0, .sl false 0 0 8 y_1.l.length y_1.toPL.2), (2, .ff), (3, .int .i64 (↑y_1.2 : Int))], heap := [(0, .ro Kd.rcd y_1.l)], nx := 7, nt := 81, tl := [6, 5, 3, 1, 0, 1, 2, 3, 4, 5, 6, 7, 8, 9, 10, 11, 12, 13, 14, 15, 16] : St V }) (Out.stop EX.nx {env := [(0, .sl false 0 0 8 y_1.l.length y_1.toPL.2), (2, .und), (3, .int .i64 (IntKind.i64.wrap ((↑y_1.2 : Int) + 1)))], heap := [(0, .ro Kd.rcd y_1.l)], nx := 7, nt := 81, tl := [6, 5, 3, 1, 0, 1, 2, 3, 4, 5, 6, 7, 8, 9, 10, 11, 12, 13, 14, 15, 16] : St V })) (Out.stop EX.rt {env := [(0, .sl false 0 0 8 y_1.l.length y_1.toPL.2), (2, .ff), (3, .int .i64 (↑y_1.2 : Int))], heap := [(0, .ro Kd.rcd y_1.l)], nx := 7, nt := 81, tl := [6, 5, 3, 1, 0, 1, 2, 3, 4, 5, 6, 7, 8, 9, 10, 11, 12, 13, 14, 15, 16] : St V })) (Out.ite (((lastTo y_1.l y_1.2 (y_1.l.getD y_1.2 r0).thread).getD r0).what == 3) (Out.ite ((y_1.l.getD y_1.2 r0).op == IntKind.i64.wrap (((lastTo y_1.l y_1.2 (y_1.l.getD y_1.2 r0).thread).getD r0).op + 1)) (Out.ite (!(y_1.l.getD y_1.2 r0).err == 0) (Out.stop EX.rt {env := [(0, .sl false 0 0 8 y_1.l.length y_1.toPL.2), (2, .ff), (3, .int .i64 (↑y_1.2 : Int))], heap := [(0, .ro Kd.rcd y_1.l)], nx := 7, nt := 81, tl := [6, 5, 3, 1, 0, 1, 2, 3, 4, 5, 6, 7, 8, 9, 10, 11, 12, 13, 14, 15, 16] : St V }) (Out.stop EX.nx {env := [(0, .sl false 0 0 8 y_1.l.length y_1.toPL.2), (2, .und), (3, .int .i64 (IntKind.i64.wrap ((↑y_1.2 : Int) + 1)))], heap := [(0, .ro Kd.rcd y_1.l)], nx := 7, nt := 81, tl := [6, 5, 3, 1, 0, 1, 2, 3, 4, 5, 6, 7, 8, 9, 10, 11, 12, 13, 14, 15, 16] : St V })) (Out.stop EX.rt {env := [(0, .sl false 0 0 8 y_1.l.length y_1.toPL.2), (2, .ff), (3, .int .i64 (↑y_1.2 : Int))], heap := [(0, .ro Kd.rcd y_1.l)], nx := 7, nt := 81, tl := [6, 5, 3, 1, 0, 1, 2, 3, 4, 5, 6, 7, 8, 9, 10, 11, 12, 13, 14, 15, 16] : St V })) (Out.stop EX.rt {env := [(0, .sl false 0 0 8 y_1.l.length y_1.toPL.2), (2, .ff), (3, .int .i64 (↑y_1.2 : Int))], heap := [(0, .ro Kd.rcd y_1.l)], nx := 7, nt := 81, tl := [6, 5, 3, 1, 0, 1, 2, 3, 4, 5, 6, 7, 8, 9, 10, 11, 12, 13, 14, 15, 16] : St V }))) (Out.ite (!(lastTo y_1.l y_1.2 (y_1.l.getD y_1.2 r0).thread).isSome) (Out.stop EX.rt {env := [(0, .sl false 0 0 8 y_1.l.length y_1.toPL.2), (2, .ff), (3, .int .i64 (↑y_1.2 : Int))], heap := [(0, .ro Kd.rcd y_1.l)], nx := 7, nt := 81, tl := [6, 5, 3, 1, 0, 1, 2, 3, 4, 5, 6, 7, 8, 9, 10, 11, 12, 13, 14, 15, 16] : St V }) (Out.ite (((lastTo y_1.l y_1.2 (y_1.l.getD y_1.2 r0).thread).getD r0).what == 3) (Out.stop EX.rt {env := [(0, .sl false 0 0 8 y_1.l.length y_1.toPL.2), (2, .ff), (3, .int .i64 (↑y_1.2 : Int))], heap := [(0, .ro Kd.rcd y_1.l)], nx := 7, nt := 81, tl := [6, 5, 3, 1, 0, 1, 2, 3, 4, 5, 6, 7, 8, 9, 10, 11, 12, 13, 14, 15, 16] : St V }) (Out.ite ((y_1.l.getD y_1.2 r0).op != ((lastTo y_1.l y_1.2 (y_1.l.getD y_1.2 r0).thread).getD r0).op) (Out.stop EX.rt {env := [(0, .sl false 0 0 8 y_1.l.length y_1.toPL.2), (2, .ff), (3, .int .i64 (↑y_1.2 : Int))], heap := [(0, .ro Kd.rcd y_1.l)], nx := 7, nt := 81, tl := [6, 5, 3, 1, 0, 1, 2, 3, 4, 5, 6, 7, 8, 9, 10, 11, 12, 13, 14, 15, 16] : St V }) (Out.ite ((y_1.l.getD y_1.2 r0).act != ((lastTo y_1.l y_1.2 (y_1.l.getD y_1.2 r0).thread).getD r0).act) (Out.stop EX.rt {env := [(0, .sl false 0 0 8 y_1.l.length y_1.toPL.2), (2, .ff), (3, .int .i64 (↑y_1.2 : Int))], heap := [(0, .ro Kd.rcd y_1.l)], nx := 7, nt := 81, tl := [6, 5, 3, 1, 0, 1, 2, 3, 4, 5, 6, 7, 8, 9, 10, 11, 12, 13, 14, 15, 16] : St V }) (Out.ite ((y_1.l.getD y_1.2 r0).key != ((lastTo y_1.l y_1.2 (y_1.l.getD y_1.2 r0).thread).getD r0).key) (Out.stop EX.rt {env := [(0, .sl false 0 0 8 y_1.l.length y_1.toPL.2), (2, .ff), (3, .int .i64 (↑y_1.2 : Int))], heap := [(0, .ro Kd.rcd y_1.l)], nx := 7, nt := 81, tl := [6, 5, 3, 1, 0, 1, 2, 3, 4, 5, 6, 7, 8, 9, 10, 11, 12, 13, 14, 15, 16] : St V }) (Out.ite ((y_1.l.getD y_1.2 r0).what == 2) (Out.ite (((lastTo y_1.l y_1.2 (y_1.l.getD y_1.2 r0).thread).getD r0).what == 1) (Out.ite (!(y_1.l.getD y_1.2 r0).err == 0) (Out.stop EX.rt {env := [(0, .sl false 0 0 8 y_1.l.length y_1.toPL.2), (2, .ff), (3, .int .i64 (↑y_1.2 : Int))], heap := [(0, .ro Kd.rcd y_1.l)], nx := 7, nt := 81, tl := [6, 5, 3, 1, 0, 1, 2, 3, 4, 5, 6, 7, 8, 9, 10, 11, 12, 13, 14, 15, 16] : St V }) (Out.stop EX.nx {env := [(0, .sl false 0 0 8 y_1.l.length y_1.toPL.2), (2, .und), (3, .int .i64 (IntKind.i64.wrap ((↑y_1.2 : Int) + 1)))], heap := [(0, .ro Kd.rcd y_1.l)], nx := 7, nt := 81, tl := [6, 5, 3, 1, 0, 1, 2, 3, 4, 5, 6, 7, 8, 9, 10, 11, 12, 13, 14, 15, 16] : St V })) (Out.stop EX.rt {env := [(0, .sl false 0 0 8 y_1.l.length y_1.toPL.2), (2, .ff), (3, .int .i64 (↑y_1.2 : Int))], heap := [(0, .ro Kd.rcd y_1.l)], nx := 7, nt := 81, tl := [6, 5, 3, 1, 0, 1, 2, 3, 4, 5, 6, 7, 8, 9, 10, 11, 12, 13, 14, 15, 16] : St V })) (Out.ite ((y_1.l.getD y_1.2 r0).what != 3) (Out.stop EX.rt {env := [(0, .sl false 0 0 8 y_1.l.length y_1.toPL.2), (2, .ff), (3, .int .i64 (↑y_1.2 : Int))], heap := [(0, .ro Kd.rcd y_1.l)], nx := 7, nt := 81, tl := [6, 5, 3, 1, 0, 1, 2, 3, 4, 5, 6, 7, 8, 9, 10, 11, 12, 13, 14, 15, 16] : St V }) (Out.ite (((lastTo y_1.l y_1.2 (y_1.l.getD y_1.2 r0).thread).getD r0).what == 1) (Out.stop EX.nx {env := [(0, .sl false 0 0 8 y_1.l.length y_1.toPL.2), (2, .und), (3, .int .i64 (IntKind.i64.wrap ((↑y_1.2 : Int) + 1)))], heap := [(0, .ro Kd.rcd y_1.l)], nx := 7, nt := 81, tl := [6, 5, 3, 1, 0, 1, 2, 3, 4, 5, 6, 7, 8, 9, 10, 11, 12, 13, 14, 15, 16] : St V }) (Out.ite ((y_1.l.getD y_1.2 r0).act == ((lastTo y_1.l y_1.2 (y_1.l.getD y_1.2 r0).thread).getD r0).act && ((y_1.l.getD y_1.2 r0).key == ((lastTo y_1.l y_1.2 (y_1.l.getD y_1.2 r0).thread).getD r0).key && ((y_1.l.getD y_1.2 r0).value == ((lastTo y_1.l y_1.2 (y_1.l.getD y_1.2 r0).thread).getD r0).value && ((y_1.l.getD y_1.2 r0).hit == ((lastTo y_1.l y_1.2 (y_1.l.getD y_1.2 r0).thread).getD r0).hit && true)))) (Out.ite (!(y_1.l.getD y_1.2 r0).err == 0) (Out.stop EX.rt {env := [(0, .sl false 0 0 8 y_1.l.length y_1.toPL.2), (2, .ff), (3, .int .i64 (↑y_1.2 : Int))], heap := [(0, .ro Kd.rcd y_1.l)], nx := 7, nt := 81, tl := [6, 5, 3, 1, 0, 1, 2, 3, 4, 5, 6, 7, 8, 9, 10, 11, 12, 13, 14, 15, 16] : St V }) (Out.stop EX.nx {env := [(0, .sl false 0 0 8 y_1.l.length y_1.toPL.2), (2, .und), (3, .int .i64 (IntKind.i64.wrap ((↑y_1.2 : Int) + 1)))], heap := [(0, .ro Kd.rcd y_1.l)], nx := 7, nt := 81, tl := [6, 5, 3, 1, 0, 1, 2, 3, 4, 5, 6, 7, 8, 9, 10, 11, 12, 13, 14, 15, 16] : St V })) (Out.stop EX.rt {env := [(0, .sl false 0 0 8 y_1.l.length y_1.toPL.2), (2, .ff), (3, .int .i64 (↑y_1.2 : Int))], heap := [(0, .ro Kd.rcd y_1.l)], nx := 7, nt := 81, tl := [6, 5, 3, 1, 0, 1, 2, 3, 4, 5, 6, 7, 8, 9, 10, 11, 12, 13, 14, 15, 16] : St V })))))))))))))))))))) (Out.stop (EX.ex 0) {env := [(0, .sl false 0 0 8 p.l.length p.2), (2, .und), (3, .int .i64 (↑i : Int))], heap := [(0, .ro Kd.rcd p.l)], nx := 1, nt := 81, tl := [0, 1, 2, 3, 4, 5, 6, 7, 8, 9, 10, 11, 12, 13, 14, 15, 16] : St V }) := by kernel_rfl

theorem t20 (l : List Rec) (c : Nat) : runF cfg200 60 20 Try.f20 [.sl false 0 0 8 l.length c] [(0, .ro Kd.rcd l)] 1 = Out.need (LoopFor Try.prog 20 0 (loopOf Try.f20 0) L200) (Out.ex (PL → Prop) fun y => Out.need (1 ≤ 1 ∧ SImp 1 {env := [(0, .sl false 0 0 8 l.length c), (2, .ff), (3, .lit .i64 0)], heap := [(0, .ro Kd.rcd l)], nx := 1, nt := 81, tl := [] : St V } (fun p => I200 p 0) y) (Out.all PL fun y_1 => Out.asm (y y_1) ((Out.all Unit fun y => Out.asm ((fun p x => hRight p.l = true) y_1 y) (Out.fin .tt [(0, .ro Kd.rcd y_1.l)] 1)).both (Out.all Unit fun y => Out.asm ((fun p x => hRight p.l = false) y_1 y) (Out.fin .ff [(0, .ro Kd.rcd y_1.l)] 1))))) := by kernel_rfl

end Sx
end Go.Proofs.Ytemcdjdglcceiaa

/-
  The document's answer of what is right: as what is read.
-/
namespace Go.Proofs.Ytemcdjdglcceiaa
namespace Sx
open Go
set_option linter.unusedSimpArgs false
set_option linter.unusedVariables false

theorem cfgN_ok : cfgN.ok := by
  refine ⟨tab_met, kinds_met, mixed_met, fun g fn h => ?_, hooksI_ok⟩
  unfold cfgN fnsN at h
  simp only at h
  split at h <;> cases h
  exact ⟨by kernel_rfl, by kernel_rfl⟩
theorem cfg202_ok : cfg202.ok := ⟨cfgN_ok.τ, cfgN_ok.κ, cfgN_ok.mixed, cfgN_ok.fns, cfgN_ok.hooks⟩
theorem cfg200_ok : cfg200.ok := ⟨cfgN_ok.τ, cfgN_ok.κ, cfgN_ok.mixed, cfgN_ok.fns, cfgN_ok.hooks⟩

theorem body202 (q : PK2) (k : Nat) (hk : k ≤ q.i) (Q : EX → St V → Prop) (F : AV → Heap V → Nat → Prop)
    (hnx : ∀ ST : St V, k < q.i → Wk 5 [] ST (I202 q (k + 1)) → Q .nx ST) (hex : ∀ ST : St V, k = q.i → Wk 5 [] ST (I202 q k) → Q (.ex 2) ST) :
    (runCode cfgN 60 20 (loopOf Try.f20 2) (I202 q k) (stopT (trimSt [0, 3, 4, 5, 6, 7] [0, 1, 3]))).holds ⟨Q, F⟩ := by
  rw [b202]
  have hb := q.hb
  have hi := q.hi
  have hw : k < q.i → IntKind.wrap .i64 ((k : Int) + 1) = ((k + 1 : Nat) : Int) := fun h => wrap_nat (by omega)
  have hY : (q.l.getD k (V.enc Kd.rcd).dflt).thread = (q.l.getD q.i r0).thread → 0 ≤ (q.l.getD k (V.enc Kd.rcd).dflt).op → lastTo q.l (k + 1) (q.l.getD q.i r0).thread = some (q.l.getD k (V.enc Kd.rcd).dflt) := fun h1 h2 => if_pos ⟨h1, h2⟩
  have hN : ¬ ((q.l.getD k (V.enc Kd.rcd).dflt).thread = (q.l.getD q.i r0).thread ∧ 0 ≤ (q.l.getD k (V.enc Kd.rcd).dflt).op) → lastTo q.l (k + 1) (q.l.getD q.i r0).thread = lastTo q.l k (q.l.getD q.i r0).thread := fun h => if_neg h
  simp only [Out.holds, Nat.zero_add, decide_eq_true_eq, decide_eq_false_iff_not, beq_iff_eq, beq_eq_false_iff_ne]
  have blk : ∀ {a b : Rec}, a = b → BSub (some (.cells 30 (Rec.enc a) : Blk V)) (.cells 30 (Rec.enc b)) := fun h => by rw [h]; exact .same _
  have stay : ∀ ST : St V, k < q.i → lastTo q.l (k + 1) (q.l.getD q.i r0).thread = lastTo q.l k (q.l.getD q.i r0).thread → Wk 5 [] ST (I202 q (k + 1)) → Q .nx ST := fun ST h _ hw => hnx ST h hw
  refine ⟨fun h => ⟨by omega, by omega, fun h2 => ⟨by omega, by omega, fun h3 => ⟨by omega, by omega, hnx _ (by omega) ?_⟩, fun h3 => hnx _ (by omega) ?_⟩, fun h2 => hnx _ (by omega) ?_⟩, fun h => hex _ (by omega) ?_⟩
  · have e := hY h2 h3
    exact ⟨⟨AV.sub_same _, AV.sub_same _, AV.sub_same _, AV.sub_same _, AV.sub_tt (by rw [e]; rfl), AV.sub_int (hw (by omega)), trivial⟩, ⟨blk (by rw [e]; rfl), .same _, .same _, trivial⟩, rfl, tl_ok rfl, ⟨.inl (in_ok rfl), .inr rfl, .inr rfl, trivial⟩, ⟨Nat.le_of_ble_eq_true rfl, rfl⟩⟩
  · have e := hN (fun hh => h3 hh.2)
    exact ⟨⟨AV.sub_same _, AV.sub_same _, AV.sub_same _, AV.sub_same _, AV.sub_bool (by rw [e]), AV.sub_int (hw (by omega)), trivial⟩, ⟨blk (by rw [e]), .same _, .same _, trivial⟩, rfl, tl_ok rfl, ⟨.inl (in_ok rfl), .inr rfl, .inr rfl, trivial⟩, ⟨Nat.le_of_ble_eq_true rfl, rfl⟩⟩
  · have e := hN (fun hh => h2 hh.1)
    exact ⟨⟨AV.sub_same _, AV.sub_same _, AV.sub_same _, AV.sub_same _, AV.sub_bool (by rw [e]), AV.sub_int (hw (by omega)), trivial⟩, ⟨blk (by rw [e]), .same _, .same _, trivial⟩, rfl, tl_ok rfl, ⟨.inl (in_ok rfl), .inr rfl, .inr rfl, trivial⟩, ⟨Nat.le_of_ble_eq_true rfl, rfl⟩⟩
  · exact ⟨⟨AV.sub_same _, AV.sub_same _, AV.sub_same _, AV.sub_same _, AV.sub_same _, AV.sub_same _, trivial⟩, ⟨.same _, .same _, .same _, trivial⟩, rfl, tl_ok rfl, ⟨.inl (in_ok rfl), .inr rfl, .inr rfl, trivial⟩, ⟨Nat.le_of_ble_eq_true rfl, rfl⟩⟩
theorem l202_ok : LoopOk Try.prog 2 (loopOf Try.f20 2) L202 := by
  refine trimLoop_ok (trim_ok _ _) (loopTH_ok (C := cfgN) cfgN_ok (f := 20) (n := 60) (trim_ok [0, 3, 4, 5, 6, 7] [0, 1, 3]) 5 I202 (fun q k => k ≤ q.i) (fun _ => 0) (fun q k => q.i - k) (fun _ (_ : Unit) => True) (fun q _ => I202 q q.i) (fun q => Nat.zero_le _) ?_)
  intro q k hk
  exact body202 q k hk _ _ (fun ST hlt hw => SImp.of_wk (k + 1) hw ⟨hlt, by omega⟩) (fun ST he hw => ⟨rfl, SImp.of_wk () (by subst he; exact hw) trivial⟩)

theorem body200 (p : PL) (i : Nat) (hi : i ≤ p.l.length) (Q : EX → St V → Prop) (F : AV → Heap V → Nat → Prop)
    (hrt : ∀ ST : St V, i < p.l.length → ¬ okAt p.l i → Wk 1 [] ST (R200 p) → Q .rt ST)
    (hnx : ∀ ST : St V, i < p.l.length → okAt p.l i → Wk 1 [] ST (I200 p (i + 1)) → Q .nx ST) (hex : ∀ ST : St V, i = p.l.length → Wk 1 [] ST (I200 p i) → Q (.ex 0) ST) :
    (runCode cfg202 60 20 (loopOf Try.f20 0) (I200 p i) (stopT (trimSt [0, 2, 3] [0]))).holds ⟨Q, F⟩ := by
  rw [b200]
  have hb := p.hb
  have hw : i < p.l.length → IntKind.wrap .i64 ((i : Int) + 1) = ((i + 1 : Nat) : Int) := fun h => wrap_nat (by omega)
  unfold okAt at hrt hnx
  rw [show (0 + i) = i from Nat.zero_add i, show p.l.getD i (V.enc Kd.rcd).dflt = p.l.getD i r0 from rfl]
  simp only [Out.holds, Nat.zero_add, decide_eq_true_eq, decide_eq_false_iff_not, beq_iff_eq, beq_eq_false_iff_ne, bne_iff_ne, bne_eq_false_iff_eq, Bool.not_eq_true', Bool.not_eq_false', Bool.and_true, Bool.and_eq_true, Bool.and_eq_false_imp]
  have tl0 : BSub (some (.cells 30 [.lit .i64 0, .lit .i64 0, .lit .i64 0, .lit .i64 0, .lit .i64 0, .lit .i64 0, .ff, .lit .i64 0] : Blk V)) (.cells 30 (Rec.enc r0)) :=
    BSub.cells 30 _ _ (AV.subL_cons AV.sub_lit' (AV.subL_cons AV.sub_lit' (AV.subL_cons AV.sub_lit' (AV.subL_cons AV.sub_lit' (AV.subL_cons AV.sub_lit' (AV.subL_cons AV.sub_lit' (AV.subL_cons (AV.sub_ff rfl) (AV.subL_cons AV.sub_lit' AV.subL_nil))))))))
  by_cases hlt : i < p.l.length
  · refine ⟨fun h => ⟨by omega, by omega, ?_⟩, fun h => absurd hlt (by omega)⟩
    refine ⟨fun h1 => hrt _ hlt (fun hh => by omega) ⟨⟨AV.sub_same _, trivial⟩, ⟨.same _, trivial⟩, rfl, tl_ok rfl, ⟨.inr rfl, trivial⟩, ⟨Nat.le_of_ble_eq_true rfl, rfl⟩⟩, fun h1 => ⟨fun h2 => hrt _ hlt (fun hh => by omega) ⟨⟨AV.sub_same _, trivial⟩, ⟨.same _, trivial⟩, rfl, tl_ok rfl, ⟨.inr rfl, trivial⟩, ⟨Nat.le_of_ble_eq_true rfl, rfl⟩⟩, fun h2 => ⟨fun h3 => ?_, fun h3 => ?_⟩⟩⟩
    · simp only [if_pos h3] at hrt hnx
      repeat' first | apply And.intro | intro _
      all_goals first
        | exact hrt _ hlt (fun hh => by omega) ⟨⟨AV.sub_same _, trivial⟩, ⟨.same _, trivial⟩, rfl, tl_ok rfl, ⟨.inr rfl, trivial⟩, ⟨Nat.le_of_ble_eq_true rfl, rfl⟩⟩
        | exact hnx _ hlt (by omega) ⟨⟨AV.sub_same _, AV.sub_int (hw hlt), trivial⟩, ⟨.same _, trivial⟩, rfl, tl_ok rfl, ⟨.inr rfl, trivial⟩, ⟨Nat.le_of_ble_eq_true rfl, rfl⟩⟩
    · refine ⟨l202_ok, fun q => q = ⟨p, i, hlt⟩, ⟨Nat.le_refl _, SImp.of_wk (ren := []) ⟨p, i, hlt⟩ ⟨⟨AV.sub_same _, AV.sub_same _, AV.sub_same _, AV.sub_same _, AV.sub_ff rfl, AV.sub_lit', trivial⟩, ⟨tl0, .same _, .same _, trivial⟩, rfl, tl_ok rfl, ⟨.inl (in_ok rfl), .inl (in_ok rfl), .inr rfl, trivial⟩, ⟨Nat.le_of_ble_eq_true rfl, rfl⟩⟩ rfl⟩, ?_⟩
      rintro _ rfl _ _
      dsimp only
      simp only [if_neg h3] at hrt hnx
      generalize p.l.getD i r0 = r at *
      generalize lastTo p.l i r.thread = w at *
      unfold nextOk at hrt hnx
      have ht : 0 ≤ r.thread ∧ r.thread ≤ 63 := by omega
      cases w with
      | none =>
        simp only [Option.isSome_none, Bool.not_false, Option.getD_none, true_implies, Bool.true_eq_false, Bool.false_eq_true, false_implies, and_true, forall_const]
        repeat' first | apply And.intro | intro _
        all_goals first
          | exact hrt _ hlt (fun hh => by simp_all) ⟨⟨AV.sub_same _, trivial⟩, ⟨.same _, trivial⟩, rfl, tl_ok rfl, ⟨.inr rfl, trivial⟩, ⟨Nat.le_of_ble_eq_true rfl, rfl⟩⟩
          | exact hnx _ hlt (by simp_all) ⟨⟨AV.sub_same _, AV.sub_int (hw hlt), trivial⟩, ⟨.same _, trivial⟩, rfl, tl_ok rfl, ⟨.inr rfl, trivial⟩, ⟨Nat.le_of_ble_eq_true rfl, rfl⟩⟩
          | skip
      | some x =>
        simp only [Option.isSome_some, Bool.not_true, Option.getD_some, true_implies, Bool.true_eq_false, Bool.false_eq_true, false_implies, true_and, forall_const]
        repeat' first | apply And.intro | intro _
        all_goals first
          | exact hrt _ hlt (fun hh => by simp_all) ⟨⟨AV.sub_same _, trivial⟩, ⟨.same _, trivial⟩, rfl, tl_ok rfl, ⟨.inr rfl, trivial⟩, ⟨Nat.le_of_ble_eq_true rfl, rfl⟩⟩
          | exact hnx _ hlt (by simp_all) ⟨⟨AV.sub_same _, AV.sub_int (hw hlt), trivial⟩, ⟨.same _, trivial⟩, rfl, tl_ok rfl, ⟨.inr rfl, trivial⟩, ⟨Nat.le_of_ble_eq_true rfl, rfl⟩⟩
          | skip
  · exact ⟨fun h => absurd h (by omega), fun h => hex _ (by omega) ⟨⟨AV.sub_same _, AV.sub_same _, trivial⟩, ⟨.same _, trivial⟩, rfl, tl_ok rfl, ⟨.inr rfl, trivial⟩, ⟨Nat.le_of_ble_eq_true rfl, rfl⟩⟩⟩

theorem l200_ok : LoopOk Try.prog 0 (loopOf Try.f20 0) L200 := by
  refine trimLoop_ok (trim_ok _ _) (loopT_ok (C := cfg202) cfg202_ok (f := 20) (n := 60) (trim_ok [0, 2, 3] [0]) 1 I200 (fun p i => i ≤ p.l.length ∧ ∀ j, j < i → okAt p.l j) (fun _ => 0) (fun p i => p.l.length - i) (fun p (_ : Unit) => hRight p.l = true) (fun p _ => I200 p p.l.length) (fun p (_ : Unit) => hRight p.l = false) (fun p _ => R200 p) (fun p => ⟨Nat.zero_le _, fun j h => by omega⟩) ?_)
  intro p i ⟨hi, ha⟩
  refine body200 p i hi _ _ (fun ST hlt hn hw => SImp.of_wk () hw ?_) (fun ST hlt hn hw => SImp.of_wk (i + 1) hw ⟨⟨hlt, fun j hj => ?_⟩, by omega⟩) (fun ST he hw => ⟨rfl, SImp.of_wk () (by subst he; exact hw) ?_⟩)
  · cases h : hRight p.l with
    | false => rfl
    | true => exact absurd (right_ok.1 h i hlt) hn
  · rcases Nat.lt_or_ge j i with h | h
    · exact ha j h
    · have : j = i := by omega
      subst this; exact hn
  · subst he; exact right_ok.2 ha
theorem hRightRef : HookOk Try.prog 20 (hookFree [.rows Kd.rcd] runRight) := by
  refine free_hook (C := cfg200) cfg200_ok (n := 60) (fn := Try.f20) ⟨by kernel_rfl, by kernel_rfl⟩ (by kernel_rfl) ?_
  intro M ar K0 H
  unfold runRight at H
  split at H
  · rename_i l c
    obtain ⟨hb, H⟩ := H
    refine ⟨show 1 ≤ _ by decide +kernel, ?_⟩
    show (runF cfg200 60 20 Try.f20 [.sl false 0 0 8 l.length c] [(0, .ro Kd.rcd l)] 1).holds _
    rw [t20]
    refine ⟨l200_ok, fun p => p = ⟨l, c, hb⟩, ⟨Nat.le_refl _, SImp.of_wk (ren := []) ⟨l, c, hb⟩ ?_ rfl⟩, ?_⟩
    · exact ⟨⟨AV.sub_same _, AV.sub_lit', trivial⟩, ⟨.same _, trivial⟩, rfl, tl_ok rfl, ⟨.inr rfl, trivial⟩, ⟨Nat.le_of_ble_eq_true rfl, rfl⟩⟩
    · rintro _ rfl
      exact ⟨fun _ h => ⟨_, _, H, endPlain (AV.sub_tt h) rfl⟩, fun _ h => ⟨_, _, H, endPlain (AV.sub_ff h) rfl⟩⟩
  · exact H.elim

end Sx
end Go.Proofs.Ytemcdjdglcceiaa

/-
  The documents answer of calls: the runs of the machine.
-/
namespace Go.Proofs.Ytemcdjdglcceiaa
namespace Sx
open Go
set_option maxRecDepth 100000
set_option linter.unusedVariables false

def hooksR : Nat → Option (HookS V) := fun g => match g with
  | 20 => some (hookFree [.rows Kd.rcd] runRight)
  | g => hooksI g
structure PB extends PL where
  ok : Bool
def I160 (p : PB) (x : Nat × Nat) : St V := ⟨[(0, .sl false 0 0 8 p.l.length p.c), (3, .bool p.ok), (4, .sl false 1 0 5 (refCallsTo p.l x.1).length ((refCallsTo p.l x.1).length + x.2)), (5, .int .i64 (x.1 : Int))],
  [(1, .arr 35 Kd.cal (refCallsTo p.l x.1) x.2), (0, .ro Kd.rcd p.l)], 2, 92, TL⟩
structure PE extends PB where
  n : Nat
  hn : n < l.length
  cs : List Cal
  sp : Nat
  hc : cs.length ≤ n
def updTo (r : Rec) (n : Nat) (cs : List Cal) (k : Nat) : List Cal := (cs.take k).map (refUpd r n) ++ cs.drop k
def I162 (q : PE) (k : Nat) : St V := ⟨[(0, .sl false 0 0 8 q.l.length q.c), (3, .bool q.ok), (4, .sl false 1 0 5 q.cs.length (q.cs.length + q.sp)), (5, .int .i64 (q.n : Int)), (6, .int .i64 (k : Int))],
  [(1, .arr 35 Kd.cal (updTo (q.l.getD q.n r0) q.n q.cs k) q.sp), (0, .ro Kd.rcd q.l)], 2, 92, TL⟩
def L162 : LoopS V := trimLoop (trimSt [0, 3, 4, 5, 6] [0, 1]) (loopH 2 (fun q : PE => I162 q 0) (fun _ (_ : Unit) => True) (fun q _ => I162 q q.cs.length))
def outOf (p : PB) : List Cal := if p.ok then refCallsTo p.l p.l.length else []
def E160 (p : PB) (sp : Nat) : St V := ⟨[(4, .sl false 1 0 5 (outOf p).length ((outOf p).length + sp))], [(1, .arr 35 Kd.cal (outOf p) sp), (0, .ro Kd.rcd p.l)], 2, 92, TL⟩
def L160 : LoopS V := trimLoop (trimSt [0, 3, 4, 5] [0]) (loopH 1 (fun p : PB => I160 p (0, 0)) (fun _ (_ : Nat) => True) (fun p sp => E160 p sp))
noncomputable def cfgR : Cfg Try.prog V := ⟨tab, kinds, fun _ => none, hooksR, fun _ _ => none⟩
noncomputable def cfg162 : Cfg Try.prog V := ⟨tab, kinds, fun _ => none, hooksR, fun f id => match f, id with | 16, 2 => some L162 | _, _ => none⟩
noncomputable def cfg160 : Cfg Try.prog V := ⟨tab, kinds, fun _ => none, hooksR, fun f id => match f, id with | 16, 0 => some L160 | _, _ => none⟩
theorem b162 (q : PE) (k : Nat) : runCode cfgR 60 16 (loopOf Try.f16 2) (I162 q k) (stopT (trimSt [0, 3, 4, 5, 6] [0, 1])) = Out.ite (decide ((↑k : Int) < (↑q.cs.length : Int))) (Out.need (0 ≤ (↑k : Int) ∧ (↑k : Int) < (↑q.cs.length : Int)) (Out.need (0 + k < (updTo (q.l.getD q.2 r0) q.2 q.cs k).length) (Out.need (0 ≤ (↑q.2 : Int) ∧ (↑q.2 : Int) < (↑q.l.length : Int)) (Out.need (0 + q.2 < q.l.length) (Out.ite (((updTo (q.l.getD q.2 r0) q.2 q.cs k).getD (0 + k) (V.enc Kd.cal).dflt).thread == (q.l.getD (0 + q.2) (V.enc Kd.rcd).dflt).thread) (Out.need (0 ≤ (↑k : Int) ∧ (↑k : Int) < (↑q.cs.length : Int)) (Out.need (0 + k < (updTo (q.l.getD q.2 r0) q.2 q.cs k).length) (Out.need (0 ≤ (↑q.2 : Int) ∧ (↑q.2 : Int) < (↑q.l.length : Int)) (Out.need (0 + q.2 < q.l.length) (Out.ite (((updTo (q.l.getD q.2 r0) q.2 q.cs k).getD (0 + k) (V.enc Kd.cal).dflt).op == (q.l.getD (0 + q.2) (V.enc Kd.rcd).dflt).op) (Out.need (0 ≤ (↑q.2 : Int) ∧ (↑q.2 : Int) < (↑q.l.length : Int)) (Out.need (0 + q.2 < q.l.length) (Out.ite ((q.l.getD (0 + q.2) (V.enc Kd.rcd).dflt).what == 2) (Out.need (0 ≤ (↑k : Int) ∧ (↑k : Int) < (↑q.cs.length : Int)) (Out.need (0 + k < (updTo (q.l.getD q.2 r0) q.2 q.cs k).length) (Out.stop EX.nx {env := [(0, .sl false 0 0 8 q.l.length q.toPL.2), (3, .bool q.ok), (4, .sl false 1 0 5 q.cs.length (q.cs.length + q.5)), (5, .int .i64 (↑q.2 : Int)), (6, .int .i64 (IntKind.i64.wrap ((↑k : Int) + 1)))], heap := [(1, .arr 35 Kd.cal ((updTo (q.l.getD q.2 r0) q.2 q.cs k).set (0 + k) {thread := ((updTo (q.l.getD q.2 r0) q.2 q.cs k).getD (0 + k) (V.enc Kd.cal).dflt).thread, op := ((updTo (q.l.getD q.2 r0) q.2 q.cs k).getD (0 + k) (V.enc Kd.cal).dflt).op, frm := ((updTo (q.l.getD q.2 r0) q.2 q.cs k).getD (0 + k) (V.enc Kd.cal).dflt).frm, at_ := (↑q.2 : Int), to_ := ((updTo (q.l.getD q.2 r0) q.2 q.cs k).getD (0 + k) (V.enc Kd.cal).dflt).to_ : Cal }) q.5), (0, .ro Kd.rcd q.l)], nx := 3, nt := 92, tl := [1, 0, 1, 2, 3, 4, 5, 6, 7, 8, 9, 10, 11, 12, 13, 14, 15, 16] : St V }))) (Out.need (0 ≤ (↑k : Int) ∧ (↑k : Int) < (↑q.cs.length : Int)) (Out.need (0 + k < (updTo (q.l.getD q.2 r0) q.2 q.cs k).length) (Out.stop EX.nx {env := [(0, .sl false 0 0 8 q.l.length q.toPL.2), (3, .bool q.ok), (4, .sl false 1 0 5 q.cs.length (q.cs.length + q.5)), (5, .int .i64 (↑q.2 : Int)), (6, .int .i64 (IntKind.i64.wrap ((↑k : Int) + 1)))], heap := [(1, .arr 35 Kd.cal ((updTo (q.l.getD q.2 r0) q.2 q.cs k).set (0 + k) {thread := ((updTo (q.l.getD q.2 r0) q.2 q.cs k).getD (0 + k) (V.enc Kd.cal).dflt).thread, op := ((updTo (q.l.getD q.2 r0) q.2 q.cs k).getD (0 + k) (V.enc Kd.cal).dflt).op, frm := ((updTo (q.l.getD q.2 r0) q.2 q.cs k).getD (0 + k) (V.enc Kd.cal).dflt).frm, at_ := ((updTo (q.l.getD q.2 r0) q.2 q.cs k).getD (0 + k) (V.enc Kd.cal).dflt).at_, to_ := (↑q.2 : Int) : Cal }) q.5), (0, .ro Kd.rcd q.l)], nx := 3, nt := 92, tl := [1, 0, 1, 2, 3, 4, 5, 6, 7, 8, 9, 10, 11, 12, 13, 14, 15, 16] : St V })))))) (Out.stop EX.nx {env := [(0, .sl false 0 0 8 q.l.length q.toPL.2), (3, .bool q.ok), (4, .sl false 1 0 5 q.cs.length (q.cs.length + q.5)), (5, .int .i64 (↑q.2 : Int)), (6, .int .i64 (IntKind.i64.wrap ((↑k : Int) + 1)))], heap := [(1, .arr 35 Kd.cal (updTo (q.l.getD q.2 r0) q.2 q.cs k) q.5), (0, .ro Kd.rcd q.l)], nx := 2, nt := 92, tl := [0, 1, 2, 3, 4, 5, 6, 7, 8, 9, 10, 11, 12, 13, 14, 15, 16] : St V })))))) (Out.stop EX.nx {env := [(0, .sl false 0 0 8 q.l.length q.toPL.2), (3, .bool q.ok), (4, .sl false 1 0 5 q.cs.length (q.cs.length + q.5)), (5, .int .i64 (↑q.2 : Int)), (6, .int .i64 (IntKind.i64.wrap ((↑k : Int) + 1)))], heap := [(1, .arr 35 Kd.cal (updTo (q.l.getD q.2 r0) q.2 q.cs k) q.5), (0, .ro Kd.rcd q.l)], nx := 2, nt := 92, tl := [0, 1, 2, 3, 4, 5, 6, 7, 8, 9, 10, 11, 12, 13, 14, 15, 16] : St V })))))) (Out.stop (EX.ex 2) {env := [(0, .sl false 0 0 8 q.l.length q.toPL.2), (3, .bool q.ok), (4, .sl false 1 0 5 q.cs.length (q.cs.length + q.5)), (5, .int .i64 (↑q.2 : Int)), (6, .int .i64 (↑k : Int))], heap := [(1, .arr 35 Kd.cal (updTo (q.l.getD q.2 r0) q.2 q.cs k) q.5), (0, .ro Kd.rcd q.l)], nx := 2, nt := 92, tl := [0, 1, 2, 3, 4, 5, 6, 7, 8, 9, 10, 11, 12, 13, 14, 15, 16] : St V }) := by kernel_rfl

theorem b160 (p : PB) (x : Nat × Nat) : runCode cfg162 60 16 (loopOf Try.f16 0) (I160 p x) (stopT (trimSt [0, 3, 4, 5] [0, 1, 3])) = Out.ite (decide ((↑x.1 : Int) < (↑p.l.length : Int))) (Out.ite p.ok (Out.need (0 ≤ (↑x.1 : Int) ∧ (↑x.1 : Int) < (↑p.l.length : Int)) (Out.need (0 + x.1 < p.l.length) (Out.ite (decide ((p.l.getD (0 + x.1) (V.enc Kd.rcd).dflt).op < 0)) (Out.stop EX.nx {env := [(0, .sl false 0 0 8 p.l.length p.toPL.2), (3, .bool p.ok), (4, .sl false 1 0 5 (refCallsTo p.l x.1).length ((refCallsTo p.l x.1).length + x.2)), (5, .int .i64 (IntKind.i64.wrap ((↑x.1 : Int) + 1)))], heap := [(1, .arr 35 Kd.cal (refCallsTo p.l x.1) x.2), (0, .ro Kd.rcd p.l)], nx := 2, nt := 92, tl := [0, 1, 2, 3, 4, 5, 6, 7, 8, 9, 10, 11, 12, 13, 14, 15, 16] : St V }) (Out.need (0 ≤ (↑x.1 : Int) ∧ (↑x.1 : Int) < (↑p.l.length : Int)) (Out.need (0 + x.1 < p.l.length) (Out.ite ((p.l.getD (0 + x.1) (V.enc Kd.rcd).dflt).what == 1) (Out.need (0 ≤ (↑x.1 : Int) ∧ (↑x.1 : Int) < (↑p.l.length : Int)) (Out.need (0 + x.1 < p.l.length) (Out.need (0 ≤ (↑x.1 : Int) ∧ (↑x.1 : Int) < (↑p.l.length : Int)) (Out.need (0 + x.1 < p.l.length) (Out.need (0 = 0 ∧ (refCallsTo p.l x.1).length = (refCallsTo p.l x.1).length ∧ (refCallsTo p.l x.1).length + x.2 = (refCallsTo p.l x.1).length + x.2 ∧ ((refCallsTo p.l x.1).length + 1) * 40 ≤ 140737488355328) (Out.all Nat fun y => Out.stop EX.nx {env := [(0, .sl false 0 0 8 p.l.length p.toPL.2), (3, .bool p.ok), (4, .sl false 3 0 5 ((refCallsTo p.l x.1).length + 1) ((refCallsTo p.l x.1).length + 1 + y)), (5, .int .i64 (IntKind.i64.wrap ((↑x.1 : Int) + 1)))], heap := [(3, .arr 35 Kd.cal (refCallsTo p.l x.1 ++ [{thread := (p.l.getD (0 + x.1) (V.enc Kd.rcd).dflt).thread, op := (p.l.getD (0 + x.1) (V.enc Kd.rcd).dflt).op, frm := (↑x.1 : Int), at_ := -1, to_ := -1 : Cal }]) y), (0, .ro Kd.rcd p.l)], nx := 4, nt := 92, tl := [2, 1, 0, 1, 2, 3, 4, 5, 6, 7, 8, 9, 10, 11, 12, 13, 14, 15, 16] : St V })))))) (Out.need (LoopFor Try.prog 16 2 (loopOf Try.f16 2) L162) (Out.ex (PE → Prop) fun y => Out.need (2 ≤ 2 ∧ SImp 2 {env := [(0, .sl false 0 0 8 p.l.length p.toPL.2), (3, .bool p.ok), (4, .sl false 1 0 5 (refCallsTo p.l x.1).length ((refCallsTo p.l x.1).length + x.2)), (5, .int .i64 (↑x.1 : Int)), (6, .lit .i64 0)], heap := [(1, .arr 35 Kd.cal (refCallsTo p.l x.1) x.2), (0, .ro Kd.rcd p.l)], nx := 2, nt := 92, tl := [0, 1, 2, 3, 4, 5, 6, 7, 8, 9, 10, 11, 12, 13, 14, 15, 16] : St V } (fun q => I162 q 0) y) (Out.all PE fun y_1 => Out.asm (y y_1) (Out.all Unit fun y => Out.asm ((fun x x_1 => True) y_1 y) (Out.stop EX.nx {env := [(0, .sl false 0 0 8 y_1.l.length y_1.toPL.2), (3, .bool y_1.ok), (4, .sl false 1 0 5 y_1.cs.length (y_1.cs.length + y_1.5)), (5, .int .i64 (IntKind.i64.wrap ((↑y_1.2 : Int) + 1)))], heap := [(1, .arr 35 Kd.cal (updTo (y_1.l.getD y_1.2 r0) y_1.2 y_1.cs y_1.cs.length) y_1.5), (0, .ro Kd.rcd y_1.l)], nx := 2, nt := 92, tl := [0, 1, 2, 3, 4, 5, 6, 7, 8, 9, 10, 11, 12, 13, 14, 15, 16] : St V }))))))))))) (Out.stop (EX.ex 0) {env := [(0, .sl false 0 0 8 p.l.length p.toPL.2), (3, .bool p.ok), (4, .sl false 1 0 5 (refCallsTo p.l x.1).length ((refCallsTo p.l x.1).length + x.2)), (5, .int .i64 (↑x.1 : Int))], heap := [(1, .arr 35 Kd.cal (refCallsTo p.l x.1) x.2), (0, .ro Kd.rcd p.l)], nx := 2, nt := 92, tl := [0, 1, 2, 3, 4, 5, 6, 7, 8, 9, 10, 11, 12, 13, 14, 15, 16] : St V })) (Out.stop (EX.ex 0) {env := [(0, .sl false 0 0 8 p.l.length p.toPL.2), (3, .bool p.ok), (4, .sl false 1 0 5 (refCallsTo p.l x.1).length ((refCallsTo p.l x.1).length + x.2)), (5, .int .i64 (↑x.1 : Int))], heap := [(1, .arr 35 Kd.cal (refCallsTo p.l x.1) x.2), (0, .ro Kd.rcd p.l)], nx := 2, nt := 92, tl := [0, 1, 2, 3, 4, 5, 6, 7, 8, 9, 10, 11, 12, 13, 14, 15, 16] : St V }) := by kernel_rfl

theorem t16 (l : List Rec) (c : Nat) : runF cfg160 60 16 Try.f16 [.sl false 0 0 8 l.length c] [(0, .ro Kd.rcd l)] 1 = Out.need (0 + l.length ≤ l.length) (Out.need ((List.take l.length (List.drop 0 l)).length ≤ 1099511627776) (Out.need (LoopFor Try.prog 16 0 (loopOf Try.f16 0) L160) (Out.ex (PB → Prop) fun y => Out.need (1 ≤ 1 ∧ SImp 1 {env := [(0, .sl false 0 0 8 l.length c), (3, .bool (hRight (List.take l.length (List.drop 0 l)))), (4, .nilS), (5, .lit .i64 0)], heap := [(0, .ro Kd.rcd l)], nx := 1, nt := 92, tl := [] : St V } (fun p => I160 p (0, 0)) y) (Out.all PB fun y_1 => Out.asm (y y_1) (Out.all Nat fun y => Out.asm ((fun x x_1 => True) y_1 y) (Out.fin (.sl false 1 0 5 (outOf y_1).length ((outOf y_1).length + y)) [(1, .arr 35 Kd.cal (outOf y_1) y), (0, .ro Kd.rcd y_1.l)] 2)))))) := by kernel_rfl

end Sx
end Go.Proofs.Ytemcdjdglcceiaa

/-
  The document's answer of calls: as what is read.
-/
namespace Go.Proofs.Ytemcdjdglcceiaa
namespace Sx
open Go
set_option linter.unusedSimpArgs false
set_option linter.unusedVariables false

theorem cfgR_ok : cfgR.ok := by
  refine ⟨tab_met, kinds_met, mixed_met, fun g fn h => (by cases h), fun g H h => ?_⟩
  change hooksR g = some H at h
  unfold hooksR at h
  split at h
  · cases h; exact hRightRef
  · exact hooksI_ok _ _ h
theorem cfg162_ok : cfg162.ok := ⟨cfgR_ok.τ, cfgR_ok.κ, cfgR_ok.mixed, cfgR_ok.fns, cfgR_ok.hooks⟩
theorem cfg160_ok : cfg160.ok := ⟨cfgR_ok.τ, cfgR_ok.κ, cfgR_ok.mixed, cfgR_ok.fns, cfgR_ok.hooks⟩

theorem updTo_len (r : Rec) (n : Nat) (cs : List Cal) (k : Nat) : (updTo r n cs k).length = cs.length := by
  unfold updTo; simp only [List.length_append, List.length_map, List.length_take, List.length_drop]; omega
theorem updTo_getD (r : Rec) (n : Nat) (cs : List Cal) (k : Nat) (c : Cal) : (updTo r n cs k).getD k c = cs.getD k c := by
  unfold updTo
  rw [List.getD_eq_getElem?_getD, List.getD_eq_getElem?_getD]
  congr 1
  rcases Nat.lt_or_ge k cs.length with h | h
  · rw [List.getElem?_append_right (by simp only [List.length_map, List.length_take]; omega)]
    simp only [List.length_map, List.length_take]
    rw [Nat.min_eq_left (by omega), Nat.sub_self, List.getElem?_drop, Nat.add_zero]
  · rw [List.getElem?_eq_none (by simp only [List.length_append, List.length_map, List.length_take, List.length_drop]; omega), List.getElem?_eq_none h]
theorem updTo_set (r : Rec) (n : Nat) (cs : List Cal) (k : Nat) (h : k < cs.length) : updTo r n cs (k + 1) = (updTo r n cs k).set k (refUpd r n (cs.getD k c0)) := by
  have e1 : cs.drop k = cs[k] :: cs.drop (k + 1) := List.drop_eq_getElem_cons h
  have e2 : cs.getD k c0 = cs[k] := by rw [List.getD_eq_getElem?_getD, List.getElem?_eq_getElem h]; rfl
  unfold updTo
  rw [e1, e2, List.take_succ_eq_append_getElem h, List.map_append]
  rw [List.set_append_right _ _ (by simp only [List.length_map, List.length_take]; omega)]
  simp only [List.length_map, List.length_take]
  rw [Nat.min_eq_left (by omega), Nat.sub_self]
  simp only [List.map_cons, List.map_nil, List.set_cons_zero, List.append_assoc, List.cons_append, List.nil_append]
theorem updTo_stay (r : Rec) (n : Nat) (cs : List Cal) (k : Nat) (h : k < cs.length) (hc : refUpd r n (cs.getD k c0) = cs.getD k c0) : updTo r n cs (k + 1) = updTo r n cs k := by
  have e1 : cs.drop k = cs[k] :: cs.drop (k + 1) := List.drop_eq_getElem_cons h
  have e2 : cs.getD k c0 = cs[k] := by rw [List.getD_eq_getElem?_getD, List.getElem?_eq_getElem h]; rfl
  rw [e2] at hc
  unfold updTo
  rw [e1, List.take_succ_eq_append_getElem h, List.map_append, List.map_cons, hc]
  simp only [List.map_nil, List.append_assoc, List.cons_append, List.nil_append]
theorem updTo_all (r : Rec) (n : Nat) (cs : List Cal) : updTo r n cs cs.length = cs.map (refUpd r n) := by
  unfold updTo; rw [List.take_length, List.drop_length, List.append_nil]
theorem body162 (q : PE) (k : Nat) (hk : k ≤ q.cs.length) (Q : EX → St V → Prop) (F : AV → Heap V → Nat → Prop)
    (hnx : ∀ ST : St V, k < q.cs.length → Wk 2 [] ST (I162 q (k + 1)) → Q .nx ST) (hex : ∀ ST : St V, k = q.cs.length → Wk 2 [] ST (I162 q k) → Q (.ex 2) ST) :
    (runCode cfgR 60 16 (loopOf Try.f16 2) (I162 q k) (stopT (trimSt [0, 3, 4, 5, 6] [0, 1]))).holds ⟨Q, F⟩ := by
  rw [b162]
  have hb := q.hb
  have hn := q.hn
  have hc := q.hc
  have hw : k < q.cs.length → IntKind.wrap .i64 ((k : Int) + 1) = ((k + 1 : Nat) : Int) := fun h => wrap_nat (by omega)
  have hul := updTo_len (q.l.getD q.n r0) q.n q.cs k
  rw [show (0 + q.n) = q.n from Nat.zero_add _, show (0 + k) = k from Nat.zero_add k]
  rw [show (updTo (q.l.getD q.n r0) q.n q.cs k).getD k (V.enc Kd.cal).dflt = q.cs.getD k c0 from updTo_getD _ _ _ _ _, show q.l.getD q.n (V.enc Kd.rcd).dflt = q.l.getD q.n r0 from rfl]
  have hst := updTo_set (q.l.getD q.n r0) q.n q.cs k
  have hsy := updTo_stay (q.l.getD q.n r0) q.n q.cs k
  have blk : ∀ {a b : List Cal}, a = b → BSub (some (.arr 35 Kd.cal a q.sp : Blk V)) (.arr 35 Kd.cal b q.sp) := fun h => by rw [h]; exact .same _
  simp only [Out.holds, decide_eq_true_eq, decide_eq_false_iff_not, beq_iff_eq, beq_eq_false_iff_ne]
  by_cases hlt : k < q.cs.length
  · refine ⟨fun h => ⟨by omega, by omega, by omega, hn, fun h2 => ⟨by omega, by omega, by omega, hn, fun h3 => ⟨by omega, hn, fun h4 => ⟨by omega, by omega, hnx _ hlt ?_⟩, fun h4 => ⟨by omega, by omega, hnx _ hlt ?_⟩⟩, fun h3 => hnx _ hlt ?_⟩, fun h2 => hnx _ hlt ?_⟩, fun h => absurd hlt (by omega)⟩
    · refine ⟨⟨AV.sub_same _, AV.sub_same _, AV.sub_same _, AV.sub_same _, AV.sub_int (hw hlt), trivial⟩, ⟨blk ?_, .same _, trivial⟩, rfl, tl_ok rfl, ⟨.inl (in_ok rfl), .inr rfl, trivial⟩, ⟨Nat.le_of_ble_eq_true rfl, rfl⟩⟩
      rw [hst hlt]; unfold refUpd; rw [if_pos ⟨h2, h3⟩, if_pos h4]
    · refine ⟨⟨AV.sub_same _, AV.sub_same _, AV.sub_same _, AV.sub_same _, AV.sub_int (hw hlt), trivial⟩, ⟨blk ?_, .same _, trivial⟩, rfl, tl_ok rfl, ⟨.inl (in_ok rfl), .inr rfl, trivial⟩, ⟨Nat.le_of_ble_eq_true rfl, rfl⟩⟩
      rw [hst hlt]; unfold refUpd; rw [if_pos ⟨h2, h3⟩, if_neg h4]
    · refine ⟨⟨AV.sub_same _, AV.sub_same _, AV.sub_same _, AV.sub_same _, AV.sub_int (hw hlt), trivial⟩, ⟨blk ?_, .same _, trivial⟩, rfl, tl_ok rfl, ⟨.inl (in_ok rfl), .inr rfl, trivial⟩, ⟨Nat.le_of_ble_eq_true rfl, rfl⟩⟩
      rw [hsy hlt]; unfold refUpd; rw [if_neg (fun hh => h3 hh.2)]
    · refine ⟨⟨AV.sub_same _, AV.sub_same _, AV.sub_same _, AV.sub_same _, AV.sub_int (hw hlt), trivial⟩, ⟨blk ?_, .same _, trivial⟩, rfl, tl_ok rfl, ⟨.inl (in_ok rfl), .inr rfl, trivial⟩, ⟨Nat.le_of_ble_eq_true rfl, rfl⟩⟩
      rw [hsy hlt]; unfold refUpd; rw [if_neg (fun hh => h2 hh.1)]
  · exact ⟨fun h => absurd h (by omega), fun h => hex _ (by omega) ⟨⟨AV.sub_same _, AV.sub_same _, AV.sub_same _, AV.sub_same _, AV.sub_same _, trivial⟩, ⟨.same _, .same _, trivial⟩, rfl, tl_ok rfl, ⟨.inl (in_ok rfl), .inr rfl, trivial⟩, ⟨Nat.le_of_ble_eq_true rfl, rfl⟩⟩⟩
theorem l162_ok : LoopOk Try.prog 2 (loopOf Try.f16 2) L162 := by
  refine trimLoop_ok (trim_ok _ _) (loopTH_ok (C := cfgR) cfgR_ok (f := 16) (n := 60) (trim_ok [0, 3, 4, 5, 6] [0, 1]) 2 I162 (fun q k => k ≤ q.cs.length) (fun _ => 0) (fun q k => q.cs.length - k) (fun _ (_ : Unit) => True) (fun q _ => I162 q q.cs.length) (fun q => Nat.zero_le _) ?_)
  intro q k hk
  exact body162 q k hk _ _ (fun ST hlt hw => SImp.of_wk (k + 1) hw ⟨hlt, by omega⟩) (fun ST he hw => ⟨rfl, SImp.of_wk () (by subst he; exact hw) trivial⟩)

theorem refCalls_len (l : List Rec) : ∀ n, (refCallsTo l n).length ≤ n
  | 0 => Nat.le_refl _
  | n + 1 => by
    have ih := refCalls_len l n
    unfold refCallsTo
    split
    · omega
    · split
      · simp only [List.length_append, List.length_cons, List.length_nil]; omega
      · simp only [List.length_map]; omega

theorem body160 (p : PB) (x : Nat × Nat) (hi : x.1 ≤ p.l.length) (Q : EX → St V → Prop) (F : AV → Heap V → Nat → Prop)
    (hnx : ∀ (ST : St V) (sp b : Nat), x.1 < p.l.length → p.ok = true → Wk 1 [(1, b)] ST (I160 p (x.1 + 1, sp)) → Q .nx ST)
    (he : (p.ok = false ∨ x.1 = p.l.length) → outOf p = refCallsTo p.l x.1) (hex : ∀ ST : St V, Wk 1 [(1, 1)] ST (E160 p x.2) → Q (.ex 0) ST) :
    (runCode cfg162 60 16 (loopOf Try.f16 0) (I160 p x) (stopT (trimSt [0, 3, 4, 5] [0, 1, 3]))).holds ⟨Q, F⟩ := by
  rw [b160]
  have hb := p.hb
  have hcl := refCalls_len p.l x.1
  have hw : x.1 < p.l.length → IntKind.wrap .i64 ((x.1 : Int) + 1) = ((x.1 + 1 : Nat) : Int) := fun h => wrap_nat (by omega)
  rw [show (0 + x.1) = x.1 from Nat.zero_add _]
  rw [show p.l.getD x.1 (V.enc Kd.rcd).dflt = p.l.getD x.1 r0 from rfl]
  have hst : refCallsTo p.l (x.1 + 1) = if (p.l.getD x.1 r0).op < 0 then refCallsTo p.l x.1 else if (p.l.getD x.1 r0).what = 1 then refCallsTo p.l x.1 ++ [⟨(p.l.getD x.1 r0).thread, (p.l.getD x.1 r0).op, x.1, -1, -1⟩] else (refCallsTo p.l x.1).map (refUpd (p.l.getD x.1 r0) x.1) := rfl
  have blk : ∀ {a b : List Cal} {s : Nat}, a = b → BSub (some (.arr 35 Kd.cal a s : Blk V)) (.arr 35 Kd.cal b s) := fun h => by rw [h]; exact .same _
  simp only [Out.holds, decide_eq_true_eq, decide_eq_false_iff_not, beq_iff_eq, beq_eq_false_iff_ne]
  by_cases hlt : x.1 < p.l.length
  · refine ⟨fun h => ⟨fun hok => ⟨by omega, by omega, fun h2 => hnx _ x.2 1 hlt hok ?_, fun h2 => ⟨by omega, by omega, fun h3 => ⟨by omega, by omega, by omega, by omega, ⟨trivial, trivial, trivial, by omega⟩, fun y => hnx _ y 3 hlt hok ?_⟩, fun h3 => ?_⟩⟩, fun hok => hex _ ?_⟩, fun h => absurd hlt (by omega)⟩
    · rw [if_pos h2] at hst
      exact ⟨⟨AV.sub_same _, AV.sub_same _, AV.sub_sl (by rw [hst]) (by rw [hst]), AV.sub_int (hw hlt), trivial⟩, ⟨blk hst.symm, .same _, trivial⟩, rfl, tl_ok rfl, ⟨.inl (in_ok rfl), .inr rfl, trivial⟩, ⟨Nat.le_of_ble_eq_true rfl, rfl⟩⟩
    · rw [if_neg h2, if_pos h3] at hst
      exact ⟨⟨AV.sub_same _, AV.sub_same _, AV.sub_sl (by rw [hst]; simp) (by rw [hst]; simp), AV.sub_int (hw hlt), trivial⟩, ⟨blk hst.symm, .same _, trivial⟩, rfl, tl_ok rfl, ⟨.inl (in_ok rfl), .inr rfl, trivial⟩, ⟨Nat.le_of_ble_eq_true rfl, rfl⟩⟩
    · rw [if_neg h2, if_neg h3] at hst
      refine ⟨l162_ok, fun q => q = ⟨p, x.1, hlt, refCallsTo p.l x.1, x.2, hcl⟩, ⟨Nat.le_refl _, SImp.of_wk (ren := []) ⟨p, x.1, hlt, refCallsTo p.l x.1, x.2, hcl⟩ ⟨⟨AV.sub_same _, AV.sub_same _, AV.sub_same _, AV.sub_same _, AV.sub_lit', trivial⟩, ⟨.same _, .same _, trivial⟩, rfl, tl_ok rfl, ⟨.inl (in_ok rfl), .inr rfl, trivial⟩, ⟨Nat.le_of_ble_eq_true rfl, rfl⟩⟩ rfl⟩, ?_⟩
      rintro _ rfl _ _
      refine hnx _ x.2 1 hlt hok ?_
      dsimp only
      rw [updTo_all]
      exact ⟨⟨AV.sub_same _, AV.sub_same _, AV.sub_sl (by rw [hst]; simp) (by rw [hst]; simp), AV.sub_int (hw hlt), trivial⟩, ⟨blk hst.symm, .same _, trivial⟩, rfl, tl_ok rfl, ⟨.inl (in_ok rfl), .inr rfl, trivial⟩, ⟨Nat.le_of_ble_eq_true rfl, rfl⟩⟩
    · have E := he (.inl hok)
      exact ⟨⟨AV.sub_sl (by rw [E]) (by rw [E]), trivial⟩, ⟨blk E.symm, .same _, trivial⟩, rfl, tl_ok rfl, ⟨.inl (in_ok rfl), .inr rfl, trivial⟩, ⟨Nat.le_of_ble_eq_true rfl, rfl⟩⟩
  · refine ⟨fun h => absurd h (by omega), fun h => hex _ ?_⟩
    have E := he (.inr (by omega))
    exact ⟨⟨AV.sub_sl (by rw [E]) (by rw [E]), trivial⟩, ⟨blk E.symm, .same _, trivial⟩, rfl, tl_ok rfl, ⟨.inl (in_ok rfl), .inr rfl, trivial⟩, ⟨Nat.le_of_ble_eq_true rfl, rfl⟩⟩
theorem l160_ok : LoopOk Try.prog 0 (loopOf Try.f16 0) L160 := by
  refine trimLoop_ok (trim_ok _ _) (loopTH_ok (C := cfg162) cfg162_ok (f := 16) (n := 60) (trim_ok [0, 3, 4, 5] [0, 1, 3]) 1 I160 (fun p x => x.1 ≤ p.l.length ∧ (p.ok = true ∨ x.1 = 0)) (fun _ => (0, 0)) (fun p x => p.l.length - x.1) (fun _ (_ : Nat) => True) (fun p sp => E160 p sp) (fun p => ⟨Nat.zero_le _, .inr rfl⟩) ?_)
  intro p x ⟨hi, hok⟩
  refine body160 p x hi _ _ (fun ST sp b hlt h hw => SImp.of_wk (x.1 + 1, sp) hw ⟨⟨hlt, .inl h⟩, ?_⟩) (fun he => ?_) (fun ST hw => ⟨rfl, SImp.of_wk (ren := [(1, 1)]) x.2 hw trivial⟩)
  · show p.l.length - (x.1 + 1) < p.l.length - x.1; omega
  · unfold outOf
    rcases he with h | h
    · rcases hok with h2 | h2
      · rw [h] at h2; cases h2
      · rw [h, h2]; rfl
    · rcases hok with h2 | h2
      · rw [h2, h]; rfl
      · rw [← h, h2]; cases p.ok <;> rfl

def runCallsR : RunFree V := fun ar K => match ar with
  | [.rows .rcd l c] => .need (l.length ≤ 1099511627776 ∧ ∀ r ∈ l, r.op < 9223372036854775808) (.all Nat fun sp => K (.sl false 0 0 5 (hCallsOf l).length ((hCallsOf l).length + sp)) [.arr 35 Kd.cal (hCallsOf l) sp])
  | _ => .bad 500
theorem hCallsRef : HookOk Try.prog 16 (hookFree [.rows Kd.rcd] runCallsR) := by
  refine free_hook (C := cfg160) cfg160_ok (n := 60) (fn := Try.f16) ⟨by kernel_rfl, by kernel_rfl⟩ (by kernel_rfl) ?_
  intro M ar K0 H
  unfold runCallsR at H
  split at H
  · rename_i l c
    obtain ⟨⟨hb, hop⟩, H⟩ := H
    refine ⟨show 1 ≤ _ by decide +kernel, ?_⟩
    show (runF cfg160 60 16 Try.f16 [.sl false 0 0 8 l.length c] [(0, .ro Kd.rcd l)] 1).holds _
    rw [t16]
    rw [show List.take l.length (List.drop 0 l) = l from List.take_length ..]
    refine ⟨by omega, hb, l160_ok, fun p => p = ⟨⟨l, c, hb⟩, hRight l⟩, ⟨Nat.le_refl _, SImp.of_wk (ren := [(1, 99)]) ⟨⟨l, c, hb⟩, hRight l⟩ ?_ rfl⟩, ?_⟩
    · exact ⟨⟨AV.sub_same _, AV.sub_same _, AV.sub_nilS, AV.sub_lit', trivial⟩, ⟨.none _ _, .same _, trivial⟩, rfl, tl_ok rfl, ⟨.inr rfl, trivial⟩, ⟨Nat.le_of_ble_eq_true rfl, rfl⟩⟩
    · rintro _ rfl sp _
      have e : outOf ⟨⟨l, c, hb⟩, hRight l⟩ = hCallsOf l := by
        unfold outOf
        show (if hRight l = true then refCallsTo l l.length else []) = _
        split
        · rename_i h; exact (calls_ref hop h).symm
        · rename_i h
          cases hs : readTo l l.length with
          | none => exact (right_none hs).2.symm
          | some s => exact absurd (right_some hs).1 h
      dsimp only
      rw [e]
      exact ⟨_, _, H sp, _, HImp.refl _ _, ⟨⟨fun _ => 1, ⟨.same _, trivial⟩, AV.sub_same _⟩, rfl, rfl⟩⟩
  · exact H.elim

end Sx
end Go.Proofs.Ytemcdjdglcceiaa

/-
  The documents commits, what is left, and what is completed: the runs of the machine.
-/
namespace Go.Proofs.Ytemcdjdglcceiaa
namespace Sx
open Go
set_option maxRecDepth 100000
set_option linter.unusedVariables false

def hooksS : Nat → Option (HookS V) := fun g => match g with
  | 16 => some (hookFree [.rows Kd.rcd] runCallsR)
  | g => hooksR g
noncomputable def cfgS : Cfg Try.prog V := ⟨tab, kinds, fun _ => none, hooksS, fun _ _ => none⟩
def I240 (p : PB) (x : Nat × Nat) : St V := ⟨[(0, .sl false 0 0 8 p.l.length p.c), (3, .bool p.ok), (4, .sl false 1 0 4 (takesTo p.l x.1).length ((takesTo p.l x.1).length + x.2)), (5, .int .i64 (x.1 : Int))],
  [(1, .arr 27 Kd.com (takesTo p.l x.1) x.2), (0, .ro Kd.rcd p.l)], 2, 32, TL⟩
def outC (p : PB) : List Com := if p.ok then takesTo p.l p.l.length else []
def E240 (p : PB) (sp : Nat) : St V := ⟨[(4, .sl false 1 0 4 (outC p).length ((outC p).length + sp))], [(1, .arr 27 Kd.com (outC p) sp), (0, .ro Kd.rcd p.l)], 2, 32, TL⟩
def L240 : LoopS V := trimLoop (trimSt [0, 3, 4, 5] [0]) (loopH 1 (fun p : PB => I240 p (0, 0)) (fun _ (_ : Nat) => True) (fun p sp => E240 p sp))
def openTo (cs : List Cal) (i : Nat) : Nat := ((cs.take i).filter fun c => decide (c.to_ < 0)).length
def I260 (p : PC) (i : Nat) : St V :=
  ⟨[(3, .sl false 1 0 5 p.cs.length (p.cs.length + p.sp)), (4, .int .i64 (openTo p.cs i : Int)), (5, .int .i64 (i : Int))],
   [(1, .arr 35 Kd.cal p.cs p.sp)], 2, 23, TL⟩
def L260 : LoopS V := trimLoop (trimSt [3, 4, 5] [1]) (loopH 2 (fun p : PC => I260 p 0) (fun _ (_ : Unit) => True) (fun p _ => I260 p p.cs.length))
def lateRec (l : List Rec) (i : Nat) : Rec := ⟨(l.getD i r0).thread, (l.getD i r0).op, 3, (l.getD i r0).act, (l.getD i r0).key, (l.getD i r0).value, (l.getD i r0).hit, 0⟩
def isLate (i : Nat) (c : Cal) : Bool := decide (c.at_ = i ∧ c.to_ < 0)
def isGone (i : Nat) (c : Cal) : Bool := decide (c.frm = i ∧ c.at_ < 0 ∧ c.to_ < 0)
def lateAt (l : List Rec) (cs : List Cal) (i k : Nat) : List Rec := ((cs.take k).filter (isLate i)).map fun _ => lateRec l i
def keepAt (cs : List Cal) (i k : Nat) : Bool := !(cs.take k).any (isGone i)
def keptTo (l : List Rec) (cs : List Cal) : Nat → List Rec
  | 0 => []
  | n + 1 => keptTo l cs n ++ if keepAt cs n cs.length then [l.getD n r0] else []
def moreTo (l : List Rec) (cs : List Cal) : Nat → List Rec
  | 0 => []
  | n + 1 => moreTo l cs n ++ lateAt l cs n cs.length
structure PG extends PL where
  cs : List Cal
  sp : Nat
  hc : cs.length ≤ l.length
  hu : ∀ i, (cs.filter (isLate i)).length ≤ 1
def I140 (p : PG) (x : Nat × Nat × Nat) : St V := ⟨[(0, .sl false 0 0 8 p.l.length p.c), (4, .sl false 1 0 5 p.cs.length (p.cs.length + p.sp)), (5, .sl false 2 0 8 (keptTo p.l p.cs x.1).length ((keptTo p.l p.cs x.1).length + x.2.1)), (6, .sl false 3 0 8 (moreTo p.l p.cs x.1).length ((moreTo p.l p.cs x.1).length + x.2.2)), (7, .int .i64 (x.1 : Int))],
  [(2, .arr 30 Kd.rcd (keptTo p.l p.cs x.1) x.2.1), (3, .arr 30 Kd.rcd (moreTo p.l p.cs x.1) x.2.2), (1, .arr 35 Kd.cal p.cs p.sp), (0, .ro Kd.rcd p.l)], 4, 96, TL⟩
structure PGI extends PG where
  n : Nat
  hn : n < l.length
  out : List Rec
  so : Nat
  base : List Rec
  s0 : Nat
  hbs : base.length ≤ l.length
def I142 (q : PGI) (x : Nat × Nat) : St V := ⟨[(0, .sl false 0 0 8 q.l.length q.c), (4, .sl false 1 0 5 q.cs.length (q.cs.length + q.sp)), (5, .sl false 2 0 8 q.out.length (q.out.length + q.so)), (6, .sl false 4 0 8 (q.base ++ lateAt q.l q.cs q.n x.1).length ((q.base ++ lateAt q.l q.cs q.n x.1).length + x.2)), (7, .int .i64 (q.n : Int)), (8, .bool (keepAt q.cs q.n x.1)), (9, .int .i64 (x.1 : Int))],
  [(4, .arr 30 Kd.rcd (q.base ++ lateAt q.l q.cs q.n x.1) x.2), (2, .arr 30 Kd.rcd q.out q.so), (1, .arr 35 Kd.cal q.cs q.sp), (0, .ro Kd.rcd q.l)], 5, 96, TL⟩
def L142 : LoopS V := trimLoop (trimSt [0, 4, 5, 6, 7, 8, 9] [0, 1, 2, 3]) (loopH 4 (fun q : PGI => I142 q (0, q.s0)) (fun _ (_ : Nat) => True) (fun q s => I142 q (q.cs.length, s)))
noncomputable def cfg142 : Cfg Try.prog V := ⟨tab, kinds, fun _ => none, hooksS, fun f id => match f, id with | 14, 2 => some L142 | _, _ => none⟩
def L140 : LoopS V := trimLoop (trimSt [0, 4, 5, 6, 7] [0, 1]) (loopH 2 (fun p : PG => I140 p (0, 0, 0)) (fun _ (_ : Nat × Nat) => True) (fun p s => I140 p (p.l.length, s)))
noncomputable def cfg140 : Cfg Try.prog V := ⟨tab, kinds, fun _ => none, hooksS, fun f id => match f, id with | 14, 0 => some L140 | 24, 0 => some L240 | 26, 0 => some L260 | _, _ => none⟩
theorem b240 (p : PB) (x : Nat × Nat) : runCode cfgS 60 24 (loopOf Try.f24 0) (I240 p x) (stopT (trimSt [0, 3, 4, 5] [0, 1, 2, 3, 4, 5, 6])) = Out.ite (decide ((↑x.1 : Int) < (↑p.l.length : Int))) (Out.ite p.ok (Out.need (0 ≤ (↑x.1 : Int) ∧ (↑x.1 : Int) < (↑p.l.length : Int)) (Out.need (0 + x.1 < p.l.length) (Out.ite ((p.l.getD (0 + x.1) (V.enc Kd.rcd).dflt).what == 2) (Out.need (0 ≤ (↑x.1 : Int) ∧ (↑x.1 : Int) < (↑p.l.length : Int)) (Out.need (0 + x.1 < p.l.length) (Out.need (0 = 0 ∧ (takesTo p.l x.1).length = (takesTo p.l x.1).length ∧ (takesTo p.l x.1).length + x.2 = (takesTo p.l x.1).length + x.2 ∧ ((takesTo p.l x.1).length + 1) * 32 ≤ 140737488355328) (Out.all Nat fun y => Out.stop EX.nx {env := [(0, .sl false 0 0 8 p.l.length p.toPL.2), (3, .bool p.ok), (4, .sl false 3 0 4 ((takesTo p.l x.1).length + 1) ((takesTo p.l x.1).length + 1 + y)), (5, .int .i64 (IntKind.i64.wrap ((↑x.1 : Int) + 1)))], heap := [(3, .arr 27 Kd.com (takesTo p.l x.1 ++ [{act := (p.l.getD (0 + x.1) (V.enc Kd.rcd).dflt).act, key := (p.l.getD (0 + x.1) (V.enc Kd.rcd).dflt).key, value := (p.l.getD (0 + x.1) (V.enc Kd.rcd).dflt).value, hit := (p.l.getD (0 + x.1) (V.enc Kd.rcd).dflt).hit : Com }]) y), (2, .cells 27 [.int .i64 (p.l.getD (0 + x.1) (V.enc Kd.rcd).dflt).act, .int .i64 (p.l.getD (0 + x.1) (V.enc Kd.rcd).dflt).key, .int .i64 (p.l.getD (0 + x.1) (V.enc Kd.rcd).dflt).value, .bool (p.l.getD (0 + x.1) (V.enc Kd.rcd).dflt).hit]), (0, .ro Kd.rcd p.l)], nx := 4, nt := 32, tl := [1, 0, 1, 2, 3, 4, 5, 6, 7, 8, 9, 10, 11, 12, 13, 14, 15, 16] : St V })))) (Out.stop EX.nx {env := [(0, .sl false 0 0 8 p.l.length p.toPL.2), (3, .bool p.ok), (4, .sl false 1 0 4 (takesTo p.l x.1).length ((takesTo p.l x.1).length + x.2)), (5, .int .i64 (IntKind.i64.wrap ((↑x.1 : Int) + 1)))], heap := [(1, .arr 27 Kd.com (takesTo p.l x.1) x.2), (0, .ro Kd.rcd p.l)], nx := 2, nt := 32, tl := [0, 1, 2, 3, 4, 5, 6, 7, 8, 9, 10, 11, 12, 13, 14, 15, 16] : St V })))) (Out.stop (EX.ex 0) {env := [(0, .sl false 0 0 8 p.l.length p.toPL.2), (3, .bool p.ok), (4, .sl false 1 0 4 (takesTo p.l x.1).length ((takesTo p.l x.1).length + x.2)), (5, .int .i64 (↑x.1 : Int))], heap := [(1, .arr 27 Kd.com (takesTo p.l x.1) x.2), (0, .ro Kd.rcd p.l)], nx := 2, nt := 32, tl := [0, 1, 2, 3, 4, 5, 6, 7, 8, 9, 10, 11, 12, 13, 14, 15, 16] : St V })) (Out.stop (EX.ex 0) {env := [(0, .sl false 0 0 8 p.l.length p.toPL.2), (3, .bool p.ok), (4, .sl false 1 0 4 (takesTo p.l x.1).length ((takesTo p.l x.1).length + x.2)), (5, .int .i64 (↑x.1 : Int))], heap := [(1, .arr 27 Kd.com (takesTo p.l x.1) x.2), (0, .ro Kd.rcd p.l)], nx := 2, nt := 32, tl := [0, 1, 2, 3, 4, 5, 6, 7, 8, 9, 10, 11, 12, 13, 14, 15, 16] : St V }) := by kernel_rfl

theorem b260 (p : PC) (i : Nat) : runCode cfgS 60 26 (loopOf Try.f26 0) (I260 p i) (stopT (trimSt [3, 4, 5] [1])) = Out.ite (decide ((↑i : Int) < (↑p.cs.length : Int))) (Out.need (0 ≤ (↑i : Int) ∧ (↑i : Int) < (↑p.cs.length : Int)) (Out.need (0 + i < p.cs.length) (Out.ite (decide ((p.cs.getD (0 + i) (V.enc Kd.cal).dflt).to_ < 0)) (Out.stop EX.nx {env := [(3, .sl false 1 0 5 p.cs.length (p.cs.length + p.4)), (4, .int .i64 (IntKind.i64.wrap ((↑(openTo p.cs i) : Int) + 1))), (5, .int .i64 (IntKind.i64.wrap ((↑i : Int) + 1)))], heap := [(1, .arr 35 Kd.cal p.cs p.4)], nx := 2, nt := 23, tl := [0, 1, 2, 3, 4, 5, 6, 7, 8, 9, 10, 11, 12, 13, 14, 15, 16] : St V }) (Out.stop EX.nx {env := [(3, .sl false 1 0 5 p.cs.length (p.cs.length + p.4)), (4, .int .i64 (↑(openTo p.cs i) : Int)), (5, .int .i64 (IntKind.i64.wrap ((↑i : Int) + 1)))], heap := [(1, .arr 35 Kd.cal p.cs p.4)], nx := 2, nt := 23, tl := [0, 1, 2, 3, 4, 5, 6, 7, 8, 9, 10, 11, 12, 13, 14, 15, 16] : St V })))) (Out.stop (EX.ex 0) {env := [(3, .sl false 1 0 5 p.cs.length (p.cs.length + p.4)), (4, .int .i64 (↑(openTo p.cs i) : Int)), (5, .int .i64 (↑i : Int))], heap := [(1, .arr 35 Kd.cal p.cs p.4)], nx := 2, nt := 23, tl := [0, 1, 2, 3, 4, 5, 6, 7, 8, 9, 10, 11, 12, 13, 14, 15, 16] : St V }) := by kernel_rfl

theorem b142 (q : PGI) (x : Nat × Nat) : runCode cfgS 60 14 (loopOf Try.f14 2) (I142 q x) (stopT (trimSt [0, 4, 5, 6, 7, 8, 9] [0, 1, 2, 4, 5, 6, 7, 8, 9, 10])) = Out.ite (decide ((↑x.1 : Int) < (↑q.cs.length : Int))) (Out.need (0 ≤ (↑x.1 : Int) ∧ (↑x.1 : Int) < (↑q.cs.length : Int)) (Out.need (0 + x.1 < q.cs.length) (Out.ite ((q.cs.getD (0 + x.1) (V.enc Kd.cal).dflt).frm == (↑q.2 : Int)) (Out.need (0 ≤ (↑x.1 : Int) ∧ (↑x.1 : Int) < (↑q.cs.length : Int)) (Out.need (0 + x.1 < q.cs.length) (Out.ite (decide ((q.cs.getD (0 + x.1) (V.enc Kd.cal).dflt).at_ < 0)) (Out.need (0 ≤ (↑x.1 : Int) ∧ (↑x.1 : Int) < (↑q.cs.length : Int)) (Out.need (0 + x.1 < q.cs.length) (Out.ite (decide ((q.cs.getD (0 + x.1) (V.enc Kd.cal).dflt).to_ < 0)) (Out.need (0 ≤ (↑x.1 : Int) ∧ (↑x.1 : Int) < (↑q.cs.length : Int)) (Out.need (0 + x.1 < q.cs.length) (Out.ite ((q.cs.getD (0 + x.1) (V.enc Kd.cal).dflt).at_ == (↑q.2 : Int)) (Out.need (0 ≤ (↑x.1 : Int) ∧ (↑x.1 : Int) < (↑q.cs.length : Int)) (Out.need (0 + x.1 < q.cs.length) (Out.ite (decide ((q.cs.getD (0 + x.1) (V.enc Kd.cal).dflt).to_ < 0)) (Out.need (0 ≤ (↑q.2 : Int) ∧ (↑q.2 : Int) < (↑q.l.length : Int)) (Out.need (0 + q.2 < q.l.length) (Out.need (0 ≤ (↑q.2 : Int) ∧ (↑q.2 : Int) < (↑q.l.length : Int)) (Out.need (0 + q.2 < q.l.length) (Out.need (0 ≤ (↑q.2 : Int) ∧ (↑q.2 : Int) < (↑q.l.length : Int)) (Out.need (0 + q.2 < q.l.length) (Out.need (0 = 0 ∧ (q.base ++ lateAt q.l q.cs q.2 x.1).length = (q.base ++ lateAt q.l q.cs q.2 x.1).length ∧ (q.base ++ lateAt q.l q.cs q.2 x.1).length + x.2 = (q.base ++ lateAt q.l q.cs q.2 x.1).length + x.2 ∧ ((q.base ++ lateAt q.l q.cs q.2 x.1).length + 1) * 64 ≤ 140737488355328) (Out.all Nat fun y => Out.stop EX.nx {env := [(0, .sl false 0 0 8 q.l.length q.toPL.2), (4, .sl false 1 0 5 q.cs.length (q.cs.length + q.toPG.3)), (5, .sl false 2 0 8 q.out.length (q.out.length + q.5)), (6, .sl false 6 0 8 ((q.base ++ lateAt q.l q.cs q.2 x.1).length + 1) ((q.base ++ lateAt q.l q.cs q.2 x.1).length + 1 + y)), (7, .int .i64 (↑q.2 : Int)), (8, .ff), (9, .int .i64 (IntKind.i64.wrap ((↑x.1 : Int) + 1)))], heap := [(6, .arr 30 Kd.rcd (q.base ++ lateAt q.l q.cs q.2 x.1 ++ [{thread := (q.l.getD (0 + q.2) (V.enc Kd.rcd).dflt).thread, op := (q.l.getD (0 + q.2) (V.enc Kd.rcd).dflt).op, what := 3, act := (q.l.getD (0 + q.2) (V.enc Kd.rcd).dflt).act, key := (q.l.getD (0 + q.2) (V.enc Kd.rcd).dflt).key, value := (q.l.getD (0 + q.2) (V.enc Kd.rcd).dflt).value, hit := (q.l.getD (0 + q.2) (V.enc Kd.rcd).dflt).hit, err := 0 : Rec }]) y), (5, .cells 30 [.int .i64 (q.l.getD (0 + q.2) (V.enc Kd.rcd).dflt).thread, .int .i64 (q.l.getD (0 + q.2) (V.enc Kd.rcd).dflt).op, .lit .i64 3, .int .i64 (q.l.getD (0 + q.2) (V.enc Kd.rcd).dflt).act, .int .i64 (q.l.getD (0 + q.2) (V.enc Kd.rcd).dflt).key, .int .i64 (q.l.getD (0 + q.2) (V.enc Kd.rcd).dflt).value, .bool (q.l.getD (0 + q.2) (V.enc Kd.rcd).dflt).hit, .lit .i64 0]), (2, .arr 30 Kd.rcd q.out q.5), (1, .arr 35 Kd.cal q.cs q.toPG.3), (0, .ro Kd.rcd q.l)], nx := 7, nt := 96, tl := [4, 0, 1, 2, 3, 4, 5, 6, 7, 8, 9, 10, 11, 12, 13, 14, 15, 16] : St V })))))))) (Out.stop EX.nx {env := [(0, .sl false 0 0 8 q.l.length q.toPL.2), (4, .sl false 1 0 5 q.cs.length (q.cs.length + q.toPG.3)), (5, .sl false 2 0 8 q.out.length (q.out.length + q.5)), (6, .sl false 4 0 8 (q.base ++ lateAt q.l q.cs q.2 x.1).length ((q.base ++ lateAt q.l q.cs q.2 x.1).length + x.2)), (7, .int .i64 (↑q.2 : Int)), (8, .ff), (9, .int .i64 (IntKind.i64.wrap ((↑x.1 : Int) + 1)))], heap := [(4, .arr 30 Kd.rcd (q.base ++ lateAt q.l q.cs q.2 x.1) x.2), (2, .arr 30 Kd.rcd q.out q.5), (1, .arr 35 Kd.cal q.cs q.toPG.3), (0, .ro Kd.rcd q.l)], nx := 5, nt := 96, tl := [0, 1, 2, 3, 4, 5, 6, 7, 8, 9, 10, 11, 12, 13, 14, 15, 16] : St V })))) (Out.stop EX.nx {env := [(0, .sl false 0 0 8 q.l.length q.toPL.2), (4, .sl false 1 0 5 q.cs.length (q.cs.length + q.toPG.3)), (5, .sl false 2 0 8 q.out.length (q.out.length + q.5)), (6, .sl false 4 0 8 (q.base ++ lateAt q.l q.cs q.2 x.1).length ((q.base ++ lateAt q.l q.cs q.2 x.1).length + x.2)), (7, .int .i64 (↑q.2 : Int)), (8, .ff), (9, .int .i64 (IntKind.i64.wrap ((↑x.1 : Int) + 1)))], heap := [(4, .arr 30 Kd.rcd (q.base ++ lateAt q.l q.cs q.2 x.1) x.2), (2, .arr 30 Kd.rcd q.out q.5), (1, .arr 35 Kd.cal q.cs q.toPG.3), (0, .ro Kd.rcd q.l)], nx := 5, nt := 96, tl := [0, 1, 2, 3, 4, 5, 6, 7, 8, 9, 10, 11, 12, 13, 14, 15, 16] : St V })))) (Out.need (0 ≤ (↑x.1 : Int) ∧ (↑x.1 : Int) < (↑q.cs.length : Int)) (Out.need (0 + x.1 < q.cs.length) (Out.ite ((q.cs.getD (0 + x.1) (V.enc Kd.cal).dflt).at_ == (↑q.2 : Int)) (Out.need (0 ≤ (↑x.1 : Int) ∧ (↑x.1 : Int) < (↑q.cs.length : Int)) (Out.need (0 + x.1 < q.cs.length) (Out.ite (decide ((q.cs.getD (0 + x.1) (V.enc Kd.cal).dflt).to_ < 0)) (Out.need (0 ≤ (↑q.2 : Int) ∧ (↑q.2 : Int) < (↑q.l.length : Int)) (Out.need (0 + q.2 < q.l.length) (Out.need (0 ≤ (↑q.2 : Int) ∧ (↑q.2 : Int) < (↑q.l.length : Int)) (Out.need (0 + q.2 < q.l.length) (Out.need (0 ≤ (↑q.2 : Int) ∧ (↑q.2 : Int) < (↑q.l.length : Int)) (Out.need (0 + q.2 < q.l.length) (Out.need (0 = 0 ∧ (q.base ++ lateAt q.l q.cs q.2 x.1).length = (q.base ++ lateAt q.l q.cs q.2 x.1).length ∧ (q.base ++ lateAt q.l q.cs q.2 x.1).length + x.2 = (q.base ++ lateAt q.l q.cs q.2 x.1).length + x.2 ∧ ((q.base ++ lateAt q.l q.cs q.2 x.1).length + 1) * 64 ≤ 140737488355328) (Out.all Nat fun y => Out.stop EX.nx {env := [(0, .sl false 0 0 8 q.l.length q.toPL.2), (4, .sl false 1 0 5 q.cs.length (q.cs.length + q.toPG.3)), (5, .sl false 2 0 8 q.out.length (q.out.length + q.5)), (6, .sl false 6 0 8 ((q.base ++ lateAt q.l q.cs q.2 x.1).length + 1) ((q.base ++ lateAt q.l q.cs q.2 x.1).length + 1 + y)), (7, .int .i64 (↑q.2 : Int)), (8, .bool (keepAt q.cs q.2 x.1)), (9, .int .i64 (IntKind.i64.wrap ((↑x.1 : Int) + 1)))], heap := [(6, .arr 30 Kd.rcd (q.base ++ lateAt q.l q.cs q.2 x.1 ++ [{thread := (q.l.getD (0 + q.2) (V.enc Kd.rcd).dflt).thread, op := (q.l.getD (0 + q.2) (V.enc Kd.rcd).dflt).op, what := 3, act := (q.l.getD (0 + q.2) (V.enc Kd.rcd).dflt).act, key := (q.l.getD (0 + q.2) (V.enc Kd.rcd).dflt).key, value := (q.l.getD (0 + q.2) (V.enc Kd.rcd).dflt).value, hit := (q.l.getD (0 + q.2) (V.enc Kd.rcd).dflt).hit, err := 0 : Rec }]) y), (5, .cells 30 [.int .i64 (q.l.getD (0 + q.2) (V.enc Kd.rcd).dflt).thread, .int .i64 (q.l.getD (0 + q.2) (V.enc Kd.rcd).dflt).op, .lit .i64 3, .int .i64 (q.l.getD (0 + q.2) (V.enc Kd.rcd).dflt).act, .int .i64 (q.l.getD (0 + q.2) (V.enc Kd.rcd).dflt).key, .int .i64 (q.l.getD (0 + q.2) (V.enc Kd.rcd).dflt).value, .bool (q.l.getD (0 + q.2) (V.enc Kd.rcd).dflt).hit, .lit .i64 0]), (2, .arr 30 Kd.rcd q.out q.5), (1, .arr 35 Kd.cal q.cs q.toPG.3), (0, .ro Kd.rcd q.l)], nx := 7, nt := 96, tl := [4, 0, 1, 2, 3, 4, 5, 6, 7, 8, 9, 10, 11, 12, 13, 14, 15, 16] : St V })))))))) (Out.stop EX.nx {env := [(0, .sl false 0 0 8 q.l.length q.toPL.2), (4, .sl false 1 0 5 q.cs.length (q.cs.length + q.toPG.3)), (5, .sl false 2 0 8 q.out.length (q.out.length + q.5)), (6, .sl false 4 0 8 (q.base ++ lateAt q.l q.cs q.2 x.1).length ((q.base ++ lateAt q.l q.cs q.2 x.1).length + x.2)), (7, .int .i64 (↑q.2 : Int)), (8, .bool (keepAt q.cs q.2 x.1)), (9, .int .i64 (IntKind.i64.wrap ((↑x.1 : Int) + 1)))], heap := [(4, .arr 30 Kd.rcd (q.base ++ lateAt q.l q.cs q.2 x.1) x.2), (2, .arr 30 Kd.rcd q.out q.5), (1, .arr 35 Kd.cal q.cs q.toPG.3), (0, .ro Kd.rcd q.l)], nx := 5, nt := 96, tl := [0, 1, 2, 3, 4, 5, 6, 7, 8, 9, 10, 11, 12, 13, 14, 15, 16] : St V })))) (Out.stop EX.nx {env := [(0, .sl false 0 0 8 q.l.length q.toPL.2), (4, .sl false 1 0 5 q.cs.length (q.cs.length + q.toPG.3)), (5, .sl false 2 0 8 q.out.length (q.out.length + q.5)), (6, .sl false 4 0 8 (q.base ++ lateAt q.l q.cs q.2 x.1).length ((q.base ++ lateAt q.l q.cs q.2 x.1).length + x.2)), (7, .int .i64 (↑q.2 : Int)), (8, .bool (keepAt q.cs q.2 x.1)), (9, .int .i64 (IntKind.i64.wrap ((↑x.1 : Int) + 1)))], heap := [(4, .arr 30 Kd.rcd (q.base ++ lateAt q.l q.cs q.2 x.1) x.2), (2, .arr 30 Kd.rcd q.out q.5), (1, .arr 35 Kd.cal q.cs q.toPG.3), (0, .ro Kd.rcd q.l)], nx := 5, nt := 96, tl := [0, 1, 2, 3, 4, 5, 6, 7, 8, 9, 10, 11, 12, 13, 14, 15, 16] : St V }))))))) (Out.need (0 ≤ (↑x.1 : Int) ∧ (↑x.1 : Int) < (↑q.cs.length : Int)) (Out.need (0 + x.1 < q.cs.length) (Out.ite ((q.cs.getD (0 + x.1) (V.enc Kd.cal).dflt).at_ == (↑q.2 : Int)) (Out.need (0 ≤ (↑x.1 : Int) ∧ (↑x.1 : Int) < (↑q.cs.length : Int)) (Out.need (0 + x.1 < q.cs.length) (Out.ite (decide ((q.cs.getD (0 + x.1) (V.enc Kd.cal).dflt).to_ < 0)) (Out.need (0 ≤ (↑q.2 : Int) ∧ (↑q.2 : Int) < (↑q.l.length : Int)) (Out.need (0 + q.2 < q.l.length) (Out.need (0 ≤ (↑q.2 : Int) ∧ (↑q.2 : Int) < (↑q.l.length : Int)) (Out.need (0 + q.2 < q.l.length) (Out.need (0 ≤ (↑q.2 : Int) ∧ (↑q.2 : Int) < (↑q.l.length : Int)) (Out.need (0 + q.2 < q.l.length) (Out.need (0 = 0 ∧ (q.base ++ lateAt q.l q.cs q.2 x.1).length = (q.base ++ lateAt q.l q.cs q.2 x.1).length ∧ (q.base ++ lateAt q.l q.cs q.2 x.1).length + x.2 = (q.base ++ lateAt q.l q.cs q.2 x.1).length + x.2 ∧ ((q.base ++ lateAt q.l q.cs q.2 x.1).length + 1) * 64 ≤ 140737488355328) (Out.all Nat fun y => Out.stop EX.nx {env := [(0, .sl false 0 0 8 q.l.length q.toPL.2), (4, .sl false 1 0 5 q.cs.length (q.cs.length + q.toPG.3)), (5, .sl false 2 0 8 q.out.length (q.out.length + q.5)), (6, .sl false 6 0 8 ((q.base ++ lateAt q.l q.cs q.2 x.1).length + 1) ((q.base ++ lateAt q.l q.cs q.2 x.1).length + 1 + y)), (7, .int .i64 (↑q.2 : Int)), (8, .bool (keepAt q.cs q.2 x.1)), (9, .int .i64 (IntKind.i64.wrap ((↑x.1 : Int) + 1)))], heap := [(6, .arr 30 Kd.rcd (q.base ++ lateAt q.l q.cs q.2 x.1 ++ [{thread := (q.l.getD (0 + q.2) (V.enc Kd.rcd).dflt).thread, op := (q.l.getD (0 + q.2) (V.enc Kd.rcd).dflt).op, what := 3, act := (q.l.getD (0 + q.2) (V.enc Kd.rcd).dflt).act, key := (q.l.getD (0 + q.2) (V.enc Kd.rcd).dflt).key, value := (q.l.getD (0 + q.2) (V.enc Kd.rcd).dflt).value, hit := (q.l.getD (0 + q.2) (V.enc Kd.rcd).dflt).hit, err := 0 : Rec }]) y), (5, .cells 30 [.int .i64 (q.l.getD (0 + q.2) (V.enc Kd.rcd).dflt).thread, .int .i64 (q.l.getD (0 + q.2) (V.enc Kd.rcd).dflt).op, .lit .i64 3, .int .i64 (q.l.getD (0 + q.2) (V.enc Kd.rcd).dflt).act, .int .i64 (q.l.getD (0 + q.2) (V.enc Kd.rcd).dflt).key, .int .i64 (q.l.getD (0 + q.2) (V.enc Kd.rcd).dflt).value, .bool (q.l.getD (0 + q.2) (V.enc Kd.rcd).dflt).hit, .lit .i64 0]), (2, .arr 30 Kd.rcd q.out q.5), (1, .arr 35 Kd.cal q.cs q.toPG.3), (0, .ro Kd.rcd q.l)], nx := 7, nt := 96, tl := [4, 0, 1, 2, 3, 4, 5, 6, 7, 8, 9, 10, 11, 12, 13, 14, 15, 16] : St V })))))))) (Out.stop EX.nx {env := [(0, .sl false 0 0 8 q.l.length q.toPL.2), (4, .sl false 1 0 5 q.cs.length (q.cs.length + q.toPG.3)), (5, .sl false 2 0 8 q.out.length (q.out.length + q.5)), (6, .sl false 4 0 8 (q.base ++ lateAt q.l q.cs q.2 x.1).length ((q.base ++ lateAt q.l q.cs q.2 x.1).length + x.2)), (7, .int .i64 (↑q.2 : Int)), (8, .bool (keepAt q.cs q.2 x.1)), (9, .int .i64 (IntKind.i64.wrap ((↑x.1 : Int) + 1)))], heap := [(4, .arr 30 Kd.rcd (q.base ++ lateAt q.l q.cs q.2 x.1) x.2), (2, .arr 30 Kd.rcd q.out q.5), (1, .arr 35 Kd.cal q.cs q.toPG.3), (0, .ro Kd.rcd q.l)], nx := 5, nt := 96, tl := [0, 1, 2, 3, 4, 5, 6, 7, 8, 9, 10, 11, 12, 13, 14, 15, 16] : St V })))) (Out.stop EX.nx {env := [(0, .sl false 0 0 8 q.l.length q.toPL.2), (4, .sl false 1 0 5 q.cs.length (q.cs.length + q.toPG.3)), (5, .sl false 2 0 8 q.out.length (q.out.length + q.5)), (6, .sl false 4 0 8 (q.base ++ lateAt q.l q.cs q.2 x.1).length ((q.base ++ lateAt q.l q.cs q.2 x.1).length + x.2)), (7, .int .i64 (↑q.2 : Int)), (8, .bool (keepAt q.cs q.2 x.1)), (9, .int .i64 (IntKind.i64.wrap ((↑x.1 : Int) + 1)))], heap := [(4, .arr 30 Kd.rcd (q.base ++ lateAt q.l q.cs q.2 x.1) x.2), (2, .arr 30 Kd.rcd q.out q.5), (1, .arr 35 Kd.cal q.cs q.toPG.3), (0, .ro Kd.rcd q.l)], nx := 5, nt := 96, tl := [0, 1, 2, 3, 4, 5, 6, 7, 8, 9, 10, 11, 12, 13, 14, 15, 16] : St V }))))))) (Out.need (0 ≤ (↑x.1 : Int) ∧ (↑x.1 : Int) < (↑q.cs.length : Int)) (Out.need (0 + x.1 < q.cs.length) (Out.ite ((q.cs.getD (0 + x.1) (V.enc Kd.cal).dflt).at_ == (↑q.2 : Int)) (Out.need (0 ≤ (↑x.1 : Int) ∧ (↑x.1 : Int) < (↑q.cs.length : Int)) (Out.need (0 + x.1 < q.cs.length) (Out.ite (decide ((q.cs.getD (0 + x.1) (V.enc Kd.cal).dflt).to_ < 0)) (Out.need (0 ≤ (↑q.2 : Int) ∧ (↑q.2 : Int) < (↑q.l.length : Int)) (Out.need (0 + q.2 < q.l.length) (Out.need (0 ≤ (↑q.2 : Int) ∧ (↑q.2 : Int) < (↑q.l.length : Int)) (Out.need (0 + q.2 < q.l.length) (Out.need (0 ≤ (↑q.2 : Int) ∧ (↑q.2 : Int) < (↑q.l.length : Int)) (Out.need (0 + q.2 < q.l.length) (Out.need (0 = 0 ∧ (q.base ++ lateAt q.l q.cs q.2 x.1).length = (q.base ++ lateAt q.l q.cs q.2 x.1).length ∧ (q.base ++ lateAt q.l q.cs q.2 x.1).length + x.2 = (q.base ++ lateAt q.l q.cs q.2 x.1).length + x.2 ∧ ((q.base ++ lateAt q.l q.cs q.2 x.1).length + 1) * 64 ≤ 140737488355328) (Out.all Nat fun y => Out.stop EX.nx {env := [(0, .sl false 0 0 8 q.l.length q.toPL.2), (4, .sl false 1 0 5 q.cs.length (q.cs.length + q.toPG.3)), (5, .sl false 2 0 8 q.out.length (q.out.length + q.5)), (6, .sl false 6 0 8 ((q.base ++ lateAt q.l q.cs q.2 x.1).length + 1) ((q.base ++ lateAt q.l q.cs q.2 x.1).length + 1 + y)), (7, .int .i64 (↑q.2 : Int)), (8, .bool (keepAt q.cs q.2 x.1)), (9, .int .i64 (IntKind.i64.wrap ((↑x.1 : Int) + 1)))], heap := [(6, .arr 30 Kd.rcd (q.base ++ lateAt q.l q.cs q.2 x.1 ++ [{thread := (q.l.getD (0 + q.2) (V.enc Kd.rcd).dflt).thread, op := (q.l.getD (0 + q.2) (V.enc Kd.rcd).dflt).op, what := 3, act := (q.l.getD (0 + q.2) (V.enc Kd.rcd).dflt).act, key := (q.l.getD (0 + q.2) (V.enc Kd.rcd).dflt).key, value := (q.l.getD (0 + q.2) (V.enc Kd.rcd).dflt).value, hit := (q.l.getD (0 + q.2) (V.enc Kd.rcd).dflt).hit, err := 0 : Rec }]) y), (5, .cells 30 [.int .i64 (q.l.getD (0 + q.2) (V.enc Kd.rcd).dflt).thread, .int .i64 (q.l.getD (0 + q.2) (V.enc Kd.rcd).dflt).op, .lit .i64 3, .int .i64 (q.l.getD (0 + q.2) (V.enc Kd.rcd).dflt).act, .int .i64 (q.l.getD (0 + q.2) (V.enc Kd.rcd).dflt).key, .int .i64 (q.l.getD (0 + q.2) (V.enc Kd.rcd).dflt).value, .bool (q.l.getD (0 + q.2) (V.enc Kd.rcd).dflt).hit, .lit .i64 0]), (2, .arr 30 Kd.rcd q.out q.5), (1, .arr 35 Kd.cal q.cs q.toPG.3), (0, .ro Kd.rcd q.l)], nx := 7, nt := 96, tl := [4, 0, 1, 2, 3, 4, 5, 6, 7, 8, 9, 10, 11, 12, 13, 14, 15, 16] : St V })))))))) (Out.stop EX.nx {env := [(0, .sl false 0 0 8 q.l.length q.toPL.2), (4, .sl false 1 0 5 q.cs.length (q.cs.length + q.toPG.3)), (5, .sl false 2 0 8 q.out.length (q.out.length + q.5)), (6, .sl false 4 0 8 (q.base ++ lateAt q.l q.cs q.2 x.1).length ((q.base ++ lateAt q.l q.cs q.2 x.1).length + x.2)), (7, .int .i64 (↑q.2 : Int)), (8, .bool (keepAt q.cs q.2 x.1)), (9, .int .i64 (IntKind.i64.wrap ((↑x.1 : Int) + 1)))], heap := [(4, .arr 30 Kd.rcd (q.base ++ lateAt q.l q.cs q.2 x.1) x.2), (2, .arr 30 Kd.rcd q.out q.5), (1, .arr 35 Kd.cal q.cs q.toPG.3), (0, .ro Kd.rcd q.l)], nx := 5, nt := 96, tl := [0, 1, 2, 3, 4, 5, 6, 7, 8, 9, 10, 11, 12, 13, 14, 15, 16] : St V })))) (Out.stop EX.nx {env := [(0, .sl false 0 0 8 q.l.length q.toPL.2), (4, .sl false 1 0 5 q.cs.length (q.cs.length + q.toPG.3)), (5, .sl false 2 0 8 q.out.length (q.out.length + q.5)), (6, .sl false 4 0 8 (q.base ++ lateAt q.l q.cs q.2 x.1).length ((q.base ++ lateAt q.l q.cs q.2 x.1).length + x.2)), (7, .int .i64 (↑q.2 : Int)), (8, .bool (keepAt q.cs q.2 x.1)), (9, .int .i64 (IntKind.i64.wrap ((↑x.1 : Int) + 1)))], heap := [(4, .arr 30 Kd.rcd (q.base ++ lateAt q.l q.cs q.2 x.1) x.2), (2, .arr 30 Kd.rcd q.out q.5), (1, .arr 35 Kd.cal q.cs q.toPG.3), (0, .ro Kd.rcd q.l)], nx := 5, nt := 96, tl := [0, 1, 2, 3, 4, 5, 6, 7, 8, 9, 10, 11, 12, 13, 14, 15, 16] : St V }))))))) (Out.stop (EX.ex 2) {env := [(0, .sl false 0 0 8 q.l.length q.toPL.2), (4, .sl false 1 0 5 q.cs.length (q.cs.length + q.toPG.3)), (5, .sl false 2 0 8 q.out.length (q.out.length + q.5)), (6, .sl false 4 0 8 (q.base ++ lateAt q.l q.cs q.2 x.1).length ((q.base ++ lateAt q.l q.cs q.2 x.1).length + x.2)), (7, .int .i64 (↑q.2 : Int)), (8, .bool (keepAt q.cs q.2 x.1)), (9, .int .i64 (↑x.1 : Int))], heap := [(4, .arr 30 Kd.rcd (q.base ++ lateAt q.l q.cs q.2 x.1) x.2), (2, .arr 30 Kd.rcd q.out q.5), (1, .arr 35 Kd.cal q.cs q.toPG.3), (0, .ro Kd.rcd q.l)], nx := 5, nt := 96, tl := [0, 1, 2, 3, 4, 5, 6, 7, 8, 9, 10, 11, 12, 13, 14, 15, 16] : St V }) := by kernel_rfl

theorem b140 (p : PG) (x : Nat × Nat × Nat) : runCode cfg142 60 14 (loopOf Try.f14 0) (I140 p x) (stopT (trimSt [0, 4, 5, 6, 7] [0, 1, 2, 3, 4, 5, 6, 7, 8, 9, 10])) = Out.ite (decide ((↑x.1 : Int) < (↑p.l.length : Int))) (Out.need (LoopFor Try.prog 14 2 (loopOf Try.f14 2) L142) (Out.ex (PGI → Prop) fun y => Out.need (4 ≤ 4 ∧ SImp 4 {env := [(0, .sl false 0 0 8 p.l.length p.toPL.2), (4, .sl false 1 0 5 p.cs.length (p.cs.length + p.3)), (5, .sl false 2 0 8 (keptTo p.l p.cs x.1).length ((keptTo p.l p.cs x.1).length + x.snd.1)), (6, .sl false 3 0 8 (moreTo p.l p.cs x.1).length ((moreTo p.l p.cs x.1).length + x.snd.2)), (7, .int .i64 (↑x.1 : Int)), (8, .tt), (9, .lit .i64 0)], heap := [(2, .arr 30 Kd.rcd (keptTo p.l p.cs x.1) x.snd.1), (3, .arr 30 Kd.rcd (moreTo p.l p.cs x.1) x.snd.2), (1, .arr 35 Kd.cal p.cs p.3), (0, .ro Kd.rcd p.l)], nx := 4, nt := 96, tl := [0, 1, 2, 3, 4, 5, 6, 7, 8, 9, 10, 11, 12, 13, 14, 15, 16] : St V } (fun q => I142 q (0, q.7)) y) (Out.all PGI fun y_1 => Out.asm (y y_1) (Out.all Nat fun y => Out.asm ((fun x x_1 => True) y_1 y) (Out.ite (keepAt y_1.cs y_1.2 (y_1.cs.length, y).fst) (Out.need (0 ≤ (↑y_1.2 : Int) ∧ (↑y_1.2 : Int) < (↑y_1.l.length : Int)) (Out.need (0 + y_1.2 < y_1.l.length) (Out.need (0 = 0 ∧ y_1.out.length = y_1.out.length ∧ y_1.out.length + y_1.5 = y_1.out.length + y_1.5 ∧ (y_1.out.length + 1) * 64 ≤ 140737488355328) (Out.all Nat fun y_2 => Out.stop EX.nx {env := [(0, .sl false 0 0 8 y_1.l.length y_1.toPL.2), (4, .sl false 1 0 5 y_1.cs.length (y_1.cs.length + y_1.toPG.3)), (5, .sl false 6 0 8 (y_1.out.length + 1) (y_1.out.length + 1 + y_2)), (6, .sl false 4 0 8 (y_1.base ++ lateAt y_1.l y_1.cs y_1.2 (y_1.cs.length, y).fst).length ((y_1.base ++ lateAt y_1.l y_1.cs y_1.2 (y_1.cs.length, y).fst).length + y)), (7, .int .i64 (IntKind.i64.wrap ((↑y_1.2 : Int) + 1)))], heap := [(6, .arr 30 Kd.rcd (y_1.out ++ [{thread := (y_1.l.getD (0 + y_1.2) (V.enc Kd.rcd).dflt).thread, op := (y_1.l.getD (0 + y_1.2) (V.enc Kd.rcd).dflt).op, what := (y_1.l.getD (0 + y_1.2) (V.enc Kd.rcd).dflt).what, act := (y_1.l.getD (0 + y_1.2) (V.enc Kd.rcd).dflt).act, key := (y_1.l.getD (0 + y_1.2) (V.enc Kd.rcd).dflt).key, value := (y_1.l.getD (0 + y_1.2) (V.enc Kd.rcd).dflt).value, hit := (y_1.l.getD (0 + y_1.2) (V.enc Kd.rcd).dflt).hit, err := (y_1.l.getD (0 + y_1.2) (V.enc Kd.rcd).dflt).err : Rec }]) y_2), (5, .cells 30 [.int .i64 (y_1.l.getD (0 + y_1.2) (V.enc Kd.rcd).dflt).thread, .int .i64 (y_1.l.getD (0 + y_1.2) (V.enc Kd.rcd).dflt).op, .int .i64 (y_1.l.getD (0 + y_1.2) (V.enc Kd.rcd).dflt).what, .int .i64 (y_1.l.getD (0 + y_1.2) (V.enc Kd.rcd).dflt).act, .int .i64 (y_1.l.getD (0 + y_1.2) (V.enc Kd.rcd).dflt).key, .int .i64 (y_1.l.getD (0 + y_1.2) (V.enc Kd.rcd).dflt).value, .bool (y_1.l.getD (0 + y_1.2) (V.enc Kd.rcd).dflt).hit, .int .i64 (y_1.l.getD (0 + y_1.2) (V.enc Kd.rcd).dflt).err]), (4, .arr 30 Kd.rcd (y_1.base ++ lateAt y_1.l y_1.cs y_1.2 (y_1.cs.length, y).fst) y), (1, .arr 35 Kd.cal y_1.cs y_1.toPG.3), (0, .ro Kd.rcd y_1.l)], nx := 7, nt := 96, tl := [2, 0, 1, 2, 3, 4, 5, 6, 7, 8, 9, 10, 11, 12, 13, 14, 15, 16] : St V })))) (Out.stop EX.nx {env := [(0, .sl false 0 0 8 y_1.l.length y_1.toPL.2), (4, .sl false 1 0 5 y_1.cs.length (y_1.cs.length + y_1.toPG.3)), (5, .sl false 2 0 8 y_1.out.length (y_1.out.length + y_1.5)), (6, .sl false 4 0 8 (y_1.base ++ lateAt y_1.l y_1.cs y_1.2 (y_1.cs.length, y).fst).length ((y_1.base ++ lateAt y_1.l y_1.cs y_1.2 (y_1.cs.length, y).fst).length + y)), (7, .int .i64 (IntKind.i64.wrap ((↑y_1.2 : Int) + 1)))], heap := [(4, .arr 30 Kd.rcd (y_1.base ++ lateAt y_1.l y_1.cs y_1.2 (y_1.cs.length, y).fst) y), (2, .arr 30 Kd.rcd y_1.out y_1.5), (1, .arr 35 Kd.cal y_1.cs y_1.toPG.3), (0, .ro Kd.rcd y_1.l)], nx := 5, nt := 96, tl := [0, 1, 2, 3, 4, 5, 6, 7, 8, 9, 10, 11, 12, 13, 14, 15, 16] : St V })))))) (Out.stop (EX.ex 0) {env := [(0, .sl false 0 0 8 p.l.length p.toPL.2), (4, .sl false 1 0 5 p.cs.length (p.cs.length + p.3)), (5, .sl false 2 0 8 (keptTo p.l p.cs x.1).length ((keptTo p.l p.cs x.1).length + x.snd.1)), (6, .sl false 3 0 8 (moreTo p.l p.cs x.1).length ((moreTo p.l p.cs x.1).length + x.snd.2)), (7, .int .i64 (↑x.1 : Int))], heap := [(2, .arr 30 Kd.rcd (keptTo p.l p.cs x.1) x.snd.1), (3, .arr 30 Kd.rcd (moreTo p.l p.cs x.1) x.snd.2), (1, .arr 35 Kd.cal p.cs p.3), (0, .ro Kd.rcd p.l)], nx := 4, nt := 96, tl := [0, 1, 2, 3, 4, 5, 6, 7, 8, 9, 10, 11, 12, 13, 14, 15, 16] : St V }) := by kernel_rfl

theorem t18 (a b : Cal) : runF cfgS 60 18 Try.f18 [.agg (Cal.lay.enc a), .agg (Cal.lay.enc b)] [] 2 = Out.ite (decide (a.to_ ≥ 0)) (Out.fin (.bool (decide (a.to_ < b.frm))) [(3, .cells 35 [.int .i64 b.thread, .int .i64 b.op, .int .i64 b.frm, .int .i64 b.at_, .int .i64 b.to_]), (2, .cells 35 [.int .i64 a.thread, .int .i64 a.op, .int .i64 a.frm, .int .i64 a.at_, .int .i64 a.to_])] 4) (Out.fin .ff [(3, .cells 35 [.int .i64 b.thread, .int .i64 b.op, .int .i64 b.frm, .int .i64 b.at_, .int .i64 b.to_]), (2, .cells 35 [.int .i64 a.thread, .int .i64 a.op, .int .i64 a.frm, .int .i64 a.at_, .int .i64 a.to_])] 4) := by kernel_rfl

theorem t24 (l : List Rec) (c : Nat) : runF cfg140 60 24 Try.f24 [.sl false 0 0 8 l.length c] [(0, .ro Kd.rcd l)] 1 = Out.need (0 + l.length ≤ l.length) (Out.need ((List.take l.length (List.drop 0 l)).length ≤ 1099511627776) (Out.need (LoopFor Try.prog 24 0 (loopOf Try.f24 0) L240) (Out.ex (PB → Prop) fun y => Out.need (1 ≤ 1 ∧ SImp 1 {env := [(0, .sl false 0 0 8 l.length c), (3, .bool (hRight (List.take l.length (List.drop 0 l)))), (4, .nilS), (5, .lit .i64 0)], heap := [(0, .ro Kd.rcd l)], nx := 1, nt := 32, tl := [] : St V } (fun p => I240 p (0, 0)) y) (Out.all PB fun y_1 => Out.asm (y y_1) (Out.all Nat fun y => Out.asm ((fun x x_1 => True) y_1 y) (Out.fin (.sl false 1 0 4 (outC y_1).length ((outC y_1).length + y)) [(1, .arr 27 Kd.com (outC y_1) y), (0, .ro Kd.rcd y_1.l)] 2)))))) := by kernel_rfl

theorem t26 (l : List Rec) (c : Nat) : runF cfg140 60 26 Try.f26 [.sl false 0 0 8 l.length c] [(0, .ro Kd.rcd l)] 1 = Out.need (0 + l.length ≤ l.length) (Out.need ((List.take l.length (List.drop 0 l)).length ≤ 1099511627776 ∧ ∀ (r : V.El Kd.rcd), r ∈ List.take l.length (List.drop 0 l) → r.op < 9223372036854775808) (Out.all Nat fun y => Out.need (LoopFor Try.prog 26 0 (loopOf Try.f26 0) L260) (Out.ex (PC → Prop) fun y_1 => Out.need (2 ≤ 2 ∧ SImp 2 {env := [(3, .sl false 1 0 5 (hCallsOf (List.take l.length (List.drop 0 l))).length ((hCallsOf (List.take l.length (List.drop 0 l))).length + y)), (4, .lit .i64 0), (5, .lit .i64 0)], heap := [(1, .arr 35 Kd.cal (hCallsOf (List.take l.length (List.drop 0 l))) y)], nx := 2, nt := 23, tl := [0] : St V } (fun p => I260 p 0) y_1) (Out.all PC fun y => Out.asm (y_1 y) (Out.all Unit fun y_2 => Out.asm ((fun x x_1 => True) y y_2) (Out.fin (.int .i64 (↑(openTo y.cs y.cs.length) : Int)) [(1, .arr 35 Kd.cal y.cs y.4)] 2)))))) := by kernel_rfl

theorem t14 (l : List Rec) (c : Nat) : runF cfg140 60 14 Try.f14 [.sl false 0 0 8 l.length c] [(0, .ro Kd.rcd l)] 1 = Out.need (0 + l.length ≤ l.length) (Out.need ((List.take l.length (List.drop 0 l)).length ≤ 1099511627776) (Out.ite (!hRight (List.take l.length (List.drop 0 l))) (Out.fin .nilS [(0, .ro Kd.rcd l)] 1) (Out.need (0 + l.length ≤ l.length) (Out.need ((List.take l.length (List.drop 0 l)).length ≤ 1099511627776 ∧ ∀ (r : V.El Kd.rcd), r ∈ List.take l.length (List.drop 0 l) → r.op < 9223372036854775808) (Out.all Nat fun y => Out.need (LoopFor Try.prog 14 0 (loopOf Try.f14 0) L140) (Out.ex (PG → Prop) fun y_1 => Out.need (2 ≤ 2 ∧ SImp 2 {env := [(0, .sl false 0 0 8 l.length c), (4, .sl false 1 0 5 (hCallsOf (List.take l.length (List.drop 0 l))).length ((hCallsOf (List.take l.length (List.drop 0 l))).length + y)), (5, .nilS), (6, .nilS), (7, .lit .i64 0)], heap := [(1, .arr 35 Kd.cal (hCallsOf (List.take l.length (List.drop 0 l))) y), (0, .ro Kd.rcd l)], nx := 2, nt := 96, tl := [] : St V } (fun p => I140 p (0, 0, 0)) y_1) (Out.all PG fun y => Out.asm (y_1 y) (Out.all (Nat × Nat) fun y_2 => Out.asm ((fun x x_1 => True) y y_2) (Out.need (0 + (moreTo y.l y.cs (y.l.length, y_2).fst).length ≤ (moreTo y.l y.cs (y.l.length, y_2).fst).length) (Out.need (0 = 0 ∧ (keptTo y.l y.cs (y.l.length, y_2).fst).length = (keptTo y.l y.cs (y.l.length, y_2).fst).length ∧ (keptTo y.l y.cs (y.l.length, y_2).fst).length + (y.l.length, y_2).snd.fst = (keptTo y.l y.cs (y.l.length, y_2).fst).length + (y.l.length, y_2).snd.fst ∧ ((keptTo y.l y.cs (y.l.length, y_2).fst).length + (List.take (moreTo y.l y.cs (y.l.length, y_2).fst).length (List.drop 0 (moreTo y.l y.cs (y.l.length, y_2).fst))).length) * 64 ≤ 140737488355328) (Out.all Nat fun y_3 => Out.fin (.sl false 4 0 8 ((keptTo y.l y.cs (y.l.length, y_2).fst).length + (List.take (moreTo y.l y.cs (y.l.length, y_2).fst).length (List.drop 0 (moreTo y.l y.cs (y.l.length, y_2).fst))).length) ((keptTo y.l y.cs (y.l.length, y_2).fst).length + (List.take (moreTo y.l y.cs (y.l.length, y_2).fst).length (List.drop 0 (moreTo y.l y.cs (y.l.length, y_2).fst))).length + y_3)) [(4, .arr 30 Kd.rcd (keptTo y.l y.cs (y.l.length, y_2).fst ++ List.take (moreTo y.l y.cs (y.l.length, y_2).fst).length (List.drop 0 (moreTo y.l y.cs (y.l.length, y_2).fst))) y_3), (3, .arr 30 Kd.rcd (moreTo y.l y.cs (y.l.length, y_2).fst) (y.l.length, y_2).snd.snd), (1, .arr 35 Kd.cal y.cs y.3), (0, .ro Kd.rcd y.l)] 5))))))))))) := by kernel_rfl

end Sx
end Go.Proofs.Ytemcdjdglcceiaa

/-
  The document's answer of what is left and completed, as plain data: the same as what is read.
-/
namespace Go.Proofs.Ytemcdjdglcceiaa
namespace Sx
open Go
set_option linter.unusedSimpArgs false
set_option linter.unusedVariables false

theorem filter_le_one {α : Type} {p : α → Bool} : ∀ {l : List α}, (∀ (j k : Nat) (a b : α), j < k → l[j]? = some a → l[k]? = some b → p a = true → p b = true → False) → (l.filter p).length ≤ 1
  | [], _ => Nat.zero_le _
  | x :: l, h => by
    cases e : p x with
    | true =>
      have : l.filter p = [] := by
        apply List.filter_eq_nil_iff.2
        intro b hb hp
        obtain ⟨k, hk⟩ := List.getElem?_of_mem hb
        exact h 0 (k + 1) x b (by omega) rfl hk e hp
      rw [List.filter_cons_of_pos e, this]
      exact Nat.le_refl _
    | false =>
      rw [List.filter_cons_of_neg (by rw [e]; decide)]
      exact filter_le_one fun j k a b hjk ha hb => h (j + 1) (k + 1) a b (by omega) ha hb

/-- What holds of the calls of a row that is read. -/
structure Plain1 (l : List Rec) (cs : List Cal) : Prop where
  len : cs.length ≤ l.length
  hu : ∀ i, (cs.filter (isLate i)).length ≤ 1
  sgn : ∀ c ∈ cs, (c.at_ = -1 ∨ 0 ≤ c.at_) ∧ (c.to_ = -1 ∨ 0 ≤ c.to_)
  late : ∀ c ∈ cs, ∀ i : Nat, c.at_ = i → c.to_ = -1 → (l.getD i r0).err = 0
theorem plain_calls {l : List Rec} (hl : ∀ r ∈ l, r.op < 9223372036854775808) : Plain1 l (hCallsOf l) := by
  cases hs : readTo l l.length with
  | none =>
    rw [(right_none hs).2]
    exact ⟨Nat.zero_le _, fun i => Nat.zero_le _, fun c h => (by cases h), fun c h => (by cases h)⟩
  | some s =>
    rw [(right_some hs).2]
    have hb := get_bound hl
    have I := readTo_inv hb hs
    refine ⟨I.len, fun i => filter_le_one fun j k a b hjk ha hbk pa pb => ?_, fun c hc => ?_, fun c hc i h1 h2 => ?_⟩
    · simp only [isLate, decide_eq_true_eq] at pa pb
      have a1 := I.at_ j a ha
      have b1 := I.at_ k b hbk
      rcases a1 with a1 | ⟨_, _, _, a2, _⟩
      · omega
      rcases b1 with b1 | ⟨_, _, _, b2, _⟩
      · omega
      rw [pa.1] at a2
      rw [pb.1] at b2
      have t := I.to_ j a ha
      have w := (I.two j k a b hjk ha hbk (by rw [← a2, ← b2])).1
      omega
    · obtain ⟨j, hj⟩ := List.getElem?_of_mem hc
      have a1 := I.at_ j c hj
      have a2 := I.to_ j c hj
      have a3 := I.frm j c hj
      omega
    · obtain ⟨j, hj⟩ := List.getElem?_of_mem hc
      exact (late_at hb hs hj h1 h2).2.2.1

theorem open_left {cs : List Cal} (h : ∀ c ∈ cs, (c.at_ = -1 ∨ 0 ≤ c.at_) ∧ (c.to_ = -1 ∨ 0 ≤ c.to_)) : openTo cs cs.length = hLeftOf cs := by
  unfold openTo hLeftOf
  rw [List.take_length]
  congr 1
  apply List.filter_congr
  intro c hc
  have := h c hc
  by_cases e : c.to_ = -1
  · simp [e]
  · have e2 : ¬ c.to_ < 0 := by omega
    simp [e, e2]
theorem keep_drop {cs : List Cal} (h : ∀ c ∈ cs, (c.at_ = -1 ∨ 0 ≤ c.at_) ∧ (c.to_ = -1 ∨ 0 ≤ c.to_)) (i : Nat) : keepAt cs i cs.length = !hDrop cs i := by
  unfold keepAt hDrop
  rw [List.take_length]
  congr 1
  rw [Bool.eq_iff_iff, List.any_eq_true, List.any_eq_true]
  constructor
  · rintro ⟨c, hc, hp⟩
    have := h c hc
    simp only [isGone, decide_eq_true_eq] at hp
    exact ⟨c, hc, decide_eq_true (by omega)⟩
  · rintro ⟨c, hc, hp⟩
    have := h c hc
    simp only [decide_eq_true_eq] at hp
    exact ⟨c, hc, decide_eq_true (by omega)⟩
theorem kept_out {l : List Rec} {cs : List Cal} (h : ∀ c ∈ cs, (c.at_ = -1 ∨ 0 ≤ c.at_) ∧ (c.to_ = -1 ∨ 0 ≤ c.to_)) : ∀ n, keptTo l cs n = hOut l cs n
  | 0 => rfl
  | n + 1 => by
    rw [hOut_succ, ← kept_out h n]
    show keptTo l cs n ++ (if keepAt cs n cs.length = true then [l.getD n r0] else []) = _
    rw [keep_drop h n]
    cases hDrop cs n <;> rfl
theorem late_one {l : List Rec} {cs : List Cal} (P : Plain1 l cs) (i : Nat) : lateAt l cs i cs.length = if hLate cs i then [{ l.getD i r0 with what := 3 }] else [] := by
  have hu := P.hu i
  unfold lateAt
  rw [List.take_length]
  cases e : hLate cs i with
  | true =>
    obtain ⟨j, c, h1, h2, h3⟩ := (hLate_iff cs i).1 e
    have hc : c ∈ cs := List.mem_of_getElem? h1
    have hm : c ∈ cs.filter (isLate i) := List.mem_filter.2 ⟨hc, decide_eq_true ⟨h2, by omega⟩⟩
    have he := P.late c hc i h2 h3
    have : lateRec l i = { l.getD i r0 with what := 3 } := by
      unfold lateRec
      generalize l.getD i r0 = r at *
      cases r
      simp only at he
      subst he; rfl
    rw [if_pos rfl, ← this]
    match hf : cs.filter (isLate i), hu, hm with
    | [x], _, _ => rfl
  | false =>
    have : cs.filter (isLate i) = [] := by
      apply List.filter_eq_nil_iff.2
      intro c hc hp
      simp only [isLate, decide_eq_true_eq] at hp
      obtain ⟨j, hj⟩ := List.getElem?_of_mem hc
      have := P.sgn c hc
      have := (hLate_iff cs i).2 ⟨j, c, hj, hp.1, by omega⟩
      rw [e] at this; cases this
    rw [this]; rfl
theorem more_out {l : List Rec} {cs : List Cal} (P : Plain1 l cs) : ∀ n, moreTo l cs n = hMore l cs n
  | 0 => rfl
  | n + 1 => by
    rw [hMore_succ, ← more_out P n]
    show moreTo l cs n ++ lateAt l cs n cs.length = _
    rw [late_one P n]

theorem moreTo_len {l : List Rec} {cs : List Cal} (hu : ∀ i, (cs.filter (isLate i)).length ≤ 1) : ∀ n, (moreTo l cs n).length ≤ n
  | 0 => Nat.le_refl _
  | n + 1 => by
    have ih := moreTo_len (l := l) hu n
    have h1 := hu n
    unfold moreTo lateAt
    rw [List.take_length, List.length_append, List.length_map]
    omega
theorem keptTo_len (l : List Rec) (cs : List Cal) : ∀ n, (keptTo l cs n).length ≤ n
  | 0 => Nat.le_refl _
  | n + 1 => by
    have ih := keptTo_len l cs n
    unfold keptTo
    rw [List.length_append]
    split
    · show _ + 1 ≤ _; omega
    · show _ + 0 ≤ _; omega
theorem lateAt_len {l : List Rec} {cs : List Cal} (hu : ∀ i, (cs.filter (isLate i)).length ≤ 1) (i k : Nat) : (lateAt l cs i k).length ≤ 1 := by
  unfold lateAt
  rw [List.length_map]
  exact Nat.le_trans ((List.Sublist.filter _ (List.take_sublist k cs)).length_le) (hu i)
theorem late_succ {cs : List Cal} {k : Nat} (l : List Rec) (i : Nat) (h : k < cs.length) : lateAt l cs i (k + 1) = lateAt l cs i k ++ if (cs.getD k c0).at_ = i ∧ (cs.getD k c0).to_ < 0 then [lateRec l i] else [] := by
  unfold lateAt
  rw [List.take_succ_eq_append_getElem h, List.filter_append, List.map_append, getD_el c0 h]
  congr 1
  by_cases e : (cs[k]).at_ = i ∧ (cs[k]).to_ < 0
  · rw [if_pos e, List.filter_cons_of_pos (by exact decide_eq_true e)]; rfl
  · rw [if_neg e, List.filter_cons_of_neg (by simpa [isLate] using e)]; rfl
theorem keep_succ {cs : List Cal} {k : Nat} (i : Nat) (h : k < cs.length) : keepAt cs i (k + 1) = (keepAt cs i k && !decide ((cs.getD k c0).frm = i ∧ (cs.getD k c0).at_ < 0 ∧ (cs.getD k c0).to_ < 0)) := by
  unfold keepAt
  rw [List.take_succ_eq_append_getElem h, List.any_append, getD_el c0 h]
  simp [isGone]
theorem openTo_succ {cs : List Cal} {i : Nat} (h : i < cs.length) : openTo cs (i + 1) = openTo cs i + if (cs.getD i c0).to_ < 0 then 1 else 0 := by
  unfold openTo
  rw [List.take_succ_eq_append_getElem h, List.filter_append, List.length_append, getD_el c0 h]
  congr 1
  by_cases e : (cs[i]).to_ < 0 <;> simp [e]
theorem openTo_le (cs : List Cal) (i : Nat) : openTo cs i ≤ cs.length := by
  unfold openTo
  exact Nat.le_trans (List.length_filter_le _ _) (by rw [List.length_take]; omega)

end Sx
end Go.Proofs.Ytemcdjdglcceiaa

/-
  The document's answer of commits, of what is left, and of what is completed: as what is read.
-/
namespace Go.Proofs.Ytemcdjdglcceiaa
namespace Sx
open Go
set_option linter.unusedSimpArgs false
set_option linter.unusedVariables false

theorem hooksS_ok : ∀ g H, hooksS g = some H → HookOk Try.prog g H := by
  intro g H h
  unfold hooksS at h
  split at h
  · cases h; exact hCallsRef
  · unfold hooksR at h
    split at h
    · cases h; exact hRightRef
    · exact hooksI_ok _ _ h
theorem cfgS_ok : cfgS.ok := ⟨tab_met, kinds_met, mixed_met, fun g fn h => (by cases h), hooksS_ok⟩
theorem cfg142_ok : cfg142.ok := ⟨tab_met, kinds_met, mixed_met, fun g fn h => (by cases h), hooksS_ok⟩
theorem cfg140_ok : cfg140.ok := ⟨tab_met, kinds_met, mixed_met, fun g fn h => (by cases h), hooksS_ok⟩

/-! ## Commits -/
theorem body240 (p : PB) (x : Nat × Nat) (hi : x.1 ≤ p.l.length) (Q : EX → St V → Prop) (F : AV → Heap V → Nat → Prop)
    (hnx : ∀ (ST : St V) (sp b : Nat), x.1 < p.l.length → p.ok = true → Wk 1 [(1, b)] ST (I240 p (x.1 + 1, sp)) → Q .nx ST)
    (he : (p.ok = false ∨ x.1 = p.l.length) → outC p = takesTo p.l x.1) (hex : ∀ ST : St V, Wk 1 [(1, 1)] ST (E240 p x.2) → Q (.ex 0) ST) :
    (runCode cfgS 60 24 (loopOf Try.f24 0) (I240 p x) (stopT (trimSt [0, 3, 4, 5] [0, 1, 2, 3, 4, 5, 6]))).holds ⟨Q, F⟩ := by
  rw [b240]
  have hb := p.hb
  have hle := takesTo_le p.l x.1
  have hw : x.1 < p.l.length → IntKind.wrap .i64 ((x.1 : Int) + 1) = ((x.1 + 1 : Nat) : Int) := fun h => wrap_nat (by omega)
  have hs : x.1 < p.l.length → takesTo p.l (x.1 + 1) = takesTo p.l x.1 ++ if (p.l.getD x.1 (V.enc Kd.rcd).dflt).what = 2 then [(p.l.getD x.1 (V.enc Kd.rcd).dflt).com] else [] := takesTo_succ
  have blk : ∀ {a b : List Com} {s : Nat}, a = b → BSub (some (.arr 27 Kd.com a s : Blk V)) (.arr 27 Kd.com b s) := fun h => by rw [h]; exact .same _
  simp only [Out.holds, Nat.zero_add, decide_eq_true_eq, decide_eq_false_iff_not, beq_iff_eq, beq_eq_false_iff_ne]
  by_cases hlt : x.1 < p.l.length
  · refine ⟨fun h => ⟨fun hok => ⟨by omega, by omega, fun h2 => ⟨by omega, by omega, ⟨trivial, trivial, trivial, by omega⟩, fun y => hnx _ y 3 hlt hok ?_⟩, fun h2 => hnx _ x.2 1 hlt hok ?_⟩, fun hok => hex _ ?_⟩, fun h => absurd hlt (by omega)⟩
    · have e := hs hlt
      rw [if_pos h2] at e
      have el : (takesTo p.l x.1).length + 1 = (takesTo p.l (x.1 + 1)).length := by rw [e]; simp
      exact ⟨⟨AV.sub_same _, AV.sub_same _, AV.sub_sl el (by rw [el]), AV.sub_int (hw hlt), trivial⟩, ⟨blk e.symm, .same _, trivial⟩, rfl, tl_ok rfl, ⟨.inl (in_ok rfl), .inl (in_ok rfl), .inr rfl, trivial⟩, ⟨Nat.le_of_ble_eq_true rfl, rfl⟩⟩
    · have e := hs hlt
      rw [if_neg h2, List.append_nil] at e
      exact ⟨⟨AV.sub_same _, AV.sub_same _, AV.sub_sl (by rw [e]) (by rw [e]), AV.sub_int (hw hlt), trivial⟩, ⟨blk e.symm, .same _, trivial⟩, rfl, tl_ok rfl, ⟨.inl (in_ok rfl), .inr rfl, trivial⟩, ⟨Nat.le_of_ble_eq_true rfl, rfl⟩⟩
    · have E := he (.inl hok)
      exact ⟨⟨AV.sub_sl (by rw [E]) (by rw [E]), trivial⟩, ⟨blk E.symm, .same _, trivial⟩, rfl, tl_ok rfl, ⟨.inl (in_ok rfl), .inr rfl, trivial⟩, ⟨Nat.le_of_ble_eq_true rfl, rfl⟩⟩
  · refine ⟨fun h => absurd h (by omega), fun h => hex _ ?_⟩
    have E := he (.inr (by omega))
    exact ⟨⟨AV.sub_sl (by rw [E]) (by rw [E]), trivial⟩, ⟨blk E.symm, .same _, trivial⟩, rfl, tl_ok rfl, ⟨.inl (in_ok rfl), .inr rfl, trivial⟩, ⟨Nat.le_of_ble_eq_true rfl, rfl⟩⟩
theorem l240_ok : LoopOk Try.prog 0 (loopOf Try.f24 0) L240 := by
  refine trimLoop_ok (trim_ok _ _) (loopTH_ok (C := cfgS) cfgS_ok (f := 24) (n := 60) (trim_ok [0, 3, 4, 5] [0, 1, 2, 3, 4, 5, 6]) 1 I240 (fun p x => x.1 ≤ p.l.length ∧ (p.ok = true ∨ x.1 = 0)) (fun _ => (0, 0)) (fun p x => p.l.length - x.1) (fun _ (_ : Nat) => True) (fun p sp => E240 p sp) (fun p => ⟨Nat.zero_le _, .inr rfl⟩) ?_)
  intro p x ⟨hi, hok⟩
  refine body240 p x hi _ _ (fun ST sp b hlt h hw => SImp.of_wk (x.1 + 1, sp) hw ⟨⟨hlt, .inl h⟩, ?_⟩) (fun he => ?_) (fun ST hw => ⟨rfl, SImp.of_wk (ren := [(1, 1)]) x.2 hw trivial⟩)
  · show p.l.length - (x.1 + 1) < p.l.length - x.1; omega
  · unfold outC
    rcases he with h | h
    · rcases hok with h2 | h2
      · rw [h] at h2; cases h2
      · rw [h, h2]; rfl
    · rcases hok with h2 | h2
      · rw [h2, h]; rfl
      · rw [← h, h2]; cases p.ok <;> rfl
theorem hCommitsRef : HookOk Try.prog 24 (hookFree [.rows Kd.rcd] runCommits) := by
  refine free_hook (C := cfg140) cfg140_ok (n := 60) (fn := Try.f24) ⟨by kernel_rfl, by kernel_rfl⟩ (by kernel_rfl) ?_
  intro M ar K0 H
  unfold runCommits at H
  split at H
  · rename_i l c
    obtain ⟨hb, H⟩ := H
    refine ⟨show 1 ≤ _ by decide +kernel, ?_⟩
    show (runF cfg140 60 24 Try.f24 [.sl false 0 0 8 l.length c] [(0, .ro Kd.rcd l)] 1).holds _
    rw [t24]
    rw [show List.take l.length (List.drop 0 l) = l from List.take_length ..]
    refine ⟨by omega, hb, l240_ok, fun p => p = ⟨⟨l, c, hb⟩, hRight l⟩, ⟨Nat.le_refl _, SImp.of_wk (ren := [(1, 99)]) ⟨⟨l, c, hb⟩, hRight l⟩ ?_ rfl⟩, ?_⟩
    · exact ⟨⟨AV.sub_same _, AV.sub_same _, AV.sub_nilS, AV.sub_lit', trivial⟩, ⟨.none _ _, .same _, trivial⟩, rfl, tl_ok rfl, ⟨.inr rfl, trivial⟩, ⟨Nat.le_of_ble_eq_true rfl, rfl⟩⟩
    · rintro _ rfl sp _
      have e : outC ⟨⟨l, c, hb⟩, hRight l⟩ = hCommits l := by
        unfold outC hCommits takesTo
        show (if hRight l = true then ((l.take l.length).filter _).map _ else []) = _
        rw [List.take_length]
      dsimp only
      rw [e]
      exact ⟨_, _, H sp, _, HImp.refl _ _, ⟨⟨fun _ => 1, ⟨.same _, trivial⟩, AV.sub_same _⟩, rfl, rfl⟩⟩
  · exact H.elim

/-! ## Left -/
theorem body260 (p : PC) (i : Nat) (hi : i ≤ p.cs.length) (Q : EX → St V → Prop) (F : AV → Heap V → Nat → Prop)
    (hnx : ∀ ST : St V, i < p.cs.length → Wk 2 [] ST (I260 p (i + 1)) → Q .nx ST) (hex : ∀ ST : St V, i = p.cs.length → Wk 2 [] ST (I260 p i) → Q (.ex 0) ST) :
    (runCode cfgS 60 26 (loopOf Try.f26 0) (I260 p i) (stopT (trimSt [3, 4, 5] [1]))).holds ⟨Q, F⟩ := by
  rw [b260]
  have hb := p.hb
  have hle := openTo_le p.cs i
  have hw : i < p.cs.length → IntKind.wrap .i64 ((i : Int) + 1) = ((i + 1 : Nat) : Int) := fun h => wrap_nat (by omega)
  have hs : i < p.cs.length → openTo p.cs (i + 1) = openTo p.cs i + if (p.cs.getD i (V.enc Kd.cal).dflt).to_ < 0 then 1 else 0 := openTo_succ
  have hv : IntKind.wrap .i64 ((openTo p.cs i : Int) + 1) = ((openTo p.cs i + 1 : Nat) : Int) := wrap_nat (by omega)
  simp only [Out.holds, Nat.zero_add, decide_eq_true_eq, decide_eq_false_iff_not, beq_iff_eq, beq_eq_false_iff_ne]
  refine ⟨fun h => ⟨by omega, by omega, fun h2 => hnx _ (by omega) ?_, fun h2 => hnx _ (by omega) ?_⟩, fun h => hex _ (by omega) ?_⟩
  · exact ⟨⟨AV.sub_same _, AV.sub_int (by rw [hv, hs (by omega), if_pos h2]), AV.sub_int (hw (by omega)), trivial⟩, ⟨.same _, trivial⟩, rfl, tl_ok rfl, ⟨.inr rfl, trivial⟩, ⟨Nat.le_of_ble_eq_true rfl, rfl⟩⟩
  · exact ⟨⟨AV.sub_same _, AV.sub_int (by rw [hs (by omega), if_neg h2]; rfl), AV.sub_int (hw (by omega)), trivial⟩, ⟨.same _, trivial⟩, rfl, tl_ok rfl, ⟨.inr rfl, trivial⟩, ⟨Nat.le_of_ble_eq_true rfl, rfl⟩⟩
  · exact ⟨⟨AV.sub_same _, AV.sub_same _, AV.sub_same _, trivial⟩, ⟨.same _, trivial⟩, rfl, tl_ok rfl, ⟨.inr rfl, trivial⟩, ⟨Nat.le_of_ble_eq_true rfl, rfl⟩⟩
theorem l260_ok : LoopOk Try.prog 0 (loopOf Try.f26 0) L260 := by
  refine trimLoop_ok (trim_ok _ _) (loopTH_ok (C := cfgS) cfgS_ok (f := 26) (n := 60) (trim_ok [3, 4, 5] [1]) 2 I260 (fun p i => i ≤ p.cs.length) (fun _ => 0) (fun p i => p.cs.length - i) (fun _ (_ : Unit) => True) (fun p _ => I260 p p.cs.length) (fun p => Nat.zero_le _) ?_)
  intro p i hi
  exact body260 p i hi _ _ (fun ST hlt hw => SImp.of_wk (i + 1) hw ⟨hlt, by omega⟩) (fun ST he hw => ⟨rfl, SImp.of_wk () (by subst he; exact hw) trivial⟩)
def runLeftR : RunFree V := fun ar K => match ar with
  | [.rows .rcd l c] => .need (l.length ≤ 1099511627776 ∧ ∀ r ∈ l, r.op < 9223372036854775808) (K (.int .i64 (hLeft l : Int)) [])
  | _ => .bad 500
theorem hLeftRef : HookOk Try.prog 26 (hookFree [.rows Kd.rcd] runLeftR) := by
  refine free_hook (C := cfg140) cfg140_ok (n := 60) (fn := Try.f26) ⟨by kernel_rfl, by kernel_rfl⟩ (by kernel_rfl) ?_
  intro M ar K0 H
  unfold runLeftR at H
  split at H
  · rename_i l c
    obtain ⟨⟨hb, hop⟩, H⟩ := H
    refine ⟨show 1 ≤ _ by decide +kernel, ?_⟩
    show (runF cfg140 60 26 Try.f26 [.sl false 0 0 8 l.length c] [(0, .ro Kd.rcd l)] 1).holds _
    rw [t26]
    rw [show List.take l.length (List.drop 0 l) = l from List.take_length ..]
    have hcl := calls_len l
    refine ⟨by omega, ⟨hb, hop⟩, fun sp => ⟨l260_ok, fun p => p = ⟨l, c, hCallsOf l, sp, by omega⟩, ⟨Nat.le_refl _, SImp.of_wk (ren := []) ⟨l, c, hCallsOf l, sp, by omega⟩ ?_ rfl⟩, ?_⟩⟩
    · exact ⟨⟨AV.sub_same _, AV.sub_lit rfl, AV.sub_lit', trivial⟩, ⟨.same _, trivial⟩, rfl, tl_ok rfl, ⟨.inr rfl, trivial⟩, ⟨Nat.le_of_ble_eq_true rfl, rfl⟩⟩
    · rintro _ rfl _ _
      refine ⟨_, _, H, endPlain (AV.sub_int ?_) rfl⟩
      show ((openTo (hCallsOf l) (hCallsOf l).length : Nat) : Int) = _
      rw [open_left (plain_calls hop).sgn]; rfl
  · exact H.elim
theorem hBeforeRef : HookOk Try.prog 18 (hookFree [.el Kd.cal, .el Kd.cal] runBefore) := by
  refine free_hook (C := cfgS) cfgS_ok (n := 60) (fn := Try.f18) ⟨by kernel_rfl, by kernel_rfl⟩ (by kernel_rfl) ?_
  intro M ar K0 H
  unfold runBefore at H
  split at H
  · rename_i a b
    refine ⟨show 2 ≤ _ by decide +kernel, ?_⟩
    show (runF cfgS 60 18 Try.f18 [.agg (Cal.lay.enc a), .agg (Cal.lay.enc b)] [] 2).holds _
    rw [t18]
    refine ⟨fun h => ⟨_, _, H, endPlain (AV.sub_bool ?_) rfl⟩, fun h => ⟨_, _, H, endPlain (AV.sub_ff ?_) rfl⟩⟩
    · unfold hBefore; rw [h, Bool.true_and]
    · unfold hBefore; rw [h, Bool.false_and]
  · exact H.elim

/-! ## Complete -/
theorem body142 (q : PGI) (x : Nat × Nat) (hk : x.1 ≤ q.cs.length) (Q : EX → St V → Prop) (F : AV → Heap V → Nat → Prop)
    (hnx : ∀ (ST : St V) (sp b : Nat), x.1 < q.cs.length → Wk 4 [(4, b)] ST (I142 q (x.1 + 1, sp)) → Q .nx ST) (hex : ∀ ST : St V, x.1 = q.cs.length → Wk 4 [(4, 4)] ST (I142 q x) → Q (.ex 2) ST) :
    (runCode cfgS 60 14 (loopOf Try.f14 2) (I142 q x) (stopT (trimSt [0, 4, 5, 6, 7, 8, 9] [0, 1, 2, 4, 5, 6, 7, 8, 9, 10]))).holds ⟨Q, F⟩ := by
  rw [b142]
  have hb := q.hb
  have hn := q.hn
  have hc := q.hc
  have hbs := q.hbs
  have hll := lateAt_len (l := q.l) q.hu q.n x.1
  have hw : x.1 < q.cs.length → IntKind.wrap .i64 ((x.1 : Int) + 1) = ((x.1 + 1 : Nat) : Int) := fun h => wrap_nat (by omega)
  have hL := late_succ q.l (k := x.1) (cs := q.cs) q.n
  have hK := keep_succ (k := x.1) (cs := q.cs) q.n
  rw [show (0 + x.1) = x.1 from Nat.zero_add _, show (0 + q.n) = q.n from Nat.zero_add _]
  rw [show q.cs.getD x.1 (V.enc Kd.cal).dflt = q.cs.getD x.1 c0 from rfl, show q.l.getD q.n (V.enc Kd.rcd).dflt = q.l.getD q.n r0 from rfl]
  generalize q.cs.getD x.1 c0 = d at hL hK ⊢
  have bl : (q.base ++ lateAt q.l q.cs q.n x.1).length = q.base.length + (lateAt q.l q.cs q.n x.1).length := List.length_append
  have hB1 : x.1 < q.cs.length → d.at_ = q.n ∧ d.to_ < 0 → q.base ++ lateAt q.l q.cs q.n (x.1 + 1) = (q.base ++ lateAt q.l q.cs q.n x.1) ++ [lateRec q.l q.n] := fun h h2 => by rw [hL h, if_pos h2, List.append_assoc]
  have hB0 : x.1 < q.cs.length → ¬ (d.at_ = q.n ∧ d.to_ < 0) → q.base ++ lateAt q.l q.cs q.n (x.1 + 1) = q.base ++ lateAt q.l q.cs q.n x.1 := fun h h2 => by rw [hL h, if_neg h2, List.append_nil]
  have hK1 : x.1 < q.cs.length → (d.frm = q.n ∧ d.at_ < 0 ∧ d.to_ < 0) → keepAt q.cs q.n (x.1 + 1) = false := fun h h2 => by rw [hK h, decide_eq_true h2]; cases keepAt q.cs q.n x.1 <;> rfl
  have hK0 : x.1 < q.cs.length → ¬ (d.frm = q.n ∧ d.at_ < 0 ∧ d.to_ < 0) → keepAt q.cs q.n x.1 = keepAt q.cs q.n (x.1 + 1) := fun h h2 => by rw [hK h, decide_eq_false h2]; cases keepAt q.cs q.n x.1 <;> rfl
  have len1 : ∀ {a b : List Rec} {r : Rec}, b = a ++ [r] → a.length + 1 = b.length := fun h => by rw [h]; simp
  have blk : ∀ {a b : List Rec} {y : Nat}, a = b → BSub (some (.arr 30 Kd.rcd a y : Blk V)) (.arr 30 Kd.rcd b y) := fun h => by rw [h]; exact .same _
  simp only [Out.holds, decide_eq_true_eq, decide_eq_false_iff_not, beq_iff_eq, beq_eq_false_iff_ne]
  by_cases hlt : x.1 < q.cs.length
  · refine ⟨fun _ => ?_, fun h => absurd hlt (by omega)⟩
    repeat' first | apply And.intro | intro _
    all_goals first
      | trivial
      | omega
      | (rw [bl]; omega)
      | exact hnx _ _ 6 hlt (by
          have e := hB1 hlt (by omega)
          have f := hK1 hlt (by omega)
          exact ⟨⟨AV.sub_same _, AV.sub_same _, AV.sub_same _, AV.sub_sl (len1 e) (by rw [len1 e]), AV.sub_same _, AV.sub_ff f, AV.sub_int (hw hlt), trivial⟩, ⟨blk e.symm, .same _, .same _, .same _, trivial⟩, rfl, tl_ok rfl, ⟨.inl (in_ok rfl), .inl (in_ok rfl), .inr rfl, .inr rfl, .inr rfl, trivial⟩, ⟨Nat.le_of_ble_eq_true rfl, rfl⟩⟩)
      | exact hnx _ _ 6 hlt (by
          have e := hB1 hlt (by omega)
          have f := hK0 hlt (by omega)
          exact ⟨⟨AV.sub_same _, AV.sub_same _, AV.sub_same _, AV.sub_sl (len1 e) (by rw [len1 e]), AV.sub_same _, AV.sub_bool f, AV.sub_int (hw hlt), trivial⟩, ⟨blk e.symm, .same _, .same _, .same _, trivial⟩, rfl, tl_ok rfl, ⟨.inl (in_ok rfl), .inl (in_ok rfl), .inr rfl, .inr rfl, .inr rfl, trivial⟩, ⟨Nat.le_of_ble_eq_true rfl, rfl⟩⟩)
      | exact hnx _ x.2 4 hlt (by
          have e := hB0 hlt (by omega)
          have f := hK1 hlt (by omega)
          exact ⟨⟨AV.sub_same _, AV.sub_same _, AV.sub_same _, AV.sub_sl (by rw [e]) (by rw [e]), AV.sub_same _, AV.sub_ff f, AV.sub_int (hw hlt), trivial⟩, ⟨blk e.symm, .same _, .same _, .same _, trivial⟩, rfl, tl_ok rfl, ⟨.inl (in_ok rfl), .inr rfl, .inr rfl, .inr rfl, trivial⟩, ⟨Nat.le_of_ble_eq_true rfl, rfl⟩⟩)
      | exact hnx _ x.2 4 hlt (by
          have e := hB0 hlt (by omega)
          have f := hK0 hlt (by omega)
          exact ⟨⟨AV.sub_same _, AV.sub_same _, AV.sub_same _, AV.sub_sl (by rw [e]) (by rw [e]), AV.sub_same _, AV.sub_bool f, AV.sub_int (hw hlt), trivial⟩, ⟨blk e.symm, .same _, .same _, .same _, trivial⟩, rfl, tl_ok rfl, ⟨.inl (in_ok rfl), .inr rfl, .inr rfl, .inr rfl, trivial⟩, ⟨Nat.le_of_ble_eq_true rfl, rfl⟩⟩)
      | skip
  · exact ⟨fun h => absurd h (by omega), fun h => hex _ (by omega) ⟨⟨AV.sub_same _, AV.sub_same _, AV.sub_same _, AV.sub_same _, AV.sub_same _, AV.sub_same _, AV.sub_same _, trivial⟩, ⟨.same _, .same _, .same _, .same _, trivial⟩, rfl, tl_ok rfl, ⟨.inl (in_ok rfl), .inr rfl, .inr rfl, .inr rfl, trivial⟩, ⟨Nat.le_of_ble_eq_true rfl, rfl⟩⟩⟩
theorem l142_ok : LoopOk Try.prog 2 (loopOf Try.f14 2) L142 := by
  refine trimLoop_ok (trim_ok _ _) (loopTH_ok (C := cfgS) cfgS_ok (f := 14) (n := 60) (trim_ok [0, 4, 5, 6, 7, 8, 9] [0, 1, 2, 4, 5, 6, 7, 8, 9, 10]) 4 I142 (fun q x => x.1 ≤ q.cs.length) (fun q => (0, q.s0)) (fun q x => q.cs.length - x.1) (fun _ (_ : Nat) => True) (fun q s => I142 q (q.cs.length, s)) (fun q => Nat.zero_le _) ?_)
  intro q x hk
  refine body142 q x hk _ _ (fun ST sp b hlt hw => SImp.of_wk (x.1 + 1, sp) hw ⟨hlt, ?_⟩) (fun ST he hw => ⟨rfl, SImp.of_wk (ren := [(4, 4)]) x.2 ?_ trivial⟩)
  · show q.cs.length - (x.1 + 1) < q.cs.length - x.1; omega
  · obtain ⟨i, s⟩ := x; simp only at he; subst he; exact hw

theorem body140 (p : PG) (x : Nat × Nat × Nat) (hi : x.1 ≤ p.l.length) (Q : EX → St V → Prop) (F : AV → Heap V → Nat → Prop)
    (hnx : ∀ (ST : St V) (a b c d : Nat), x.1 < p.l.length → Wk 2 [(2, c), (3, d)] ST (I140 p (x.1 + 1, a, b)) → Q .nx ST)
    (hex : ∀ ST : St V, x.1 = p.l.length → Wk 2 [(2, 2), (3, 3)] ST (I140 p x) → Q (.ex 0) ST) :
    (runCode cfg142 60 14 (loopOf Try.f14 0) (I140 p x) (stopT (trimSt [0, 4, 5, 6, 7] [0, 1, 2, 3, 4, 5, 6, 7, 8, 9, 10]))).holds ⟨Q, F⟩ := by
  rw [b140]
  have hb := p.hb
  have hkl := keptTo_len p.l p.cs x.1
  have hml := moreTo_len (l := p.l) p.hu x.1
  have hw : x.1 < p.l.length → IntKind.wrap .i64 ((x.1 : Int) + 1) = ((x.1 + 1 : Nat) : Int) := fun h => wrap_nat (by omega)
  have eK : keptTo p.l p.cs (x.1 + 1) = keptTo p.l p.cs x.1 ++ if keepAt p.cs x.1 p.cs.length then [p.l.getD x.1 r0] else [] := rfl
  have eM : moreTo p.l p.cs x.1 ++ lateAt p.l p.cs x.1 p.cs.length = moreTo p.l p.cs (x.1 + 1) := rfl
  have len1 : ∀ {a b : List Rec} {r : Rec}, b = a ++ [r] → a.length + 1 = b.length := fun h => by rw [h]; simp
  have blk : ∀ {a b : List Rec} {y : Nat}, a = b → BSub (some (.arr 30 Kd.rcd a y : Blk V)) (.arr 30 Kd.rcd b y) := fun h => by rw [h]; exact .same _
  simp only [Out.holds, Nat.zero_add, decide_eq_true_eq, decide_eq_false_iff_not]
  by_cases hlt : x.1 < p.l.length
  · refine ⟨fun _ => ⟨l142_ok, fun q => q = ⟨p, x.1, hlt, keptTo p.l p.cs x.1, x.2.1, moreTo p.l p.cs x.1, x.2.2, by omega⟩, ⟨Nat.le_refl _, SImp.of_wk (ren := [(4, 3)]) ⟨p, x.1, hlt, keptTo p.l p.cs x.1, x.2.1, moreTo p.l p.cs x.1, x.2.2, by omega⟩ ?_ rfl⟩, ?_⟩, fun h => absurd hlt (by omega)⟩
    · have e0 : moreTo p.l p.cs x.1 = moreTo p.l p.cs x.1 ++ lateAt p.l p.cs x.1 0 := (List.append_nil _).symm
      exact ⟨⟨AV.sub_same _, AV.sub_same _, AV.sub_same _, AV.sub_sl (congrArg _ e0) (by dsimp only; rw [← e0]), AV.sub_same _, AV.sub_tt rfl, AV.sub_lit', trivial⟩, ⟨blk e0, .same _, .same _, .same _, trivial⟩, rfl, tl_ok rfl, ⟨.inr rfl, .inl (in_ok rfl), .inr rfl, .inr rfl, trivial⟩, ⟨Nat.le_of_ble_eq_true rfl, rfl⟩⟩
    · rintro _ rfl s _
      dsimp only
      rw [eM]
      refine ⟨fun h2 => ⟨by omega, hlt, ⟨trivial, trivial, trivial, by omega⟩, fun y => hnx _ y s 6 4 hlt ?_⟩, fun h2 => hnx _ x.2.1 s 2 4 hlt ?_⟩
      · rw [if_pos h2] at eK
        exact ⟨⟨AV.sub_same _, AV.sub_same _, AV.sub_sl (len1 eK) (by rw [len1 eK]), AV.sub_same _, AV.sub_int (hw hlt), trivial⟩, ⟨blk eK.symm, .same _, .same _, .same _, trivial⟩, rfl, tl_ok rfl, ⟨.inl (in_ok rfl), .inl (in_ok rfl), .inl (in_ok rfl), .inr rfl, .inr rfl, trivial⟩, ⟨Nat.le_of_ble_eq_true rfl, rfl⟩⟩
      · rw [if_neg (by rw [h2]; decide), List.append_nil] at eK
        exact ⟨⟨AV.sub_same _, AV.sub_same _, AV.sub_sl (by rw [eK]) (by rw [eK]), AV.sub_same _, AV.sub_int (hw hlt), trivial⟩, ⟨blk eK.symm, .same _, .same _, .same _, trivial⟩, rfl, tl_ok rfl, ⟨.inl (in_ok rfl), .inl (in_ok rfl), .inr rfl, .inr rfl, trivial⟩, ⟨Nat.le_of_ble_eq_true rfl, rfl⟩⟩
  · exact ⟨fun h => absurd h (by omega), fun h => hex _ (by omega) ⟨⟨AV.sub_same _, AV.sub_same _, AV.sub_same _, AV.sub_same _, AV.sub_same _, trivial⟩, ⟨.same _, .same _, .same _, .same _, trivial⟩, rfl, tl_ok rfl, ⟨.inl (in_ok rfl), .inl (in_ok rfl), .inr rfl, .inr rfl, trivial⟩, ⟨Nat.le_of_ble_eq_true rfl, rfl⟩⟩⟩
theorem l140_ok : LoopOk Try.prog 0 (loopOf Try.f14 0) L140 := by
  refine trimLoop_ok (trim_ok _ _) (loopTH_ok (C := cfg142) cfg142_ok (f := 14) (n := 60) (trim_ok [0, 4, 5, 6, 7] [0, 1, 2, 3, 4, 5, 6, 7, 8, 9, 10]) 2 I140 (fun p x => x.1 ≤ p.l.length) (fun _ => (0, 0, 0)) (fun p x => p.l.length - x.1) (fun _ (_ : Nat × Nat) => True) (fun p s => I140 p (p.l.length, s)) (fun p => Nat.zero_le _) ?_)
  intro p x hi
  refine body140 p x hi _ _ (fun ST a b c d hlt hw => SImp.of_wk (x.1 + 1, a, b) hw ⟨hlt, ?_⟩) (fun ST he hw => ⟨rfl, SImp.of_wk (ren := [(2, 2), (3, 3)]) x.2 ?_ trivial⟩)
  · show p.l.length - (x.1 + 1) < p.l.length - x.1; omega
  · obtain ⟨i, s⟩ := x; simp only at he; subst he; exact hw
def runCompleteR : RunFree V := fun ar K => match ar with
  | [.rows .rcd l c] => .need (l.length ≤ 1099511627776 ∧ ∀ r ∈ l, r.op < 9223372036854775808) (.all Nat fun sp => K (.sl false 0 0 8 (hComplete l).length ((hComplete l).length + sp)) [.arr 30 Kd.rcd (hComplete l) sp])
  | _ => .bad 500
theorem hCompleteRef : HookOk Try.prog 14 (hookFree [.rows Kd.rcd] runCompleteR) := by
  refine free_hook (C := cfg140) cfg140_ok (n := 60) (fn := Try.f14) ⟨by kernel_rfl, by kernel_rfl⟩ (by kernel_rfl) ?_
  intro M ar K0 H
  unfold runCompleteR at H
  split at H
  · rename_i l c
    obtain ⟨⟨hb, hop⟩, H⟩ := H
    refine ⟨show 1 ≤ _ by decide +kernel, ?_⟩
    show (runF cfg140 60 14 Try.f14 [.sl false 0 0 8 l.length c] [(0, .ro Kd.rcd l)] 1).holds _
    rw [t14]
    have P := plain_calls hop
    have ek := kept_out (l := l) P.sgn l.length
    have em := more_out P l.length
    have hkl := keptTo_len l (hCallsOf l) l.length
    have hml := moreTo_len (l := l) P.hu l.length
    rw [show List.take l.length (List.drop 0 l) = l from List.take_length ..]
    refine ⟨by omega, hb, fun h => ?_, fun h => ⟨by omega, ⟨hb, hop⟩, fun sp => ⟨l140_ok, fun p => p = ⟨⟨l, c, hb⟩, hCallsOf l, sp, P.len, P.hu⟩, ⟨Nat.le_refl _, SImp.of_wk (ren := [(2, 98), (3, 99)]) ⟨⟨l, c, hb⟩, hCallsOf l, sp, P.len, P.hu⟩ ?_ rfl⟩, ?_⟩⟩⟩
    · have hr : hRight l = false := by simpa using h
      have h0 := H 0
      rw [hComplete_not hr] at h0
      exact ⟨_, _, h0, _, HImp.refl _ _, ⟨⟨fun _ => 99, ⟨.none _ _, trivial⟩, AV.sub_nilS⟩, rfl, rfl⟩⟩
    · exact ⟨⟨AV.sub_same _, AV.sub_same _, AV.sub_nilS, AV.sub_nilS, AV.sub_lit', trivial⟩, ⟨.none _ _, .none _ _, .same _, .same _, trivial⟩, rfl, tl_ok rfl, ⟨.inr rfl, .inr rfl, trivial⟩, ⟨Nat.le_of_ble_eq_true rfl, rfl⟩⟩
    · have hr : hRight l = true := by simpa using h
      rintro _ rfl s _
      dsimp only
      rw [show List.take (moreTo l (hCallsOf l) l.length).length (List.drop 0 (moreTo l (hCallsOf l) l.length)) = moreTo l (hCallsOf l) l.length from List.take_length ..]
      refine ⟨by omega, ⟨rfl, rfl, rfl, by omega⟩, fun z => ?_⟩
      have h0 := H z
      have e := hComplete_eq hr
      rw [← ek, ← em] at e
      have el : (hComplete l).length = (keptTo l (hCallsOf l) l.length).length + (moreTo l (hCallsOf l) l.length).length := by rw [e, List.length_append]
      rw [el, e] at h0
      exact ⟨_, _, h0, _, HImp.refl _ _, ⟨⟨fun _ => 4, ⟨.same _, trivial⟩, AV.sub_same _⟩, rfl, rfl⟩⟩
  · exact H.elim

end Sx
end Go.Proofs.Ytemcdjdglcceiaa

/-
  The law of what records tell: the runs of the machine.
-/
namespace Go.Proofs.Ytemcdjdglcceiaa
namespace Sx
open Go
set_option maxRecDepth 100000
set_option linter.unusedVariables false

def hooksT : Nat → Option (HookS V) := fun g => match g with
  | 14 => some (hookFree [.rows Kd.rcd] runCompleteR)
  | 18 => some (hookFree [.el Kd.cal, .el Kd.cal] runBefore)
  | 24 => some (hookFree [.rows Kd.rcd] runCommits)
  | 26 => some (hookFree [.rows Kd.rcd] runLeftR)
  | g => hooksS g
noncomputable def cfgT : Cfg Try.prog V := ⟨tab, kinds, fun _ => none, hooksT, fun _ _ => none⟩
structure PT extends PL where
  same : Bool
  si : Nat
  a : List Rec
  sa : Nat
  ha : a.length ≤ 1099511627776
def I30 (p : PT) (x : Nat × List Rec) : St V := ⟨[(0, .sl false 0 0 8 p.l.length p.c), (3, .tt), (4, .sl false 2 0 8 p.l.length (p.l.length + p.si)), (5, .sl false 3 0 8 p.a.length (p.a.length + p.sa)), (6, .bool p.same), (7, .int .i64 (x.1 : Int))],
  [(3, .arr 30 Kd.rcd x.2 p.sa), (2, .arr 30 Kd.rcd p.l p.si), (0, .ro Kd.rcd p.l)], 5, 132, TL⟩
def E30 (p : PT) : St V := ⟨[(0, .sl false 0 0 8 p.l.length p.c), (3, .tt), (4, .sl false 2 0 8 p.l.length (p.l.length + p.si)), (6, .bool p.same)],
  [(2, .arr 30 Kd.rcd p.l p.si), (0, .ro Kd.rcd p.l)], 5, 132, TL⟩
def L30 : LoopS V := trimLoop (trimSt [0, 3, 4, 5, 6, 7] [0, 2, 3]) (loopH 5 (fun p : PT => I30 p (0, p.a)) (fun _ (_ : Unit) => True) (fun p _ => E30 p))
structure PW extends PL where
  same : Bool
  si : Nat
  sc : Nat
  sd : Nat
def I32 (p : PW) (i : Nat) : St V := ⟨[(0, .sl false 0 0 8 p.l.length p.c), (3, .tt), (4, .sl false 2 0 8 p.l.length (p.l.length + p.si)), (6, .bool p.same), (8, .sl false 5 0 5 (hCallsOf p.l).length ((hCallsOf p.l).length + p.sc)), (9, .sl false 6 0 5 (hCallsOf p.l).length ((hCallsOf p.l).length + p.sd)), (10, .int .i64 (i : Int))],
  [(6, .arr 35 Kd.cal (hCallsOf p.l) p.sd), (5, .arr 35 Kd.cal (hCallsOf p.l) p.sc), (2, .arr 30 Kd.rcd p.l p.si), (0, .ro Kd.rcd p.l)], 7, 132, TL⟩
structure PX extends PW where
  i : Nat
  hi : i < (hCallsOf l).length
def I34 (q : PX) (k : Nat) : St V := ⟨[(0, .sl false 0 0 8 q.l.length q.c), (3, .tt), (4, .sl false 2 0 8 q.l.length (q.l.length + q.si)), (6, .bool q.same), (8, .sl false 5 0 5 (hCallsOf q.l).length ((hCallsOf q.l).length + q.sc)), (9, .sl false 6 0 5 (hCallsOf q.l).length ((hCallsOf q.l).length + q.sd)), (10, .int .i64 (q.i : Int)), (11, .int .i64 (k : Int))],
  [(6, .arr 35 Kd.cal (hCallsOf q.l) q.sd), (5, .arr 35 Kd.cal (hCallsOf q.l) q.sc), (2, .arr 30 Kd.rcd q.l q.si), (0, .ro Kd.rcd q.l)], 7, 132, TL⟩
def L34 : LoopS V := trimLoop (trimSt [0, 3, 4, 6, 8, 9, 10, 11] [0, 2, 5, 6]) (loopH 7 (fun q : PX => I34 q 0) (fun _ (_ : Unit) => True) (fun q _ => I34 q q.i))
noncomputable def cfg34 : Cfg Try.prog V := ⟨tab, kinds, fun _ => none, hooksT, fun f id => match f, id with | 3, 4 => some L34 | _, _ => none⟩
def L32 : LoopS V := trimLoop (trimSt [0, 3, 4, 6, 8, 9, 10] [0, 2, 5, 6]) (loopH 7 (fun p : PW => I32 p 0) (fun _ (_ : Unit) => True) (fun p _ => I32 p (hCallsOf p.l).length))
noncomputable def cfg30 : Cfg Try.prog V := ⟨tab, kinds, fun _ => none, hooksT, fun f id => match f, id with | 3, 0 => some L30 | 3, 2 => some L32 | _, _ => none⟩
theorem t3 (l : List Rec) (c : Nat) : runL cfg30 60 3 Try.f3 [.sl false 0 0 8 l.length c] [(0, .ro Kd.rcd l)] 1 = Out.ite (decide ((↑l.length : Int) > 150)) (Out.fin .tt [] 0) (Out.need (0 + l.length ≤ l.length) (Out.need ((List.take l.length (List.drop 0 l)).length * 64 ≤ 140737488355328) (Out.all Nat fun y => Out.need (0 + (List.take l.length (List.drop 0 l)).length ≤ (List.take l.length (List.drop 0 l)).length) (Out.need ((List.take (List.take l.length (List.drop 0 l)).length (List.drop 0 (List.take l.length (List.drop 0 l)))).length ≤ 1099511627776) (Out.all Nat fun y_1 => Out.need (0 + l.length ≤ l.length) (Out.need ((List.take l.length (List.drop 0 l)).length ≤ 1099511627776 ∧ ∀ (r : V.El Kd.rcd), r ∈ List.take l.length (List.drop 0 l) → r.op < 9223372036854775808) (Out.all Nat fun y_2 => Out.need (0 + (hComplete (List.take (List.take l.length (List.drop 0 l)).length (List.drop 0 (List.take l.length (List.drop 0 l))))).length ≤ (hComplete (List.take (List.take l.length (List.drop 0 l)).length (List.drop 0 (List.take l.length (List.drop 0 l))))).length) (Out.need (0 + (hComplete (List.take l.length (List.drop 0 l))).length ≤ (hComplete (List.take l.length (List.drop 0 l))).length) (Out.need ((List.take (hComplete (List.take (List.take l.length (List.drop 0 l)).length (List.drop 0 (List.take l.length (List.drop 0 l))))).length (List.drop 0 (hComplete (List.take (List.take l.length (List.drop 0 l)).length (List.drop 0 (List.take l.length (List.drop 0 l))))))).length ≤ 1099511627776) (Out.need (LoopFor Try.prog 3 0 (loopOf Try.f3 0) L30) (Out.ex (PT → Prop) fun y_3 => Out.need (5 ≤ 5 ∧ SImp 5 {env := [(0, .sl false 0 0 8 l.length c), (3, .tt), (4, .sl false 2 0 8 (List.take l.length (List.drop 0 l)).length ((List.take l.length (List.drop 0 l)).length + y)), (5, .sl false 3 0 8 (hComplete (List.take (List.take l.length (List.drop 0 l)).length (List.drop 0 (List.take l.length (List.drop 0 l))))).length ((hComplete (List.take (List.take l.length (List.drop 0 l)).length (List.drop 0 (List.take l.length (List.drop 0 l))))).length + y_1)), (6, .bool (decide (List.take (hComplete (List.take (List.take l.length (List.drop 0 l)).length (List.drop 0 (List.take l.length (List.drop 0 l))))).length (List.drop 0 (hComplete (List.take (List.take l.length (List.drop 0 l)).length (List.drop 0 (List.take l.length (List.drop 0 l)))))) = List.take (hComplete (List.take l.length (List.drop 0 l))).length (List.drop 0 (hComplete (List.take l.length (List.drop 0 l))))))), (7, .lit .i64 0)], heap := [(3, .arr 30 Kd.rcd (hComplete (List.take (List.take l.length (List.drop 0 l)).length (List.drop 0 (List.take l.length (List.drop 0 l))))) y_1), (2, .arr 30 Kd.rcd (List.take l.length (List.drop 0 l)) y), (0, .ro Kd.rcd l)], nx := 5, nt := 132, tl := [4, 1] : St V } (fun p => I30 p (0, p.a)) y_3) (Out.all PT fun y => Out.asm (y_3 y) (Out.all Unit fun y_4 => Out.asm ((fun x x_1 => True) y y_4) (Out.need (0 + y.l.length ≤ y.l.length) (Out.need ((List.take y.l.length (List.drop 0 y.l)).length ≤ 1099511627776) (Out.all Nat fun y_5 => Out.need (0 + y.l.length ≤ y.l.length) (Out.need ((List.take y.l.length (List.drop 0 y.l)).length ≤ 1099511627776 ∧ ∀ (r : V.El Kd.rcd), r ∈ List.take y.l.length (List.drop 0 y.l) → r.op < 9223372036854775808) (Out.all Nat fun y_6 => Out.need (LoopFor Try.prog 3 2 (loopOf Try.f3 2) L32) (Out.ex (PW → Prop) fun y_7 => Out.need (7 ≤ 7 ∧ SImp 7 {env := [(0, .sl false 0 0 8 y.l.length y.toPL.2), (3, .tt), (4, .sl false 2 0 8 y.l.length (y.l.length + y.3)), (6, .bool y.same), (8, .sl false 5 0 5 (hCallsOf (List.take y.l.length (List.drop 0 y.l))).length ((hCallsOf (List.take y.l.length (List.drop 0 y.l))).length + y_5)), (9, .sl false 6 0 5 (hCallsOf (List.take y.l.length (List.drop 0 y.l))).length ((hCallsOf (List.take y.l.length (List.drop 0 y.l))).length + y_6)), (10, .lit .i64 0)], heap := [(6, .arr 35 Kd.cal (hCallsOf (List.take y.l.length (List.drop 0 y.l))) y_6), (5, .arr 35 Kd.cal (hCallsOf (List.take y.l.length (List.drop 0 y.l))) y_5), (2, .arr 30 Kd.rcd y.l y.3), (0, .ro Kd.rcd y.l)], nx := 7, nt := 132, tl := [0, 1, 2, 3, 4, 5, 6, 7, 8, 9, 10, 11, 12, 13, 14, 15, 16] : St V } (fun p => I32 p 0) y_7) (Out.all PW fun y => Out.asm (y_7 y) (Out.all Unit fun y_8 => Out.asm ((fun x x_1 => True) y y_8) (Out.ite y.same (Out.need (0 + y.l.length ≤ y.l.length) (Out.need (0 + y.l.length ≤ y.l.length) (Out.need ((List.take y.l.length (List.drop 0 y.l)).length ≤ 1099511627776) (Out.ite (decide (List.take y.l.length (List.drop 0 y.l) = List.take y.l.length (List.drop 0 y.l))) (Out.need (0 + y.l.length ≤ y.l.length) (Out.need ((List.take y.l.length (List.drop 0 y.l)).length ≤ 1099511627776) (Out.need (0 + y.l.length ≤ y.l.length) (Out.need ((List.take y.l.length (List.drop 0 y.l)).length ≤ 1099511627776) (Out.ite (hRight (List.take y.l.length (List.drop 0 y.l)) == hRight (List.take y.l.length (List.drop 0 y.l))) (Out.need (0 + (hCallsOf y.l).length ≤ (hCallsOf y.l).length) (Out.need (0 + (hCallsOf y.l).length ≤ (hCallsOf y.l).length) (Out.need ((List.take (hCallsOf y.l).length (List.drop 0 (hCallsOf y.l))).length ≤ 1099511627776) (Out.ite (decide (List.take (hCallsOf y.l).length (List.drop 0 (hCallsOf y.l)) = List.take (hCallsOf y.l).length (List.drop 0 (hCallsOf y.l)))) (Out.need (0 + y.l.length ≤ y.l.length) (Out.need ((List.take y.l.length (List.drop 0 y.l)).length ≤ 1099511627776) (Out.all Nat fun y_9 => Out.need (0 + y.l.length ≤ y.l.length) (Out.need ((List.take y.l.length (List.drop 0 y.l)).length ≤ 1099511627776) (Out.all Nat fun y_10 => Out.need (0 + (hCommits (List.take y.l.length (List.drop 0 y.l))).length ≤ (hCommits (List.take y.l.length (List.drop 0 y.l))).length) (Out.need (0 + (hCommits (List.take y.l.length (List.drop 0 y.l))).length ≤ (hCommits (List.take y.l.length (List.drop 0 y.l))).length) (Out.need ((List.take (hCommits (List.take y.l.length (List.drop 0 y.l))).length (List.drop 0 (hCommits (List.take y.l.length (List.drop 0 y.l))))).length ≤ 1099511627776) (Out.ite (decide (List.take (hCommits (List.take y.l.length (List.drop 0 y.l))).length (List.drop 0 (hCommits (List.take y.l.length (List.drop 0 y.l)))) = List.take (hCommits (List.take y.l.length (List.drop 0 y.l))).length (List.drop 0 (hCommits (List.take y.l.length (List.drop 0 y.l)))))) (Out.need (0 + y.l.length ≤ y.l.length) (Out.need ((List.take y.l.length (List.drop 0 y.l)).length ≤ 1099511627776) (Out.need (0 + y.l.length ≤ y.l.length) (Out.need ((List.take y.l.length (List.drop 0 y.l)).length ≤ 1099511627776 ∧ ∀ (r : V.El Kd.rcd), r ∈ List.take y.l.length (List.drop 0 y.l) → r.op < 9223372036854775808) (Out.fin (.bool ((↑(hLeft (List.take y.l.length (List.drop 0 y.l))) : Int) == (↑(hLeft (List.take y.l.length (List.drop 0 y.l))) : Int))) [] 0))))) (Out.fin .ff [] 0))))))))) (Out.fin .ff [] 0))))) (Out.fin .ff [] 0)))))) (Out.fin .ff [] 0))))) (Out.fin .ff [] 0))))))))))))))))))))))) := by kernel_rfl

end Sx
end Go.Proofs.Ytemcdjdglcceiaa

/-
  The law of what records tell.
-/
namespace Go.Proofs.Ytemcdjdglcceiaa
namespace Sx
open Go
set_option linter.unusedSimpArgs false
set_option linter.unusedVariables false

theorem hooksT_ok : ∀ g H, hooksT g = some H → HookOk Try.prog g H := by
  intro g H h
  unfold hooksT at h
  split at h
  · cases h; exact hCompleteRef
  · cases h; exact hBeforeRef
  · cases h; exact hCommitsRef
  · cases h; exact hLeftRef
  · exact hooksS_ok _ _ h
end Sx
end Go.Proofs.Ytemcdjdglcceiaa

/-
  What is held, and which commits are legal, as plain data: by a map, and by a sorted row.
-/
namespace Go.Proofs.Ytemcdjdglcceiaa
namespace Sx
open Go
set_option linter.unusedSimpArgs false
set_option linter.unusedVariables false

abbrev cc0 : Com := ⟨0, 0, 0, false⟩
abbrev pr0 : Pr := ⟨0, 0⟩
/-- The commit that is legal where a key's value is this one. -/
def ansC (g : Option Int) (d k v : Int) : Com :=
  if d = 2 then ⟨2, k, v, false⟩
  else if d = 1 ∨ d = 3 then ⟨d, k, g.getD 0, g.isSome⟩
  else if d = 4 ∧ g.isSome = true then ⟨4, k, g.getD 0, true⟩
  else cc0
def okC (g : Option Int) (c : Com) : Prop := ansC g c.act c.key c.value = c ∧ c.act ≠ 0
instance (g : Option Int) (c : Com) : Decidable (okC g c) := by unfold okC; infer_instance
abbrev Mp := List (Int × Int)
def doM (m : Mp) (c : Com) : Mp := if c.act = 2 then mput m c.key c.value else if c.act = 3 ∨ c.act = 4 then mdel m c.key else m
def runM : List Com → Mp → Nat × Mp
  | [], m => (0, m)
  | c :: t, m => if okC (mget m c.key) c then ((runM t (doM m c)).1 + 1, (runM t (doM m c)).2) else (0, m)
def legal (l : List Com) : Nat := (runM l []).1
def evsOf (l : List Com) : List Int := (l.filter fun c => decide (c.act = 4)).map Com.key
def plainOf (l : List Com) : Bool := decide (legal l = l.length) && decide ((evsOf l).length = 0)

/-! ## a sorted row -/
def isK (k : Int) (p : Pr) : Bool := decide (p.k = k)
def fnd (l : List Pr) (k : Int) : Nat := l.findIdx (isK k)
def fndI (l : List Pr) (k : Int) : Int := if fnd l k < l.length then (fnd l k : Int) else -1
def rget (l : List Pr) (k : Int) : Option Int := if fnd l k < l.length then some (l.getD (fnd l k) pr0).v else none
def lowK (k : Int) (p : Pr) : Bool := decide (p.k < k)
def below (l : List Pr) (k : Int) : Nat := (l.takeWhile (lowK k)).length
def without (l : List Pr) (i : Nat) : List Pr := l.take i ++ l.drop (i + 1)
def away (l : List Pr) (k : Int) : List Pr := if fnd l k < l.length then without l (fnd l k) else l
def nextR (l : List Pr) (d k v : Int) : List Pr :=
  if d = 2 then (away l k).take (below (away l k) k) ++ [⟨k, v⟩] ++ (away l k).drop (below (away l k) k)
  else if d = 3 ∨ d = 4 then away l k else l
def runR : List Com → List Pr → Nat × List Pr
  | [], m => (0, m)
  | c :: t, m => if okC (rget m c.key) c then ((runR t (nextR m c.act c.key c.value)).1 + 1, (runR t (nextR m c.act c.key c.value)).2) else (0, m)

def Sorted (l : List Pr) : Prop := l.Pairwise fun a b => a.k < b.k

theorem fnd_le (l : List Pr) (k : Int) : fnd l k ≤ l.length := List.findIdx_le_length
theorem rget_cons (p : Pr) (l : List Pr) (k : Int) : rget (p :: l) k = if p.k = k then some p.v else rget l k := by
  unfold rget fnd
  rw [List.findIdx_cons]
  by_cases h : p.k = k
  · have : isK k p = true := decide_eq_true h
    rw [this, if_pos h]; simp
  · have : isK k p = false := decide_eq_false h
    rw [this, if_neg h]
    simp only [cond_false, List.length_cons, Nat.add_lt_add_iff_right, List.getD_cons_succ]
theorem fnd_cons (p : Pr) (l : List Pr) (k : Int) : fnd (p :: l) k = if p.k = k then 0 else fnd l k + 1 := by
  unfold fnd
  rw [List.findIdx_cons]
  by_cases h : p.k = k
  · have : isK k p = true := decide_eq_true h
    rw [this, if_pos h]; rfl
  · have : isK k p = false := decide_eq_false h
    rw [this, if_neg h]; rfl
theorem away_cons (p : Pr) (l : List Pr) (k : Int) : away (p :: l) k = if p.k = k then l else p :: away l k := by
  unfold away
  rw [fnd_cons]
  by_cases h : p.k = k
  · rw [if_pos h, if_pos h]; simp [without]
  · rw [if_neg h, if_neg h]
    by_cases h2 : fnd l k < l.length
    · rw [if_pos (by simp; exact h2), if_pos h2]; simp [without]
    · rw [if_neg (by simp; omega), if_neg h2]
theorem low_none {l : List Pr} {k : Int} (h : ∀ p ∈ l, k < p.k) : rget l k = none := by
  induction l with
  | nil => rfl
  | cons p l ih =>
    rw [rget_cons, if_neg (by have := h p (by simp); omega)]
    exact ih fun q hq => h q (by simp [hq])
theorem away_sub (l : List Pr) (k : Int) : (away l k).Sublist l := by
  induction l with
  | nil => exact List.Sublist.refl _
  | cons p l ih =>
    rw [away_cons]
    split
    · exact List.sublist_cons_self ..
    · exact ih.cons_cons p
theorem away_sorted {l : List Pr} (h : Sorted l) (k : Int) : Sorted (away l k) := List.Pairwise.sublist (away_sub l k) h
theorem away_get {l : List Pr} (h : Sorted l) (k j : Int) : rget (away l k) j = if j = k then none else rget l j := by
  induction l with
  | nil => simp [away, fnd, rget]
  | cons p l ih =>
    have h' := List.pairwise_cons.1 h
    rw [away_cons]
    by_cases hp : p.k = k
    · rw [if_pos hp, rget_cons]
      by_cases hj : j = k
      · rw [if_pos hj]
        exact low_none fun q hq => by have := h'.1 q hq; omega
      · rw [if_neg hj, if_neg (by omega)]
    · rw [if_neg hp, rget_cons, ih h'.2, rget_cons]
      by_cases hj : j = k
      · rw [if_pos hj, if_pos hj, if_neg (by omega)]
      · rw [if_neg hj, if_neg hj]
def putS (l : List Pr) (k v : Int) : List Pr := l.take (below l k) ++ [⟨k, v⟩] ++ l.drop (below l k)
theorem putS_nil (k v : Int) : putS [] k v = [⟨k, v⟩] := rfl
theorem putS_cons (p : Pr) (l : List Pr) (k v : Int) : putS (p :: l) k v = if p.k < k then p :: putS l k v else ⟨k, v⟩ :: p :: l := by
  unfold putS below
  by_cases h : p.k < k
  · have : lowK k p = true := decide_eq_true h
    rw [if_pos h, List.takeWhile_cons, if_pos this]; rfl
  · have : lowK k p = false := decide_eq_false h
    rw [if_neg h, List.takeWhile_cons, if_neg (by rw [this]; decide)]; rfl
theorem putS_mem {l : List Pr} {k v : Int} {q : Pr} (h : q ∈ putS l k v) : q = ⟨k, v⟩ ∨ q ∈ l := by
  unfold putS at h
  rcases List.mem_append.1 h with h | h
  · rcases List.mem_append.1 h with h | h
    · exact .inr (List.mem_of_mem_take h)
    · exact .inl (by simpa using h)
  · exact .inr (List.mem_of_mem_drop h)
theorem putS_sorted {l : List Pr} (h : Sorted l) {k v : Int} (hn : rget l k = none) : Sorted (putS l k v) := by
  induction l with
  | nil => exact List.pairwise_singleton _ _
  | cons p l ih =>
    have h' := List.pairwise_cons.1 h
    rw [rget_cons] at hn
    have hpk : p.k ≠ k := fun e => by rw [if_pos e] at hn; cases hn
    rw [if_neg hpk] at hn
    rw [putS_cons]
    split
    · rename_i hlt
      refine List.pairwise_cons.2 ⟨fun q hq => ?_, ih h'.2 hn⟩
      rcases putS_mem hq with rfl | hq
      · exact hlt
      · exact h'.1 q hq
    · rename_i hlt
      refine List.pairwise_cons.2 ⟨fun q hq => ?_, h⟩
      show k < q.k
      rcases List.mem_cons.1 hq with rfl | hq
      · omega
      · have := h'.1 q hq; omega
theorem putS_get {l : List Pr} {k v : Int} (hn : rget l k = none) (j : Int) : rget (putS l k v) j = if j = k then some v else rget l j := by
  induction l with
  | nil =>
    rw [putS_nil, rget_cons]
    by_cases h : j = k
    · rw [if_pos h, if_pos h.symm]
    · rw [if_neg h, if_neg fun e => h e.symm]
  | cons p l ih =>
    rw [rget_cons] at hn
    have hpk : p.k ≠ k := fun e => by rw [if_pos e] at hn; cases hn
    rw [if_neg hpk] at hn
    rw [putS_cons]
    split
    · rw [rget_cons, ih hn, rget_cons]
      by_cases h : j = k
      · rw [if_pos h, if_pos h, if_neg (by omega)]
      · rw [if_neg h, if_neg h]
    · rw [rget_cons]
      by_cases h : j = k
      · rw [if_pos h, if_pos h.symm]
      · rw [if_neg h, if_neg (fun e => h e.symm)]
theorem nextR_sorted {l : List Pr} (h : Sorted l) (d k v : Int) : Sorted (nextR l d k v) := by
  unfold nextR
  split
  · exact putS_sorted (away_sorted h k) (by rw [away_get h, if_pos rfl])
  · split
    · exact away_sorted h k
    · exact h
theorem nextR_get {l : List Pr} (h : Sorted l) (d k v j : Int) : rget (nextR l d k v) j = if j = k then (if d = 2 then some v else if d = 3 ∨ d = 4 then none else rget l k) else rget l j := by
  unfold nextR
  split
  · rw [show (away l k).take (below (away l k) k) ++ [⟨k, v⟩] ++ (away l k).drop (below (away l k) k) = putS (away l k) k v from rfl, putS_get (by rw [away_get h, if_pos rfl]), away_get h]
    by_cases hj : j = k
    · rw [if_pos hj, if_pos hj]
    · rw [if_neg hj, if_neg hj, if_neg hj]
  · split
    · rw [away_get h]
    · by_cases hj : j = k
      · rw [if_pos hj, hj]
      · rw [if_neg hj]

/-! ## both ways alike -/
theorem mgetput : ∀ (m : Mp) (n x k : Int), mget (mput m n x) k = if k = n then some x else mget m k
  | [], n, x, k => rfl
  | (j, y) :: m, n, x, k => by
    unfold mput
    by_cases h : n = j
    · rw [if_pos h]
      show (if k = j then some x else mget m k) = if k = n then some x else (if k = j then some y else mget m k)
      subst h
      by_cases hk : k = n
      · rw [if_pos hk, if_pos hk]
      · rw [if_neg hk, if_neg hk, if_neg hk]
    · rw [if_neg h]
      show (if k = j then some y else mget (mput m n x) k) = if k = n then some x else (if k = j then some y else mget m k)
      rw [mgetput m n x k]
      by_cases hk : k = j
      · rw [if_pos hk, if_pos hk, if_neg (fun hh => h (hh.symm.trans hk))]
      · rw [if_neg hk, if_neg hk]
def OneK (m : Mp) : Prop := (m.map (·.1)).Nodup
theorem mget_none : ∀ {m : Mp} {n : Int}, n ∉ m.map (·.1) → mget m n = none
  | [], _, _ => rfl
  | (j, y) :: m, n, h => by
    show (if n = j then some y else mget m n) = none
    rw [if_neg (fun e => h (by simp [e]))]
    exact mget_none fun hm => h (by simp at hm ⊢; exact .inr hm)
theorem mgetdel : ∀ {m : Mp}, OneK m → ∀ (n k : Int), mget (mdel m n) k = if k = n then none else mget m k
  | [], _, n, k => by show none = if k = n then none else none; split <;> rfl
  | (j, y) :: m, h, n, k => by
    have h' := List.nodup_cons.1 h
    unfold mdel
    by_cases hn : n = j
    · rw [if_pos hn]
      show mget m k = if k = n then none else (if k = j then some y else mget m k)
      by_cases hk : k = n
      · rw [if_pos hk, hk, hn]
        exact mget_none h'.1
      · rw [if_neg hk, if_neg (by omega)]
    · rw [if_neg hn]
      show (if k = j then some y else mget (mdel m n) k) = if k = n then none else (if k = j then some y else mget m k)
      rw [mgetdel h'.2 n k]
      by_cases hk : k = j
      · rw [if_pos hk, if_pos hk, if_neg (by omega)]
      · rw [if_neg hk, if_neg hk]
theorem mput_keys : ∀ (m : Mp) (n x k : Int), k ∈ (mput m n x).map (·.1) ↔ k = n ∨ k ∈ m.map (·.1)
  | [], n, x, k => by simp [mput]
  | (j, y) :: m, n, x, k => by
    unfold mput
    by_cases h : n = j
    · rw [if_pos h]; simp [h]
    · rw [if_neg h]
      have ih := mput_keys m n x k
      simp only [List.map_cons, List.mem_cons]
      rw [ih]
      constructor
      · rintro (h | h | h)
        · exact .inr (.inl h)
        · exact .inl h
        · exact .inr (.inr h)
      · rintro (h | h | h)
        · exact .inr (.inl h)
        · exact .inl h
        · exact .inr (.inr h)
theorem mput_one : ∀ {m : Mp}, OneK m → ∀ (n x : Int), OneK (mput m n x)
  | [], _, n, x => by simp [OneK, mput]
  | (j, y) :: m, h, n, x => by
    have h' := List.nodup_cons.1 h
    unfold mput
    by_cases hn : n = j
    · rw [if_pos hn]; exact h
    · rw [if_neg hn]
      refine List.nodup_cons.2 ⟨fun hm => ?_, mput_one h'.2 n x⟩
      rcases (mput_keys m n x j).1 hm with h1 | h1
      · exact hn h1.symm
      · exact h'.1 h1
theorem mdel_sub : ∀ (m : Mp) (n : Int), (mdel m n).Sublist m
  | [], n => List.Sublist.refl _
  | (j, y) :: m, n => by
    unfold mdel
    split
    · exact List.sublist_cons_self ..
    · exact (mdel_sub m n).cons_cons _
theorem mdel_one {m : Mp} (h : OneK m) (n : Int) : OneK (mdel m n) := List.Nodup.sublist ((mdel_sub m n).map _) h
theorem doM_one {m : Mp} (h : OneK m) (c : Com) : OneK (doM m c) := by
  unfold doM
  split
  · exact mput_one h _ _
  · split
    · exact mdel_one h _
    · exact h
theorem doM_get {m : Mp} (h : OneK m) (c : Com) (j : Int) : mget (doM m c) j = if j = c.key then (if c.act = 2 then some c.value else if c.act = 3 ∨ c.act = 4 then none else mget m c.key) else mget m j := by
  unfold doM
  split
  · rw [mgetput]
  · split
    · rw [mgetdel h]
    · split
      · rename_i e; rw [e]
      · rfl
structure Alike (m : Mp) (l : List Pr) : Prop where
  one : OneK m
  srt : Sorted l
  get : ∀ k, rget l k = mget m k
theorem Alike.nil : Alike [] [] := ⟨List.nodup_nil, List.Pairwise.nil, fun k => rfl⟩
theorem Alike.step {m : Mp} {l : List Pr} (A : Alike m l) (c : Com) : Alike (doM m c) (nextR l c.act c.key c.value) :=
  ⟨doM_one A.one c, nextR_sorted A.srt _ _ _, fun k => by rw [nextR_get A.srt, doM_get A.one, A.get, A.get]⟩
theorem run_alike : ∀ (t : List Com) {m : Mp} {l : List Pr}, Alike m l → (runR t l).1 = (runM t m).1 ∧ Alike (runM t m).2 (runR t l).2
  | [], m, l, A => ⟨rfl, A⟩
  | c :: t, m, l, A => by
    have ih := run_alike t (A.step c)
    unfold runR runM
    rw [A.get]
    split
    · exact ⟨congrArg (· + 1) ih.1, ih.2⟩
    · exact ⟨rfl, A⟩
theorem legal_alike (l : List Com) : (runR l []).1 = legal l := (run_alike l Alike.nil).1

theorem runM_le : ∀ (t : List Com) (m : Mp), (runM t m).1 ≤ t.length
  | [], m => Nat.le_refl _
  | c :: t, m => by
    have ih := runM_le t (doM m c)
    unfold runM
    split
    · show _ + 1 ≤ _ + 1; omega
    · exact Nat.zero_le _
theorem away_len (l : List Pr) (k : Int) : (away l k).length ≤ l.length := (away_sub l k).length_le
theorem putS_len (l : List Pr) (k v : Int) : (putS l k v).length = l.length + 1 := by
  unfold putS
  simp only [List.length_append, List.length_cons, List.length_nil, List.length_take, List.length_drop]
  omega
theorem nextR_len (l : List Pr) (d k v : Int) : (nextR l d k v).length ≤ l.length + 1 := by
  have := away_len l k
  unfold nextR
  split
  · have := putS_len (away l k) k v
    show (putS (away l k) k v).length ≤ _
    omega
  · split <;> omega
theorem drop_cons {α : Type} (l : List α) (d : α) {i : Nat} (h : i < l.length) : l.drop i = l.getD i d :: l.drop (i + 1) := by
  rw [List.drop_eq_getElem_cons h, List.getD_eq_getElem?_getD, List.getElem?_eq_getElem h]; rfl

end Sx
end Go.Proofs.Ytemcdjdglcceiaa

/-
  What commits are legal, by a map: the runs of the machine.
-/
namespace Go.Proofs.Ytemcdjdglcceiaa
namespace Sx
open Go
set_option maxRecDepth 100000
set_option linter.unusedVariables false

noncomputable def fnsQ : Nat → Option Func := fun g => match g with | 66 => some Try.f66 | 67 => some Try.f67 | _ => none
noncomputable def cfgQ0 : Cfg Try.prog V := ⟨tab, kinds, fnsQ, fun _ => none, fun _ _ => none⟩
abbrev TQ : List Nat := [0, 1, 2, 3, 4, 5, 6, 7, 8, 9, 10, 11, 12, 13, 14, 15, 16]
structure QPQ where
  l : List Com
  c : Nat
  hb : l.length ≤ 1099511627776
def QI1 (p : QPQ) (x : Nat × Mp) : St V := ⟨[(0, .sl false 0 0 4 p.l.length p.c), (4, .mp 1), (10, .sl false 0 0 4 p.l.length p.c), (11, .int .i64 (p.l.length : Int)), (12, .int .i64 (x.1 : Int))], [(1, .mp .i64 Kd.int x.2), (0, .ro Kd.com p.l)], 2, 44, TQ⟩
def QR1 (p : QPQ) (x : Nat × Mp) : St V := ⟨[(2, .int .i64 (x.1 : Int)), (3, .mp 1)], [(1, .mp .i64 Kd.int x.2), (0, .ro Kd.com p.l)], 2, 44, TQ⟩
def QL1 : LoopS V := trimLoop (trimSt [0, 4, 10, 11, 12] [0, 1]) (loopG 2 (fun p : QPQ => QI1 p (0, [])) (fun p (m : Mp) => runM p.l [] = (p.l.length, m)) (fun p m => QI1 p (p.l.length, m)) (fun p (z : Nat × Mp) => runM p.l [] = z) (fun p z => QR1 p z))
def QI2 (p : QPQ) (x : Nat × Nat) : St V := ⟨[(3, .sl false 1 0 1 (evsOf (p.l.take x.1)).length ((evsOf (p.l.take x.1)).length + x.2)), (6, .sl false 0 0 4 p.l.length p.c), (7, .int .i64 (p.l.length : Int)), (8, .int .i64 (x.1 : Int))], [(1, .arr 3 Kd.int (evsOf (p.l.take x.1)) x.2), (0, .ro Kd.com p.l)], 2, 22, TQ⟩
def QL2 : LoopS V := trimLoop (trimSt [3, 6, 7, 8] [0]) (loopH 1 (fun p : QPQ => QI2 p (0, 0)) (fun _ (_ : Nat) => True) (fun p s => QI2 p (p.l.length, s)))
noncomputable def cfgQ1 : Cfg Try.prog V := ⟨tab, kinds, fun _ => none, fun _ => none, fun f id => match f, id with | 59, 0 => some QL1 | 61, 0 => some QL2 | _, _ => none⟩
theorem qb1 (p : QPQ) (x : Nat × Mp) : runCode cfgQ0 60 59 (loopOf Try.f59 0) (QI1 p x) (stopT (trimSt [0, 2, 3, 4, 10, 11, 12] [0, 1])) = Out.ite (decide ((↑x.1 : Int) < (↑p.l.length : Int))) (Out.need (0 ≤ (↑x.1 : Int) ∧ (↑x.1 : Int) < (↑p.l.length : Int)) (Out.need (0 + x.1 < p.l.length) (Out.ite ((p.l.getD (0 + x.1) (V.enc Kd.com).dflt).act == 2) (Out.ite (!((p.l.getD (0 + x.1) (V.enc Kd.com).dflt).act == (p.l.getD (0 + x.1) (V.enc Kd.com).dflt).act && ((p.l.getD (0 + x.1) (V.enc Kd.com).dflt).key == (p.l.getD (0 + x.1) (V.enc Kd.com).dflt).key && ((p.l.getD (0 + x.1) (V.enc Kd.com).dflt).value == (p.l.getD (0 + x.1) (V.enc Kd.com).dflt).value && (false == (p.l.getD (0 + x.1) (V.enc Kd.com).dflt).hit && true))))) (Out.stop EX.rt {env := [(0, .sl false 0 0 4 p.l.length p.2), (2, .int .i64 (↑x.1 : Int)), (3, .mp 1), (4, .mp 1), (10, .sl false 0 0 4 p.l.length p.2), (11, .int .i64 (↑p.l.length : Int)), (12, .int .i64 (↑x.1 : Int))], heap := [(1, .mp .i64 Kd.int x.snd), (0, .ro Kd.com p.l)], nx := 10, nt := 44, tl := [8, 5, 4, 2, 8, 4, 5, 2, 0, 1, 2, 3, 4, 5, 6, 7, 8, 9, 10, 11, 12, 13, 14, 15, 16] : St V }) (Out.ite ((p.l.getD (0 + x.1) (V.enc Kd.com).dflt).act == 2) (Out.stop EX.nx {env := [(0, .sl false 0 0 4 p.l.length p.2), (2, .und), (3, .und), (4, .mp 1), (10, .sl false 0 0 4 p.l.length p.2), (11, .int .i64 (↑p.l.length : Int)), (12, .int .i64 (IntKind.i64.wrap ((↑x.1 : Int) + 1)))], heap := [(1, .mp .i64 Kd.int (mput x.snd (p.l.getD (0 + x.1) (V.enc Kd.com).dflt).key (p.l.getD (0 + x.1) (V.enc Kd.com).dflt).value)), (0, .ro Kd.com p.l)], nx := 12, nt := 44, tl := [10, 8, 5, 4, 2, 1, 8, 4, 5, 2, 0, 1, 2, 3, 4, 5, 6, 7, 8, 9, 10, 11, 12, 13, 14, 15, 16] : St V }) (Out.ite ((p.l.getD (0 + x.1) (V.enc Kd.com).dflt).act == 3) (Out.ite ((p.l.getD (0 + x.1) (V.enc Kd.com).dflt).act == 3) (Out.stop EX.nx {env := [(0, .sl false 0 0 4 p.l.length p.2), (2, .und), (3, .und), (4, .mp 1), (10, .sl false 0 0 4 p.l.length p.2), (11, .int .i64 (↑p.l.length : Int)), (12, .int .i64 (IntKind.i64.wrap ((↑x.1 : Int) + 1)))], heap := [(1, .mp .i64 Kd.int (mdel x.snd (p.l.getD (0 + x.1) (V.enc Kd.com).dflt).key)), (0, .ro Kd.com p.l)], nx := 12, nt := 44, tl := [10, 8, 5, 4, 2, 1, 8, 4, 5, 2, 0, 1, 2, 3, 4, 5, 6, 7, 8, 9, 10, 11, 12, 13, 14, 15, 16] : St V }) (Out.stop EX.nx {env := [(0, .sl false 0 0 4 p.l.length p.2), (2, .und), (3, .und), (4, .mp 1), (10, .sl false 0 0 4 p.l.length p.2), (11, .int .i64 (↑p.l.length : Int)), (12, .int .i64 (IntKind.i64.wrap ((↑x.1 : Int) + 1)))], heap := [(1, .mp .i64 Kd.int x.snd), (0, .ro Kd.com p.l)], nx := 11, nt := 44, tl := [10, 8, 5, 4, 2, 8, 4, 5, 2, 0, 1, 2, 3, 4, 5, 6, 7, 8, 9, 10, 11, 12, 13, 14, 15, 16] : St V })) (Out.ite ((p.l.getD (0 + x.1) (V.enc Kd.com).dflt).act == 4) (Out.stop EX.nx {env := [(0, .sl false 0 0 4 p.l.length p.2), (2, .und), (3, .und), (4, .mp 1), (10, .sl false 0 0 4 p.l.length p.2), (11, .int .i64 (↑p.l.length : Int)), (12, .int .i64 (IntKind.i64.wrap ((↑x.1 : Int) + 1)))], heap := [(1, .mp .i64 Kd.int (mdel x.snd (p.l.getD (0 + x.1) (V.enc Kd.com).dflt).key)), (0, .ro Kd.com p.l)], nx := 12, nt := 44, tl := [10, 8, 5, 4, 2, 1, 8, 4, 5, 2, 0, 1, 2, 3, 4, 5, 6, 7, 8, 9, 10, 11, 12, 13, 14, 15, 16] : St V }) (Out.stop EX.nx {env := [(0, .sl false 0 0 4 p.l.length p.2), (2, .und), (3, .und), (4, .mp 1), (10, .sl false 0 0 4 p.l.length p.2), (11, .int .i64 (↑p.l.length : Int)), (12, .int .i64 (IntKind.i64.wrap ((↑x.1 : Int) + 1)))], heap := [(1, .mp .i64 Kd.int x.snd), (0, .ro Kd.com p.l)], nx := 11, nt := 44, tl := [10, 8, 5, 4, 2, 8, 4, 5, 2, 0, 1, 2, 3, 4, 5, 6, 7, 8, 9, 10, 11, 12, 13, 14, 15, 16] : St V }))))) (Out.ite ((p.l.getD (0 + x.1) (V.enc Kd.com).dflt).act == 1) (Out.ite ((p.l.getD (0 + x.1) (V.enc Kd.com).dflt).act == 1) (Out.ite (!((p.l.getD (0 + x.1) (V.enc Kd.com).dflt).act == (p.l.getD (0 + x.1) (V.enc Kd.com).dflt).act && ((p.l.getD (0 + x.1) (V.enc Kd.com).dflt).key == (p.l.getD (0 + x.1) (V.enc Kd.com).dflt).key && ((mget x.snd (p.l.getD (0 + x.1) (V.enc Kd.com).dflt).key).getD (V.enc Kd.int).dflt == (p.l.getD (0 + x.1) (V.enc Kd.com).dflt).value && ((mget x.snd (p.l.getD (0 + x.1) (V.enc Kd.com).dflt).key).isSome == (p.l.getD (0 + x.1) (V.enc Kd.com).dflt).hit && true))))) (Out.stop EX.rt {env := [(0, .sl false 0 0 4 p.l.length p.2), (2, .int .i64 (↑x.1 : Int)), (3, .mp 1), (4, .mp 1), (10, .sl false 0 0 4 p.l.length p.2), (11, .int .i64 (↑p.l.length : Int)), (12, .int .i64 (↑x.1 : Int))], heap := [(1, .mp .i64 Kd.int x.snd), (0, .ro Kd.com p.l)], nx := 10, nt := 44, tl := [8, 5, 4, 2, 8, 4, 5, 2, 0, 1, 2, 3, 4, 5, 6, 7, 8, 9, 10, 11, 12, 13, 14, 15, 16] : St V }) (Out.ite ((p.l.getD (0 + x.1) (V.enc Kd.com).dflt).act == 2) (Out.stop EX.nx {env := [(0, .sl false 0 0 4 p.l.length p.2), (2, .und), (3, .und), (4, .mp 1), (10, .sl false 0 0 4 p.l.length p.2), (11, .int .i64 (↑p.l.length : Int)), (12, .int .i64 (IntKind.i64.wrap ((↑x.1 : Int) + 1)))], heap := [(1, .mp .i64 Kd.int (mput x.snd (p.l.getD (0 + x.1) (V.enc Kd.com).dflt).key (p.l.getD (0 + x.1) (V.enc Kd.com).dflt).value)), (0, .ro Kd.com p.l)], nx := 12, nt := 44, tl := [10, 8, 5, 4, 2, 1, 8, 4, 5, 2, 0, 1, 2, 3, 4, 5, 6, 7, 8, 9, 10, 11, 12, 13, 14, 15, 16] : St V }) (Out.ite ((p.l.getD (0 + x.1) (V.enc Kd.com).dflt).act == 3) (Out.ite ((p.l.getD (0 + x.1) (V.enc Kd.com).dflt).act == 3) (Out.stop EX.nx {env := [(0, .sl false 0 0 4 p.l.length p.2), (2, .und), (3, .und), (4, .mp 1), (10, .sl false 0 0 4 p.l.length p.2), (11, .int .i64 (↑p.l.length : Int)), (12, .int .i64 (IntKind.i64.wrap ((↑x.1 : Int) + 1)))], heap := [(1, .mp .i64 Kd.int (mdel x.snd (p.l.getD (0 + x.1) (V.enc Kd.com).dflt).key)), (0, .ro Kd.com p.l)], nx := 12, nt := 44, tl := [10, 8, 5, 4, 2, 1, 8, 4, 5, 2, 0, 1, 2, 3, 4, 5, 6, 7, 8, 9, 10, 11, 12, 13, 14, 15, 16] : St V }) (Out.stop EX.nx {env := [(0, .sl false 0 0 4 p.l.length p.2), (2, .und), (3, .und), (4, .mp 1), (10, .sl false 0 0 4 p.l.length p.2), (11, .int .i64 (↑p.l.length : Int)), (12, .int .i64 (IntKind.i64.wrap ((↑x.1 : Int) + 1)))], heap := [(1, .mp .i64 Kd.int x.snd), (0, .ro Kd.com p.l)], nx := 11, nt := 44, tl := [10, 8, 5, 4, 2, 8, 4, 5, 2, 0, 1, 2, 3, 4, 5, 6, 7, 8, 9, 10, 11, 12, 13, 14, 15, 16] : St V })) (Out.ite ((p.l.getD (0 + x.1) (V.enc Kd.com).dflt).act == 4) (Out.stop EX.nx {env := [(0, .sl false 0 0 4 p.l.length p.2), (2, .und), (3, .und), (4, .mp 1), (10, .sl false 0 0 4 p.l.length p.2), (11, .int .i64 (↑p.l.length : Int)), (12, .int .i64 (IntKind.i64.wrap ((↑x.1 : Int) + 1)))], heap := [(1, .mp .i64 Kd.int (mdel x.snd (p.l.getD (0 + x.1) (V.enc Kd.com).dflt).key)), (0, .ro Kd.com p.l)], nx := 12, nt := 44, tl := [10, 8, 5, 4, 2, 1, 8, 4, 5, 2, 0, 1, 2, 3, 4, 5, 6, 7, 8, 9, 10, 11, 12, 13, 14, 15, 16] : St V }) (Out.stop EX.nx {env := [(0, .sl false 0 0 4 p.l.length p.2), (2, .und), (3, .und), (4, .mp 1), (10, .sl false 0 0 4 p.l.length p.2), (11, .int .i64 (↑p.l.length : Int)), (12, .int .i64 (IntKind.i64.wrap ((↑x.1 : Int) + 1)))], heap := [(1, .mp .i64 Kd.int x.snd), (0, .ro Kd.com p.l)], nx := 11, nt := 44, tl := [10, 8, 5, 4, 2, 8, 4, 5, 2, 0, 1, 2, 3, 4, 5, 6, 7, 8, 9, 10, 11, 12, 13, 14, 15, 16] : St V }))))) (Out.ite ((p.l.getD (0 + x.1) (V.enc Kd.com).dflt).act == 4) (Out.ite (!(mget x.snd (p.l.getD (0 + x.1) (V.enc Kd.com).dflt).key).isSome) (Out.stop EX.rt {env := [(0, .sl false 0 0 4 p.l.length p.2), (2, .int .i64 (↑x.1 : Int)), (3, .mp 1), (4, .mp 1), (10, .sl false 0 0 4 p.l.length p.2), (11, .int .i64 (↑p.l.length : Int)), (12, .int .i64 (↑x.1 : Int))], heap := [(1, .mp .i64 Kd.int x.snd), (0, .ro Kd.com p.l)], nx := 10, nt := 44, tl := [8, 5, 4, 2, 8, 4, 5, 2, 0, 1, 2, 3, 4, 5, 6, 7, 8, 9, 10, 11, 12, 13, 14, 15, 16] : St V }) (Out.ite (!((p.l.getD (0 + x.1) (V.enc Kd.com).dflt).act == (p.l.getD (0 + x.1) (V.enc Kd.com).dflt).act && ((p.l.getD (0 + x.1) (V.enc Kd.com).dflt).key == (p.l.getD (0 + x.1) (V.enc Kd.com).dflt).key && ((mget x.snd (p.l.getD (0 + x.1) (V.enc Kd.com).dflt).key).getD (V.enc Kd.int).dflt == (p.l.getD (0 + x.1) (V.enc Kd.com).dflt).value && ((mget x.snd (p.l.getD (0 + x.1) (V.enc Kd.com).dflt).key).isSome == (p.l.getD (0 + x.1) (V.enc Kd.com).dflt).hit && true))))) (Out.stop EX.rt {env := [(0, .sl false 0 0 4 p.l.length p.2), (2, .int .i64 (↑x.1 : Int)), (3, .mp 1), (4, .mp 1), (10, .sl false 0 0 4 p.l.length p.2), (11, .int .i64 (↑p.l.length : Int)), (12, .int .i64 (↑x.1 : Int))], heap := [(1, .mp .i64 Kd.int x.snd), (0, .ro Kd.com p.l)], nx := 10, nt := 44, tl := [8, 5, 4, 2, 8, 4, 5, 2, 0, 1, 2, 3, 4, 5, 6, 7, 8, 9, 10, 11, 12, 13, 14, 15, 16] : St V }) (Out.ite ((p.l.getD (0 + x.1) (V.enc Kd.com).dflt).act == 2) (Out.stop EX.nx {env := [(0, .sl false 0 0 4 p.l.length p.2), (2, .und), (3, .und), (4, .mp 1), (10, .sl false 0 0 4 p.l.length p.2), (11, .int .i64 (↑p.l.length : Int)), (12, .int .i64 (IntKind.i64.wrap ((↑x.1 : Int) + 1)))], heap := [(1, .mp .i64 Kd.int (mput x.snd (p.l.getD (0 + x.1) (V.enc Kd.com).dflt).key (p.l.getD (0 + x.1) (V.enc Kd.com).dflt).value)), (0, .ro Kd.com p.l)], nx := 12, nt := 44, tl := [10, 8, 5, 4, 2, 1, 8, 4, 5, 2, 0, 1, 2, 3, 4, 5, 6, 7, 8, 9, 10, 11, 12, 13, 14, 15, 16] : St V }) (Out.ite ((p.l.getD (0 + x.1) (V.enc Kd.com).dflt).act == 3) (Out.ite ((p.l.getD (0 + x.1) (V.enc Kd.com).dflt).act == 3) (Out.stop EX.nx {env := [(0, .sl false 0 0 4 p.l.length p.2), (2, .und), (3, .und), (4, .mp 1), (10, .sl false 0 0 4 p.l.length p.2), (11, .int .i64 (↑p.l.length : Int)), (12, .int .i64 (IntKind.i64.wrap ((↑x.1 : Int) + 1)))], heap := [(1, .mp .i64 Kd.int (mdel x.snd (p.l.getD (0 + x.1) (V.enc Kd.com).dflt).key)), (0, .ro Kd.com p.l)], nx := 12, nt := 44, tl := [10, 8, 5, 4, 2, 1, 8, 4, 5, 2, 0, 1, 2, 3, 4, 5, 6, 7, 8, 9, 10, 11, 12, 13, 14, 15, 16] : St V }) (Out.stop EX.nx {env := [(0, .sl false 0 0 4 p.l.length p.2), (2, .und), (3, .und), (4, .mp 1), (10, .sl false 0 0 4 p.l.length p.2), (11, .int .i64 (↑p.l.length : Int)), (12, .int .i64 (IntKind.i64.wrap ((↑x.1 : Int) + 1)))], heap := [(1, .mp .i64 Kd.int x.snd), (0, .ro Kd.com p.l)], nx := 11, nt := 44, tl := [10, 8, 5, 4, 2, 8, 4, 5, 2, 0, 1, 2, 3, 4, 5, 6, 7, 8, 9, 10, 11, 12, 13, 14, 15, 16] : St V })) (Out.ite ((p.l.getD (0 + x.1) (V.enc Kd.com).dflt).act == 4) (Out.stop EX.nx {env := [(0, .sl false 0 0 4 p.l.length p.2), (2, .und), (3, .und), (4, .mp 1), (10, .sl false 0 0 4 p.l.length p.2), (11, .int .i64 (↑p.l.length : Int)), (12, .int .i64 (IntKind.i64.wrap ((↑x.1 : Int) + 1)))], heap := [(1, .mp .i64 Kd.int (mdel x.snd (p.l.getD (0 + x.1) (V.enc Kd.com).dflt).key)), (0, .ro Kd.com p.l)], nx := 12, nt := 44, tl := [10, 8, 5, 4, 2, 1, 8, 4, 5, 2, 0, 1, 2, 3, 4, 5, 6, 7, 8, 9, 10, 11, 12, 13, 14, 15, 16] : St V }) (Out.stop EX.nx {env := [(0, .sl false 0 0 4 p.l.length p.2), (2, .und), (3, .und), (4, .mp 1), (10, .sl false 0 0 4 p.l.length p.2), (11, .int .i64 (↑p.l.length : Int)), (12, .int .i64 (IntKind.i64.wrap ((↑x.1 : Int) + 1)))], heap := [(1, .mp .i64 Kd.int x.snd), (0, .ro Kd.com p.l)], nx := 11, nt := 44, tl := [10, 8, 5, 4, 2, 8, 4, 5, 2, 0, 1, 2, 3, 4, 5, 6, 7, 8, 9, 10, 11, 12, 13, 14, 15, 16] : St V })))))) (Out.stop EX.rt {env := [(0, .sl false 0 0 4 p.l.length p.2), (2, .int .i64 (↑x.1 : Int)), (3, .mp 1), (4, .mp 1), (10, .sl false 0 0 4 p.l.length p.2), (11, .int .i64 (↑p.l.length : Int)), (12, .int .i64 (↑x.1 : Int))], heap := [(1, .mp .i64 Kd.int x.snd), (0, .ro Kd.com p.l)], nx := 10, nt := 44, tl := [8, 5, 4, 2, 8, 4, 5, 2, 0, 1, 2, 3, 4, 5, 6, 7, 8, 9, 10, 11, 12, 13, 14, 15, 16] : St V }))) (Out.ite ((p.l.getD (0 + x.1) (V.enc Kd.com).dflt).act == 3) (Out.ite (!((p.l.getD (0 + x.1) (V.enc Kd.com).dflt).act == (p.l.getD (0 + x.1) (V.enc Kd.com).dflt).act && ((p.l.getD (0 + x.1) (V.enc Kd.com).dflt).key == (p.l.getD (0 + x.1) (V.enc Kd.com).dflt).key && ((mget x.snd (p.l.getD (0 + x.1) (V.enc Kd.com).dflt).key).getD (V.enc Kd.int).dflt == (p.l.getD (0 + x.1) (V.enc Kd.com).dflt).value && ((mget x.snd (p.l.getD (0 + x.1) (V.enc Kd.com).dflt).key).isSome == (p.l.getD (0 + x.1) (V.enc Kd.com).dflt).hit && true))))) (Out.stop EX.rt {env := [(0, .sl false 0 0 4 p.l.length p.2), (2, .int .i64 (↑x.1 : Int)), (3, .mp 1), (4, .mp 1), (10, .sl false 0 0 4 p.l.length p.2), (11, .int .i64 (↑p.l.length : Int)), (12, .int .i64 (↑x.1 : Int))], heap := [(1, .mp .i64 Kd.int x.snd), (0, .ro Kd.com p.l)], nx := 10, nt := 44, tl := [8, 5, 4, 2, 8, 4, 5, 2, 0, 1, 2, 3, 4, 5, 6, 7, 8, 9, 10, 11, 12, 13, 14, 15, 16] : St V }) (Out.ite ((p.l.getD (0 + x.1) (V.enc Kd.com).dflt).act == 2) (Out.stop EX.nx {env := [(0, .sl false 0 0 4 p.l.length p.2), (2, .und), (3, .und), (4, .mp 1), (10, .sl false 0 0 4 p.l.length p.2), (11, .int .i64 (↑p.l.length : Int)), (12, .int .i64 (IntKind.i64.wrap ((↑x.1 : Int) + 1)))], heap := [(1, .mp .i64 Kd.int (mput x.snd (p.l.getD (0 + x.1) (V.enc Kd.com).dflt).key (p.l.getD (0 + x.1) (V.enc Kd.com).dflt).value)), (0, .ro Kd.com p.l)], nx := 12, nt := 44, tl := [10, 8, 5, 4, 2, 1, 8, 4, 5, 2, 0, 1, 2, 3, 4, 5, 6, 7, 8, 9, 10, 11, 12, 13, 14, 15, 16] : St V }) (Out.ite ((p.l.getD (0 + x.1) (V.enc Kd.com).dflt).act == 3) (Out.ite ((p.l.getD (0 + x.1) (V.enc Kd.com).dflt).act == 3) (Out.stop EX.nx {env := [(0, .sl false 0 0 4 p.l.length p.2), (2, .und), (3, .und), (4, .mp 1), (10, .sl false 0 0 4 p.l.length p.2), (11, .int .i64 (↑p.l.length : Int)), (12, .int .i64 (IntKind.i64.wrap ((↑x.1 : Int) + 1)))], heap := [(1, .mp .i64 Kd.int (mdel x.snd (p.l.getD (0 + x.1) (V.enc Kd.com).dflt).key)), (0, .ro Kd.com p.l)], nx := 12, nt := 44, tl := [10, 8, 5, 4, 2, 1, 8, 4, 5, 2, 0, 1, 2, 3, 4, 5, 6, 7, 8, 9, 10, 11, 12, 13, 14, 15, 16] : St V }) (Out.stop EX.nx {env := [(0, .sl false 0 0 4 p.l.length p.2), (2, .und), (3, .und), (4, .mp 1), (10, .sl false 0 0 4 p.l.length p.2), (11, .int .i64 (↑p.l.length : Int)), (12, .int .i64 (IntKind.i64.wrap ((↑x.1 : Int) + 1)))], heap := [(1, .mp .i64 Kd.int x.snd), (0, .ro Kd.com p.l)], nx := 11, nt := 44, tl := [10, 8, 5, 4, 2, 8, 4, 5, 2, 0, 1, 2, 3, 4, 5, 6, 7, 8, 9, 10, 11, 12, 13, 14, 15, 16] : St V })) (Out.ite ((p.l.getD (0 + x.1) (V.enc Kd.com).dflt).act == 4) (Out.stop EX.nx {env := [(0, .sl false 0 0 4 p.l.length p.2), (2, .und), (3, .und), (4, .mp 1), (10, .sl false 0 0 4 p.l.length p.2), (11, .int .i64 (↑p.l.length : Int)), (12, .int .i64 (IntKind.i64.wrap ((↑x.1 : Int) + 1)))], heap := [(1, .mp .i64 Kd.int (mdel x.snd (p.l.getD (0 + x.1) (V.enc Kd.com).dflt).key)), (0, .ro Kd.com p.l)], nx := 12, nt := 44, tl := [10, 8, 5, 4, 2, 1, 8, 4, 5, 2, 0, 1, 2, 3, 4, 5, 6, 7, 8, 9, 10, 11, 12, 13, 14, 15, 16] : St V }) (Out.stop EX.nx {env := [(0, .sl false 0 0 4 p.l.length p.2), (2, .und), (3, .und), (4, .mp 1), (10, .sl false 0 0 4 p.l.length p.2), (11, .int .i64 (↑p.l.length : Int)), (12, .int .i64 (IntKind.i64.wrap ((↑x.1 : Int) + 1)))], heap := [(1, .mp .i64 Kd.int x.snd), (0, .ro Kd.com p.l)], nx := 11, nt := 44, tl := [10, 8, 5, 4, 2, 8, 4, 5, 2, 0, 1, 2, 3, 4, 5, 6, 7, 8, 9, 10, 11, 12, 13, 14, 15, 16] : St V }))))) (Out.ite ((p.l.getD (0 + x.1) (V.enc Kd.com).dflt).act == 4) (Out.ite (!(mget x.snd (p.l.getD (0 + x.1) (V.enc Kd.com).dflt).key).isSome) (Out.stop EX.rt {env := [(0, .sl false 0 0 4 p.l.length p.2), (2, .int .i64 (↑x.1 : Int)), (3, .mp 1), (4, .mp 1), (10, .sl false 0 0 4 p.l.length p.2), (11, .int .i64 (↑p.l.length : Int)), (12, .int .i64 (↑x.1 : Int))], heap := [(1, .mp .i64 Kd.int x.snd), (0, .ro Kd.com p.l)], nx := 10, nt := 44, tl := [8, 5, 4, 2, 8, 4, 5, 2, 0, 1, 2, 3, 4, 5, 6, 7, 8, 9, 10, 11, 12, 13, 14, 15, 16] : St V }) (Out.ite (!((p.l.getD (0 + x.1) (V.enc Kd.com).dflt).act == (p.l.getD (0 + x.1) (V.enc Kd.com).dflt).act && ((p.l.getD (0 + x.1) (V.enc Kd.com).dflt).key == (p.l.getD (0 + x.1) (V.enc Kd.com).dflt).key && ((mget x.snd (p.l.getD (0 + x.1) (V.enc Kd.com).dflt).key).getD (V.enc Kd.int).dflt == (p.l.getD (0 + x.1) (V.enc Kd.com).dflt).value && ((mget x.snd (p.l.getD (0 + x.1) (V.enc Kd.com).dflt).key).isSome == (p.l.getD (0 + x.1) (V.enc Kd.com).dflt).hit && true))))) (Out.stop EX.rt {env := [(0, .sl false 0 0 4 p.l.length p.2), (2, .int .i64 (↑x.1 : Int)), (3, .mp 1), (4, .mp 1), (10, .sl false 0 0 4 p.l.length p.2), (11, .int .i64 (↑p.l.length : Int)), (12, .int .i64 (↑x.1 : Int))], heap := [(1, .mp .i64 Kd.int x.snd), (0, .ro Kd.com p.l)], nx := 10, nt := 44, tl := [8, 5, 4, 2, 8, 4, 5, 2, 0, 1, 2, 3, 4, 5, 6, 7, 8, 9, 10, 11, 12, 13, 14, 15, 16] : St V }) (Out.ite ((p.l.getD (0 + x.1) (V.enc Kd.com).dflt).act == 2) (Out.stop EX.nx {env := [(0, .sl false 0 0 4 p.l.length p.2), (2, .und), (3, .und), (4, .mp 1), (10, .sl false 0 0 4 p.l.length p.2), (11, .int .i64 (↑p.l.length : Int)), (12, .int .i64 (IntKind.i64.wrap ((↑x.1 : Int) + 1)))], heap := [(1, .mp .i64 Kd.int (mput x.snd (p.l.getD (0 + x.1) (V.enc Kd.com).dflt).key (p.l.getD (0 + x.1) (V.enc Kd.com).dflt).value)), (0, .ro Kd.com p.l)], nx := 12, nt := 44, tl := [10, 8, 5, 4, 2, 1, 8, 4, 5, 2, 0, 1, 2, 3, 4, 5, 6, 7, 8, 9, 10, 11, 12, 13, 14, 15, 16] : St V }) (Out.ite ((p.l.getD (0 + x.1) (V.enc Kd.com).dflt).act == 3) (Out.ite ((p.l.getD (0 + x.1) (V.enc Kd.com).dflt).act == 3) (Out.stop EX.nx {env := [(0, .sl false 0 0 4 p.l.length p.2), (2, .und), (3, .und), (4, .mp 1), (10, .sl false 0 0 4 p.l.length p.2), (11, .int .i64 (↑p.l.length : Int)), (12, .int .i64 (IntKind.i64.wrap ((↑x.1 : Int) + 1)))], heap := [(1, .mp .i64 Kd.int (mdel x.snd (p.l.getD (0 + x.1) (V.enc Kd.com).dflt).key)), (0, .ro Kd.com p.l)], nx := 12, nt := 44, tl := [10, 8, 5, 4, 2, 1, 8, 4, 5, 2, 0, 1, 2, 3, 4, 5, 6, 7, 8, 9, 10, 11, 12, 13, 14, 15, 16] : St V }) (Out.stop EX.nx {env := [(0, .sl false 0 0 4 p.l.length p.2), (2, .und), (3, .und), (4, .mp 1), (10, .sl false 0 0 4 p.l.length p.2), (11, .int .i64 (↑p.l.length : Int)), (12, .int .i64 (IntKind.i64.wrap ((↑x.1 : Int) + 1)))], heap := [(1, .mp .i64 Kd.int x.snd), (0, .ro Kd.com p.l)], nx := 11, nt := 44, tl := [10, 8, 5, 4, 2, 8, 4, 5, 2, 0, 1, 2, 3, 4, 5, 6, 7, 8, 9, 10, 11, 12, 13, 14, 15, 16] : St V })) (Out.ite ((p.l.getD (0 + x.1) (V.enc Kd.com).dflt).act == 4) (Out.stop EX.nx {env := [(0, .sl false 0 0 4 p.l.length p.2), (2, .und), (3, .und), (4, .mp 1), (10, .sl false 0 0 4 p.l.length p.2), (11, .int .i64 (↑p.l.length : Int)), (12, .int .i64 (IntKind.i64.wrap ((↑x.1 : Int) + 1)))], heap := [(1, .mp .i64 Kd.int (mdel x.snd (p.l.getD (0 + x.1) (V.enc Kd.com).dflt).key)), (0, .ro Kd.com p.l)], nx := 12, nt := 44, tl := [10, 8, 5, 4, 2, 1, 8, 4, 5, 2, 0, 1, 2, 3, 4, 5, 6, 7, 8, 9, 10, 11, 12, 13, 14, 15, 16] : St V }) (Out.stop EX.nx {env := [(0, .sl false 0 0 4 p.l.length p.2), (2, .und), (3, .und), (4, .mp 1), (10, .sl false 0 0 4 p.l.length p.2), (11, .int .i64 (↑p.l.length : Int)), (12, .int .i64 (IntKind.i64.wrap ((↑x.1 : Int) + 1)))], heap := [(1, .mp .i64 Kd.int x.snd), (0, .ro Kd.com p.l)], nx := 11, nt := 44, tl := [10, 8, 5, 4, 2, 8, 4, 5, 2, 0, 1, 2, 3, 4, 5, 6, 7, 8, 9, 10, 11, 12, 13, 14, 15, 16] : St V })))))) (Out.stop EX.rt {env := [(0, .sl false 0 0 4 p.l.length p.2), (2, .int .i64 (↑x.1 : Int)), (3, .mp 1), (4, .mp 1), (10, .sl false 0 0 4 p.l.length p.2), (11, .int .i64 (↑p.l.length : Int)), (12, .int .i64 (↑x.1 : Int))], heap := [(1, .mp .i64 Kd.int x.snd), (0, .ro Kd.com p.l)], nx := 10, nt := 44, tl := [8, 5, 4, 2, 8, 4, 5, 2, 0, 1, 2, 3, 4, 5, 6, 7, 8, 9, 10, 11, 12, 13, 14, 15, 16] : St V }))))))) (Out.stop (EX.ex 0) {env := [(0, .sl false 0 0 4 p.l.length p.2), (2, .und), (3, .und), (4, .mp 1), (10, .sl false 0 0 4 p.l.length p.2), (11, .int .i64 (↑p.l.length : Int)), (12, .int .i64 (↑x.1 : Int))], heap := [(1, .mp .i64 Kd.int x.snd), (0, .ro Kd.com p.l)], nx := 2, nt := 44, tl := [0, 1, 2, 3, 4, 5, 6, 7, 8, 9, 10, 11, 12, 13, 14, 15, 16] : St V }) := by kernel_rfl

theorem qb2 (p : QPQ) (x : Nat × Nat) : runCode cfgQ0 60 61 (loopOf Try.f61 0) (QI2 p x) (stopT (trimSt [3, 6, 7, 8] [0, 1, 2, 3, 4, 5, 6])) = Out.ite (decide ((↑x.1 : Int) < (↑p.l.length : Int))) (Out.need (0 ≤ (↑x.1 : Int) ∧ (↑x.1 : Int) < (↑p.l.length : Int)) (Out.need (0 + x.1 < p.l.length) (Out.ite ((p.l.getD (0 + x.1) (V.enc Kd.com).dflt).act == 4) (Out.need (0 = 0 ∧ (evsOf (List.take x.1 p.l)).length = (evsOf (List.take x.1 p.l)).length ∧ (evsOf (List.take x.1 p.l)).length + x.2 = (evsOf (List.take x.1 p.l)).length + x.2 ∧ ((evsOf (List.take x.1 p.l)).length + 1) * 8 ≤ 140737488355328) (Out.all Nat fun y => Out.stop EX.nx {env := [(3, .sl false 5 0 1 ((evsOf (List.take x.1 p.l)).length + 1) ((evsOf (List.take x.1 p.l)).length + 1 + y)), (6, .sl false 0 0 4 p.l.length p.2), (7, .int .i64 (↑p.l.length : Int)), (8, .int .i64 (IntKind.i64.wrap ((↑x.1 : Int) + 1)))], heap := [(5, .arr 3 Kd.int (evsOf (List.take x.1 p.l) ++ [(p.l.getD (0 + x.1) (V.enc Kd.com).dflt).key]) y), (4, .cells 3 [.int .i64 (p.l.getD (0 + x.1) (V.enc Kd.com).dflt).key]), (2, .cells 27 [.int .i64 (p.l.getD (0 + x.1) (V.enc Kd.com).dflt).act, .int .i64 (p.l.getD (0 + x.1) (V.enc Kd.com).dflt).key, .int .i64 (p.l.getD (0 + x.1) (V.enc Kd.com).dflt).value, .bool (p.l.getD (0 + x.1) (V.enc Kd.com).dflt).hit]), (0, .ro Kd.com p.l)], nx := 6, nt := 22, tl := [1, 2, 0, 1, 2, 3, 4, 5, 6, 7, 8, 9, 10, 11, 12, 13, 14, 15, 16] : St V })) (Out.stop EX.nx {env := [(3, .sl false 1 0 1 (evsOf (List.take x.1 p.l)).length ((evsOf (List.take x.1 p.l)).length + x.2)), (6, .sl false 0 0 4 p.l.length p.2), (7, .int .i64 (↑p.l.length : Int)), (8, .int .i64 (IntKind.i64.wrap ((↑x.1 : Int) + 1)))], heap := [(2, .cells 27 [.int .i64 (p.l.getD (0 + x.1) (V.enc Kd.com).dflt).act, .int .i64 (p.l.getD (0 + x.1) (V.enc Kd.com).dflt).key, .int .i64 (p.l.getD (0 + x.1) (V.enc Kd.com).dflt).value, .bool (p.l.getD (0 + x.1) (V.enc Kd.com).dflt).hit]), (1, .arr 3 Kd.int (evsOf (List.take x.1 p.l)) x.2), (0, .ro Kd.com p.l)], nx := 4, nt := 22, tl := [2, 0, 1, 2, 3, 4, 5, 6, 7, 8, 9, 10, 11, 12, 13, 14, 15, 16] : St V })))) (Out.stop (EX.ex 0) {env := [(3, .sl false 1 0 1 (evsOf (List.take x.1 p.l)).length ((evsOf (List.take x.1 p.l)).length + x.2)), (6, .sl false 0 0 4 p.l.length p.2), (7, .int .i64 (↑p.l.length : Int)), (8, .int .i64 (↑x.1 : Int))], heap := [(1, .arr 3 Kd.int (evsOf (List.take x.1 p.l)) x.2), (0, .ro Kd.com p.l)], nx := 2, nt := 22, tl := [0, 1, 2, 3, 4, 5, 6, 7, 8, 9, 10, 11, 12, 13, 14, 15, 16] : St V }) := by kernel_rfl

theorem qt1 (l : List Com) (c : Nat) : runF cfgQ1 60 59 Try.f59 [.sl false 0 0 4 l.length c] [(0, .ro Kd.com l)] 1 = Out.need (LoopFor Try.prog 59 0 (loopOf Try.f59 0) QL1) (Out.ex (QPQ → Prop) fun y => Out.need (2 ≤ 2 ∧ SImp 2 {env := [(0, .sl false 0 0 4 l.length c), (4, .mp 1), (10, .sl false 0 0 4 l.length c), (11, .int .i64 (↑l.length : Int)), (12, .lit .i64 0)], heap := [(1, .mp .i64 Kd.int []), (0, .ro Kd.com l)], nx := 2, nt := 44, tl := [] : St V } (fun p => QI1 p (0, [])) y) (Out.all QPQ fun y_1 => Out.asm (y y_1) ((Out.all Mp fun y => Out.asm ((fun p m => runM p.l [] = (p.l.length, m)) y_1 y) (Out.fin (.tup [.int .i64 (↑y_1.l.length : Int), .mp 1]) [(1, .mp .i64 Kd.int (y_1.l.length, y).snd), (0, .ro Kd.com y_1.l)] 2)).both (Out.all (Nat × Mp) fun y => Out.asm ((fun p z => runM p.l [] = z) y_1 y) (Out.fin (.tup [.int .i64 (↑y.1 : Int), .mp 1]) [(1, .mp .i64 Kd.int y.snd), (0, .ro Kd.com y_1.l)] 2))))) := by kernel_rfl

theorem qt2 (l : List Com) (c : Nat) : runF cfgQ1 60 61 Try.f61 [.sl false 0 0 4 l.length c] [(0, .ro Kd.com l)] 1 = Out.need (LoopFor Try.prog 61 0 (loopOf Try.f61 0) QL2) (Out.ex (QPQ → Prop) fun y => Out.need (1 ≤ 1 ∧ SImp 1 {env := [(3, .nilS), (6, .sl false 0 0 4 l.length c), (7, .int .i64 (↑l.length : Int)), (8, .lit .i64 0)], heap := [(0, .ro Kd.com l)], nx := 1, nt := 22, tl := [] : St V } (fun p => QI2 p (0, 0)) y) (Out.all QPQ fun y_1 => Out.asm (y y_1) (Out.all Nat fun y => Out.asm ((fun x x_1 => True) y_1 y) (Out.fin (.sl false 1 0 1 (evsOf (List.take (y_1.l.length, y).fst y_1.l)).length ((evsOf (List.take (y_1.l.length, y).fst y_1.l)).length + y)) [(1, .arr 3 Kd.int (evsOf (List.take (y_1.l.length, y).fst y_1.l)) y), (0, .ro Kd.com y_1.l)] 2)))) := by kernel_rfl

end Sx
end Go.Proofs.Ytemcdjdglcceiaa

/-
  What commits are legal, by a map: what the functions do.
-/
namespace Go.Proofs.Ytemcdjdglcceiaa
namespace Sx
open Go
set_option linter.unusedSimpArgs false
set_option linter.unusedVariables false

theorem cfgQ0_ok : cfgQ0.ok := by
  refine ⟨tab_met, kinds_met, mixed_met, fun g fn h => ?_, fun g H h => (by cases h)⟩
  unfold cfgQ0 fnsQ at h
  simp only at h
  split at h <;> cases h <;> exact ⟨by kernel_rfl, by kernel_rfl⟩
theorem cfgQ1_ok : cfgQ1.ok := ⟨tab_met, kinds_met, mixed_met, fun g fn h => (by cases h), fun g H h => (by cases h)⟩

theorem okC_iff (g : Option Int) (c : Com) : okC g c ↔ (c.act = 2 ∧ c.hit = false) ∨ ((c.act = 1 ∨ c.act = 3) ∧ g.getD 0 = c.value ∧ g.isSome = c.hit) ∨ (c.act = 4 ∧ g.isSome = true ∧ g.getD 0 = c.value ∧ c.hit = true) := by
  obtain ⟨a, k, v, h⟩ := c
  unfold okC ansC cc0
  simp only
  by_cases h2 : a = 2
  · subst h2; cases h <;> simp
  · by_cases h1 : a = 1
    · subst h1; simp
    · by_cases h3 : a = 3
      · subst h3; simp
      · by_cases h4 : a = 4
        · subst h4
          cases hg : g.isSome <;> cases h <;> simp
        · simp [h1, h2, h3, h4]
          intro e _ _ _
          exact e.symm

theorem qbody1 (p : QPQ) (x : Nat × Mp) (hi : x.1 ≤ p.l.length) (Q : EX → St V → Prop) (F : AV → Heap V → Nat → Prop)
    (hrt : ∀ ST : St V, x.1 < p.l.length → ¬ okC (mget x.2 (p.l.getD x.1 cc0).key) (p.l.getD x.1 cc0) → Wk 2 [] ST (QR1 p x) → Q .rt ST)
    (hnx : ∀ ST : St V, x.1 < p.l.length → okC (mget x.2 (p.l.getD x.1 cc0).key) (p.l.getD x.1 cc0) → Wk 2 [] ST (QI1 p (x.1 + 1, doM x.2 (p.l.getD x.1 cc0))) → Q .nx ST)
    (hex : ∀ ST : St V, x.1 = p.l.length → Wk 2 [] ST (QI1 p x) → Q (.ex 0) ST) :
    (runCode cfgQ0 60 59 (loopOf Try.f59 0) (QI1 p x) (stopT (trimSt [0, 2, 3, 4, 10, 11, 12] [0, 1]))).holds ⟨Q, F⟩ := by
  rw [qb1]
  have hb := p.hb
  have hw : x.1 < p.l.length → IntKind.wrap .i64 ((x.1 : Int) + 1) = ((x.1 + 1 : Nat) : Int) := fun h => wrap_nat (by omega)
  rw [show (0 + x.1) = x.1 from Nat.zero_add _, show p.l.getD x.1 (V.enc Kd.com).dflt = p.l.getD x.1 cc0 from rfl, show (V.enc Kd.int).dflt = (0 : Int) from rfl]
  generalize p.l.getD x.1 cc0 = c at hrt hnx ⊢
  rw [okC_iff] at hrt hnx
  have em : ∀ {m m' : Mp}, m = m' → BSub (some (.mp .i64 Kd.int m : Blk V)) (.mp .i64 Kd.int m') := fun h => by rw [h]; exact .same _
  simp only [Out.holds, decide_eq_true_eq, decide_eq_false_iff_not, beq_iff_eq, beq_eq_false_iff_ne, beq_self_eq_true, Bool.true_and, Bool.and_true, Bool.not_eq_true', Bool.not_eq_false', Bool.and_eq_true, Bool.and_eq_false_imp]
  by_cases hlt : x.1 < p.l.length
  · refine ⟨fun _ => ⟨by omega, hlt, ?_⟩, fun h => absurd hlt (by omega)⟩
    generalize mget x.2 c.key = g at hrt hnx ⊢
    repeat' first | apply And.intro | intro _
    all_goals first
      | (exfalso; omega)
      | exact hrt _ hlt (by simp_all) ⟨⟨AV.sub_same _, AV.sub_same _, trivial⟩, ⟨.same _, .same _, trivial⟩, rfl, tl_ok rfl, ⟨.inl (in_ok rfl), .inr rfl, trivial⟩, ⟨Nat.le_of_ble_eq_true rfl, rfl⟩⟩
      | exact hnx _ hlt (by simp_all) ⟨⟨AV.sub_same _, AV.sub_same _, AV.sub_same _, AV.sub_same _, AV.sub_int (hw hlt), trivial⟩, ⟨em (by unfold doM; simp_all), .same _, trivial⟩, rfl, tl_ok rfl, ⟨.inl (in_ok rfl), .inr rfl, trivial⟩, ⟨Nat.le_of_ble_eq_true rfl, rfl⟩⟩
      | skip
  · exact ⟨fun h => absurd h (by omega), fun h => hex _ (by omega) ⟨⟨AV.sub_same _, AV.sub_same _, AV.sub_same _, AV.sub_same _, AV.sub_same _, trivial⟩, ⟨.same _, .same _, trivial⟩, rfl, tl_ok rfl, ⟨.inl (in_ok rfl), .inr rfl, trivial⟩, ⟨Nat.le_of_ble_eq_true rfl, rfl⟩⟩⟩
theorem ql1_ok : LoopOk Try.prog 0 (loopOf Try.f59 0) QL1 := by
  refine trimLoop_ok (trim_ok _ _) (loopT_ok (C := cfgQ0) cfgQ0_ok (f := 59) (n := 60) (trim_ok [0, 2, 3, 4, 10, 11, 12] [0, 1]) 2 QI1 (fun p x => x.1 ≤ p.l.length ∧ runM p.l [] = (x.1 + (runM (p.l.drop x.1) x.2).1, (runM (p.l.drop x.1) x.2).2)) (fun _ => (0, [])) (fun p x => p.l.length - x.1)
    (fun p (m : Mp) => runM p.l [] = (p.l.length, m)) (fun p m => QI1 p (p.l.length, m)) (fun p (z : Nat × Mp) => runM p.l [] = z) (fun p z => QR1 p z) (fun p => ⟨Nat.zero_le _, by simp⟩) ?_)
  intro p x ⟨hi, hx⟩
  have st : x.1 < p.l.length → runM (p.l.drop x.1) x.2 = if okC (mget x.2 (p.l.getD x.1 cc0).key) (p.l.getD x.1 cc0) then ((runM (p.l.drop (x.1 + 1)) (doM x.2 (p.l.getD x.1 cc0))).1 + 1, (runM (p.l.drop (x.1 + 1)) (doM x.2 (p.l.getD x.1 cc0))).2) else (0, x.2) := fun h => by rw [drop_cons p.l cc0 h]; rfl
  refine qbody1 p x hi _ _ (fun ST hlt hn hw => SImp.of_wk x hw ?_) (fun ST hlt ho hw => SImp.of_wk (x.1 + 1, doM x.2 (p.l.getD x.1 cc0)) hw ⟨⟨hlt, ?_⟩, ?_⟩) (fun ST he hw => ⟨rfl, SImp.of_wk (ren := []) x.2 ?_ ?_⟩)
  · rw [hx, st hlt, if_neg hn]; rfl
  · rw [hx, st hlt, if_pos ho]
    exact Prod.ext (by dsimp only; omega) rfl
  · show p.l.length - (x.1 + 1) < p.l.length - x.1; omega
  · obtain ⟨i, m⟩ := x; simp only at he; subst he; exact hw
  · rw [hx, he, List.drop_length]; rfl
def runSpecRun : RunFree V := fun ar K => match ar with
  | [.rows .com l c] => .need (l.length ≤ 1099511627776) (K (.tup [.int .i64 ((runM l []).1 : Int), .mp 0]) [.mp .i64 Kd.int (runM l []).2])
  | _ => .bad 500
theorem hSpecRun : HookOk Try.prog 59 (hookFree [.rows Kd.com] runSpecRun) := by
  refine free_hook (C := cfgQ1) cfgQ1_ok (n := 60) (fn := Try.f59) ⟨by kernel_rfl, by kernel_rfl⟩ (by kernel_rfl) ?_
  intro M ar K0 H
  unfold runSpecRun at H
  split at H
  · rename_i l c
    obtain ⟨hb, H⟩ := H
    refine ⟨show 1 ≤ _ by decide +kernel, ?_⟩
    show (runF cfgQ1 60 59 Try.f59 [.sl false 0 0 4 l.length c] [(0, .ro Kd.com l)] 1).holds _
    rw [qt1]
    refine ⟨ql1_ok, fun p => p = ⟨l, c, hb⟩, ⟨Nat.le_refl _, SImp.of_wk (ren := []) ⟨l, c, hb⟩ ?_ rfl⟩, ?_⟩
    · exact ⟨⟨AV.sub_same _, AV.sub_same _, AV.sub_same _, AV.sub_same _, AV.sub_lit', trivial⟩, ⟨.same _, .same _, trivial⟩, rfl, tl_ok rfl, ⟨.inr rfl, .inr rfl, trivial⟩, ⟨Nat.le_of_ble_eq_true rfl, rfl⟩⟩
    · rintro _ rfl
      refine ⟨fun m hm => ?_, fun z hz => ?_⟩
      · rw [show runM l [] = (l.length, m) from hm] at H
        exact ⟨_, _, H, _, HImp.refl _ _, ⟨⟨fun _ => 1, ⟨.same _, trivial⟩, AV.sub_same _⟩, rfl, rfl⟩⟩
      · rw [show runM l [] = z from hz] at H
        exact ⟨_, _, H, _, HImp.refl _ _, ⟨⟨fun _ => 1, ⟨.same _, trivial⟩, AV.sub_same _⟩, rfl, rfl⟩⟩
  · exact H.elim

theorem evs_succ {l : List Com} {i : Nat} (h : i < l.length) : evsOf (l.take (i + 1)) = evsOf (l.take i) ++ if (l.getD i cc0).act = 4 then [(l.getD i cc0).key] else [] := by
  have e : l.getD i cc0 = l[i] := by rw [List.getD_eq_getElem?_getD, List.getElem?_eq_getElem h]; rfl
  unfold evsOf
  rw [List.take_succ_eq_append_getElem h, List.filter_append, List.map_append, e]
  congr 1
  by_cases e : (l[i]).act = 4 <;> simp [e]
theorem evs_le (l : List Com) (i : Nat) : (evsOf (l.take i)).length ≤ l.length := by
  unfold evsOf
  rw [List.length_map]
  exact Nat.le_trans (List.length_filter_le _ _) (by rw [List.length_take]; omega)
theorem qbody2 (p : QPQ) (x : Nat × Nat) (hi : x.1 ≤ p.l.length) (Q : EX → St V → Prop) (F : AV → Heap V → Nat → Prop)
    (hnx : ∀ (ST : St V) (sp b : Nat), x.1 < p.l.length → Wk 1 [(1, b)] ST (QI2 p (x.1 + 1, sp)) → Q .nx ST) (hex : ∀ ST : St V, x.1 = p.l.length → Wk 1 [(1, 1)] ST (QI2 p x) → Q (.ex 0) ST) :
    (runCode cfgQ0 60 61 (loopOf Try.f61 0) (QI2 p x) (stopT (trimSt [3, 6, 7, 8] [0, 1, 2, 3, 4, 5, 6]))).holds ⟨Q, F⟩ := by
  rw [qb2]
  have hb := p.hb
  have hle := evs_le p.l x.1
  have hw : x.1 < p.l.length → IntKind.wrap .i64 ((x.1 : Int) + 1) = ((x.1 + 1 : Nat) : Int) := fun h => wrap_nat (by omega)
  have hs : x.1 < p.l.length → evsOf (p.l.take (x.1 + 1)) = evsOf (p.l.take x.1) ++ if (p.l.getD x.1 (V.enc Kd.com).dflt).act = 4 then [(p.l.getD x.1 (V.enc Kd.com).dflt).key] else [] := evs_succ
  have blk : ∀ {a b : List Int} {s : Nat}, a = b → BSub (some (.arr 3 Kd.int a s : Blk V)) (.arr 3 Kd.int b s) := fun h => by rw [h]; exact .same _
  simp only [Out.holds, Nat.zero_add, decide_eq_true_eq, decide_eq_false_iff_not, beq_iff_eq, beq_eq_false_iff_ne]
  refine ⟨fun h => ⟨by omega, by omega, fun h2 => ⟨⟨trivial, trivial, trivial, by omega⟩, fun y => hnx _ y 5 (by omega) ?_⟩, fun h2 => hnx _ x.2 1 (by omega) ?_⟩, fun h => hex _ (by omega) ?_⟩
  · have e := hs (by omega)
    rw [if_pos h2] at e
    have el : (evsOf (p.l.take x.1)).length + 1 = (evsOf (p.l.take (x.1 + 1))).length := by rw [e]; simp
    exact ⟨⟨AV.sub_sl el (by rw [el]), AV.sub_same _, AV.sub_same _, AV.sub_int (hw (by omega)), trivial⟩, ⟨blk e.symm, .same _, trivial⟩, rfl, tl_ok rfl, ⟨.inl (in_ok rfl), .inl (in_ok rfl), .inl (in_ok rfl), .inr rfl, trivial⟩, ⟨Nat.le_of_ble_eq_true rfl, rfl⟩⟩
  · have e := hs (by omega)
    rw [if_neg h2, List.append_nil] at e
    exact ⟨⟨AV.sub_sl (by rw [e]) (by rw [e]), AV.sub_same _, AV.sub_same _, AV.sub_int (hw (by omega)), trivial⟩, ⟨blk e.symm, .same _, trivial⟩, rfl, tl_ok rfl, ⟨.inl (in_ok rfl), .inl (in_ok rfl), .inr rfl, trivial⟩, ⟨Nat.le_of_ble_eq_true rfl, rfl⟩⟩
  · exact ⟨⟨AV.sub_same _, AV.sub_same _, AV.sub_same _, AV.sub_same _, trivial⟩, ⟨.same _, .same _, trivial⟩, rfl, tl_ok rfl, ⟨.inl (in_ok rfl), .inr rfl, trivial⟩, ⟨Nat.le_of_ble_eq_true rfl, rfl⟩⟩
theorem ql2_ok : LoopOk Try.prog 0 (loopOf Try.f61 0) QL2 := by
  refine trimLoop_ok (trim_ok _ _) (loopTH_ok (C := cfgQ0) cfgQ0_ok (f := 61) (n := 60) (trim_ok [3, 6, 7, 8] [0, 1, 2, 3, 4, 5, 6]) 1 QI2 (fun p x => x.1 ≤ p.l.length) (fun _ => (0, 0)) (fun p x => p.l.length - x.1) (fun _ (_ : Nat) => True) (fun p sp => QI2 p (p.l.length, sp)) (fun p => Nat.zero_le _) ?_)
  intro p x hi
  refine qbody2 p x hi _ _ (fun ST sp b hlt hw => SImp.of_wk (x.1 + 1, sp) hw ⟨hlt, ?_⟩) (fun ST he hw => ⟨rfl, SImp.of_wk (ren := [(1, 1)]) x.2 ?_ trivial⟩)
  · show p.l.length - (x.1 + 1) < p.l.length - x.1; omega
  · obtain ⟨i, x⟩ := x; simp only at he; subst he; exact hw
def runEvicted : RunFree V := fun ar K => match ar with
  | [.rows .com l c] => .need (l.length ≤ 1099511627776) (.all Nat fun sp => K (.sl false 0 0 1 (evsOf l).length ((evsOf l).length + sp)) [.arr 3 Kd.int (evsOf l) sp])
  | _ => .bad 500
theorem hSpecEvicted : HookOk Try.prog 61 (hookFree [.rows Kd.com] runEvicted) := by
  refine free_hook (C := cfgQ1) cfgQ1_ok (n := 60) (fn := Try.f61) ⟨by kernel_rfl, by kernel_rfl⟩ (by kernel_rfl) ?_
  intro M ar K0 H
  unfold runEvicted at H
  split at H
  · rename_i l c
    obtain ⟨hb, H⟩ := H
    refine ⟨show 1 ≤ _ by decide +kernel, ?_⟩
    show (runF cfgQ1 60 61 Try.f61 [.sl false 0 0 4 l.length c] [(0, .ro Kd.com l)] 1).holds _
    rw [qt2]
    refine ⟨ql2_ok, fun p => p = ⟨l, c, hb⟩, ⟨Nat.le_refl _, SImp.of_wk (ren := [(1, 99)]) ⟨l, c, hb⟩ ?_ rfl⟩, ?_⟩
    · exact ⟨⟨AV.sub_nilS, AV.sub_same _, AV.sub_same _, AV.sub_lit', trivial⟩, ⟨.none _ _, .same _, trivial⟩, rfl, tl_ok rfl, ⟨.inr rfl, trivial⟩, ⟨Nat.le_of_ble_eq_true rfl, rfl⟩⟩
    · rintro _ rfl sp _
      have e : evsOf (l.take l.length) = evsOf l := by rw [List.take_length]
      dsimp only
      rw [e]
      exact ⟨_, _, H sp, _, HImp.refl _ _, ⟨⟨fun _ => 1, ⟨.same _, trivial⟩, AV.sub_same _⟩, rfl, rfl⟩⟩
  · exact H.elim
end Sx
end Go.Proofs.Ytemcdjdglcceiaa

