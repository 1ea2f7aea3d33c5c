/-
  What one thread records alone.
-/
import Derived.Test.YtemcdjdglcceiaaHOrder
namespace Go.Proofs.Ytemcdjdglcceiaa
namespace Sx
open Go
set_option linter.unusedSimpArgs false
set_option linter.unusedVariables false

def cntO : Option Opn → Nat
  | none => 0
  | some o => o.op.toNat + 1
def lfO : Option Opn → Nat
  | none => 0
  | some o => if o.what = 3 then 0 else 1
def sumT (f : Nat → Nat) (n : Nat) : Nat := ((List.range n).map f).sum
theorem sumT_succ (f : Nat → Nat) (n : Nat) : sumT f (n + 1) = sumT f n + f n := by unfold sumT; rw [List.range_succ]; simp
theorem sumT_congr {f g : Nat → Nat} : ∀ {n : Nat}, (∀ i, i < n → f i = g i) → sumT f n = sumT g n
  | 0, _ => rfl
  | n + 1, h => by rw [sumT_succ, sumT_succ, sumT_congr (fun i hi => h i (by omega)), h n (by omega)]
theorem sumT_upd {f g : Nat → Nat} {k : Nat} : ∀ {n : Nat}, k < n → (∀ i, i ≠ k → f i = g i) → sumT g n + f k = sumT f n + g k
  | 0, h, _ => by omega
  | n + 1, h, e => by
    rw [sumT_succ, sumT_succ]
    rcases Nat.lt_or_ge k n with hk | hk
    · have := sumT_upd hk e
      have := e n (by omega)
      omega
    · have : k = n := by omega
      subst this
      have := sumT_congr (n := k) (f := f) (g := g) (fun i hi => e i (by omega))
      omega

structure TSum (s : RD) : Prop where
  cnt : s.cs.length = sumT (fun t => cntO (mget s.at_ (t : Int))) 64
  lf : hLeftOf s.cs = sumT (fun t => lfO (mget s.at_ (t : Int))) 64

theorem left_set : ∀ (cs : List Cal) (k : Nat) (c x : Cal), cs[k]? = some c → hLeftOf (cs.set k x) + (if c.to_ = -1 then 1 else 0) = hLeftOf cs + (if x.to_ = -1 then 1 else 0)
  | [], k, c, x, h => by simp at h
  | d :: cs, 0, c, x, h => by
    simp at h; subst h
    unfold hLeftOf
    simp only [List.set_cons_zero, List.filter_cons]
    by_cases h1 : d.to_ = -1 <;> by_cases h2 : x.to_ = -1 <;> simp [h1, h2]
  | d :: cs, k + 1, c, x, h => by
    simp at h
    have ih := left_set cs k c x h
    unfold hLeftOf at *
    simp only [List.set_cons_succ, List.filter_cons]
    by_cases h1 : d.to_ = -1
    · simp [h1] at *; omega
    · simp [h1] at *; omega

theorem at_upd {s : RD} {t : Int} {o : Opn} {f : Option Opn → Nat} (ht : 0 ≤ t ∧ t < 64) : sumT (fun i => f (mget (mput s.at_ t o) (i : Int))) 64 + f (mget s.at_ t) = sumT (fun i => f (mget s.at_ (i : Int))) 64 + f (some o) := by
  have e : ((t.toNat : Nat) : Int) = t := by omega
  have := sumT_upd (f := fun i => f (mget s.at_ (i : Int))) (g := fun i => f (mget (mput s.at_ t o) (i : Int))) (k := t.toNat) (n := 64) (by omega) (fun i hi => by
    show f (mget s.at_ (i : Int)) = f (mget (mput s.at_ t o) (i : Int))
    rw [mget_put, if_neg (by omega)])
  simp only [e] at this
  rw [mget_put, if_pos rfl] at this
  exact this

theorem TSum.step {l : List Rec} {n : Nat} {s s' : RD} (T : TSum s) (I : RInv l n s) (hb : ∀ i, (l.getD i r0).op < 9223372036854775808) {r : Rec} {i : Nat} (hi : i = n) (e : s.step r i = some s') : TSum s' := by
  unfold RD.step at e
  split at e
  · cases e
  · rename_i hthr
    have ht : 0 ≤ r.thread ∧ r.thread < 64 := by omega
    split at e
    · split at e
      · cases e; exact T
      · cases e
    · rename_i hop
      split at e
      · rename_i hw
        unfold RD.invoke at e
        split at e
        · rename_i hm
          cases e
          have hm := hm.1
          unfold RD.may at hm
          have hlen : (s.cs ++ [(⟨r.thread, r.op, i, -1, -1⟩ : Cal)]).length = s.cs.length + 1 := by simp
          have hlf : hLeftOf (s.cs ++ [(⟨r.thread, r.op, i, -1, -1⟩ : Cal)]) = hLeftOf s.cs + 1 := by unfold hLeftOf; rw [List.filter_append]; simp
          have l1 : lfO (some (Opn.of r s.cs.length)) = 1 := by
            show (if r.what = 3 then 0 else 1) = 1
            rw [if_neg (by omega)]
          have u1 := at_upd (s := s) (t := r.thread) (o := Opn.of r s.cs.length) (f := cntO) ht
          have u2 := at_upd (s := s) (t := r.thread) (o := Opn.of r s.cs.length) (f := lfO) ht
          have T1 := T.cnt
          have T2 := T.lf
          refine ⟨?_, ?_⟩
          · show (s.cs ++ [(⟨r.thread, r.op, i, -1, -1⟩ : Cal)]).length = sumT (fun j => cntO (mget (mput s.at_ r.thread (Opn.of r s.cs.length)) (j : Int))) 64
            have c1 : cntO (some (Opn.of r s.cs.length)) = r.op.toNat + 1 := rfl
            cases hg : mget s.at_ r.thread with
            | none =>
              rw [hg] at hm u1
              have : cntO none = 0 := rfl
              have hm' : r.op = 0 := hm
              rw [hm'] at c1
              omega
            | some o =>
              rw [hg] at hm u1
              obtain ⟨m1, m2⟩ := hm
              obtain ⟨k1, k2, k3, k4, c', k5, k6, k7, k8, k9, k10⟩ := I.last _ _ hg
              obtain ⟨f1, f2, f3, f4, f5, f6⟩ := I.frm _ _ k5
              have hop1 : o.op < 9223372036854775808 := by rw [← k7, ← f5]; exact hb _
              have hop0 : 0 ≤ o.op := by rw [← k7]; exact f6
              have e : r.op = o.op + 1 := by
                have := m2
                simp only [IntKind.wrap, IntKind.bits, IntKind.signed] at this
                simp at this
                omega
              have : cntO (some o) = o.op.toNat + 1 := rfl
              omega
          · show hLeftOf (s.cs ++ [(⟨r.thread, r.op, i, -1, -1⟩ : Cal)]) = sumT (fun j => lfO (mget (mput s.at_ r.thread (Opn.of r s.cs.length)) (j : Int))) 64
            cases hg : mget s.at_ r.thread with
            | none =>
              rw [hg] at u2
              have : lfO none = 0 := rfl
              omega
            | some o =>
              rw [hg] at hm u2
              have : lfO (some o) = 0 := by show (if o.what = 3 then 0 else 1) = 0; rw [if_pos hm.1]
              omega
        · cases e
      · unfold RD.follow at e
        split at e
        · cases e
        · rename_i o ho
          obtain ⟨k1, k2, k3, k4, c1, k5, k6, k7, k8, k9, k10⟩ := I.last _ _ ho
          have hd : s.cs.getD o.call.toNat c0 = c1 := by rw [List.getD_eq_getElem?_getD, k5]; rfl
          split at e
          · cases e
          · rename_i hno
            have hn3 : o.what ≠ 3 := fun h => hno (.inl h)
            have hoo : r.op = o.op := Classical.byContradiction fun h => hno (.inr (.inl h))
            have to1 : c1.to_ = -1 := Classical.byContradiction fun h => hn3 (k10.2 h)
            have u1 := at_upd (s := s) (t := r.thread) (o := Opn.of r o.call) (f := cntO) ht
            have u2 := at_upd (s := s) (t := r.thread) (o := Opn.of r o.call) (f := lfO) ht
            rw [ho] at u1 u2
            have q1 : cntO (some (Opn.of r o.call)) = cntO (some o) := by show r.op.toNat + 1 = o.op.toNat + 1; rw [hoo]
            have q2 : lfO (some o) = 1 := by show (if o.what = 3 then 0 else 1) = 1; rw [if_neg hn3]
            have T1 := T.cnt
            have T2 := T.lf
            have gen : ∀ f : Cal → Cal, hLeftOf (s.cs.set o.call.toNat (f c1)) = sumT (fun j => lfO (mget (mput s.at_ r.thread (Opn.of r o.call)) (j : Int))) 64 → TSum (s.upd r o f) := by
              intro f hf
              refine ⟨?_, ?_⟩
              · show (s.cs.set o.call.toNat (f (s.cs.getD o.call.toNat c0))).length = sumT (fun j => cntO (mget (mput s.at_ r.thread (Opn.of r o.call)) (j : Int))) 64
                rw [List.length_set]; omega
              · show hLeftOf (s.cs.set o.call.toNat (f (s.cs.getD o.call.toNat c0))) = _
                rw [hd]; exact hf
            split at e
            · rename_i hw2
              split at e
              · cases e
                refine gen _ ?_
                have := left_set s.cs _ c1 { c1 with at_ := (i : Int) } k5
                simp only [to1, if_true] at this
                have q3 : lfO (some (Opn.of r o.call)) = 1 := by show (if r.what = 3 then 0 else 1) = 1; rw [if_neg (by omega)]
                simp only [to1] at *
                omega
              · cases e
            · split at e
              · rename_i hw3
                split at e
                · cases e
                  refine gen _ ?_
                  have := left_set s.cs _ c1 { c1 with to_ := (i : Int) } k5
                  have hne : ¬ (i : Int) = -1 := by omega
                  simp only [to1, hne, if_true, if_false] at this
                  have q3 : lfO (some (Opn.of r o.call)) = 0 := by show (if r.what = 3 then 0 else 1) = 0; rw [if_pos hw3]
                  omega
                · cases e
              · cases e
theorem readTo_sum {l : List Rec} (hb : ∀ i, (l.getD i r0).op < 9223372036854775808) : ∀ {n : Nat} {s : RD}, readTo l n = some s → TSum s
  | 0, s, h => by cases h; exact ⟨rfl, rfl⟩
  | n + 1, s', h => by
    obtain ⟨s, h1, h2⟩ := Option.bind_eq_some_iff.1 h
    exact (readTo_sum hb h1).step (readTo_inv hb h1) hb rfl h2

/-! ## one thread alone -/
def ownOf (l : List Rec) (t : Int) : List Rec := l.filter fun r => decide (r.thread = t)
def strip (o : Opn) : Opn := { o with call := 0 }
structure Own (t : Int) (s u : RD) : Prop where
  same : (mget u.at_ t).map strip = (mget s.at_ t).map strip
  other : ∀ j, j ≠ t → mget u.at_ j = none

theorem own_step {t : Int} {s s' u : RD} (O : Own t s u) {r : Rec} {i j : Nat} (ht : r.thread = t) (e : s.step r i = some s') : ∃ u', u.step r j = some u' ∧ Own t s' u' := by
  have hs := O.same
  rw [← ht] at hs
  have put : ∀ (a b : Int), (mget (mput u.at_ r.thread (Opn.of r a)) t).map strip = (mget (mput s.at_ r.thread (Opn.of r b)) t).map strip := by
    intro a b
    rw [mget_put, mget_put, if_pos ht.symm, if_pos ht.symm]
    rfl
  have oth : ∀ (a : Int) (k : Int), k ≠ t → mget (mput u.at_ r.thread (Opn.of r a)) k = none := by
    intro a k hk
    rw [mget_put, if_neg (by rw [ht]; exact hk)]
    exact O.other k hk
  unfold RD.step at e ⊢
  split at e
  · cases e
  · rename_i h1
    rw [if_neg h1]
    split at e
    · rename_i h2
      rw [if_pos h2]
      split at e
      · rename_i h3
        cases e
        exact ⟨u, if_pos h3, O⟩
      · cases e
    · rename_i h2
      rw [if_neg h2]
      split at e
      · rename_i h3
        rw [if_pos h3]
        unfold RD.invoke at e ⊢
        split at e
        · rename_i h4
          cases e
          have hm : u.may r := by
            have hm := h4.1
            unfold RD.may at hm ⊢
            cases hg : mget s.at_ r.thread with
            | none =>
              rw [hg] at hm hs
              cases hu : mget u.at_ r.thread with
              | none => exact hm
              | some o' => rw [hu] at hs; cases hs
            | some o =>
              rw [hg] at hm hs
              cases hu : mget u.at_ r.thread with
              | none => rw [hu] at hs; cases hs
              | some o' =>
                rw [hu] at hs
                have e := Option.some.inj hs
                have e1 : o'.what = o.what := (by have q := congrArg Opn.what e; exact q)
                have e2 : o'.op = o.op := (by have q := congrArg Opn.op e; exact q)
                show o'.what = 3 ∧ r.op = IntKind.wrap .i64 (o'.op + 1)
                rw [e1, e2]; exact hm
          exact ⟨_, if_pos ⟨hm, h4.2⟩, ⟨put _ _, oth _⟩⟩
        · cases e
      · rename_i h3
        rw [if_neg h3]
        unfold RD.follow at e ⊢
        split at e
        · cases e
        · rename_i o ho
          rw [ho] at hs
          cases hu : mget u.at_ r.thread with
          | none => rw [hu] at hs; cases hs
          | some o' =>
            rw [hu] at hs
            have es := Option.some.inj hs
            have e1 : o'.what = o.what := (by have q := congrArg Opn.what es; exact q)
            have e2 : o'.op = o.op := (by have q := congrArg Opn.op es; exact q)
            have e3 : o'.act = o.act := (by have q := congrArg Opn.act es; exact q)
            have e4 : o'.key = o.key := (by have q := congrArg Opn.key es; exact q)
            have e5 : o'.value = o.value := (by have q := congrArg Opn.value es; exact q)
            have e6 : o'.hit = o.hit := (by have q := congrArg Opn.hit es; exact q)
            show ∃ u', (if o'.what = 3 ∨ r.op ≠ o'.op ∨ r.act ≠ o'.act ∨ r.key ≠ o'.key then none
              else if r.what = 2 then (if o'.what = 1 ∧ r.err = 0 then some (u.upd r o' fun c => { c with at_ := j }) else none)
              else if r.what = 3 then (if o'.what = 1 ∨ (r.value = o'.value ∧ r.hit = o'.hit ∧ r.err = 0) then some (u.upd r o' fun c => { c with to_ := j }) else none)
              else none) = some u' ∧ Own t s' u'
            rw [e1, e2, e3, e4, e5, e6]
            split at e
            · cases e
            · rename_i g1
              rw [if_neg g1]
              split at e
              · rename_i g2
                rw [if_pos g2]
                split at e
                · rename_i g3
                  rw [if_pos g3]
                  cases e
                  exact ⟨_, rfl, ⟨put _ _, oth _⟩⟩
                · cases e
              · rename_i g2
                rw [if_neg g2]
                split at e
                · rename_i g3
                  rw [if_pos g3]
                  split at e
                  · rename_i g4
                    rw [if_pos g4]
                    cases e
                    exact ⟨_, rfl, ⟨put _ _, oth _⟩⟩
                  · cases e
                · cases e

theorem other_step {s s' : RD} {r : Rec} {i : Nat} {t : Int} (ht : r.thread ≠ t) (e : s.step r i = some s') : mget s'.at_ t = mget s.at_ t := by
  have put : ∀ o, mget (mput s.at_ r.thread o) t = mget s.at_ t := fun o => by rw [mget_put, if_neg (fun h => ht h.symm)]
  unfold RD.step at e
  split at e
  · cases e
  · split at e
    · split at e
      · cases e; rfl
      · cases e
    · split at e
      · unfold RD.invoke at e
        split at e
        · cases e; exact put _
        · cases e
      · unfold RD.follow at e
        split at e
        · cases e
        · split at e
          · cases e
          · split at e
            · split at e
              · cases e; exact put _
              · cases e
            · split at e
              · split at e
                · cases e; exact put _
                · cases e
              · cases e

theorem readTo_append {l : List Rec} {r : Rec} : ∀ {n : Nat}, n ≤ l.length → readTo (l ++ [r]) n = readTo l n
  | 0, _ => rfl
  | n + 1, h => by
    show (readTo (l ++ [r]) n).bind _ = (readTo l n).bind _
    rw [readTo_append (by omega)]
    have e : (l ++ [r]).getD n r0 = l.getD n r0 := by
      rw [List.getD_eq_getElem?_getD, List.getD_eq_getElem?_getD, List.getElem?_append_left (by omega)]
    rw [e]

theorem own_read {l : List Rec} (t : Int) : ∀ {n : Nat} {s : RD}, n ≤ l.length → readTo l n = some s → ∃ u, readTo (ownOf (l.take n) t) (ownOf (l.take n) t).length = some u ∧ Own t s u
  | 0, s, _, h => by cases h; exact ⟨⟨[], []⟩, rfl, ⟨rfl, fun _ _ => rfl⟩⟩
  | n + 1, s', hn, h => by
    obtain ⟨s, h1, e⟩ := Option.bind_eq_some_iff.1 h
    obtain ⟨u, hu, O⟩ := own_read t (by omega) h1
    have hlt : n < l.length := by omega
    have et : ownOf (l.take (n + 1)) t = ownOf (l.take n) t ++ if (l.getD n r0).thread = t then [l.getD n r0] else [] := by
      unfold ownOf
      rw [List.take_succ_eq_append_getElem hlt, List.filter_append, getD_el r0 hlt]
      congr 1
      by_cases e : (l[n]).thread = t <;> simp [e]
    by_cases ht : (l.getD n r0).thread = t
    · rw [if_pos ht] at et
      obtain ⟨u', g1, g2⟩ := own_step O (j := (ownOf (l.take n) t).length) ht e
      refine ⟨u', ?_, g2⟩
      rw [et, List.length_append]
      show (readTo (ownOf (l.take n) t ++ [l.getD n r0]) (ownOf (l.take n) t).length).bind _ = some u'
      rw [readTo_append (Nat.le_refl _), hu]
      show u.step ((ownOf (l.take n) t ++ [l.getD n r0]).getD (ownOf (l.take n) t).length r0) _ = some u'
      have : (ownOf (l.take n) t ++ [l.getD n r0]).getD (ownOf (l.take n) t).length r0 = l.getD n r0 := by
        rw [List.getD_eq_getElem?_getD, List.getElem?_append_right (Nat.le_refl _), Nat.sub_self]; rfl
      rw [this]; exact g1
    · rw [if_neg ht, List.append_nil] at et
      refine ⟨u, by rw [et]; exact hu, ⟨by rw [other_step ht e]; exact O.same, O.other⟩⟩

theorem cnt_strip {a b : Option Opn} (h : a.map strip = b.map strip) : cntO a = cntO b ∧ lfO a = lfO b := by
  cases a with
  | none => cases b with
    | none => exact ⟨rfl, rfl⟩
    | some o => cases h
  | some o => cases b with
    | none => cases h
    | some o' =>
      have e := Option.some.inj h
      have e1 : o.what = o'.what := (by have q := congrArg Opn.what e; exact q)
      have e2 : o.op = o'.op := (by have q := congrArg Opn.op e; exact q)
      exact ⟨by show o.op.toNat + 1 = o'.op.toNat + 1; rw [e2], by show (if o.what = 3 then 0 else 1) = (if o'.what = 3 then 0 else 1); rw [e1]⟩

structure Threads (l : List Rec) : Prop where
  right : ∀ t : Nat, t < 64 → hRight (ownOf l t) = true
  left1 : ∀ t : Nat, t < 64 → hLeft (ownOf l t) ≤ 1
  calls : sumT (fun t => (hCallsOf (ownOf l (t : Int))).length) 64 = (hCallsOf l).length
  left : sumT (fun t => hLeft (ownOf l (t : Int))) 64 = hLeft l
theorem threads_all {l : List Rec} (hb : ∀ r ∈ l, r.op < 9223372036854775808) (hr : hRight l = true) : Threads l := by
  cases e : readTo l l.length with
  | none => have := right_none e; rw [this.1] at hr; cases hr
  | some s =>
    obtain ⟨a1, a2⟩ := right_some e
    have T := readTo_sum (get_bound hb) e
    have each : ∀ t : Nat, t < 64 → hRight (ownOf l t) = true ∧ (hCallsOf (ownOf l (t : Int))).length = cntO (mget s.at_ (t : Int)) ∧ hLeft (ownOf l (t : Int)) = lfO (mget s.at_ (t : Int)) := by
      intro t ht
      obtain ⟨u, hu, O⟩ := own_read (t : Int) (Nat.le_refl _) e
      rw [List.take_length] at hu
      obtain ⟨b1, b2⟩ := right_some hu
      have hb' : ∀ r ∈ ownOf l (t : Int), r.op < 9223372036854775808 := fun r hr => hb r (List.mem_filter.1 hr).1
      have TU := readTo_sum (get_bound hb') hu
      obtain ⟨s1, s2⟩ := cnt_strip O.same
      have one : ∀ f : Option Opn → Nat, f none = 0 → sumT (fun i => f (mget u.at_ (i : Int))) 64 = f (mget u.at_ (t : Int)) := by
        intro f hf
        have := sumT_upd (f := fun i => f (mget u.at_ (i : Int))) (g := fun _ => 0) (k := t) (n := 64) ht (fun i hi => by
          show f (mget u.at_ (i : Int)) = 0
          rw [O.other _ (by omega), hf])
        have z : ∀ n, sumT (fun _ => 0) n = 0 := by
          intro n
          induction n with
          | zero => rfl
          | succ n ih => rw [sumT_succ, ih]
        rw [z] at this
        omega
      refine ⟨b1, ?_, ?_⟩
      · rw [b2, TU.cnt, one cntO rfl, s1]
      · unfold hLeft
        rw [b2, TU.lf, one lfO rfl, s2]
    have l1 : ∀ o, lfO o ≤ 1 := by
      intro o
      cases o with
      | none => exact Nat.zero_le _
      | some o => show (if o.what = 3 then 0 else 1) ≤ 1; split <;> omega
    refine ⟨fun t ht => (each t ht).1, fun t ht => by rw [(each t ht).2.2]; exact l1 _, ?_, ?_⟩
    · rw [a2, T.cnt]; exact sumT_congr fun t ht => (each t ht).2.1
    · unfold hLeft at each ⊢
      rw [a2, T.lf]; exact sumT_congr fun t ht => (each t ht).2.2

end Sx
end Go.Proofs.Ytemcdjdglcceiaa
