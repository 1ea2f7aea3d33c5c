/-
  What is completed is right, has none left, and stays.
-/
import Derived.Test.YtemcdjdglcceiaaHCut
import Derived.Test.YtemcdjdglcceiaaHThr
namespace Go.Proofs.Ytemcdjdglcceiaa
namespace Sx
open Go
set_option linter.unusedSimpArgs false
set_option linter.unusedVariables false

/-- A record is read alike where its thread is at the same. -/
theorem sim_step {s s' u : RD} {r : Rec} {i j : Nat} (hs : (mget u.at_ r.thread).map strip = (mget s.at_ r.thread).map strip) (e : s.step r i = some s') :
    ∃ u', u.step r j = some u' ∧ (mget u'.at_ r.thread).map strip = (mget s'.at_ r.thread).map strip ∧ ∀ k, k ≠ r.thread → mget u'.at_ k = mget u.at_ k := by
  have put : ∀ (a b : Int), (mget (mput u.at_ r.thread (Opn.of r a)) r.thread).map strip = (mget (mput s.at_ r.thread (Opn.of r b)) r.thread).map strip := by
    intro a b
    rw [mget_put, mget_put, if_pos rfl, if_pos rfl]
    rfl
  have oth : ∀ (a : Int) (k : Int), k ≠ r.thread → mget (mput u.at_ r.thread (Opn.of r a)) k = mget u.at_ k := by
    intro a k hk
    rw [mget_put, if_neg hk]
  unfold RD.step at e ⊢
  split at e
  · cases e
  · rename_i h1
    rw [if_neg h1]
    split at e
    · rename_i h2
      rw [if_pos h2]
      split at e
      · rename_i h3
        cases e
        exact ⟨u, if_pos h3, hs, fun _ _ => rfl⟩
      · cases e
    · rename_i h2
      rw [if_neg h2]
      split at e
      · rename_i h3
        rw [if_pos h3]
        unfold RD.invoke at e ⊢
        split at e
        · rename_i h4
          cases e
          have hm : u.may r := by
            have hm := h4.1
            unfold RD.may at hm ⊢
            cases hg : mget s.at_ r.thread with
            | none =>
              rw [hg] at hm hs
              cases hu : mget u.at_ r.thread with
              | none => exact hm
              | some o' => rw [hu] at hs; cases hs
            | some o =>
              rw [hg] at hm hs
              cases hu : mget u.at_ r.thread with
              | none => rw [hu] at hs; cases hs
              | some o' =>
                rw [hu] at hs
                have e := Option.some.inj hs
                have e1 : o'.what = o.what := (by have q := congrArg Opn.what e; exact q)
                have e2 : o'.op = o.op := (by have q := congrArg Opn.op e; exact q)
                show o'.what = 3 ∧ r.op = IntKind.wrap .i64 (o'.op + 1)
                rw [e1, e2]; exact hm
          exact ⟨_, if_pos ⟨hm, h4.2⟩, put _ _, oth _⟩
        · cases e
      · rename_i h3
        rw [if_neg h3]
        unfold RD.follow at e ⊢
        split at e
        · cases e
        · rename_i o ho
          rw [ho] at hs
          cases hu : mget u.at_ r.thread with
          | none => rw [hu] at hs; cases hs
          | some o' =>
            rw [hu] at hs
            have es := Option.some.inj hs
            have e1 : o'.what = o.what := (by have q := congrArg Opn.what es; exact q)
            have e2 : o'.op = o.op := (by have q := congrArg Opn.op es; exact q)
            have e3 : o'.act = o.act := (by have q := congrArg Opn.act es; exact q)
            have e4 : o'.key = o.key := (by have q := congrArg Opn.key es; exact q)
            have e5 : o'.value = o.value := (by have q := congrArg Opn.value es; exact q)
            have e6 : o'.hit = o.hit := (by have q := congrArg Opn.hit es; exact q)
            show ∃ u', (if o'.what = 3 ∨ r.op ≠ o'.op ∨ r.act ≠ o'.act ∨ r.key ≠ o'.key then none
              else if r.what = 2 then (if o'.what = 1 ∧ r.err = 0 then some (u.upd r o' fun c => { c with at_ := j }) else none)
              else if r.what = 3 then (if o'.what = 1 ∨ (r.value = o'.value ∧ r.hit = o'.hit ∧ r.err = 0) then some (u.upd r o' fun c => { c with to_ := j }) else none)
              else none) = some u' ∧ (mget u'.at_ r.thread).map strip = (mget s'.at_ r.thread).map strip ∧ ∀ k, k ≠ r.thread → mget u'.at_ k = mget u.at_ k
            rw [e1, e2, e3, e4, e5, e6]
            split at e
            · cases e
            · rename_i g1
              rw [if_neg g1]
              split at e
              · rename_i g2
                rw [if_pos g2]
                split at e
                · rename_i g3
                  rw [if_pos g3]
                  cases e
                  exact ⟨_, rfl, put _ _, oth _⟩
                · cases e
              · rename_i g2
                rw [if_neg g2]
                split at e
                · rename_i g3
                  rw [if_pos g3]
                  split at e
                  · rename_i g4
                    rw [if_pos g4]
                    cases e
                    exact ⟨_, rfl, put _ _, oth _⟩
                  · cases e
                · cases e

/-- What a record that is read leaves its thread at. -/
theorem step_sets {s s' : RD} {r : Rec} {i : Nat} (hop : ¬ r.op < 0) (e : s.step r i = some s') :
    (0 ≤ r.thread ∧ r.thread < 64) ∧ (r.what = 1 ∨ r.what = 2 ∨ r.what = 3) ∧ ∃ o', mget s'.at_ r.thread = some o' ∧ strip o' = Opn.of r 0 ∧ (r.what = 1 → o'.call = s.cs.length ∧ s.may r) ∧ (r.what = 2 → r.err = 0 ∧ ∀ c, s'.cs[o'.call.toNat]? = some c → c.at_ = i) := by
  unfold RD.step at e
  split at e
  · cases e
  · rename_i h1
    refine ⟨by omega, ?_⟩
    split at e
    · rename_i h3
      unfold RD.invoke at e
      split at e
      · rename_i h4
        cases e
        refine ⟨.inl h3, _, by show mget (mput s.at_ r.thread _) r.thread = _; rw [mget_put, if_pos rfl], rfl, fun _ => ⟨rfl, h4.1⟩, fun h => by omega⟩
      · cases e
    · rename_i h3
      unfold RD.follow at e
      split at e
      · cases e
      · rename_i o ho
        split at e
        · cases e
        · split at e
          · rename_i g2
            split at e
            · rename_i g3
              cases e
              refine ⟨.inr (.inl g2), _, by show mget (mput s.at_ r.thread _) r.thread = _; rw [mget_put, if_pos rfl], rfl, fun h => absurd h h3, fun _ => ⟨g3.2, fun c hc => ?_⟩⟩
              have hc' : (s.cs.set o.call.toNat { s.cs.getD o.call.toNat c0 with at_ := (i : Int) })[o.call.toNat]? = some c := hc
              rcases get_set hc' with ⟨_, rfl⟩ | ⟨h, _⟩
              · rfl
              · exact absurd rfl h
            · cases e
          · split at e
            · rename_i g3
              split at e
              · cases e
                exact ⟨.inr (.inr g3), _, by show mget (mput s.at_ r.thread _) r.thread = _; rw [mget_put, if_pos rfl], rfl, fun h => absurd h h3, fun h => by omega⟩
              · cases e
            · cases e

/-- Where the record lies that came last of a thread. -/
structure LRec (l : List Rec) (n : Nat) (s : RD) : Prop where
  rcd : ∀ t o, mget s.at_ t = some o → ∃ p, p < n ∧ strip o = Opn.of (l.getD p r0) 0 ∧ (l.getD p r0).thread = t ∧ (o.what = 2 → (l.getD p r0).err = 0 ∧ ∀ c, s.cs[o.call.toNat]? = some c → c.at_ = p)
theorem other_cs {s s' : RD} {r : Rec} {i : Nat} (e : s.step r i = some s') : ∀ (k : Nat), (∀ o, mget s.at_ r.thread = some o → k ≠ o.call.toNat) → k < s.cs.length → s'.cs[k]? = s.cs[k]? := by
  intro k hk hl
  unfold RD.step at e
  split at e
  · cases e
  · split at e
    · split at e
      · cases e; rfl
      · cases e
    · split at e
      · unfold RD.invoke at e
        split at e
        · cases e; exact List.getElem?_append_left hl
        · cases e
      · unfold RD.follow at e
        split at e
        · cases e
        · rename_i o ho
          have hne := hk o ho
          have hset : ∀ x, (s.cs.set o.call.toNat x)[k]? = s.cs[k]? := fun x => List.getElem?_set_ne (fun h => hne h.symm)
          split at e
          · cases e
          · split at e
            · split at e
              · cases e; exact hset _
              · cases e
            · split at e
              · split at e
                · cases e; exact hset _
                · cases e
              · cases e
theorem evict_same {s s' : RD} {r : Rec} {i : Nat} (hop : r.op < 0) (e : s.step r i = some s') : s' = s ∧ ∀ (u : RD) (j : Nat), u.step r j = some u := by
  unfold RD.step at e
  split at e
  · cases e
  · rename_i h1
    split at e
    · rename_i h2
      cases e
      refine ⟨rfl, fun u j => ?_⟩
      unfold RD.step
      rw [if_neg h1, if_pos hop, if_pos h2]
    · cases e
theorem LRec.step {l : List Rec} {n : Nat} {s s' : RD} (L : LRec l n s) (I : RInv l n s) (e : s.step (l.getD n r0) n = some s') : LRec l (n + 1) s' := by
  refine ⟨fun t o h => ?_⟩
  by_cases hop : (l.getD n r0).op < 0
  · obtain ⟨rfl, _⟩ := evict_same hop e
    obtain ⟨p, h1, h2⟩ := L.rcd t o h
    exact ⟨p, by omega, h2⟩
  · obtain ⟨_, _, o', g1, g2, g3, g4⟩ := step_sets hop e
    by_cases ht : t = (l.getD n r0).thread
    · subst ht
      rw [g1] at h; cases h
      refine ⟨n, by omega, g2, rfl, fun h2 => ?_⟩
      have : (strip o).what = (l.getD n r0).what := by rw [g2]; rfl
      exact g4 (by have h3 : (strip o).what = 2 := h2; omega)
    · rw [other_step (fun h => ht h.symm) e] at h
      obtain ⟨p, h1, h2, h3, h4⟩ := L.rcd t o h
      obtain ⟨k1, k2, k3, k4, c1, k5, k6, _⟩ := I.last _ _ h
      refine ⟨p, by omega, h2, h3, fun hw => ⟨(h4 hw).1, fun c hc => ?_⟩⟩
      rw [other_cs e _ (fun o2 ho2 hh => ?_) k3] at hc
      · exact (h4 hw).2 c hc
      · obtain ⟨q1, q2, q3, q4, c2, q5, q6, _⟩ := I.last _ _ ho2
        rw [← hh, k5] at q5
        cases q5
        exact ht (k6.symm.trans q6)
theorem readTo_lrec {l : List Rec} (hb : ∀ i, (l.getD i r0).op < 9223372036854775808) : ∀ {n : Nat} {s : RD}, readTo l n = some s → LRec l n s
  | 0, s, h => by cases h; exact ⟨fun t o h => by cases h⟩
  | n + 1, s', h => by
    obtain ⟨s, h1, h2⟩ := Option.bind_eq_some_iff.1 h
    exact (readTo_lrec hb h1).step (readTo_inv hb h1) h2

def Dropped (cs : List Cal) (n : Nat) (t : Int) : Prop := ∃ (j : Nat) (c : Cal), cs[j]? = some c ∧ c.thread = t ∧ c.frm < n ∧ c.at_ = -1 ∧ c.to_ = -1
def idle : Option Opn → Prop
  | none => True
  | some o => o.what = 3
def Kept1 (cs : List Cal) (n : Nat) (sn u : RD) (t : Int) : Prop :=
  (¬ Dropped cs n t ∧ (mget u.at_ t).map strip = (mget sn.at_ t).map strip) ∨ (Dropped cs n t ∧ idle (mget u.at_ t) ∧ cntO (mget u.at_ t) ≤ cntO (mget sn.at_ t))

theorem idle_strip {a b : Option Opn} (h : a.map strip = b.map strip) (hb : idle b) : idle a := by
  cases a with
  | none => trivial
  | some o => cases b with
    | none => cases h
    | some o' =>
      have e := Option.some.inj h
      have e1 : o.what = o'.what := (by have q := congrArg Opn.what e; exact q)
      show o.what = 3
      rw [e1]; exact hb

theorem hDrop_iff (cs : List Cal) (n : Nat) : hDrop cs n = true ↔ ∃ (j : Nat) (c : Cal), cs[j]? = some c ∧ c.frm = n ∧ c.at_ = -1 ∧ c.to_ = -1 := by
  unfold hDrop
  rw [List.any_eq_true]
  constructor
  · rintro ⟨c, hc, h⟩
    obtain ⟨j, hj⟩ := List.getElem?_of_mem hc
    have h := of_decide_eq_true h
    exact ⟨j, c, hj, h.2.2, h.2.1, h.1⟩
  · rintro ⟨j, c, h1, h2, h3, h4⟩
    exact ⟨c, List.mem_of_getElem? h1, decide_eq_true ⟨h4, h3, h2⟩⟩
theorem hLate_iff (cs : List Cal) (n : Nat) : hLate cs n = true ↔ ∃ (j : Nat) (c : Cal), cs[j]? = some c ∧ c.at_ = n ∧ c.to_ = -1 := by
  unfold hLate
  rw [List.any_eq_true]
  constructor
  · rintro ⟨c, hc, h⟩
    obtain ⟨j, hj⟩ := List.getElem?_of_mem hc
    have h := of_decide_eq_true h
    exact ⟨j, c, hj, h.2.2, h.1⟩
  · rintro ⟨j, c, h1, h2, h3⟩
    exact ⟨c, List.mem_of_getElem? h1, decide_eq_true ⟨h3, by omega, h2⟩⟩

theorem frm_order {l : List Rec} {n : Nat} {s : RD} (I : RInv l n s) {j k : Nat} {c d : Cal} (h1 : s.cs[j]? = some c) (h2 : s.cs[k]? = some d) (h : c.frm < d.frm) : j < k := by
  rcases Nat.lt_trichotomy j k with h3 | h3 | h3
  · exact h3
  · subst h3; rw [h1] at h2; cases h2; omega
  · have := I.up k j d c h3 h2 h1; omega

theorem op_next {o r : Int} (h : r = IntKind.wrap .i64 (o + 1)) (h0 : 0 ≤ o) (h1 : o < 9223372036854775808) (h2 : 0 ≤ r) : r = o + 1 := by
  simp only [IntKind.wrap, IntKind.bits, IntKind.signed] at h
  simp at h
  omega

/-- What is kept is read as before, but for the calls that are dropped. -/
theorem out_sim {l : List Rec} (hb : ∀ i, (l.getD i r0).op < 9223372036854775808) {s : RD} (hs : readTo l l.length = some s) :
    ∀ {n : Nat} {sn : RD}, n ≤ l.length → readTo l n = some sn → ∃ u, readTo (hOut l s.cs n) (hOut l s.cs n).length = some u ∧ ∀ t, Kept1 s.cs n sn u t
  | 0, sn, _, h => by
    cases h
    refine ⟨⟨[], []⟩, rfl, fun t => .inl ⟨?_, rfl⟩⟩
    rintro ⟨j, c, h1, h2, h3, _⟩
    have := ((readTo_inv hb hs).frm j c h1).1
    omega
  | n + 1, s', hn, h => by
    obtain ⟨sn, h1, e⟩ := Option.bind_eq_some_iff.1 h
    obtain ⟨u, hu, K⟩ := out_sim hb hs (by omega) h1
    have I := readTo_inv hb h1
    have I' := readTo_inv hb h
    have If := readTo_inv hb hs
    have C := cut_all hb h1 (by omega) hs
    have C' := cut_all hb h hn hs
    have hbn := hb n
    have hr : ∀ {j : Nat} {c : Cal}, s.cs[j]? = some c → c.frm = n → (l.getD n r0).what = 1 ∧ (l.getD n r0).thread = c.thread ∧ (l.getD n r0).op = c.op ∧ 0 ≤ c.op := by
      intro j c hj hc
      obtain ⟨_, _, a, b, d, f⟩ := If.frm j c hj
      rw [hc, Int.toNat_natCast] at a b d
      exact ⟨a, b, d, f⟩
    have dn : ∀ t, Dropped s.cs (n + 1) t ↔ Dropped s.cs n t ∨ (hDrop s.cs n = true ∧ (l.getD n r0).thread = t) := by
      intro t
      constructor
      · rintro ⟨j, c, g1, g2, g3, g4, g5⟩
        by_cases hc : c.frm = n
        · exact .inr ⟨(hDrop_iff _ _).2 ⟨j, c, g1, hc, g4, g5⟩, (hr g1 hc).2.1.trans g2⟩
        · exact .inl ⟨j, c, g1, g2, by omega, g4, g5⟩
      · rintro (⟨j, c, g1, g2, g3, g4, g5⟩ | ⟨g, ht⟩)
        · exact ⟨j, c, g1, g2, by omega, g4, g5⟩
        · obtain ⟨j, c, g1, g2, g4, g5⟩ := (hDrop_iff _ _).1 g
          exact ⟨j, c, g1, (hr g1 g2).2.1.symm.trans ht, by omega, g4, g5⟩
    generalize hrr : l.getD n r0 = r at e hr dn hbn
    have keepOther : ∀ {u' : RD} (t : Int), t ≠ r.thread → mget u'.at_ t = mget u.at_ t → Kept1 s.cs (n + 1) s' u' t := by
      intro u' t ht hu'
      have hd : Dropped s.cs (n + 1) t ↔ Dropped s.cs n t := by
        rw [dn]
        exact ⟨fun h => h.resolve_right (fun h => ht h.2.symm), .inl⟩
      unfold Kept1
      rw [hd, other_step (fun h => ht h.symm) e, hu']
      exact K t
    cases hD : hDrop s.cs n with
    | true =>
      refine ⟨u, by rw [hOut_succ, if_pos hD, List.append_nil]; exact hu, fun t => ?_⟩
      by_cases ht : t = r.thread
      · subst ht
        obtain ⟨j, c, g1, g2, g4, g5⟩ := (hDrop_iff _ _).1 hD
        obtain ⟨w1, w2, w3, w4⟩ := hr g1 g2
        have hop : ¬ r.op < 0 := by omega
        obtain ⟨_, _, o', q1, q2, q3, _⟩ := step_sets hop e
        have hm := (q3 w1).2
        have hnd : ¬ Dropped s.cs n r.thread := by
          rintro ⟨j2, c2, f1, f2, f3, f4, f5⟩
          have hlt := frm_order If f1 g1 (by omega)
          have := (If.two j2 j c2 c hlt f1 g1 (by rw [f2, w2])).1
          exact this f5
        have hk := (K r.thread).resolve_right (fun h => hnd h.1)
        refine .inr ⟨(dn _).2 (.inr ⟨hD, rfl⟩), ?_, ?_⟩
        · refine idle_strip hk.2 ?_
          unfold RD.may at hm
          cases hg : mget sn.at_ r.thread with
          | none => trivial
          | some o => rw [hg] at hm; exact hm.1
        · rw [(cnt_strip hk.2).1, q1]
          have e2 : (strip o').op = r.op := by rw [q2]; rfl
          have e3 : cntO (some o') = r.op.toNat + 1 := by show (strip o').op.toNat + 1 = _; rw [e2]
          rw [e3]
          unfold RD.may at hm
          cases hg : mget sn.at_ r.thread with
          | none => exact Nat.zero_le _
          | some o =>
            rw [hg] at hm
            obtain ⟨k1, k2, k3, k4, c', k5, k6, k7, _⟩ := I.last _ _ hg
            obtain ⟨f1, f2, f3, f4, f5, f6⟩ := I.frm _ _ k5
            have := op_next hm.2 (by rw [← k7]; exact f6) (by rw [← k7, ← f5]; exact hb _) (by omega)
            show o.op.toNat + 1 ≤ _
            omega
      · exact keepOther t ht rfl
    | false =>
      have hout : hOut l s.cs (n + 1) = hOut l s.cs n ++ [r] := by rw [hOut_succ, if_neg (by rw [hD]; decide), hrr]
      have hread : ∀ u', u.step r (hOut l s.cs n).length = some u' → readTo (hOut l s.cs (n + 1)) (hOut l s.cs (n + 1)).length = some u' := by
        intro u' h
        rw [hout, List.length_append]
        show (readTo (hOut l s.cs n ++ [r]) (hOut l s.cs n).length).bind _ = some u'
        rw [readTo_append (Nat.le_refl _), hu]
        show u.step ((hOut l s.cs n ++ [r]).getD (hOut l s.cs n).length r0) _ = some u'
        have : (hOut l s.cs n ++ [r]).getD (hOut l s.cs n).length r0 = r := by
          rw [List.getD_eq_getElem?_getD, List.getElem?_append_right (Nat.le_refl _), Nat.sub_self]; rfl
        rw [this]; exact h
      have dn' : ∀ t, Dropped s.cs (n + 1) t ↔ Dropped s.cs n t := fun t => by
        rw [dn]
        exact ⟨fun h => h.resolve_right (fun h => by rw [hD] at h; cases h.1), .inl⟩
      by_cases hop : r.op < 0
      · obtain ⟨rfl, hu'⟩ := evict_same hop e
        refine ⟨u, hread u (hu' u _), fun t => ?_⟩
        unfold Kept1
        rw [dn']
        exact K t
      · obtain ⟨_, q0, o', q1, q2, q3, _⟩ := step_sets hop e
        have hnd : ¬ Dropped s.cs n r.thread := by
          rintro ⟨j2, c2, f1, f2, f3, f4, f5⟩
          have hin : j2 < sn.cs.length := by
            rcases Nat.lt_or_ge j2 sn.cs.length with h | h
            · exact h
            · have := (C.el j2 c2 f1).2 h; omega
          have hin' : j2 < s'.cs.length := by
            rcases Nat.lt_or_ge j2 s'.cs.length with h | h
            · exact h
            · have := (C'.el j2 c2 f1).2 h; omega
          have hc2 := ((C'.el j2 c2 f1).1 hin').2
          have z1 : (cut c2 (n + 1)).at_ = -1 := by show (if c2.at_ ≥ ((n + 1 : Nat) : Int) then -1 else c2.at_) = -1; rw [f4]; split <;> rfl
          have z2 : (cut c2 (n + 1)).to_ = -1 := by show (if c2.to_ ≥ ((n + 1 : Nat) : Int) then -1 else c2.to_) = -1; rw [f5]; split <;> rfl
          have z3 : (cut c2 (n + 1)).thread = r.thread := f2
          obtain ⟨o2, p1, p2, p3⟩ := I'.own j2 _ hc2
          rw [z3, q1] at p1; cases p1
          obtain ⟨k1, k2, k3, k4, c', k5, k6, k7, k8, k9, k10⟩ := I'.last _ _ q1
          rcases Nat.lt_or_ge j2 o'.call.toNat with hlt | hge
          · exact (I'.two j2 _ _ c' hlt hc2 k5 (by rw [z3, k6])).1 z2
          · have ej : j2 = o'.call.toNat := by omega
            rw [ej, k5] at hc2
            cases hc2
            have hw : o'.what = 1 := k8.2 ⟨z1, z2⟩
            have hw2 : r.what = 1 := by
              have : (strip o').what = r.what := by rw [q2]; rfl
              rw [← this]; exact hw
            have := (q3 hw2).1
            omega
        have hk := (K r.thread).resolve_right (fun h => hnd h.1)
        obtain ⟨u', v1, v2, v3⟩ := sim_step (j := (hOut l s.cs n).length) hk.2 e
        refine ⟨u', hread u' v1, fun t => ?_⟩
        by_cases ht : t = r.thread
        · subst ht
          exact .inl ⟨fun h => hnd ((dn' _).1 h), v2⟩
        · exact keepOther t ht (v3 t ht)

def LateTo (cs : List Cal) (n : Nat) (t : Int) : Prop := ∃ (j : Nat) (c : Cal), cs[j]? = some c ∧ c.thread = t ∧ c.at_ < n ∧ c.at_ ≠ -1 ∧ c.to_ = -1
def Kept2 (cs : List Cal) (n : Nat) (v u : RD) (t : Int) : Prop :=
  (¬ LateTo cs n t ∧ mget u.at_ t = mget v.at_ t) ∨ (LateTo cs n t ∧ (∃ o, mget u.at_ t = some o ∧ o.what = 3) ∧ cntO (mget u.at_ t) = cntO (mget v.at_ t))

theorem readTo_left {a b : List Rec} : ∀ {n : Nat}, n ≤ a.length → readTo (a ++ b) n = readTo a n
  | 0, _ => rfl
  | n + 1, h => by
    show (readTo (a ++ b) n).bind _ = (readTo a n).bind _
    rw [readTo_left (by omega)]
    have e : (a ++ b).getD n r0 = a.getD n r0 := by
      rw [List.getD_eq_getElem?_getD, List.getD_eq_getElem?_getD, List.getElem?_append_left (by omega)]
    rw [e]

/-- A late call's own record is what its thread is at. -/
theorem late_at {l : List Rec} (hb : ∀ i, (l.getD i r0).op < 9223372036854775808) {s : RD} (hs : readTo l l.length = some s) {j n : Nat} {c : Cal} (hj : s.cs[j]? = some c) (h1 : c.at_ = n) (h2 : c.to_ = -1) :
    (l.getD n r0).thread = c.thread ∧ 0 ≤ (l.getD n r0).op ∧ (l.getD n r0).err = 0 ∧ (0 ≤ c.thread ∧ c.thread < 64) ∧ ∃ o, mget s.at_ c.thread = some o ∧ strip o = Opn.of (l.getD n r0) 0 ∧ o.what = 2 ∧ o.call.toNat = j := by
  have I := readTo_inv hb hs
  obtain ⟨o, p1, p2, p3⟩ := I.own j c hj
  obtain ⟨k1, k2, k3, k4, c', k5, k6, k7, k8, k9, k10⟩ := I.last _ _ p1
  have ej : j = o.call.toNat := by
    rcases Nat.lt_or_ge j o.call.toNat with hlt | hge
    · exact absurd h2 (I.two j _ c c' hlt hj k5 (by rw [k6])).1
    · omega
  rw [← ej, hj] at k5
  cases k5
  have hw : o.what = 2 := k9.2 ⟨by omega, h2⟩
  obtain ⟨p, q1, q2, q3, q4⟩ := (readTo_lrec hb hs).rcd _ _ p1
  obtain ⟨q5, q6⟩ := q4 hw
  have hp := q6 c (by rw [← ej]; exact hj)
  have : p = n := by omega
  subst this
  obtain ⟨f1, f2, f3, f4, f5, f6⟩ := I.frm j c hj
  have hop : (l.getD p r0).op = c.op := by
    have : (strip o).op = (l.getD p r0).op := by rw [q2]; rfl
    rw [← this]; exact k7.symm
  have hthr : 0 ≤ c.thread ∧ c.thread < 64 := by
    -- the thread of a record that was read
    obtain ⟨t1, ht1⟩ := readTo_some hs (show p + 1 ≤ l.length by omega)
    obtain ⟨t0, ht0, e⟩ := Option.bind_eq_some_iff.1 ht1
    obtain ⟨b, _⟩ := step_sets (r := l.getD p r0) (by omega) e
    rw [← q3]; exact b
  exact ⟨q3, by omega, q5, hthr, o, p1, q2, hw, ej.symm⟩

theorem more_sim {l : List Rec} (hb : ∀ i, (l.getD i r0).op < 9223372036854775808) {s : RD} (hs : readTo l l.length = some s) {v : RD} (hv : readTo (hOut l s.cs l.length) (hOut l s.cs l.length).length = some v) (K : ∀ t, Kept1 s.cs l.length s v t) :
    ∀ {n : Nat}, n ≤ l.length → ∃ u, readTo (hOut l s.cs l.length ++ hMore l s.cs n) ((hOut l s.cs l.length).length + (hMore l s.cs n).length) = some u ∧ ∀ t, Kept2 s.cs n v u t
  | 0, _ => by
    refine ⟨v, ?_, fun t => .inl ⟨?_, rfl⟩⟩
    · show readTo (hOut l s.cs l.length ++ []) _ = some v
      rw [List.append_nil]; exact hv
    · rintro ⟨j, c, h1, h2, h3, h4, h5⟩
      have I := readTo_inv hb hs
      rcases I.at_ j c h1 with e | ⟨e, _⟩
      · exact h4 e
      · have := (I.frm j c h1).1; omega
  | n + 1, hn => by
    obtain ⟨u, hu, Kn⟩ := more_sim hb hs hv K (n := n) (by omega)
    have I := readTo_inv hb hs
    cases hL : hLate s.cs n with
    | false =>
      refine ⟨u, by rw [hMore_succ, if_neg (by rw [hL]; decide), List.append_nil]; exact hu, fun t => ?_⟩
      have : LateTo s.cs (n + 1) t ↔ LateTo s.cs n t := by
        constructor
        · rintro ⟨j, c, h1, h2, h3, h4, h5⟩
          refine ⟨j, c, h1, h2, ?_, h4, h5⟩
          by_cases e : c.at_ = n
          · have := (hLate_iff s.cs n).2 ⟨j, c, h1, e, h5⟩
            rw [hL] at this; cases this
          · omega
        · rintro ⟨j, c, h1, h2, h3, h4, h5⟩
          exact ⟨j, c, h1, h2, by omega, h4, h5⟩
      unfold Kept2
      rw [this]
      exact Kn t
    | true =>
      obtain ⟨j, c, h1, h2, h3⟩ := (hLate_iff _ _).1 hL
      obtain ⟨a1, a2, a3, a4, o, b1, b2, b3, b4⟩ := late_at hb hs h1 h2 h3
      -- one late call of a thread at most
      have uniq : ∀ (j2 : Nat) (c2 : Cal), s.cs[j2]? = some c2 → c2.thread = c.thread → c2.to_ = -1 → j2 = j := by
        intro j2 c2 g1 g2 g3
        rcases Nat.lt_trichotomy j2 j with h | h | h
        · exact absurd g3 (I.two j2 j c2 c h g1 h1 g2).1
        · exact h
        · exact absurd h3 (I.two j j2 c c2 h h1 g1 g2.symm).1
      have hnl : ¬ LateTo s.cs n c.thread := by
        rintro ⟨j2, c2, g1, g2, g3, g4, g5⟩
        have := uniq j2 c2 g1 g2 g5
        subst this
        rw [h1] at g1; cases g1
        omega
      have hnd : ¬ Dropped s.cs l.length c.thread := by
        rintro ⟨j2, c2, g1, g2, g3, g4, g5⟩
        have := uniq j2 c2 g1 g2 g5
        subst this
        rw [h1] at g1; cases g1
        omega
      have hk1 := (K c.thread).resolve_right (fun h => hnd h.1)
      have hk2 := (Kn c.thread).resolve_right (fun h => hnl h.1)
      have hst : (mget u.at_ c.thread).map strip = some (Opn.of (l.getD n r0) 0) := by
        rw [hk2.2, hk1.2, b1]; exact congrArg some b2
      generalize hrr : l.getD n r0 = r at a1 a2 a3 b2 hst
      cases hm : mget u.at_ c.thread with
      | none => rw [hm] at hst; cases hst
      | some o' =>
        rw [hm] at hst
        have es := Option.some.inj hst
        have e1 : o'.what = r.what := (by have q := congrArg Opn.what es; exact q)
        have e2 : o'.op = r.op := (by have q := congrArg Opn.op es; exact q)
        have e3 : o'.act = r.act := (by have q := congrArg Opn.act es; exact q)
        have e4 : o'.key = r.key := (by have q := congrArg Opn.key es; exact q)
        have e5 : o'.value = r.value := (by have q := congrArg Opn.value es; exact q)
        have e6 : o'.hit = r.hit := (by have q := congrArg Opn.hit es; exact q)
        have e7 : r.what = 2 := by
          have : (strip o).what = r.what := by rw [b2]; rfl
          rw [← this]; exact b3
        have hstep : ∀ i, ({ r with what := 3 } : Rec).thread = r.thread → u.step { r with what := 3 } i = some (u.upd { r with what := 3 } o' fun c => { c with to_ := i }) := by
          intro i _
          unfold RD.step
          rw [if_neg (by show ¬ (r.thread < 0 ∨ r.thread ≥ 64); omega), if_neg (by show ¬ r.op < 0; omega), if_neg (by show ¬ (3 : Int) = 1; decide)]
          unfold RD.follow
          show (match mget u.at_ r.thread with | none => none | some o => _) = _
          rw [a1, hm]
          show (if o'.what = 3 ∨ r.op ≠ o'.op ∨ r.act ≠ o'.act ∨ r.key ≠ o'.key then none else if (3 : Int) = 2 then _ else if (3 : Int) = 3 then (if o'.what = 1 ∨ (r.value = o'.value ∧ r.hit = o'.hit ∧ r.err = 0) then some _ else none) else none) = _
          rw [if_neg (by rw [e1, e2, e3, e4, e7]; simp), if_neg (by decide), if_pos rfl, if_pos (.inr ⟨e5.symm, e6.symm, a3⟩)]
        refine ⟨u.upd { r with what := 3 } o' fun c => { c with to_ := ((hOut l s.cs l.length).length + (hMore l s.cs n).length : Nat) }, ?_, fun t => ?_⟩
        · rw [hMore_succ, if_pos hL, hrr, ← List.append_assoc, List.length_append, ← Nat.add_assoc]
          show (readTo _ ((hOut l s.cs l.length).length + (hMore l s.cs n).length)).bind _ = _
          rw [readTo_left (by rw [List.length_append]; exact Nat.le_refl _), hu]
          show u.step ((hOut l s.cs l.length ++ hMore l s.cs n ++ [{ r with what := 3 }]).getD ((hOut l s.cs l.length).length + (hMore l s.cs n).length) r0) _ = _
          have : (hOut l s.cs l.length ++ hMore l s.cs n ++ [{ r with what := 3 }]).getD ((hOut l s.cs l.length).length + (hMore l s.cs n).length) r0 = { r with what := 3 } := by
            rw [List.getD_eq_getElem?_getD, List.getElem?_append_right (by rw [List.length_append]; exact Nat.le_refl _), List.length_append, Nat.sub_self]; rfl
          rw [this]; exact hstep _ rfl
        · have hget : mget (u.upd { r with what := 3 } o' fun c => { c with to_ := ((hOut l s.cs l.length).length + (hMore l s.cs n).length : Nat) }).at_ t = if t = r.thread then some (Opn.of { r with what := 3 } o'.call) else mget u.at_ t := mget_put ..
          by_cases ht : t = r.thread
          · refine .inr ⟨⟨j, c, h1, by rw [ht, a1], by omega, by omega, h3⟩, ⟨_, by rw [hget, if_pos ht], rfl⟩, ?_⟩
            rw [hget, if_pos ht, ht, a1, ← hk2.2, hm]
            show r.op.toNat + 1 = o'.op.toNat + 1
            rw [e2]
          · have : LateTo s.cs (n + 1) t ↔ LateTo s.cs n t := by
              constructor
              · rintro ⟨j2, c2, g1, g2, g3, g4, g5⟩
                refine ⟨j2, c2, g1, g2, ?_, g4, g5⟩
                by_cases e : c2.at_ = n
                · obtain ⟨f1, _⟩ := late_at hb hs g1 e g5
                  rw [hrr] at f1
                  exact absurd (g2.symm.trans f1.symm) ht
                · omega
              · rintro ⟨j2, c2, g1, g2, g3, g4, g5⟩
                exact ⟨j2, c2, g1, g2, by omega, g4, g5⟩
            unfold Kept2
            rw [this, hget, if_neg ht]
            exact Kn t

structure Completed (l c : List Rec) : Prop where
  right : hRight c = true
  left : hLeft c = 0
  coms : hCommits c = hCommits l
  again : hComplete c = c
  calls : (hCallsOf c).length ≤ (hCallsOf l).length
  small : c.length ≤ 2 * l.length

theorem mem_getD {l : List Rec} {i : Nat} : l.getD i r0 ∈ l ∨ l.getD i r0 = r0 := by
  rcases Nat.lt_or_ge i l.length with h | h
  · rw [getD_el r0 h]; exact .inl (List.getElem_mem h)
  · rw [List.getD_eq_getElem?_getD, List.getElem?_eq_none h]; exact .inr rfl

theorem completed {l : List Rec} (hl : ∀ r ∈ l, r.op < 9223372036854775808) (hr : hRight l = true) : Completed l (hComplete l) := by
  have hb := get_bound hl
  cases hs : readTo l l.length with
  | none => have := right_none hs; rw [this.1] at hr; cases hr
  | some s =>
    obtain ⟨a1, a2⟩ := right_some hs
    have hc : hComplete l = hOut l s.cs l.length ++ hMore l s.cs l.length := by rw [hComplete_eq hr, a2]
    obtain ⟨v, hv, K⟩ := out_sim hb hs (Nat.le_refl _) hs
    obtain ⟨u, hu, K2⟩ := more_sim hb hs hv K (Nat.le_refl _)
    rw [← List.length_append, ← hc] at hu
    obtain ⟨b1, b2⟩ := right_some hu
    have I := readTo_inv hb hs
    have hbc : ∀ r ∈ hComplete l, r.op < 9223372036854775808 := by
      intro r hr'
      rw [hc] at hr'
      rcases List.mem_append.1 hr' with h | h
      · unfold hOut at h
        obtain ⟨i, _, rfl⟩ := List.mem_map.1 h
        exact hb i
      · unfold hMore at h
        obtain ⟨i, _, rfl⟩ := List.mem_map.1 h
        exact hb i
    have TU := readTo_sum (get_bound hbc) hu
    have TS := readTo_sum hb hs
    have fin : ∀ t, idle (mget u.at_ t) ∧ cntO (mget u.at_ t) ≤ cntO (mget s.at_ t) := by
      intro t
      rcases K2 t with ⟨h1, h2⟩ | ⟨h1, ⟨o, h2, h3⟩, h4⟩
      · rw [h2]
        rcases K t with ⟨g1, g2⟩ | ⟨g1, g2, g3⟩
        · refine ⟨idle_strip g2 ?_, Nat.le_of_eq (cnt_strip g2).1⟩
          cases hg : mget s.at_ t with
          | none => trivial
          | some o =>
            obtain ⟨k1, k2, k3, k4, c', k5, k6, k7, k8, k9, k10⟩ := I.last _ _ hg
            obtain ⟨f1, f2, _⟩ := I.frm _ _ k5
            rcases k4 with w | w | w
            · obtain ⟨w1, w2⟩ := k8.1 w
              exact absurd ⟨_, c', k5, k6, f2, w1, w2⟩ g1
            · obtain ⟨w1, w2⟩ := k9.1 w
              rcases I.at_ _ _ k5 with e | ⟨_, e, _⟩
              · exact absurd e w1
              · exact absurd ⟨_, c', k5, k6, e, w1, w2⟩ h1
            · exact w
        · exact ⟨g2, g3⟩
      · refine ⟨by rw [h2]; exact h3, ?_⟩
        rw [h4]
        rcases K t with ⟨g1, g2⟩ | ⟨g1, g2, g3⟩
        · exact Nat.le_of_eq (cnt_strip g2).1
        · exact g3
    have hleft : hLeftOf u.cs = 0 := by
      rw [TU.lf]
      have : sumT (fun t => lfO (mget u.at_ (t : Int))) 64 = sumT (fun _ => 0) 64 := sumT_congr fun t _ => by
        have := (fin (t : Int)).1
        cases hg : mget u.at_ (t : Int) with
        | none => rfl
        | some o => rw [hg] at this; show (if o.what = 3 then 0 else 1) = 0; rw [if_pos (show o.what = 3 from this)]
      rw [this]; rfl
    have hto : ∀ c ∈ u.cs, c.to_ ≠ -1 := by
      intro c hc' h
      unfold hLeftOf at hleft
      have : c ∈ u.cs.filter fun c => decide (c.to_ = -1) := List.mem_filter.2 ⟨hc', decide_eq_true h⟩
      rw [List.eq_nil_of_length_eq_zero hleft] at this
      cases this
    have hdrop : ∀ i, hDrop u.cs i = false := by
      intro i
      unfold hDrop
      rw [List.any_eq_false]
      intro c hc'
      simp [hto c hc']
    have hlate : ∀ i, hLate u.cs i = false := by
      intro i
      unfold hLate
      rw [List.any_eq_false]
      intro c hc'
      simp [hto c hc']
    refine ⟨b1, by unfold hLeft; rw [b2]; exact hleft, ?_, ?_, ?_, ?_⟩
    · unfold hCommits
      rw [if_pos b1, if_pos hr]
      congr 1
      rw [hc, List.filter_append]
      have m0 : (hMore l s.cs l.length).filter (fun r => decide (r.what = 2)) = [] := by
        rw [List.filter_eq_nil_iff]
        intro r hr'
        unfold hMore at hr'
        obtain ⟨i, _, rfl⟩ := List.mem_map.1 hr'
        simp
      rw [m0, List.append_nil]
      have key : ∀ n, n ≤ l.length → (hOut l s.cs n).filter (fun r => decide (r.what = 2)) = (l.take n).filter (fun r => decide (r.what = 2)) := by
        intro n
        induction n with
        | zero => intro _; rfl
        | succ n ih =>
          intro hn
          rw [hOut_succ, List.filter_append, ih (by omega), List.take_succ_eq_append_getElem (show n < l.length by omega), List.filter_append, ← getD_el r0 (show n < l.length by omega)]
          congr 1
          cases hD : hDrop s.cs n with
          | false => rfl
          | true =>
            obtain ⟨j, c, g1, g2, g3, g4⟩ := (hDrop_iff _ _).1 hD
            obtain ⟨_, _, w, _⟩ := I.frm j c g1
            rw [g2, Int.toNat_natCast] at w
            simp only [if_true, List.filter_cons, w]
            rfl
      rw [key _ (Nat.le_refl _), List.take_length]
    · rw [hComplete_eq b1, b2]
      have o1 : hOut (hComplete l) u.cs (hComplete l).length = hComplete l := by
        unfold hOut
        rw [List.filter_eq_self.2 (fun i _ => by rw [hdrop i]; rfl)]
        apply List.ext_getElem?
        intro i
        rcases Nat.lt_or_ge i (hComplete l).length with h | h
        · rw [List.getElem?_map, List.getElem?_range h, List.getElem?_eq_getElem h]
          show some ((hComplete l).getD i r0) = _
          rw [getD_el r0 h]
        · rw [List.getElem?_eq_none h, List.getElem?_eq_none (by rw [List.length_map, List.length_range]; exact h)]
      have o2 : hMore (hComplete l) u.cs (hComplete l).length = [] := by
        unfold hMore
        rw [List.filter_eq_nil_iff.2 (fun i _ => by rw [hlate i]; decide)]
        rfl
      rw [o1, o2, List.append_nil]
    · rw [b2, a2, TU.cnt, TS.cnt]
      have mono : ∀ n, sumT (fun t => cntO (mget u.at_ (t : Int))) n ≤ sumT (fun t => cntO (mget s.at_ (t : Int))) n := by
        intro n
        induction n with
        | zero => exact Nat.le_refl _
        | succ n ih => rw [sumT_succ, sumT_succ]; have := (fin (n : Int)).2; omega
      exact mono 64
    · have := hOut_le l s.cs l.length
      have := hMore_le l s.cs l.length
      rw [hc, List.length_append]; omega

end Sx
end Go.Proofs.Ytemcdjdglcceiaa
