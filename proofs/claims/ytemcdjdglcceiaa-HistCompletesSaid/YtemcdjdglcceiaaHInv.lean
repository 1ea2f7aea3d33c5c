/-
  What holds of all calls that are read.
-/
import Derived.Test.YtemcdjdglcceiaaHModel
namespace Go.Proofs.Ytemcdjdglcceiaa
namespace Sx
open Go
set_option linter.unusedVariables false
set_option linter.unusedSimpArgs false

theorem mget_put {α : Type} : ∀ (m : List (Int × α)) (n : Int) (x : α) (k : Int), mget (mput m n x) k = if k = n then some x else mget m k
  | [], n, x, k => rfl
  | (j, y) :: m, n, x, k => by
    unfold mput
    by_cases h : n = j
    · rw [if_pos h]
      show (if k = j then some x else mget m k) = if k = n then some x else (if k = j then some y else mget m k)
      subst h
      by_cases hk : k = n
      · rw [if_pos hk, if_pos hk]
      · rw [if_neg hk, if_neg hk, if_neg hk]
    · rw [if_neg h]
      show (if k = j then some y else mget (mput m n x) k) = if k = n then some x else (if k = j then some y else mget m k)
      rw [mget_put m n x k]
      by_cases hk : k = j
      · rw [if_pos hk, if_pos hk, if_neg (fun hh => h (hh.symm.trans hk))]
      · rw [if_neg hk, if_neg hk]

theorem get_push {α : Type} {cs : List α} {x c : α} {j : Nat} (h : (cs ++ [x])[j]? = some c) : cs[j]? = some c ∨ (j = cs.length ∧ c = x) := by
  rcases Nat.lt_or_ge j cs.length with hj | hj
  · rw [List.getElem?_append_left hj] at h; exact .inl h
  · rw [List.getElem?_append_right hj] at h
    have : j - cs.length < 1 := by have := (List.getElem?_eq_some_iff.1 h).1; simpa using this
    have e : j = cs.length := by omega
    subst e
    rw [Nat.sub_self] at h
    exact .inr ⟨rfl, (Option.some.inj h).symm⟩
theorem get_set {α : Type} {cs : List α} {x c : α} {j k : Nat} (h : (cs.set k x)[j]? = some c) : (j = k ∧ c = x) ∨ (j ≠ k ∧ cs[j]? = some c) := by
  rw [List.getElem?_set] at h
  split at h
  · rename_i e
    split at h
    · exact .inl ⟨e.symm, (Option.some.inj h).symm⟩
    · cases h
  · rename_i e; exact .inr ⟨fun hh => e hh.symm, h⟩
theorem get_lt {α : Type} {cs : List α} {c : α} {j : Nat} (h : cs[j]? = some c) : j < cs.length := (List.getElem?_eq_some_iff.1 h).1

theorem RInv.mono {l : List Rec} {n : Nat} {s : RD} (I : RInv l n s) : RInv l (n + 1) s := by
  refine ⟨by have := I.len; omega, fun j c h => ?_, fun j c h => ?_, fun j c h => ?_, I.up, I.last, I.own, I.two⟩
  · obtain ⟨a, b, d⟩ := I.frm j c h; exact ⟨a, by omega, d⟩
  · rcases I.at_ j c h with e | ⟨a, b, d⟩
    · exact .inl e
    · exact .inr ⟨a, by omega, d⟩
  · rcases I.to_ j c h with e | ⟨a, b, d, e⟩
    · exact .inl e
    · exact .inr ⟨a, b, by omega, e⟩

theorem RInv.push {l : List Rec} {n : Nat} {s : RD} (I : RInv l n s) {r : Rec} (hr : l.getD n r0 = r) (hw : r.what = 1) (hp : 0 ≤ r.op) (hm : s.may r) (hb : ∀ i, (l.getD i r0).op < 9223372036854775808) : RInv l (n + 1) (s.push r n) := by
  have hlen := I.len
  have old : ∀ {j : Nat} {c : Cal}, s.cs[j]? = some c → c.thread = r.thread → c.to_ ≠ -1 ∧ c.to_ < n ∧ c.op < r.op := by
    intro j c h ht
    obtain ⟨o, h1, h2, h3⟩ := I.own j c h
    rw [ht] at h1
    have hm' := hm
    unfold RD.may at hm'
    rw [h1] at hm'
    obtain ⟨m1, m2⟩ := hm'
    obtain ⟨k1, k2, k3, k4, c', k5, k6, k7, k8, k9, k10⟩ := I.last _ _ h1
    have hto := k10.1 m1
    obtain ⟨f1, f2, f3, f4, f5, f6⟩ := I.frm _ _ k5
    have hop : o.op < 9223372036854775808 := by rw [← k7, ← f5]; exact hb _
    have hop0 : 0 ≤ o.op := by rw [← k7]; exact f6
    have e : r.op = o.op + 1 := by
      have := m2
      simp only [IntKind.wrap, IntKind.bits, IntKind.signed] at this
      simp at this
      omega
    rcases Nat.lt_or_ge j o.call.toNat with hj | hj
    · obtain ⟨t1, t2, t3⟩ := I.two j _ c c' hj h k5 (by rw [ht, k6])
      exact ⟨t1, by omega, by omega⟩
    · have : j = o.call.toNat := by omega
      subst this
      rw [h] at k5; cases k5
      rcases I.to_ _ _ h with t | ⟨t1, t2, t3, _⟩
      · exact absurd t hto
      · exact ⟨hto, t3, by omega⟩
  refine ⟨?_, fun j c h => ?_, fun j c h => ?_, fun j c h => ?_, fun j k c d hjk h1 h2 => ?_, fun t o h => ?_, fun j c h => ?_, fun j k c d hjk h1 h2 ht => ?_⟩
  · show (s.cs ++ [_]).length ≤ n + 1
    simp; exact hlen
  · rcases get_push h with h | ⟨rfl, rfl⟩
    · exact I.mono.frm j c h
    · exact ⟨by show (0 : Int) ≤ (n : Int); omega, by show (n : Int) < ((n + 1 : Nat) : Int); omega, by show (l.getD (n : Int).toNat r0).what = 1; rw [Int.toNat_natCast, hr, hw], by show (l.getD (n : Int).toNat r0).thread = r.thread; rw [Int.toNat_natCast, hr], by show (l.getD (n : Int).toNat r0).op = r.op; rw [Int.toNat_natCast, hr], hp⟩
  · rcases get_push h with h | ⟨rfl, rfl⟩
    · exact I.mono.at_ j c h
    · exact .inl rfl
  · rcases get_push h with h | ⟨rfl, rfl⟩
    · exact I.mono.to_ j c h
    · exact .inl rfl
  · rcases get_push h2 with h2 | ⟨rfl, rfl⟩
    · rcases get_push h1 with h1 | ⟨rfl, rfl⟩
      · exact I.up j k c d hjk h1 h2
      · have := get_lt h2; omega
    · rcases get_push h1 with h1 | ⟨rfl, rfl⟩
      · exact (I.frm j c h1).2.1
      · omega
  · have h' : (if t = r.thread then some (Opn.of r s.cs.length) else mget s.at_ t) = some o := by rw [← mget_put]; exact h
    split at h'
    · rename_i e
      cases h'
      refine ⟨e.symm, by show (0 : Int) ≤ (s.cs.length : Int); omega, by show (s.cs.length : Int).toNat < (s.cs ++ [_]).length; simp, .inl hw, ⟨r.thread, r.op, n, -1, -1⟩, ?_, e.symm, rfl, ?_, ?_, ?_⟩
      · show (s.cs ++ [_])[(s.cs.length : Int).toNat]? = _
        rw [Int.toNat_natCast, List.getElem?_append_right (Nat.le_refl _), Nat.sub_self]; rfl
      · exact ⟨fun _ => ⟨rfl, rfl⟩, fun _ => hw⟩
      · exact ⟨fun h => by have h' : r.what = 2 := h; omega, fun h => absurd rfl h.1⟩
      · exact ⟨fun h => by have h' : r.what = 3 := h; omega, fun h => absurd rfl h⟩
    · obtain ⟨k1, k2, k3, k4, c', k5, k6⟩ := I.last _ _ h'
      refine ⟨k1, k2, by show _ < (s.cs ++ [_]).length; simp; omega, k4, c', ?_, k6⟩
      show (s.cs ++ [_])[_]? = _
      rw [List.getElem?_append_left k3]; exact k5
  · show ∃ o, mget (mput s.at_ r.thread (Opn.of r s.cs.length)) c.thread = some o ∧ _
    rw [mget_put]
    rcases get_push h with h | ⟨rfl, rfl⟩
    · by_cases e : c.thread = r.thread
      · rw [if_pos e]
        exact ⟨_, rfl, by show j ≤ (s.cs.length : Int).toNat; have := get_lt h; omega, by show c.op ≤ r.op; have := (old h e).2.2; omega⟩
      · rw [if_neg e]
        exact I.own j c h
    · rw [if_pos rfl]
      exact ⟨_, rfl, by show s.cs.length ≤ (s.cs.length : Int).toNat; omega, by show r.op ≤ r.op; omega⟩
  · rcases get_push h2 with h2 | ⟨rfl, rfl⟩
    · rcases get_push h1 with h1 | ⟨rfl, rfl⟩
      · exact I.two j k c d hjk h1 h2 ht
      · have := get_lt h2; omega
    · rcases get_push h1 with h1 | ⟨rfl, rfl⟩
      · exact old h1 ht
      · omega

theorem RInv.upd {l : List Rec} {n : Nat} {s : RD} (I : RInv l n s) {r : Rec} {o : Opn} (ho : mget s.at_ r.thread = some o) (hop : r.op = o.op) {f : Cal → Cal} (hf : ∀ c, (f c).thread = c.thread ∧ (f c).op = c.op ∧ (f c).frm = c.frm)
    (hwr : r.what = 1 ∨ r.what = 2 ∨ r.what = 3)
    (hat : ∀ c, s.cs[o.call.toNat]? = some c → (f c).at_ = -1 ∨ (c.frm < (f c).at_ ∧ (f c).at_ < (n + 1 : Nat) ∧ (l.getD (f c).at_.toNat r0).what = 2 ∧ (l.getD (f c).at_.toNat r0).thread = c.thread ∧ (l.getD (f c).at_.toNat r0).op = c.op))
    (hto : ∀ c, s.cs[o.call.toNat]? = some c → (f c).to_ = -1 ∨ (c.frm < (f c).to_ ∧ (f c).at_ < (f c).to_ ∧ (f c).to_ < (n + 1 : Nat) ∧ (l.getD (f c).to_.toNat r0).what = 3 ∧ (l.getD (f c).to_.toNat r0).thread = c.thread ∧ (l.getD (f c).to_.toNat r0).op = c.op))
    (hwh : ∀ c, s.cs[o.call.toNat]? = some c → (r.what = 1 ↔ (f c).at_ = -1 ∧ (f c).to_ = -1) ∧ (r.what = 2 ↔ (f c).at_ ≠ -1 ∧ (f c).to_ = -1) ∧ (r.what = 3 ↔ (f c).to_ ≠ -1)) : RInv l (n + 1) (s.upd r o f) := by
  obtain ⟨k1, k2, k3, k4, c1, k5, k6, k7, k8, k9, k10⟩ := I.last _ _ ho
  have hd : s.cs.getD o.call.toNat c0 = c1 := by rw [List.getD_eq_getElem?_getD, k5]; rfl
  obtain ⟨f1, f2, f3⟩ := hf c1
  have J := I.mono
  have ecs : (s.upd r o f).cs = s.cs.set o.call.toNat (f c1) := by show s.cs.set _ (f (s.cs.getD o.call.toNat c0)) = _; rw [hd]
  have eat : ∀ t, mget (s.upd r o f).at_ t = if t = r.thread then some (Opn.of r o.call) else mget s.at_ t := fun t => mget_put ..
  -- each call of the new row comes of one of the old row
  have old : ∀ {j : Nat} {c : Cal}, (s.upd r o f).cs[j]? = some c → (j = o.call.toNat ∧ c = f c1) ∨ (j ≠ o.call.toNat ∧ s.cs[j]? = some c) := fun h => get_set (by rw [← ecs]; exact h)
  have base : ∀ {j : Nat} {c : Cal}, (s.upd r o f).cs[j]? = some c → ∃ c' : Cal, s.cs[j]? = some c' ∧ c.thread = c'.thread ∧ c.op = c'.op ∧ c.frm = c'.frm := by
    intro j c h
    rcases old h with ⟨rfl, rfl⟩ | ⟨_, h⟩
    · exact ⟨c1, k5, f1, f2, f3⟩
    · exact ⟨c, h, rfl, rfl, rfl⟩
  refine ⟨?_, fun j c h => ?_, fun j c h => ?_, fun j c h => ?_, fun j k c d hjk h1 h2 => ?_, fun t o' h => ?_, fun j c h => ?_, fun j k c d hjk h1 h2 ht => ?_⟩
  · rw [ecs, List.length_set]; have := I.len; omega
  · obtain ⟨c', h', e1, e2, e3⟩ := base h
    have := J.frm j c' h'
    rw [e1, e2, e3]; exact this
  · rcases old h with ⟨rfl, rfl⟩ | ⟨_, h⟩
    · rw [f1, f2, f3]; exact hat c1 k5
    · exact J.at_ j c h
  · rcases old h with ⟨rfl, rfl⟩ | ⟨_, h⟩
    · rw [f1, f2, f3]; exact hto c1 k5
    · exact J.to_ j c h
  · obtain ⟨c', h1', _, _, e3⟩ := base h1
    obtain ⟨d', h2', _, _, e3'⟩ := base h2
    rw [e3, e3']; exact I.up j k c' d' hjk h1' h2'
  · rw [eat] at h
    split at h
    · rename_i e
      cases h
      refine ⟨e.symm, k2, by rw [ecs, List.length_set]; exact k3, hwr, f c1, ?_, by rw [f1, k6, e], by rw [f2, k7]; exact hop.symm, hwh c1 k5⟩
      show (s.upd r o f).cs[o.call.toNat]? = _
      rw [ecs, List.getElem?_set_self k3]
    · rename_i e
      obtain ⟨q1, q2, q3, q4, c', q5, q6, q7⟩ := I.last _ _ h
      refine ⟨q1, q2, by rw [ecs, List.length_set]; exact q3, q4, c', ?_, q6, q7⟩
      rw [ecs, List.getElem?_set_ne (fun hh => ?_)]
      · exact q5
      · rw [← hh, k5] at q5
        cases q5
        exact e (q6.symm.trans k6)
  · obtain ⟨c', h', e1, e2, e3⟩ := base h
    obtain ⟨o', p1, p2, p3⟩ := I.own j c' h'
    rw [eat, e1, e2]
    by_cases e : c'.thread = r.thread
    · rw [if_pos e]
      rw [e, ho] at p1
      cases p1
      exact ⟨_, rfl, p2, by show c'.op ≤ r.op; omega⟩
    · rw [if_neg e]; exact ⟨o', p1, p2, p3⟩
  · obtain ⟨c', h1', e1, e2, e3⟩ := base h1
    obtain ⟨d', h2', g1, g2, g3⟩ := base h2
    rw [e1, g1] at ht
    have T := I.two j k c' d' hjk h1' h2' ht
    rcases old h1 with ⟨rfl, rfl⟩ | ⟨_, h⟩
    · exfalso
      obtain ⟨o', p1, p2, _⟩ := I.own k d' h2'
      rw [h1'] at k5; cases k5
      rw [← ht, k6, ho] at p1
      cases p1
      omega
    · rw [h] at h1'; cases h1'
      rw [g2, g3]; exact T

theorem RInv.step {l : List Rec} {n : Nat} {s s' : RD} (I : RInv l n s) (hb : ∀ i, (l.getD i r0).op < 9223372036854775808) (e : s.step (l.getD n r0) n = some s') : RInv l (n + 1) s' := by
  generalize hr : l.getD n r0 = r at e
  unfold RD.step at e
  split at e
  · cases e
  · split at e
    · split at e
      · cases e; exact I.mono
      · cases e
    · rename_i hop
      split at e
      · rename_i hw
        unfold RD.invoke at e
        split at e
        · rename_i hm
          cases e
          exact I.push hr hw (by omega) hm.1 hb
        · cases e
      · rename_i hw
        unfold RD.follow at e
        split at e
        · cases e
        · rename_i o ho
          obtain ⟨k1, k2, k3, k4, c1, k5, k6, k7, k8, k9, k10⟩ := I.last _ _ ho
          obtain ⟨q1, q2, q3, q4, q5, q6⟩ := I.frm _ _ k5
          split at e
          · cases e
          · rename_i hn
            have hn3 : o.what ≠ 3 := fun h => hn (.inl h)
            have hno : r.op = o.op := Classical.byContradiction fun h => hn (.inr (.inl h))
            have to1 : c1.to_ = -1 := Classical.byContradiction fun h => hn3 (k10.2 h)
            split at e
            · rename_i hw2
              split at e
              · rename_i hm
                cases e
                obtain ⟨a1, a2⟩ := k8.1 hm.1
                refine I.upd ho hno (fun c => ⟨rfl, rfl, rfl⟩) (.inr (.inl hw2)) (fun c h => ?_) (fun c h => ?_) (fun c h => ?_)
                · rw [k5] at h; cases h
                  exact .inr ⟨q2, by show (n : Int) < ((n + 1 : Nat) : Int); omega, by show (l.getD (n : Int).toNat r0).what = 2; rw [Int.toNat_natCast, hr]; exact hw2, by show (l.getD (n : Int).toNat r0).thread = _; rw [Int.toNat_natCast, hr]; exact k6.symm, by show (l.getD (n : Int).toNat r0).op = _; rw [Int.toNat_natCast, hr, k7]; exact hno⟩
                · rw [k5] at h; cases h; exact .inl to1
                · rw [k5] at h; cases h
                  refine ⟨⟨fun h => absurd h hw, fun h => ?_⟩, ⟨fun _ => ⟨?_, to1⟩, fun _ => hw2⟩, ⟨fun h => by omega, fun h => absurd to1 h⟩⟩
                  · have h' : (n : Int) = -1 := h.1; omega
                  · show (n : Int) ≠ -1; omega
              · cases e
            · split at e
              · rename_i hw3
                split at e
                · cases e
                  refine I.upd ho hno (fun c => ⟨rfl, rfl, rfl⟩) (.inr (.inr hw3)) (fun c h => ?_) (fun c h => ?_) (fun c h => ?_)
                  · rw [k5] at h; cases h
                    rcases I.at_ _ _ k5 with h | ⟨p1, p2, p3⟩
                    · exact .inl h
                    · exact .inr ⟨p1, by show c1.at_ < ((n + 1 : Nat) : Int); omega, p3⟩
                  · rw [k5] at h; cases h
                    refine .inr ⟨q2, ?_, by show (n : Int) < ((n + 1 : Nat) : Int); omega, by show (l.getD (n : Int).toNat r0).what = 3; rw [Int.toNat_natCast, hr]; exact hw3, by show (l.getD (n : Int).toNat r0).thread = _; rw [Int.toNat_natCast, hr]; exact k6.symm, by show (l.getD (n : Int).toNat r0).op = _; rw [Int.toNat_natCast, hr, k7]; exact hno⟩
                    show c1.at_ < (n : Int)
                    rcases I.at_ _ _ k5 with h | ⟨p1, p2, p3⟩
                    · omega
                    · exact p2
                  · rw [k5] at h; cases h
                    have hn' : (n : Int) ≠ -1 := by omega
                    exact ⟨⟨fun h => absurd h hw, fun h => absurd h.2 hn'⟩, ⟨fun h => by omega, fun h => absurd h.2 hn'⟩, ⟨fun _ => hn', fun _ => hw3⟩⟩
                · cases e
              · cases e

theorem readTo_inv {l : List Rec} (hb : ∀ i, (l.getD i r0).op < 9223372036854775808) : ∀ {n : Nat} {s : RD}, readTo l n = some s → RInv l n s
  | 0, s, h => by
    cases h
    refine ⟨Nat.le_refl _, fun j c h => (by simp at h), fun j c h => (by simp at h), fun j c h => (by simp at h), fun j k c d _ h => (by simp at h), fun t o h => (by cases h), fun j c h => (by simp at h), fun j k c d _ h => (by simp at h)⟩
  | n + 1, s', h => by
    obtain ⟨s, h1, h2⟩ := Option.bind_eq_some_iff.1 h
    exact (readTo_inv hb h1).step hb h2

end Sx
end Go.Proofs.Ytemcdjdglcceiaa
