/-
  Turns and how picks wait, in plain Lean.
-/
import Derived.Test.YtmcmdghmglopnaaGreatDoorWaitsP2
namespace Go.Proofs.YtmcmdghmglopnaaGreatDoor
namespace Sx

/-! ## windows -/
/-- Each window of length w that ends by e holds t. -/
def Covers (l : List Int) (t : Int) (w e : Nat) : Prop := ∀ s, s + w ≤ e → ∃ i, s ≤ i ∧ i < s + w ∧ l[i]? = some t
def FairP (l : List Int) (n : Int) (w : Nat) : Prop := ∀ t, 0 ≤ t → t < n → Covers l t w l.length

/-- What is known behind k picks: behind which place each came last (0: not yet), and the longest row without one. -/
structure LS where
  last : Int → Nat
  most : Nat
def lsStep (n : Int) (i : Nat) (t : Int) (s : LS) : LS := if 0 ≤ t ∧ t < n then ⟨fun x => if x = t then i + 1 else s.last x, max s.most (i - s.last t)⟩ else s
def lsRun (l : List Int) (n : Int) : Nat → LS
  | 0 => ⟨fun _ => 0, 0⟩
  | k + 1 => match l[k]? with
    | some t => lsStep n k t (lsRun l n k)
    | none => lsRun l n k

structure LInv (l : List Int) (n : Int) (k : Nat) (s : LS) : Prop where
  at_ : ∀ t, s.last t = 0 ∨ l[s.last t - 1]? = some t
  le : ∀ t, s.last t ≤ k
  all : ∀ i t, i < k → 0 ≤ t → t < n → l[i]? = some t → i < s.last t
  in_ : ∀ t, ¬ (0 ≤ t ∧ t < n) → s.last t = 0
  most : ∀ w, 1 ≤ w → (s.most < w ↔ ∀ t, 0 ≤ t → t < n → Covers l t w (s.last t))

theorem lsRun_inv (l : List Int) (n : Int) : ∀ k, k ≤ l.length → LInv l n k (lsRun l n k)
  | 0, _ => ⟨fun _ => .inl rfl, fun _ => Nat.le_refl _, fun i t h => absurd h (by omega), fun _ _ => rfl, fun w hw => ⟨fun _ t _ _ s hs => by simp [lsRun] at hs; omega, fun _ => by simp [lsRun]; omega⟩⟩
  | k + 1, hk => by
    have ih := lsRun_inv l n k (by omega)
    have hlt : k < l.length := by omega
    have hget : l[k]? = some l[k] := List.getElem?_eq_getElem hlt
    generalize ht : l[k] = t at hget
    simp only [lsRun, hget]
    unfold lsStep
    by_cases hv : 0 ≤ t ∧ t < n
    · rw [if_pos hv]
      generalize hs : lsRun l n k = s at ih
      refine ⟨fun x => ?_, fun x => ?_, fun i x hi h0 h1 hx => ?_, fun x hx => ?_, fun w hw => ?_⟩
      · show (if x = t then k + 1 else s.last x) = 0 ∨ l[(if x = t then k + 1 else s.last x) - 1]? = some x
        by_cases e : x = t
        · rw [if_pos e]; exact .inr (by simpa [e] using hget)
        · rw [if_neg e]; exact ih.at_ x
      · show (if x = t then k + 1 else s.last x) ≤ k + 1
        have := ih.le x
        split <;> omega
      · show i < (if x = t then k + 1 else s.last x)
        by_cases e : x = t
        · rw [if_pos e]; omega
        · rw [if_neg e]
          rcases Nat.lt_or_ge i k with h | h
          · exact ih.all i x h h0 h1 hx
          · have : i = k := by omega
            subst this
            rw [hget] at hx; cases hx; exact absurd rfl e
      · show (if x = t then k + 1 else s.last x) = 0
        by_cases e : x = t
        · subst e; exact absurd hv hx
        · rw [if_neg e]; exact ih.in_ x hx
      · show max s.most (k - s.last t) < w ↔ ∀ x, 0 ≤ x → x < n → Covers l x w (if x = t then k + 1 else s.last x)
        rw [Nat.max_lt, ih.most w hw]
        constructor
        · rintro ⟨h1, h2⟩ x hx0 hx1
          by_cases e : x = t
          · subst e
            rw [if_pos rfl]
            intro a ha
            rcases Nat.lt_or_ge (s.last x) (a + w) with h | h
            · rcases Nat.lt_or_ge k (a + w) with h3 | h3
              · exact ⟨k, by omega, by omega, hget⟩
              · -- a + w ≤ k, s.last x < a + w
                have h5 := ih.le x
                rcases ih.at_ x with h4 | h4
                · omega
                · exact ⟨s.last x - 1, by omega, by omega, h4⟩
            · exact h1 x hx0 hx1 a h
          · rw [if_neg e]; exact h1 x hx0 hx1
        · intro h
          refine ⟨fun x hx0 hx1 => ?_, ?_⟩
          · have := h x hx0 hx1
            by_cases e : x = t
            · subst e
              rw [if_pos rfl] at this
              exact fun a ha => this a (by have := ih.le x; omega)
            · rwa [if_neg e] at this
          · have h1 := h t hv.1 hv.2
            rw [if_pos rfl] at h1
            rcases Nat.lt_or_ge (k - s.last t) w with h2 | h2
            · exact h2
            · exfalso
              obtain ⟨i, i1, i2, i3⟩ := h1 (s.last t) (by have := ih.le t; omega)
              rcases Nat.lt_or_ge i k with h4 | h4
              · have := ih.all i t h4 hv.1 hv.2 i3; omega
              · omega
    · rw [if_neg hv]
      refine ⟨ih.at_, fun x => Nat.le_succ_of_le (ih.le x), fun i x hi h0 h1 hx => ?_, ih.in_, ih.most⟩
      rcases Nat.lt_or_ge i k with h | h
      · exact ih.all i x h h0 h1 hx
      · have : i = k := by omega
        subst this
        rw [hget] at hx; cases hx; exact absurd ⟨h0, h1⟩ hv

/-- The longest row without one: of all. -/
def LongIs (l : List Int) (n : Int) (r : Nat) : Prop := ∀ w, 1 ≤ w → (r < w ↔ FairP l n w)
theorem long_missing {l : List Int} {n : Int} {t : Int} (h0 : 0 ≤ t) (h1 : t < n) (h : (lsRun l n l.length).last t = 0) : LongIs l n l.length := by
  have inv := lsRun_inv l n l.length (Nat.le_refl _)
  intro w hw
  constructor
  · intro h x _ _ s hs; omega
  · intro hf
    rcases Nat.lt_or_ge l.length w with k | k
    · exact k
    · obtain ⟨i, i1, i2, i3⟩ := hf t h0 h1 0 (by omega)
      have := (List.getElem?_eq_some_iff.1 i3).1
      have := inv.all i t this h0 h1 i3
      omega
theorem long_all {l : List Int} {n : Int} {r : Nat} (hall : ∀ t, 0 ≤ t → t < n → (lsRun l n l.length).last t ≠ 0)
    (hr : ∀ w, 1 ≤ w → (r < w ↔ (lsRun l n l.length).most < w ∧ ∀ t, 0 ≤ t → t < n → l.length - (lsRun l n l.length).last t < w)) : LongIs l n r := by
  have inv := lsRun_inv l n l.length (Nat.le_refl _)
  intro w hw
  rw [hr w hw, inv.most w hw]
  constructor
  · rintro ⟨h1, h2⟩ t h0 h1' s hs
    have hl := inv.le t
    rcases Nat.lt_or_ge ((lsRun l n l.length).last t) (s + w) with h | h
    · rcases inv.at_ t with k | k
      · exact absurd k (hall t h0 h1')
      · have := h2 t h0 h1'
        have := hall t h0 h1'
        exact ⟨_, by omega, by omega, k⟩
    · exact h1 t h0 h1' s h
  · intro h
    refine ⟨fun t h0 h1 s hs => h t h0 h1 s (by have := inv.le t; omega), fun t h0 h1 => ?_⟩
    rcases Nat.lt_or_ge (l.length - (lsRun l n l.length).last t) w with k | k
    · exact k
    · exfalso
      have hl := inv.le t
      obtain ⟨i, i1, i2, i3⟩ := h t h0 h1 ((lsRun l n l.length).last t) (by omega)
      have := (List.getElem?_eq_some_iff.1 i3).1
      have := inv.all i t this h0 h1 i3
      omega
theorem LongIs.le {l : List Int} {n : Int} {r : Nat} (h : LongIs l n r) : r ≤ l.length := by
  have := (h (l.length + 1) (by omega)).2 (fun t _ _ s hs => by omega)
  omega

/-! ## turns -/
/-- The threads of a turn. -/
def turnI (n t : Int) : List Int := (List.range n.toNat).map fun (k : Nat) => (t % n + (if t % 2 = 0 then (k : Int) else n - k)) % n
def turnsI (n : Int) (l : List Int) : List Int := (if l = [] then [0] else l).flatMap (turnI n)
theorem turnI_length (n t : Int) : (turnI n t).length = n.toNat := by simp [turnI]
theorem turnI_get {n t : Int} {k : Nat} (h : k < n.toNat) : (turnI n t)[k]? = some ((t % n + (if t % 2 = 0 then (k : Int) else n - k)) % n) := by
  simp [turnI, h]
theorem turnI_in {n t x : Int} (h : x ∈ turnI n t) : 0 ≤ x ∧ x < n := by
  simp only [turnI, List.mem_map, List.mem_range] at h
  obtain ⟨k, hk, rfl⟩ := h
  have : 0 < n := by omega
  exact ⟨Int.emod_nonneg _ (by omega), Int.emod_lt_of_pos _ this⟩
theorem emod_small {x n : Int} (h0 : 0 ≤ x) (h : x < n) : x % n = x := Int.emod_eq_of_lt h0 h
theorem turnI_all {n t x : Int} (h0 : 0 ≤ x) (h : x < n) : ∃ k, k < n.toNat ∧ (turnI n t)[k]? = some x := by
  have hn : 0 < n := by omega
  have ha := Int.emod_nonneg t (show n ≠ 0 by omega)
  have hb := Int.emod_lt_of_pos t hn
  generalize ht : t % n = f at ha hb
  by_cases he : t % 2 = 0
  · by_cases hx : f ≤ x
    · refine ⟨(x - f).toNat, by omega, ?_⟩
      rw [turnI_get (by omega), if_pos he, ht, show f + ((x - f).toNat : Int) = x by omega, emod_small h0 h]
    · refine ⟨(x - f + n).toNat, by omega, ?_⟩
      rw [turnI_get (by omega), if_pos he, ht, show f + ((x - f + n).toNat : Int) = x + n by omega, Int.add_emod_right, emod_small h0 h]
  · by_cases hx : x ≤ f
    · refine ⟨(f - x).toNat, by omega, ?_⟩
      rw [turnI_get (by omega), if_neg he, ht, show f + (n - ((f - x).toNat : Int)) = x + n by omega, Int.add_emod_right, emod_small h0 h]
    · refine ⟨(f - x + n).toNat, by omega, ?_⟩
      rw [turnI_get (by omega), if_neg he, ht, show f + (n - ((f - x + n).toNat : Int)) = x by omega, emod_small h0 h]
theorem turnI_one {n t : Int} {j k : Nat} (hj : j < n.toNat) (hk : k < n.toNat) (h : (turnI n t)[j]? = (turnI n t)[k]?) : j = k := by
  have hn : 0 < n := by omega
  have ha := Int.emod_nonneg t (show n ≠ 0 by omega)
  have hb := Int.emod_lt_of_pos t hn
  rw [turnI_get hj, turnI_get hk] at h
  have h := Option.some.inj h
  generalize ht : t % n = f at ha hb h
  have key : ∀ a : Int, 0 ≤ a → a ≤ 2 * n - 1 → a % n = if a < n then a else a - n := fun a h0 h1 => by
    split
    · exact emod_small h0 (by omega)
    · rw [← Int.sub_emod_right, emod_small (by omega) (by omega)]
  by_cases he : t % 2 = 0
  · rw [if_pos he, if_pos he, key _ (by omega) (by omega), key _ (by omega) (by omega)] at h
    split at h <;> split at h <;> omega
  · rw [if_neg he, if_neg he] at h
    rcases Nat.eq_zero_or_pos j with rfl | j0
    · rcases Nat.eq_zero_or_pos k with rfl | k0
      · rfl
      · rw [show f + (n - ((0 : Nat) : Int)) = f + n by omega, Int.add_emod_right, emod_small ha hb, key _ (by omega) (by omega)] at h
        split at h <;> omega
    · rcases Nat.eq_zero_or_pos k with rfl | k0
      · rw [show f + (n - ((0 : Nat) : Int)) = f + n by omega, Int.add_emod_right, emod_small ha hb, key _ (by omega) (by omega)] at h
        split at h <;> omega
      · rw [key _ (by omega) (by omega), key _ (by omega) (by omega)] at h
        split at h <;> split at h <;> omega

/-! ## rows of turns -/
/-- Rounds: each holds all threads. -/
def Round (n : Int) (b : List Int) : Prop := b.length = n.toNat ∧ ∀ x, 0 ≤ x → x < n → x ∈ b
theorem turnI_round (n t : Int) : Round n (turnI n t) := ⟨turnI_length n t, fun x h0 h => by
  obtain ⟨k, _, hk⟩ := turnI_all (t := t) h0 h
  exact List.mem_of_getElem? hk⟩
theorem rounds_length {n : Int} : ∀ {bs : List (List Int)}, (∀ b ∈ bs, Round n b) → bs.flatten.length = bs.length * n.toNat
  | [], _ => by simp
  | b :: bs, h => by
    rw [List.flatten_cons, List.length_append, rounds_length (fun c hc => h c (List.mem_cons_of_mem _ hc)), (h b (List.mem_cons_self ..)).1, List.length_cons, Nat.add_mul, Nat.one_mul]
    omega
theorem rounds_at {n : Int} : ∀ {bs : List (List Int)}, (∀ b ∈ bs, Round n b) → ∀ j, j < bs.length → ∀ x, 0 ≤ x → x < n → ∃ i, j * n.toNat ≤ i ∧ i < (j + 1) * n.toNat ∧ bs.flatten[i]? = some x
  | [], _, j, hj, _, _, _ => by simp at hj
  | b :: bs, h, j, hj, x, h0, h1 => by
    have hb := h b (List.mem_cons_self ..)
    cases j with
    | zero =>
      obtain ⟨i, hi, he⟩ := List.mem_iff_getElem.1 (hb.2 x h0 h1)
      refine ⟨i, by omega, by rw [hb.1] at hi; omega, ?_⟩
      rw [List.flatten_cons, List.getElem?_append_left hi, List.getElem?_eq_getElem hi, he]
    | succ j =>
      obtain ⟨i, i1, i2, i3⟩ := rounds_at (fun c hc => h c (List.mem_cons_of_mem _ hc)) j (by simpa using hj) x h0 h1
      refine ⟨n.toNat + i, ?_, ?_, ?_⟩
      · rw [Nat.add_mul, Nat.one_mul]; omega
      · rw [Nat.add_mul, Nat.one_mul, Nat.add_mul, Nat.one_mul] at *; omega
      · rw [List.flatten_cons, List.getElem?_append_right (by rw [hb.1]; omega), hb.1, Nat.add_sub_cancel_left]; exact i3
/-- Rounds, one behind the other, ahead of them and behind them less than one: each window of twice as many less 1 holds all. -/
theorem rounds_fair {n : Int} (hn : 0 < n) {a z : List Int} {bs : List (List Int)} (hb : ∀ b ∈ bs, Round n b) (ha : a.length < n.toNat) (hz : z.length < n.toNat) : FairP (a ++ bs.flatten ++ z) n (2 * n.toNat - 1) := by
  intro x h0 h1 s hs
  have hN : 0 < n.toNat := by omega
  have hlen := rounds_length hb
  simp only [List.length_append, hlen] at hs
  -- the first round that begins at s or later
  let j := (s - a.length + (n.toNat - 1)) / n.toNat
  have hj1 : s - a.length ≤ j * n.toNat := by
    have := Nat.div_add_mod (s - a.length + (n.toNat - 1)) n.toNat
    have := Nat.mod_lt (s - a.length + (n.toNat - 1)) hN
    have : n.toNat * ((s - a.length + (n.toNat - 1)) / n.toNat) = j * n.toNat := Nat.mul_comm _ _
    omega
  have hj2 : j * n.toNat ≤ s - a.length + (n.toNat - 1) := Nat.div_mul_le_self _ _
  have hj0 : s < a.length → j * n.toNat = 0 := fun h => by
    rcases Nat.eq_zero_or_pos j with e | e
    · rw [e, Nat.zero_mul]
    · have := Nat.mul_le_mul_right n.toNat (show 1 ≤ j from e)
      omega
  have hj : j < bs.length := by
    rcases Nat.lt_or_ge j bs.length with h | h
    · exact h
    · exfalso
      have := Nat.mul_le_mul_right n.toNat h
      omega
  obtain ⟨i, i1, i2, i3⟩ := rounds_at hb j hj x h0 h1
  rw [Nat.add_mul, Nat.one_mul] at i2
  refine ⟨a.length + i, by omega, by omega, ?_⟩
  have hi : i < bs.flatten.length := (List.getElem?_eq_some_iff.1 i3).1
  rw [List.append_assoc, List.getElem?_append_right (by omega), Nat.add_sub_cancel_left, List.getElem?_append_left hi]
  exact i3
end Sx
end Go.Proofs.YtmcmdghmglopnaaGreatDoor

/-
  What the laws on turns ask, in plain Lean.
-/
namespace Go.Proofs.YtmcmdghmglopnaaGreatDoor
namespace Sx

/-- The rounds of turns. -/
def blocks (n : Int) (l : List Int) : List (List Int) := (if l = [] then [0] else l).map (turnI n)
theorem turnsI_blocks (n : Int) (l : List Int) : turnsI n l = (blocks n l).flatten := by unfold turnsI blocks; rw [List.flatMap_def]
theorem blocks_round (n : Int) (l : List Int) : ∀ b ∈ blocks n l, Round n b := by
  intro b hb
  obtain ⟨t, _, rfl⟩ := List.mem_map.1 hb
  exact turnI_round n t
def turnsLen (l : List Int) : Nat := max l.length 1
theorem blocks_length (n : Int) (l : List Int) : (blocks n l).length = turnsLen l := by
  unfold blocks turnsLen
  cases l with
  | nil => rfl
  | cons a l => simp
theorem turnsI_length (n : Int) (l : List Int) : (turnsI n l).length = turnsLen l * n.toNat := by rw [turnsI_blocks, rounds_length (blocks_round n l), blocks_length]
theorem turns_fair {n : Int} (hn : 0 < n) (l : List Int) : FairP (turnsI n l) n (2 * n.toNat - 1) := by
  have := rounds_fair hn (a := []) (z := []) (blocks_round n l) (by simp; omega) (by simp; omega)
  rwa [List.nil_append, List.append_nil, ← turnsI_blocks] at this
theorem turns_not {n : Int} (hn : 1 < n) (l : List Int) : ¬ FairP (turnsI n l) n (n.toNat - 1) := by
  intro h
  have hb : blocks n l ≠ [] := by
    intro e
    have := blocks_length n l
    rw [e] at this; simp [turnsLen] at this; omega
  obtain ⟨b, bs, hbs⟩ := List.exists_cons_of_ne_nil hb
  obtain ⟨t, ht⟩ : ∃ t, b = turnI n t := by
    have : b ∈ blocks n l := by rw [hbs]; exact List.mem_cons_self ..
    obtain ⟨t, _, rfl⟩ := List.mem_map.1 this
    exact ⟨t, rfl⟩
  have hN : n.toNat - 1 < n.toNat := by omega
  have hlast := turnI_get (t := t) hN
  generalize hx : (t % n + if t % 2 = 0 then ((n.toNat - 1 : Nat) : Int) else n - ((n.toNat - 1 : Nat) : Int)) % n = x at hlast
  have hin := turnI_in (List.mem_of_getElem? hlast)
  have hlen := turnsI_length n l
  have h1 : 1 ≤ turnsLen l := by unfold turnsLen; omega
  have h2 := Nat.mul_le_mul_right n.toNat h1
  obtain ⟨i, _, i2, i3⟩ := h x hin.1 hin.2 0 (by omega)
  rw [turnsI_blocks, hbs, List.flatten_cons, ht, List.getElem?_append_left (by rw [turnI_length]; omega)] at i3
  have := turnI_one (t := t) (j := i) (k := n.toNat - 1) (by omega) hN (by rw [i3, hlast])
  omega
/-- How long picks by turns keep one waiting. -/
theorem turns_wait {n : Int} (hn : 0 < n) (l : List Int) {r : Nat} (h : LongIs (turnsI n l) n r) : n.toNat ≤ r + 1 ∧ r + 1 ≤ 2 * n.toNat - 1 := by
  constructor
  · rcases Nat.lt_or_ge r (n.toNat - 1) with k | k
    · exfalso
      have hn1 : 1 < n := by omega
      exact turns_not hn1 l ((h (n.toNat - 1) (by omega)).1 k)
    · omega
  · have := (h (2 * n.toNat - 1) (by omega)).2 (turns_fair hn l)
    omega

/-! ## how often each comes -/
def cnt (l : List Int) (x : Int) : Nat := l.count x
end Sx
end Go.Proofs.YtmcmdghmglopnaaGreatDoor

/-
  The longest row without one, by a map of who came last: plain.
-/
namespace Go.Proofs.YtmcmdghmglopnaaGreatDoor
namespace Sx
open Go
abbrev Mp := List (Int × Int)
theorem mgetput : ∀ (m : Mp) (n x k : Int), mget (mput m n x) k = if k = n then some x else mget m k
  | [], n, x, k => rfl
  | (j, y) :: m, n, x, k => by
    unfold mput
    by_cases h : n = j
    · rw [if_pos h]
      show (if k = j then some x else mget m k) = if k = n then some x else (if k = j then some y else mget m k)
      subst h
      by_cases hk : k = n
      · rw [if_pos hk, if_pos hk]
      · rw [if_neg hk, if_neg hk, if_neg hk]
    · rw [if_neg h]
      show (if k = j then some y else mget (mput m n x) k) = if k = n then some x else (if k = j then some y else mget m k)
      rw [mgetput m n x k]
      by_cases hk : k = j
      · rw [if_pos hk, if_pos hk, if_neg (fun hh => h (hh.symm.trans hk))]
      · rw [if_neg hk, if_neg hk]
def OneK (m : Mp) : Prop := (m.map (·.1)).Nodup
theorem mput_keys : ∀ (m : Mp) (n x k : Int), k ∈ (mput m n x).map (·.1) ↔ k = n ∨ k ∈ m.map (·.1)
  | [], n, x, k => by simp [mput]
  | (j, y) :: m, n, x, k => by
    unfold mput
    by_cases h : n = j
    · rw [if_pos h]; simp [h]
    · rw [if_neg h]
      have ih := mput_keys m n x k
      simp only [List.map_cons, List.mem_cons]
      rw [ih]
      constructor
      · rintro (h | h | h)
        · exact .inr (.inl h)
        · exact .inl h
        · exact .inr (.inr h)
      · rintro (h | h | h)
        · exact .inr (.inl h)
        · exact .inl h
        · exact .inr (.inr h)
theorem mput_one : ∀ {m : Mp}, OneK m → ∀ (n x : Int), OneK (mput m n x)
  | [], _, n, x => by simp [OneK, mput]
  | (j, y) :: m, h, n, x => by
    have h' := List.nodup_cons.1 h
    unfold mput
    by_cases hn : n = j
    · rw [if_pos hn]; exact h
    · rw [if_neg hn]
      refine List.nodup_cons.2 ⟨fun hm => ?_, mput_one h'.2 n x⟩
      rcases (mput_keys m n x j).1 hm with h1 | h1
      · exact hn h1.symm
      · exact h'.1 h1
theorem mget_key : ∀ {m : Mp} {k : Int}, (mget m k).isSome = true ↔ k ∈ m.map (·.1)
  | [], k => by simp [mget]
  | (j, y) :: m, k => by
    show (if k = j then some y else mget m k).isSome = true ↔ _
    by_cases h : k = j
    · rw [if_pos h]; simp [h]
    · rw [if_neg h, mget_key]; simp [h]
theorem mget_of_mem : ∀ {m : Mp}, OneK m → ∀ {k v : Int}, (k, v) ∈ m → mget m k = some v
  | [], _, _, _, h => by simp at h
  | (j, y) :: m, h1, k, v, h => by
    have h' := List.nodup_cons.1 h1
    show (if k = j then some y else mget m k) = some v
    rcases List.mem_cons.1 h with e | e
    · cases e; rw [if_pos rfl]
    · rw [if_neg (fun hk => h'.1 (by subst hk; exact List.mem_map.2 ⟨_, e, rfl⟩))]
      exact mget_of_mem h'.2 e

/-- The map is who came last. -/
structure LastOf (n : Int) (k : Nat) (m : Mp) (s : LS) : Prop where
  one : OneK m
  get : ∀ t, mget m t = if s.last t = 0 then none else some ((s.last t : Int) - 1)
  keys : ∀ t ∈ m.map (·.1), 0 ≤ t ∧ t < n
  vals : ∀ e ∈ m, 0 ≤ e.2 ∧ e.2 < k
theorem LastOf.start (n : Int) : LastOf n 0 [] ⟨fun _ => 0, 0⟩ := ⟨by simp [OneK], fun t => rfl, by simp, by simp⟩
theorem LastOf.skip {n : Int} {k : Nat} {m : Mp} {s : LS} (h : LastOf n k m s) : LastOf n (k + 1) m s := ⟨h.one, h.get, h.keys, fun e he => by have := h.vals e he; omega⟩
theorem LastOf.put {n : Int} {k : Nat} {m : Mp} {s : LS} (h : LastOf n k m s) {t : Int} (h0 : 0 ≤ t) (h1 : t < n) : LastOf n (k + 1) (mput m t k) ⟨fun x => if x = t then k + 1 else s.last x, max s.most (k - s.last t)⟩ := by
  refine ⟨mput_one h.one _ _, fun x => ?_, fun x hx => ?_, fun e he => ?_⟩
  · rw [mgetput]
    by_cases e : x = t
    · subst e; simp
    · rw [if_neg e, h.get]; simp [e]
  · rcases (mput_keys m t k x).1 hx with e | e
    · subst e; exact ⟨h0, h1⟩
    · exact h.keys x e
  · have hm := mget_of_mem (mput_one h.one t k) (k := e.1) (v := e.2) he
    rw [mgetput] at hm
    by_cases e1 : e.1 = t
    · rw [if_pos e1] at hm; have hm := Option.some.inj hm; omega
    · rw [if_neg e1, h.get] at hm
      have h2 : (mget m e.1).isSome = true := by rw [h.get]; rw [hm]; rfl
      have := mget_key.1 h2
      obtain ⟨e', he', hk⟩ := List.mem_map.1 this
      have h3 := mget_of_mem h.one (k := e'.1) (v := e'.2) he'
      rw [hk, h.get, hm] at h3
      have := h.vals e' he'
      have h4 : e.2 = e'.2 := Option.some.inj h3
      omega
theorem nodup_le {α : Type} [DecidableEq α] : ∀ {a b : List α}, a.Nodup → (∀ x ∈ a, x ∈ b) → a.length ≤ b.length
  | [], _, _, _ => Nat.zero_le _
  | x :: a, b, h, hs => by
    have h' := List.nodup_cons.1 h
    have hx := hs x (List.mem_cons_self ..)
    have := nodup_le (b := b.erase x) h'.2 (fun y hy => (List.mem_erase_of_ne (fun e => h'.1 (by subst e; exact hy))).2 (hs y (List.mem_cons_of_mem _ hy)))
    rw [List.length_erase_of_mem hx] at this
    have := List.length_pos_of_mem hx
    rw [List.length_cons]; omega
def upto (n : Int) : List Int := (List.range n.toNat).map fun (k : Nat) => (k : Int)
theorem upto_mem {n x : Int} : x ∈ upto n ↔ 0 ≤ x ∧ x < n := by
  unfold upto
  rw [List.mem_map]
  constructor
  · rintro ⟨k, hk, rfl⟩; have := List.mem_range.1 hk; omega
  · rintro ⟨h0, h1⟩; exact ⟨x.toNat, List.mem_range.2 (by omega), by omega⟩
theorem upto_nodup (n : Int) : (upto n).Nodup := by
  unfold upto
  refine List.Pairwise.map _ (fun a b h e => h (by omega)) List.nodup_range
theorem LastOf.full {n : Int} {k : Nat} {m : Mp} {s : LS} (h : LastOf n k m s) : ((m.length : Int) < n ↔ ∃ t, 0 ≤ t ∧ t < n ∧ s.last t = 0) := by
  have hm : (m.map (·.1)).length = m.length := List.length_map ..
  have hu : (upto n).length = n.toNat := by simp [upto]
  constructor
  · intro hlt
    apply Classical.byContradiction
    intro hno
    have hall : ∀ x ∈ upto n, x ∈ m.map (·.1) := fun x hx => by
      have hx := upto_mem.1 hx
      rw [← mget_key, h.get]
      rw [if_neg (fun e => hno ⟨x, hx.1, hx.2, e⟩)]; rfl
    have := nodup_le (upto_nodup n) hall
    omega
  · rintro ⟨t, h0, h1, ht⟩
    have hsub : ∀ x ∈ m.map (·.1), x ∈ (upto n).erase t := fun x hx => by
      have hk := h.keys x hx
      refine (List.mem_erase_of_ne (fun e => ?_)).2 (upto_mem.2 hk)
      subst e
      have h2 := mget_key.2 hx
      rw [h.get, if_pos ht] at h2; cases h2
    have := nodup_le h.one hsub
    rw [List.length_erase_of_mem (upto_mem.2 ⟨h0, h1⟩)] at this
    omega

/-- The greatest of one number and of what is left behind each entry. -/
def MostOf (len : Nat) (q : Int) (m : Mp) (r : Int) : Prop := ∀ w : Int, r < w ↔ q < w ∧ ∀ e ∈ m, (len : Int) - 1 - e.2 < w
theorem MostOf.nil {len : Nat} {q : Int} : MostOf len q [] q := fun w => by simp
theorem MostOf.snoc {len : Nat} {q r : Int} {m : Mp} {e : Int × Int} (h : MostOf len q m r) : MostOf len q (m ++ [e]) (if (len : Int) - 1 - e.2 > r then (len : Int) - 1 - e.2 else r) := fun w => by
  have h1 : (if (len : Int) - 1 - e.2 > r then (len : Int) - 1 - e.2 else r) < w ↔ r < w ∧ (len : Int) - 1 - e.2 < w := by split <;> omega
  rw [h1, h w]
  simp only [List.mem_append, List.mem_singleton]
  constructor
  · rintro ⟨⟨k1, k2⟩, k3⟩
    refine ⟨k1, fun e' he => ?_⟩
    rcases he with he | rfl
    · exact k2 e' he
    · exact k3
  · rintro ⟨k1, k2⟩
    exact ⟨⟨k1, fun e' he => k2 e' (.inl he)⟩, k2 e (.inr rfl)⟩
theorem MostOf.perm {len : Nat} {q r : Int} {m m' : Mp} (h : MostOf len q m r) (hp : ∀ e, e ∈ m ↔ e ∈ m') : MostOf len q m' r := fun w => by
  rw [h w]
  constructor
  · rintro ⟨a, b⟩; exact ⟨a, fun e he => b e ((hp e).2 he)⟩
  · rintro ⟨a, b⟩; exact ⟨a, fun e he => b e ((hp e).1 he)⟩
theorem long_miss {l : List Int} {n : Int} {m : Mp} (h : LastOf n l.length m (lsRun l n l.length)) (hlt : (m.length : Int) < n) : LongIs l n l.length := by
  obtain ⟨t, h0, h1, ht⟩ := h.full.1 hlt
  exact long_missing h0 h1 ht
theorem long_most {l : List Int} {n : Int} {m : Mp} {r : Int} (h : LastOf n l.length m (lsRun l n l.length)) (hge : ¬ (m.length : Int) < n) (hr : MostOf l.length ((lsRun l n l.length).most : Int) m r) : 0 ≤ r ∧ LongIs l n r.toNat := by
  have hall : ∀ t, 0 ≤ t → t < n → (lsRun l n l.length).last t ≠ 0 := fun t h0 h1 e => hge (h.full.2 ⟨t, h0, h1, e⟩)
  have hr0 : 0 ≤ r := by
    rcases Int.lt_or_le r 0 with k | k
    · have := ((hr 0).1 k).1; omega
    · exact k
  refine ⟨hr0, long_all hall fun w hw => ?_⟩
  have h1 : r.toNat < w ↔ r < (w : Int) := by omega
  rw [h1, hr (w : Int)]
  constructor
  · rintro ⟨k1, k2⟩
    refine ⟨by omega, fun t h0 h1 => ?_⟩
    have hne := hall t h0 h1
    have hg := h.get t
    rw [if_neg hne] at hg
    have : (t, ((lsRun l n l.length).last t : Int) - 1) ∈ m := by
      have key : ∀ {m : Mp} {k v : Int}, mget m k = some v → (k, v) ∈ m := by
        intro m
        induction m with
        | nil => intro k v h; cases h
        | cons a m ih =>
          obtain ⟨j, y⟩ := a
          intro k v h
          have h : (if k = j then some y else mget m k) = some v := h
          by_cases e : k = j
          · rw [if_pos e] at h; cases h; subst e; exact List.mem_cons_self ..
          · rw [if_neg e] at h; exact List.mem_cons_of_mem _ (ih h)
      exact key hg
    have := k2 _ this
    simp only at this
    have hle := (lsRun_inv l n l.length (Nat.le_refl _)).le t
    omega
  · rintro ⟨k1, k2⟩
    refine ⟨by omega, fun e he => ?_⟩
    have hk := h.keys e.1 (List.mem_map.2 ⟨e, he, rfl⟩)
    have hg := mget_of_mem h.one (k := e.1) (v := e.2) he
    rw [h.get] at hg
    split at hg
    · cases hg
    · have h2 : ((lsRun l n l.length).last e.1 : Int) - 1 = e.2 := Option.some.inj hg
      have := k2 e.1 hk.1 hk.2
      have hle := (lsRun_inv l n l.length (Nat.le_refl _)).le e.1
      omega
end Sx
end Go.Proofs.YtmcmdghmglopnaaGreatDoor

/-
  From a call as it is known here to a call in any world: all that was there stays.
-/
namespace Go.Proofs.YtmcmdghmglopnaaGreatDoor
namespace Sx
open Go

/-- All of a world's memory. -/
def whole (W : World) : Hp := fun b => W.heap[b]?

theorem law_calls {U : Uni} {P : Program} {f : Nat} {avs : List AV} {h : Heap U} {nx : Nat} (hc : CallsSx P f avs h nx (fun v _ _ _ => v.sub .tt)) {W : World} {r : Nm} {vs : List Value}
    (hr : relL r avs vs) (hh : h.den (whole W) r Hp.nil) (hf : Fresh r nx) :
    Calls P f vs.toArray W (fun e W' => e = .returned (.bool true) ∧ RowKit.Below W.heap.size W W') := by
  refine (hc.2 ⟨whole W, W.os, W.output, W.tape⟩ r vs W hr ⟨⟨rfl, rfl, rfl, fun x o e => e⟩, Hp.nil, hh, Hp.nil_apart _, Hp.inW_nil W⟩ hf).mono ?_
  rintro e w' ⟨v, h', nx', T, z, r', rfl, hv, _, _, hz, ⟨hm, _⟩, _⟩
  have hz' : z = .bool true := hv r' z hz
  refine ⟨by rw [hz'], hm.os, hm.tape, hm.output, ?_, fun k hk => ?_⟩
  · rcases Nat.eq_zero_or_pos W.heap.size with h0 | h0
    · omega
    · have hk : W.heap.size - 1 < W.heap.size := by omega
      have := hm.G (W.heap.size - 1) _ (Array.getElem?_eq_getElem hk)
      have hlt := (Array.getElem?_eq_some_iff.1 this).1
      omega
  · have := hm.G k _ (Array.getElem?_eq_getElem hk)
    rw [this, Array.getElem?_eq_getElem hk]

end Sx
end Go.Proofs.YtmcmdghmglopnaaGreatDoor

