/-
  The longest row without one, by a map of who came last: plain.
-/
import Derived.Test.YtmcmdghmglopnaaGreatDoorGrowingP2
namespace Go.Proofs.YtmcmdghmglopnaaGreatDoor
namespace Sx
open Go
abbrev Mp := List (Int × Int)
theorem mgetput : ∀ (m : Mp) (n x k : Int), mget (mput m n x) k = if k = n then some x else mget m k
  | [], n, x, k => rfl
  | (j, y) :: m, n, x, k => by
    unfold mput
    by_cases h : n = j
    · rw [if_pos h]
      show (if k = j then some x else mget m k) = if k = n then some x else (if k = j then some y else mget m k)
      subst h
      by_cases hk : k = n
      · rw [if_pos hk, if_pos hk]
      · rw [if_neg hk, if_neg hk, if_neg hk]
    · rw [if_neg h]
      show (if k = j then some y else mget (mput m n x) k) = if k = n then some x else (if k = j then some y else mget m k)
      rw [mgetput m n x k]
      by_cases hk : k = j
      · rw [if_pos hk, if_pos hk, if_neg (fun hh => h (hh.symm.trans hk))]
      · rw [if_neg hk, if_neg hk]
def OneK (m : Mp) : Prop := (m.map (·.1)).Nodup
theorem mput_keys : ∀ (m : Mp) (n x k : Int), k ∈ (mput m n x).map (·.1) ↔ k = n ∨ k ∈ m.map (·.1)
  | [], n, x, k => by simp [mput]
  | (j, y) :: m, n, x, k => by
    unfold mput
    by_cases h : n = j
    · rw [if_pos h]; simp [h]
    · rw [if_neg h]
      have ih := mput_keys m n x k
      simp only [List.map_cons, List.mem_cons]
      rw [ih]
      constructor
      · rintro (h | h | h)
        · exact .inr (.inl h)
        · exact .inl h
        · exact .inr (.inr h)
      · rintro (h | h | h)
        · exact .inr (.inl h)
        · exact .inl h
        · exact .inr (.inr h)
theorem mput_one : ∀ {m : Mp}, OneK m → ∀ (n x : Int), OneK (mput m n x)
  | [], _, n, x => by simp [OneK, mput]
  | (j, y) :: m, h, n, x => by
    have h' := List.nodup_cons.1 h
    unfold mput
    by_cases hn : n = j
    · rw [if_pos hn]; exact h
    · rw [if_neg hn]
      refine List.nodup_cons.2 ⟨fun hm => ?_, mput_one h'.2 n x⟩
      rcases (mput_keys m n x j).1 hm with h1 | h1
      · exact hn h1.symm
      · exact h'.1 h1
theorem mget_key : ∀ {m : Mp} {k : Int}, (mget m k).isSome = true ↔ k ∈ m.map (·.1)
  | [], k => by simp [mget]
  | (j, y) :: m, k => by
    show (if k = j then some y else mget m k).isSome = true ↔ _
    by_cases h : k = j
    · rw [if_pos h]; simp [h]
    · rw [if_neg h, mget_key]; simp [h]
theorem mget_of_mem : ∀ {m : Mp}, OneK m → ∀ {k v : Int}, (k, v) ∈ m → mget m k = some v
  | [], _, _, _, h => by simp at h
  | (j, y) :: m, h1, k, v, h => by
    have h' := List.nodup_cons.1 h1
    show (if k = j then some y else mget m k) = some v
    rcases List.mem_cons.1 h with e | e
    · cases e; rw [if_pos rfl]
    · rw [if_neg (fun hk => h'.1 (by subst hk; exact List.mem_map.2 ⟨_, e, rfl⟩))]
      exact mget_of_mem h'.2 e

/-- The map is who came last. -/
structure LastOf (n : Int) (k : Nat) (m : Mp) (s : LS) : Prop where
  one : OneK m
  get : ∀ t, mget m t = if s.last t = 0 then none else some ((s.last t : Int) - 1)
  keys : ∀ t ∈ m.map (·.1), 0 ≤ t ∧ t < n
  vals : ∀ e ∈ m, 0 ≤ e.2 ∧ e.2 < k
theorem LastOf.start (n : Int) : LastOf n 0 [] ⟨fun _ => 0, 0⟩ := ⟨by simp [OneK], fun t => rfl, by simp, by simp⟩
theorem LastOf.skip {n : Int} {k : Nat} {m : Mp} {s : LS} (h : LastOf n k m s) : LastOf n (k + 1) m s := ⟨h.one, h.get, h.keys, fun e he => by have := h.vals e he; omega⟩
theorem LastOf.put {n : Int} {k : Nat} {m : Mp} {s : LS} (h : LastOf n k m s) {t : Int} (h0 : 0 ≤ t) (h1 : t < n) : LastOf n (k + 1) (mput m t k) ⟨fun x => if x = t then k + 1 else s.last x, max s.most (k - s.last t)⟩ := by
  refine ⟨mput_one h.one _ _, fun x => ?_, fun x hx => ?_, fun e he => ?_⟩
  · rw [mgetput]
    by_cases e : x = t
    · subst e; simp
    · rw [if_neg e, h.get]; simp [e]
  · rcases (mput_keys m t k x).1 hx with e | e
    · subst e; exact ⟨h0, h1⟩
    · exact h.keys x e
  · have hm := mget_of_mem (mput_one h.one t k) (k := e.1) (v := e.2) he
    rw [mgetput] at hm
    by_cases e1 : e.1 = t
    · rw [if_pos e1] at hm; have hm := Option.some.inj hm; omega
    · rw [if_neg e1, h.get] at hm
      have h2 : (mget m e.1).isSome = true := by rw [h.get]; rw [hm]; rfl
      have := mget_key.1 h2
      obtain ⟨e', he', hk⟩ := List.mem_map.1 this
      have h3 := mget_of_mem h.one (k := e'.1) (v := e'.2) he'
      rw [hk, h.get, hm] at h3
      have := h.vals e' he'
      have h4 : e.2 = e'.2 := Option.some.inj h3
      omega
theorem nodup_le {α : Type} [DecidableEq α] : ∀ {a b : List α}, a.Nodup → (∀ x ∈ a, x ∈ b) → a.length ≤ b.length
  | [], _, _, _ => Nat.zero_le _
  | x :: a, b, h, hs => by
    have h' := List.nodup_cons.1 h
    have hx := hs x (List.mem_cons_self ..)
    have := nodup_le (b := b.erase x) h'.2 (fun y hy => (List.mem_erase_of_ne (fun e => h'.1 (by subst e; exact hy))).2 (hs y (List.mem_cons_of_mem _ hy)))
    rw [List.length_erase_of_mem hx] at this
    have := List.length_pos_of_mem hx
    rw [List.length_cons]; omega
def upto (n : Int) : List Int := (List.range n.toNat).map fun (k : Nat) => (k : Int)
theorem upto_mem {n x : Int} : x ∈ upto n ↔ 0 ≤ x ∧ x < n := by
  unfold upto
  rw [List.mem_map]
  constructor
  · rintro ⟨k, hk, rfl⟩; have := List.mem_range.1 hk; omega
  · rintro ⟨h0, h1⟩; exact ⟨x.toNat, List.mem_range.2 (by omega), by omega⟩
theorem upto_nodup (n : Int) : (upto n).Nodup := by
  unfold upto
  refine List.Pairwise.map _ (fun a b h e => h (by omega)) List.nodup_range
theorem LastOf.full {n : Int} {k : Nat} {m : Mp} {s : LS} (h : LastOf n k m s) : ((m.length : Int) < n ↔ ∃ t, 0 ≤ t ∧ t < n ∧ s.last t = 0) := by
  have hm : (m.map (·.1)).length = m.length := List.length_map ..
  have hu : (upto n).length = n.toNat := by simp [upto]
  constructor
  · intro hlt
    apply Classical.byContradiction
    intro hno
    have hall : ∀ x ∈ upto n, x ∈ m.map (·.1) := fun x hx => by
      have hx := upto_mem.1 hx
      rw [← mget_key, h.get]
      rw [if_neg (fun e => hno ⟨x, hx.1, hx.2, e⟩)]; rfl
    have := nodup_le (upto_nodup n) hall
    omega
  · rintro ⟨t, h0, h1, ht⟩
    have hsub : ∀ x ∈ m.map (·.1), x ∈ (upto n).erase t := fun x hx => by
      have hk := h.keys x hx
      refine (List.mem_erase_of_ne (fun e => ?_)).2 (upto_mem.2 hk)
      subst e
      have h2 := mget_key.2 hx
      rw [h.get, if_pos ht] at h2; cases h2
    have := nodup_le h.one hsub
    rw [List.length_erase_of_mem (upto_mem.2 ⟨h0, h1⟩)] at this
    omega

/-- The greatest of one number and of what is left behind each entry. -/
def MostOf (len : Nat) (q : Int) (m : Mp) (r : Int) : Prop := ∀ w : Int, r < w ↔ q < w ∧ ∀ e ∈ m, (len : Int) - 1 - e.2 < w
theorem MostOf.nil {len : Nat} {q : Int} : MostOf len q [] q := fun w => by simp
theorem MostOf.snoc {len : Nat} {q r : Int} {m : Mp} {e : Int × Int} (h : MostOf len q m r) : MostOf len q (m ++ [e]) (if (len : Int) - 1 - e.2 > r then (len : Int) - 1 - e.2 else r) := fun w => by
  have h1 : (if (len : Int) - 1 - e.2 > r then (len : Int) - 1 - e.2 else r) < w ↔ r < w ∧ (len : Int) - 1 - e.2 < w := by split <;> omega
  rw [h1, h w]
  simp only [List.mem_append, List.mem_singleton]
  constructor
  · rintro ⟨⟨k1, k2⟩, k3⟩
    refine ⟨k1, fun e' he => ?_⟩
    rcases he with he | rfl
    · exact k2 e' he
    · exact k3
  · rintro ⟨k1, k2⟩
    exact ⟨⟨k1, fun e' he => k2 e' (.inl he)⟩, k2 e (.inr rfl)⟩
theorem MostOf.perm {len : Nat} {q r : Int} {m m' : Mp} (h : MostOf len q m r) (hp : ∀ e, e ∈ m ↔ e ∈ m') : MostOf len q m' r := fun w => by
  rw [h w]
  constructor
  · rintro ⟨a, b⟩; exact ⟨a, fun e he => b e ((hp e).2 he)⟩
  · rintro ⟨a, b⟩; exact ⟨a, fun e he => b e ((hp e).1 he)⟩
theorem long_miss {l : List Int} {n : Int} {m : Mp} (h : LastOf n l.length m (lsRun l n l.length)) (hlt : (m.length : Int) < n) : LongIs l n l.length := by
  obtain ⟨t, h0, h1, ht⟩ := h.full.1 hlt
  exact long_missing h0 h1 ht
theorem long_most {l : List Int} {n : Int} {m : Mp} {r : Int} (h : LastOf n l.length m (lsRun l n l.length)) (hge : ¬ (m.length : Int) < n) (hr : MostOf l.length ((lsRun l n l.length).most : Int) m r) : 0 ≤ r ∧ LongIs l n r.toNat := by
  have hall : ∀ t, 0 ≤ t → t < n → (lsRun l n l.length).last t ≠ 0 := fun t h0 h1 e => hge (h.full.2 ⟨t, h0, h1, e⟩)
  have hr0 : 0 ≤ r := by
    rcases Int.lt_or_le r 0 with k | k
    · have := ((hr 0).1 k).1; omega
    · exact k
  refine ⟨hr0, long_all hall fun w hw => ?_⟩
  have h1 : r.toNat < w ↔ r < (w : Int) := by omega
  rw [h1, hr (w : Int)]
  constructor
  · rintro ⟨k1, k2⟩
    refine ⟨by omega, fun t h0 h1 => ?_⟩
    have hne := hall t h0 h1
    have hg := h.get t
    rw [if_neg hne] at hg
    have : (t, ((lsRun l n l.length).last t : Int) - 1) ∈ m := by
      have key : ∀ {m : Mp} {k v : Int}, mget m k = some v → (k, v) ∈ m := by
        intro m
        induction m with
        | nil => intro k v h; cases h
        | cons a m ih =>
          obtain ⟨j, y⟩ := a
          intro k v h
          have h : (if k = j then some y else mget m k) = some v := h
          by_cases e : k = j
          · rw [if_pos e] at h; cases h; subst e; exact List.mem_cons_self ..
          · rw [if_neg e] at h; exact List.mem_cons_of_mem _ (ih h)
      exact key hg
    have := k2 _ this
    simp only at this
    have hle := (lsRun_inv l n l.length (Nat.le_refl _)).le t
    omega
  · rintro ⟨k1, k2⟩
    refine ⟨by omega, fun e he => ?_⟩
    have hk := h.keys e.1 (List.mem_map.2 ⟨e, he, rfl⟩)
    have hg := mget_of_mem h.one (k := e.1) (v := e.2) he
    rw [h.get] at hg
    split at hg
    · cases hg
    · have h2 : ((lsRun l n l.length).last e.1 : Int) - 1 = e.2 := Option.some.inj hg
      have := k2 e.1 hk.1 hk.2
      have hle := (lsRun_inv l n l.length (Nat.le_refl _)).le e.1
      omega
end Sx
end Go.Proofs.YtmcmdghmglopnaaGreatDoor

/-
  From a call as it is known here to a call in any world: all that was there stays.
-/
namespace Go.Proofs.YtmcmdghmglopnaaGreatDoor
namespace Sx
open Go

/-- All of a world's memory. -/
def whole (W : World) : Hp := fun b => W.heap[b]?

theorem law_calls {U : Uni} {P : Program} {f : Nat} {avs : List AV} {h : Heap U} {nx : Nat} (hc : CallsSx P f avs h nx (fun v _ _ _ => v.sub .tt)) {W : World} {r : Nm} {vs : List Value}
    (hr : relL r avs vs) (hh : h.den (whole W) r Hp.nil) (hf : Fresh r nx) :
    Calls P f vs.toArray W (fun e W' => e = .returned (.bool true) ∧ RowKit.Below W.heap.size W W') := by
  refine (hc.2 ⟨whole W, W.os, W.output, W.tape⟩ r vs W hr ⟨⟨rfl, rfl, rfl, fun x o e => e⟩, Hp.nil, hh, Hp.nil_apart _, Hp.inW_nil W⟩ hf).mono ?_
  rintro e w' ⟨v, h', nx', T, z, r', rfl, hv, _, _, hz, ⟨hm, _⟩, _⟩
  have hz' : z = .bool true := hv r' z hz
  refine ⟨by rw [hz'], hm.os, hm.tape, hm.output, ?_, fun k hk => ?_⟩
  · rcases Nat.eq_zero_or_pos W.heap.size with h0 | h0
    · omega
    · have hk : W.heap.size - 1 < W.heap.size := by omega
      have := hm.G (W.heap.size - 1) _ (Array.getElem?_eq_getElem hk)
      have hlt := (Array.getElem?_eq_some_iff.1 this).1
      omega
  · have := hm.G k _ (Array.getElem?_eq_getElem hk)
    rw [this, Array.getElem?_eq_getElem hk]

end Sx
end Go.Proofs.YtmcmdghmglopnaaGreatDoor

/-
  Functions that work on a pool, told once for all callers; an empty pool.
-/
namespace Go.Proofs.YtmcmdghmglopnaaGreatDoor
namespace Sx
open Go

section
variable {U : Uni} {P : Program}

abbrev RunPool (U : Uni) := Pool → List (Arg U) → (AV → Pool → List (Blk U) → Out U) → Out U

def hookPool (sg : List (Sg U)) (run : RunPool U) : HookS U := fun args h nx K =>
  match poolOf h with
  | some (id, p) => evalArgs sg args (h.del id) fun as => run p as fun v p' E =>
      bif newFree nx E h then K (v.ren (shf 1 nx)) (newAt nx E ++ h.set id (.pool p')) (nx + E.length) [id] else .bad 540
  | none => .bad 541

/-- The callee's end, in its own names. -/
def EndPool (n' : Nat) (v0 : AV) (h' : Heap U) (v : AV) (p' : Pool) (E : List (Blk U)) : Prop :=
  ∃ h2, HImp n' h' h2 ∧ h2.get 0 = some (.pool p') ∧ Fin 1 n' v0 (h2.del 0) v E

/-- An empty pool needs no memory. -/
theorem Sat.nilPool {β : Base} {r : Nm} {hp : Heap U} {w : World} (k : Sat β r hp w) (id : Nat) : Sat β r ((id, .pool Pool.nil) :: hp) w := by
  obtain ⟨a, H, d, c, e⟩ := k
  exact ⟨a, H, ⟨Hp.nil, H, rfl, d, Hp.nil_apart H, rfl⟩, c, e⟩

/-- A call that begins with an empty pool beside what is there. -/
theorem CallsSx.nilPool {f : Nat} {args : List AV} {h : Heap U} {nx nx' id : Nat} {R : AV → Heap U → Nat → List Nat → Prop} (hc : CallsSx P f args ((id, .pool Pool.nil) :: h) nx' R) (hid : h.get id = none) (hn : nx ≤ nx') : CallsSx P f args h nx R := by
  refine ⟨hc.1, fun β r vs w hr hs hf => (hc.2 β r vs w hr (hs.nilPool id) (fun i hi => hf i (by omega))).mono ?_⟩
  rintro e w' ⟨v, h', nx2, T, z, r', rfl, h1, h2, h3, h4, h5, h6⟩
  refine ⟨v, h', nx2, T, z, r', rfl, h1, h2, h3, h4, h5, fun i B hi hT => h6 i B ?_ hT⟩
  rw [Heap.get_cons_ne (fun e => by subst e; rw [hid] at hi; cases hi)]; exact hi
end
end Sx
end Go.Proofs.YtmcmdghmglopnaaGreatDoor

