/-
  The ground of a small symbolic machine over the model: pieces of memory (heaplets), values by names of blocks, blocks as plain data, and when a world holds them. No program in sight.
-/
import Derived.WalkKit
namespace Go.Proofs.Ytemcdjdglcceiaa
namespace Sx
open Go

/-! ## pieces of memory -/
abbrev Hp := Nat → Option Obj
def Hp.nil : Hp := fun _ => none
def Hp.one (b : Nat) (o : Obj) : Hp := fun x => if x = b then some o else none
def Hp.join (A B : Hp) : Hp := fun x => match A x with | some o => some o | none => B x
def Hp.apart (A B : Hp) : Prop := ∀ x, A x = none ∨ B x = none
def Hp.inW (A : Hp) (w : World) : Prop := ∀ x o, A x = some o → w.heap[x]? = some o

theorem Hp.apart.symm {A B : Hp} (h : A.apart B) : B.apart A := fun x => (h x).symm
theorem Hp.apart_nil (A : Hp) : A.apart Hp.nil := fun _ => .inr rfl
theorem Hp.nil_apart (A : Hp) : Hp.nil.apart A := fun _ => .inl rfl
theorem Hp.join_nil (A : Hp) : A.join Hp.nil = A := by funext x; unfold Hp.join Hp.nil; cases A x <;> rfl
theorem Hp.nil_join (A : Hp) : Hp.nil.join A = A := rfl
theorem Hp.join_comm {A B : Hp} (h : A.apart B) : A.join B = B.join A := by
  funext x; unfold Hp.join
  rcases h x with e | e <;> rw [e] <;> cases A x <;> cases B x <;> simp_all
theorem Hp.join_assoc (A B C : Hp) : (A.join B).join C = A.join (B.join C) := by
  funext x; unfold Hp.join; cases A x <;> rfl
theorem Hp.apart_join {A B C : Hp} : A.apart (B.join C) ↔ A.apart B ∧ A.apart C := by
  constructor
  · intro h
    refine ⟨fun x => ?_, fun x => ?_⟩ <;> rcases h x with e | e
    · exact .inl e
    · unfold Hp.join at e; cases hb : B x <;> simp_all
    · exact .inl e
    · unfold Hp.join at e; cases hb : B x <;> simp_all
  · rintro ⟨h1, h2⟩ x
    rcases h1 x with e | e
    · exact .inl e
    · rcases h2 x with e' | e'
      · exact .inl e'
      · right; unfold Hp.join; rw [e]; exact e'
theorem Hp.join_apart {A B C : Hp} : (A.join B).apart C ↔ A.apart C ∧ B.apart C := by
  constructor
  · intro h; have := Hp.apart_join.1 h.symm; exact ⟨this.1.symm, this.2.symm⟩
  · rintro ⟨h1, h2⟩; exact (Hp.apart_join.2 ⟨h1.symm, h2.symm⟩).symm
theorem Hp.inW_join {A B : Hp} {w : World} (h : A.apart B) : (A.join B).inW w ↔ A.inW w ∧ B.inW w := by
  constructor
  · intro k
    refine ⟨fun x o e => k x o (by unfold Hp.join; rw [e]), fun x o e => k x o ?_⟩
    unfold Hp.join
    rcases h x with a | a
    · rw [a]; exact e
    · rw [a] at e; cases e
  · rintro ⟨ha, hb⟩ x o e
    unfold Hp.join at e
    cases hA : A x with
    | some o' => rw [hA] at e; cases e; exact ha x o hA
    | none => rw [hA] at e; exact hb x o e
theorem Hp.inW_nil (w : World) : Hp.nil.inW w := fun _ _ h => by cases h
theorem Hp.inW_one {b : Nat} {o : Obj} {w : World} : (Hp.one b o).inW w ↔ w.heap[b]? = some o := by
  constructor
  · intro h; exact h b o (by simp [Hp.one])
  · intro h x o' e; unfold Hp.one at e; split at e
    · rename_i hx; subst hx; cases e; exact h
    · cases e
theorem Hp.lt {A : Hp} {w : World} (h : A.inW w) {x : Nat} {o : Obj} (e : A x = some o) : x < w.heap.size :=
  (Array.getElem?_eq_some_iff.1 (h x o e)).1
/-- What is in a world is there still where no block of it has turned. -/
theorem Hp.inW_of {A : Hp} {w w' : World} (h : A.inW w) (k : ∀ x, A x ≠ none → w'.heap[x]? = w.heap[x]?) : A.inW w' :=
  fun x o e => (k x (by rw [e]; simp)).trans (h x o e)
theorem Hp.apart_one {A : Hp} {b : Nat} {o : Obj} : A.apart (Hp.one b o) ↔ A b = none := by
  constructor
  · intro h; rcases h b with e | e
    · exact e
    · simp [Hp.one] at e
  · intro h x; unfold Hp.one; split
    · rename_i e; subst e; exact .inl h
    · exact .inr rfl
theorem Hp.one_apart {A : Hp} {b : Nat} {o : Obj} : (Hp.one b o).apart A ↔ A b = none := ⟨fun h => Hp.apart_one.1 h.symm, fun h => (Hp.apart_one.2 h).symm⟩
theorem Hp.one_self (b : Nat) (o : Obj) : Hp.one b o b = some o := by simp [Hp.one]

/-! ## names of blocks -/
/-- Where the block of a name begins: its number, and the cell from which on it is counted. -/
abbrev Nm := Nat → Option (Nat × Nat)
def Nm.le (r s : Nm) : Prop := ∀ i x, r i = some x → s i = some x
theorem Nm.le.refl (r : Nm) : r.le r := fun _ _ h => h
theorem Nm.le.trans {r s t : Nm} (h : r.le s) (k : s.le t) : r.le t := fun i x e => k i x (h i x e)
def Nm.put (r : Nm) (i : Nat) (x : Nat × Nat) : Nm := fun j => if j = i then some x else r j
theorem Nm.le_put {r : Nm} {i : Nat} {x : Nat × Nat} (h : r i = none) : r.le (r.put i x) := by
  intro j y e; unfold Nm.put; split
  · rename_i k; subst k; rw [h] at e; cases e
  · exact e
theorem Nm.put_self (r : Nm) (i : Nat) (x : Nat × Nat) : r.put i x i = some x := by simp [Nm.put]

/-! ## values -/
inductive AV where
  | raw (v : Value)
  | int (k : IntKind) (n : Int)
  | lit (k : IntKind) (n : Int)
  | tt | ff | bool (b : Bool) | may (neg c : Bool)
  | nilP | ptr (id off : Nat) | ptrR (id i w c : Nat)
  | nilS | sl (known : Bool) (id s w len cap : Nat)
  | agg (cs : List AV) | tup (cs : List AV)
  | fn (f : Nat) (first caps : List AV)
  | nilF
  | mp (id : Nat) | nilM
  | ifc (t : Nat) (x : AV) | nilI
  | und
  deriving Inhabited

mutual
def rel (r : Nm) : AV → Value → Prop
  | .raw x, v => v = x
  | .int k n, v => v = .int k n
  | .lit k n, v => v = .int k n
  | .tt, v => v = .bool true
  | .ff, v => v = .bool false
  | .bool b, v => v = .bool b
  | .may neg c, v => ∃ b, v = .bool b ∧ (b = !neg → c = true)
  | .nilP, v => v = .pointer none
  | .ptr id off, v => ∃ x, r id = some x ∧ v = .pointer (some ⟨x.1, x.2 + off, none⟩)
  | .ptrR id i w c, v => ∃ x, r id = some x ∧ v = .pointer (some ⟨x.1, x.2 + (i * w + c), none⟩)
  | .nilS, v => v = .slice none 0 0
  | .sl _ id s w len cap, v => ∃ a, v = .slice a len cap ∧ len ≤ cap ∧ (cap = 0 ∨ ∃ x, r id = some x ∧ a = some ⟨x.1, x.2 + s * w, none⟩)
  | .agg cs, v => ∃ vs, relL r cs vs ∧ v = .agg vs.toArray
  | .tup cs, v => ∃ vs, relL r cs vs ∧ v = .tuple vs.toArray
  | .fn f fs cs, v => ∃ us vs, relL r fs us ∧ relL r cs vs ∧ v = .func (.func f) us.toArray vs.toArray
  | .nilF, v => v = .nilFunc
  | .mp id, v => ∃ x, r id = some x ∧ v = .map (some x.1)
  | .nilM, v => v = .map none
  | .ifc t x, v => ∃ u, rel r x u ∧ v = .iface t u
  | .nilI, v => v = .nilIface
  | .und, _ => True
def relL (r : Nm) : List AV → List Value → Prop
  | [], vs => vs = []
  | c :: cs, vs => ∃ v us, vs = v :: us ∧ rel r c v ∧ relL r cs us
end

mutual
theorem rel_mono {r s : Nm} (h : r.le s) : ∀ (x : AV) (v : Value), rel r x v → rel s x v
  | .raw _, _, e => e
  | .int .., _, e => e
  | .lit .., _, e => e
  | .tt, _, e => e
  | .ff, _, e => e
  | .bool _, _, e => e
  | .may .., _, e => e
  | .nilP, _, e => e
  | .ptr .., _, ⟨x, e, k⟩ => ⟨x, h _ _ e, k⟩
  | .ptrR .., _, ⟨x, e, k⟩ => ⟨x, h _ _ e, k⟩
  | .nilS, _, e => e
  | .sl .., _, ⟨a, e, l, k⟩ => ⟨a, e, l, k.imp id fun ⟨x, e, k⟩ => ⟨x, h _ _ e, k⟩⟩
  | .agg cs, _, ⟨vs, e, k⟩ => ⟨vs, relL_mono h cs vs e, k⟩
  | .tup cs, _, ⟨vs, e, k⟩ => ⟨vs, relL_mono h cs vs e, k⟩
  | .fn _ fs cs, _, ⟨us, vs, e, e', k⟩ => ⟨us, vs, relL_mono h fs us e, relL_mono h cs vs e', k⟩
  | .nilF, _, e => e
  | .mp _, _, ⟨x, e, k⟩ => ⟨x, h _ _ e, k⟩
  | .nilM, _, e => e
  | .ifc _ x, _, ⟨u, e, k⟩ => ⟨u, rel_mono h x u e, k⟩
  | .nilI, _, e => e
  | .und, _, e => e
theorem relL_mono {r s : Nm} (h : r.le s) : ∀ (x : List AV) (v : List Value), relL r x v → relL s x v
  | [], _, e => e
  | c :: cs, _, ⟨v, us, e, k, l⟩ => ⟨v, us, e, rel_mono h c v k, relL_mono h cs us l⟩
end

theorem relL_length {r : Nm} : ∀ {x : List AV} {v : List Value}, relL r x v → v.length = x.length
  | [], _, e => by simp only [relL] at e; subst e; rfl
  | _ :: cs, _, e => by simp only [relL] at e; obtain ⟨v, us, rfl, _, l⟩ := e; simp [relL_length l]
theorem relL_get {r : Nm} : ∀ {x : List AV} {v : List Value}, relL r x v → ∀ {j : Nat} {c : AV}, x[j]? = some c → ∃ u, v[j]? = some u ∧ rel r c u
  | [], _, _, j, c, h => by simp at h
  | a :: cs, _, e, j, c, h => by
    simp only [relL] at e; obtain ⟨v, us, rfl, k, l⟩ := e
    cases j with
    | zero => simp at h; subst h; exact ⟨v, by simp, k⟩
    | succ j => simp at h; obtain ⟨u, hu, hr⟩ := relL_get l h; exact ⟨u, by simpa using hu, hr⟩
theorem relL_cons {r : Nm} {c : AV} {cs : List AV} {v : Value} {us : List Value} : relL r (c :: cs) (v :: us) ↔ rel r c v ∧ relL r cs us := by
  simp only [relL]
  constructor
  · rintro ⟨v', us', e, k, l⟩; cases e; exact ⟨k, l⟩
  · rintro ⟨k, l⟩; exact ⟨v, us, rfl, k, l⟩
theorem relL_nil {r : Nm} : relL r [] [] := by simp [relL]
theorem relL_append {r : Nm} : ∀ {x y : List AV} {v u : List Value}, relL r x v → relL r y u → relL r (x ++ y) (v ++ u)
  | [], _, _, _, e, k => by simp only [relL] at e; subst e; exact k
  | _ :: cs, _, _, _, e, k => by
    simp only [relL] at e; obtain ⟨v, us, rfl, k', l⟩ := e
    exact relL_cons.2 ⟨k', relL_append l k⟩
theorem relL_take {r : Nm} : ∀ {x : List AV} {v : List Value}, relL r x v → ∀ n, relL r (x.take n) (v.take n)
  | [], _, e, n => by simp only [relL] at e; subst e; simp [relL]
  | _ :: cs, _, e, n => by
    simp only [relL] at e; obtain ⟨v, us, rfl, k', l⟩ := e
    cases n with
    | zero => simp [relL]
    | succ n => exact relL_cons.2 ⟨k', relL_take l n⟩
theorem relL_drop {r : Nm} : ∀ {x : List AV} {v : List Value}, relL r x v → ∀ n, relL r (x.drop n) (v.drop n)
  | [], _, e, n => by simp only [relL] at e; subst e; simp [relL]
  | _ :: cs, _, e, n => by
    simp only [relL] at e; obtain ⟨v, us, rfl, k', l⟩ := e
    cases n with
    | zero => exact relL_cons.2 ⟨k', l⟩
    | succ n => exact relL_drop l n
theorem relL_set {r : Nm} {c : AV} {v : Value} (h : rel r c v) : ∀ {x : List AV} {u : List Value}, relL r x u → ∀ n, relL r (x.set n c) (u.set n v)
  | [], _, e, n => by simp only [relL] at e; subst e; simp [relL]
  | _ :: cs, _, e, n => by
    simp only [relL] at e; obtain ⟨v', us, rfl, k', l⟩ := e
    cases n with
    | zero => exact relL_cons.2 ⟨h, l⟩
    | succ n => exact relL_cons.2 ⟨k', relL_set h l n⟩

end Sx
end Go.Proofs.Ytemcdjdglcceiaa
