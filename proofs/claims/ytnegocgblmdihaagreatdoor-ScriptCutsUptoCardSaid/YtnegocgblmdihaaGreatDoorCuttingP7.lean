/-
  Rows that are passed in to a law, whatever their elements are.
-/
import Derived.Test.YtnegocgblmdihaaGreatDoorCuttingP6
import Derived.ProofKit
import Derived.Deep.Slices
import Derived.OpenShut
namespace Go.Proofs.YtnegocgblmdihaaGreatDoor
namespace Sx
open Go Go.ChangeShapes Go.WideShapes Go.ChangeAt Go.RowKit

theorem cell_at {W : World} {a : Addr} {v : Value} (h : W.cell? a = some v) : a.spot = none ∧ ∃ c T fz, W.heap[a.block]? = some (.cells c T fz) ∧ c[a.off]? = some v := by
  unfold World.cell? at h
  split at h
  · rename_i c T fz hh
    split at h
    · cases h
    · rename_i hs
      refine ⟨?_, c, T, fz, hh, h⟩
      cases hsp : a.spot with
      | none => rfl
      | some x => rw [hsp] at hs; simp at hs
  · cases h

/-- What lies in cells at a type is an element. -/
def Reads {α : Type} (P : Program) (t : TypeId) (E : Enc α) (p : α → Prop) : Prop :=
  ∀ (H : Type) (enc : TypeId × Value → H) (W : World) (base : Nat) (spare : Nat → Bool) (held : Bool) (fuel : Nat) (cs : List Value) (x : DataW H × List MemPlace),
    DataW.trod enc P W base spare held fuel t cs = some x → ∃ y, relL (fun _ => none) (E.enc y) cs ∧ p y

theorem list_pick {α β : Type} {xs : List α} {R : Nat → β → Prop} (h : ∀ i, i < xs.length → ∃ y, R i y) : ∃ ys : List β, ys.length = xs.length ∧ ∀ i y, ys[i]? = some y → R i y := by
  have key : ∀ n, n ≤ xs.length → ∃ ys : List β, ys.length = n ∧ ∀ i y, ys[i]? = some y → R i y := by
    intro n
    induction n with
    | zero => intro _; exact ⟨[], rfl, fun i y e => by simp at e⟩
    | succ n ih =>
      intro hn
      obtain ⟨ys, h1, h2⟩ := ih (by omega)
      obtain ⟨y, hy⟩ := h n (by omega)
      refine ⟨ys ++ [y], by simp [h1], fun i z e => ?_⟩
      rcases Nat.lt_or_ge i n with hi | hi
      · rw [List.getElem?_append_left (by omega)] at e; exact h2 i z e
      · rw [List.getElem?_append_right (by omega)] at e
        have : i = n := by
          have := (List.getElem?_eq_some_iff.1 e).1
          simp at this; omega
        subst this
        rw [h1, Nat.sub_self] at e
        cases e; exact hy
  exact key _ (Nat.le_refl _)

theorem addr_add {a : Addr} {i : Nat} : (a.add i).block = a.block := by unfold Addr.add; split <;> rfl
theorem addr_off {a : Addr} {i : Nat} : (a.add i).off = a.off + i := by
  unfold Addr.add; split
  · rename_i h; rw [h]; rfl
  · rfl

theorem open_ro {U : Uni} {P : Program} {H : Type} {enc : TypeId × Value → H} {W : World} {v : Value} {d : DataW H} {ps : List MemPlace} {t e : TypeId} {k : U.K} {p : U.El k → Prop} (id : Nat)
    (ht : P.underlying t = some (.slice e)) (hc : P.cellsOf e = (U.enc k).w) (hr : Reads P e (U.enc k) p) (h : DataW.Trod enc P W 0 (fun _ => true) true t v d ps) :
    ∃ (xs : List (U.El k)) (c : Nat) (x : Option (Nat × Nat)), (∀ y ∈ xs, p y) ∧ xs.length ≤ c ∧ c ≤ maxLen ∧ ∀ (r : Nm), r id = x → (∀ a l q, v = .slice a l q → rel r (.sl false id 0 (U.enc k).w xs.length c) v) ∧ Blk.den (whole W) r id (.ro k xs : Blk U) Hp.nil := by
  obtain ⟨fuel, hf⟩ := h
  rcases DataW.trod_slice ht hf with ⟨hcs, _⟩ | ⟨a, len, cap, elems, rest, n, _, hcs, _, _, hlc, hcm, hlen, hel, hrest, _⟩
  · refine ⟨[], 0, none, (fun y h => by cases h), Nat.le_refl _, Nat.zero_le _, fun r hr => ⟨fun a l q e => ?_, ⟨fun i x e => (by simp at e), rfl⟩⟩⟩
    subst e
    simp [Value.cells] at hcs
    obtain ⟨rfl, rfl, rfl⟩ := hcs
    exact ⟨none, rfl, Nat.le_refl _, .inl rfl⟩
  · rw [hc] at hel
    have hw := (U.enc k).pos
    have each : ∀ i, i < elems.length → ∃ y, (∃ cs, W.cells? 0 (a.add (i * (U.enc k).w)) (U.enc k).w = some cs ∧ relL (fun _ => none) ((U.enc k).enc y) cs) ∧ p y := by
      intro i hi
      have h1 := hel i (by omega)
      rw [List.getElem?_eq_getElem hi] at h1
      obtain ⟨cs, h2, h3⟩ := Option.bind_eq_some_iff.1 h1
      obtain ⟨y, h4, h5⟩ := hr _ _ _ _ _ _ _ _ _ h3
      exact ⟨y, ⟨cs, h2, h4⟩, h5⟩
    obtain ⟨ys, hy1, hy2⟩ := list_pick each
    refine ⟨ys, cap, some (a.block, a.off), fun y hy => ?_, by omega, hcm, fun r hr => ⟨fun a' l q e => ?_, ⟨fun i x e => ?_, rfl⟩⟩⟩
    · obtain ⟨i, hi⟩ := List.getElem?_of_mem hy
      exact (hy2 i y hi).2
    · subst e
      simp [Value.cells] at hcs
      obtain ⟨rfl, rfl, rfl⟩ := hcs
      rw [hy1, hlen]
      refine ⟨_, rfl, hlc, ?_⟩
      rcases Nat.eq_zero_or_pos q with h1 | h1
      · exact .inl h1
      · have sp : ∀ (cs : List Value), W.cells? 0 a (U.enc k).w = some cs → a.spot = none := by
          intro cs g1
          obtain ⟨_, g3, g4⟩ := World.cells?_some g1
          have g5 := g4 0 hw
          have hlt : 0 < cs.length := by omega
          rw [List.getElem?_eq_getElem hlt] at g5
          exact (cell_at g5).1
        have a0 : ∀ n, n = 0 → a.add (n * (U.enc k).w) = a := fun n h => by subst h; unfold Addr.add; rw [if_pos (Nat.zero_mul _)]
        have hs : a.spot = none := by
          rcases Nat.eq_zero_or_pos l with h0 | h0
          · obtain ⟨r1, r2⟩ := hrest rfl
            rw [hc] at r2
            have h2 := r2 0 (by omega)
            rw [List.getElem?_eq_getElem (by omega)] at h2
            obtain ⟨cs, h3, _⟩ := Option.bind_eq_some_iff.1 h2
            rw [a0 _ (by omega)] at h3
            exact sp _ h3
          · obtain ⟨y, ⟨cs, g1, g2⟩, _⟩ := each 0 (by omega)
            rw [a0 _ rfl] at g1
            exact sp _ g1
        obtain ⟨b, o, s⟩ := a
        simp at hs; subst hs
        exact .inr ⟨_, hr, by simp⟩
    · obtain ⟨⟨cs, g1, g2⟩, _⟩ := hy2 i x e
      obtain ⟨_, g3, g4⟩ := World.cells?_some g1
      have hz := g4 0 hw
      have hlt : 0 < cs.length := by omega
      rw [List.getElem?_eq_getElem hlt] at hz
      obtain ⟨q0, c, T, fz, q1, _⟩ := cell_at hz
      rw [addr_add, addr_add] at q1
      refine ⟨a.block, a.off, c, T, fz, hr, q1, ?_⟩
      have hcs : (c.toList.drop (a.off + i * (U.enc k).w)).take (U.enc k).w = cs := by
        apply List.ext_getElem?
        intro j
        rw [List.getElem?_take]
        split
        · rename_i hj
          have hz := g4 j hj
          have hlt : j < cs.length := by omega
          rw [List.getElem?_eq_getElem hlt] at hz
          obtain ⟨q0, c', T', fz', q1', q2⟩ := cell_at hz
          rw [addr_add, addr_add, q1] at q1'
          cases q1'
          rw [addr_off, addr_off] at q2
          rw [List.getElem?_drop, List.getElem?_eq_getElem hlt, ← q2]
          simp
        · rw [List.getElem?_eq_none (by omega)]
      rw [hcs]
      exact relL_mono (fun _ _ h => by cases h) _ _ g2

/-- The fields of a struct, one by one. -/
theorem trod_fields {P : Program} {t : TypeId} {fs : List (Nat × Nat)} (ht : ∃ fields, P.underlying t = some (.struct fields) ∧ fields.toList.map (fun f => (f.offset, f.type)) = fs) {H : Type} {enc : TypeId × Value → H} {W : World} {base : Nat} {spare : Nat → Bool} {held : Bool} {fuel : Nat} {cs : List Value} {x : DataW H × List MemPlace}
    (h : DataW.trod enc P W base spare held fuel t cs = some x) : cs.length = P.cellsOf t ∧ ∀ (i o ty : Nat), fs[i]? = some (o, ty) → ∃ m y, DataW.trod enc P W base spare held m ty ((cs.drop o).take (P.cellsOf ty)) = some y := by
  obtain ⟨fields, hu, rfl⟩ := ht
  obtain ⟨xs, m, _, _, hl, hxl, hel⟩ := DataW.trod_struct hu h
  refine ⟨hl, fun i o ty hi => ?_⟩
  rw [List.getElem?_map, Option.map_eq_some_iff] at hi
  obtain ⟨f, hf, he⟩ := hi
  cases he
  have hf' : fields[i]? = some f := by rw [← hf, Array.getElem?_toList]
  have h1 := hel i f hf'
  have hlt : i < xs.length := by
    have := (Array.getElem?_eq_some_iff.1 hf').1
    omega
  rw [List.getElem?_eq_getElem hlt] at h1
  exact ⟨m, _, h1⟩

end Sx
end Go.Proofs.YtnegocgblmdihaaGreatDoor

