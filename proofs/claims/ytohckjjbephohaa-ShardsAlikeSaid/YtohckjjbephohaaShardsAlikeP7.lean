/-
  Arrays of numbers among the arguments.
-/
import Derived.Test.YtohckjjbephohaaShardsAlikeP6
import Derived.WideShapes
namespace Go.Proofs.Ytohckjjbephohaa
namespace Sx
open Go Go.ChangeShapes Go.WideShapes Go.RowKit

theorem open_intArr {P : Program} {H : Type} {enc : TypeId × Value → H} {W : World} {base : Nat} {spare : Nat → Bool} {held : Bool} {r : Reach} {b0 : Nat} {v : Value} {d : DataW H} {ps : List MemPlace} {t e : TypeId} {n : Nat} {k : IntKind}
    (ht : P.underlying t = some (.array n e)) (he : P.underlying e = some (.int k)) (hc : P.cellsOf e = 1) (hn : P.cellsOf t = n) (hv : Value.okWide P W r b0 t v) (h : DataW.Trod enc P W base spare held t v d ps) :
    ∃ zs : List Int, zs.length = n ∧ v = .agg (zs.map (.int k)).toArray := by
  simp only [Value.okWide, ht] at hv
  obtain ⟨cs, rfl, hsz, _⟩ := hv
  obtain ⟨fuel, hx⟩ := h
  obtain ⟨xs, m, _, _, hl, hxl, hel⟩ := DataW.trod_array ht hx
  rw [hc] at hel
  obtain ⟨zs, h1, h2, h3⟩ := ints_of (n := n) (k := k) (by rw [hl, hn]) (fun i hi => by
    have h1 := hel i hi
    have : i < xs.length := by omega
    rw [List.getElem?_eq_getElem this] at h1
    obtain ⟨z, hz, _, hw⟩ := DataW.trod_int he h1
    exact ⟨z, hz, hw⟩)
  refine ⟨zs, h1, ?_⟩
  rw [← h2]; simp [Value.cells]
theorem open_arr2 {P : Program} {H : Type} {enc : TypeId × Value → H} {W : World} {base : Nat} {spare : Nat → Bool} {held : Bool} {r : Reach} {b0 : Nat} {v : Value} {d : DataW H} {ps : List MemPlace} {t e : TypeId} {k : IntKind}
    (ht : P.underlying t = some (.array 2 e)) (he : P.underlying e = some (.int k)) (hc : P.cellsOf e = 1) (hn : P.cellsOf t = 2) (hv : Value.okWide P W r b0 t v) (h : DataW.Trod enc P W base spare held t v d ps) :
    ∃ a b : Int, v = .agg #[.int k a, .int k b] := by
  obtain ⟨zs, h1, rfl⟩ := open_intArr ht he hc hn hv h
  match zs, h1 with
  | [a, b], _ => exact ⟨a, b, rfl⟩

end Sx
end Go.Proofs.Ytohckjjbephohaa

