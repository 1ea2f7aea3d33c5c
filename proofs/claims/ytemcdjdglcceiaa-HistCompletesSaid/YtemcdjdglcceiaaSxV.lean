/-
  From a call as it is known here to a call in any world: all that was there stays.
-/
import Derived.Test.YtemcdjdglcceiaaSxU
namespace Go.Proofs.Ytemcdjdglcceiaa
namespace Sx
open Go

/-- All of a world's memory. -/
def whole (W : World) : Hp := fun b => W.heap[b]?

theorem law_calls {U : Uni} {P : Program} {f : Nat} {avs : List AV} {h : Heap U} {nx : Nat} (hc : CallsSx P f avs h nx (fun v _ _ _ => v.sub .tt)) {W : World} {r : Nm} {vs : List Value}
    (hr : relL r avs vs) (hh : h.den (whole W) r Hp.nil) (hf : Fresh r nx) :
    Calls P f vs.toArray W (fun e W' => e = .returned (.bool true) ∧ RowKit.Below W.heap.size W W') := by
  refine (hc.2 ⟨whole W, W.os, W.output, W.tape⟩ r vs W hr ⟨⟨rfl, rfl, rfl, fun x o e => e⟩, Hp.nil, hh, Hp.nil_apart _, Hp.inW_nil W⟩ hf).mono ?_
  rintro e w' ⟨v, h', nx', T, z, r', rfl, hv, _, _, hz, ⟨hm, _⟩, _⟩
  have hz' : z = .bool true := hv r' z hz
  refine ⟨by rw [hz'], hm.os, hm.tape, hm.output, ?_, fun k hk => ?_⟩
  · rcases Nat.eq_zero_or_pos W.heap.size with h0 | h0
    · omega
    · have hk : W.heap.size - 1 < W.heap.size := by omega
      have := hm.G (W.heap.size - 1) _ (Array.getElem?_eq_getElem hk)
      have hlt := (Array.getElem?_eq_some_iff.1 this).1
      omega
  · have := hm.G k _ (Array.getElem?_eq_getElem hk)
    rw [this, Array.getElem?_eq_getElem hk]

end Sx
end Go.Proofs.Ytemcdjdglcceiaa
