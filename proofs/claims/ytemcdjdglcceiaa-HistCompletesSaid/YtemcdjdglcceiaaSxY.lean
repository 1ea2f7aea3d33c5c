/-
  A step that changes only what is known, ahead of a call: objects unpacked, or packed.
-/
import Derived.Test.YtemcdjdglcceiaaSxX
namespace Go.Proofs.Ytemcdjdglcceiaa
namespace Sx
open Go

section
variable {U : Uni} {P : Program}

abbrev GhostS (U : Uni) := Heap U → Nat → (Heap U → Nat → List Nat → Out U) → Out U
def GhostOk (G : GhostS U) : Prop := ∀ (M : Goal U) (h : Heap U) (nx : Nat) (K : Heap U → Nat → List Nat → Out U), (G h nx K).holds M →
  ∀ (β : Base) (r : Nm) (w : World), Sat β r h w → Fresh r nx → ∃ h' nx' T r', (K h' nx' T).holds M ∧ r.le r' ∧ Fresh r' nx' ∧ Sat β r' h' w ∧ Kept h h' T

def hookAfter (G : GhostS U) (H : HookS U) : HookS U := fun args h nx K => G h nx fun h' nx' T => H args h' nx' fun v h2 nx2 T2 => K v h2 nx2 (T ++ T2)

theorem hookAfter_ok {f : Nat} {G : GhostS U} {H : HookS U} (hfn : HasFn P f) (hG : GhostOk G) (hH : HookOk P f H) : HookOk P f (hookAfter G H) := by
  intro M args h nx K hh
  refine ⟨hfn, fun β r vs w hr hs hf => ?_⟩
  obtain ⟨h', nx', T, r1, hK, g1, g2, g3, g4⟩ := hG M h nx _ hh β r w hs hf
  refine ((hH M args h' nx' _ hK).2 β r1 vs w (relL_mono g1 _ _ hr) g3 g2).mono ?_
  rintro e w' ⟨v, h2, nx2, T2, z, r2, rfl, k0, k1, k2, k3, k4, k5⟩
  exact ⟨v, h2, nx2, T ++ T2, z, r2, rfl, k0, g1.trans k1, k2, k3, k4, fun id B e hn => k5 id B (g4 id B e (fun hh => hn (List.mem_append.2 (.inl hh)))) (fun hh => hn (List.mem_append.2 (.inr hh)))⟩

/-- Unpacked, whatever way the object may lie. -/
theorem unpack_ghost [Bare U] {tm : Tm U} (hL : Laid U tm) {h : Heap U} {id nx : Nat} {x : U.O} (hg : h.get id = some (.obj x)) (hid : id < nx) {β : Base} {r : Nm} {w : World} (hs : Sat β r h w) (hf : Fresh r nx) :
    ∃ hp n r', tm x hp n ∧ r.le r' ∧ Fresh r' (nx + n) ∧ Sat β r' (h.del id ++ renAll (openF id nx) hp) w := by
  obtain ⟨q, r', ht, h1, h2, _⟩ := unpack (s := ⟨[], h, nx, 0, []⟩) hL hg hid (Nat.le_refl _) (Nat.le_refl _) β r ⟨#[], []⟩ w ⟨hs, hf, fun t => trivial, rfl, rfl⟩
  refine ⟨q.1, q.2, r', ht, fun i y e => h1 i y ?_ e, h2.fresh, h2.sat⟩
  rcases Nat.lt_or_ge i nx with hh | hh
  · exact hh
  · rw [hf i hh] at e; cases e

/-- A loop in the wider sense that is left at its head alone. -/
def loopH {Pa Ya : Type} (nx0 : Nat) (I0 : Pa → St U) (c1 : Pa → Ya → Prop) (F1 : Pa → Ya → St U) : LoopS U := fun s K =>
  .ex (Pa → Prop) fun c0 => .need (s.nx ≤ nx0 ∧ SImp nx0 s I0 c0) (.all Pa fun p => .asm (c0 p) (.all Ya fun y => .asm (c1 p y) (K .nx (F1 p y))))
theorem loopH_ok [Plain U] {C : Cfg P U} (hC : C.ok) {id f n : Nat} {body : Code} {Pa ι Ya : Type} (ts : List Nat) (nx0 : Nat) (I : Pa → ι → St U) (J : Pa → ι → Prop) (x0 : Pa → ι) (μ : Pa → ι → Nat) (c1 : Pa → Ya → Prop) (F1 : Pa → Ya → St U)
    (hJ : ∀ p, J p (x0 p))
    (hbody : ∀ (p : Pa) (x : ι), J p x → (runCode C n f body (I p x) (stopK ts)).holds ⟨fun e s' => match e with
      | .nx => SImp nx0 s' (I p) (fun y => J p y ∧ μ p y < μ p x)
      | .rt => False
      | .ex j => j = id ∧ SImp nx0 s' (F1 p) (c1 p), fun _ _ _ => False⟩) : LoopOk P id body (loopH nx0 (fun p => I p (x0 p)) c1 F1) := by
  intro M s K ⟨c0, h0, hp⟩
  refine loopG_ok (f := f) (n := n) hC ts nx0 I J x0 μ c1 F1 (fun _ (_ : Empty) => False) (fun _ e => e.elim) hJ ?_ M s K ⟨c0, h0, fun p hc => ⟨hp p hc, fun e => e.elim⟩⟩
  intro p x hx
  refine Out.weak (hbody p x hx) (fun e s' hh => ?_) (fun _ _ _ hh => hh)
  cases e with
  | nx => exact hh
  | rt => exact hh.elim
  | ex j => exact hh

/-- A loop that is told of some temporaries alone. -/
def keepLoop (ts : List Nat) (L : LoopS U) : LoopS U := fun s K => L (keepSt ts s) K
theorem keepLoop_ok {id : Nat} {body : Code} {ts : List Nat} {L : LoopS U} (h : LoopOk P id body L) : LoopOk P id body (keepLoop ts L) := by
  intro M s K H β r a w hs Q hQ
  exact h M (keepSt ts s) K H β r a w (keep_sat ts hs) Q (fun e s' r' a' w' hR hle hs' hf => hQ e s' r' a' w' hR hle hs' ((keep_fr ts s).trans hf))

end
end Sx
end Go.Proofs.Ytemcdjdglcceiaa
