/-
  One state for another, world by world; objects unpacked into their blocks; loops in that wider sense.
-/
import Derived.Test.YtemcdjdglcceiaaSxU
namespace Go.Proofs.Ytemcdjdglcceiaa
namespace Sx
open Go

section
variable {U : Uni} {P : Program}

/-- In each world some state of the family holds. -/
def SImp {Ya : Type} (nx0 : Nat) (s : St U) (T : Ya → St U) (c : Ya → Prop) : Prop :=
  ∀ (β : Base) (r : Nm) (a : Act) (w : World), SatS β r s a w → ∃ y r', c y ∧ (∀ i x, i < nx0 → r i = some x → r' i = some x) ∧ SatS β r' (T y) a w ∧ Fr s (T y)

theorem SImp.of_wk [Plain U] {Ya : Type} {nx0 : Nat} {ren : List (Nat × Nat)} {s : St U} {T : Ya → St U} {c : Ya → Prop} (y : Ya) (h : Wk nx0 ren s (T y)) (hc : c y) : SImp nx0 s T c :=
  fun _ _ _ _ hs => let ⟨r', h1, h2, h3⟩ := h.ok hs; ⟨y, r', hc, h1, h2, h3⟩

theorem SImp.bind {Ya Za : Type} {nx0 : Nat} {s : St U} {T : Ya → St U} {c : Ya → Prop} {R : Za → St U} {d : Za → Prop} (h : SImp nx0 s T c) (k : ∀ y, c y → SImp nx0 (T y) R d) : SImp nx0 s R d := by
  intro β r a w hs
  obtain ⟨y, r1, hc, h1, h2, h3⟩ := h β r a w hs
  obtain ⟨z, r2, hd, k1, k2, k3⟩ := k y hc β r1 a w h2
  exact ⟨z, r2, hd, fun i x hi e => k1 i x hi (h1 i x hi e), k2, h3.trans k3⟩

/-! ## unpacking -/
theorem Blk.den_ren' [Bare U] {G : Hp} {r : Nm} {f : Nat → Nat} {id : Nat} {B : Blk U} {H : Hp} (h : B.den G (fun i => r (f i)) id H) : (B.ren f).den G r (f id) H := by
  cases B with
  | cells T cs => obtain ⟨b, vs, h1, h2, h3⟩ := h; exact ⟨b, vs, h1, relL_ren' _ _ h2, h3⟩
  | arr T k xs sp =>
    rcases h with h | ⟨b, c, h1, h2, h3, h4, h5⟩
    · exact .inl h
    · exact .inr ⟨b, c, h1, fun i x e => enc_bare (h2 i x e), h3, h4, h5⟩
  | ro k xs =>
    obtain ⟨h1, h2⟩ := h
    exact ⟨fun i x e => let ⟨b, o, c, T, fz, a1, a2, a3⟩ := h1 i x e; ⟨b, o, c, T, fz, a1, a2, enc_bare a3⟩, h2⟩
  | mp kk k m => obtain ⟨b, es, cl, h1, h2, h3⟩ := h; exact ⟨b, es, cl, h1, relM_bare h2, h3⟩
  | obj x => obtain ⟨b, h1, h2⟩ := h; exact ⟨b, h1, h2⟩

def renAll (f : Nat → Nat) : Heap U → Heap U
  | [] => []
  | (i, B) :: h => (f i, B.ren f) :: renAll f h
theorem renAll_den [Bare U] {G : Hp} {r : Nm} {f : Nat → Nat} : ∀ {h : Heap U} {H : Hp}, h.den G (fun i => r (f i)) H → (renAll f h).den G r H
  | [], _, d => d
  | (_, _) :: _, _, ⟨H1, H2, a, b, c, d⟩ => ⟨H1, H2, Blk.den_ren' a, renAll_den b, c, d⟩

/-- Where an object's inner names go: 0 to its own, the others behind a base. -/
def openF (id base j : Nat) : Nat := bif Nat.beq j 0 then id else base + j

theorem unpack [Bare U] {tm : Tm U} (hL : Laid U tm) {s : St U} {id base : Nat} {x : U.O} (hg : s.heap.get id = some (.obj x)) (hid : id < base) (hb : s.nx ≤ base) {nx0 : Nat} (h0 : nx0 ≤ base) :
    SImp nx0 s (fun q : Heap U × Nat => { s with heap := s.heap.del id ++ renAll (openF id base) q.1, nx := base + q.2, tl := id :: s.tl }) (fun q => tm x q.1 q.2) := by
  intro β r a w hs
  obtain ⟨hm, H, hd, hap, hin⟩ := hs.sat
  obtain ⟨H1, H2, ⟨b, hbn, hD⟩, q2, rfl, q4, _⟩ := Heap.focus hd hg
  obtain ⟨hp, n, rt, ht, hz, hft, hden⟩ := (hL x b H1).1 hD
  let rr : Nm := fun i => if i < base then r i else rt (i - base)
  have hdom : ∀ i y, r i = some y → i < base := fun i y e => by
    rcases Nat.lt_or_ge i base with h | h
    · exact h
    · rw [hs.fresh i (by omega)] at e; cases e
  have hle : r.le rr := fun i y e => by show (if i < base then r i else _) = _; rw [if_pos (hdom i y e)]; exact e
  have hrt : (fun j => rr (openF id base j)) = rt := by
    funext j
    show rr (bif Nat.beq j 0 then id else base + j) = rt j
    cases j with
    | zero => show (if id < base then r id else _) = _; rw [if_pos hid, hbn, hz]
    | succ j => show (if base + (j + 1) < base then _ else rt (base + (j + 1) - base)) = _; rw [if_neg (by omega), Nat.add_sub_cancel_left]
  have hnew : (renAll (openF id base) hp).den β.G rr H1 := renAll_den (by rw [hrt]; exact Heap.den_nil hden)
  refine ⟨(hp, n), rr, ht, fun i y hi e => hle i y e, ⟨⟨hm, H2.join H1, Heap.den_append (Heap.den_mono hle q4) hnew q2.symm, by rw [Hp.join_comm q2.symm]; exact hap, by rw [Hp.join_comm q2.symm]; exact hin⟩, fun i hi => ?_, hs.env.mono hle, hs.size, hs.defers⟩, ⟨fun i hi => List.mem_cons_of_mem _ hi, fun i B e hn => ?_, rfl⟩⟩
  · show (if i < base then r i else rt (i - base)) = none
    have hi' : base + n ≤ i := hi
    rw [if_neg (by omega)]; exact hft _ (by omega)
  · have hne : i ≠ id := fun hh => hn (by rw [hh]; exact List.mem_cons_self ..)
    have hdel : (s.heap.del id).get i = some B := by rw [Heap.get_del_ne hne]; exact e
    have app : ∀ (h l : Heap U), h.get i = some B → Heap.get (h ++ l) i = some B := by
      intro h l
      induction h with
      | nil => intro e; cases e
      | cons q h ih =>
        obtain ⟨j, C⟩ := q
        intro e
        show (bif Nat.beq j i then some C else Heap.get (h ++ l) i) = some B
        change (bif Nat.beq j i then some C else Heap.get h i) = some B at e
        cases hh : Nat.beq j i with
        | true => rw [hh] at e; exact e
        | false => rw [hh] at e; exact ih e
    exact app _ _ hdel

/-! ## loops -/
/-- The state with the temporaries of a list alone. -/
def keepSt (ts : List Nat) (s : St U) : St U := { s with env := ts.map fun t => (t, envGet s.env t) }
def stopK (ts : List Nat) (e : EX) (s : St U) : Out U := .stop e (keepSt ts s)
theorem keep_get (env : List (Nat × AV)) : ∀ (ts : List Nat) (t : Nat), envGet (ts.map fun t => (t, envGet env t)) t = envGet env t ∨ envGet (ts.map fun t => (t, envGet env t)) t = .und
  | [], _ => .inr rfl
  | u :: ts, t => by
    show (bif Nat.beq u t then envGet env u else envGet (ts.map _) t) = _ ∨ (bif Nat.beq u t then envGet env u else envGet (ts.map _) t) = _
    cases e : Nat.beq u t with
    | true => have := Nat.eq_of_beq_eq_true e; subst this; exact .inl rfl
    | false => exact keep_get env ts t
theorem keep_sat (ts : List Nat) {β : Base} {r : Nm} {s : St U} {a : Act} {w : World} (h : SatS β r s a w) : SatS β r (keepSt ts s) a w :=
  ⟨h.sat, h.fresh, fun t => by
    show rel r (envGet (ts.map fun t => (t, envGet s.env t)) t) _
    rcases keep_get s.env ts t with e | e
    · rw [e]; exact h.env t
    · rw [e]; trivial, h.size, h.defers⟩
theorem keep_fr (ts : List Nat) (s : St U) : Fr s (keepSt ts s) := ⟨fun _ h => h, Kept.refl _ _, rfl⟩
def loopG {Pa Ya Za : Type} (nx0 : Nat) (I0 : Pa → St U) (c1 : Pa → Ya → Prop) (F1 : Pa → Ya → St U) (c2 : Pa → Za → Prop) (F2 : Pa → Za → St U) : LoopS U := fun s K =>
  .ex (Pa → Prop) fun c0 => .need (s.nx ≤ nx0 ∧ SImp nx0 s I0 c0)
    (.all Pa fun p => .asm (c0 p) (.both (.all Ya fun y => .asm (c1 p y) (K .nx (F1 p y))) (.all Za fun y => .asm (c2 p y) (K .rt (F2 p y)))))

theorem loopG_ok [Plain U] {C : Cfg P U} (hC : C.ok) {id f n : Nat} {body : Code} {Pa ι Ya Za : Type} (ts : List Nat) (nx0 : Nat) (I : Pa → ι → St U) (J : Pa → ι → Prop) (x0 : Pa → ι) (μ : Pa → ι → Nat) (c1 : Pa → Ya → Prop) (F1 : Pa → Ya → St U) (c2 : Pa → Za → Prop) (F2 : Pa → Za → St U)
    (hJ : ∀ p, J p (x0 p))
    (hbody : ∀ (p : Pa) (x : ι), J p x → (runCode C n f body (I p x) (stopK ts)).holds ⟨fun e s' => match e with
      | .nx => SImp nx0 s' (I p) (fun y => J p y ∧ μ p y < μ p x)
      | .rt => SImp nx0 s' (F2 p) (c2 p)
      | .ex j => j = id ∧ SImp nx0 s' (F1 p) (c1 p), fun _ _ _ => False⟩) : LoopOk P id body (loopG nx0 (fun p => I p (x0 p)) c1 F1 c2 F2) := by
  intro M s K ⟨c0, ⟨hnx, h0⟩, hpost⟩ β r a w hs Q hQ
  have hdom : ∀ i x, r i = some x → i < nx0 := fun i x e => by
    rcases Nat.lt_or_ge i nx0 with h | h
    · exact h
    · rw [hs.fresh i (by omega)] at e; cases e
  obtain ⟨p, r0, hp, g1, g2, g3⟩ := h0 β r a w hs
  have hpost := hpost p hp
  refine wp_block ?_
  have key : ∀ (m : Nat) (x : ι) (r1 : Nm) (a1 : Act) (w1 : World), J p x → μ p x ≤ m → SatS β r1 (I p x) a1 w1 → (∀ i x, i < nx0 → r i = some x → r1 i = some x) → Fr s (I p x) →
      Code.rounds P body (Exit.inBlock id Q) (m + 1) a1 w1 := by
    intro m
    induction m with
    | zero =>
      intro x r1 a1 w1 hj hm hs1 hr1 hf1
      refine runCode_sound hC n f body (I p x) (stopK ts) (hbody p x hj) β r1 a1 w1 hs1 _ ?_
      intro e s' r' a' w' hR hle hs' hf
      cases e with
      | nx => obtain ⟨y, _, ⟨_, hlt⟩, _⟩ := hR β r' a' w' (keep_sat ts hs'); omega
      | rt =>
        obtain ⟨y, r'', hc, k1, k2, k3⟩ := hR β r' a' w' (keep_sat ts hs')
        exact hQ .rt _ r'' a' w' (hpost.2 y hc) (fun i x e => k1 i x (hdom i x e) (hle i x (hr1 i x (hdom i x e) e))) k2 (((hf1.trans hf).trans (keep_fr ts s')).trans k3)
      | ex j =>
        obtain ⟨rfl, hR⟩ := hR
        obtain ⟨y, r'', hc, k1, k2, k3⟩ := hR β r' a' w' (keep_sat ts hs')
        show (if j = j then Q .normal a' w' else Q (.exit j) a' w')
        rw [if_pos rfl]
        exact hQ .nx _ r'' a' w' (hpost.1 y hc) (fun i x e => k1 i x (hdom i x e) (hle i x (hr1 i x (hdom i x e) e))) k2 (((hf1.trans hf).trans (keep_fr ts s')).trans k3)
    | succ m ih =>
      intro x r1 a1 w1 hj hm hs1 hr1 hf1
      refine runCode_sound hC n f body (I p x) (stopK ts) (hbody p x hj) β r1 a1 w1 hs1 _ ?_
      intro e s' r' a' w' hR hle hs' hf
      cases e with
      | nx =>
        obtain ⟨y, r'', ⟨hjy, hlt⟩, k1, k2, k3⟩ := hR β r' a' w' (keep_sat ts hs')
        exact ih y r'' a' w' hjy (by omega) k2 (fun i x hi e => k1 i x hi (hle i x (hr1 i x hi e))) (((hf1.trans hf).trans (keep_fr ts s')).trans k3)
      | rt =>
        obtain ⟨y, r'', hc, k1, k2, k3⟩ := hR β r' a' w' (keep_sat ts hs')
        exact hQ .rt _ r'' a' w' (hpost.2 y hc) (fun i x e => k1 i x (hdom i x e) (hle i x (hr1 i x (hdom i x e) e))) k2 (((hf1.trans hf).trans (keep_fr ts s')).trans k3)
      | ex j =>
        obtain ⟨rfl, hR⟩ := hR
        obtain ⟨y, r'', hc, k1, k2, k3⟩ := hR β r' a' w' (keep_sat ts hs')
        show (if j = j then Q .normal a' w' else Q (.exit j) a' w')
        rw [if_pos rfl]
        exact hQ .nx _ r'' a' w' (hpost.1 y hc) (fun i x e => k1 i x (hdom i x e) (hle i x (hr1 i x (hdom i x e) e))) k2 (((hf1.trans hf).trans (keep_fr ts s')).trans k3)
  exact wp_loop_rounds _ (key (μ p (x0 p)) (x0 p) r0 a w (hJ p) (Nat.le_refl _) g2 g1 g3)

end
end Sx
end Go.Proofs.Ytemcdjdglcceiaa
