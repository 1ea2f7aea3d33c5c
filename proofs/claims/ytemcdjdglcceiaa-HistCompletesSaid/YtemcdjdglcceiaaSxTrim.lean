/-
  States trimmed: some temporaries and blocks alone are kept; loops told so.
-/
import Derived.Test.YtemcdjdglcceiaaSxEnd
namespace Go.Proofs.Ytemcdjdglcceiaa
namespace Sx
open Go

section
variable {U : Uni} {P : Program}

def TrimOk (tr : St U → St U) : Prop := ∀ (β : Base) (r : Nm) (s : St U) (a : Act) (w : World), SatS β r s a w → SatS β r (tr s) a w ∧ Fr s (tr s)
theorem trim_keep (ts : List Nat) : TrimOk (keepSt (U := U) ts) := fun _ _ s _ _ hs => ⟨keep_sat ts hs, keep_fr ts s⟩

def Heap.keep (ids : List Nat) : Heap U → Heap U
  | [] => []
  | (i, B) :: h => bif ids.any (Nat.beq i) then (i, B) :: Heap.keep ids h else Heap.keep ids h
def Heap.gone (ids : List Nat) : Heap U → List Nat
  | [] => []
  | (i, _) :: h => bif ids.any (Nat.beq i) then Heap.gone ids h else i :: Heap.gone ids h
theorem Heap.keep_den {ids : List Nat} {G : Hp} {r : Nm} : ∀ {h : Heap U} {H : Hp}, h.den G r H → ∃ H1 H2, (h.keep ids).den G r H1 ∧ H1.apart H2 ∧ H = H1.join H2
  | [], H, d => ⟨H, Hp.nil, d, (Hp.nil_apart H).symm, (Hp.join_nil H).symm⟩
  | (i, B) :: h, _, ⟨A1, A2, a, b, c, d⟩ => by
    obtain ⟨K1, K2, k1, k2, rfl⟩ := Heap.keep_den (ids := ids) b
    subst d
    have q := Hp.apart_join.1 c
    cases e : ids.any (Nat.beq i) with
    | true =>
      refine ⟨A1.join K1, K2, ?_, Hp.join_apart.2 ⟨q.2, k2⟩, by rw [Hp.join_assoc]⟩
      show Heap.den G r (bif ids.any (Nat.beq i) then _ else _) _
      rw [e]
      exact ⟨A1, K1, a, k1, q.1, rfl⟩
    | false =>
      refine ⟨K1, A1.join K2, ?_, Hp.apart_join.2 ⟨q.1.symm, k2⟩, ?_⟩
      · show Heap.den G r (bif ids.any (Nat.beq i) then _ else _) _
        rw [e]; exact k1
      · rw [← Hp.join_assoc, ← Hp.join_assoc, Hp.join_comm q.1]
theorem Heap.keep_get {ids : List Nat} {id : Nat} {B : Blk U} : ∀ {h : Heap U}, h.get id = some B → id ∈ h.gone ids ∨ (h.keep ids).get id = some B
  | [], e => by cases e
  | (i, C) :: h, e => by
    change (bif Nat.beq i id then some C else Heap.get h id) = some B at e
    show id ∈ (bif ids.any (Nat.beq i) then _ else _) ∨ Heap.get (bif ids.any (Nat.beq i) then _ else _) id = some B
    cases hi : Nat.beq i id with
    | true =>
      rw [hi] at e
      have := Nat.eq_of_beq_eq_true hi
      subst this
      cases hk : ids.any (Nat.beq i) with
      | true => right; show (bif Nat.beq i i then some C else _) = _; rw [hi]; exact e
      | false => left; exact List.mem_cons_self ..
    | false =>
      rw [hi] at e
      have ih := Heap.keep_get (ids := ids) (h := h) e
      cases hk : ids.any (Nat.beq i) with
      | true =>
        rcases ih with h1 | h1
        · exact .inl h1
        · right; show (bif Nat.beq i id then some C else _) = _; rw [hi]; exact h1
      | false =>
        rcases ih with h1 | h1
        · exact .inl (List.mem_cons_of_mem _ h1)
        · exact .inr h1

def trimSt (ts ids : List Nat) (s : St U) : St U := { s with env := ts.map fun t => (t, envGet s.env t), heap := s.heap.keep ids, tl := s.heap.gone ids ++ s.tl }
theorem trim_ok (ts ids : List Nat) : TrimOk (trimSt (U := U) ts ids) := by
  intro β r s a w hs
  have k := keep_sat ts hs
  obtain ⟨hm, H, hd, ha, hw⟩ := hs.sat
  obtain ⟨H1, H2, h1, h2, rfl⟩ := Heap.keep_den (ids := ids) hd
  refine ⟨⟨⟨hm, H1, h1, (Hp.join_apart.1 ha).1, ((Hp.inW_join h2).1 hw).1⟩, k.fresh, k.env, k.size, k.defers⟩, ⟨fun i hi => List.mem_append.2 (.inr hi), fun id B e hn => ?_, rfl⟩⟩
  rcases Heap.keep_get (ids := ids) e with h | h
  · exact absurd (List.mem_append.2 (.inl h)) hn
  · exact h

def stopT (tr : St U → St U) (e : EX) (s : St U) : Out U := .stop e (tr s)
def trimLoop (tr : St U → St U) (L : LoopS U) : LoopS U := fun s K => L (tr s) K
theorem trimLoop_ok {id : Nat} {body : Code} {tr : St U → St U} (ht : TrimOk tr) {L : LoopS U} (h : LoopOk P id body L) : LoopOk P id body (trimLoop tr L) := by
  intro M s K H β r a w hs Q hQ
  obtain ⟨h1, h2⟩ := ht β r s a w hs
  exact h M (tr s) K H β r a w h1 Q (fun e s' r' a' w' hR hle hs' hf => hQ e s' r' a' w' hR hle hs' (h2.trans hf))

theorem loopT_ok [Plain U] {C : Cfg P U} (hC : C.ok) {id f n : Nat} {body : Code} {Pa ι Ya Za : Type} {tr : St U → St U} (ht : TrimOk tr) (nx0 : Nat) (I : Pa → ι → St U) (J : Pa → ι → Prop) (x0 : Pa → ι) (μ : Pa → ι → Nat) (c1 : Pa → Ya → Prop) (F1 : Pa → Ya → St U) (c2 : Pa → Za → Prop) (F2 : Pa → Za → St U)
    (hJ : ∀ p, J p (x0 p))
    (hbody : ∀ (p : Pa) (x : ι), J p x → (runCode C n f body (I p x) (stopT tr)).holds ⟨fun e s' => match e with
      | .nx => SImp nx0 s' (I p) (fun y => J p y ∧ μ p y < μ p x)
      | .rt => SImp nx0 s' (F2 p) (c2 p)
      | .ex j => j = id ∧ SImp nx0 s' (F1 p) (c1 p), fun _ _ _ => False⟩) : LoopOk P id body (loopG nx0 (fun p => I p (x0 p)) c1 F1 c2 F2) := by
  intro M s K ⟨c0, ⟨hnx, h0⟩, hpost⟩ β r a w hs Q hQ
  have hdom : ∀ i x, r i = some x → i < nx0 := fun i x e => by
    rcases Nat.lt_or_ge i nx0 with h | h
    · exact h
    · rw [hs.fresh i (by omega)] at e; cases e
  obtain ⟨p, r0, hp, g1, g2, g3⟩ := h0 β r a w hs
  have hpost := hpost p hp
  refine wp_block ?_
  have key : ∀ (m : Nat) (x : ι) (r1 : Nm) (a1 : Act) (w1 : World), J p x → μ p x ≤ m → SatS β r1 (I p x) a1 w1 → (∀ i x, i < nx0 → r i = some x → r1 i = some x) → Fr s (I p x) →
      Code.rounds P body (Exit.inBlock id Q) (m + 1) a1 w1 := by
    intro m
    induction m with
    | zero =>
      intro x r1 a1 w1 hj hm hs1 hr1 hf1
      refine runCode_sound hC n f body (I p x) (stopT tr) (hbody p x hj) β r1 a1 w1 hs1 _ ?_
      intro e s' r' a' w' hR hle hs' hf
      obtain ⟨t1, t2⟩ := ht β r' s' a' w' hs'
      cases e with
      | nx => obtain ⟨y, _, ⟨_, hlt⟩, _⟩ := hR β r' a' w' t1; omega
      | rt =>
        obtain ⟨y, r'', hc, k1, k2, k3⟩ := hR β r' a' w' t1
        exact hQ .rt _ r'' a' w' (hpost.2 y hc) (fun i x e => k1 i x (hdom i x e) (hle i x (hr1 i x (hdom i x e) e))) k2 (((hf1.trans hf).trans t2).trans k3)
      | ex j =>
        obtain ⟨rfl, hR⟩ := hR
        obtain ⟨y, r'', hc, k1, k2, k3⟩ := hR β r' a' w' t1
        show (if j = j then Q .normal a' w' else Q (.exit j) a' w')
        rw [if_pos rfl]
        exact hQ .nx _ r'' a' w' (hpost.1 y hc) (fun i x e => k1 i x (hdom i x e) (hle i x (hr1 i x (hdom i x e) e))) k2 (((hf1.trans hf).trans t2).trans k3)
    | succ m ih =>
      intro x r1 a1 w1 hj hm hs1 hr1 hf1
      refine runCode_sound hC n f body (I p x) (stopT tr) (hbody p x hj) β r1 a1 w1 hs1 _ ?_
      intro e s' r' a' w' hR hle hs' hf
      obtain ⟨t1, t2⟩ := ht β r' s' a' w' hs'
      cases e with
      | nx =>
        obtain ⟨y, r'', ⟨hjy, hlt⟩, k1, k2, k3⟩ := hR β r' a' w' t1
        exact ih y r'' a' w' hjy (by omega) k2 (fun i x hi e => k1 i x hi (hle i x (hr1 i x hi e))) (((hf1.trans hf).trans t2).trans k3)
      | rt =>
        obtain ⟨y, r'', hc, k1, k2, k3⟩ := hR β r' a' w' t1
        exact hQ .rt _ r'' a' w' (hpost.2 y hc) (fun i x e => k1 i x (hdom i x e) (hle i x (hr1 i x (hdom i x e) e))) k2 (((hf1.trans hf).trans t2).trans k3)
      | ex j =>
        obtain ⟨rfl, hR⟩ := hR
        obtain ⟨y, r'', hc, k1, k2, k3⟩ := hR β r' a' w' t1
        show (if j = j then Q .normal a' w' else Q (.exit j) a' w')
        rw [if_pos rfl]
        exact hQ .nx _ r'' a' w' (hpost.1 y hc) (fun i x e => k1 i x (hdom i x e) (hle i x (hr1 i x (hdom i x e) e))) k2 (((hf1.trans hf).trans t2).trans k3)
  exact wp_loop_rounds _ (key (μ p (x0 p)) (x0 p) r0 a w (hJ p) (Nat.le_refl _) g2 g1 g3)
theorem loopTH_ok [Plain U] {C : Cfg P U} (hC : C.ok) {id f n : Nat} {body : Code} {Pa ι Ya : Type} {tr : St U → St U} (ht : TrimOk tr) (nx0 : Nat) (I : Pa → ι → St U) (J : Pa → ι → Prop) (x0 : Pa → ι) (μ : Pa → ι → Nat) (c1 : Pa → Ya → Prop) (F1 : Pa → Ya → St U)
    (hJ : ∀ p, J p (x0 p))
    (hbody : ∀ (p : Pa) (x : ι), J p x → (runCode C n f body (I p x) (stopT tr)).holds ⟨fun e s' => match e with
      | .nx => SImp nx0 s' (I p) (fun y => J p y ∧ μ p y < μ p x)
      | .rt => False
      | .ex j => j = id ∧ SImp nx0 s' (F1 p) (c1 p), fun _ _ _ => False⟩) : LoopOk P id body (loopH nx0 (fun p => I p (x0 p)) c1 F1) := by
  intro M s K ⟨c0, h0, hp⟩
  refine loopT_ok (f := f) (n := n) hC ht nx0 I J x0 μ c1 F1 (fun _ (_ : Empty) => False) (fun _ e => e.elim) hJ ?_ M s K ⟨c0, h0, fun p hc => ⟨hp p hc, fun e => e.elim⟩⟩
  intro p x hx
  refine Out.weak (hbody p x hx) (fun e s' hh => ?_) (fun _ _ _ hh => hh)
  cases e with
  | nx => exact hh
  | rt => exact hh.elim
  | ex j => exact hh
end
end Sx
end Go.Proofs.Ytemcdjdglcceiaa
