/-
  One description of a state for another: names changed, things forgotten; and loops by what holds at each round's head.
-/
import Derived.Test.YtemcdjdglcceiaaSxQ
namespace Go.Proofs.Ytemcdjdglcceiaa
namespace Sx
open Go

section
variable {U : Uni} {P : Program}

mutual
def AV.ren (f : Nat → Nat) : AV → AV
  | .ptr id off => .ptr (f id) off
  | .ptrR id i w c => .ptrR (f id) i w c
  | .sl k id s w len cap => .sl k (f id) s w len cap
  | .mp id => .mp (f id)
  | .agg cs => .agg (AV.renL f cs)
  | .tup cs => .tup (AV.renL f cs)
  | .fn g fs cs => .fn g (AV.renL f fs) (AV.renL f cs)
  | .ifc t x => .ifc t (AV.ren f x)
  | .raw v => .raw v
  | .int k n => .int k n
  | .lit k n => .lit k n
  | .tt => .tt
  | .ff => .ff
  | .bool b => .bool b
  | .may n c => .may n c
  | .nilP => .nilP
  | .nilS => .nilS
  | .nilF => .nilF
  | .nilM => .nilM
  | .nilI => .nilI
  | .und => .und
def AV.renL (f : Nat → Nat) : List AV → List AV
  | [] => []
  | c :: cs => AV.ren f c :: AV.renL f cs
end

mutual
theorem rel_ren {r : Nm} {f : Nat → Nat} : ∀ (x : AV) (v : Value), rel r (x.ren f) v → rel (fun i => r (f i)) x v
  | .ptr .., _, h => h
  | .ptrR .., _, h => h
  | .sl .., _, h => h
  | .mp _, _, h => h
  | .agg cs, _, ⟨vs, h, e⟩ => ⟨vs, relL_ren cs vs h, e⟩
  | .tup cs, _, ⟨vs, h, e⟩ => ⟨vs, relL_ren cs vs h, e⟩
  | .fn _ fs cs, _, ⟨us, vs, h, k, e⟩ => ⟨us, vs, relL_ren fs us h, relL_ren cs vs k, e⟩
  | .ifc _ x, _, ⟨u, h, e⟩ => ⟨u, rel_ren x u h, e⟩
  | .raw _, _, h => h
  | .int .., _, h => h
  | .lit .., _, h => h
  | .tt, _, h => h
  | .ff, _, h => h
  | .bool _, _, h => h
  | .may .., _, h => h
  | .nilP, _, h => h
  | .nilS, _, h => h
  | .nilF, _, h => h
  | .nilM, _, h => h
  | .nilI, _, h => h
  | .und, _, h => h
theorem relL_ren {r : Nm} {f : Nat → Nat} : ∀ (x : List AV) (v : List Value), relL r (AV.renL f x) v → relL (fun i => r (f i)) x v
  | [], _, h => h
  | c :: cs, _, ⟨v, us, e, h, k⟩ => ⟨v, us, e, rel_ren c v h, relL_ren cs us k⟩
end

def Blk.ren (f : Nat → Nat) : Blk U → Blk U
  | .cells T cs => .cells T (AV.renL f cs)
  | b => b

/-- Nothing of an element's layout names a block. -/
class Plain (U : Uni) : Prop where
  enc : ∀ k a f, AV.renL f ((U.enc k).enc a) = (U.enc k).enc a

theorem enc_ren [Plain U] {r : Nm} {f : Nat → Nat} {k : U.K} {a : U.El k} {vs : List Value} (h : relL r ((U.enc k).enc a) vs) : relL (fun i => r (f i)) ((U.enc k).enc a) vs :=
  relL_ren _ _ (by rw [Plain.enc]; exact h)

theorem relM_ren [Plain U] {k : U.K} {kk : IntKind} {r : Nm} {f : Nat → Nat} : ∀ {m : List (Int × U.El k)} {es : List MapEntry}, relM (U.enc k) kk r m es → relM (U.enc k) kk (fun i => r (f i)) m es
  | [], _, h => h
  | (_, _) :: _, _, ⟨e, fs, a, b, c, d⟩ => ⟨e, fs, a, b, by
      cases hg : (U.enc k).agg with
      | true => rw [hg] at c; obtain ⟨vs, h1, h2⟩ := c; exact ⟨vs, enc_ren h1, h2⟩
      | false => rw [hg] at c; exact enc_ren (r := r) c, relM_ren d⟩

theorem Blk.den_ren [Plain U] {G : Hp} {r : Nm} {f : Nat → Nat} {id : Nat} {B : Blk U} {H : Hp} (h : (B.ren f).den G r (f id) H) : B.den G (fun i => r (f i)) id H := by
  cases B with
  | cells T cs => obtain ⟨b, vs, h1, h2, h3⟩ := h; exact ⟨b, vs, h1, relL_ren _ _ h2, h3⟩
  | arr T k xs sp =>
    rcases h with h | ⟨b, c, h1, h2, h3, h4, h5⟩
    · exact .inl h
    · exact .inr ⟨b, c, h1, fun i x e => enc_ren (h2 i x e), h3, h4, h5⟩
  | ro k xs =>
    obtain ⟨h1, h2⟩ := h
    exact ⟨fun i x e => let ⟨b, o, c, T, fz, a1, a2, a3⟩ := h1 i x e; ⟨b, o, c, T, fz, a1, a2, enc_ren a3⟩, h2⟩
  | mp kk k m => obtain ⟨b, es, cl, h1, h2, h3⟩ := h; exact ⟨b, es, cl, h1, relM_ren h2, h3⟩
  | obj x => obtain ⟨b, h1, h2⟩ := h; exact ⟨b, h1, h2⟩

/-- Where names come from: below nx0 from themselves. -/
def mkF (nx0 : Nat) (ren : List (Nat × Nat)) (top : Nat) (i : Nat) : Nat :=
  bif Nat.blt i nx0 then i else (match ren.lookup i with | some j => j | none => top + i)

/-- One value says no less than another. -/
def AV.sub (a b : AV) : Prop := ∀ r v, rel r a v → rel r b v
theorem AV.sub_refl (a : AV) : a.sub a := fun _ _ h => h
theorem AV.sub_of_eq {a b : AV} (h : a = b) : a.sub b := h ▸ AV.sub_refl a
theorem AV.sub_int {k : IntKind} {n m : Int} (h : n = m) : (AV.int k n).sub (.int k m) := by subst h; exact AV.sub_refl _
theorem AV.sub_lit {k : IntKind} {n m : Int} (h : n = m) : (AV.lit k n).sub (.int k m) := by subst h; exact fun _ _ h => h
theorem AV.sub_bool {n m : Bool} (h : n = m) : (AV.bool n).sub (.bool m) := by subst h; exact AV.sub_refl _
theorem AV.sub_tt {m : Bool} (h : m = true) : AV.tt.sub (.bool m) := by subst h; exact fun _ _ h => h
theorem AV.sub_ff {m : Bool} (h : m = false) : AV.ff.sub (.bool m) := by subst h; exact fun _ _ h => h
theorem AV.sub_nilS {kn : Bool} {id s w : Nat} : AV.nilS.sub (.sl kn id s w 0 0) := fun _ _ h => ⟨none, h, Nat.le_refl _, .inl rfl⟩
theorem AV.sub_sl {k k' : Bool} {id s w len cap len' cap' : Nat} (h : len = len') (h' : cap = cap') : (AV.sl k id s w len cap).sub (.sl k' id s w len' cap') := by subst h; subst h'; exact fun _ _ h => h
theorem AV.sub_und (a : AV) : a.sub .und := fun _ _ _ => trivial

/-- A block at hand for a block that is wanted. -/
inductive BSub : Option (Blk U) → Blk U → Prop where
  | same (B : Blk U) : BSub (some B) B
  | cells (T : Nat) (cs ds : List AV) (h : ∀ r vs, relL r cs vs → relL r ds vs) : BSub (some (.cells T cs)) (.cells T ds)
  | rows (T : Nat) (k : U.K) (cs : List AV) (xs : List (U.El k)) (n : Nat) (h : chunkDec (U.enc k) n cs = some xs) (hm : n ≤ maxLen) : BSub (some (.cells T cs)) (.arr T k xs 0)
  | none (T : Nat) (k : U.K) : BSub Option.none (.arr T k [] 0)
theorem BSub.den {B C : Blk U} (h : BSub (some C) B) {G : Hp} {r : Nm} {id : Nat} {H : Hp} (d : C.den G r id H) : B.den G r id H := by
  cases h with
  | same => exact d
  | cells T cs ds h => obtain ⟨b, vs, h1, h2, h3⟩ := d; exact ⟨b, vs, h1, h _ _ h2, h3⟩
  | rows T k cs xs n h hm =>
    obtain ⟨b, vs, h1, h2, h3⟩ := d
    obtain ⟨g1, g2, g3⟩ := chunkDec_sound h h2
    subst g1
    exact .inr ⟨b, vs.toArray, h1, fun i x e => by simpa using g3 i x e, by simpa using g2, hm, h3⟩
theorem AV.subL_nil : ∀ r vs, relL r ([] : List AV) vs → relL r [] vs := fun _ _ h => h
theorem AV.subL_cons {a b : AV} {as bs : List AV} (h : a.sub b) (k : ∀ r vs, relL r as vs → relL r bs vs) : ∀ r vs, relL r (a :: as) vs → relL r (b :: bs) vs := by
  intro r vs e
  simp only [relL] at e; obtain ⟨v, us, rfl, h1, h2⟩ := e
  exact relL_cons.2 ⟨h r v h1, k r us h2⟩
theorem BSub.arr {T : Nat} {k : U.K} {xs ys : List (U.El k)} {sp sp' : Nat} (h : xs = ys) (h' : sp = sp') : BSub (some (.arr T k xs sp : Blk U)) (.arr T k ys sp') := by subst h; subst h'; exact .same _

def EnvSub (f : Nat → Nat) (env : List (Nat × AV)) : List (Nat × AV) → Prop
  | [] => True
  | (t, v) :: l => (envGet env t).sub (v.ren f) ∧ EnvSub f env l
def HeapSub (f : Nat → Nat) (h : Heap U) : Heap U → Prop
  | [] => True
  | (id, B) :: l => BSub (h.get (f id)) (B.ren f) ∧ HeapSub f (h.del (f id)) l
def KeptAll (h' : Heap U) (T : List Nat) : Heap U → Prop
  | [] => True
  | (id, B) :: l => (id ∈ T ∨ h'.get id = some B) ∧ KeptAll h' T l

theorem kept_of_all {h' : Heap U} {T : List Nat} : ∀ {h : Heap U}, KeptAll h' T h → Kept h h' T
  | [], _, id, B, e, _ => by simp [Heap.get] at e
  | (i, C) :: h, k, id, B, e, hn => by
    unfold Heap.get at e
    cases hi : Nat.beq i id with
    | true =>
      rw [hi] at e; simp at e; subst e
      have := Nat.eq_of_beq_eq_true hi
      subst this
      exact k.1.resolve_left hn
    | false => rw [hi] at e; simp at e; exact kept_of_all k.2 id B e hn

structure Wk (nx0 : Nat) (ren : List (Nat × Nat)) (s s' : St U) : Prop where
  env : EnvSub (mkF nx0 ren s.nx) s.env s'.env
  heap : HeapSub (mkF nx0 ren s.nx) s.heap s'.heap
  nt : s'.nt = s.nt
  tl : ∀ i, i ∈ s.tl → i ∈ s'.tl
  kept : KeptAll s'.heap s'.tl s.heap
  nx : nx0 ≤ s'.nx ∧ (ren.all fun q => Nat.blt q.1 s'.nx) = true

theorem envSub_ok {f : Nat → Nat} {r : Nm} {env : List (Nat × AV)} {a : Act} (he : EnvOk r env a) : ∀ {l : List (Nat × AV)}, EnvSub f env l → EnvOk (fun i => r (f i)) l a
  | [], _, t => trivial
  | (t0, v) :: l, h, t => by
    show rel _ (bif Nat.beq t0 t then v else envGet l t) _
    cases e : Nat.beq t0 t with
    | true =>
      have := Nat.eq_of_beq_eq_true e
      subst this
      exact rel_ren _ _ (h.1 r _ (he t0))
    | false => exact envSub_ok he h.2 t

theorem heapSub_den [Plain U] {f : Nat → Nat} {G : Hp} {r : Nm} : ∀ {l h : Heap U} {H : Hp}, HeapSub f h l → h.den G r H →
    ∃ H1 H2, l.den G (fun i => r (f i)) H1 ∧ H1.apart H2 ∧ H = H1.join H2
  | [], h, H, _, _ => ⟨Hp.nil, H, rfl, Hp.nil_apart H, rfl⟩
  | (id, B) :: l, h, H, ⟨hb, hl⟩, hd => by
    cases hg : h.get (f id) with
    | none =>
      rw [hg] at hb
      have hdel : h.del (f id) = h := by
        clear hl hb hd
        induction h with
        | nil => rfl
        | cons q h ih =>
          obtain ⟨i, C⟩ := q
          unfold Heap.get at hg
          cases e : Nat.beq i (f id) with
          | true => rw [e] at hg; simp at hg
          | false => rw [e] at hg; simp at hg; unfold Heap.del; rw [e]; simp [ih hg]
      rw [hdel] at hl
      obtain ⟨H1, H2, h1, h2, h3⟩ := heapSub_den hl hd
      refine ⟨H1, H2, ⟨Hp.nil, H1, ?_, h1, Hp.nil_apart _, rfl⟩, h2, h3⟩
      cases B with
      | arr T k xs sp =>
        simp only [Blk.ren] at hb
        cases hb
        exact .inl ⟨rfl, rfl⟩
      | _ => simp only [Blk.ren] at hb; cases hb
    | some C =>
      rw [hg] at hb
      obtain ⟨K1, K2, k1, k2, k3, k4, _⟩ := Heap.focus hd hg
      obtain ⟨H1, H2, h1, h2, h3⟩ := heapSub_den hl k4
      subst h3; subst k3
      have q := Hp.apart_join.1 k2
      refine ⟨K1.join H1, H2, ⟨K1, H1, Blk.den_ren (hb.den k1), h1, q.1, rfl⟩, Hp.join_apart.2 ⟨q.2, h2⟩, by rw [Hp.join_assoc]⟩

theorem Wk.ok [Plain U] {nx0 : Nat} {ren : List (Nat × Nat)} {s s' : St U} (h : Wk nx0 ren s s') {β : Base} {r : Nm} {a : Act} {w : World} (hs : SatS β r s a w) :
    ∃ r', (∀ i x, i < nx0 → r i = some x → r' i = some x) ∧ SatS β r' s' a w ∧ Fr s s' := by
  refine ⟨fun i => r (mkF nx0 ren s.nx i), fun i x hi e => ?_, ⟨?_, fun i hi => ?_, envSub_ok hs.env h.env, by rw [h.nt]; exact hs.size, hs.defers⟩, ⟨h.tl, kept_of_all h.kept, h.nt⟩⟩
  · have : Nat.blt i nx0 = true := by rw [Nat.blt_eq]; exact hi
    simp only [mkF, this, cond_true]; exact e
  · obtain ⟨hm, H, hd, ha, hw⟩ := hs.sat
    obtain ⟨H1, H2, h1, h2, h3⟩ := heapSub_den h.heap hd
    subst h3
    exact ⟨hm, H1, h1, (Hp.join_apart.1 ha).1, ((Hp.inW_join h2).1 hw).1⟩
  · refine hs.fresh _ ?_
    have hb : Nat.blt i nx0 = false := by
      cases e : Nat.blt i nx0 with
      | false => rfl
      | true => rw [Nat.blt_eq] at e; have := h.nx.1; omega
    simp only [mkF, hb, cond_false]
    cases hl : ren.lookup i with
    | none => simp
    | some j =>
      exfalso
      have hm : (i, j) ∈ ren := by
        clear h hs
        induction ren with
        | nil => simp at hl
        | cons q ren ih =>
          obtain ⟨k, l⟩ := q
          rw [List.lookup_cons] at hl
          split at hl
          · rename_i e; simp at e; cases hl; subst e; simp
          · exact List.mem_cons_of_mem _ (ih hl)
      have := List.all_eq_true.1 h.nx.2 (i, j) hm
      simp only [Nat.blt_eq] at this
      omega

/-- A loop: 'I' what holds at the head of each round; 'Q' what holds behind the loop. -/
theorem loop_rule [Plain U] {C : Cfg P U} (hC : C.ok) {id f n : Nat} {body : Code} {ι : Type} {L : LoopS U} (nx0 : St U → Nat) (I : St U → ι → St U) (μ : St U → ι → Nat) (Post : St U → EX → St U → Prop)
    (hL : ∀ (M : Goal U) (s : St U) (K : EX → St U → Out U), (L s K).holds M → s.nx ≤ nx0 s ∧ (∃ x ren, Wk (nx0 s) ren s (I s x)) ∧ ∀ e s', Post s e s' → (K e s').holds M)
    (hbody : ∀ (s : St U) (x : ι), (runCode C n f body (I s x) Out.stop).holds ⟨fun e s' => match e with
      | .nx => ∃ y ren, Wk (nx0 s) ren s' (I s y) ∧ μ s y < μ s x
      | .rt => ∃ s'' ren, Wk (nx0 s) ren s' s'' ∧ Post s .rt s''
      | .ex j => ∃ s'' ren, Wk (nx0 s) ren s' s'' ∧ Post s (if j = id then .nx else .ex j) s'', fun _ _ _ => False⟩) : LoopOk P id body L := by
  intro M s K H β r a w hs Q hQ
  obtain ⟨hnx, ⟨x0, ren0, hw0⟩, hpost⟩ := hL M s K H
  have hdom : ∀ i x, r i = some x → i < nx0 s := fun i x e => by
    rcases Nat.lt_or_ge i (nx0 s) with h | h
    · exact h
    · rw [hs.fresh i (by omega)] at e; cases e
  obtain ⟨r0, g1, g2, g3⟩ := hw0.ok hs
  refine wp_block ?_
  have fin : ∀ (e : EX) (s'' : St U) (r1 r' : Nm) (a' : Act) (w' : World), Post s e s'' → (∀ i x, i < nx0 s → r i = some x → r1 i = some x) → r1.le r' ∨ (∀ i x, i < nx0 s → r1 i = some x → r' i = some x) → SatS β r' s'' a' w' → Fr s s'' → Q (exOf e) a' w' := by
    intro e s'' r1 r' a' w' hp h1 h2 h3 h4
    refine hQ e s'' r' a' w' (hpost e s'' hp) (fun i x e => ?_) h3 h4
    rcases h2 with h2 | h2
    · exact h2 i x (h1 i x (hdom i x e) e)
    · exact h2 i x (hdom i x e) (h1 i x (hdom i x e) e)
  -- rounds, by the measure
  have key : ∀ (m : Nat) (x : ι) (r1 : Nm) (a1 : Act) (w1 : World), μ s x ≤ m → SatS β r1 (I s x) a1 w1 → (∀ i x, i < nx0 s → r i = some x → r1 i = some x) → Fr s (I s x) →
      Code.rounds P body (Exit.inBlock id Q) (m + 1) a1 w1 := by
    intro m
    induction m with
    | zero =>
      intro x r1 a1 w1 hm hs1 hr1 hf1
      refine runCode_sound hC n f body (I s x) Out.stop (hbody s x) β r1 a1 w1 hs1 _ ?_
      intro e s' r' a' w' hR hle hs' hf
      cases e with
      | nx => obtain ⟨y, ren, hwk, hlt⟩ := hR; omega
      | rt =>
        obtain ⟨s'', ren, hwk, hp⟩ := hR
        obtain ⟨r'', k1, k2, k3⟩ := hwk.ok hs'
        exact fin .rt s'' r1 r'' a' w' hp hr1 (.inr (fun i x hi e => k1 i x hi (hle i x e))) k2 ((hf1.trans hf).trans k3)
      | ex j =>
        obtain ⟨s'', ren, hwk, hp⟩ := hR
        obtain ⟨r'', k1, k2, k3⟩ := hwk.ok hs'
        show (if j = id then Q .normal a' w' else Q (.exit j) a' w')
        split
        · rename_i e; rw [if_pos e] at hp; exact fin .nx s'' r1 r'' a' w' hp hr1 (.inr (fun i x hi e => k1 i x hi (hle i x e))) k2 ((hf1.trans hf).trans k3)
        · rename_i e; rw [if_neg e] at hp; exact fin (.ex j) s'' r1 r'' a' w' hp hr1 (.inr (fun i x hi e => k1 i x hi (hle i x e))) k2 ((hf1.trans hf).trans k3)
    | succ m ih =>
      intro x r1 a1 w1 hm hs1 hr1 hf1
      refine runCode_sound hC n f body (I s x) Out.stop (hbody s x) β r1 a1 w1 hs1 _ ?_
      intro e s' r' a' w' hR hle hs' hf
      cases e with
      | nx =>
        obtain ⟨y, ren, hwk, hlt⟩ := hR
        obtain ⟨r'', k1, k2, k3⟩ := hwk.ok hs'
        exact ih y r'' a' w' (by omega) k2 (fun i x hi e => k1 i x hi (hle i x (hr1 i x hi e))) ((hf1.trans hf).trans k3)
      | rt =>
        obtain ⟨s'', ren, hwk, hp⟩ := hR
        obtain ⟨r'', k1, k2, k3⟩ := hwk.ok hs'
        exact fin .rt s'' r1 r'' a' w' hp hr1 (.inr (fun i x hi e => k1 i x hi (hle i x e))) k2 ((hf1.trans hf).trans k3)
      | ex j =>
        obtain ⟨s'', ren, hwk, hp⟩ := hR
        obtain ⟨r'', k1, k2, k3⟩ := hwk.ok hs'
        show (if j = id then Q .normal a' w' else Q (.exit j) a' w')
        split
        · rename_i e; rw [if_pos e] at hp; exact fin .nx s'' r1 r'' a' w' hp hr1 (.inr (fun i x hi e => k1 i x hi (hle i x e))) k2 ((hf1.trans hf).trans k3)
        · rename_i e; rw [if_neg e] at hp; exact fin (.ex j) s'' r1 r'' a' w' hp hr1 (.inr (fun i x hi e => k1 i x hi (hle i x e))) k2 ((hf1.trans hf).trans k3)
  exact wp_loop_rounds _ (key (μ s x0) x0 r0 a w (Nat.le_refl _) g2 g1 g3)

/-- What holds of a run holds of it with a weaker goal. -/
theorem Out.mono {M1 M2 : Goal U} (hQ : ∀ e s, M1.Q e s → M2.Q e s) (hF : ∀ v h n, M1.F v h n → M2.F v h n) : ∀ {o : Out U}, o.holds M1 → o.holds M2
  | .fin v h n, hh => hF v h n hh
  | .stop e s, hh => hQ e s hh
  | .ite _ _ _, hh => ⟨fun hb => Out.mono hQ hF (hh.1 hb), fun hb => Out.mono hQ hF (hh.2 hb)⟩
  | .need _ _, hh => ⟨hh.1, Out.mono hQ hF hh.2⟩
  | .asm _ _, hh => fun hp => Out.mono hQ hF (hh hp)
  | .all _ _, hh => fun x => Out.mono hQ hF (hh x)
  | .ex _ _, ⟨x, hh⟩ => ⟨x, Out.mono hQ hF hh⟩
  | .both _ _, hh => ⟨Out.mono hQ hF hh.1, Out.mono hQ hF hh.2⟩
  | .bad _, hh => hh

theorem Out.weak {M1 M2 : Goal U} {o : Out U} (h : o.holds M1) (hQ : ∀ e s, M1.Q e s → M2.Q e s) (hF : ∀ v h n, M1.F v h n → M2.F v h n) : o.holds M2 := Out.mono hQ hF h

/-- A loop as the caller sees it: some state of the family at its head; any of the ends behind it. -/
def loopS {Pa Ya Za : Type} (nx0 : Nat) (I0 : Pa → St U) (c1 : Pa → Ya → Prop) (F1 : Pa → Ya → St U) (c2 : Pa → Za → Prop) (F2 : Pa → Za → St U) : LoopS U := fun s K =>
  .ex Pa fun p => .ex (List (Nat × Nat)) fun ren => .need (s.nx ≤ nx0 ∧ Wk nx0 ren s (I0 p))
    (.both (.all Ya fun y => .asm (c1 p y) (K .nx (F1 p y))) (.all Za fun y => .asm (c2 p y) (K .rt (F2 p y))))
def loopN {Pa Ya : Type} (nx0 : Nat) (I0 : Pa → St U) (c1 : Pa → Ya → Prop) (F1 : Pa → Ya → St U) : LoopS U := fun s K =>
  .ex Pa fun p => .ex (List (Nat × Nat)) fun ren => .need (s.nx ≤ nx0 ∧ Wk nx0 ren s (I0 p)) (.all Ya fun y => .asm (c1 p y) (K .nx (F1 p y)))

theorem loopS_ok [Plain U] {C : Cfg P U} (hC : C.ok) {id f n : Nat} {body : Code} {Pa ι Ya Za : Type} (nx0 : Nat) (I : Pa → ι → St U) (J : Pa → ι → Prop) (x0 : Pa → ι) (μ : Pa → ι → Nat) (c1 : Pa → Ya → Prop) (F1 : Pa → Ya → St U) (c2 : Pa → Za → Prop) (F2 : Pa → Za → St U)
    (hJ : ∀ p, J p (x0 p))
    (hbody : ∀ (p : Pa) (x : ι), J p x → (runCode C n f body (I p x) Out.stop).holds ⟨fun e s' => match e with
      | .nx => ∃ y ren, Wk nx0 ren s' (I p y) ∧ J p y ∧ μ p y < μ p x
      | .rt => ∃ y ren, Wk nx0 ren s' (F2 p y) ∧ c2 p y
      | .ex j => j = id ∧ ∃ y ren, Wk nx0 ren s' (F1 p y) ∧ c1 p y, fun _ _ _ => False⟩) : LoopOk P id body (loopS nx0 (fun p => I p (x0 p)) c1 F1 c2 F2) := by
  intro M s K ⟨p, H⟩
  refine loop_rule hC (ι := {x : ι // J p x}) (n := n) (f := f) (L := fun s K => .ex (List (Nat × Nat)) fun ren => .need (s.nx ≤ nx0 ∧ Wk nx0 ren s (I p (x0 p)))
    (.both (.all Ya fun y => .asm (c1 p y) (K .nx (F1 p y))) (.all Za fun y => .asm (c2 p y) (K .rt (F2 p y))))) (fun _ => nx0) (fun _ x => I p x.1) (fun _ x => μ p x.1)
    (fun _ e s' => (e = .nx ∧ ∃ y, s' = F1 p y ∧ c1 p y) ∨ (e = .rt ∧ ∃ y, s' = F2 p y ∧ c2 p y)) ?_ ?_ M s K H
  · rintro M s K ⟨ren, ⟨h1, h2⟩, h3, h4⟩
    refine ⟨h1, ⟨⟨_, hJ p⟩, ren, h2⟩, ?_⟩
    rintro e s' (⟨rfl, y, rfl, hy⟩ | ⟨rfl, y, rfl, hy⟩)
    · exact h3 y hy
    · exact h4 y hy
  · intro _ x
    refine Out.weak (hbody p x.1 x.2) (fun e s' hh => ?_) (fun _ _ _ hh => hh)
    cases e with
    | nx => obtain ⟨y, ren, hw, hj, hm⟩ := hh; exact ⟨⟨y, hj⟩, ren, hw, hm⟩
    | rt => obtain ⟨y, ren, hw, hc⟩ := hh; exact ⟨_, ren, hw, .inr ⟨rfl, y, rfl, hc⟩⟩
    | ex j => obtain ⟨rfl, y, ren, hw, hc⟩ := hh; exact ⟨_, ren, hw, .inl ⟨if_pos rfl, y, rfl, hc⟩⟩

theorem loopN_ok [Plain U] {C : Cfg P U} (hC : C.ok) {id f n : Nat} {body : Code} {Pa ι Ya : Type} (nx0 : Nat) (I : Pa → ι → St U) (J : Pa → ι → Prop) (x0 : Pa → ι) (μ : Pa → ι → Nat) (c1 : Pa → Ya → Prop) (F1 : Pa → Ya → St U)
    (hJ : ∀ p, J p (x0 p))
    (hbody : ∀ (p : Pa) (x : ι), J p x → (runCode C n f body (I p x) Out.stop).holds ⟨fun e s' => match e with
      | .nx => ∃ y ren, Wk nx0 ren s' (I p y) ∧ J p y ∧ μ p y < μ p x
      | .rt => False
      | .ex j => j = id ∧ ∃ y ren, Wk nx0 ren s' (F1 p y) ∧ c1 p y, fun _ _ _ => False⟩) : LoopOk P id body (loopN nx0 (fun p => I p (x0 p)) c1 F1) := by
  intro M s K ⟨p, ren, h1, h2⟩
  refine loopS_ok (f := f) (n := n) hC nx0 I J x0 μ c1 F1 (fun _ (_ : Empty) => False) (fun _ e => e.elim) hJ ?_ M s K ⟨p, ren, h1, h2, fun e => e.elim⟩
  intro p x hx
  refine Out.weak (hbody p x hx) (fun e s' hh => ?_) (fun _ _ _ hh => hh)
  cases e with
  | nx => exact hh
  | rt => exact hh.elim
  | ex j => exact hh

theorem tl_ok {l l' : List Nat} (h : (l.all fun i => l'.any (Nat.beq i)) = true) : ∀ i, i ∈ l → i ∈ l' := by
  intro i hi
  obtain ⟨j, hj, e⟩ := List.any_eq_true.1 (List.all_eq_true.1 h i hi)
  rw [Nat.eq_of_beq_eq_true e]; exact hj
theorem in_ok {i : Nat} {l : List Nat} (h : l.any (Nat.beq i) = true) : i ∈ l := by
  obtain ⟨j, hj, e⟩ := List.any_eq_true.1 h
  rw [Nat.eq_of_beq_eq_true e]; exact hj
theorem BSub.of_eq {o : Option (Blk U)} {B : Blk U} (h : o = some B) : BSub o B := h ▸ BSub.same B

end
end Sx
end Go.Proofs.Ytemcdjdglcceiaa
