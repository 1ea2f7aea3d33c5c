/-
  Objects: a block that stands for several; what a function does to one object and rows of others, seen from outside.
-/
import Derived.Test.YtemcdjdglcceiaaSxR
namespace Go.Proofs.Ytemcdjdglcceiaa
namespace Sx
open Go

section
variable {U : Uni} {P : Program}

/-! ## the names in a value -/
mutual
def AV.on (p : Nat → Bool) : AV → Bool
  | .ptr id _ => p id
  | .ptrR id _ _ _ => p id
  | .sl _ id _ _ _ _ => p id
  | .mp id => p id
  | .agg cs => AV.onL p cs
  | .tup cs => AV.onL p cs
  | .fn _ fs cs => AV.onL p fs && AV.onL p cs
  | .ifc _ x => AV.on p x
  | .raw _ => true
  | .int .. => true
  | .lit .. => true
  | .tt => true
  | .ff => true
  | .bool _ => true
  | .may .. => true
  | .nilP => true
  | .nilS => true
  | .nilF => true
  | .nilM => true
  | .nilI => true
  | .und => true
def AV.onL (p : Nat → Bool) : List AV → Bool
  | [] => true
  | c :: cs => AV.on p c && AV.onL p cs
end

mutual
theorem rel_on {p : Nat → Bool} {r s : Nm} (h : ∀ i, p i = true → r i = s i) : ∀ (x : AV) (v : Value), x.on p = true → rel r x v → rel s x v
  | .ptr id _, _, q, ⟨x, e, k⟩ => ⟨x, (h id q) ▸ e, k⟩
  | .ptrR id _ _ _, _, q, ⟨x, e, k⟩ => ⟨x, (h id q) ▸ e, k⟩
  | .sl _ id _ _ _ _, _, q, ⟨a, e, l, k⟩ => ⟨a, e, l, k.imp (fun h => h) fun ⟨x, e, k⟩ => ⟨x, (h id q) ▸ e, k⟩⟩
  | .mp id, _, q, ⟨x, e, k⟩ => ⟨x, (h id q) ▸ e, k⟩
  | .agg cs, _, q, ⟨vs, e, k⟩ => ⟨vs, relL_on h cs vs q e, k⟩
  | .tup cs, _, q, ⟨vs, e, k⟩ => ⟨vs, relL_on h cs vs q e, k⟩
  | .fn _ fs cs, _, q, ⟨us, vs, e, e', k⟩ => by
    simp only [AV.on, Bool.and_eq_true] at q
    exact ⟨us, vs, relL_on h fs us q.1 e, relL_on h cs vs q.2 e', k⟩
  | .ifc _ x, _, q, ⟨u, e, k⟩ => ⟨u, rel_on h x u q e, k⟩
  | .raw _, _, _, e => e
  | .int .., _, _, e => e
  | .lit .., _, _, e => e
  | .tt, _, _, e => e
  | .ff, _, _, e => e
  | .bool _, _, _, e => e
  | .may .., _, _, e => e
  | .nilP, _, _, e => e
  | .nilS, _, _, e => e
  | .nilF, _, _, e => e
  | .nilM, _, _, e => e
  | .nilI, _, _, e => e
  | .und, _, _, e => e
theorem relL_on {p : Nat → Bool} {r s : Nm} (h : ∀ i, p i = true → r i = s i) : ∀ (x : List AV) (v : List Value), AV.onL p x = true → relL r x v → relL s x v
  | [], _, _, e => e
  | c :: cs, _, q, ⟨v, us, e, k, l⟩ => by
    simp only [AV.onL, Bool.and_eq_true] at q
    exact ⟨v, us, e, rel_on h c v q.1 k, relL_on h cs us q.2 l⟩
end

mutual
theorem rel_ren' {r : Nm} {f : Nat → Nat} : ∀ (x : AV) (v : Value), rel (fun i => r (f i)) x v → rel r (x.ren f) v
  | .ptr .., _, h => h
  | .ptrR .., _, h => h
  | .sl .., _, h => h
  | .mp _, _, h => h
  | .agg cs, _, ⟨vs, h, e⟩ => ⟨vs, relL_ren' cs vs h, e⟩
  | .tup cs, _, ⟨vs, h, e⟩ => ⟨vs, relL_ren' cs vs h, e⟩
  | .fn _ fs cs, _, ⟨us, vs, h, k, e⟩ => ⟨us, vs, relL_ren' fs us h, relL_ren' cs vs k, e⟩
  | .ifc _ x, _, ⟨u, h, e⟩ => ⟨u, rel_ren' x u h, e⟩
  | .raw _, _, h => h
  | .int .., _, h => h
  | .lit .., _, h => h
  | .tt, _, h => h
  | .ff, _, h => h
  | .bool _, _, h => h
  | .may .., _, h => h
  | .nilP, _, h => h
  | .nilS, _, h => h
  | .nilF, _, h => h
  | .nilM, _, h => h
  | .nilI, _, h => h
  | .und, _, h => h
theorem relL_ren' {r : Nm} {f : Nat → Nat} : ∀ (x : List AV) (v : List Value), relL (fun i => r (f i)) x v → relL r (AV.renL f x) v
  | [], _, h => h
  | c :: cs, _, ⟨v, us, e, h, k⟩ => ⟨v, us, e, rel_ren' c v h, relL_ren' cs us k⟩
end

def noName (_ : Nat) : Bool := false
theorem rel_closed {r s : Nm} {x : AV} {v : Value} (h : x.on noName = true) (e : rel r x v) : rel s x v := rel_on (fun _ h => by simp [noName] at h) x v h e
theorem relL_closed {r s : Nm} {x : List AV} {v : List Value} (h : AV.onL noName x = true) (e : relL r x v) : relL s x v := relL_on (fun _ h => by simp [noName] at h) x v h e

class Bare (U : Uni) : Prop where
  enc : ∀ k a, AV.onL noName ((U.enc k).enc a) = true
theorem enc_bare [Bare U] {r s : Nm} {k : U.K} {a : U.El k} {vs : List Value} (h : relL r ((U.enc k).enc a) vs) : relL s ((U.enc k).enc a) vs := relL_closed (Bare.enc k a) h
theorem relM_bare [Bare U] {k : U.K} {kk : IntKind} {r s : Nm} : ∀ {m : List (Int × U.El k)} {es : List MapEntry}, relM (U.enc k) kk r m es → relM (U.enc k) kk s m es
  | [], _, h => h
  | (_, _) :: _, _, ⟨e, fs, a, b, c, d⟩ => by
    refine ⟨e, fs, a, b, ?_, relM_bare d⟩
    cases hg : (U.enc k).agg with
    | true => rw [hg] at c; obtain ⟨vs, h1, h2⟩ := c; exact ⟨vs, enc_bare h1, h2⟩
    | false => rw [hg] at c; exact enc_bare (r := r) c

def Blk.bare : Blk U → Bool
  | .cells _ cs => AV.onL noName cs
  | .arr .. => true
  | .ro .. => false
  | .mp .. => true
  | .obj _ => true
def Blk.noRo : Blk U → Bool
  | .ro .. => false
  | _ => true
theorem Blk.den_at [Bare U] {G G' : Hp} {r s : Nm} {i j : Nat} {H : Hp} {B : Blk U} (hb : B.bare = true) (h : r i = s j) (d : B.den G r i H) : B.den G' s j H := by
  cases B with
  | cells T cs => obtain ⟨b, vs, h1, h2, h3⟩ := d; exact ⟨b, vs, h ▸ h1, relL_closed hb h2, h3⟩
  | arr T k xs sp =>
    rcases d with d | ⟨b, c, h1, h2, h3, h4, h5⟩
    · exact .inl d
    · exact .inr ⟨b, c, h ▸ h1, fun i x e => enc_bare (h2 i x e), h3, h4, h5⟩
  | ro k xs => cases hb
  | mp kk k m => obtain ⟨b, es, cl, h1, h2, h3⟩ := d; exact ⟨b, es, cl, h ▸ h1, relM_bare h2, h3⟩
  | obj x => obtain ⟨b, h1, h2⟩ := d; exact ⟨b, h ▸ h1, h2⟩
theorem Blk.den_G {G G' : Hp} {r : Nm} {i : Nat} {H : Hp} {B : Blk U} (hb : B.noRo = true) (d : B.den G r i H) : B.den G' r i H := by
  cases B with
  | ro k xs => cases hb
  | cells T cs => exact d
  | arr T k xs sp => exact d
  | mp kk k m => exact d
  | obj x => exact d
theorem Blk.den_nil {G : Hp} {r : Nm} {i : Nat} {H : Hp} {B : Blk U} (d : B.den Hp.nil r i H) : B.den G r i H := by
  cases B with
  | ro k xs =>
    obtain ⟨h1, h2⟩ := d
    exact ⟨fun i x e => (by obtain ⟨b, o, c, T, fz, _, a2, _⟩ := h1 i x e; cases a2), h2⟩
  | cells T cs => exact d
  | arr T k xs sp => exact d
  | mp kk k m => exact d
  | obj x => exact d
theorem Heap.den_G {G G' : Hp} {r : Nm} : ∀ {h : Heap U} {H : Hp}, (h.all fun q => q.2.noRo) = true → h.den G r H → h.den G' r H
  | [], _, _, d => d
  | (id, B) :: h, H, hb, ⟨H1, H2, a, b, c, d⟩ => by
    simp only [List.all_cons, Bool.and_eq_true] at hb
    exact ⟨H1, H2, Blk.den_G hb.1 a, Heap.den_G hb.2 b, c, d⟩
theorem Heap.den_nil {G : Hp} {r : Nm} : ∀ {h : Heap U} {H : Hp}, h.den Hp.nil r H → h.den G r H
  | [], _, d => d
  | (_, _) :: _, _, ⟨H1, H2, a, b, c, d⟩ => ⟨H1, H2, Blk.den_nil a, Heap.den_nil b, c, d⟩
theorem Heap.den_append {G : Hp} {r : Nm} : ∀ {h l : Heap U} {H K : Hp}, h.den G r H → l.den G r K → H.apart K → (h ++ l).den G r (H.join K)
  | [], l, H, K, d, e, _ => by
    have : H = Hp.nil := d
    subst this; exact e
  | (id, B) :: h, l, H, K, ⟨H1, H2, a, b, c, d⟩, e, ha => by
    subst d
    have q := Hp.join_apart.1 ha
    refine ⟨H1, H2.join K, a, Heap.den_append b e q.2, Hp.apart_join.2 ⟨c, q.1⟩, by rw [Hp.join_assoc]⟩

/-! ## rows among the arguments -/
def RowsIn {α : Type} (A : Hp) (E : Enc α) (b o : Nat) (ys : List α) : Prop :=
  ∀ i y, ys[i]? = some y → ∃ c T fz r, A b = some (.cells c T fz) ∧ relL r (E.enc y) ((c.toList.drop (o + i * E.w)).take E.w)

def evalRows (k : U.K) (x : AV) (h : Heap U) (K : List (U.El k) → Nat → Out U) : Out U :=
  match x with
  | .nilS => K [] 0
  | .sl _ id st w len cap => (match h.get id with
    | some (.cells _ cs) => bif Nat.beq w (U.enc k).w then (match chunkDec (U.enc k) len ((cs.drop (st * (U.enc k).w)).take (len * (U.enc k).w)) with | some ys => K ys cap | none => .bad 420) else .bad 421
    | some (.arr _ k2 xs _) => (match U.dk k2 k with
      | .isTrue hk => bif Nat.beq w (U.enc k).w then .need (st + len ≤ xs.length) (K ((castK hk xs).drop st |>.take len) cap) else .bad 422
      | .isFalse _ => .bad 423)
    | some (.ro k2 xs) => (match U.dk k2 k with
      | .isTrue hk => bif Nat.beq w (U.enc k).w then .need (st + len ≤ xs.length) (K ((castK hk xs).drop st |>.take len) cap) else .bad 424
      | .isFalse _ => .bad 425)
    | _ => .bad 426)
  | _ => .bad 427

theorem rowsIn_sub {α : Type} {A : Hp} {E : Enc α} {b o : Nat} {xs : List α} {st len : Nat} (h : ∀ i x, xs[i]? = some x → ∃ c T fz r, A b = some (.cells c T fz) ∧ relL r (E.enc x) ((c.toList.drop (o + i * E.w)).take E.w)) :
    RowsIn A E b (o + st * E.w) ((xs.drop st).take len) := by
  intro i y hi
  rw [List.getElem?_take] at hi
  split at hi
  · rw [List.getElem?_drop] at hi
    obtain ⟨c, T, fz, r, h1, h2⟩ := h _ y hi
    refine ⟨c, T, fz, r, h1, ?_⟩
    rw [Nat.add_mul] at h2
    rwa [Nat.add_assoc]
  · cases hi

theorem evalRows_sound {M : Goal U} {k : U.K} {x : AV} {h : Heap U} {K : List (U.El k) → Nat → Out U} (H : (evalRows k x h K).holds M) :
    ∃ ys cap, (K ys cap).holds M ∧ ∀ (G : Hp) (r : Nm) (A : Hp) (u : Value), rel r x u → h.den G r A → A.apart G →
      ∃ a, u = .slice a ys.length cap ∧ ys.length ≤ cap ∧ (cap = 0 ∨ ∃ b o, a = some ⟨b, o, none⟩ ∧ RowsIn (A.join G) (U.enc k) b o ys) := by
  unfold evalRows at H
  split at H
  · refine ⟨[], 0, H, fun G r A u hu _ _ => ?_⟩
    simp only [rel] at hu; subst hu; exact ⟨none, rfl, Nat.le_refl _, .inl rfl⟩
  · rename_i kn id st wd len cap
    split at H
    · rename_i T cs hB
      rw [holds_bif] at H
      split at H
      · rename_i hc
        have hwd := Nat.eq_of_beq_eq_true hc
        subst hwd
        split at H
        · rename_i ys hys
          refine ⟨ys, cap, H, fun G r A u hu hd hG => ?_⟩
          obtain ⟨a, rfl, hlc, ha⟩ := hu
          obtain ⟨H1, H2, hq, _, rfl, _, _⟩ := Heap.focus hd hB
          obtain ⟨b, vs, hb, hrl, rfl⟩ := hq
          obtain ⟨h1, h2, h3⟩ := chunkDec_sound hys (relL_take (relL_drop hrl _) _)
          refine ⟨a, by rw [h1], by rw [h1]; exact hlc, ha.imp (fun h => h) fun ⟨y, hy, e⟩ => ?_⟩
          rw [hy] at hb; cases hb
          refine ⟨b, _, e, fun i y hi => ⟨vs.toArray, T, (0, 0), r, ?_, ?_⟩⟩
          · simp [Hp.join, Hp.one]
          · have hlt : i < len := by have := (List.getElem?_eq_some_iff.1 hi).1; omega
            have hm : i * (U.enc k).w + (U.enc k).w ≤ len * (U.enc k).w := by
              have := Nat.mul_le_mul_right (U.enc k).w (show i + 1 ≤ len by omega)
              rwa [Nat.add_mul, Nat.one_mul] at this
            have h4 := h3 i y hi
            rw [List.drop_take, List.take_take, Nat.min_eq_left (by omega), List.drop_drop] at h4
            simpa using h4
        · exact H.elim
      · exact H.elim
    · rename_i T k2 xs sp hB
      split at H
      · rename_i hk _
        rw [holds_bif] at H
        split at H
        · rename_i hwd
          have hwd := Nat.eq_of_beq_eq_true hwd
          obtain ⟨hle, H⟩ := H
          subst hk; subst hwd
          have hlen : (List.take len (List.drop st (castK rfl xs))).length = len := by simp [castK]; omega
          refine ⟨_, cap, H, fun G r A u hu hd hG => ?_⟩
          obtain ⟨a, rfl, hlc, ha⟩ := hu
          refine ⟨a, by rw [hlen], by rw [hlen]; exact hlc, ha.imp (fun h => h) fun ⟨y, hy, e⟩ => ?_⟩
          obtain ⟨H1, H2, hq, _, rfl, _, _⟩ := Heap.focus hd hB
          rcases hq with ⟨hz, _⟩ | ⟨b, c, hb, hrow, _, _, rfl⟩
          · have hx : xs = [] := List.eq_nil_of_length_eq_zero (by omega)
            subst hx
            exact ⟨_, _, e, fun i y hi => by simp [castK] at hi⟩
          · rw [hy] at hb; cases hb
            exact ⟨b, _, e, rowsIn_sub (fun i x hi => ⟨c, T, (0, 0), r, by simp [Hp.join, Hp.one], hrow i x hi⟩)⟩
        · exact H.elim
      · exact H.elim
    · rename_i k2 xs hB
      split at H
      · rename_i hk _
        rw [holds_bif] at H
        split at H
        · rename_i hwd
          have hwd := Nat.eq_of_beq_eq_true hwd
          obtain ⟨hle, H⟩ := H
          subst hk; subst hwd
          have hlen : (List.take len (List.drop st (castK rfl xs))).length = len := by simp [castK]; omega
          refine ⟨_, cap, H, fun G r A u hu hd hG => ?_⟩
          obtain ⟨a, rfl, hlc, ha⟩ := hu
          refine ⟨a, by rw [hlen], by rw [hlen]; exact hlc, ha.imp (fun h => h) fun ⟨y, hy, e⟩ => ?_⟩
          obtain ⟨H1, H2, hq, _, rfl, _, _⟩ := Heap.focus hd hB
          obtain ⟨hall, rfl⟩ := hq
          refine ⟨_, _, e, rowsIn_sub (fun i x hi => ?_)⟩
          obtain ⟨b, o, c, T, fz, hb, hg, hrr⟩ := hall i x hi
          rw [hy] at hb; cases hb
          exact ⟨c, T, fz, r, by rw [Hp.join_comm hG]; simp [Hp.join, hg], hrr⟩
        · exact H.elim
      · exact H.elim
    · exact H.elim
  · exact H.elim

inductive Sg (U : Uni) where
  | int (k : IntKind) | bool | val | el (k : U.K) | rows (k : U.K)
inductive Arg (U : Uni) where
  | int (k : IntKind) (n : Int)
  | bool (b : Bool)
  | val (v : AV)
  | el (k : U.K) (a : U.El k)
  | rows (k : U.K) (ys : List (U.El k)) (cap : Nat)

def evalArg (g : Sg U) (x : AV) (h : Heap U) (K : Arg U → Out U) : Out U :=
  match g with
  | .int k => (match x.num with | some (k', n, _) => bif decide (k' = k) then K (.int k n) else .bad 433 | none => .bad 434)
  | .bool => (match x.bl with | some (b, _) => K (.bool b) | none => .bad 435)
  | .val => bif x.on noName then K (.val x) else .bad 430
  | .el k => (match x with | .agg cs => (match (U.enc k).dec cs with | some a => K (.el k a) | none => .bad 436) | _ => .bad 437)
  | .rows k => evalRows k x h fun ys cap => K (.rows k ys cap)
def evalArgs : List (Sg U) → List AV → Heap U → (List (Arg U) → Out U) → Out U
  | [], [], _, K => K []
  | g :: sg, x :: xs, h, K => evalArg g x h fun a => evalArgs sg xs h fun as => K (a :: as)
  | [], _ :: _, _, _ => .bad 431
  | _ :: _, [], _, _ => .bad 432

def Arg.av (j : Nat) : Arg U → AV
  | .int k n => .int k n
  | .bool b => .bool b
  | .val v => v
  | .el k a => .agg ((U.enc k).enc a)
  | .rows k ys cap => .sl false j 0 (U.enc k).w ys.length cap
def argAV : Nat → List (Arg U) → List AV
  | _, [] => []
  | j, a :: as => a.av j :: argAV (j + 1) as
def argHeap : Nat → List (Arg U) → Heap U
  | _, [] => []
  | j, .rows k ys _ :: as => (j, .ro k ys) :: argHeap (j + 1) as
  | j, .int .. :: as => argHeap (j + 1) as
  | j, .bool _ :: as => argHeap (j + 1) as
  | j, .val _ :: as => argHeap (j + 1) as
  | j, .el .. :: as => argHeap (j + 1) as

theorem evalArg_sound [Bare U] {M : Goal U} {g : Sg U} {x : AV} {h : Heap U} {K : Arg U → Out U} (H : (evalArg g x h K).holds M) :
    ∃ a, (K a).holds M ∧ ∀ (G : Hp) (r : Nm) (A : Hp) (u : Value) (j : Nat) (rt : Nm), rel r x u → h.den G r A → A.apart G → Fresh rt j →
      ∃ r0, rt.le r0 ∧ Fresh r0 (j + 1) ∧ rel r0 (a.av j) u ∧ ∀ as, (∀ s, r0.le s → (argHeap (j + 1) as).den (A.join G) s Hp.nil → (argHeap j (a :: as)).den (A.join G) s Hp.nil) := by
  have plain : ∀ (rt : Nm) (j : Nat), Fresh rt j → Fresh rt (j + 1) := fun rt j hf i hi => hf i (by omega)
  unfold evalArg at H
  split at H
  · split at H
    · rename_i k' n l hx
      rw [holds_bif] at H
      split at H
      · rename_i hk
        simp only [decide_eq_true_eq] at hk; subst hk
        exact ⟨_, H, fun G r A u j rt hu _ _ hf => ⟨rt, Nm.le.refl rt, plain rt j hf, rel_num hx hu, fun as s _ d => d⟩⟩
      · exact H.elim
    · exact H.elim
  · split at H
    · rename_i b l hx
      exact ⟨_, H, fun G r A u j rt hu _ _ hf => ⟨rt, Nm.le.refl rt, plain rt j hf, rel_bl hx hu, fun as s _ d => d⟩⟩
    · exact H.elim
  · rw [holds_bif] at H
    split at H
    · rename_i hx
      exact ⟨_, H, fun G r A u j rt hu _ _ hf => ⟨rt, Nm.le.refl rt, plain rt j hf, rel_closed hx hu, fun as s _ d => d⟩⟩
    · exact H.elim
  · rename_i k
    split at H
    · rename_i cs
      split at H
      · rename_i a ha
        refine ⟨_, H, fun G r A u j rt hu _ _ hf => ⟨rt, Nm.le.refl rt, plain rt j hf, ?_, fun as s _ d => d⟩⟩
        obtain ⟨vs, h1, rfl⟩ := hu
        exact ⟨vs, enc_bare ((U.enc k).back _ _ ha r vs h1), rfl⟩
      · exact H.elim
    · exact H.elim
  · rename_i k
    obtain ⟨ys, cap, H, hrows⟩ := evalRows_sound H
    refine ⟨_, H, fun G r A u j rt hu hd ha hf => ?_⟩
    obtain ⟨a, rfl, hle, hcase⟩ := hrows G r A u hu hd ha
    rcases hcase with hz | ⟨b, o, rfl, hin⟩
    · subst hz
      refine ⟨rt, Nm.le.refl rt, plain rt j hf, ⟨a, rfl, hle, .inl rfl⟩, fun as s _ d => ⟨Hp.nil, Hp.nil, ⟨fun i y hi => ?_, rfl⟩, d, Hp.nil_apart _, rfl⟩⟩
      have : ys = [] := List.eq_nil_of_length_eq_zero (by omega)
      subst this; simp at hi
    · refine ⟨rt.put j (b, o), Nm.le_put (hf j (Nat.le_refl _)), fun i hi => by unfold Nm.put; rw [if_neg (by omega)]; exact hf i (by omega),
        ⟨_, rfl, hle, .inr ⟨_, Nm.put_self rt j (b, o), by simp⟩⟩, fun as s hs d => ⟨Hp.nil, Hp.nil, ⟨fun i y hi => ?_, rfl⟩, d, Hp.nil_apart _, rfl⟩⟩
      obtain ⟨c, T, fz, r1, g1, g2⟩ := hin i y hi
      exact ⟨b, o, c, T, fz, hs _ _ (Nm.put_self rt j (b, o)), g1, enc_bare g2⟩

theorem evalArgs_sound [Bare U] {M : Goal U} : ∀ {sg : List (Sg U)} {xs : List AV} {h : Heap U} {K : List (Arg U) → Out U}, (evalArgs sg xs h K).holds M →
    ∃ as, (K as).holds M ∧ ∀ (G : Hp) (r : Nm) (A : Hp) (us : List Value) (base : Nat) (rt : Nm), relL r xs us → h.den G r A → A.apart G → Fresh rt base →
      ∃ r0, rt.le r0 ∧ Fresh r0 (base + as.length) ∧ relL r0 (argAV base as) us ∧ (argHeap base as).den (A.join G) r0 Hp.nil
  | [], [], h, K, H => ⟨[], H, fun G r A us base rt hr _ _ hf => ⟨rt, Nm.le.refl rt, hf, hr, rfl⟩⟩
  | g :: sg, x :: xs, h, K, H => by
    obtain ⟨a, H, h1⟩ := evalArg_sound H
    obtain ⟨as, hK, ih⟩ := evalArgs_sound H
    refine ⟨_, hK, fun G r A us base rt hr hd ha hf => ?_⟩
    simp only [relL] at hr
    obtain ⟨u, us, rfl, hr1, hr2⟩ := hr
    obtain ⟨r1, a1, a2, a3, a4⟩ := h1 G r A u base rt hr1 hd ha hf
    obtain ⟨r0, k1, k2, k3, k4⟩ := ih G r A us (base + 1) r1 hr2 hd ha a2
    exact ⟨r0, a1.trans k1, by rw [List.length_cons, ← Nat.add_assoc, Nat.add_right_comm]; exact k2, relL_cons.2 ⟨rel_mono k1 _ _ a3, k3⟩, a4 as r0 k1 k4⟩
  | [], _ :: _, _, _, H => H.elim
  | _ :: _, [], _, _, H => H.elim

/-! ## objects -/
abbrev Tm (U : Uni) := U.O → Heap U → Nat → Prop
/-- How objects lie. -/
def Laid (U : Uni) (tm : Tm U) : Prop := ∀ x b H, U.D x b H ↔ ∃ hp n r, tm x hp n ∧ r 0 = some (b, 0) ∧ Fresh r n ∧ Heap.den Hp.nil r hp H

/-- One heap for another, under the same names. -/
def HImp (n : Nat) (h h' : Heap U) : Prop := ∀ (G : Hp) (r : Nm) (H : Hp), Fresh r n → h.den G r H → ∃ H1 H2, h'.den G r H1 ∧ H1.apart H2 ∧ H = H1.join H2
theorem HImp.refl (n : Nat) (h : Heap U) : HImp n h h := fun _ _ H _ d => ⟨H, Hp.nil, d, (Hp.nil_apart H).symm, (Hp.join_nil H).symm⟩

def delAll (f : Nat → Nat) : Heap U → Heap U → Heap U
  | h, [] => h
  | h, (id, _) :: l => delAll f (h.del (f id)) l

theorem heapSub_rest [Plain U] {f : Nat → Nat} {G : Hp} {r : Nm} : ∀ {l h : Heap U} {H : Hp}, HeapSub f h l → h.den G r H →
    ∃ H1 H2, l.den G (fun i => r (f i)) H1 ∧ H1.apart H2 ∧ H = H1.join H2 ∧ (delAll f h l).den G r H2
  | [], h, H, _, hd => ⟨Hp.nil, H, rfl, Hp.nil_apart H, rfl, hd⟩
  | (id, B) :: l, h, H, ⟨hb, hl⟩, hd => by
    cases hg : h.get (f id) with
    | none =>
      rw [hg] at hb
      have hdel : h.del (f id) = h := by
        clear hl hb hd
        induction h with
        | nil => rfl
        | cons q h ih =>
          obtain ⟨i, C⟩ := q
          unfold Heap.get at hg
          cases e : Nat.beq i (f id) with
          | true => rw [e] at hg; simp at hg
          | false => rw [e] at hg; simp at hg; unfold Heap.del; rw [e]; simp [ih hg]
      rw [hdel] at hl
      obtain ⟨H1, H2, h1, h2, h3, h4⟩ := heapSub_rest hl hd
      refine ⟨H1, H2, ⟨Hp.nil, H1, ?_, h1, Hp.nil_apart _, rfl⟩, h2, h3, by unfold delAll; rw [hdel]; exact h4⟩
      cases B with
      | arr T k xs sp =>
        simp only [Blk.ren] at hb
        cases hb
        exact .inl ⟨rfl, rfl⟩
      | _ => simp only [Blk.ren] at hb; cases hb
    | some C =>
      rw [hg] at hb
      obtain ⟨K1, K2, k1, k2, k3, k4, _⟩ := Heap.focus hd hg
      obtain ⟨H1, H2, h1, h2, h3, h4⟩ := heapSub_rest hl k4
      subst h3; subst k3
      have q := Hp.apart_join.1 k2
      refine ⟨K1.join H1, H2, ⟨K1, H1, Blk.den_ren (hb.den k1), h1, q.1, rfl⟩, Hp.join_apart.2 ⟨q.2, h2⟩, by rw [Hp.join_assoc], h4⟩

theorem mkF_fresh {r : Nm} {n' n : Nat} {ren : List (Nat × Nat)} (hf : Fresh r n') (hk : (ren.all fun q => Nat.blt q.1 n) = true) : Fresh (fun i => r (mkF 0 ren n' i)) n := by
  intro i hi
  have hb : Nat.blt i 0 = false := rfl
  simp only [mkF, hb, cond_false]
  cases hl : ren.lookup i with
  | none => exact hf _ (by show n' ≤ n' + i; omega)
  | some j =>
    exfalso
    have hm : (i, j) ∈ ren := by
      clear hk
      induction ren with
      | nil => simp at hl
      | cons q ren ih =>
        obtain ⟨k, l⟩ := q
        rw [List.lookup_cons] at hl
        split at hl
        · rename_i e; simp at e; cases hl; subst e; simp
        · exact List.mem_cons_of_mem _ (ih hl)
    have := List.all_eq_true.1 hk (i, j) hm
    simp only [Nat.blt_eq] at this
    omega

/-- Several blocks packed into one object. -/
theorem pack [Plain U] {tm : Tm U} (hL : Laid U tm) {x : U.O} {T : Nat} {cs : List AV} {hp h : Heap U} {n n' m : Nat} {ren : List (Nat × Nat)} (ht : tm x ((0, .cells T cs) :: hp) n)
    (hk : (ren.all fun q => Nat.blt q.1 n) = true) (hm : mkF 0 ren n' 0 = m) (hs : HeapSub (mkF 0 ren n') h ((0, .cells T cs) :: hp)) (hro : (hp.all fun q => q.2.noRo) = true) :
    HImp n' h ((m, .obj x) :: delAll (mkF 0 ren n') h ((0, .cells T cs) :: hp)) := by
  intro G r H hf hd
  obtain ⟨H1, H2, h1, h2, h3, h4⟩ := heapSub_rest hs hd
  subst h3
  refine ⟨H1.join H2, Hp.nil, ⟨H1, H2, ?_, h4, h2, rfl⟩, (Hp.nil_apart _).symm, (Hp.join_nil _).symm⟩
  have h1' := h1
  obtain ⟨K1, K2, ⟨b, vs, hb, _, _⟩, _, _, _⟩ := h1'
  refine ⟨b, by rw [← hm]; exact hb, (hL x b H1).2 ⟨_, n, _, ht, hb, mkF_fresh hf hk, Heap.den_G ?_ h1⟩⟩
  simp only [List.all_cons, hro, Bool.and_true]
  rfl

/-! ## new blocks -/
def newAt : Nat → List (Blk U) → Heap U
  | _, [] => []
  | j, B :: E => (j, B) :: newAt (j + 1) E
def newFree : Nat → List (Blk U) → Heap U → Bool
  | _, [], _ => true
  | j, _ :: E, h => (h.get j).isNone && newFree (j + 1) E h
def shf (n nx i : Nat) : Nat := nx + (i - n)

theorem newAt_den [Bare U] {G G' : Hp} {r s : Nm} : ∀ {E : List (Blk U)} {i j : Nat} {H : Hp}, (E.all Blk.bare) = true → (∀ k, k < E.length → r (i + k) = s (j + k)) → (newAt i E).den G r H → (newAt j E).den G' s H
  | [], _, _, _, _, _, d => d
  | B :: E, i, j, H, hb, hrs, ⟨H1, H2, a, b, c, d⟩ => by
    simp only [List.all_cons, Bool.and_eq_true] at hb
    exact ⟨H1, H2, Blk.den_at hb.1 (by simpa using hrs 0 (by simp)) a, newAt_den hb.2 (fun k hk => by
      have := hrs (k + 1) (by simpa using hk)
      rwa [show i + (k + 1) = i + 1 + k by omega, show j + (k + 1) = j + 1 + k by omega] at this) b, c, d⟩

theorem newFree_get {h : Heap U} : ∀ {E : List (Blk U)} {j id : Nat} {B : Blk U} {l : Heap U}, newFree j E h = true → h.get id = some B → l.get id = some B → (newAt j E ++ l).get id = some B
  | [], _, _, _, _, _, _, e => e
  | C :: E, j, id, B, l, hf, hg, e => by
    simp only [newFree, Bool.and_eq_true] at hf
    have hne : id ≠ j := fun hh => by subst hh; rw [hg] at hf; simp at hf
    show Heap.get ((j, C) :: (newAt (j + 1) E ++ l)) id = some B
    rw [Heap.get_cons_ne hne]
    exact newFree_get hf.2 hg e

/-- How a function leaves off, in its own names: what it tells, and the new blocks. -/
structure Fin (n n' : Nat) (v0 : AV) (h2 : Heap U) (v : AV) (E : List (Blk U)) : Prop where
  sub : ∃ f : Nat → Nat, HeapSub f h2 (newAt n E) ∧ v0.sub (v.ren f)
  bare : E.all Blk.bare = true
  on : v.on (fun i => Nat.ble n i && Nat.blt i (n + E.length)) = true

theorem Fin.plain {n n' : Nat} {v0 : AV} {h2 : Heap U} {v : AV} (h : v0.sub v) (hv : v.on noName = true) : Fin n n' v0 h2 v ([] : List (Blk U)) := by
  refine ⟨⟨fun i => i, trivial, fun r z hz => rel_ren' v z (h r z hz)⟩, rfl, ?_⟩
  have key : ∀ (p : Nat → Bool) (x : AV), x.on noName = true → x.on p = true := by
    intro p x
    exact AV.rec (motive_1 := fun x => x.on noName = true → x.on p = true) (motive_2 := fun l => AV.onL noName l = true → AV.onL p l = true)
      (fun _ _ => rfl) (fun _ _ _ => rfl) (fun _ _ _ => rfl) (fun _ => rfl) (fun _ => rfl) (fun _ _ => rfl) (fun _ _ _ => rfl) (fun _ => rfl)
      (fun _ _ h => by simp [AV.on, noName] at h) (fun _ _ _ _ h => by simp [AV.on, noName] at h) (fun _ => rfl) (fun _ _ _ _ _ _ h => by simp [AV.on, noName] at h)
      (fun _ ih h => ih h) (fun _ ih h => ih h) (fun _ _ _ i1 i2 h => by simp only [AV.on, Bool.and_eq_true] at h ⊢; exact ⟨i1 h.1, i2 h.2⟩)
      (fun _ => rfl) (fun _ h => by simp [AV.on, noName] at h) (fun _ => rfl) (fun _ _ ih h => ih h) (fun _ => rfl) (fun _ => rfl)
      (fun _ => rfl) (fun _ _ i1 i2 h => by simp only [AV.onL, Bool.and_eq_true] at h ⊢; exact ⟨i1 h.1, i2 h.2⟩) x
  exact key _ v hv

end
end Sx
end Go.Proofs.Ytemcdjdglcceiaa
