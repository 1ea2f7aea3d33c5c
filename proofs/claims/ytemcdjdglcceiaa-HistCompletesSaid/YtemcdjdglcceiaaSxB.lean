/-
  Blocks as plain data, heaps of named blocks, and when a world holds such a heap.
-/
import Derived.Test.YtemcdjdglcceiaaSxA
namespace Go.Proofs.Ytemcdjdglcceiaa
namespace Sx
open Go

/-- How an element of a row lies in cells. -/
structure Enc (α : Type) where
  w : Nat
  agg : Bool
  enc : α → List AV
  dec : List AV → Option α
  dflt : α
  len : ∀ a, (enc a).length = w
  back : ∀ cs a, dec cs = some a → ∀ r vs, relL r cs vs → relL r (enc a) vs
  one : ∀ a r vs, relL r (enc a) vs → ∀ v ∈ vs, v.oneCell' = true
  pos : 0 < w

/-- The kinds of elements and of closed things. -/
structure Uni where
  K : Type
  dk : DecidableEq K
  El : K → Type
  enc : (k : K) → Enc (El k)
  O : Type
  D : O → Nat → Hp → Prop

inductive Blk (U : Uni) where
  | cells (T : Nat) (cs : List AV)
  | arr (T : Nat) (k : U.K) (xs : List (U.El k)) (sp : Nat)
  | ro (k : U.K) (xs : List (U.El k))
  | mp (kk : IntKind) (k : U.K) (m : List (Int × U.El k))
  | obj (x : U.O)

def relV (agg : Bool) (r : Nm) (cs : List AV) (v : Value) : Prop :=
  match agg with
  | true => ∃ vs, relL r cs vs ∧ v = .agg vs.toArray
  | false => relL r cs [v]

def relM {α : Type} (E : Enc α) (kk : IntKind) (r : Nm) : List (Int × α) → List MapEntry → Prop
  | [], es => es = []
  | (n, x) :: m, es => ∃ e fs, es = e :: fs ∧ e.key = .int kk n ∧ relV E.agg r (E.enc x) e.val ∧ relM E kk r m fs

def rowAt {α : Type} (E : Enc α) (r : Nm) (xs : List α) (c : Array Value) (o : Nat) : Prop :=
  ∀ i x, xs[i]? = some x → relL r (E.enc x) ((c.toList.drop (o + i * E.w)).take E.w)

section
variable {U : Uni}

def Blk.den (G : Hp) (r : Nm) (id : Nat) : Blk U → Hp → Prop
  | .cells T cs, H => ∃ b vs, r id = some (b, 0) ∧ relL r cs vs ∧ H = Hp.one b (.cells vs.toArray T (0, 0))
  | .arr T k xs sp, H => (xs.length + sp = 0 ∧ H = Hp.nil) ∨ ∃ b c, r id = some (b, 0) ∧ rowAt (U.enc k) r xs c 0 ∧ c.size = (xs.length + sp) * (U.enc k).w ∧ xs.length + sp ≤ maxLen ∧ H = Hp.one b (.cells c T (0, 0))
  | .ro k xs, H => (∀ i x, xs[i]? = some x → ∃ b o c T fz, r id = some (b, o) ∧ G b = some (.cells c T fz) ∧ relL r ((U.enc k).enc x) ((c.toList.drop (o + i * (U.enc k).w)).take (U.enc k).w)) ∧ H = Hp.nil
  | .mp kk k m, H => ∃ b es clock, r id = some (b, 0) ∧ relM (U.enc k) kk r m es.toList ∧ H = Hp.one b (.map es clock)
  | .obj x, H => ∃ b, r id = some (b, 0) ∧ U.D x b H

theorem relV_mono {agg : Bool} {r s : Nm} (h : r.le s) {cs : List AV} {v : Value} (e : relV agg r cs v) : relV agg s cs v := by
  cases agg
  · exact relL_mono h _ _ e
  · obtain ⟨vs, k, l⟩ := e; exact ⟨vs, relL_mono h _ _ k, l⟩
theorem relM_mono {α : Type} {E : Enc α} {kk : IntKind} {r s : Nm} (h : r.le s) : ∀ {m : List (Int × α)} {es : List MapEntry}, relM E kk r m es → relM E kk s m es
  | [], _, e => e
  | (_, _) :: _, _, ⟨e, fs, a, b, c, d⟩ => ⟨e, fs, a, b, relV_mono h c, relM_mono h d⟩
theorem rowAt_mono {α : Type} {E : Enc α} {r s : Nm} (h : r.le s) {xs : List α} {c : Array Value} {o : Nat} (k : rowAt E r xs c o) : rowAt E s xs c o :=
  fun i x e => relL_mono h _ _ (k i x e)
theorem Blk.den_mono {G : Hp} {r s : Nm} (h : r.le s) {id : Nat} {B : Blk U} {H : Hp} (k : B.den G r id H) : B.den G s id H := by
  cases B with
  | cells T cs => obtain ⟨b, vs, a, b', c⟩ := k; exact ⟨b, vs, h _ _ a, relL_mono h _ _ b', c⟩
  | arr T kk xs sp =>
    rcases k with k | ⟨b, c, a, b', d⟩
    · exact .inl k
    · exact .inr ⟨b, c, h _ _ a, rowAt_mono h b', d⟩
  | ro kk xs =>
    obtain ⟨a, b⟩ := k
    exact ⟨fun i x e => let ⟨b, o, c, T, fz, a1, a2, a3⟩ := a i x e; ⟨b, o, c, T, fz, h _ _ a1, a2, relL_mono h _ _ a3⟩, b⟩
  | mp kk kx m => obtain ⟨b, es, cl, a, b', c⟩ := k; exact ⟨b, es, cl, h _ _ a, relM_mono h b', c⟩
  | obj x => obtain ⟨b, a, c⟩ := k; exact ⟨b, h _ _ a, c⟩

abbrev Heap (U : Uni) := List (Nat × Blk U)

def Heap.get : Heap U → Nat → Option (Blk U)
  | [], _ => none
  | (i, b) :: h, id => bif Nat.beq i id then some b else Heap.get h id
def Heap.set : Heap U → Nat → Blk U → Heap U
  | [], _, _ => []
  | (i, b) :: h, id, c => bif Nat.beq i id then (i, c) :: h else (i, b) :: Heap.set h id c
def Heap.del : Heap U → Nat → Heap U
  | [], _ => []
  | (i, b) :: h, id => bif Nat.beq i id then h else (i, b) :: Heap.del h id

def Heap.den (G : Hp) (r : Nm) : Heap U → Hp → Prop
  | [], H => H = Hp.nil
  | (id, B) :: h, H => ∃ H1 H2, B.den G r id H1 ∧ Heap.den G r h H2 ∧ H1.apart H2 ∧ H = H1.join H2

theorem Heap.den_mono {G : Hp} {r s : Nm} (h : r.le s) : ∀ {hp : Heap U} {H : Hp}, hp.den G r H → hp.den G s H
  | [], _, e => e
  | (_, _) :: _, _, ⟨H1, H2, a, b, c, d⟩ => ⟨H1, H2, Blk.den_mono h a, Heap.den_mono h b, c, d⟩

/-- The block of a name, apart from the rest. -/
theorem Heap.focus {G : Hp} {r : Nm} {id : Nat} {B : Blk U} : ∀ {h : Heap U} {H : Hp}, h.den G r H → h.get id = some B →
    ∃ H1 H2, B.den G r id H1 ∧ H1.apart H2 ∧ H = H1.join H2 ∧ (h.del id).den G r H2 ∧
      ∀ (s : Nm) (B' : Blk U) (H1' : Hp), r.le s → B'.den G s id H1' → H1'.apart H2 → (h.set id B').den G s (H1'.join H2)
  | [], _, _, e => by simp [Heap.get] at e
  | (i, C) :: h, H, ⟨H1, H2, a, b, c, d⟩, e => by
    unfold Heap.get at e
    cases hi : Nat.beq i id with
    | true =>
      rw [hi] at e; simp at e; subst e
      have : i = id := Nat.eq_of_beq_eq_true hi
      subst this
      refine ⟨H1, H2, a, c, d, by simp [Heap.del]; exact b, fun s B' H1' hs hB ha => ?_⟩
      unfold Heap.set; rw [hi]; exact ⟨H1', H2, hB, Heap.den_mono hs b, ha, rfl⟩
    | false =>
      rw [hi] at e; simp at e
      obtain ⟨K1, K2, p1, p2, p3, p4, p5⟩ := Heap.focus b e
      subst p3; subst d
      have q := Hp.apart_join.1 c
      refine ⟨K1, H1.join K2, p1, Hp.apart_join.2 ⟨q.1.symm, p2⟩, ?_, ?_, ?_⟩
      · rw [← Hp.join_assoc, Hp.join_comm q.1, Hp.join_assoc]
      · unfold Heap.del; rw [hi]; exact ⟨H1, K2, a, p4, q.2, rfl⟩
      · intro s B' K1' hs hB ha
        have q' := Hp.apart_join.1 ha
        unfold Heap.set; rw [hi]
        refine ⟨H1, K1'.join K2, Blk.den_mono hs a, p5 s B' K1' hs hB q'.2, Hp.apart_join.2 ⟨q'.1.symm, q.2⟩, ?_⟩
        rw [← Hp.join_assoc, Hp.join_comm q'.1, Hp.join_assoc]

/-! ## worlds -/
/-- What stays: memory that is none of ours, and the streams. -/
structure Base where
  G : Hp
  os : Os
  output : Array (Nat × ByteArray)
  tape : Nat → Question → Nat

structure Base.met (β : Base) (w : World) : Prop where
  os : w.os = β.os
  output : w.output = β.output
  tape : w.tape = β.tape
  G : β.G.inW w

def Sat (β : Base) (r : Nm) (h : Heap U) (w : World) : Prop := β.met w ∧ ∃ H, h.den β.G r H ∧ H.apart β.G ∧ H.inW w

theorem Sat.mono {β : Base} {r s : Nm} (h : r.le s) {hp : Heap U} {w : World} (k : Sat β r hp w) : Sat β s hp w :=
  let ⟨a, H, b, c⟩ := k; ⟨a, H, Heap.den_mono h b, c⟩
theorem Sat.drew {β : Base} {r : Nm} {hp : Heap U} {w : World} (k : Sat β r hp w) : Sat β r hp w.drew := by
  obtain ⟨a, H, b, c, d⟩ := k
  exact ⟨⟨a.os, a.output, a.tape, a.G⟩, H, b, c, d⟩

theorem heap_old {w : World} {o : Obj} {A : Hp} (h : A.inW w) : A.inW (w.alloc o) := fun x o' e => by
  rw [Go.RowKit.Below.heap_alloc w o x (Hp.lt h e)]; exact h x o' e

/-- A new block under a new name. -/
theorem Sat.new {β : Base} {r : Nm} {hp : Heap U} {w : World} (k : Sat β r hp w) {id : Nat} (hid : r id = none) {B : Blk U} {o : Obj}
    (hB : B.den β.G (r.put id (w.heap.size, 0)) id (Hp.one w.heap.size o)) : Sat β (r.put id (w.heap.size, 0)) ((id, B) :: hp) (w.alloc o) := by
  obtain ⟨a, H, b, c, d⟩ := k
  have hn : ∀ {A : Hp}, A.inW w → A w.heap.size = none := fun {A} hA => by
    cases e : A w.heap.size with
    | none => rfl
    | some o' => exact absurd (Hp.lt hA e) (Nat.lt_irrefl _)
  refine ⟨⟨a.os, a.output, a.tape, heap_old a.G⟩, (Hp.one w.heap.size o).join H, ⟨_, H, hB, Heap.den_mono (Nm.le_put hid) b, Hp.one_apart.2 (hn d), rfl⟩, ?_, ?_⟩
  · exact Hp.join_apart.2 ⟨Hp.one_apart.2 (hn a.G), c⟩
  · exact (Hp.inW_join (Hp.one_apart.2 (hn d))).2 ⟨Hp.inW_one.2 (heap_alloc_new w o), heap_old d⟩

/-- One block of ours written anew. -/
theorem Sat.write {β : Base} {r : Nm} {hp : Heap U} {w w' : World} (k : Sat β r hp w) {id : Nat} {B B' : Blk U} (hg : hp.get id = some B)
    {b : Nat} (o' : Obj) (hone : ∀ H1, B.den β.G r id H1 → ∃ o, H1 = Hp.one b o)
    (hB : B'.den β.G r id (Hp.one b o')) (hw : w'.heap[b]? = some o') (hs : ∀ x, x ≠ b → w'.heap[x]? = w.heap[x]?)
    (h1 : w'.os = w.os) (h2 : w'.output = w.output) (h3 : w'.tape = w.tape) : Sat β r (hp.set id B') w' := by
  obtain ⟨a, H, p, c, d⟩ := k
  obtain ⟨H1, H2, q1, q2, q3, _, q5⟩ := Heap.focus p hg
  obtain ⟨o, rfl⟩ := hone H1 q1
  subst q3
  have c' := Hp.join_apart.1 c
  have ap : (Hp.one b o').apart H2 := Hp.one_apart.2 (Hp.one_apart.1 q2)
  have apG : (Hp.one b o').apart β.G := Hp.one_apart.2 (Hp.one_apart.1 c'.1)
  have d' := (Hp.inW_join q2).1 d
  have keep : ∀ {A : Hp}, A.inW w → A b = none → A.inW w' := fun {A} hA hb x o e => by
    rw [hs x (fun hx => by rw [hx, hb] at e; cases e)]; exact hA x o e
  refine ⟨⟨h1.trans a.os, h2.trans a.output, h3.trans a.tape, keep a.G (Hp.one_apart.1 c'.1)⟩, (Hp.one b o').join H2, q5 r B' _ (Nm.le.refl r) hB ap, ?_, ?_⟩
  · exact Hp.join_apart.2 ⟨apG, c'.2⟩
  · exact (Hp.inW_join ap).2 ⟨Hp.inW_one.2 hw, keep d'.2 (Hp.one_apart.1 q2)⟩

/-- Reading a block of ours. -/
theorem Sat.at {β : Base} {r : Nm} {hp : Heap U} {w : World} (k : Sat β r hp w) {id : Nat} {B : Blk U} (hg : hp.get id = some B) :
    ∃ H1, B.den β.G r id H1 ∧ H1.inW w ∧ β.G.inW w := by
  obtain ⟨a, H, p, c, d⟩ := k
  obtain ⟨H1, H2, q1, q2, q3, _, _⟩ := Heap.focus p hg
  subst q3
  exact ⟨H1, q1, ((Hp.inW_join q2).1 d).1, a.G⟩

theorem Sat.del {β : Base} {r : Nm} {hp : Heap U} {w : World} (k : Sat β r hp w) {id : Nat} {B : Blk U} (hg : hp.get id = some B) : Sat β r (hp.del id) w := by
  obtain ⟨a, H, p, c, d⟩ := k
  obtain ⟨H1, H2, q1, q2, q3, q4, _⟩ := Heap.focus p hg
  subst q3
  exact ⟨a, H2, q4, (Hp.join_apart.1 c).2, ((Hp.inW_join q2).1 d).2⟩

end
end Sx
end Go.Proofs.Ytemcdjdglcceiaa
