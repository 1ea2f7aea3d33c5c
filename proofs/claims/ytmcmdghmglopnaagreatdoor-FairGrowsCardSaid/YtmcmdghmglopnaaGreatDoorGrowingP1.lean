/-
  The ground of a small symbolic machine over the model: pieces of memory (heaplets), values by names of blocks, blocks as plain data, and when a world holds them. No program in sight.
-/
import Derived.WalkKit
namespace Go.Proofs.YtmcmdghmglopnaaGreatDoor
namespace Sx
open Go

/-! ## pieces of memory -/
abbrev Hp := Nat → Option Obj
def Hp.nil : Hp := fun _ => none
def Hp.one (b : Nat) (o : Obj) : Hp := fun x => if x = b then some o else none
def Hp.join (A B : Hp) : Hp := fun x => match A x with | some o => some o | none => B x
def Hp.apart (A B : Hp) : Prop := ∀ x, A x = none ∨ B x = none
def Hp.inW (A : Hp) (w : World) : Prop := ∀ x o, A x = some o → w.heap[x]? = some o

theorem Hp.apart.symm {A B : Hp} (h : A.apart B) : B.apart A := fun x => (h x).symm
theorem Hp.nil_apart (A : Hp) : Hp.nil.apart A := fun _ => .inl rfl
theorem Hp.join_nil (A : Hp) : A.join Hp.nil = A := by funext x; unfold Hp.join Hp.nil; cases A x <;> rfl
theorem Hp.join_comm {A B : Hp} (h : A.apart B) : A.join B = B.join A := by
  funext x; unfold Hp.join
  rcases h x with e | e <;> rw [e] <;> cases A x <;> cases B x <;> simp_all
theorem Hp.join_assoc (A B C : Hp) : (A.join B).join C = A.join (B.join C) := by
  funext x; unfold Hp.join; cases A x <;> rfl
theorem Hp.apart_join {A B C : Hp} : A.apart (B.join C) ↔ A.apart B ∧ A.apart C := by
  constructor
  · intro h
    refine ⟨fun x => ?_, fun x => ?_⟩ <;> rcases h x with e | e
    · exact .inl e
    · unfold Hp.join at e; cases hb : B x <;> simp_all
    · exact .inl e
    · unfold Hp.join at e; cases hb : B x <;> simp_all
  · rintro ⟨h1, h2⟩ x
    rcases h1 x with e | e
    · exact .inl e
    · rcases h2 x with e' | e'
      · exact .inl e'
      · right; unfold Hp.join; rw [e]; exact e'
theorem Hp.join_apart {A B C : Hp} : (A.join B).apart C ↔ A.apart C ∧ B.apart C := by
  constructor
  · intro h; have := Hp.apart_join.1 h.symm; exact ⟨this.1.symm, this.2.symm⟩
  · rintro ⟨h1, h2⟩; exact (Hp.apart_join.2 ⟨h1.symm, h2.symm⟩).symm
theorem Hp.inW_join {A B : Hp} {w : World} (h : A.apart B) : (A.join B).inW w ↔ A.inW w ∧ B.inW w := by
  constructor
  · intro k
    refine ⟨fun x o e => k x o (by unfold Hp.join; rw [e]), fun x o e => k x o ?_⟩
    unfold Hp.join
    rcases h x with a | a
    · rw [a]; exact e
    · rw [a] at e; cases e
  · rintro ⟨ha, hb⟩ x o e
    unfold Hp.join at e
    cases hA : A x with
    | some o' => rw [hA] at e; cases e; exact ha x o hA
    | none => rw [hA] at e; exact hb x o e
theorem Hp.inW_nil (w : World) : Hp.nil.inW w := fun _ _ h => by cases h
theorem Hp.inW_one {b : Nat} {o : Obj} {w : World} : (Hp.one b o).inW w ↔ w.heap[b]? = some o := by
  constructor
  · intro h; exact h b o (by simp [Hp.one])
  · intro h x o' e; unfold Hp.one at e; split at e
    · rename_i hx; subst hx; cases e; exact h
    · cases e
theorem Hp.lt {A : Hp} {w : World} (h : A.inW w) {x : Nat} {o : Obj} (e : A x = some o) : x < w.heap.size :=
  (Array.getElem?_eq_some_iff.1 (h x o e)).1
theorem Hp.apart_one {A : Hp} {b : Nat} {o : Obj} : A.apart (Hp.one b o) ↔ A b = none := by
  constructor
  · intro h; rcases h b with e | e
    · exact e
    · simp [Hp.one] at e
  · intro h x; unfold Hp.one; split
    · rename_i e; subst e; exact .inl h
    · exact .inr rfl
theorem Hp.one_apart {A : Hp} {b : Nat} {o : Obj} : (Hp.one b o).apart A ↔ A b = none := ⟨fun h => Hp.apart_one.1 h.symm, fun h => (Hp.apart_one.2 h).symm⟩
/-! ## names of blocks -/
/-- Where the block of a name begins: its number, and the cell from which on it is counted. -/
abbrev Nm := Nat → Option (Nat × Nat)
def Nm.le (r s : Nm) : Prop := ∀ i x, r i = some x → s i = some x
theorem Nm.le.refl (r : Nm) : r.le r := fun _ _ h => h
theorem Nm.le.trans {r s t : Nm} (h : r.le s) (k : s.le t) : r.le t := fun i x e => k i x (h i x e)
def Nm.put (r : Nm) (i : Nat) (x : Nat × Nat) : Nm := fun j => if j = i then some x else r j
theorem Nm.le_put {r : Nm} {i : Nat} {x : Nat × Nat} (h : r i = none) : r.le (r.put i x) := by
  intro j y e; unfold Nm.put; split
  · rename_i k; subst k; rw [h] at e; cases e
  · exact e
theorem Nm.put_self (r : Nm) (i : Nat) (x : Nat × Nat) : r.put i x i = some x := by simp [Nm.put]

/-! ## values -/
inductive AV where
  | raw (v : Value)
  | int (k : IntKind) (n : Int)
  | lit (k : IntKind) (n : Int)
  | tt | ff | bool (b : Bool) | may (neg c : Bool)
  | nilP | ptr (id off : Nat) | ptrR (id i w c : Nat)
  | nilS | sl (known : Bool) (id s w len cap : Nat)
  | agg (cs : List AV) | tup (cs : List AV)
  | fn (f : Nat) (first caps : List AV)
  | nilF
  | mp (id : Nat) | nilM
  | ifc (t : Nat) (x : AV) | nilI
  | rp (o : Option (Nat × Nat)) | rs (o : Option (Nat × Nat)) (len cap : Nat)
  | und
  deriving Inhabited

/-- An address by its block's own number. -/
def addrOf (o : Option (Nat × Nat)) : Option Addr := o.map fun q => ⟨q.1, q.2, none⟩

mutual
def rel (r : Nm) : AV → Value → Prop
  | .raw x, v => v = x
  | .int k n, v => v = .int k n
  | .lit k n, v => v = .int k n
  | .tt, v => v = .bool true
  | .ff, v => v = .bool false
  | .bool b, v => v = .bool b
  | .may neg c, v => ∃ b, v = .bool b ∧ (b = !neg → c = true)
  | .nilP, v => v = .pointer none
  | .ptr id off, v => ∃ x, r id = some x ∧ v = .pointer (some ⟨x.1, x.2 + off, none⟩)
  | .ptrR id i w c, v => ∃ x, r id = some x ∧ v = .pointer (some ⟨x.1, x.2 + (i * w + c), none⟩)
  | .nilS, v => v = .slice none 0 0
  | .sl _ id s w len cap, v => ∃ a, v = .slice a len cap ∧ len ≤ cap ∧ (cap = 0 ∨ ∃ x, r id = some x ∧ a = some ⟨x.1, x.2 + s * w, none⟩)
  | .agg cs, v => ∃ vs, relL r cs vs ∧ v = .agg vs.toArray
  | .tup cs, v => ∃ vs, relL r cs vs ∧ v = .tuple vs.toArray
  | .fn f fs cs, v => ∃ us vs, relL r fs us ∧ relL r cs vs ∧ v = .func (.func f) us.toArray vs.toArray
  | .nilF, v => v = .nilFunc
  | .mp id, v => ∃ x, r id = some x ∧ v = .map (some x.1)
  | .nilM, v => v = .map none
  | .ifc t x, v => ∃ u, rel r x u ∧ v = .iface t u
  | .nilI, v => v = .nilIface
  | .rp o, v => v = .pointer (addrOf o)
  | .rs o len cap, v => v = .slice (addrOf o) len cap
  | .und, _ => True
def relL (r : Nm) : List AV → List Value → Prop
  | [], vs => vs = []
  | c :: cs, vs => ∃ v us, vs = v :: us ∧ rel r c v ∧ relL r cs us
end

mutual
theorem rel_mono {r s : Nm} (h : r.le s) : ∀ (x : AV) (v : Value), rel r x v → rel s x v
  | .raw _, _, e => e
  | .int .., _, e => e
  | .lit .., _, e => e
  | .tt, _, e => e
  | .ff, _, e => e
  | .bool _, _, e => e
  | .may .., _, e => e
  | .nilP, _, e => e
  | .ptr .., _, ⟨x, e, k⟩ => ⟨x, h _ _ e, k⟩
  | .ptrR .., _, ⟨x, e, k⟩ => ⟨x, h _ _ e, k⟩
  | .nilS, _, e => e
  | .sl .., _, ⟨a, e, l, k⟩ => ⟨a, e, l, k.imp id fun ⟨x, e, k⟩ => ⟨x, h _ _ e, k⟩⟩
  | .agg cs, _, ⟨vs, e, k⟩ => ⟨vs, relL_mono h cs vs e, k⟩
  | .tup cs, _, ⟨vs, e, k⟩ => ⟨vs, relL_mono h cs vs e, k⟩
  | .fn _ fs cs, _, ⟨us, vs, e, e', k⟩ => ⟨us, vs, relL_mono h fs us e, relL_mono h cs vs e', k⟩
  | .nilF, _, e => e
  | .mp _, _, ⟨x, e, k⟩ => ⟨x, h _ _ e, k⟩
  | .nilM, _, e => e
  | .ifc _ x, _, ⟨u, e, k⟩ => ⟨u, rel_mono h x u e, k⟩
  | .nilI, _, e => e
  | .rp _, _, e => e
  | .rs .., _, e => e
  | .und, _, e => e
theorem relL_mono {r s : Nm} (h : r.le s) : ∀ (x : List AV) (v : List Value), relL r x v → relL s x v
  | [], _, e => e
  | c :: cs, _, ⟨v, us, e, k, l⟩ => ⟨v, us, e, rel_mono h c v k, relL_mono h cs us l⟩
end

theorem relL_length {r : Nm} : ∀ {x : List AV} {v : List Value}, relL r x v → v.length = x.length
  | [], _, e => by simp only [relL] at e; subst e; rfl
  | _ :: cs, _, e => by simp only [relL] at e; obtain ⟨v, us, rfl, _, l⟩ := e; simp [relL_length l]
theorem relL_get {r : Nm} : ∀ {x : List AV} {v : List Value}, relL r x v → ∀ {j : Nat} {c : AV}, x[j]? = some c → ∃ u, v[j]? = some u ∧ rel r c u
  | [], _, _, j, c, h => by simp at h
  | a :: cs, _, e, j, c, h => by
    simp only [relL] at e; obtain ⟨v, us, rfl, k, l⟩ := e
    cases j with
    | zero => simp at h; subst h; exact ⟨v, by simp, k⟩
    | succ j => simp at h; obtain ⟨u, hu, hr⟩ := relL_get l h; exact ⟨u, by simpa using hu, hr⟩
theorem relL_cons {r : Nm} {c : AV} {cs : List AV} {v : Value} {us : List Value} : relL r (c :: cs) (v :: us) ↔ rel r c v ∧ relL r cs us := by
  simp only [relL]
  constructor
  · rintro ⟨v', us', e, k, l⟩; cases e; exact ⟨k, l⟩
  · rintro ⟨k, l⟩; exact ⟨v, us, rfl, k, l⟩
theorem relL_nil {r : Nm} : relL r [] [] := by simp [relL]
theorem relL_append {r : Nm} : ∀ {x y : List AV} {v u : List Value}, relL r x v → relL r y u → relL r (x ++ y) (v ++ u)
  | [], _, _, _, e, k => by simp only [relL] at e; subst e; exact k
  | _ :: cs, _, _, _, e, k => by
    simp only [relL] at e; obtain ⟨v, us, rfl, k', l⟩ := e
    exact relL_cons.2 ⟨k', relL_append l k⟩
theorem relL_take {r : Nm} : ∀ {x : List AV} {v : List Value}, relL r x v → ∀ n, relL r (x.take n) (v.take n)
  | [], _, e, n => by simp only [relL] at e; subst e; simp [relL]
  | _ :: cs, _, e, n => by
    simp only [relL] at e; obtain ⟨v, us, rfl, k', l⟩ := e
    cases n with
    | zero => simp [relL]
    | succ n => exact relL_cons.2 ⟨k', relL_take l n⟩
theorem relL_drop {r : Nm} : ∀ {x : List AV} {v : List Value}, relL r x v → ∀ n, relL r (x.drop n) (v.drop n)
  | [], _, e, n => by simp only [relL] at e; subst e; simp [relL]
  | _ :: cs, _, e, n => by
    simp only [relL] at e; obtain ⟨v, us, rfl, k', l⟩ := e
    cases n with
    | zero => exact relL_cons.2 ⟨k', l⟩
    | succ n => exact relL_drop l n
theorem relL_set {r : Nm} {c : AV} {v : Value} (h : rel r c v) : ∀ {x : List AV} {u : List Value}, relL r x u → ∀ n, relL r (x.set n c) (u.set n v)
  | [], _, e, n => by simp only [relL] at e; subst e; simp [relL]
  | _ :: cs, _, e, n => by
    simp only [relL] at e; obtain ⟨v', us, rfl, k', l⟩ := e
    cases n with
    | zero => exact relL_cons.2 ⟨h, l⟩
    | succ n => exact relL_cons.2 ⟨k', relL_set h l n⟩

/-! ## a pool: many blocks as plain data, under their own numbers -/
inductive PD where
  | int (k : IntKind) (n : Int)
  | bool (b : Bool)
  | ptr (o : Option (Nat × Nat))
  | sl (o : Option (Nat × Nat)) (len cap : Nat)
  deriving Inhabited, DecidableEq
def PD.val : PD → Value
  | .int k n => .int k n
  | .bool b => .bool b
  | .ptr o => .pointer (addrOf o)
  | .sl o len cap => .slice (addrOf o) len cap
def PD.av : PD → AV
  | .int k n => .int k n
  | .bool b => .bool b
  | .ptr o => .rp o
  | .sl o len cap => .rs o len cap
theorem PD.rel_av (r : Nm) (d : PD) : rel r d.av d.val := by cases d <;> rfl
theorem PD.relL_av (r : Nm) : ∀ ds : List PD, relL r (ds.map PD.av) (ds.map PD.val)
  | [] => relL_nil
  | d :: ds => relL_cons.2 ⟨PD.rel_av r d, PD.relL_av r ds⟩
theorem PD.one (d : PD) : d.val.oneCell' = true := by cases d <;> rfl

/-- What lies at a block's number: its cells' type, and its cells. -/
abbrev Pool := Nat → Option (Nat × List PD)
def Pool.nil : Pool := fun _ => none
def Pool.obj (q : Nat × List PD) : Obj := .cells (q.2.map PD.val).toArray q.1 (0, 0)
def Pool.hp (p : Pool) : Hp := fun b => (p b).map Pool.obj
/-- These cells lie there. -/
def Pool.at (p : Pool) (o : Option (Nat × Nat)) (ds : List PD) : Prop := ∃ b off T cs, o = some (b, off) ∧ p b = some (T, cs) ∧ off + ds.length ≤ cs.length ∧ (cs.drop off).take ds.length = ds
/-- So many cells lie there. -/
def Pool.has (p : Pool) (o : Option (Nat × Nat)) (n : Nat) : Prop := ∃ b off T cs, o = some (b, off) ∧ p b = some (T, cs) ∧ off + n ≤ cs.length
def setAt (cs : List PD) (off : Nat) (ds : List PD) : List PD := cs.take off ++ ds ++ cs.drop (off + ds.length)
def Pool.set (p : Pool) (o : Option (Nat × Nat)) (ds : List PD) : Pool := match o with
  | none => p
  | some (b, off) => fun x => if x = b then (p b).map (fun q => (q.1, setAt q.2 off ds)) else p x
def Pool.put (p : Pool) (b T : Nat) (ds : List PD) : Pool := fun x => if x = b then some (T, ds) else p x

/-- What is known of memory that is none of ours: a datum at a cell of a block. -/
abbrev RPool := Nat → Nat → Option PD
def RPool.inG (f : RPool) (G : Hp) : Prop := ∀ b o d, f b o = some d → ∃ c T fz, G b = some (.cells c T fz) ∧ c[o]? = some d.val
theorem RPool.inG.nil {f : RPool} (h : f.inG Hp.nil) {G : Hp} : f.inG G := fun b o d e => by obtain ⟨c, T, fz, h1, _⟩ := h b o d e; cases h1
/-- These cells are known to lie there. -/
def RPool.at (f : RPool) (o : Option (Nat × Nat)) (ds : List PD) : Prop := ∃ b off, o = some (b, off) ∧ ∀ j d, ds[j]? = some d → f b (off + j) = some d
theorem Pool.hp_none {p : Pool} {b : Nat} : p.hp b = none ↔ p b = none := by unfold Pool.hp; cases p b <;> simp
theorem Pool.hp_put {p : Pool} {b T : Nat} {ds : List PD} (h : p b = none) : (p.put b T ds).hp = (Hp.one b (Pool.obj (T, ds))).join p.hp := by
  funext x; unfold Pool.hp Pool.put Hp.join Hp.one
  by_cases e : x = b
  · subst e; simp
  · simp [e]

end Sx
end Go.Proofs.YtmcmdghmglopnaaGreatDoor

/-
  Blocks as plain data, heaps of named blocks, and when a world holds such a heap.
-/
namespace Go.Proofs.YtmcmdghmglopnaaGreatDoor
namespace Sx
open Go

/-- How an element of a row lies in cells. -/
structure Enc (α : Type) where
  w : Nat
  agg : Bool
  enc : α → List AV
  dec : List AV → Option α
  dflt : α
  len : ∀ a, (enc a).length = w
  back : ∀ cs a, dec cs = some a → ∀ r vs, relL r cs vs → relL r (enc a) vs
  one : ∀ a r vs, relL r (enc a) vs → ∀ v ∈ vs, v.oneCell' = true
  pos : 0 < w

/-- The kinds of elements and of closed things. -/
structure Uni where
  K : Type
  dk : DecidableEq K
  El : K → Type
  enc : (k : K) → Enc (El k)
  O : Type
  D : O → Nat → Hp → Prop

inductive Blk (U : Uni) where
  | cells (T : Nat) (cs : List AV)
  | arr (T : Nat) (k : U.K) (xs : List (U.El k)) (sp : Nat)
  | ro (k : U.K) (xs : List (U.El k))
  | mp (kk : IntKind) (k : U.K) (m : List (Int × U.El k))
  | obj (x : U.O)
  | pool (p : Pool)
  | rpool (f : RPool)

def relV (agg : Bool) (r : Nm) (cs : List AV) (v : Value) : Prop :=
  match agg with
  | true => ∃ vs, relL r cs vs ∧ v = .agg vs.toArray
  | false => relL r cs [v]

def relM {α : Type} (E : Enc α) (kk : IntKind) (r : Nm) : List (Int × α) → List MapEntry → Prop
  | [], es => es = []
  | (n, x) :: m, es => ∃ e fs, es = e :: fs ∧ e.key = .int kk n ∧ relV E.agg r (E.enc x) e.val ∧ relM E kk r m fs

def rowAt {α : Type} (E : Enc α) (r : Nm) (xs : List α) (c : Array Value) (o : Nat) : Prop :=
  ∀ i x, xs[i]? = some x → relL r (E.enc x) ((c.toList.drop (o + i * E.w)).take E.w)

section
variable {U : Uni}

def Blk.den (G : Hp) (r : Nm) (id : Nat) : Blk U → Hp → Prop
  | .cells T cs, H => ∃ b vs, r id = some (b, 0) ∧ relL r cs vs ∧ H = Hp.one b (.cells vs.toArray T (0, 0))
  | .arr T k xs sp, H => (xs.length + sp = 0 ∧ H = Hp.nil) ∨ ∃ b c, r id = some (b, 0) ∧ rowAt (U.enc k) r xs c 0 ∧ c.size = (xs.length + sp) * (U.enc k).w ∧ xs.length + sp ≤ maxLen ∧ H = Hp.one b (.cells c T (0, 0))
  | .ro k xs, H => (∀ i x, xs[i]? = some x → ∃ b o c T fz, r id = some (b, o) ∧ G b = some (.cells c T fz) ∧ relL r ((U.enc k).enc x) ((c.toList.drop (o + i * (U.enc k).w)).take (U.enc k).w)) ∧ H = Hp.nil
  | .mp kk k m, H => ∃ b es clock, r id = some (b, 0) ∧ relM (U.enc k) kk r m es.toList ∧ MapKept.Stamped es clock ∧ H = Hp.one b (.map es clock)
  | .obj x, H => ∃ b, r id = some (b, 0) ∧ U.D x b H
  | .pool p, H => H = p.hp
  | .rpool f, H => f.inG G ∧ H = Hp.nil

theorem relV_mono {agg : Bool} {r s : Nm} (h : r.le s) {cs : List AV} {v : Value} (e : relV agg r cs v) : relV agg s cs v := by
  cases agg
  · exact relL_mono h _ _ e
  · obtain ⟨vs, k, l⟩ := e; exact ⟨vs, relL_mono h _ _ k, l⟩
theorem relM_mono {α : Type} {E : Enc α} {kk : IntKind} {r s : Nm} (h : r.le s) : ∀ {m : List (Int × α)} {es : List MapEntry}, relM E kk r m es → relM E kk s m es
  | [], _, e => e
  | (_, _) :: _, _, ⟨e, fs, a, b, c, d⟩ => ⟨e, fs, a, b, relV_mono h c, relM_mono h d⟩
theorem rowAt_mono {α : Type} {E : Enc α} {r s : Nm} (h : r.le s) {xs : List α} {c : Array Value} {o : Nat} (k : rowAt E r xs c o) : rowAt E s xs c o :=
  fun i x e => relL_mono h _ _ (k i x e)
theorem Blk.den_mono {G : Hp} {r s : Nm} (h : r.le s) {id : Nat} {B : Blk U} {H : Hp} (k : B.den G r id H) : B.den G s id H := by
  cases B with
  | cells T cs => obtain ⟨b, vs, a, b', c⟩ := k; exact ⟨b, vs, h _ _ a, relL_mono h _ _ b', c⟩
  | arr T kk xs sp =>
    rcases k with k | ⟨b, c, a, b', d⟩
    · exact .inl k
    · exact .inr ⟨b, c, h _ _ a, rowAt_mono h b', d⟩
  | ro kk xs =>
    obtain ⟨a, b⟩ := k
    exact ⟨fun i x e => let ⟨b, o, c, T, fz, a1, a2, a3⟩ := a i x e; ⟨b, o, c, T, fz, h _ _ a1, a2, relL_mono h _ _ a3⟩, b⟩
  | mp kk kx m => obtain ⟨b, es, cl, a, b', s, c⟩ := k; exact ⟨b, es, cl, h _ _ a, relM_mono h b', s, c⟩
  | obj x => obtain ⟨b, a, c⟩ := k; exact ⟨b, h _ _ a, c⟩
  | pool p => exact k
  | rpool f => exact k

abbrev Heap (U : Uni) := List (Nat × Blk U)

def Heap.get : Heap U → Nat → Option (Blk U)
  | [], _ => none
  | (i, b) :: h, id => bif Nat.beq i id then some b else Heap.get h id
def Heap.set : Heap U → Nat → Blk U → Heap U
  | [], _, _ => []
  | (i, b) :: h, id, c => bif Nat.beq i id then (i, c) :: h else (i, b) :: Heap.set h id c
def Heap.del : Heap U → Nat → Heap U
  | [], _ => []
  | (i, b) :: h, id => bif Nat.beq i id then h else (i, b) :: Heap.del h id

def Heap.den (G : Hp) (r : Nm) : Heap U → Hp → Prop
  | [], H => H = Hp.nil
  | (id, B) :: h, H => ∃ H1 H2, B.den G r id H1 ∧ Heap.den G r h H2 ∧ H1.apart H2 ∧ H = H1.join H2

theorem Heap.den_mono {G : Hp} {r s : Nm} (h : r.le s) : ∀ {hp : Heap U} {H : Hp}, hp.den G r H → hp.den G s H
  | [], _, e => e
  | (_, _) :: _, _, ⟨H1, H2, a, b, c, d⟩ => ⟨H1, H2, Blk.den_mono h a, Heap.den_mono h b, c, d⟩

/-- The block of a name, apart from the rest. -/
theorem Heap.focus {G : Hp} {r : Nm} {id : Nat} {B : Blk U} : ∀ {h : Heap U} {H : Hp}, h.den G r H → h.get id = some B →
    ∃ H1 H2, B.den G r id H1 ∧ H1.apart H2 ∧ H = H1.join H2 ∧ (h.del id).den G r H2 ∧
      ∀ (s : Nm) (B' : Blk U) (H1' : Hp), r.le s → B'.den G s id H1' → H1'.apart H2 → (h.set id B').den G s (H1'.join H2)
  | [], _, _, e => by simp [Heap.get] at e
  | (i, C) :: h, H, ⟨H1, H2, a, b, c, d⟩, e => by
    unfold Heap.get at e
    cases hi : Nat.beq i id with
    | true =>
      rw [hi] at e; simp at e; subst e
      have : i = id := Nat.eq_of_beq_eq_true hi
      subst this
      refine ⟨H1, H2, a, c, d, by simp [Heap.del]; exact b, fun s B' H1' hs hB ha => ?_⟩
      unfold Heap.set; rw [hi]; exact ⟨H1', H2, hB, Heap.den_mono hs b, ha, rfl⟩
    | false =>
      rw [hi] at e; simp at e
      obtain ⟨K1, K2, p1, p2, p3, p4, p5⟩ := Heap.focus b e
      subst p3; subst d
      have q := Hp.apart_join.1 c
      refine ⟨K1, H1.join K2, p1, Hp.apart_join.2 ⟨q.1.symm, p2⟩, ?_, ?_, ?_⟩
      · rw [← Hp.join_assoc, Hp.join_comm q.1, Hp.join_assoc]
      · unfold Heap.del; rw [hi]; exact ⟨H1, K2, a, p4, q.2, rfl⟩
      · intro s B' K1' hs hB ha
        have q' := Hp.apart_join.1 ha
        unfold Heap.set; rw [hi]
        refine ⟨H1, K1'.join K2, Blk.den_mono hs a, p5 s B' K1' hs hB q'.2, Hp.apart_join.2 ⟨q'.1.symm, q.2⟩, ?_⟩
        rw [← Hp.join_assoc, Hp.join_comm q'.1, Hp.join_assoc]

/-! ## worlds -/
/-- What stays: memory that is none of ours, and the streams. -/
structure Base where
  G : Hp
  os : Os
  output : Array (Nat × ByteArray)
  tape : Nat → Question → Nat

structure Base.met (β : Base) (w : World) : Prop where
  os : w.os = β.os
  output : w.output = β.output
  tape : w.tape = β.tape
  G : β.G.inW w

def Sat (β : Base) (r : Nm) (h : Heap U) (w : World) : Prop := β.met w ∧ ∃ H, h.den β.G r H ∧ H.apart β.G ∧ H.inW w

theorem Sat.mono {β : Base} {r s : Nm} (h : r.le s) {hp : Heap U} {w : World} (k : Sat β r hp w) : Sat β s hp w :=
  let ⟨a, H, b, c⟩ := k; ⟨a, H, Heap.den_mono h b, c⟩
theorem Sat.drew {β : Base} {r : Nm} {hp : Heap U} {w : World} (k : Sat β r hp w) : Sat β r hp w.drew := by
  obtain ⟨a, H, b, c, d⟩ := k
  exact ⟨⟨a.os, a.output, a.tape, a.G⟩, H, b, c, d⟩

theorem heap_old {w : World} {o : Obj} {A : Hp} (h : A.inW w) : A.inW (w.alloc o) := fun x o' e => by
  rw [Go.RowKit.Below.heap_alloc w o x (Hp.lt h e)]; exact h x o' e

/-- A new block under a new name. -/
theorem Sat.new {β : Base} {r : Nm} {hp : Heap U} {w : World} (k : Sat β r hp w) {id : Nat} (hid : r id = none) {B : Blk U} {o : Obj}
    (hB : B.den β.G (r.put id (w.heap.size, 0)) id (Hp.one w.heap.size o)) : Sat β (r.put id (w.heap.size, 0)) ((id, B) :: hp) (w.alloc o) := by
  obtain ⟨a, H, b, c, d⟩ := k
  have hn : ∀ {A : Hp}, A.inW w → A w.heap.size = none := fun {A} hA => by
    cases e : A w.heap.size with
    | none => rfl
    | some o' => exact absurd (Hp.lt hA e) (Nat.lt_irrefl _)
  refine ⟨⟨a.os, a.output, a.tape, heap_old a.G⟩, (Hp.one w.heap.size o).join H, ⟨_, H, hB, Heap.den_mono (Nm.le_put hid) b, Hp.one_apart.2 (hn d), rfl⟩, ?_, ?_⟩
  · exact Hp.join_apart.2 ⟨Hp.one_apart.2 (hn a.G), c⟩
  · exact (Hp.inW_join (Hp.one_apart.2 (hn d))).2 ⟨Hp.inW_one.2 (heap_alloc_new w o), heap_old d⟩

/-- One block of ours written anew. -/
theorem Sat.write {β : Base} {r : Nm} {hp : Heap U} {w w' : World} (k : Sat β r hp w) {id : Nat} {B B' : Blk U} (hg : hp.get id = some B)
    {b : Nat} (o' : Obj) (hone : ∀ H1, B.den β.G r id H1 → ∃ o, H1 = Hp.one b o)
    (hB : B'.den β.G r id (Hp.one b o')) (hw : w'.heap[b]? = some o') (hs : ∀ x, x ≠ b → w'.heap[x]? = w.heap[x]?)
    (h1 : w'.os = w.os) (h2 : w'.output = w.output) (h3 : w'.tape = w.tape) : Sat β r (hp.set id B') w' := by
  obtain ⟨a, H, p, c, d⟩ := k
  obtain ⟨H1, H2, q1, q2, q3, _, q5⟩ := Heap.focus p hg
  obtain ⟨o, rfl⟩ := hone H1 q1
  subst q3
  have c' := Hp.join_apart.1 c
  have ap : (Hp.one b o').apart H2 := Hp.one_apart.2 (Hp.one_apart.1 q2)
  have apG : (Hp.one b o').apart β.G := Hp.one_apart.2 (Hp.one_apart.1 c'.1)
  have d' := (Hp.inW_join q2).1 d
  have keep : ∀ {A : Hp}, A.inW w → A b = none → A.inW w' := fun {A} hA hb x o e => by
    rw [hs x (fun hx => by rw [hx, hb] at e; cases e)]; exact hA x o e
  refine ⟨⟨h1.trans a.os, h2.trans a.output, h3.trans a.tape, keep a.G (Hp.one_apart.1 c'.1)⟩, (Hp.one b o').join H2, q5 r B' _ (Nm.le.refl r) hB ap, ?_, ?_⟩
  · exact Hp.join_apart.2 ⟨apG, c'.2⟩
  · exact (Hp.inW_join ap).2 ⟨Hp.inW_one.2 hw, keep d'.2 (Hp.one_apart.1 q2)⟩

/-- Reading a block of ours. -/
theorem Sat.at {β : Base} {r : Nm} {hp : Heap U} {w : World} (k : Sat β r hp w) {id : Nat} {B : Blk U} (hg : hp.get id = some B) :
    ∃ H1, B.den β.G r id H1 ∧ H1.inW w ∧ β.G.inW w := by
  obtain ⟨a, H, p, c, d⟩ := k
  obtain ⟨H1, H2, q1, q2, q3, _, _⟩ := Heap.focus p hg
  subst q3
  exact ⟨H1, q1, ((Hp.inW_join q2).1 d).1, a.G⟩

theorem Sat.del {β : Base} {r : Nm} {hp : Heap U} {w : World} (k : Sat β r hp w) {id : Nat} {B : Blk U} (hg : hp.get id = some B) : Sat β r (hp.del id) w := by
  obtain ⟨a, H, p, c, d⟩ := k
  obtain ⟨H1, H2, q1, q2, q3, q4, _⟩ := Heap.focus p hg
  subst q3
  exact ⟨a, H2, q4, (Hp.join_apart.1 c).2, ((Hp.inW_join q2).1 d).2⟩

end
end Sx
end Go.Proofs.YtmcmdghmglopnaaGreatDoor

/-
  What comes of a run (a tree of ways), the table of types, and operations that only read: what they tell, and that the model tells the same.
-/
namespace Go.Proofs.YtmcmdghmglopnaaGreatDoor
namespace Sx
open Go

inductive EX where
  | nx | rt | ex (id : Nat)

structure St (U : Uni) where
  env : List (Nat × AV)
  heap : Heap U
  nx : Nat
  nt : Nat
  tl : List Nat

inductive Out (U : Uni) : Type 1 where
  | fin (v : AV) (h : Heap U) (n : Nat)
  | stop (e : EX) (s : St U)
  | ite (b : Bool) (t e : Out U)
  | need (p : Prop) (k : Out U)
  | needd (p : Prop) [d : Decidable p] (k : Out U)
  | same (a b : Nat) (k : Out U)
  | asm (p : Prop) (k : Out U)
  | all (β : Type) (f : β → Out U)
  | ex (β : Type) (f : β → Out U)
  | both (a b : Out U)
  | maybe (b : Bool) (t e : Out U)
  | bad (n : Nat)

structure Goal (U : Uni) where
  Q : EX → St U → Prop
  F : AV → Heap U → Nat → Prop

section
variable {U : Uni}

def Out.holds (M : Goal U) : Out U → Prop
  | .fin v h n => M.F v h n
  | .stop e s => M.Q e s
  | .ite b t e => (b = true → t.holds M) ∧ (b = false → e.holds M)
  | .need p k => p ∧ k.holds M
  | @Out.needd _ p _ k => p ∧ k.holds M
  | .same a b k => a = b ∧ k.holds M
  | .asm p k => p → k.holds M
  | .all _ f => ∀ x, (f x).holds M
  | .ex _ f => ∃ x, (f x).holds M
  | .both a b => a.holds M ∧ b.holds M
  | .maybe b t e => (b = true → t.holds M) ∧ e.holds M
  | .bad _ => False

/-! ## the table of types -/
inductive TK where
  | int (k : IntKind) | bool | str | ptr (e : Nat) | slice (e : Nat) | array (n e : Nat) | struct (fs : List (Nat × Nat)) | map (k e : Nat) | iface | func | other

structure TyRow where
  kind : TK
  size : Nat
  bytes : Nat
  zero : List AV
  cmp : Bool
  pool : Bool
  meths : List (String × Nat)
  quick : Bool

def TK.agg : TK → Bool
  | .array .. | .struct .. => true
  | _ => false

def TK.met (P : Program) (t : Nat) : TK → Prop
  | .int k => P.underlying t = some (.int k)
  | .bool => P.underlying t = some .bool
  | .str => P.underlying t = some .string
  | .ptr e => P.underlying t = some (.pointer e)
  | .slice e => P.underlying t = some (.slice e)
  | .array n e => P.underlying t = some (.array n e)
  | .struct fs => ∃ fields, P.underlying t = some (.struct fields) ∧ fields.toList.map (fun f => (f.offset, f.type)) = fs
  | .map k e => P.underlying t = some (.map k e)
  | .iface => ∃ ms, P.underlying t = some (.interface ms)
  | .func => ∃ a b c, P.underlying t = some (.func a b c)
  | .other => ∃ d, P.underlying t = some d ∧ (match d with | .struct _ | .array _ _ => False | _ => True)

structure TyRow.met (P : Program) (t : Nat) (R : TyRow) : Prop where
  kind : R.kind.met P t
  info : ∃ i z, P.info? t = some i ∧ i.size = R.size ∧ i.bytes = R.bytes ∧ i.zero = some z ∧ z.cells.size = R.size ∧ relV R.kind.agg (fun _ => none) R.zero z ∧ relL (fun _ => none) R.zero z.cells.toList
  cmp : R.cmp = true → P.stoodInHeld t = false ∧ P.eqGuardType P.depth t = false ∧ ∀ fields, P.underlying t = some (.struct fields) → ∀ f ∈ fields.toList, f.name ≠ "_"
  meths : ∀ q ∈ R.meths, ∀ (v : Value) (w : World), (Go.method (P.types.size + Made.depth) t v q.1).run P w = .ok (q.2, v) w

abbrev Tab := Nat → Option TyRow
def Tab.met (P : Program) (τ : Tab) : Prop := ∀ t R, τ t = some R → R.met P t

/-! ## numbers and truths among the values -/
def AV.num : AV → Option (IntKind × Int × Bool)
  | .int k n => some (k, n, false)
  | .lit k n => some (k, n, true)
  | _ => none
def AV.bl : AV → Option (Bool × Bool)
  | .tt => some (true, true)
  | .ff => some (false, true)
  | .bool b => some (b, false)
  | _ => none
def mkInt (l : Bool) (k : IntKind) (n : Int) : AV := bif l then .lit k n else .int k n
def mkBool (l : Bool) (b : Bool) : AV := bif l then (bif b then .tt else .ff) else .bool b
theorem rel_mkInt {r : Nm} {l : Bool} {k : IntKind} {n : Int} {v : Value} : rel r (mkInt l k n) v ↔ v = .int k n := by cases l <;> simp [mkInt, rel]
theorem rel_mkBool {r : Nm} {l b : Bool} {v : Value} : rel r (mkBool l b) v ↔ v = .bool b := by cases l <;> cases b <;> simp [mkBool, rel]
theorem rel_num {r : Nm} {x : AV} {k : IntKind} {n : Int} {l : Bool} (h : x.num = some (k, n, l)) {v : Value} (e : rel r x v) : v = .int k n := by
  cases x <;> simp [AV.num] at h <;> obtain ⟨rfl, rfl, rfl⟩ := h <;> simpa [rel] using e
theorem rel_bl {r : Nm} {x : AV} {b l : Bool} (h : x.bl = some (b, l)) {v : Value} (e : rel r x v) : v = .bool b := by
  cases x <;> simp [AV.bl] at h <;> obtain ⟨rfl, rfl⟩ := h <;> simpa [rel] using e

def cellAV : Value → AV
  | .int k n => .lit k n
  | .bool true => .tt
  | .bool false => .ff
  | .pointer none => .nilP
  | .slice none 0 0 => .nilS
  | .map none => .nilM
  | .nilIface => .nilI
  | .nilFunc => .nilF
  | v => .raw v
def constAV : Value → AV
  | .agg cs => .agg (cs.toList.map cellAV)
  | v => cellAV v
theorem rel_cellAV (r : Nm) (v : Value) : rel r (cellAV v) v := by
  unfold cellAV; split <;> simp [rel]
theorem relL_cellAV (r : Nm) : ∀ l : List Value, relL r (l.map cellAV) l
  | [] => relL_nil
  | v :: l => relL_cons.2 ⟨rel_cellAV r v, relL_cellAV r l⟩
theorem rel_constAV (r : Nm) (v : Value) : rel r (constAV v) v := by
  unfold constAV; split
  · exact ⟨_, relL_cellAV r _, by simp⟩
  · exact rel_cellAV r v

/-! ## binary operations -/
def bitsOp (op : BinOp) (k : IntKind) (x y : Int) : Int :=
  let a := BitVec.ofInt k.bits x
  let b := BitVec.ofInt k.bits y
  match op with
  | .and => k.wrap (a &&& b).toNat
  | .or => k.wrap (a ||| b).toNat
  | .xor => k.wrap (a ^^^ b).toNat
  | _ => k.wrap (a &&& ~~~b).toNat

def evalBin (op : BinOp) (x y : AV) (K : AV → Out U) : Out U :=
  match x.num, y.num with
  | some (k, a, la), some (k', b, lb) =>
    match op with
    | .shl => bif la && lb then (bif decide (b < 0) then .bad 1 else K (.lit k (k.wrap (a * 2 ^ (min b.toNat k.bits))))) else .needd (0 ≤ b) (K (.int k (k.wrap (a * 2 ^ (min b.toNat k.bits)))))
    | .shr => bif la && lb then (bif decide (b < 0) then .bad 1 else K (.lit k (a.fdiv (2 ^ (min b.toNat k.bits))))) else .needd (0 ≤ b) (K (.int k (a.fdiv (2 ^ (min b.toNat k.bits)))))
    | .quo => bif decide (k = k') then (bif lb then (bif decide (b = 0) then .bad 2 else K (mkInt la k (k.wrap (a.tdiv b)))) else .needd (b ≠ 0) (K (.int k (k.wrap (a.tdiv b))))) else .bad 3
    | .rem => bif decide (k = k') then (bif lb then (bif decide (b = 0) then .bad 2 else K (mkInt la k (a.tmod b))) else .needd (b ≠ 0) (K (.int k (a.tmod b)))) else .bad 3
    | .add => bif decide (k = k') then K (mkInt (la && lb) k (k.wrap (a + b))) else .bad 3
    | .sub => bif decide (k = k') then K (mkInt (la && lb) k (k.wrap (a - b))) else .bad 3
    | .mul => bif decide (k = k') then K (mkInt (la && lb) k (k.wrap (a * b))) else .bad 3
    | .eql => bif decide (k = k') then K (mkBool (la && lb) (a == b)) else .bad 3
    | .neq => bif decide (k = k') then K (mkBool (la && lb) (a != b)) else .bad 3
    | .lss => bif decide (k = k') then K (mkBool (la && lb) (decide (a < b))) else .bad 3
    | .leq => bif decide (k = k') then K (mkBool (la && lb) (decide (a ≤ b))) else .bad 3
    | .gtr => bif decide (k = k') then K (mkBool (la && lb) (decide (a > b))) else .bad 3
    | .geq => bif decide (k = k') then K (mkBool (la && lb) (decide (a ≥ b))) else .bad 3
    | .and => bif decide (k = k') then K (mkInt (la && lb) k (bitsOp .and k a b)) else .bad 3
    | .or => bif decide (k = k') then K (mkInt (la && lb) k (bitsOp .or k a b)) else .bad 3
    | .xor => bif decide (k = k') then K (mkInt (la && lb) k (bitsOp .xor k a b)) else .bad 3
    | .andNot => bif decide (k = k') then K (mkInt (la && lb) k (bitsOp .andNot k a b)) else .bad 3
  | _, _ => .bad 5

theorem holds_bif {M : Goal U} {b : Bool} {x y : Out U} : (bif b then x else y).holds M ↔ if b = true then x.holds M else y.holds M := by cases b <;> simp

theorem evalBin_sound {M : Goal U} {op : BinOp} {x y : AV} {K : AV → Out U} (h : (evalBin op x y K).holds M) :
    ∃ v, (K v).holds M ∧ ∀ (P : Program) (r : Nm) (w : World) (T : Nat) (u u' : Value) (p q : Operand), rel r x u → rel r y u' →
      ∃ z, (do eqGuard op T p q u u'; binOp op T u u' : Sem Value).run P w = .ok z w ∧ rel r v z := by
  unfold evalBin at h
  split at h
  · rename_i k a la k' b lb hx hy
    cases op <;> simp only [holds_bif, Out.holds] at h <;>
      first
        | (exact h.elim)
        | (split at h
           · rename_i hk
             first
               | (simp only [decide_eq_true_eq] at hk; subst hk
                  first
                    | (refine ⟨_, h, fun P r w T u u' p q hu hu' => ?_⟩
                       have e1 := rel_num hx hu; have e2 := rel_num hy hu'; subst e1; subst e2
                       exact ⟨_, by simp [eqGuard, binOp, Op.intArith, Op.intCmp, Op.intBits]; rfl, by simp [rel_mkInt, rel_mkBool, bitsOp]⟩)
                    | (split at h
                       · split at h
                         · exact h.elim
                         · rename_i hb
                           simp only [decide_eq_true_eq] at hb
                           refine ⟨_, h, fun P r w T u u' p q hu hu' => ?_⟩
                           have e1 := rel_num hx hu; have e2 := rel_num hy hu'; subst e1; subst e2
                           exact ⟨_, by simp [eqGuard, binOp, Op.intDiv, hb]; rfl, by simp [rel_mkInt]⟩
                       · obtain ⟨hb, h⟩ := h
                         refine ⟨_, h, fun P r w T u u' p q hu hu' => ?_⟩
                         have e1 := rel_num hx hu; have e2 := rel_num hy hu'; subst e1; subst e2
                         exact ⟨_, by simp [eqGuard, binOp, Op.intDiv, hb]; rfl, by simp [rel]⟩))
               | (split at h
                  · exact h.elim
                  · rename_i hb
                    simp only [decide_eq_true_eq] at hb
                    refine ⟨_, h, fun P r w T u u' p q hu hu' => ?_⟩
                    have e1 := rel_num hx hu; have e2 := rel_num hy hu'; subst e1; subst e2
                    exact ⟨_, by simp [eqGuard, binOp, Op.shift, hb]; rfl, by simp [rel]⟩)
           · first
               | (exact h.elim)
               | (obtain ⟨hb, h⟩ := h
                  refine ⟨_, h, fun P r w T u u' p q hu hu' => ?_⟩
                  have e1 := rel_num hx hu; have e2 := rel_num hy hu'; subst e1; subst e2
                  exact ⟨_, by simp [eqGuard, binOp, Op.shift, Int.not_lt.2 hb]; rfl, by simp [rel]⟩))
  · exact h.elim

end
end Sx
end Go.Proofs.YtmcmdghmglopnaaGreatDoor

/-
  Operations that only read (what they tell, out of what is known), and that the model tells the same.
-/
namespace Go.Proofs.YtmcmdghmglopnaaGreatDoor
namespace Sx
open Go

section
variable {U : Uni} {P : Program} {τ : Tab}

theorem run_isAgg {t : Nat} {R : TyRow} (h : R.met P t) (w : World) : (isAgg t).run P w = .ok R.kind.agg w := by
  have k := h.kind
  unfold isAgg
  cases hk : R.kind <;> rw [hk] at k <;> simp only [TK.met] at k <;>
    first
      | (simp [run_underlying k, TK.agg]; done)
      | (obtain ⟨fs, k, _⟩ := k; simp [run_underlying k, TK.agg]; done)
      | (obtain ⟨ms, k⟩ := k; simp [run_underlying k, TK.agg]; done)
      | (obtain ⟨a, b, c, k⟩ := k; simp [run_underlying k, TK.agg]; done)
      | (obtain ⟨d, k, hd⟩ := k; simp only [Sem.run_bind, run_underlying k, Result.andThen_ok]; cases d <;> simp_all [TK.agg])
theorem run_sizeOf {t : Nat} {R : TyRow} (h : R.met P t) (w : World) : (sizeOf t).run P w = .ok R.size w := by
  obtain ⟨i, z, hi, hs, _⟩ := h.info
  simp [sizeOf, typeInfo, hi, hs]

def partAV (τ : Tab) (t : Nat) (cs : List AV) (off : Nat) : Option AV :=
  match τ t with
  | some R => bif R.kind.agg then (bif Nat.ble (off + R.size) cs.length then some (.agg ((cs.drop off).take R.size)) else none) else cs[off]?
  | none => none
theorem partAV_sound (hτ : τ.met P) {t : Nat} {cs : List AV} {off : Nat} {x : AV} (h : partAV τ t cs off = some x) {r : Nm} {vs : List Value} (hr : relL r cs vs) (w : World) :
    ∃ v, (part t vs.toArray off).run P w = .ok v w ∧ rel r x v := by
  unfold partAV at h
  cases hR : τ t with
  | none => rw [hR] at h; simp at h
  | some R =>
    rw [hR] at h; simp only at h
    have hm := hτ t R hR
    unfold part
    simp only [Sem.run_bind, run_isAgg hm, Result.andThen_ok]
    cases ha : R.kind.agg with
    | true =>
      rw [ha] at h; simp only [cond_true] at h
      cases hb : Nat.ble (off + R.size) cs.length with
      | false => rw [hb] at h; simp at h
      | true =>
        rw [hb] at h; simp at h; subst h
        refine ⟨_, by simp [run_sizeOf hm]; rfl, ⟨_, relL_take (relL_drop hr off) R.size, ?_⟩⟩
        simp [List.take_drop]
    | false =>
      rw [ha] at h; simp only [cond_false] at h
      obtain ⟨u, hu, hru⟩ := relL_get hr h
      exact ⟨u, by simp [hu], hru⟩

/-! ## equality -/
def eqOne (x y : AV) : Option (Bool × Bool) :=
  match x.num, y.num with
  | some (k, a, la), some (k', b, lb) => bif decide (k = k') then some (a == b, la && lb) else none
  | _, _ => match x.bl, y.bl with
    | some (a, la), some (b, lb) => some (a == b, la && lb)
    | _, _ => none

def cellsAV : AV → List AV
  | .agg cs => cs
  | x => [x]

def eqAV (τ : Tab) : Nat → Nat → AV → AV → Option (Bool × Bool)
  | 0, _, _, _ => none
  | n + 1, t, x, y =>
    match τ t with
    | none => none
    | some R =>
      match R.kind with
      | .int _ => match x.num, y.num with
        | some (k, a, la), some (k', b, lb) => bif decide (k = k') then some (a == b, la && lb) else none
        | _, _ => none
      | .bool => match x.bl, y.bl with
        | some (a, la), some (b, lb) => some (a == b, la && lb)
        | _, _ => none
      | .struct fs => bif R.cmp then (match x, y with
        | .agg xs, .agg ys => fs.foldr (fun f acc => match partAV τ f.2 xs f.1, partAV τ f.2 ys f.1, acc with
            | some a, some b, some (c, lc) => (match eqAV τ n f.2 a b with | some (d, ld) => some (d && c, ld && lc) | none => none)
            | _, _, _ => none) (some (true, true))
        | _, _ => none) else none
      | .array m e => bif R.cmp then (match x, y, τ e with
        | .agg xs, .agg ys, some RE => (List.range m).foldr (fun i acc => match partAV τ e xs (i * RE.size), partAV τ e ys (i * RE.size), acc with
            | some a, some b, some (c, lc) => (match eqAV τ n e a b with | some (d, ld) => some (d && c, ld && lc) | none => none)
            | _, _, _ => none) (some (true, true))
        | _, _, _ => none) else none
      | _ => none

theorem eqAV_sound (hτ : τ.met P) : ∀ (n t : Nat) (x y : AV) (b l : Bool), eqAV τ n t x y = some (b, l) → ∀ (r : Nm) (u v : Value), rel r x u → rel r y v → ∀ (d : Nat) (w : World), n ≤ d →
    (Op.equalIn d t u v).run P w = .ok b w := by
  intro n
  induction n with
  | zero => intro t x y b l h; simp [eqAV] at h
  | succ n ih =>
    intro t x y b l h r u v hu hv d w hd
    obtain ⟨d, rfl⟩ : ∃ e, d = e + 1 := ⟨d - 1, by omega⟩
    simp only [eqAV] at h
    cases hR : τ t with
    | none => rw [hR] at h; simp at h
    | some R =>
      rw [hR] at h; simp only at h
      have hm := hτ t R hR
      have hk := hm.kind
      cases hK : R.kind <;> rw [hK] at h hk <;> simp only [TK.met] at hk <;> simp only at h <;> try (simp at h; done)
      · -- int
        split at h
        · rename_i k a la k' b' lb hx hy
          have e1 := rel_num hx hu; have e2 := rel_num hy hv
          subst e1; subst e2
          cases hkk : decide (k = k') with
          | false => rw [hkk] at h; simp at h
          | true =>
            simp only [decide_eq_true_eq] at hkk; subst hkk
            simp at h
            rw [run_equalIn_int w d t k _ a b' hk, ← h.1]
        · simp at h
      · split at h
        · rename_i a la b' lb hx hy
          have e1 := rel_bl hx hu; have e2 := rel_bl hy hv
          subst e1; subst e2
          simp at h
          rw [run_equalIn_bool w d t a b' hk, ← h.1]
        · simp at h
      · rename_i m e
        cases hc : R.cmp with
        | false => rw [hc] at h; simp at h
        | true =>
          rw [hc] at h; simp only [cond_true] at h
          split at h
          · rename_i xs ys RE hRE
            obtain ⟨us, hus, rfl⟩ := hu
            obtain ⟨vs, hvs, rfl⟩ := hv
            obtain ⟨ie, ze, hie, hsz, _⟩ := (hτ e RE hRE).info
            have hcell : P.cellsOf e = RE.size := by simp [Program.cellsOf, hie, hsz]
            rw [run_equalIn_array w d _ _ hk hie, hcell]
            generalize List.range m = is at h
            induction is generalizing b l with
            | nil => simp at h; obtain ⟨rfl, _⟩ := h; rfl
            | cons i is ihl =>
              simp only [List.foldr_cons] at h
              split at h
              · rename_i a1 b1 c lc ha hb hacc
                split at h
                · rename_i d1 ld he
                  simp only [Option.some.injEq, Prod.mk.injEq] at h
                  obtain ⟨rfl, _⟩ := h
                  obtain ⟨p1, hp1, hq1⟩ := partAV_sound hτ ha hus w
                  obtain ⟨p2, hp2, hq2⟩ := partAV_sound hτ hb hvs w
                  have hrun := ih _ _ _ _ _ he r p1 p2 hq1 hq2 d w (by omega)
                  simp only [Op.eqItems, Sem.run_bind, hp1, hp2, hrun, Result.andThen_ok]
                  cases d1
                  · simp
                  · simp only [Bool.not_true, Bool.false_eq_true, if_false, Bool.true_and]
                    exact ihl _ _ hacc
                · simp at h
              · simp at h
          · simp at h
      · rename_i fs
        cases hc : R.cmp with
        | false => rw [hc] at h; simp at h
        | true =>
          rw [hc] at h; simp only [cond_true] at h
          obtain ⟨hs1, _, hs3⟩ := hm.cmp hc
          obtain ⟨fields, hf, hmap⟩ := hk
          split at h
          · rename_i xs ys
            obtain ⟨us, hus, rfl⟩ := hu
            obtain ⟨vs, hvs, rfl⟩ := hv
            have hfo : P.fieldsOf t = fields := by simp [Program.fieldsOf, hf]
            rw [run_equalIn_struct w d t _ _ (by rw [hfo]; exact hf) hs1, hfo]
            have hn := hs3 fields hf
            rw [← hmap] at h
            clear hmap hfo hf hs3
            generalize fields.toList = fl at h hn
            induction fl generalizing b l with
            | nil => simp at h; obtain ⟨rfl, _⟩ := h; rfl
            | cons f fl ihl =>
              simp only [List.map_cons, List.foldr_cons] at h
              split at h
              · rename_i a1 b1 c lc ha hb hacc
                split at h
                · rename_i d1 ld he
                  simp only [Option.some.injEq, Prod.mk.injEq] at h
                  obtain ⟨rfl, _⟩ := h
                  obtain ⟨p1, hp1, hq1⟩ := partAV_sound hτ ha hus w
                  obtain ⟨p2, hp2, hq2⟩ := partAV_sound hτ hb hvs w
                  have hrun := ih _ _ _ _ _ he r p1 p2 hq1 hq2 d w (by omega)
                  simp only [Op.eqFields, if_pos (hn f (by simp)), Sem.run_bind, hp1, hp2, hrun, Result.andThen_ok]
                  cases d1
                  · simp
                  · simp only [Bool.not_true, Bool.false_eq_true, if_false, Bool.true_and]
                    exact ihl _ _ hacc (fun g hg => hn g (by simp [hg]))
                · simp at h
              · simp at h
          · simp at h

theorem eqAV_struct {n T : Nat} {R : TyRow} {fs : List (Nat × Nat)} (hR : τ T = some R) (hK : R.kind = .struct fs) {x y : AV} {z : Bool × Bool} (h : eqAV τ (n + 1) T x y = some z) :
    R.cmp = true ∧ ∃ xs ys, x = .agg xs ∧ y = .agg ys := by
  simp only [eqAV, hR, hK] at h
  cases hcm : R.cmp with
  | false => rw [hcm] at h; simp at h
  | true =>
    rw [hcm] at h; simp only [cond_true] at h
    split at h
    · exact ⟨rfl, _, _, rfl, rfl⟩
    · simp at h
theorem eqAV_array {n T : Nat} {R : TyRow} {m e : Nat} (hR : τ T = some R) (hK : R.kind = .array m e) {x y : AV} {z : Bool × Bool} (h : eqAV τ (n + 1) T x y = some z) :
    R.cmp = true ∧ ∃ xs ys, x = .agg xs ∧ y = .agg ys := by
  simp only [eqAV, hR, hK] at h
  cases hcm : R.cmp with
  | false => rw [hcm] at h; simp at h
  | true =>
    rw [hcm] at h; simp only [cond_true] at h
    split at h
    · exact ⟨rfl, _, _, rfl, rfl⟩
    · simp at h
theorem eqAV_bool {n T : Nat} {R : TyRow} (hR : τ T = some R) (hK : R.kind = .bool) {x y : AV} {z : Bool × Bool} (h : eqAV τ (n + 1) T x y = some z) :
    ∃ c lc d ld, x.bl = some (c, lc) ∧ y.bl = some (d, ld) := by
  simp only [eqAV, hR, hK] at h
  split at h
  · rename_i a la b lb hx hy; exact ⟨_, _, _, _, hx, hy⟩
  · simp at h

/-- Is it nil, of pointers, slices, maps, functions, interfaces? -/
def AV.isNil : AV → Option Bool
  | .nilP => some true
  | .ptr .. => some false
  | .ptrR .. => some false
  | .nilM => some true
  | .mp _ => some false
  | .nilI => some true
  | .ifc .. => some false
  | .nilF => some true
  | .fn .. => some false
  | _ => none

def AV.isNilP : AV → Bool
  | .nilP => true
  | _ => false
def AV.isNilM : AV → Bool
  | .nilM => true
  | _ => false
def AV.isNilI : AV → Bool
  | .nilI => true
  | _ => false

/-- Equality of what is no number. -/
def evalEql (τ : Tab) (T : Nat) (x y : AV) : Option (Bool × Bool) :=
  match τ T with
  | none => none
  | some R =>
    match R.kind with
    | .bool => eqAV τ 12 T x y
    | .struct _ => eqAV τ 12 T x y
    | .array _ _ => eqAV τ 12 T x y
    | .ptr _ => (match x, y with
      | .nilP, .nilP => some (true, true)
      | .nilP, .ptr .. => some (false, true)
      | .nilP, .ptrR .. => some (false, true)
      | .ptr .., .nilP => some (false, true)
      | .ptrR .., .nilP => some (false, true)
      | _, _ => none)
    | .map _ _ => (match x, y with
      | .nilM, .nilM => some (true, true)
      | .nilM, .mp _ => some (false, true)
      | .mp _, .nilM => some (false, true)
      | _, _ => none)
    | .iface => (match x, y with
      | .ifc .., .nilI => some (false, true)
      | .nilI, .ifc .. => some (false, true)
      | .nilI, .nilI => some (true, true)
      | _, _ => none)
    | .func => (match x, y with
      | .fn .., .nilF => some (false, true)
      | .nilF, .fn .. => some (false, true)
      | .nilF, .nilF => some (true, true)
      | _, _ => none)
    | _ => none

def Operand.isConst : Operand → Bool
  | .const _ => true
  | _ => false

theorem run_both {T : Nat} {u v : Value} {b : Bool} {w : World} {p q : Operand} (g1 : (eqGuard .eql T p q u v).run P w = .ok () w) (g2 : (eqGuard .neq T p q u v).run P w = .ok () w)
    (b1 : binOp .eql T u v = (do pure (.bool (← Op.equal T u v)))) (b2 : binOp .neq T u v = (do pure (.bool (!(← Op.equal T u v)))))
    (he : (Op.equalIn (9999 + 1) T u v).run P w = .ok b w) :
    (do eqGuard .eql T p q u v; binOp .eql T u v : Sem Value).run P w = .ok (.bool b) w ∧ (do eqGuard .neq T p q u v; binOp .neq T u v : Sem Value).run P w = .ok (.bool (!b)) w := by
  have e : (Op.equal T u v).run P w = .ok b w := he
  constructor
  · rw [b1]; simp only [Sem.run_bind, g1, Result.andThen_ok, e, Sem.run_pure]
  · rw [b2]; simp only [Sem.run_bind, g2, Result.andThen_ok, e, Sem.run_pure]

set_option maxHeartbeats 1000000 in
theorem evalEql_sound (hτ : τ.met P) {T : Nat} {x y : AV} {b l : Bool} (h : evalEql τ T x y = some (b, l)) {r : Nm} {u v : Value} (hu : rel r x u) (hv : rel r y v) (w : World) (p q : Operand)
    (hc : Operand.isConst p = true ∨ Operand.isConst q = true ∨ x.isNilI = false ∨ y.isNilI = false) :
    (do eqGuard .eql T p q u v; binOp .eql T u v : Sem Value).run P w = .ok (.bool b) w ∧ (do eqGuard .neq T p q u v; binOp .neq T u v : Sem Value).run P w = .ok (.bool (!b)) w := by
  unfold evalEql at h
  cases hR : τ T with
  | none => rw [hR] at h; simp at h
  | some R =>
    rw [hR] at h; simp only at h
    have hm := hτ T R hR
    have hk := hm.kind
    cases hK : R.kind <;> rw [hK] at h hk <;> simp only [TK.met] at hk <;> simp only at h <;> try (simp at h; done)
    · -- bool
      have he := eqAV_sound hτ 12 T x y b l h r u v hu hv (9999 + 1) w (by omega)
      obtain ⟨c, lc, d, ld, hx, hy⟩ := eqAV_bool (n := 11) hR hK h
      have e1 := rel_bl hx hu; have e2 := rel_bl hy hv
      subst e1; subst e2
      exact run_both rfl rfl rfl rfl he
    · -- ptr
      have key : ∀ (c d : Option Addr) (b : Bool), (c = none ∧ b = d.isNone ∨ d = none ∧ b = c.isNone) → (do eqGuard .eql T p q (.pointer c) (.pointer d); binOp .eql T (.pointer c) (.pointer d) : Sem Value).run P w = .ok (.bool b) w ∧ (do eqGuard .neq T p q (.pointer c) (.pointer d); binOp .neq T (.pointer c) (.pointer d) : Sem Value).run P w = .ok (.bool (!b)) w := by
        intro c d b hh
        refine run_both rfl rfl (by cases c <;> cases d <;> rfl) (by cases c <;> cases d <;> rfl) ?_
        generalize 9999 = n
        rcases hh with ⟨rfl, rfl⟩ | ⟨rfl, rfl⟩
        · cases d <;> simp [Op.equalIn, run_underlying hk]
        · cases c <;> simp [Op.equalIn, run_underlying hk]
      split at h <;> simp at h <;> obtain ⟨rfl, _⟩ := h <;> simp only [rel] at hu hv
      · subst hu; subst hv; exact key _ _ _ (.inl ⟨rfl, rfl⟩)
      · obtain ⟨a, _, rfl⟩ := hv; subst hu; exact key _ _ _ (.inl ⟨rfl, rfl⟩)
      · obtain ⟨a, _, rfl⟩ := hv; subst hu; exact key _ _ _ (.inl ⟨rfl, rfl⟩)
      · obtain ⟨a, _, rfl⟩ := hu; subst hv; exact key _ _ _ (.inr ⟨rfl, rfl⟩)
      · obtain ⟨a, _, rfl⟩ := hu; subst hv; exact key _ _ _ (.inr ⟨rfl, rfl⟩)
    · -- array
      have he := eqAV_sound hτ 12 T x y b l h r u v hu hv (9999 + 1) w (by omega)
      obtain ⟨hcm, xs, ys, rfl, rfl⟩ := eqAV_array (n := 11) hR hK h
      obtain ⟨c, _, rfl⟩ := hu
      obtain ⟨d, _, rfl⟩ := hv
      obtain ⟨_, hg, _⟩ := hm.cmp hcm
      exact run_both (run_eqGuard_agg w _ T p q _ _ hg) (run_eqGuard_agg w _ T p q _ _ hg) rfl rfl he
    · -- struct
      have he := eqAV_sound hτ 12 T x y b l h r u v hu hv (9999 + 1) w (by omega)
      obtain ⟨hcm, xs, ys, rfl, rfl⟩ := eqAV_struct (n := 11) hR hK h
      obtain ⟨c, _, rfl⟩ := hu
      obtain ⟨d, _, rfl⟩ := hv
      obtain ⟨_, hg, _⟩ := hm.cmp hcm
      exact run_both (run_eqGuard_agg w _ T p q _ _ hg) (run_eqGuard_agg w _ T p q _ _ hg) rfl rfl he
    · -- map
      have key : ∀ (c d : Option Nat) (b : Bool), (c = none ∧ b = d.isNone ∨ d = none ∧ b = c.isNone) → (do eqGuard .eql T p q (.map c) (.map d); binOp .eql T (.map c) (.map d) : Sem Value).run P w = .ok (.bool b) w ∧ (do eqGuard .neq T p q (.map c) (.map d); binOp .neq T (.map c) (.map d) : Sem Value).run P w = .ok (.bool (!b)) w := by
        intro c d b hh
        refine run_both rfl rfl rfl rfl ?_
        generalize 9999 = n
        rcases hh with ⟨rfl, rfl⟩ | ⟨rfl, rfl⟩
        · cases d <;> simp [Op.equalIn, run_underlying hk]
        · cases c <;> simp [Op.equalIn, run_underlying hk]
      split at h <;> simp at h <;> obtain ⟨rfl, _⟩ := h <;> simp only [rel] at hu hv
      · subst hu; subst hv; exact key _ _ _ (.inl ⟨rfl, rfl⟩)
      · obtain ⟨a, _, rfl⟩ := hv; subst hu; exact key _ _ _ (.inl ⟨rfl, rfl⟩)
      · obtain ⟨a, _, rfl⟩ := hu; subst hv; exact key _ _ _ (.inr ⟨rfl, rfl⟩)
    · -- iface
      obtain ⟨ms, hk⟩ := hk
      split at h <;> simp at h <;> obtain ⟨rfl, _⟩ := h <;> simp only [rel] at hu hv
      · obtain ⟨a, _, rfl⟩ := hu; subst hv
        exact run_both rfl rfl rfl rfl ((fun n : Nat => show (Op.equalIn (n + 1) _ _ _).run P w = _ by simp [Op.equalIn, run_underlying hk]) 9999)
      · obtain ⟨a, _, rfl⟩ := hv; subst hu
        exact run_both rfl rfl rfl rfl ((fun n : Nat => show (Op.equalIn (n + 1) _ _ _).run P w = _ by simp [Op.equalIn, run_underlying hk]) 9999)
      · subst hu; subst hv
        have hg : ∀ op, (eqGuard op T p q .nilIface .nilIface).run P w = .ok () w := by
          intro op
          rcases hc with hc | hc | hc
          · cases p <;> simp [Operand.isConst] at hc
            cases op <;> rfl
          · cases q <;> simp [Operand.isConst] at hc
            cases p <;> cases op <;> rfl
          · simp [AV.isNilI] at hc
        exact run_both (hg _) (hg _) rfl rfl ((fun n : Nat => show (Op.equalIn (n + 1) _ _ _).run P w = _ by simp [Op.equalIn, run_underlying hk]) 9999)
    · obtain ⟨ms, _, _, hk⟩ := hk
      split at h <;> simp at h <;> obtain ⟨rfl, _⟩ := h <;> simp only [rel] at hu hv
      · obtain ⟨a, b, _, _, rfl⟩ := hu; subst hv
        exact run_both rfl rfl rfl rfl ((fun n : Nat => show (Op.equalIn (n + 1) _ _ _).run P w = _ by simp [Op.equalIn, run_underlying hk]) 9999)
      · obtain ⟨a, b, _, _, rfl⟩ := hv; subst hu
        exact run_both rfl rfl rfl rfl ((fun n : Nat => show (Op.equalIn (n + 1) _ _ _).run P w = _ by simp [Op.equalIn, run_underlying hk]) 9999)
      · subst hu; subst hv
        exact run_both rfl rfl rfl rfl ((fun n : Nat => show (Op.equalIn (n + 1) _ _ _).run P w = _ by simp [Op.equalIn, run_underlying hk]) 9999)

end
end Sx
end Go.Proofs.YtmcmdghmglopnaaGreatDoor

/-
  The operations that leave memory alone: one evaluator for all, and that the model tells the same.
-/
namespace Go.Proofs.YtmcmdghmglopnaaGreatDoor
namespace Sx
open Go

section
variable {U : Uni} {P : Program} {τ : Tab}

def takeRow (agg : Bool) (size : Nat) (cs : List AV) (off : Nat) : Option AV :=
  bif agg then (bif Nat.ble (off + size) cs.length then some (.agg ((cs.drop off).take size)) else none) else cs[off]?

theorem run_loadVar {t : Nat} {R : TyRow} (hm : R.met P t) {w : World} {b o : Nat} {c : Array Value} {E : Nat} {fz : Nat × Nat} (hb : w.heap[b]? = some (.cells c E fz))
    {r : Nm} {cs : List AV} {L : List Value} (hL : relL r cs L) (hc : ∀ j v, L[j]? = some v → c[o + j]? = some v) {off : Nat} {x : AV} (h : takeRow R.kind.agg R.size cs off = some x) :
    ∃ v, (loadVar t ⟨b, o + off, none⟩).run P w = .ok v w ∧ rel r x v := by
  have hcell : ∀ j v, L[j]? = some v → w.cell? ⟨b, o + j, none⟩ = some v := fun j v hj => by rw [cell_of_row w b (o + j) c E fz hb]; exact hc j v hj
  unfold takeRow at h
  unfold loadVar
  simp only [Sem.run_bind, run_isAgg hm, Result.andThen_ok]
  cases ha : R.kind.agg with
  | true =>
    rw [ha] at h; simp only [cond_true] at h
    cases hbl : Nat.ble (off + R.size) cs.length with
    | false => rw [hbl] at h; simp at h
    | true =>
      rw [hbl] at h; simp only [cond_true, Option.some.injEq] at h; subst h
      have hle : off + R.size ≤ cs.length := Nat.le_of_ble_eq_true hbl
      have hlen : ((L.drop off).take R.size).length = R.size := by
        have := relL_length hL; simp; omega
      have hrun := run_loadCells_list (P := P) w ⟨b, o + off, none⟩ ((L.drop off).take R.size) (fun j v hj => by
        rw [Addr.add_lit, Nat.add_assoc]
        refine hcell _ _ ?_
        rw [List.getElem?_take] at hj
        split at hj
        · rwa [List.getElem?_drop] at hj
        · cases hj)
      rw [hlen] at hrun
      exact ⟨.agg ((L.drop off).take R.size).toArray, by simp [run_sizeOf hm, hrun], ⟨_, relL_take (relL_drop hL off) R.size, rfl⟩⟩
  | false =>
    rw [ha] at h; simp only [cond_false] at h
    obtain ⟨u, hu, hru⟩ := relL_get hL h
    exact ⟨u, by simp [hcell _ _ hu], hru⟩

/-- What a place of a block holds. -/
def readAt (R : TyRow) (B : Blk U) (p : AV) (K : AV → Out U) : Out U :=
  match p, B with
  | .ptr _ off, .cells _ cs => (match takeRow R.kind.agg R.size cs off with | some v => K v | none => .bad 20)
  | .ptrR _ i w c, .cells _ cs => (match takeRow R.kind.agg R.size cs (i * w + c) with | some v => K v | none => .bad 21)
  | .ptrR _ i w c, .arr _ k xs _ => bif Nat.beq w (U.enc k).w then .needd (i < xs.length) (match takeRow R.kind.agg R.size ((U.enc k).enc (xs.getD i (U.enc k).dflt)) c with | some v => K v | none => .bad 22) else .bad 23
  | .ptrR _ i w c, .ro k xs => bif Nat.beq w (U.enc k).w then .needd (i < xs.length) (match takeRow R.kind.agg R.size ((U.enc k).enc (xs.getD i (U.enc k).dflt)) c with | some v => K v | none => .bad 24) else .bad 25
  | _, _ => .bad 26

def AV.id? : AV → Option Nat
  | .ptr id _ => some id
  | .ptrR id .. => some id
  | .mp id => some id
  | _ => none

theorem readAt_sound {M : Goal U} {t : Nat} {R : TyRow} (hm : R.met P t) {B : Blk U} {p : AV} {K : AV → Out U} (h : (readAt R B p K).holds M) {id : Nat} (hid : p.id? = some id) :
    ∃ v, (K v).holds M ∧ ∀ (β : Base) (r : Nm) (w : World) (H1 : Hp) (u : Value), rel r p u → B.den β.G r id H1 → H1.inW w → β.G.inW w → ∃ z, (Instr.loadAt t u).run P w = .ok z w ∧ rel r v z := by
  have arrs : ∀ (k : U.K) (xs : List (U.El k)) (i w' c : Nat) (v : AV), w' = (U.enc k).w → i < xs.length → takeRow R.kind.agg R.size ((U.enc k).enc (xs.getD i (U.enc k).dflt)) c = some v →
      ∀ (r : Nm) (w : World) (b o : Nat) (ca : Array Value) (T : Nat) (fz : Nat × Nat), w.heap[b]? = some (.cells ca T fz) →
      (∀ i x, xs[i]? = some x → relL r ((U.enc k).enc x) ((ca.toList.drop (o + i * (U.enc k).w)).take (U.enc k).w)) → ∃ z, (loadVar t ⟨b, o + (i * w' + c), none⟩).run P w = .ok z w ∧ rel r v z := by
    intro k xs i w' c v hw hi htk r w b o ca T fz hb hrow
    subst hw
    have hx : xs[i]? = some (xs.getD i (U.enc k).dflt) := by simp [List.getD, List.getElem?_eq_getElem hi]
    have hl := hrow i _ hx
    have := run_loadVar (P := P) hm (o := o + i * (U.enc k).w) hb hl (fun j v hj => by
      rw [List.getElem?_take] at hj
      split at hj
      · rw [List.getElem?_drop] at hj; simpa using hj
      · cases hj) htk
    rwa [Nat.add_assoc] at this
  unfold readAt at h
  split at h
  · split at h
    · rename_i i off T cs v htk
      simp only [AV.id?, Option.some.injEq] at hid; subst hid
      refine ⟨v, h, fun β r w H1 u hu hB hw _ => ?_⟩
      obtain ⟨x, hx, rfl⟩ := hu
      obtain ⟨b, vs, hb, hrl, rfl⟩ := hB
      rw [hx] at hb; cases hb
      simp only [Instr.loadAt, Instr.sureAddr]
      have := run_loadVar (P := P) hm (o := 0) (Hp.inW_one.1 hw) hrl (fun j v hj => by simpa using hj) htk
      simpa using this
    · exact h.elim
  · split at h
    · rename_i i ii wd c T cs v htk
      simp only [AV.id?, Option.some.injEq] at hid; subst hid
      refine ⟨v, h, fun β r w H1 u hu hB hw _ => ?_⟩
      obtain ⟨x, hx, rfl⟩ := hu
      obtain ⟨b, vs, hb, hrl, rfl⟩ := hB
      rw [hx] at hb; cases hb
      simp only [Instr.loadAt, Instr.sureAddr]
      have := run_loadVar (P := P) hm (o := 0) (Hp.inW_one.1 hw) hrl (fun j v hj => by simpa using hj) htk
      simpa using this
    · exact h.elim
  · rename_i i ii wd c T k xs sp
    rw [holds_bif] at h
    split at h
    · rename_i hwd
      have hwd := Nat.eq_of_beq_eq_true hwd
      obtain ⟨hlt, h⟩ := h
      split at h
      · rename_i v htk
        simp only [AV.id?, Option.some.injEq] at hid; subst hid
        refine ⟨v, h, fun β r w H1 u hu hB hw _ => ?_⟩
        obtain ⟨x, hx, rfl⟩ := hu
        rcases hB with ⟨hz, _⟩ | ⟨b, ca, hb, hrow, _, _, rfl⟩
        · omega
        rw [hx] at hb; cases hb
        simp only [Instr.loadAt, Instr.sureAddr]
        simpa using arrs k xs ii wd c v hwd hlt htk r w b 0 ca T (0, 0) (Hp.inW_one.1 hw) hrow
      · exact h.elim
    · exact h.elim
  · rename_i i ii wd c k xs
    rw [holds_bif] at h
    split at h
    · rename_i hwd
      have hwd := Nat.eq_of_beq_eq_true hwd
      obtain ⟨hlt, h⟩ := h
      split at h
      · rename_i v htk
        simp only [AV.id?, Option.some.injEq] at hid; subst hid
        refine ⟨v, h, fun β r w H1 u hu hB hw hG => ?_⟩
        obtain ⟨x, hx, rfl⟩ := hu
        obtain ⟨hall, rfl⟩ := hB
        obtain ⟨b, o, ca, T, fz, hb, hg, hrl⟩ := hall ii (xs.getD ii (U.enc k).dflt) (by simp [List.getD, List.getElem?_eq_getElem hlt])
        rw [hx] at hb; cases hb
        simp only [Instr.loadAt, Instr.sureAddr]
        subst hwd
        have := run_loadVar (P := P) hm (o := o + ii * (U.enc k).w) (hG b _ hg) hrl (fun j v hj => by
          rw [List.getElem?_take] at hj
          split at hj
          · rw [List.getElem?_drop] at hj; simpa using hj
          · cases hj) htk
        simpa [Nat.add_assoc] using this
      · exact h.elim
    · exact h.elim
  · exact h.elim

/-! ## what is built of parts -/
def setRange : List AV → Nat → List AV → List AV
  | cs, _, [] => cs
  | cs, off, c :: r => setRange (cs.set off c) (off + 1) r

def setRangeV : List Value → Nat → List Value → List Value
  | cs, _, [] => cs
  | cs, off, c :: r => setRangeV (cs.set off c) (off + 1) r

theorem relL_setRange {r : Nm} : ∀ {ns : List AV} {nv : List Value}, relL r ns nv → ∀ {cs : List AV} {vs : List Value}, relL r cs vs → ∀ off, relL r (setRange cs off ns) (setRangeV vs off nv)
  | [], _, e, _, _, h, off => by simp only [relL] at e; subst e; exact h
  | c :: ns, _, e, _, _, h, off => by
    simp only [relL] at e; obtain ⟨v, us, rfl, k, l⟩ := e
    exact relL_setRange l (relL_set k h off) (off + 1)

theorem foldl_setRangeV : ∀ (nv : List Value) (cells : Array Value) (off k : Nat),
    ((nv.zipIdx k).foldl (fun cs (x : Value × Nat) => cs.setIfInBounds (off + x.2) x.1) cells) = (setRangeV cells.toList (off + k) nv).toArray
  | [], cells, off, k => by simp [setRangeV]
  | c :: nv, cells, off, k => by
    simp only [List.zipIdx_cons, List.foldl_cons, setRangeV]
    rw [foldl_setRangeV nv _ off (k + 1)]
    simp [Nat.add_assoc]

def fillAV (place : Nat → Option (Nat × Nat)) (cells : List AV) : List (Nat × AV) → Option (List AV)
  | [] => some cells
  | (i, v) :: rest =>
    match place i with
    | none => none
    | some (off, size) => bif Nat.beq (cellsAV v).length size && Nat.ble (off + size) cells.length then fillAV place (setRange cells off (cellsAV v)) rest else none

/-- Is it one cell, or a struct of cells that are known? -/
def AV.plain : AV → Bool
  | .raw _ => false
  | .und => false
  | .tup _ => false
  | .may .. => false
  | _ => true

theorem rel_cells {r : Nm} {x : AV} {v : Value} (h : x.plain = true) (e : rel r x v) : relL r (cellsAV x) v.cells.toList := by
  cases x <;> simp only [AV.plain] at h <;> simp only [cellsAV] <;> try (simp at h; done)
  all_goals (have e' := e; simp only [rel] at e)
  all_goals first
    | (subst e; exact relL_cons.2 ⟨e', relL_nil⟩)
    | (obtain ⟨a, _, rfl⟩ := e; exact relL_cons.2 ⟨e', relL_nil⟩)
    | (obtain ⟨a, rfl, _⟩ := e; exact relL_cons.2 ⟨e', relL_nil⟩)
    | (obtain ⟨a, b, _, _, rfl⟩ := e; exact relL_cons.2 ⟨e', relL_nil⟩)
    | (obtain ⟨vs, hv, rfl⟩ := e; simpa [Value.cells] using hv)

theorem fill_sound {r : Nm} {place : Nat → Option (Nat × Nat)} : ∀ (parts : List (Nat × AV)) (pv : List (Nat × Value)) (cells out : List AV) (cv : Array Value),
    fillAV place cells parts = some out → (parts.all fun q => q.2.plain) = true → pv.length = parts.length →
    (∀ (j i : Nat) (x : AV), parts[j]? = some (i, x) → ∃ v : Value, pv[j]? = some (i, v) ∧ rel r x v) → relL r cells cv.toList → ∃ ov, Instr.fill place cv pv = some ov ∧ relL r out ov.toList
  | [], pv, cells, out, cv, h, _, hl, _, hc => by
    simp only [fillAV, Option.some.injEq] at h; subst h
    have : pv = [] := List.length_eq_zero_iff.1 (by simpa using hl)
    subst this; exact ⟨cv, rfl, hc⟩
  | (i, x) :: rest, [], _, _, _, _, _, hl, _, _ => by simp at hl
  | (i, x) :: rest, (i', v) :: pv, cells, out, cv, h, hp, hl, hall, hc => by
    obtain ⟨v', hv', hrv⟩ := hall 0 i x rfl
    simp at hv'; obtain ⟨rfl, rfl⟩ := hv'
    simp only [List.all_cons, Bool.and_eq_true] at hp
    simp only [fillAV] at h
    cases hpl : place i' with
    | none => rw [hpl] at h; simp at h
    | some q =>
      obtain ⟨off, size⟩ := q
      rw [hpl] at h; simp only at h
      cases hb : (Nat.beq (cellsAV x).length size && Nat.ble (off + size) cells.length) with
      | false => rw [hb] at h; simp at h
      | true =>
        rw [hb] at h; simp only [cond_true] at h
        simp only [Bool.and_eq_true] at hb
        have h1 := Nat.eq_of_beq_eq_true hb.1
        have h2 := Nat.le_of_ble_eq_true hb.2
        have hcx := rel_cells hp.1 hrv
        have hlx := relL_length hcx
        have hlc := relL_length hc
        simp only [Array.length_toList] at hlx hlc
        have hnew : relL r (setRange cells off (cellsAV x)) (setRangeV cv.toList off v.cells.toList) := relL_setRange hcx hc off
        have hfold := foldl_setRangeV v.cells.toList cv off 0
        obtain ⟨ov, ho, hro⟩ := fill_sound rest pv _ out ((setRangeV cv.toList off v.cells.toList).toArray) h hp.2 (by simpa using hl) (fun j i x hj => hall (j + 1) i x hj) (by simpa using hnew)
        refine ⟨ov, ?_, hro⟩
        simp only [Instr.fill, hpl]
        rw [if_neg (by simp; omega)]
        rw [← ho]
        congr 1
        rw [← Array.foldl_toList, Array.toList_zipIdx]
        simpa using hfold

end
end Sx
end Go.Proofs.YtmcmdghmglopnaaGreatDoor

/-
  The evaluator of operations that leave memory alone, whole, and its soundness.
-/
namespace Go.Proofs.YtmcmdghmglopnaaGreatDoor
namespace Sx
open Go

section
variable {U : Uni} {P : Program} {τ : Tab}

def evalUn (o : UnOp) (x : AV) : Option AV :=
  match o with
  | .not => (match x.bl with | some (b, l) => some (mkBool l (!b)) | none => none)
  | .neg => (match x.num with | some (k, n, l) => some (mkInt l k (k.wrap (0 - n))) | none => none)
  | .xor => (match x.num with | some (k, n, l) => some (mkInt l k (bitsOp .xor k (if k.signed then -1 else k.max) n)) | none => none)
  | .plus => none

theorem evalUn_sound {o : UnOp} {x v : AV} (h : evalUn o x = some v) {r : Nm} {u : Value} (hu : rel r x u) (w : World) : ∃ z, (Op.unary o u).run P w = .ok z w ∧ rel r v z := by
  cases o <;> simp only [evalUn] at h <;> (try split at h) <;> simp at h
  · rename_i k n l hx; have e := rel_num hx hu; subst e; subst h
    exact ⟨_, by simp [Op.unary, Op.intArith]; rfl, by simp [rel_mkInt]⟩
  · rename_i k n l hx; have e := rel_num hx hu; subst e; subst h
    exact ⟨_, by simp [Op.unary, Op.intBits]; rfl, by simp [rel_mkInt, bitsOp]⟩
  · rename_i b l hx; have e := rel_bl hx hu; subst e; subst h
    exact ⟨_, by simp [Op.unary]; rfl, by simp [rel_mkBool]⟩

def TyRow.isInt (R : TyRow) : Option IntKind := match R.kind with | .int k => some k | _ => none

theorem under_some {t : Nat} {R : TyRow} (h : R.met P t) : ∃ d, P.underlying t = some d := by
  have k := h.kind
  cases hk : R.kind <;> rw [hk] at k <;> simp only [TK.met] at k <;>
    first
      | exact ⟨_, k⟩
      | (obtain ⟨fs, k, _⟩ := k; exact ⟨_, k⟩)
      | (obtain ⟨ms, k⟩ := k; exact ⟨_, k⟩)
      | (obtain ⟨a, b, c, k⟩ := k; exact ⟨_, k⟩)

def evalConv (τ : Tab) (s d : Nat) (x : AV) : Option AV :=
  match τ s, τ d, x.num with
  | some _, some R, some (_, n, l) => (match R.kind with | .int k => some (mkInt l k (k.wrap n)) | _ => none)
  | _, _, _ => none
theorem evalConv_sound (hτ : τ.met P) {s d : Nat} {x v : AV} (h : evalConv τ s d x = some v) {r : Nm} {u : Value} (hu : rel r x u) (w : World) : ∃ z, (convert s d u).run P w = .ok z w ∧ rel r v z := by
  unfold evalConv at h
  split at h
  · rename_i Rs R k0 n l hs hd hx
    split at h
    · rename_i k hk
      simp only [Option.some.injEq] at h; subst h
      have e := rel_num hx hu; subst e
      obtain ⟨ds, hds⟩ := under_some (hτ s Rs hs)
      have hkd := (hτ d R hd).kind; rw [hk] at hkd; simp only [TK.met] at hkd
      refine ⟨.int k (k.wrap n), ?_, by simp [rel_mkInt]⟩
      simp only [convert, Sem.run_bind, run_underlying hds, run_underlying hkd, Result.andThen_ok]
      rfl
    · simp at h
  · simp at h

def structOf (τ : Tab) (T : Nat) (f : Nat) : Option (Nat × Nat) :=
  match τ T with
  | some R => (match R.kind with | .struct fs => fs[f]? | _ => none)
  | none => none
theorem structOf_sound (hτ : τ.met P) {T f off ft : Nat} (h : structOf τ T f = some (off, ft)) :
    ∃ fields, P.underlying T = some (.struct fields) ∧ ∃ fl, fields[f]? = some fl ∧ fl.offset = off ∧ fl.type = ft := by
  unfold structOf at h
  split at h
  · rename_i R hR
    split at h
    · rename_i fs hk
      have hm := (hτ T R hR).kind; rw [hk] at hm; simp only [TK.met] at hm
      obtain ⟨fields, hu, hmap⟩ := hm
      rw [← hmap, List.getElem?_map] at h
      cases hf : fields.toList[f]? with
      | none => rw [hf] at h; simp at h
      | some fl => rw [hf] at h; simp at h; exact ⟨fields, hu, fl, by simpa using hf, h.1, h.2⟩
    · simp at h
  · simp at h

def arrayOf (τ : Tab) (T : Nat) : Option (Nat × Nat × Nat) :=
  match τ T with
  | some R => (match R.kind with | .array n e => (match τ e with | some E => some (n, e, E.size) | none => none) | _ => none)
  | none => none
theorem arrayOf_sound (hτ : τ.met P) {T n e s : Nat} (h : arrayOf τ T = some (n, e, s)) :
    P.underlying T = some (.array n e) ∧ ∀ w, (sizeOf e).run P w = .ok s w := by
  unfold arrayOf at h
  split at h
  · rename_i R hR
    split at h
    · rename_i n' e' hk
      split at h
      · rename_i E hE
        simp only [Option.some.injEq, Prod.mk.injEq] at h; obtain ⟨rfl, rfl, rfl⟩ := h
        have hm := (hτ T R hR).kind; rw [hk] at hm
        exact ⟨hm, fun w => run_sizeOf (hτ _ E hE) w⟩
      · simp at h
    · simp at h
  · simp at h
def sliceOf (τ : Tab) (T : Nat) : Option (Nat × Nat) :=
  match τ T with
  | some R => (match R.kind with | .slice e => (match τ e with | some E => some (e, E.size) | none => none) | _ => none)
  | none => none
theorem sliceOf_sound (hτ : τ.met P) {T e s : Nat} (h : sliceOf τ T = some (e, s)) :
    P.underlying T = some (.slice e) ∧ ∀ w, (sizeOf e).run P w = .ok s w := by
  unfold sliceOf at h
  split at h
  · rename_i R hR
    split at h
    · rename_i e' hk
      split at h
      · rename_i E hE
        simp only [Option.some.injEq, Prod.mk.injEq] at h; obtain ⟨rfl, rfl⟩ := h
        have hm := (hτ T R hR).kind; rw [hk] at hm
        exact ⟨hm, fun w => run_sizeOf (hτ _ E hE) w⟩
      · simp at h
    · simp at h
  · simp at h

def evalField (τ : Tab) (T f : Nat) (x : AV) : Option AV :=
  match structOf τ T f, x with
  | some (off, ft), .agg cs => partAV τ ft cs off
  | _, _ => none
theorem evalField_sound (hτ : τ.met P) {T f : Nat} {x v : AV} (h : evalField τ T f x = some v) {r : Nm} {u : Value} (hu : rel r x u) (w : World) : ∃ z, (Instr.field T u f).run P w = .ok z w ∧ rel r v z := by
  unfold evalField at h
  split at h
  · rename_i off ft cs hs
    obtain ⟨fields, hk, fl, hfl, rfl, rfl⟩ := structOf_sound hτ hs
    obtain ⟨vs, hvs, rfl⟩ := hu
    obtain ⟨z, hz, hr⟩ := partAV_sound hτ h hvs w
    exact ⟨z, by simp [Instr.field, run_underlying hk, hfl, asAgg, hz], hr⟩
  · simp at h

def evalIndex (τ : Tab) (T : Nat) (x ix : AV) : Option AV :=
  match arrayOf τ T, x, ix.num with
  | some (n, e, s), .agg cs, some (_, i, true) => bif decide (0 ≤ i) && decide (i < (n : Int)) then partAV τ e cs (i.toNat * s) else none
  | _, _, _ => none
theorem evalIndex_sound (hτ : τ.met P) {T : Nat} {x ix v : AV} (h : evalIndex τ T x ix = some v) {r : Nm} {u ui : Value} (hu : rel r x u) (hi : rel r ix ui) (w : World) : ∃ z, (Instr.index T u ui).run P w = .ok z w ∧ rel r v z := by
  unfold evalIndex at h
  split at h
  · rename_i n e s cs k i ha hix
    cases hb : (decide (0 ≤ i) && decide (i < (n : Int))) with
    | false => rw [hb] at h; simp at h
    | true =>
      rw [hb] at h; simp only [cond_true] at h
      simp at hb
      obtain ⟨hk, hs⟩ := arrayOf_sound hτ ha
      obtain ⟨vs, hvs, rfl⟩ := hu
      have e := rel_num hix hi; subst e
      obtain ⟨z, hz, hr⟩ := partAV_sound hτ h hvs w
      exact ⟨z, by simp [Instr.index, asIntOf, run_underlying hk, hb, hs, hz], hr⟩
  · simp at h

def evalFieldAddr (τ : Tab) (T f : Nat) (x : AV) : Option AV :=
  match structOf τ T f with
  | some (off, ft) => (match τ ft with
    | some R => bif Nat.beq R.size 0 then none else (match x with
      | .ptr id o => some (.ptr id (o + off))
      | .ptrR id i w c => some (.ptrR id i w (c + off))
      | _ => none)
    | none => none)
  | none => none
theorem evalFieldAddr_sound (hτ : τ.met P) {T f : Nat} {x v : AV} (h : evalFieldAddr τ T f x = some v) {r : Nm} {u : Value} (hu : rel r x u) (w : World) : ∃ z, (Instr.fieldAt T u f).run P w = .ok z w ∧ rel r v z := by
  unfold evalFieldAddr at h
  split at h
  · rename_i off ft hs
    split at h
    · rename_i R hR
      cases hb : Nat.beq R.size 0 with
      | true => rw [hb] at h; simp at h
      | false =>
        rw [hb] at h; simp only [cond_false] at h
        have hne : R.size ≠ 0 := fun e => by rw [e] at hb; simp at hb
        obtain ⟨fields, hk, fl, hfl, rfl, rfl⟩ := structOf_sound hτ hs
        have hsz := run_sizeOf (P := P) (hτ _ R hR) w
        split at h <;> simp at h <;> subst h
        · obtain ⟨y, hy, rfl⟩ := hu
          exact ⟨_, by simp [Instr.fieldAt, run_underlying hk, hfl, Instr.sureAddr, fieldPlace, hsz, hne, Addr.add_lit]; rfl, ⟨y, hy, by simp [Nat.add_assoc]⟩⟩
        · obtain ⟨y, hy, rfl⟩ := hu
          exact ⟨_, by simp [Instr.fieldAt, run_underlying hk, hfl, Instr.sureAddr, fieldPlace, hsz, hne, Addr.add_lit]; rfl, ⟨y, hy, by simp [Nat.add_assoc]⟩⟩
    · simp at h
  · simp at h

def evalIndexAddr (τ : Tab) (T : Nat) (x ix : AV) (K : AV → Out U) : Out U :=
  match sliceOf τ T with
  | some (_, s) => (match x, ix.num with
    | .sl _ id st w len _, some (_, i, _) => bif Nat.beq w s then .needd (0 ≤ i ∧ i < (len : Int)) (K (.ptrR id (st + i.toNat) w 0)) else .bad 30
    | _, _ => .bad 31)
  | none => (match arrayOf τ T, x, ix.num with
    | some (n, _, s), .ptr id o, some (_, i, true) => bif decide (0 ≤ i) && decide (i < (n : Int)) then K (.ptr id (o + i.toNat * s)) else .bad 32
    | some (n, _, s), .ptrR id j w c, some (_, i, true) => bif decide (0 ≤ i) && decide (i < (n : Int)) then K (.ptrR id j w (c + i.toNat * s)) else .bad 33
    | _, _, _ => .bad 34)
theorem evalIndexAddr_sound (hτ : τ.met P) {M : Goal U} {T : Nat} {x ix : AV} {K : AV → Out U} (h : (evalIndexAddr τ T x ix K).holds M) :
    ∃ v, (K v).holds M ∧ ∀ (r : Nm) (u ui : Value) (w : World), rel r x u → rel r ix ui → ∃ z, (Instr.indexAt T u ui).run P w = .ok z w ∧ rel r v z := by
  unfold evalIndexAddr at h
  split at h
  · rename_i e s hs
    obtain ⟨hk, hsz⟩ := sliceOf_sound hτ hs
    split at h
    · rename_i kn id st wd len cap k i l hix
      rw [holds_bif] at h
      split at h
      · rename_i hw
        have hw := Nat.eq_of_beq_eq_true hw
        subst hw
        obtain ⟨⟨h0, h1⟩, h⟩ := h
        refine ⟨_, h, fun r u ui w hu hi => ?_⟩
        have e := rel_num hix hi; subst e
        obtain ⟨a, rfl, hlc, ha⟩ := hu
        rcases ha with hz | ⟨y, hy, rfl⟩
        · omega
        · refine ⟨.pointer (some ⟨y.1, y.2 + st * wd + i.toNat * wd, none⟩), ?_, ⟨y, hy, ?_⟩⟩
          · simp [Instr.indexAt, asIntOf, run_underlying hk, hsz, h0, h1, Addr.add_lit]
          · simp [Nat.add_mul, Nat.add_assoc]
      · exact h.elim
    · exact h.elim
  · split at h
    · rename_i n e s id o k i ha hix
      rw [holds_bif] at h
      split at h
      · rename_i hb
        simp at hb
        obtain ⟨hk, hsz⟩ := arrayOf_sound hτ ha
        refine ⟨_, h, fun r u ui w hu hi => ?_⟩
        have e := rel_num hix hi; subst e
        obtain ⟨y, hy, rfl⟩ := hu
        exact ⟨_, by simp [Instr.indexAt, asIntOf, run_underlying hk, hsz, hb, Addr.add_lit, Instr.sureAddr]; rfl, ⟨y, hy, by simp [Nat.add_assoc]⟩⟩
      · exact h.elim
    · rename_i n e s id j wd c k i ha hix
      rw [holds_bif] at h
      split at h
      · rename_i hb
        simp at hb
        obtain ⟨hk, hsz⟩ := arrayOf_sound hτ ha
        refine ⟨_, h, fun r u ui w hu hi => ?_⟩
        have e := rel_num hix hi; subst e
        obtain ⟨y, hy, rfl⟩ := hu
        exact ⟨_, by simp [Instr.indexAt, asIntOf, run_underlying hk, hsz, hb, Addr.add_lit, Instr.sureAddr]; rfl, ⟨y, hy, by simp [Nat.add_assoc]⟩⟩
      · exact h.elim
    · exact h.elim

end
end Sx
end Go.Proofs.YtmcmdghmglopnaaGreatDoor

/-
  Slices of slices, lengths, least and greatest, maps asked; and the evaluator of all that leaves memory alone.
-/
namespace Go.Proofs.YtmcmdghmglopnaaGreatDoor
namespace Sx
open Go

section
variable {U : Uni} {P : Program} {τ : Tab}

/-! ## slices of slices -/
def zNum : Option AV → Option Int
  | none => some 0
  | some v => (match v.num with | some (_, i, _) => some i | none => none)
def evalSlice (τ : Tab) (T : Nat) (x : AV) (lo hi mx : Option AV) (K : AV → Out U) : Out U :=
  match sliceOf τ T, x with
  | some (_, s), .sl kn id st w len cap => bif Nat.beq w s then (
    match lo, hi, mx with
    | none, none, none => K (.sl kn id st w len cap)
    | some l, none, none => (match l.num with | some (_, i, _) => .needd (0 ≤ i ∧ i ≤ (len : Int)) (K (.sl false id (st + i.toNat) w (len - i.toNat) (cap - i.toNat))) | none => .bad 40)
    | none, some h, none => (match h.num with | some (_, j, _) => .needd (0 ≤ j ∧ (j ≤ (len : Int) ∨ j ≤ (cap : Int))) (K (.sl false id st w j.toNat cap)) | none => .bad 41)
    | some l, some h, none => (match l.num, h.num with | some (_, i, _), some (_, j, _) => .needd (0 ≤ i ∧ i ≤ j ∧ (j ≤ (len : Int) ∨ j ≤ (cap : Int))) (K (.sl false id (st + i.toNat) w (j.toNat - i.toNat) (cap - i.toNat))) | _, _ => .bad 42)
    | none, some h, some m => (match h.num, m.num with | some (_, j, lj), some (_, n, ln) => .needd (0 ≤ j ∧ j ≤ n ∧ (n ≤ (len : Int) ∨ n ≤ (cap : Int))) (K (.sl (lj && ln) id st w j.toNat n.toNat)) | _, _ => .bad 43)
    | _, _, _ => .bad 44) else .bad 45
  | some _, .nilS => (match mx, zNum lo, zNum hi with
    | none, some i, some j => .needd (i = 0 ∧ j = 0) (K .nilS)
    | _, _, _ => .bad 47)
  | _, _ => .bad 46
theorem zNum_rel {x : Option AV} {i : Int} (h : zNum x = some i) (h0 : i = 0) {r : Nm} {vx : Option Value} (h1 : ∀ y, x = some y → ∃ z, vx = some z ∧ rel r y z) (h2 : x = none → vx = none) : vx = none ∨ ∃ k, vx = some (.int k 0) := by
  cases x with
  | none => exact .inl (h2 rfl)
  | some y =>
    obtain ⟨z, hz, hr⟩ := h1 y rfl
    unfold zNum at h; simp only at h
    cases hn : y.num with
    | none => rw [hn] at h; cases h
    | some q =>
      obtain ⟨k, j, l⟩ := q
      rw [hn] at h
      have e : j = i := Option.some.inj h
      have := rel_num hn hr
      exact .inr ⟨k, by rw [hz, this, e, h0]⟩

theorem evalSlice_sound (hτ : τ.met P) {M : Goal U} {T : Nat} {x : AV} {lo hi mx : Option AV} {K : AV → Out U} (h : (evalSlice τ T x lo hi mx K).holds M) :
    ∃ v, (K v).holds M ∧ ∀ (r : Nm) (u : Value) (vlo vhi vmx : Option Value) (w : World), rel r x u →
      (∀ y, lo = some y → ∃ z, vlo = some z ∧ rel r y z) → (lo = none → vlo = none) → (∀ y, hi = some y → ∃ z, vhi = some z ∧ rel r y z) → (hi = none → vhi = none) →
      (∀ y, mx = some y → ∃ z, vmx = some z ∧ rel r y z) → (mx = none → vmx = none) →
      ∃ z, (Instr.sliceAt T u vlo vhi vmx).run P w = .ok z w ∧ rel r v z := by
  unfold evalSlice at h
  split at h
  · rename_i e s kn id st wd len cap hs
    obtain ⟨hk, hsz⟩ := sliceOf_sound hτ hs
    have core : ∀ (r : Nm) (a : Option Addr) (w : World) (l hh m : Nat) (vlo vhi vmx : Option Value), (cap = 0 ∨ ∃ x, r id = some x ∧ a = some ⟨x.1, x.2 + st * s, none⟩) → l ≤ hh → hh ≤ m → m ≤ cap →
        (Instr.sliceBounds true len cap vlo vhi vmx).run P w = .ok (l, hh, m) w → ∀ kk, ∃ z, (Instr.sliceAt T (.slice a len cap) vlo vhi vmx).run P w = .ok z w ∧ rel r (.sl kk id (st + l) s (hh - l) (m - l)) z := by
      intro r a w l hh m vlo vhi vmx ha h1 h2 h3 hrun kk
      have hk' : P.underlying T = some (.slice (P.elem T)) := by simp [Program.elem, hk]
      have e1 : (Instr.sliceAt T (.slice a len cap) vlo vhi vmx).run P w = .ok (.slice (if m = l then a else a.map (·.add (l * s))) (hh - l) (m - l)) w := by
        simp only [Instr.sliceAt, Sem.run_bind, run_underlying hk, Result.andThen_ok, Instr.slice, hrun, hsz, Sem.run_pure]
      refine ⟨_, e1, ⟨_, rfl, by omega, ?_⟩⟩
      by_cases hml : m = l
      · left; omega
      · right
        rcases ha with hz | ⟨y, hy, rfl⟩
        · omega
        · exact ⟨y, hy, by simp [hml, Addr.add_lit, Nat.add_mul, Nat.add_assoc]⟩
    rw [holds_bif] at h
    split at h
    · rename_i hw
      have hw := Nat.eq_of_beq_eq_true hw
      subst hw
      split at h
      · refine ⟨_, h, fun r u vlo vhi vmx w hu _ hl _ hh _ hm => ?_⟩
        rw [hl rfl, hh rfl, hm rfl]
        obtain ⟨a, rfl, hlc, ha⟩ := hu
        simpa using core r a w 0 len cap none none none ha (Nat.zero_le _) hlc (Nat.le_refl _) (by simp [Instr.sliceBounds]) kn
      · split at h
        · rename_i l k i ll hl
          obtain ⟨⟨h0, h1⟩, h⟩ := h
          refine ⟨_, h, fun r u vlo vhi vmx w hu hlo _ _ hh _ hm => ?_⟩
          rw [hh rfl, hm rfl]
          obtain ⟨z, rfl, hz⟩ := hlo _ rfl
          have e := rel_num hl hz; subst e
          obtain ⟨a, rfl, hlc, ha⟩ := hu
          exact core r a w i.toNat len cap _ _ _ ha (by omega) hlc (Nat.le_refl _) (by simp [Instr.sliceBounds, Instr.sliceBound, asIntOf, h0, h1]) false
        · exact h.elim
      · split at h
        · rename_i hh k j lj hj
          obtain ⟨⟨h0, h1⟩, h⟩ := h
          refine ⟨_, h, fun r u vlo vhi vmx w hu _ hl hhi _ _ hm => ?_⟩
          rw [hl rfl, hm rfl]
          obtain ⟨z, rfl, hz⟩ := hhi _ rfl
          have e := rel_num hj hz; subst e
          obtain ⟨a, rfl, hlc, ha⟩ := hu
          have h1 : j ≤ (cap : Int) := by omega
          simpa using core r a w 0 j.toNat cap _ _ _ ha (by omega) (by omega) (Nat.le_refl _) (by simp [Instr.sliceBounds, Instr.sliceBound, asIntOf, h0, h1]) false
        · exact h.elim
      · split at h
        · rename_i l hh k i li k' j lj hi hj
          obtain ⟨⟨h0, h1, h2⟩, h⟩ := h
          refine ⟨_, h, fun r u vlo vhi vmx w hu hlo _ hhi _ _ hm => ?_⟩
          rw [hm rfl]
          obtain ⟨z, rfl, hz⟩ := hlo _ rfl
          obtain ⟨z', rfl, hz'⟩ := hhi _ rfl
          have e := rel_num hi hz; subst e
          have e := rel_num hj hz'; subst e
          obtain ⟨a, rfl, hlc, ha⟩ := hu
          have hj0 : 0 ≤ j := by omega
          have h2 : j ≤ (cap : Int) := by omega
          exact core r a w i.toNat j.toNat cap _ _ _ ha (by omega) (by omega) (Nat.le_refl _) (by simp [Instr.sliceBounds, Instr.sliceBound, asIntOf, h0, hj0, h2]; intro hc; omega) false
        · exact h.elim
      · split at h
        · rename_i hh m k j lj k' n ln hj hn
          obtain ⟨⟨h0, h1, h2⟩, h⟩ := h
          refine ⟨_, h, fun r u vlo vhi vmx w hu _ hl hhi _ hmx _ => ?_⟩
          rw [hl rfl]
          obtain ⟨z, rfl, hz⟩ := hhi _ rfl
          obtain ⟨z', rfl, hz'⟩ := hmx _ rfl
          have e := rel_num hj hz; subst e
          have e := rel_num hn hz'; subst e
          obtain ⟨a, rfl, hlc, ha⟩ := hu
          have hn0 : 0 ≤ n := by omega
          have h2 : n ≤ (cap : Int) := by omega
          simpa using core r a w 0 j.toNat n.toNat _ _ _ ha (by omega) (by omega) (by omega) (by simp [Instr.sliceBounds, Instr.sliceBound, asIntOf, h0, hn0, h2]; intro hc; omega) (lj && ln)
        · exact h.elim
      · exact h.elim
    · exact h.elim
  · rename_i hs
    obtain ⟨hk, hsz⟩ := sliceOf_sound hτ hs
    split at h
    · rename_i i j hi hj
      obtain ⟨⟨h0, h1⟩, h⟩ := h
      refine ⟨_, h, fun r u vlo vhi vmx w hu hlo hl hhi hh _ hm => ?_⟩
      rw [hm rfl]
      have hu : u = .slice none 0 0 := hu
      subst hu
      have hk' : P.underlying T = some (.slice (P.elem T)) := by simp [Program.elem, hk]
      have hb : (Instr.sliceBounds true 0 0 vlo vhi none).run P w = .ok (0, 0, 0) w := by
        rcases zNum_rel hi h0 hlo hl with e | ⟨k, e⟩ <;> rcases zNum_rel hj h1 hhi hh with e' | ⟨k', e'⟩ <;> subst e <;> subst e' <;> simp [Instr.sliceBounds, Instr.sliceBound, asIntOf]
      refine ⟨.slice none 0 0, ?_, rfl⟩
      simp only [Instr.sliceAt, Sem.run_bind, run_underlying hk, Result.andThen_ok, Instr.slice, hb, hsz, Sem.run_pure]
      simp
    · exact h.elim
  · exact h.elim

/-! ## least and greatest -/
def evalMin2 (x y : AV) : Option AV :=
  match x.num, y.num with
  | some (k, a, la), some (_, b, lb) => some (mkInt (la && lb) k (if b < a then b else a))
  | _, _ => none
def evalMax2 (x y : AV) : Option AV :=
  match x.num, y.num with
  | some (k, a, la), some (_, b, lb) => some (mkInt (la && lb) k (if b > a then b else a))
  | _, _ => none
theorem evalMin2_sound {x y v : AV} (h : evalMin2 x y = some v) {r : Nm} {u u' : Value} (hu : rel r x u) (hu' : rel r y u') (ts : Array Nat) (t : Nat) (w : World) : ∃ z, (Builtin.min_ ts t #[u, u']).run P w = .ok z w ∧ rel r v z := by
  unfold evalMin2 at h; split at h
  · rename_i k a la k' b lb hx hy
    simp only [Option.some.injEq] at h; subst h
    have e := rel_num hx hu; have e' := rel_num hy hu'; subst e; subst e'
    exact ⟨_, run_min_int2 w ts t k k' a b, by simp [rel_mkInt]⟩
  · simp at h
theorem evalMax2_sound {x y v : AV} (h : evalMax2 x y = some v) {r : Nm} {u u' : Value} (hu : rel r x u) (hu' : rel r y u') (ts : Array Nat) (t : Nat) (w : World) : ∃ z, (Builtin.max_ ts t #[u, u']).run P w = .ok z w ∧ rel r v z := by
  unfold evalMax2 at h; split at h
  · rename_i k a la k' b lb hx hy
    simp only [Option.some.injEq] at h; subst h
    have e := rel_num hx hu; have e' := rel_num hy hu'; subst e; subst e'
    exact ⟨_, run_max_int2 w ts t k k' a b, by simp [rel_mkInt]⟩
  · simp at h

/-! ## lengths -/
def evalLen (τ : Tab) (T : Nat) (x : AV) : Option AV :=
  match τ T with
  | some R => (match R.kind, x with
    | .slice _, .sl true _ _ _ len _ => some (.lit .i64 (len : Int))
    | .slice _, .sl false _ _ _ len _ => some (.int .i64 (len : Int))
    | .slice _, .nilS => some (.lit .i64 0)
    | .slice _, .raw (.slice _ len _) => some (.int .i64 (len : Int))
    | .array n _, _ => some (.lit .i64 (n : Int))
    | _, _ => none)
  | none => none
theorem evalLen_sound (hτ : τ.met P) {T : Nat} {x v : AV} (h : evalLen τ T x = some v) {r : Nm} {u : Value} (hu : rel r x u) (ts : Array Nat) (ht : ts[0]? = some T) (t : Nat) (w : World) : ∃ z, (Builtin.len_ ts t #[u]).run P w = .ok z w ∧ rel r v z := by
  unfold evalLen at h
  split at h
  · rename_i R hR
    have hk := (hτ T R hR).kind
    split at h
    · rename_i hK; simp only [Option.some.injEq] at h; subst h
      rw [hK] at hk; simp only [TK.met] at hk
      obtain ⟨a, rfl, _, _⟩ := hu
      exact ⟨_, by simp [Builtin.len_, ht, run_underlying hk]; rfl, by simp [rel, goInt]⟩
    · rename_i hK; simp only [Option.some.injEq] at h; subst h
      rw [hK] at hk; simp only [TK.met] at hk
      obtain ⟨a, rfl, _, _⟩ := hu
      exact ⟨_, by simp [Builtin.len_, ht, run_underlying hk]; rfl, by simp [rel, goInt]⟩
    · rename_i hK; simp only [Option.some.injEq] at h; subst h
      rw [hK] at hk; simp only [TK.met] at hk
      simp only [rel] at hu; subst hu
      exact ⟨_, by simp [Builtin.len_, ht, run_underlying hk]; rfl, by simp [rel, goInt]⟩
    · rename_i hK; simp only [Option.some.injEq] at h; subst h
      rw [hK] at hk; simp only [TK.met] at hk
      simp only [rel] at hu; subst hu
      exact ⟨_, by simp [Builtin.len_, ht, run_underlying hk]; rfl, by simp [rel, goInt]⟩
    · rename_i hK; simp only [Option.some.injEq] at h; subst h
      rw [hK] at hk; simp only [TK.met] at hk
      exact ⟨_, by simp [Builtin.len_, ht, run_underlying hk]; rfl, by simp [rel, goInt]⟩
    · simp at h
  · simp at h

/-! ## maps: what they hold of a key, and how many -/
def mget {α : Type} : List (Int × α) → Int → Option α
  | [], _ => none
  | (k, x) :: m, n => if n = k then some x else mget m n

theorem relM_find {α : Type} {E : Enc α} {kk : IntKind} {r : Nm} (n : Int) : ∀ (m : List (Int × α)) (es : List MapEntry) (i : Nat), relM E kk r m es →
    (mget m n = none → Instr.findNow (.int kk) (.int kk n) es i = some none) ∧
    (∀ x, mget m n = some x → ∃ j e, Instr.findNow (.int kk) (.int kk n) es i = some (some (i + j, e.val)) ∧ es[j]? = some e ∧ e.key = .int kk n ∧ relV E.agg r (E.enc x) e.val ∧ (m.map (·.1)).findIdx (· == n) = j)
  | [], es, i, h => by
    simp only [relM] at h; subst h
    exact ⟨fun _ => rfl, fun x hx => by simp [mget] at hx⟩
  | (k, y) :: m, es, i, h => by
    simp only [relM] at h
    obtain ⟨e, fs, rfl, hk, hv, hr⟩ := h
    obtain ⟨ih1, ih2⟩ := relM_find n m fs (i + 1) hr
    by_cases hnk : n = k
    · subst hnk
      refine ⟨fun hx => by simp [mget] at hx, fun x hx => ⟨0, e, ?_, rfl, hk, ?_, ?_⟩⟩
      · simp [Instr.findNow, hk, Instr.sameNow]
      · simp [mget] at hx; subst hx; exact hv
      · simp [List.findIdx_cons]
    · have hne : (n == k) = false := by simpa using hnk
      refine ⟨fun hx => ?_, fun x hx => ?_⟩
      · simp only [mget, if_neg hnk] at hx
        simp only [Instr.findNow, hk, Instr.sameNow, if_true, hne, ih1 hx]
      · simp only [mget, if_neg hnk] at hx
        obtain ⟨j, e', h1, h2, h3, h4, h5⟩ := ih2 x hx
        refine ⟨j + 1, e', ?_, by simpa using h2, h3, h4, ?_⟩
        · simp only [Instr.findNow, hk, Instr.sameNow, if_true, hne, h1]
          rw [show i + 1 + j = i + (j + 1) by omega]
        · have : (k == n) = false := by simpa using fun h => hnk h.symm
          simp [List.findIdx_cons, this, h5]

theorem relM_length {α : Type} {E : Enc α} {kk : IntKind} {r : Nm} : ∀ {m : List (Int × α)} {es : List MapEntry}, relM E kk r m es → es.length = m.length
  | [], _, h => by simp only [relM] at h; subst h; rfl
  | (_, _) :: m, _, h => by simp only [relM] at h; obtain ⟨e, fs, rfl, _, _, hr⟩ := h; simp [relM_length hr]

/-- Which kind of element a type is laid as. -/
abbrev Kinds (U : Uni) := Nat → Option U.K
def Kinds.met (τ : Tab) (κ : Kinds U) : Prop := ∀ e k, κ e = some k → ∃ R, τ e = some R ∧ (U.enc k).w = R.size ∧ (U.enc k).agg = R.kind.agg ∧ R.bytes ≠ 0 ∧
  ∀ r vs, relL r R.zero vs → relL r ((U.enc k).enc (U.enc k).dflt) vs

def mapOf (τ : Tab) (κ : Kinds U) (T : Nat) : Option (IntKind × U.K) :=
  match τ T with
  | some R => (match R.kind with
    | .map k e => (match τ k, κ e with | some Kr, some E => (match Kr.kind with | .int kk => some (kk, E) | _ => none) | _, _ => none)
    | _ => none)
  | none => none

theorem mapOf_sound (hτ : τ.met P) {κ : Kinds U} {T : Nat} {kk : IntKind} {E : U.K} (h : mapOf τ κ T = some (kk, E)) :
    ∃ k e, P.underlying T = some (.map k e) ∧ P.underlying k = some (.int kk) ∧ κ e = some E := by
  unfold mapOf at h
  split at h
  · rename_i R hR
    split at h
    · rename_i k e hk
      split at h
      · rename_i Kr E' hK hE
        split at h
        · rename_i kk' hkk
          simp only [Option.some.injEq, Prod.mk.injEq] at h; obtain ⟨rfl, rfl⟩ := h
          have hm := (hτ T R hR).kind; rw [hk] at hm
          have hm2 := (hτ k Kr hK).kind; rw [hkk] at hm2
          exact ⟨k, e, hm, hm2, hE⟩
        · simp at h
      · simp at h
    · simp at h
  · simp at h

/-- An element's cells as a value. -/
def rowAV (agg : Bool) (cs : List AV) : AV := bif agg then .agg cs else cs.headD .und

theorem rel_rowAV {agg : Bool} {r : Nm} {cs : List AV} {v : Value} (h : relV agg r cs v) : rel r (rowAV agg cs) v := by
  cases agg
  · simp only [relV] at h
    match cs, h with
    | [], h => simp [relL] at h
    | [c], h => exact (relL_cons.1 h).1
    | c :: d :: cs, h =>
      have := relL_length h; simp at this
  · exact h

theorem relV_imp {agg : Bool} {r : Nm} {xs ys : List AV} (h : ∀ vs, relL r xs vs → relL r ys vs) {v : Value} (k : relV agg r xs v) : relV agg r ys v := by
  cases agg
  · exact h _ k
  · obtain ⟨vs, a, b⟩ := k; exact ⟨vs, h _ a, b⟩

theorem run_zero {t : Nat} {R : TyRow} (h : R.met P t) (r : Nm) (w : World) : ∃ z, (zeroValue t).run P w = .ok z w ∧ relV R.kind.agg r R.zero z := by
  obtain ⟨i, z, hi, _, _, hz, _, hr, _⟩ := h.info
  exact ⟨z, by simp [zeroValue, typeInfo, hi, hz], relV_mono (fun _ _ e => by cases e) hr⟩

/-- What a map tells of a key. -/
def evalLookup (τ : Tab) (κ : Kinds U) (T : Nat) (B : Blk U) (key : AV) (ok : Bool) (K : AV → Out U) : Out U :=
  match mapOf τ κ T, B, key.num with
  | some (kk, E), .mp kk' k m, some (kk'', n, _) =>
    bif decide (kk = kk') && decide (kk = kk'') && (@decide (E = k) (U.dk E k)) then
      K (bif ok then .tup [rowAV (U.enc k).agg ((U.enc k).enc ((mget m n).getD (U.enc k).dflt)), .bool (mget m n).isSome] else rowAV (U.enc k).agg ((U.enc k).enc ((mget m n).getD (U.enc k).dflt)))
    else .bad 50
  | _, _, _ => .bad 51

theorem run_checkKey_int {k : Nat} {kk : IntKind} (h : P.underlying k = some (.int kk)) (b : Bool) (n : Nat) (v : Value) (w : World) : (Instr.checkKey b (n + 1) k v).run P w = .ok () w := by
  simp only [Instr.checkKey, Sem.run_bind, run_underlying h, Result.andThen_ok]
  cases v <;> rfl

theorem evalLookup_sound (hτ : τ.met P) {κ : Kinds U} (hκ : κ.met τ) {M : Goal U} {T : Nat} {B : Blk U} {key : AV} {ok : Bool} {K : AV → Out U} (h : (evalLookup τ κ T B key ok K).holds M) {id : Nat} :
    ∃ v, (K v).holds M ∧ ∀ (β : Base) (r : Nm) (w : World) (H1 : Hp) (u uk : Value), rel r (.mp id) u → rel r key uk → B.den β.G r id H1 → H1.inW w → ∃ z, (Instr.lookup T u uk ok).run P w = .ok z w ∧ rel r v z := by
  unfold evalLookup at h
  split at h
  · rename_i kk E kk' k m kk'' n l hmap hkey
    rw [holds_bif] at h
    split at h
    · rename_i hb
      simp only [Bool.and_eq_true, decide_eq_true_eq] at hb
      obtain ⟨⟨rfl, rfl⟩, hEk⟩ := hb
      subst hEk
      refine ⟨_, h, fun β r w H1 u uk hu huk hB hw => ?_⟩
      obtain ⟨x, hx, rfl⟩ := hu
      obtain ⟨b, es, clock, hb, hrm, _, rfl⟩ := hB
      rw [hx] at hb; cases hb
      have e := rel_num hkey huk; subst e
      obtain ⟨tk, te, hT, hk, hE'⟩ := mapOf_sound hτ hmap
      obtain ⟨R, hR, _, hag, _, hz0⟩ := hκ te E hE'
      have hE := hτ te R hR
      have hblk := Hp.inW_one.1 hw
      have hget : (getObj b).run P w = .ok (.map es clock) w := by simp [getObj, Sem.run, hblk]
      obtain ⟨f1, f2⟩ := relM_find n m es.toList 0 hrm
      have hfin : ∃ v0, (Instr.lookup T (.map (some b)) (.int kk n) ok).run P w = .ok (if ok then .tuple #[v0, .bool (mget m n).isSome] else v0) w ∧ relV (U.enc E).agg r ((U.enc E).enc ((mget m n).getD (U.enc E).dflt)) v0 := by
        cases hg : mget m n with
        | none =>
          obtain ⟨z, hz, hrz⟩ := run_zero hE r w
          refine ⟨z, ?_, by have := relV_imp (agg := R.kind.agg) (hz0 r) hrz; rw [← hag] at this; simpa using this⟩
          unfold Instr.lookup
          simp only [Sem.run_bind, run_underlying hT, Result.andThen_ok, hget, Sem.run_pure, run_checkKey_int hk _ 9999, Instr.findKey, run_underlying hk, f1 hg, hz, Option.isSome_none]
        | some y =>
          obtain ⟨j, e, h1, _, _, h4, _⟩ := f2 y hg
          refine ⟨e.val, ?_, by simpa using h4⟩
          unfold Instr.lookup
          simp only [Sem.run_bind, run_underlying hT, Result.andThen_ok, hget, Sem.run_pure, run_checkKey_int hk _ 9999, Instr.findKey, run_underlying hk, h1, Option.isSome_some]
      obtain ⟨v0, hv0, hr0⟩ := hfin
      refine ⟨_, hv0, ?_⟩
      cases ok
      · exact rel_rowAV hr0
      · exact ⟨[v0, .bool (mget m n).isSome], relL_cons.2 ⟨rel_rowAV hr0, relL_cons.2 ⟨by simp [rel], relL_nil⟩⟩, rfl⟩
    · exact h.elim
  · exact h.elim

end
end Sx
end Go.Proofs.YtmcmdghmglopnaaGreatDoor

/-
  One evaluator for every operation that leaves memory alone; 'Lz': such an operation tells the same wherever what it reads is the same.
-/
namespace Go.Proofs.YtmcmdghmglopnaaGreatDoor
namespace Sx
open Go

section
variable {U : Uni} {P : Program} {τ : Tab}

def AV.solid : AV → Bool
  | .ptr .. => true
  | .ptrR .. => true
  | .fn .. => true
  | .ifc .. => true
  | _ => false

def onOpt (x : Option AV) (n : Nat) (K : AV → Option Nat → Out U) : Out U := match x with | some v => K v none | none => .bad n

/-- A slice against nil: whether it may be. -/
def slNil (τ : Tab) (T : Nat) (a b : AV) : Option Bool :=
  match τ T with
  | some R => (match R.kind, a, b with
    | .slice _, .sl _ _ _ _ len cap, .nilS => some (Nat.beq len 0 && Nat.beq cap 0)
    | _, _, _ => none)
  | none => none

theorem slNil_sound (hτ : τ.met P) {T : Nat} {a b : AV} {c : Bool} (h : slNil τ T a b = some c) {r : Nm} {u v : Value} (hu : rel r a u) (hv : rel r b v) (w : World) (p q : Operand) :
    ∃ x : Bool, (x = true → c = true) ∧ (do eqGuard .eql T p q u v; binOp .eql T u v : Sem Value).run P w = .ok (.bool x) w ∧ (do eqGuard .neq T p q u v; binOp .neq T u v : Sem Value).run P w = .ok (.bool (!x)) w := by
  unfold slNil at h
  split at h
  · rename_i R hR
    have hm := hτ T R hR
    have hk := hm.kind
    split at h
    · rename_i e kn id s wd len cap hK
      rw [hK] at hk; simp only [TK.met] at hk
      simp only [Option.some.injEq] at h; subst h
      obtain ⟨a, rfl, hlc, ha⟩ := hu
      simp only [rel] at hv; subst hv
      refine ⟨a.isNone, fun hx => ?_, run_both rfl rfl rfl rfl ?_⟩
      · rcases ha with h0 | ⟨y, _, rfl⟩
        · subst h0; have : len = 0 := Nat.le_zero.1 hlc; subst this; rfl
        · simp at hx
      · exact (fun n : Nat => show (Op.equalIn (n + 1) _ _ _).run P w = _ by cases a <;> simp [Op.equalIn, run_underlying hk]) 9999
    · cases h
  · cases h

/-- Two operands equal, or not. -/
def evalEq (τ : Tab) (neg : Bool) (T : Nat) (x y : Operand) (a b : AV) (K : AV → Option Nat → Out U) : Out U :=
  match a.num with
  | some _ => evalBin (bif neg then .neq else .eql) a b fun v => K v none
  | none => (match slNil τ T a b with
   | some c => K (.may neg c) none
   | none => match evalEql τ T a b with
    | some (c, l) => bif Operand.isConst x || Operand.isConst y || !(a.isNilI) || !(b.isNilI) then K (mkBool l (bif neg then !c else c)) none else .bad 60
    | none => .bad 61)

def evalLoad (τ : Tab) (T : Nat) (p : AV) (h : Heap U) (K : AV → Option Nat → Out U) : Out U :=
  match τ T, p.id? with
  | some R, some id => (match h.get id with | some B => readAt R B p fun v => K v (some id) | none => .bad 62)
  | _, _ => .bad 63

def strAt (s : ByteArray) (i : Int) : Nat := match s[i.toNat]? with | some b => b.toNat | none => 0
def isStr (τ : Tab) (T : Nat) : Bool := match τ T with | some R => (match R.kind with | .str => true | _ => false) | none => false
/-- An array's element, or a string's byte. -/
def evalIndexS (τ : Tab) (T : Nat) (x ix : AV) (K : AV → Out U) : Out U :=
  match x with
  | .raw (.string s) => bif isStr τ T then (match ix.num with | some (_, i, _) => .needd (0 ≤ i ∧ i.toNat < s.size) (K (.int .u8 (strAt s i : Int))) | none => .bad 70) else .bad 70
  | x => (match evalIndex τ T x ix with | some v => K v | none => .bad 70)
theorem evalIndexS_sound (hτ : τ.met P) {M : Goal U} {T : Nat} {x ix : AV} {K : AV → Out U} (h : (evalIndexS τ T x ix K).holds M) :
    ∃ v, (K v).holds M ∧ ∀ (r : Nm) (u ui : Value) (w : World), rel r x u → rel r ix ui → ∃ z, (Instr.index T u ui).run P w = .ok z w ∧ rel r v z := by
  unfold evalIndexS at h
  split at h
  · rename_i s
    rw [holds_bif] at h
    split at h
    · rename_i hs
      have hT : P.underlying T = some .string := by
        unfold isStr at hs
        split at hs
        · rename_i R hR
          split at hs
          · rename_i hk
            have hm := (hτ T R hR).kind; rw [hk] at hm; exact hm
          · cases hs
        · cases hs
      split at h
      · rename_i k i l hi
        obtain ⟨⟨h0, h1⟩, h⟩ := h
        refine ⟨_, h, fun r u ui w hu hix => ?_⟩
        have e := rel_num hi hix; subst e
        have hu : u = .string s := hu
        subst hu
        have hg : s[i.toNat]? = some s[i.toNat] := by simp [h1]
        refine ⟨.int .u8 (s[i.toNat].toNat : Int), ?_, ?_⟩
        · simp [Instr.index, asIntOf, run_underlying hT, h0, hg]
        · unfold strAt; rw [hg]; rfl
      · exact h.elim
    · exact h.elim
  · split at h
    · rename_i v hv
      exact ⟨v, h, fun r u ui w hu hi => evalIndex_sound hτ hv hu hi w⟩
    · exact h.elim

def evalL0 (τ : Tab) (κ : Kinds U) (op : Op) (ev : Operand → AV) (h : Heap U) (K : AV → Option Nat → Out U) : Out U :=
  match op with
  | .move x => K (ev x) none
  | .assign x => K (ev x) none
  | .pick c a b => (match (ev c).bl with
    | some (cb, true) => K (bif cb then ev a else ev b) none
    | some (cb, false) => (match (ev a).bl, (ev b).bl with
      | some (x, _), some (y, _) => K (.bool (bif cb then x else y)) none
      | _, _ => .bad 64)
    | none => .bad 65)
  | .nilCheck x => bif (ev x).solid then K (ev x) none else .bad 66
  | .binOp o T x y _ => (match o with
    | .eql => evalEq τ false T x y (ev x) (ev y) K
    | .neq => evalEq τ true T x y (ev x) (ev y) K
    | o => evalBin o (ev x) (ev y) fun v => K v none)
  | .unOp o _ x => onOpt (evalUn o (ev x)) 67 K
  | .convert s d x => onOpt (evalConv τ s d (ev x)) 68 K
  | .field T x f => onOpt (evalField τ T f (ev x)) 69 K
  | .index T x ix => evalIndexS τ T (ev x) (ev ix) fun v => K v none
  | .extract x i => (match ev x with | .tup vs => onOpt vs[i]? 71 K | _ => .bad 72)
  | .fieldAddr T x f => onOpt (evalFieldAddr τ T f (ev x)) 73 K
  | .indexAddr T x ix => evalIndexAddr τ T (ev x) (ev ix) fun v => K v none
  | .slice T x lo hi mx => evalSlice τ T (ev x) (lo.map ev) (hi.map ev) (mx.map ev) fun v => K v none
  | .load T x => evalLoad τ T (ev x) h K
  | .makeFunc fn fs cs => (match fn with | .func f => K (.fn f (fs.toList.map ev) (cs.toList.map ev)) none | _ => .bad 74)
  | .makeInterface T x => (match τ T with | some R => (match R.kind with | .iface => .bad 75 | .other => .bad 75 | _ => K (.ifc T (ev x)) none) | none => .bad 76)
  | .build T ps => (match τ T with
    | some R => (match R.kind with
      | .struct fs => bif (ps.toList.all fun q => (ev q.2).plain) then (match fillAV (fun i => match fs[i]? with | some (off, ft) => (match τ ft with | some F => some (off, F.size) | none => none) | none => none) R.zero (ps.toList.map fun q => (q.1, ev q.2)) with | some cs => bif fs.all (fun q => (τ q.2).isSome) then K (.agg cs) none else .bad 77 | none => .bad 77) else .bad 78
      | .array _ e => (match τ e with
        | some E => bif (ps.toList.all fun q => (ev q.2).plain) then (match fillAV (fun i => some (i * E.size, E.size)) R.zero (ps.toList.map fun q => (q.1, ev q.2)) with | some cs => K (.agg cs) none | none => .bad 77) else .bad 78
        | none => .bad 77)
      | _ => .bad 79)
    | none => .bad 80)
  | .lookup T m k ok => (match ev m with
    | .mp id => (match h.get id with | some B => evalLookup τ κ T B (ev k) ok fun v => K v (some id) | none => .bad 81)
    | _ => .bad 82)
  | .call { callee := .builtin b, args, argTypes } => (match b, args.toList, argTypes[0]? with
    | .len, [x], some T => (match ev x with
      | .mp id => (match h.get id, τ T with
        | some (.mp _ _ m), some R => (match R.kind with | .map _ _ => K (.int .i64 (m.length : Int)) (some id) | _ => .bad 83)
        | _, _ => .bad 84)
      | v => onOpt (evalLen τ T v) 85 K)
    | .min, [x, y], _ => onOpt (evalMin2 (ev x) (ev y)) 86 K
    | .max, [x, y], _ => onOpt (evalMax2 (ev x) (ev y)) 87 K
    | _, _, _ => .bad 88)
  | _ => .bad 89

def Lz (P : Program) (o : Oper) (ev : Operand → AV) (v : AV) (rd : Option (Nat × Blk U)) : Prop :=
  ∀ (β : Base) (r : Nm) (a : Act) (w : World), (∀ x ∈ o.op.operands.toList, rel r (ev x) (a.eval x)) →
    (∀ id B, rd = some (id, B) → ∃ H1, B.den β.G r id H1 ∧ H1.inW w ∧ β.G.inW w) → ∃ z, (execOp a.eval o).run P w = .ok (.value z) w ∧ rel r v z

def rdOf (h : Heap U) (rd : Option Nat) : Option (Nat × Blk U) := match rd with | some id => (match h.get id with | some B => some (id, B) | none => none) | none => none

/-- What an evaluator owes. -/
def LzOut (P : Program) (M : Goal U) (o : Oper) (ev : Operand → AV) (h : Heap U) (K : AV → Option Nat → Out U) : Prop :=
  ∃ v rd, (K v rd).holds M ∧ Lz P o ev v (rdOf h rd) ∧ (∀ id, rd = some id → h.get id ≠ none)

theorem lz_none {M : Goal U} {o : Oper} {ev : Operand → AV} {h : Heap U} {K : AV → Option Nat → Out U} {v : AV} (hK : (K v none).holds M)
    (hv : ∀ (r : Nm) (a : Act) (w : World), (∀ x ∈ o.op.operands.toList, rel r (ev x) (a.eval x)) → ∃ z, (execOp a.eval o).run P w = .ok (.value z) w ∧ rel r v z) : LzOut P M o ev h K :=
  ⟨v, none, hK, fun _ r a w ho _ => hv r a w ho, fun _ e => by cases e⟩

theorem onOpt_some {M : Goal U} {x : Option AV} {n : Nat} {K : AV → Option Nat → Out U} (h : (onOpt x n K).holds M) : ∃ v, x = some v ∧ (K v none).holds M := by
  unfold onOpt at h; split at h
  · exact ⟨_, rfl, h⟩
  · exact h.elim

theorem run_value {s : Sem Value} {z : Value} {w : World} (h : s.run P w = .ok z w) : (do pure (Next.value (← s)) : Sem Next).run P w = .ok (.value z) w := by
  simp [h]

set_option maxHeartbeats 2000000 in
theorem evalL0_sound (hτ : τ.met P) {κ : Kinds U} (hκ : κ.met τ) {M : Goal U} {dst : Option Tmp} {op : Op} {type : Nat} {pos : String} {after : Array Edge} {guard : Option (Nat × Bool)} {ev : Operand → AV} {h : Heap U} {K : AV → Option Nat → Out U}
    (H : (evalL0 τ κ op ev h K).holds M) : LzOut P M ⟨dst, op, type, pos, after, guard⟩ ev h K := by
  cases op <;> simp only [evalL0] at H <;> try exact H.elim
  case move x =>
    exact lz_none H fun r a w ho => ⟨_, rfl, ho x (by simp [Op.operands])⟩
  case assign x =>
    exact lz_none H fun r a w ho => ⟨_, rfl, ho x (by simp [Op.operands])⟩
  case pick c x y =>
    split at H
    · rename_i cb hc
      refine lz_none H fun r a w ho => ?_
      have e := rel_bl hc (ho c (by simp [Op.operands]))
      refine ⟨if cb then a.eval x else a.eval y, ?_, ?_⟩
      · simp [execOp, e, asBool]
      · cases cb
        · exact ho y (by simp [Op.operands])
        · exact ho x (by simp [Op.operands])
    · rename_i cb hc
      split at H
      · rename_i p lp q lq hp hq
        refine lz_none H fun r a w ho => ?_
        have e := rel_bl hc (ho c (by simp [Op.operands]))
        have e1 := rel_bl hp (ho x (by simp [Op.operands]))
        have e2 := rel_bl hq (ho y (by simp [Op.operands]))
        refine ⟨if cb then a.eval x else a.eval y, ?_, ?_⟩
        · simp [execOp, e, asBool]
        · cases cb <;> simp [e1, e2, rel]
      · exact H.elim
    · exact H.elim
  case nilCheck x =>
    rw [holds_bif] at H
    split at H
    · rename_i hs
      refine lz_none H fun r a w ho => ?_
      have e := ho x (by simp [Op.operands])
      refine ⟨a.eval x, ?_, e⟩
      cases hx : ev x <;> rw [hx] at hs e <;> simp [AV.solid] at hs <;> simp only [rel] at e
      · obtain ⟨y, _, e⟩ := e; simp [execOp, e]
      · obtain ⟨y, _, e⟩ := e; simp [execOp, e]
      · obtain ⟨y, z, _, _, e⟩ := e; simp [execOp, e]
      · obtain ⟨y, _, e⟩ := e; simp [execOp, e]
    · exact H.elim
  case binOp o T x y yt =>
    have fin : ∀ o, (evalBin o (ev x) (ev y) fun v => K v none).holds M → LzOut P M ⟨dst, .binOp o T x y yt, type, pos, after, guard⟩ ev h K := by
      intro o H
      obtain ⟨v, hv, hall⟩ := evalBin_sound H
      refine lz_none hv fun r a w ho => ?_
      obtain ⟨z, hz, hr⟩ := hall P r w T _ _ x y (ho x (by simp [Op.operands])) (ho y (by simp [Op.operands]))
      exact ⟨z, run_value hz, hr⟩
    have fin2 : ∀ neg, (evalEq τ neg T x y (ev x) (ev y) K).holds M → LzOut P M ⟨dst, .binOp (bif neg then .neq else .eql) T x y yt, type, pos, after, guard⟩ ev h K := by
      intro neg H
      unfold evalEq at H
      split at H
      · exact fin _ H
      · split at H
        · rename_i c he
          refine lz_none H fun r a w ho => ?_
          obtain ⟨x', h0, e1, e2⟩ := slNil_sound hτ he (ho x (by simp [Op.operands])) (ho y (by simp [Op.operands])) w x y
          cases neg
          · exact ⟨_, run_value e1, ⟨x', rfl, fun hh => h0 (by simpa using hh)⟩⟩
          · exact ⟨_, run_value e2, ⟨!x', rfl, fun hh => h0 (by simpa using hh)⟩⟩
        split at H
        · rename_i c l he
          rw [holds_bif] at H
          split at H
          · rename_i hc
            refine lz_none H fun r a w ho => ?_
            obtain ⟨e1, e2⟩ := evalEql_sound hτ he (ho x (by simp [Op.operands])) (ho y (by simp [Op.operands])) w x y (by simpa [or_assoc] using hc)
            cases neg
            · exact ⟨_, run_value e1, by simp [rel_mkBool]⟩
            · exact ⟨_, run_value e2, by simp [rel_mkBool]⟩
          · exact H.elim
        · exact H.elim
    split at H
    · exact fin2 false H
    · exact fin2 true H
    · exact fin _ H
  case unOp o T x =>
    obtain ⟨v, hv, hK⟩ := onOpt_some H
    refine lz_none hK fun r a w ho => ?_
    obtain ⟨z, hz, hr⟩ := evalUn_sound (P := P) hv (ho x (by simp [Op.operands])) w
    exact ⟨z, run_value hz, hr⟩
  case convert s d x =>
    obtain ⟨v, hv, hK⟩ := onOpt_some H
    refine lz_none hK fun r a w ho => ?_
    obtain ⟨z, hz, hr⟩ := evalConv_sound hτ hv (ho x (by simp [Op.operands])) w
    exact ⟨z, run_value hz, hr⟩
  case field T x f =>
    obtain ⟨v, hv, hK⟩ := onOpt_some H
    refine lz_none hK fun r a w ho => ?_
    obtain ⟨z, hz, hr⟩ := evalField_sound hτ hv (ho x (by simp [Op.operands])) w
    exact ⟨z, run_value hz, hr⟩
  case index T x ix =>
    obtain ⟨v, hK, hall⟩ := evalIndexS_sound hτ H
    refine lz_none hK fun r a w ho => ?_
    obtain ⟨z, hz, hr⟩ := hall r _ _ w (ho x (by simp [Op.operands])) (ho ix (by simp [Op.operands]))
    exact ⟨z, run_value hz, hr⟩
  case fieldAddr T x f =>
    obtain ⟨v, hv, hK⟩ := onOpt_some H
    refine lz_none hK fun r a w ho => ?_
    obtain ⟨z, hz, hr⟩ := evalFieldAddr_sound hτ hv (ho x (by simp [Op.operands])) w
    exact ⟨z, run_value hz, hr⟩
  case indexAddr T x ix =>
    obtain ⟨v, hK, hall⟩ := evalIndexAddr_sound hτ H
    refine lz_none hK fun r a w ho => ?_
    obtain ⟨z, hz, hr⟩ := hall r _ _ w (ho x (by simp [Op.operands])) (ho ix (by simp [Op.operands]))
    exact ⟨z, run_value hz, hr⟩
  case extract x i =>
    split at H
    · rename_i vs hx
      obtain ⟨v, hv, hK⟩ := onOpt_some H
      refine lz_none hK fun r a w ho => ?_
      have e := ho x (by simp [Op.operands])
      rw [hx] at e
      obtain ⟨us, hus, e⟩ := e
      obtain ⟨u, hu, hr⟩ := relL_get hus hv
      exact ⟨u, by simp [execOp, e, Instr.extract, hu], hr⟩
    · exact H.elim
  case slice T x lo hi mx =>
    obtain ⟨v, hK, hall⟩ := evalSlice_sound hτ H
    refine lz_none hK fun r a w ho => ?_
    have hin : ∀ (q : Option Operand), (∀ y ∈ q.toArray.toList, rel r (ev y) (a.eval y)) → (∀ y, q.map ev = some y → ∃ z, q.map a.eval = some z ∧ rel r y z) ∧ (q.map ev = none → q.map a.eval = none) := by
      intro q hq
      cases q with
      | none => exact ⟨fun y e => by simp at e, fun _ => rfl⟩
      | some y => exact ⟨fun z e => by simp at e; subst e; exact ⟨_, rfl, hq y (by simp)⟩, fun e => by simp at e⟩
    have h1 := hin lo (fun y hy => ho y (by simp [Op.operands] at hy ⊢; simp [hy]))
    have h2 := hin hi (fun y hy => ho y (by simp [Op.operands] at hy ⊢; simp [hy]))
    have h3 := hin mx (fun y hy => ho y (by simp [Op.operands] at hy ⊢; simp [hy]))
    obtain ⟨z, hz, hr⟩ := hall r _ _ _ _ w (ho x (by simp [Op.operands])) h1.1 h1.2 h2.1 h2.2 h3.1 h3.2
    exact ⟨z, run_value hz, hr⟩
  case load T x =>
    unfold evalLoad at H
    split at H
    · rename_i R id hR hid
      split at H
      · rename_i B hB
        obtain ⟨v, hK, hall⟩ := readAt_sound (hτ T R hR) H hid
        refine ⟨v, some id, hK, ?_, fun id' e => by cases e; rw [hB]; simp⟩
        intro β r a w ho hrd
        obtain ⟨H1, hd, hw, hG⟩ := hrd id B (by simp [rdOf, hB])
        obtain ⟨z, hz, hr⟩ := hall β r w H1 _ (ho x (by simp [Op.operands])) hd hw hG
        exact ⟨z, run_value hz, hr⟩
      · exact H.elim
    · exact H.elim
  case makeFunc fn fs cs =>
    split at H
    · rename_i f
      refine lz_none H fun r a w ho => ?_
      have hl : ∀ l : List Operand, (∀ x ∈ l, rel r (ev x) (a.eval x)) → relL r (l.map ev) (l.map a.eval) := by
        intro l
        induction l with
        | nil => intro _; exact relL_nil
        | cons x l ih => intro hh; exact relL_cons.2 ⟨hh x (by simp), ih fun y hy => hh y (by simp [hy])⟩
      refine ⟨_, rfl, ⟨_, _, hl fs.toList (fun x hx => ho x (by simp [Op.operands] at hx ⊢; simp [hx])), hl cs.toList (fun x hx => ho x (by simp [Op.operands] at hx ⊢; simp [hx])), ?_⟩⟩
      have hmap : ∀ l : Array Operand, l.map a.eval = (l.toList.map a.eval).toArray := fun l => by apply Array.ext'; simp
      simp only [hmap]
    · exact H.elim
  case makeInterface T x =>
    split at H
    · rename_i R hR
      have hm := (hτ T R hR).kind
      have key : ∀ d, P.underlying T = some d → (∀ ms, d ≠ .interface ms) → (K (.ifc T (ev x)) none).holds M → LzOut P M ⟨dst, .makeInterface T x, type, pos, after, guard⟩ ev h K := by
        intro d hd hne H
        refine lz_none H fun r a w ho => ⟨.iface T (a.eval x), ?_, ⟨_, ho x (by simp [Op.operands]), rfl⟩⟩
        refine run_value ?_
        simp only [Instr.makeInterface, Sem.run_bind, run_underlying hd, Result.andThen_ok]
        cases d <;> first | rfl | exact absurd rfl (hne _)
      cases hk : R.kind <;> rw [hk] at H hm <;> simp only [TK.met] at hm <;> simp only at H <;>
        first
          | exact H.elim
          | exact key _ hm (fun _ e => by cases e) H
          | (obtain ⟨fs, hm, _⟩ := hm; exact key _ hm (fun _ e => by cases e) H)
          | (obtain ⟨b1, b2, b3, hm⟩ := hm; exact key _ hm (fun _ e => by cases e) H)
    · exact H.elim
  case build T ps =>
    split at H
    · rename_i R hR
      split at H
      · rename_i fs hk
        rw [holds_bif] at H
        split at H
        · rename_i hpl
          split at H
          · rename_i cs hfill
            rw [holds_bif] at H
            split at H
            · rename_i hsome
              refine lz_none H fun r a w ho => ?_
              have hm := hτ T R hR
              obtain ⟨fields, hu, hmap⟩ := (by have := hm.kind; rw [hk] at this; exact this : TK.met P T (.struct fs))
              obtain ⟨i, z, hi, _, _, hz, _, hrz, _⟩ := hm.info
              rw [hk] at hrz
              obtain ⟨zs, hzs, rfl⟩ := hrz
              have hzs' : relL r R.zero zs := relL_mono (fun _ _ e => by cases e) _ _ hzs
              have hplaces : (fields.mapM fun f => do pure (f.offset, ← sizeOf f.type) : Sem (Array (Nat × Nat))).run P w = .ok ((fs.map fun q => (q.1, ((τ q.2).map (·.size)).getD 0)).toArray) w := by
                rw [Array.mapM_eq_mapM_toList]
                have : ∀ (l : List Field), (∀ f ∈ l, (τ f.type).isSome = true) → (l.mapM (fun f => do pure (f.offset, ← sizeOf f.type) : Field → Sem (Nat × Nat))).run P w = .ok (l.map fun f => (f.offset, ((τ f.type).map (·.size)).getD 0)) w := by
                  intro l
                  induction l with
                  | nil => intro _; rfl
                  | cons f l ih =>
                    intro hh
                    have hf := hh f (by simp)
                    cases hF : τ f.type with
                    | none => rw [hF] at hf; simp at hf
                    | some F =>
                      simp only [List.mapM_cons, Sem.run_bind, run_sizeOf (hτ _ F hF), Result.andThen_ok, Sem.run_pure, ih fun g hg => hh g (by simp [hg]), List.map_cons, hF, Option.map_some, Option.getD_some]
                have hh := this fields.toList (fun f hf => by
                  have := List.all_eq_true.1 hsome (f.offset, f.type) (by rw [← hmap]; exact List.mem_map.2 ⟨f, hf, rfl⟩)
                  simpa using this)
                rw [← hmap]
                simp only [Sem.run_map, hh, Result.andThen_ok, List.map_map]
                rfl
              have hpl' : ((ps.toList.map fun q => (q.1, ev q.2)).all fun q => q.2.plain) = true := by simpa [List.all_map] using hpl
              obtain ⟨ov, ho1, ho2⟩ := fill_sound (r := r) _ ((ps.map fun q => (q.1, a.eval q.2)).toList) _ cs zs.toArray hfill hpl' (by simp) (fun j i x hj => by
                simp only [List.getElem?_map, Option.map_eq_some_iff] at hj
                obtain ⟨q, hq, he⟩ := hj
                simp only [Prod.mk.injEq] at he
                obtain ⟨rfl, rfl⟩ := he
                refine ⟨a.eval q.2, by simp [hq], ho q.2 ?_⟩
                simp only [Op.operands, List.mem_map]
                exact ⟨q, List.mem_of_getElem? hq, rfl⟩) (by simpa using hzs')
              refine ⟨.agg ov, run_value ?_, ⟨ov.toList, ho2, by simp⟩⟩
              unfold Instr.build
              simp only [Sem.run_bind, zeroValue, typeInfo, run_program, hi, Result.andThen_ok, Sem.run_pure, hz, run_underlying hu, hplaces, Value.cells]
              have hpe : (fun i : Nat => (fs.map fun q => (q.1, ((τ q.2).map (·.size)).getD 0)).toArray[i]?) = (fun i : Nat => match fs[i]? with | some (off, ft) => (match τ ft with | some F => some (off, F.size) | none => none) | none => none) := by
                funext i
                simp only [List.getElem?_toArray, List.getElem?_map]
                cases hi : fs[i]? with
                | none => rfl
                | some q =>
                  obtain ⟨off, ft⟩ := q
                  have := List.all_eq_true.1 hsome (off, ft) (List.mem_of_getElem? hi)
                  cases hft : τ ft with
                  | none => simp [hft] at this
                  | some F => simp [hft]
              rw [hpe]
              simp only [ho1]
              rfl
            · exact H.elim
          · exact H.elim
        · exact H.elim
      · rename_i n e hk
        split at H
        · rename_i E hE
          rw [holds_bif] at H
          split at H
          · rename_i hpl
            split at H
            · rename_i cs hfill
              refine lz_none H fun r a w ho => ?_
              have hm := hτ T R hR
              have hu : P.underlying T = some (.array n e) := by have := hm.kind; rw [hk] at this; exact this
              obtain ⟨i, z, hi, _, _, hz, _, hrz, _⟩ := hm.info
              rw [hk] at hrz
              obtain ⟨zs, hzs, rfl⟩ := hrz
              have hzs' : relL r R.zero zs := relL_mono (fun _ _ e => by cases e) _ _ hzs
              have hpl' : ((ps.toList.map fun q => (q.1, ev q.2)).all fun q => q.2.plain) = true := by simpa [List.all_map] using hpl
              obtain ⟨ov, ho1, ho2⟩ := fill_sound (r := r) _ ((ps.map fun q => (q.1, a.eval q.2)).toList) _ cs zs.toArray hfill hpl' (by simp) (fun j i x hj => by
                simp only [List.getElem?_map, Option.map_eq_some_iff] at hj
                obtain ⟨q, hq, he⟩ := hj
                simp only [Prod.mk.injEq] at he
                obtain ⟨rfl, rfl⟩ := he
                refine ⟨a.eval q.2, by simp [hq], ho q.2 ?_⟩
                simp only [Op.operands, List.mem_map]
                exact ⟨q, List.mem_of_getElem? hq, rfl⟩) (by simpa using hzs')
              refine ⟨.agg ov, run_value ?_, ⟨ov.toList, ho2, by simp⟩⟩
              unfold Instr.build
              simp only [Sem.run_bind, zeroValue, typeInfo, run_program, hi, Result.andThen_ok, Sem.run_pure, hz, run_underlying hu, run_sizeOf (hτ _ E hE), Value.cells]
              simp only [ho1]
              rfl
            · exact H.elim
          · exact H.elim
        · exact H.elim
      · exact H.elim
    · exact H.elim
  case lookup T m k ok =>
    split at H
    · rename_i id hm
      split at H
      · rename_i B hB
        obtain ⟨v, hK, hall⟩ := evalLookup_sound (id := id) hτ hκ H
        refine ⟨v, some id, hK, ?_, fun id' e => by cases e; rw [hB]; simp⟩
        intro β r a w ho hrd
        obtain ⟨H1, hd, hw, _⟩ := hrd id B (by simp [rdOf, hB])
        have hmm := ho m (by simp [Op.operands]); rw [hm] at hmm
        obtain ⟨z, hz, hr⟩ := hall β r w H1 _ _ hmm (ho k (by simp [Op.operands])) hd hw
        exact ⟨z, run_value hz, hr⟩
      · exact H.elim
    · exact H.elim
  case call c =>
    obtain ⟨callee, args, argTypes⟩ := c
    cases callee <;> simp only at H <;> try exact H.elim
    rename_i b
    split at H
    · rename_i x T hargs hT
      obtain ⟨args⟩ := args
      simp only at hargs; subst hargs
      split at H
      · rename_i id hx
        split at H
        · rename_i kk k m R hB hR
          split at H
          · rename_i k' e' hK'
            refine ⟨_, some id, H, ?_, fun id' e => by cases e; rw [hB]; simp⟩
            intro β r a w ho hrd
            obtain ⟨H1, hd, hw, _⟩ := hrd id (.mp kk k m) (by simp [rdOf, hB])
            have hxx := ho x (by simp [Op.operands, Call.operands]); rw [hx] at hxx
            obtain ⟨y, hy, hxx⟩ := hxx
            obtain ⟨b, es, clock, hb, hrm, _, rfl⟩ := hd
            rw [hy] at hb; cases hb
            have hT' := (hτ T R hR).kind; rw [hK'] at hT'; simp only [TK.met] at hT'
            have hget : (getObj b).run P w = .ok (.map es clock) w := by simp [getObj, Sem.run, Hp.inW_one.1 hw]
            refine ⟨.int .i64 (es.size : Int), ?_, ?_⟩
            · have : (Builtin.len_ argTypes type #[.map (some b)]).run P w = .ok (.int .i64 (es.size : Int)) w := by
                simp [Builtin.len_, hT, run_underlying hT', hget, goInt]
              simp [execOp, resolve, invoke, builtin, hxx, this]
            · have := relM_length hrm
              simp only [Array.length_toList] at this
              simp [rel, this]
          · exact H.elim
        · exact H.elim
      · obtain ⟨v, hv, hK⟩ := onOpt_some H
        refine lz_none hK fun r a w ho => ?_
        obtain ⟨z, hz, hr⟩ := evalLen_sound hτ hv (ho x (by simp [Op.operands, Call.operands])) argTypes hT type w
        exact ⟨z, by simp [execOp, resolve, invoke, builtin, hz], hr⟩
    · rename_i x y hargs
      obtain ⟨args⟩ := args
      simp only at hargs; subst hargs
      obtain ⟨v, hv, hK⟩ := onOpt_some H
      refine lz_none hK fun r a w ho => ?_
      obtain ⟨z, hz, hr⟩ := evalMin2_sound (P := P) hv (ho x (by simp [Op.operands, Call.operands])) (ho y (by simp [Op.operands, Call.operands])) argTypes type w
      exact ⟨z, by simp [execOp, resolve, invoke, builtin, hz], hr⟩
    · rename_i x y hargs
      obtain ⟨args⟩ := args
      simp only at hargs; subst hargs
      obtain ⟨v, hv, hK⟩ := onOpt_some H
      refine lz_none hK fun r a w ho => ?_
      obtain ⟨z, hz, hr⟩ := evalMax2_sound (P := P) hv (ho x (by simp [Op.operands, Call.operands])) (ho y (by simp [Op.operands, Call.operands])) argTypes type w
      exact ⟨z, by simp [execOp, resolve, invoke, builtin, hz], hr⟩
    · exact H.elim

end
end Sx
end Go.Proofs.YtmcmdghmglopnaaGreatDoor

/-
  A pool: addresses, reading, lengths, slices among blocks that are plain data; the evaluator of operations that only read, with these.
-/
namespace Go.Proofs.YtmcmdghmglopnaaGreatDoor
namespace Sx
open Go

section
variable {U : Uni} {P : Program} {τ : Tab}

/-- The leaves of a type. -/
inductive LK where
  | int (k : IntKind) | bool | ptr | sl
def leavesOf (τ : Tab) : Nat → Nat → Option (List LK)
  | 0, _ => none
  | n + 1, T => match τ T with
    | none => none
    | some R => (match R.kind with
      | .int k => some [.int k]
      | .bool => some [.bool]
      | .ptr _ => some [.ptr]
      | .slice _ => some [.sl]
      | .struct fs => fs.foldr (fun f acc => match leavesOf τ n f.2, acc with | some a, some b => some (a ++ b) | _, _ => none) (some [])
      | _ => none)

def exL : List LK → (List PD → Out U) → Out U
  | [], K => K []
  | .int k :: ks, K => .ex Int fun n => exL ks fun ds => K (.int k n :: ds)
  | .bool :: ks, K => .ex Bool fun b => exL ks fun ds => K (.bool b :: ds)
  | .ptr :: ks, K => .ex (Option (Nat × Nat)) fun o => exL ks fun ds => K (.ptr o :: ds)
  | .sl :: ks, K => .ex (Option (Nat × Nat)) fun o => .ex Nat fun l => .ex Nat fun c => exL ks fun ds => K (.sl o l c :: ds)
theorem exL_holds {M : Goal U} : ∀ {ks : List LK} {K : List PD → Out U}, (exL ks K).holds M → ∃ ds, ds.length = ks.length ∧ (K ds).holds M
  | [], _, h => ⟨[], rfl, h⟩
  | .int _ :: _, _, ⟨_, h⟩ => let ⟨ds, hl, hk⟩ := exL_holds h; ⟨_ :: ds, by simp [hl], hk⟩
  | .bool :: _, _, ⟨_, h⟩ => let ⟨ds, hl, hk⟩ := exL_holds h; ⟨_ :: ds, by simp [hl], hk⟩
  | .ptr :: _, _, ⟨_, h⟩ => let ⟨ds, hl, hk⟩ := exL_holds h; ⟨_ :: ds, by simp [hl], hk⟩
  | .sl :: _, _, ⟨_, _, _, h⟩ => let ⟨ds, hl, hk⟩ := exL_holds h; ⟨_ :: ds, by simp [hl], hk⟩

def Heap.poolId : Heap U → Option Nat
  | [] => none
  | (i, .pool _) :: _ => some i
  | _ :: h => Heap.poolId h
def Heap.poolIds : Heap U → List Nat
  | [] => []
  | (i, .pool _) :: h => i :: Heap.poolIds h
  | _ :: h => Heap.poolIds h

def shiftA (o : Option (Nat × Nat)) (k : Nat) : Option (Nat × Nat) := o.map fun q => (q.1, q.2 + k)
@[simp] theorem shiftA_some {b off k : Nat} : shiftA (some (b, off)) k = some (b, off + k) := rfl
@[simp] theorem shiftA_none {k : Nat} : shiftA none k = none := rfl

def pload1 (τ : Tab) (T : Nat) (o : Option (Nat × Nat)) (h : Heap U) (oid : Option Nat) (K : AV → Option Nat → Out U) : Out U :=
  match τ T, leavesOf τ 6 T, oid with
  | some R, some ks, some id => (match h.get id with
    | some (.pool p) => bif Nat.beq ks.length R.size && (R.kind.agg || Nat.beq R.size 1) then
        exL ks fun ds => .need (p.at o ds) (K (bif R.kind.agg then .agg (ds.map PD.av) else (ds.map PD.av).headD .und) (some id)) else .bad 501
    | _ => .bad 502)
  | _, _, _ => .bad 503
def Heap.rpoolId : Heap U → Option Nat
  | [] => none
  | (i, .rpool _) :: _ => some i
  | _ :: h => Heap.rpoolId h
def rload (τ : Tab) (T : Nat) (o : Option (Nat × Nat)) (h : Heap U) (id : Nat) (K : AV → Option Nat → Out U) : Out U :=
  match τ T, leavesOf τ 6 T, h.get id with
  | some R, some ks, some (.rpool f) => bif Nat.beq ks.length R.size && (R.kind.agg || Nat.beq R.size 1) then
        exL ks fun ds => .need (f.at o ds) (K (bif R.kind.agg then .agg (ds.map PD.av) else (ds.map PD.av).headD .und) (some id)) else .bad 515
  | _, _, _ => .bad 516
/-- With two pools it may be either; what is known of foreign memory goes first. -/
def pload (τ : Tab) (T : Nat) (o : Option (Nat × Nat)) (h : Heap U) (K : AV → Option Nat → Out U) : Out U :=
  match h.rpoolId with
  | some id => rload τ T o h id K
  | none => (match h.poolIds with
    | [] => .bad 500
    | [id] => pload1 τ T o h (some id) K
    | id :: id' :: _ => .ex Bool fun b => .ite b (pload1 τ T o h (some id) K) (pload1 τ T o h (some id') K))
theorem pload_cases {M : Goal U} {T : Nat} {o : Option (Nat × Nat)} {h : Heap U} {K : AV → Option Nat → Out U} (H : (pload τ T o h K).holds M) : (∃ oid, (pload1 τ T o h oid K).holds M) ∨ ∃ id, (rload τ T o h id K).holds M := by
  unfold pload at H
  split at H
  · exact .inr ⟨_, H⟩
  · refine .inl ?_
    split at H
    · exact H.elim
    · exact ⟨_, H⟩
    · obtain ⟨b, h1, h2⟩ := H
      cases b with
      | true => exact ⟨_, h1 rfl⟩
      | false => exact ⟨_, h2 rfl⟩

theorem pool_run {t : Nat} {R : TyRow} (hm : R.met P t) {p : Pool} {o : Option (Nat × Nat)} {ds : List PD} (hat : p.at o ds) (hl : ds.length = R.size) (hc : R.kind.agg = true ∨ R.size = 1) {w : World} (hw : p.hp.inW w) (r : Nm) :
    ∃ v, (Instr.loadAt t (.pointer (addrOf o))).run P w = .ok v w ∧ rel r (bif R.kind.agg then .agg (ds.map PD.av) else (ds.map PD.av).headD .und) v := by
  obtain ⟨b, off, T, cs, rfl, hb, hle, hat⟩ := hat
  have hblk : w.heap[b]? = some (.cells (cs.map PD.val).toArray T (0, 0)) := hw b _ (by simp [Pool.hp, hb, Pool.obj])
  have htk : takeRow R.kind.agg R.size (ds.map PD.av) 0 = some (bif R.kind.agg then .agg (ds.map PD.av) else (ds.map PD.av).headD .und) := by
    unfold takeRow
    cases ha : R.kind.agg with
    | true =>
      have : Nat.ble (0 + R.size) (ds.map PD.av).length = true := by rw [Nat.ble_eq]; simp [hl]
      rw [this]; simp [← hl, List.take_of_length_le]
    | false =>
      have h1 : R.size = 1 := by rcases hc with hc | hc; · rw [ha] at hc; cases hc
                                 · exact hc
      match ds, hl with
      | [d], _ => rfl
      | [], e => simp at e; omega
      | _ :: _ :: _, e => simp at e; omega
  have := run_loadVar (P := P) hm (o := off) hblk (PD.relL_av r ds) (fun j v hj => by
    have hj' : j < ds.length := by have := (List.getElem?_eq_some_iff.1 hj).1; simpa using this
    rw [← hat] at hj
    simp only [List.getElem?_map, List.getElem?_take, hj', if_true, List.getElem?_drop] at hj
    simpa using hj) htk
  simpa [addrOf, Instr.loadAt, Instr.sureAddr] using this

theorem rpool_run {t : Nat} {R : TyRow} (hm : R.met P t) {f : RPool} {o : Option (Nat × Nat)} {ds : List PD} (hat : f.at o ds) (hl : ds.length = R.size) (hc : R.kind.agg = true ∨ R.size = 1) {G : Hp} (hf : f.inG G) {w : World} (hw : G.inW w) (r : Nm) :
    ∃ v, (Instr.loadAt t (.pointer (addrOf o))).run P w = .ok v w ∧ rel r (bif R.kind.agg then .agg (ds.map PD.av) else (ds.map PD.av).headD .und) v := by
  obtain ⟨b, off, rfl, hat⟩ := hat
  by_cases h0 : ds = []
  · subst h0
    cases ha : R.kind.agg with
    | false =>
      rcases hc with hc | hc
      · rw [ha] at hc; cases hc
      · rw [← hl] at hc; cases hc
    | true =>
      refine ⟨.agg #[], ?_, ⟨[], relL_nil, rfl⟩⟩
      have hz : R.size = 0 := by rw [← hl]; rfl
      have hrun := run_loadCells_list (P := P) w ⟨b, off, none⟩ [] (fun j v hj => by cases hj)
      have hrun : (loadCells ⟨b, off, none⟩ 0).run P w = .ok #[] w := by simpa using hrun
      simp [addrOf, Instr.loadAt, Instr.sureAddr, loadVar, Sem.run_bind, run_isAgg hm, ha, run_sizeOf hm, hz, hrun]
  · obtain ⟨d, hd⟩ : ∃ d, ds[0]? = some d := by
      cases ds with
      | nil => exact absurd rfl h0
      | cons d _ => exact ⟨d, rfl⟩
    obtain ⟨c, T, fz, hb, _⟩ := hf b _ _ (hat 0 d hd)
    have hblk : w.heap[b]? = some (.cells c T fz) := hw b _ hb
    have htk : takeRow R.kind.agg R.size (ds.map PD.av) 0 = some (bif R.kind.agg then .agg (ds.map PD.av) else (ds.map PD.av).headD .und) := by
      unfold takeRow
      cases ha : R.kind.agg with
      | true =>
        have : Nat.ble (0 + R.size) (ds.map PD.av).length = true := by rw [Nat.ble_eq]; simp [hl]
        rw [this]; simp [← hl, List.take_of_length_le]
      | false =>
        have h1 : R.size = 1 := by rcases hc with hc | hc; · rw [ha] at hc; cases hc
                                   · exact hc
        match ds, hl with
        | [d], _ => rfl
        | [], e => simp at e; omega
        | _ :: _ :: _, e => simp at e; omega
    have := run_loadVar (P := P) hm (o := off) hblk (PD.relL_av r ds) (fun j v hj => by
      rw [List.getElem?_map, Option.map_eq_some_iff] at hj
      obtain ⟨d', hd', rfl⟩ := hj
      obtain ⟨c', T', fz', hb', hc'⟩ := hf b _ _ (hat j d' hd')
      rw [hb] at hb'; cases hb'
      exact hc') htk
    simpa [addrOf, Instr.loadAt, Instr.sureAddr] using this

def pfield (τ : Tab) (T f : Nat) (o : Option (Nat × Nat)) (K : AV → Option Nat → Out U) : Out U :=
  match structOf τ T f with
  | some (off, ft) => (match τ ft with
    | some R => bif Nat.beq R.size 0 then .bad 504 else .need (o.isSome = true) (K (.rp (shiftA o off)) none)
    | none => .bad 505)
  | none => .bad 506
theorem pfield_run (hτ : τ.met P) {T f off ft : Nat} (hs : structOf τ T f = some (off, ft)) {R : TyRow} (hR : τ ft = some R) (hz : Nat.beq R.size 0 = false) {o : Option (Nat × Nat)} (ho : o.isSome = true) (w : World) :
    (Instr.fieldAt T (.pointer (addrOf o)) f).run P w = .ok (.pointer (addrOf (shiftA o off))) w := by
  have hne : R.size ≠ 0 := fun e => by rw [e] at hz; simp at hz
  obtain ⟨fields, hk, fl, hfl, rfl, rfl⟩ := structOf_sound hτ hs
  have hsz := run_sizeOf (P := P) (hτ _ R hR) w
  obtain ⟨⟨b, i⟩, rfl⟩ := Option.isSome_iff_exists.1 ho
  simp [addrOf, shiftA, Instr.fieldAt, run_underlying hk, hfl, Instr.sureAddr, fieldPlace, hsz, hne, Addr.add_lit]

def pindex (τ : Tab) (T : Nat) (o : Option (Nat × Nat)) (len : Nat) (ix : AV) (K : AV → Option Nat → Out U) : Out U :=
  match sliceOf τ T, ix.num with
  | some (_, s), some (_, i, _) => .need (0 ≤ i ∧ i < (len : Int) ∧ o.isSome = true) (K (.rp (shiftA o (i.toNat * s))) none)
  | _, _ => .bad 507
theorem pindex_run (hτ : τ.met P) {T e s : Nat} (hs : sliceOf τ T = some (e, s)) {o : Option (Nat × Nat)} {len cap : Nat} {k : IntKind} {i : Int} (h : 0 ≤ i ∧ i < (len : Int) ∧ o.isSome = true) (w : World) :
    (Instr.indexAt T (.slice (addrOf o) len cap) (.int k i)).run P w = .ok (.pointer (addrOf (shiftA o (i.toNat * s)))) w := by
  obtain ⟨hk, hsz⟩ := sliceOf_sound hτ hs
  obtain ⟨h0, h1, h2⟩ := h
  obtain ⟨⟨b, j⟩, rfl⟩ := Option.isSome_iff_exists.1 h2
  simp [addrOf, shiftA, Instr.indexAt, asIntOf, run_underlying hk, hsz, h0, h1, Addr.add_lit]

def pslice (τ : Tab) (T : Nat) (o : Option (Nat × Nat)) (len cap : Nat) (lo : Option AV) (K : AV → Option Nat → Out U) : Out U :=
  match sliceOf τ T, lo with
  | some _, none => .need (len ≤ cap) (K (.rs o len cap) none)
  | some (_, s), some l => (match l.num with
    | some (_, i, _) => .need (0 ≤ i ∧ i ≤ (len : Int) ∧ len ≤ cap) (K (.rs (if cap = i.toNat then o else shiftA o (i.toNat * s)) (len - i.toNat) (cap - i.toNat)) none)
    | none => .bad 508)
  | _, _ => .bad 509
theorem pslice_run (hτ : τ.met P) {T e s : Nat} (hs : sliceOf τ T = some (e, s)) {o : Option (Nat × Nat)} {len cap : Nat} {k : IntKind} {i : Int} (h : 0 ≤ i ∧ i ≤ (len : Int) ∧ len ≤ cap) (w : World) :
    (Instr.sliceAt T (.slice (addrOf o) len cap) (some (.int k i)) none none).run P w = .ok (.slice (addrOf (if cap = i.toNat then o else shiftA o (i.toNat * s))) (len - i.toNat) (cap - i.toNat)) w := by
  obtain ⟨hk, hsz⟩ := sliceOf_sound hτ hs
  obtain ⟨h0, h1, h2⟩ := h
  have hb : (Instr.sliceBounds true len cap (some (.int k i)) none none).run P w = .ok (i.toNat, len, cap) w := by
    simp [Instr.sliceBounds, Instr.sliceBound, asIntOf, h0, h1]
  simp only [Instr.sliceAt, Sem.run_bind, run_underlying hk, Result.andThen_ok, Instr.slice, hb, hsz, Sem.run_pure]
  by_cases hc : cap = i.toNat
  · simp [hc]
  · simp only [hc, if_false]
    cases o with
    | none => simp [addrOf]
    | some q => simp [addrOf, shiftA, Addr.add_lit]
theorem pslice_run0 (hτ : τ.met P) {T e s : Nat} (hs : sliceOf τ T = some (e, s)) {o : Option (Nat × Nat)} {len cap : Nat} (h : len ≤ cap) (w : World) :
    (Instr.sliceAt T (.slice (addrOf o) len cap) none none none).run P w = .ok (.slice (addrOf o) len cap) w := by
  obtain ⟨hk, hsz⟩ := sliceOf_sound hτ hs
  have hb : (Instr.sliceBounds true len cap none none none).run P w = .ok (0, len, cap) w := by
    simp [Instr.sliceBounds]
  simp only [Instr.sliceAt, Sem.run_bind, run_underlying hk, Result.andThen_ok, Instr.slice, hb, hsz, Sem.run_pure]
  by_cases hc : cap = 0
  · simp [hc]
  · simp only [hc, if_false]
    cases o with
    | none => simp [addrOf]
    | some q => simp [addrOf, Addr.add_lit]

def psliceH (τ : Tab) (T : Nat) (o : Option (Nat × Nat)) (cap : Nat) (hi : AV) (K : AV → Option Nat → Out U) : Out U :=
  match sliceOf τ T, hi.num with
  | some _, some (_, i, _) => .need (0 ≤ i ∧ i ≤ (cap : Int)) (K (.rs o i.toNat cap) none)
  | _, _ => .bad 514
theorem psliceH_run (hτ : τ.met P) {T e s : Nat} (hs : sliceOf τ T = some (e, s)) {o : Option (Nat × Nat)} {len cap : Nat} {k : IntKind} {i : Int} (h : 0 ≤ i ∧ i ≤ (cap : Int)) (w : World) :
    (Instr.sliceAt T (.slice (addrOf o) len cap) none (some (.int k i)) none).run P w = .ok (.slice (addrOf o) i.toNat cap) w := by
  obtain ⟨hk, hsz⟩ := sliceOf_sound hτ hs
  obtain ⟨h0, h1⟩ := h
  have hb : (Instr.sliceBounds true len cap none (some (.int k i)) none).run P w = .ok (0, i.toNat, cap) w := by
    simp [Instr.sliceBounds, Instr.sliceBound, asIntOf, h0, h1]
  simp only [Instr.sliceAt, Sem.run_bind, run_underlying hk, Result.andThen_ok, Instr.slice, hb, hsz, Sem.run_pure]
  by_cases hc : cap = 0
  · simp [hc]
  · simp only [hc, if_false]
    cases o with
    | none => simp [addrOf]
    | some q => simp [addrOf, Addr.add_lit]

def ptrOf (τ : Tab) (T : Nat) : Bool := match τ T with | some R => (match R.kind with | .ptr _ => true | _ => false) | none => false
theorem ptr_both (hτ : τ.met P) {T : Nat} (h : ptrOf τ T = true) (o : Option (Nat × Nat)) (w : World) (p q : Operand) :
    ((do eqGuard .eql T p q (.pointer (addrOf o)) (.pointer none); binOp .eql T (.pointer (addrOf o)) (.pointer none) : Sem Value).run P w = .ok (.bool o.isNone) w ∧
     (do eqGuard .neq T p q (.pointer (addrOf o)) (.pointer none); binOp .neq T (.pointer (addrOf o)) (.pointer none) : Sem Value).run P w = .ok (.bool (!o.isNone)) w) ∧
    ((do eqGuard .eql T p q (.pointer none) (.pointer (addrOf o)); binOp .eql T (.pointer none) (.pointer (addrOf o)) : Sem Value).run P w = .ok (.bool o.isNone) w ∧
     (do eqGuard .neq T p q (.pointer none) (.pointer (addrOf o)); binOp .neq T (.pointer none) (.pointer (addrOf o)) : Sem Value).run P w = .ok (.bool (!o.isNone)) w) := by
  unfold ptrOf at h
  split at h
  · rename_i R hR
    split at h
    · rename_i e hK
      have hk := (hτ T R hR).kind
      rw [hK] at hk; simp only [TK.met] at hk
      constructor
      · refine run_both rfl rfl (by cases o <;> rfl) (by cases o <;> rfl) ?_
        generalize 9999 = n
        cases o <;> simp [Op.equalIn, run_underlying hk, addrOf]
      · refine run_both rfl rfl (by cases o <;> rfl) (by cases o <;> rfl) ?_
        generalize 9999 = n
        cases o <;> simp [Op.equalIn, run_underlying hk, addrOf]
    · cases h
  · cases h

def evalL (τ : Tab) (κ : Kinds U) (op : Op) (ev : Operand → AV) (h : Heap U) (K : AV → Option Nat → Out U) : Out U :=
  match op with
  | .nilCheck x => (match ev x with | .rp o => .need (o.isSome = true) (K (.rp o) none) | _ => evalL0 τ κ (.nilCheck x) ev h K)
  | .binOp b T x y yt => (match b, ev x, ev y with
    | .eql, .rp o, .nilP => bif ptrOf τ T then K (.bool o.isNone) none else .bad 510
    | .neq, .rp o, .nilP => bif ptrOf τ T then K (.bool (!o.isNone)) none else .bad 511
    | .eql, .nilP, .rp o => bif ptrOf τ T then K (.bool o.isNone) none else .bad 512
    | .neq, .nilP, .rp o => bif ptrOf τ T then K (.bool (!o.isNone)) none else .bad 513
    | _, _, _ => evalL0 τ κ (.binOp b T x y yt) ev h K)
  | .fieldAddr T x f => (match ev x with | .rp o => pfield τ T f o K | _ => evalL0 τ κ (.fieldAddr T x f) ev h K)
  | .indexAddr T x ix => (match ev x with | .rs o len _ => pindex τ T o len (ev ix) K | _ => evalL0 τ κ (.indexAddr T x ix) ev h K)
  | .slice T x lo hi mx => (match ev x, lo, hi, mx with | .rs o len cap, lo, none, none => pslice τ T o len cap (lo.map ev) K | .rs o _ cap, none, some y, none => psliceH τ T o cap (ev y) K | _, _, _, _ => evalL0 τ κ (.slice T x lo hi mx) ev h K)
  | .load T x => (match ev x with | .rp o => pload τ T o h K | _ => evalL0 τ κ (.load T x) ev h K)
  | .call c => (match c.callee, c.args.toList, c.argTypes[0]? with
    | .builtin .len, [x], some T => (match ev x, sliceOf τ T with | .rs _ len _, some _ => K (.int .i64 (len : Int)) none | _, _ => evalL0 τ κ (.call c) ev h K)
    | _, _, _ => evalL0 τ κ (.call c) ev h K)
  | op => evalL0 τ κ op ev h K

set_option maxHeartbeats 1000000 in
theorem evalL_sound (hτ : τ.met P) {κ : Kinds U} (hκ : κ.met τ) {M : Goal U} {dst : Option Tmp} {op : Op} {type : Nat} {pos : String} {after : Array Edge} {guard : Option (Nat × Bool)} {ev : Operand → AV} {h : Heap U} {K : AV → Option Nat → Out U}
    (H : (evalL τ κ op ev h K).holds M) : LzOut P M ⟨dst, op, type, pos, after, guard⟩ ev h K := by
  cases op
  case nilCheck x =>
    simp only [evalL] at H
    split at H
    · rename_i o hx
      obtain ⟨hs, H⟩ := H
      refine lz_none H fun r a w ho => ?_
      have e := ho x (by simp [Op.operands])
      rw [hx] at e
      refine ⟨a.eval x, ?_, e⟩
      simp only [rel] at e
      obtain ⟨q, rfl⟩ := Option.isSome_iff_exists.1 hs
      simp [execOp, e, addrOf]
    · exact evalL0_sound hτ hκ H
  case binOp b T x y yt =>
    simp only [evalL] at H
    split at H
    · rename_i o hx hy
      rw [holds_bif] at H
      split at H
      · rename_i hp
        refine lz_none H fun r a w ho => ⟨.bool o.isNone, run_value ?_, rfl⟩
        have e1 := ho x (by simp [Op.operands]); have e2 := ho y (by simp [Op.operands])
        rw [hx] at e1; rw [hy] at e2; simp only [rel] at e1 e2
        simp only [e1, e2]
        exact (ptr_both hτ hp o w x y).1.1
      · exact H.elim
    · rename_i o hx hy
      rw [holds_bif] at H
      split at H
      · rename_i hp
        refine lz_none H fun r a w ho => ⟨.bool (!o.isNone), run_value ?_, rfl⟩
        have e1 := ho x (by simp [Op.operands]); have e2 := ho y (by simp [Op.operands])
        rw [hx] at e1; rw [hy] at e2; simp only [rel] at e1 e2
        simp only [e1, e2]
        exact (ptr_both hτ hp o w x y).1.2
      · exact H.elim
    · rename_i o hx hy
      rw [holds_bif] at H
      split at H
      · rename_i hp
        refine lz_none H fun r a w ho => ⟨.bool o.isNone, run_value ?_, rfl⟩
        have e1 := ho x (by simp [Op.operands]); have e2 := ho y (by simp [Op.operands])
        rw [hx] at e1; rw [hy] at e2; simp only [rel] at e1 e2
        simp only [e1, e2]
        exact (ptr_both hτ hp o w x y).2.1
      · exact H.elim
    · rename_i o hx hy
      rw [holds_bif] at H
      split at H
      · rename_i hp
        refine lz_none H fun r a w ho => ⟨.bool (!o.isNone), run_value ?_, rfl⟩
        have e1 := ho x (by simp [Op.operands]); have e2 := ho y (by simp [Op.operands])
        rw [hx] at e1; rw [hy] at e2; simp only [rel] at e1 e2
        simp only [e1, e2]
        exact (ptr_both hτ hp o w x y).2.2
      · exact H.elim
    · exact evalL0_sound hτ hκ H
  case fieldAddr T x f =>
    simp only [evalL] at H
    split at H
    · rename_i o hx
      unfold pfield at H
      split at H
      · rename_i off ft hs
        split at H
        · rename_i R hR
          rw [holds_bif] at H
          split at H
          · exact H.elim
          · rename_i hz
            obtain ⟨hs1, H⟩ := H
            refine lz_none H fun r a w ho => ⟨.pointer (addrOf (shiftA o off)), run_value ?_, rfl⟩
            have e := ho x (by simp [Op.operands])
            rw [hx] at e; simp only [rel] at e
            simp only [e]
            exact pfield_run hτ hs hR (by cases e' : Nat.beq R.size 0 with | true => exact absurd e' hz | false => rfl) hs1 w
        · exact H.elim
      · exact H.elim
    · exact evalL0_sound hτ hκ H
  case indexAddr T x ix =>
    simp only [evalL] at H
    split at H
    · rename_i o len cap hx
      unfold pindex at H
      split at H
      · rename_i e s k i l hs hi
        obtain ⟨hn, H⟩ := H
        refine lz_none H fun r a w ho => ⟨_, run_value ?_, rfl⟩
        have e1 := ho x (by simp [Op.operands])
        rw [hx] at e1; simp only [rel] at e1
        have e2 := rel_num hi (ho ix (by simp [Op.operands]))
        simp only [e1, e2]
        exact pindex_run hτ hs hn w
      · exact H.elim
    · exact evalL0_sound hτ hκ H
  case slice T x lo hi mx =>
    simp only [evalL] at H
    split at H
    · rename_i lo _ _ _ _ o len cap hx
      unfold pslice at H
      split at H
      · rename_i q hs hlo
        obtain ⟨hn, H⟩ := H
        have hlo' : lo = none := by cases lo with | none => rfl | some _ => cases hlo
        subst hlo'
        refine lz_none H fun r a w ho => ⟨.slice (addrOf o) len cap, run_value ?_, rfl⟩
        have e1 := ho x (by simp [Op.operands])
        rw [hx] at e1; simp only [rel] at e1
        simp only [e1]
        exact pslice_run0 (e := q.1) (s := q.2) hτ hs hn w
      · rename_i e s l hs hlo
        split at H
        · rename_i k i ll hi
          obtain ⟨hn, H⟩ := H
          obtain ⟨y, rfl⟩ : ∃ y, lo = some y := by cases lo with | none => cases hlo | some y => exact ⟨y, rfl⟩
          simp only [Option.map_some, Option.some.injEq] at hlo; subst hlo
          refine lz_none H fun r a w ho => ⟨_, run_value ?_, rfl⟩
          have e1 := ho x (by simp [Op.operands])
          rw [hx] at e1; simp only [rel] at e1
          have e2 := rel_num hi (ho y (by simp [Op.operands]))
          simp only [e1, Option.map_some, e2, Option.map_none]
          exact pslice_run hτ hs hn w
        · exact H.elim
      · exact H.elim
    · rename_i o len cap y hx
      unfold psliceH at H
      split at H
      · rename_i q k i ll hs hi
        obtain ⟨hn, H⟩ := H
        refine lz_none H fun r a w ho => ⟨_, run_value ?_, rfl⟩
        have e1 := ho x (by simp [Op.operands])
        rw [hx] at e1; simp only [rel] at e1
        have e2 := rel_num hi (ho y (by simp [Op.operands]))
        simp only [e1, Option.map_none, Option.map_some, e2]
        exact psliceH_run (e := q.1) (s := q.2) hτ hs hn w
      · exact H.elim
    · exact evalL0_sound hτ hκ H
  case load T x =>
    simp only [evalL] at H
    split at H
    · rename_i o hx
      rcases pload_cases H with ⟨oid, H⟩ | ⟨rid, H⟩
      rotate_left
      · unfold rload at H
        split at H
        · rename_i R ks f hR hks hg
          rw [holds_bif] at H
          split at H
          · rename_i hc
            simp only [Bool.and_eq_true, Bool.or_eq_true] at hc
            obtain ⟨ds, hl, hat, H⟩ := exL_holds H
            refine ⟨_, some rid, H, ?_, fun id' e => by cases e; rw [hg]; simp⟩
            intro β r a w ho hrd
            obtain ⟨H1, hd, _, hG⟩ := hrd rid (.rpool f) (by simp [rdOf, hg])
            have e := ho x (by simp [Op.operands])
            rw [hx] at e; simp only [rel] at e
            obtain ⟨z, hz, hr⟩ := rpool_run (hτ T R hR) hat (by rw [hl]; exact Nat.eq_of_beq_eq_true hc.1) (hc.2.imp (fun h => h) Nat.eq_of_beq_eq_true) hd.1 hG r
            exact ⟨z, run_value (by simp only [e]; exact hz), hr⟩
          · exact H.elim
        · exact H.elim
      unfold pload1 at H
      split at H
      · rename_i R ks id hR hks
        split at H
        · rename_i p hg
          rw [holds_bif] at H
          split at H
          · rename_i hc
            simp only [Bool.and_eq_true, Bool.or_eq_true] at hc
            obtain ⟨ds, hl, hat, H⟩ := exL_holds H
            refine ⟨_, some id, H, ?_, fun id' e => by cases e; rw [hg]; simp⟩
            intro β r a w ho hrd
            obtain ⟨H1, hd, hw, hG⟩ := hrd id (.pool p) (by simp [rdOf, hg])
            have hd : H1 = p.hp := hd
            subst hd
            have e := ho x (by simp [Op.operands])
            rw [hx] at e; simp only [rel] at e
            obtain ⟨z, hz, hr⟩ := pool_run (hτ T R hR) hat (by rw [hl]; exact Nat.eq_of_beq_eq_true hc.1) (hc.2.imp (fun h => h) Nat.eq_of_beq_eq_true) hw r
            exact ⟨z, run_value (by simp only [e]; exact hz), hr⟩
          · exact H.elim
        · exact H.elim
      · exact H.elim
    · exact evalL0_sound hτ hκ H
  case call c =>
    simp only [evalL] at H
    split at H
    · rename_i x T hc hx hT
      split at H
      · rename_i o len cap q hv hs
        obtain ⟨callee, args, argTypes⟩ := c
        obtain ⟨args⟩ := args
        simp only at hc hx hT; subst hc; subst hx
        refine lz_none H fun r a w ho => ?_
        have e := ho x (by simp [Op.operands, Call.operands])
        rw [hv] at e; simp only [rel] at e
        have hk := (sliceOf_sound (e := q.1) (s := q.2) hτ hs).1
        refine ⟨.int .i64 (len : Int), ?_, rfl⟩
        simp [execOp, resolve, invoke, builtin, e, Builtin.len_, hT, run_underlying hk, goInt]
      · exact evalL0_sound hτ hκ H
    · exact evalL0_sound hτ hκ H
  all_goals exact evalL0_sound hτ hκ (by simpa only [evalL] using H)

end
end Sx
end Go.Proofs.YtmcmdghmglopnaaGreatDoor

/-
  The operations that make memory or write it: an evaluator, and its soundness.
-/
namespace Go.Proofs.YtmcmdghmglopnaaGreatDoor
namespace Sx
open Go

section
variable {U : Uni} {P : Program} {τ : Tab}

theorem Heap.get_set_ne {id j : Nat} {B : Blk U} (h : j ≠ id) : ∀ hp : Heap U, (hp.set id B).get j = hp.get j
  | [] => rfl
  | (i, C) :: hp => by
    unfold Heap.set
    cases hi : Nat.beq i id with
    | true =>
      have : i = id := Nat.eq_of_beq_eq_true hi
      subst this
      have hij : Nat.beq i j = false := by cases e : Nat.beq i j with | true => exact absurd (Nat.eq_of_beq_eq_true e).symm h | false => rfl
      simp [Heap.get, hij]
    | false => simp only [cond_false, Heap.get]; rw [Heap.get_set_ne h hp]
theorem Heap.get_del_ne {id j : Nat} (h : j ≠ id) : ∀ hp : Heap U, (hp.del id).get j = hp.get j
  | [] => rfl
  | (i, C) :: hp => by
    unfold Heap.del
    cases hi : Nat.beq i id with
    | true =>
      have : i = id := Nat.eq_of_beq_eq_true hi
      subst this
      have hij : Nat.beq i j = false := by cases e : Nat.beq i j with | true => exact absurd (Nat.eq_of_beq_eq_true e).symm h | false => rfl
      simp [Heap.get, hij]
    | false => simp only [cond_false, Heap.get]; rw [Heap.get_del_ne h hp]
theorem Heap.get_set_self {id : Nat} {C : Blk U} : ∀ {hp : Heap U}, hp.get id = some C → ∀ B : Blk U, (hp.set id B).get id = some B
  | [], h, _ => by cases h
  | (i, D) :: hp, h, B => by
    unfold Heap.get at h
    unfold Heap.set
    cases hi : Nat.beq i id with
    | true => simp [Heap.get, hi]
    | false => rw [hi] at h; simp only [cond_false] at h ⊢; simp only [Heap.get, hi, cond_false]; exact Heap.get_set_self h B
theorem Heap.get_cons_ne {id j : Nat} {B : Blk U} (h : j ≠ id) (hp : Heap U) : Heap.get ((id, B) :: hp) j = hp.get j := by
  have hij : Nat.beq id j = false := by cases e : Nat.beq id j with | true => exact absurd (Nat.eq_of_beq_eq_true e).symm h | false => rfl
  simp [Heap.get, hij]

/-! ## one cell -/
def AV.one : AV → Bool
  | .agg _ => false
  | .tup _ => false
  | .und => false
  | .raw _ => false
  | .may .. => false
  | _ => true
theorem rel_one {r : Nm} {x : AV} {v : Value} (h : x.one = true) (e : rel r x v) : v.oneCell' = true := by
  cases x <;> simp only [AV.one] at h <;> (try (simp at h; done)) <;> simp only [rel] at e
  all_goals first
    | (subst e; rfl)
    | (obtain ⟨a, _, rfl⟩ := e; rfl)
    | (obtain ⟨a, rfl, _⟩ := e; rfl)
    | (obtain ⟨a, b, _, _, rfl⟩ := e; rfl)
theorem relL_one {r : Nm} : ∀ {xs : List AV} {vs : List Value}, xs.all AV.one = true → relL r xs vs → ∀ v ∈ vs, v.oneCell' = true
  | [], _, _, e, v, hv => by simp only [relL] at e; subst e; simp at hv
  | x :: xs, _, h, e, v, hv => by
    simp only [relL] at e; obtain ⟨u, us, rfl, k, l⟩ := e
    simp only [List.all_cons, Bool.and_eq_true] at h
    rcases List.mem_cons.1 hv with rfl | hv
    · exact rel_one h.1 k
    · exact relL_one h.2 l v hv

theorem setRangeV_eq : ∀ (ns cs : List Value) (off : Nat), off + ns.length ≤ cs.length → setRangeV cs off ns = cs.take off ++ ns ++ cs.drop (off + ns.length)
  | [], cs, off, _ => by simp [setRangeV]
  | n :: ns, cs, off, h => by
    simp only [List.length_cons] at h
    simp only [setRangeV]
    rw [setRangeV_eq ns _ (off + 1) (by simp; omega)]
    have h1 : (cs.set off n).take (off + 1) = cs.take off ++ [n] := by
      rw [List.take_succ_eq_append_getElem (by simp; omega)]
      simp [List.take_set_of_le (Nat.le_refl _)]
    have h2 : (cs.set off n).drop (off + 1 + ns.length) = cs.drop (off + (n :: ns).length) := by
      rw [List.drop_set_of_lt (by omega)]
      simp only [List.length_cons]; congr 1; omega
    rw [h1, h2]; simp

/-! ## writing -/
def writeAt (R : TyRow) (B : Blk U) (p x : AV) (K : Blk U → Out U) : Out U :=
  bif x.plain && (cellsAV x).all AV.one && Nat.beq (cellsAV x).length R.size then
    (match p, B with
    | .ptr _ off, .cells T cs => bif Nat.ble (off + R.size) cs.length then K (.cells T (setRange cs off (cellsAV x))) else .bad 100
    | .ptrR _ i w c, .cells T cs => bif Nat.ble (i * w + c + R.size) cs.length then K (.cells T (setRange cs (i * w + c) (cellsAV x))) else .bad 101
    | .ptrR _ i w c, .arr T k xs sp => bif Nat.beq w (U.enc k).w && Nat.ble (c + R.size) w then .needd (i < xs.length)
        (match (U.enc k).dec (setRange ((U.enc k).enc (xs.getD i (U.enc k).dflt)) c (cellsAV x)) with | some y => K (.arr T k (xs.set i y) sp) | none => .bad 102) else .bad 103
    | _, _ => .bad 104)
  else .bad 105

theorem run_storeVar {t : Nat} {R : TyRow} (hm : R.met P t) {w : World} {b o : Nat} {c : Array Value} {E : Nat} (hb : w.heap[b]? = some (.cells c E (0, 0))) {v : Value}
    (hsz : v.cells.size = R.size) (hone : ∀ u ∈ v.cells.toList, u.oneCell' = true) (hfit : o + v.cells.size ≤ c.size) :
    (storeVar t ⟨b, o, none⟩ v).run P w = .ok () (w.setRow b (setRangeV c.toList o v.cells.toList).toArray) := by
  unfold storeVar
  simp only [Sem.run_bind, run_sizeOf hm, Result.andThen_ok, hsz, ne_eq, not_true_eq_false, if_false]
  have := run_storeCells_at P b o E v.cells.toList 0 c w hb (by simpa using hfit) hone
  simp only [Nat.add_zero] at this
  rw [this, setRangeV_eq _ _ _ (by simpa using hfit)]

theorem writeAt_sound {M : Goal U} {t : Nat} {R : TyRow} (hm : R.met P t) {B : Blk U} {p x : AV} {K : Blk U → Out U} (h : (writeAt R B p x K).holds M) {id : Nat} (hid : p.id? = some id) :
    ∃ B', (K B').holds M ∧ ∀ (β : Base) (r : Nm) (w : World) (hp : Heap U) (u v : Value), rel r p u → rel r x v → hp.get id = some B → Sat β r hp w →
      ∃ w', (Instr.storeAt t u v).run P w = .ok () w' ∧ Sat β r (hp.set id B') w' := by
  unfold writeAt at h
  rw [holds_bif] at h
  split at h
  · rename_i hc
    simp only [Bool.and_eq_true] at hc
    obtain ⟨⟨hpl, hone⟩, hlen⟩ := hc
    have hlen := Nat.eq_of_beq_eq_true hlen
    -- a block of cells
    have cellsCase : ∀ (T : Nat) (cs : List AV) (off : Nat), off + R.size ≤ cs.length → ∀ (β : Base) (r : Nm) (w : World) (hp : Heap U) (v : Value) (y : Nat × Nat), r id = some y → rel r x v → hp.get id = some (.cells T cs) → Sat β r hp w →
        ∃ w', (Instr.storeAt t (.pointer (some ⟨y.1, y.2 + off, none⟩)) v).run P w = .ok () w' ∧ Sat β r (hp.set id (.cells T (setRange cs off (cellsAV x)))) w' := by
      intro T cs off hoff β r w hp v y hy hv hg hs
      have hcv := rel_cells hpl hv
      have hl1 := relL_length hcv
      simp only [Array.length_toList] at hl1
      obtain ⟨H1, hd, hw, _⟩ := hs.at hg
      obtain ⟨b, vs, hb, hrl, rfl⟩ := hd
      rw [hy] at hb; cases hb
      have hblk := Hp.inW_one.1 hw
      have hl2 := relL_length hrl
      have hrun := run_storeVar (P := P) hm (o := 0 + off) hblk (v := v) (by omega) (relL_one hone hcv) (by simp; omega)
      refine ⟨_, by simp only [Instr.storeAt, Instr.sureAddr, Sem.run_bind, Sem.run_pure, Result.andThen_ok]; exact hrun, ?_⟩
      refine hs.write hg (b := b) (.cells (setRangeV vs (0 + off) v.cells.toList).toArray T (0, 0)) ?_ ?_ (setRow_heap w b _ _ T (0, 0) hblk) (fun x hx => setRow_other w b x _ hx) rfl rfl rfl
      · rintro H ⟨b', vs', hb', _, rfl⟩; rw [hy] at hb'; cases hb'; exact ⟨_, rfl⟩
      · exact ⟨b, _, hy, by simpa using relL_setRange hcv hrl off, rfl⟩
    split at h
    · rename_i i off T cs
      rw [holds_bif] at h
      split at h
      · rename_i hle
        simp only [AV.id?, Option.some.injEq] at hid; subst hid
        refine ⟨_, h, fun β r w hp u v hu hv hg hs => ?_⟩
        obtain ⟨y, hy, rfl⟩ := hu
        exact cellsCase T cs off (Nat.le_of_ble_eq_true hle) β r w hp v y hy hv hg hs
      · exact h.elim
    · rename_i j i wd c T cs
      rw [holds_bif] at h
      split at h
      · rename_i hle
        simp only [AV.id?, Option.some.injEq] at hid; subst hid
        refine ⟨_, h, fun β r w hp u v hu hv hg hs => ?_⟩
        obtain ⟨y, hy, rfl⟩ := hu
        exact cellsCase T cs (i * wd + c) (Nat.le_of_ble_eq_true hle) β r w hp v y hy hv hg hs
      · exact h.elim
    · rename_i j i wd c T k xs sp
      rw [holds_bif] at h
      split at h
      · rename_i hw
        simp only [Bool.and_eq_true] at hw
        obtain ⟨hw1, hw2⟩ := hw
        have hw1 := Nat.eq_of_beq_eq_true hw1
        have hw2 := Nat.le_of_ble_eq_true hw2
        subst hw1
        obtain ⟨hi, h⟩ := h
        split at h
        · rename_i y hy
          simp only [AV.id?, Option.some.injEq] at hid; subst hid
          refine ⟨_, h, fun β r w hp u v hu hv hg hs => ?_⟩
          obtain ⟨q, hq, rfl⟩ := hu
          have hcv := rel_cells hpl hv
          have hl1 := relL_length hcv
          simp only [Array.length_toList] at hl1
          obtain ⟨H1, hd, hwin, _⟩ := hs.at hg
          rcases hd with ⟨hz, _⟩ | ⟨b, ca, hb, hrow, hsz, hmx, rfl⟩
          · omega
          rw [hq] at hb; cases hb
          have hblk := Hp.inW_one.1 hwin
          have hfit : i * (U.enc k).w + (U.enc k).w ≤ ca.size := by
            rw [hsz, ← Nat.succ_mul]; exact Nat.mul_le_mul_right _ (by omega)
          have hrun := run_storeVar (P := P) hm (o := 0 + (i * (U.enc k).w + c)) hblk (v := v) (by omega) (relL_one hone hcv) (by omega)
          refine ⟨_, by simp only [Instr.storeAt, Instr.sureAddr, Sem.run_bind, Sem.run_pure, Result.andThen_ok]; exact hrun, ?_⟩
          refine hs.write hg (b := b) (.cells (setRangeV ca.toList (0 + (i * (U.enc k).w + c)) v.cells.toList).toArray T (0, 0)) ?_ ?_ (setRow_heap w b _ _ T (0, 0) hblk) (fun x hx => setRow_other w b x _ hx) rfl rfl rfl
          · rintro H (⟨hz, _⟩ | ⟨b', ca', hb', _, _, _, rfl⟩)
            · omega
            · rw [hq] at hb'; cases hb'; exact ⟨_, rfl⟩
          · refine .inr ⟨b, _, hq, ?_, ?_, by simpa using hmx, rfl⟩
            · intro m z hm'
              have hlenV : v.cells.toList.length = R.size := by simp; omega
              have hset := setRangeV_eq v.cells.toList ca.toList (0 + (i * (U.enc k).w + c)) (by simp; omega)
              simp only [Nat.zero_add] at hset ⊢
              rw [List.getElem?_set] at hm'
              split at hm'
              · rename_i him; subst him
                simp only [hi, if_true, Option.some.injEq] at hm'; subst hm'
                have hx0 : xs[i]? = some (xs.getD i (U.enc k).dflt) := by simp [List.getD, List.getElem?_eq_getElem hi]
                have hold := hrow i _ hx0
                simp only [Nat.zero_add] at hold
                have hnew := relL_setRange hcv hold c
                have hdec := (U.enc k).back _ _ hy r _ hnew
                have he : setRangeV ((ca.toList.drop (i * (U.enc k).w)).take (U.enc k).w) c v.cells.toList = ((setRangeV ca.toList (i * (U.enc k).w + c) v.cells.toList).drop (i * (U.enc k).w)).take (U.enc k).w := by
                  have hcw : (List.take (U.enc k).w (List.drop (i * (U.enc k).w) ca.toList)).length = (U.enc k).w := by simp; omega
                  rw [setRangeV_eq _ _ c (by rw [hcw]; omega), hset]
                  apply List.ext_getElem?
                  intro n
                  simp only [List.getElem?_append, List.getElem?_take, List.getElem?_drop, List.length_take, List.length_drop, List.length_append, hlenV, Array.length_toList]
                  by_cases hn : n < (U.enc k).w
                  · simp only [hn, if_true]
                    by_cases h1 : n < c
                    · have a1 : n < min c (min (U.enc k).w (ca.size - i * (U.enc k).w)) := by omega
                      have a2 : i * (U.enc k).w + n < min (i * (U.enc k).w + c) ca.size := by omega
                      have a3 : i * (U.enc k).w + n < i * (U.enc k).w + c := by omega
                      simp [a1, a2, a3, h1, hn, show n < min c (min (U.enc k).w (ca.size - i * (U.enc k).w)) + R.size by omega, show i * (U.enc k).w + n < min (i * (U.enc k).w + c) ca.size + R.size by omega]
                    · by_cases h2 : n < c + R.size
                      · have a1 : ¬ n < min c (min (U.enc k).w (ca.size - i * (U.enc k).w)) := by omega
                        have a2 : ¬ i * (U.enc k).w + n < min (i * (U.enc k).w + c) ca.size := by omega
                        have e1 : n - min c (min (U.enc k).w (ca.size - i * (U.enc k).w)) = i * (U.enc k).w + n - min (i * (U.enc k).w + c) ca.size := by omega
                        simp [a1, a2, e1, show n < min c (min (U.enc k).w (ca.size - i * (U.enc k).w)) + R.size by omega, show i * (U.enc k).w + n < min (i * (U.enc k).w + c) ca.size + R.size by omega]
                      · have e1 : i * (U.enc k).w + (c + R.size + (n - (min c (min (U.enc k).w (ca.size - i * (U.enc k).w)) + R.size))) = i * (U.enc k).w + c + R.size + (i * (U.enc k).w + n - (min (i * (U.enc k).w + c) ca.size + R.size)) := by omega
                        have e2 : c + R.size + (n - (min c (min (U.enc k).w (ca.size - i * (U.enc k).w)) + R.size)) < (U.enc k).w := by omega
                        simp [e1, e2, show ¬ n < min c (min (U.enc k).w (ca.size - i * (U.enc k).w)) + R.size by omega, show ¬ i * (U.enc k).w + n < min (i * (U.enc k).w + c) ca.size + R.size by omega]
                  · simp only [hn, if_false]
                    have : ¬ n < min c (min (U.enc k).w (ca.size - i * (U.enc k).w)) + R.size := by omega
                    simp only [this, if_false]
                    have : ¬ (c + R.size + (n - (min c (min (U.enc k).w (ca.size - i * (U.enc k).w)) + R.size)) < (U.enc k).w) := by omega
                    simp [this]
                rw [he] at hdec
                exact hdec
              · rename_i him
                have hold := hrow m z hm'
                simp only [Nat.zero_add] at hold
                have hmlt : m < xs.length := (List.getElem?_eq_some_iff.1 hm').1
                have he : (ca.toList.drop (m * (U.enc k).w)).take (U.enc k).w = ((setRangeV ca.toList (i * (U.enc k).w + c) v.cells.toList).drop (m * (U.enc k).w)).take (U.enc k).w := by
                  rw [hset]
                  apply List.ext_getElem?
                  intro n
                  simp only [List.getElem?_append, List.getElem?_take, List.getElem?_drop, List.length_take, List.length_append, hlenV, Array.length_toList]
                  by_cases hn : n < (U.enc k).w
                  · simp only [hn, if_true]
                    have hmm : m * (U.enc k).w + (U.enc k).w ≤ i * (U.enc k).w ∨ i * (U.enc k).w + (U.enc k).w ≤ m * (U.enc k).w := by
                      rcases Nat.lt_or_ge m i with h1 | h1
                      · left; rw [← Nat.succ_mul]; exact Nat.mul_le_mul_right _ h1
                      · right; rw [← Nat.succ_mul]; exact Nat.mul_le_mul_right _ (by omega)
                    rcases hmm with h1 | h1
                    · have a2 : m * (U.enc k).w + n < min (i * (U.enc k).w + c) ca.size := by omega
                      have a3 : m * (U.enc k).w + n < i * (U.enc k).w + c := by omega
                      simp [a2, a3, show m * (U.enc k).w + n < min (i * (U.enc k).w + c) ca.size + R.size by omega]
                    · have a2 : ¬ m * (U.enc k).w + n < min (i * (U.enc k).w + c) ca.size + R.size := by omega
                      have e1 : i * (U.enc k).w + c + R.size + (m * (U.enc k).w + n - (min (i * (U.enc k).w + c) ca.size + R.size)) = m * (U.enc k).w + n := by omega
                      simp only [a2, if_false, e1]
                  · simp only [hn, if_false]
                rw [← he]; exact hold
            · have := setRangeV_eq v.cells.toList ca.toList (0 + (i * (U.enc k).w + c)) (by simp; omega)
              rw [this]; simp; omega
        · exact h.elim
      · exact h.elim
    · exact h.elim
  · exact h.elim

end
end Sx
end Go.Proofs.YtmcmdghmglopnaaGreatDoor

/-
  The builtin append over blocks of ours: what it leaves.
-/
namespace Go.Proofs.YtmcmdghmglopnaaGreatDoor
namespace Sx
open Go

section
variable {U : Uni} {P : Program} {τ : Tab}

/-- What an append leaves in memory. -/
structure Appended (w w' : World) (e size : Nat) (v' : Value) (N : Nat) (xs : List Value) (g : Option Nat) : Prop where
  os : w'.os = w.os
  output : w'.output = w.output
  tape : w'.tape = w.tape
  val : ∃ a cap, v' = .slice a N cap ∧ N ≤ cap ∧ cap ≤ maxLen ∧ ((cap = 0 ∧ w'.heap = w.heap) ∨
    ∃ b c, a = some ⟨b, 0, none⟩ ∧ w'.heap[b]? = some (.cells c e (0, 0)) ∧ c.size = cap * size ∧ c.toList.take (N * size) = xs ∧
      ((g = some b ∧ ∀ k, k ≠ b → w'.heap[k]? = w.heap[k]?) ∨ ∃ d, w' = (World.drew w).alloc (.cells d e) ∧ b = w.heap.size ∧ c = d))

theorem run_append_any (w : World) (t ty e : Nat) (i : TypeInfo) (z : Value) (ht : P.underlying t = some (.slice e)) (hi : P.info? e = some i) (hz : i.zero = some z) (hzs : z.cells.size = i.size)
    (x : Value) (m : Nat) (news : List Value) (hlen : ∀ w, (Builtin.lenOf x).run P w = .ok m w) (hl : news.length = m * i.size)
    (hf : (Builtin.firstCells i.size m x).run P w = .ok news.toArray w) (hfd : (Builtin.firstCells i.size m x).run P w.drew = .ok news.toArray w.drew) (h1 : ∀ u ∈ news, u.oneCell' = true)
    (base : Option Addr) (n cap : Nat) (xs : List Value) (hx : xs.length = n * i.size) (hnc : n ≤ cap) (hcm : cap ≤ maxLen) (g : Option Nat)
    (hb : cap = 0 ∨ ∃ b c, base = some ⟨b, 0, none⟩ ∧ g = some b ∧ w.heap[b]? = some (.cells c e (0, 0)) ∧ c.size = cap * i.size ∧ c.toList.take (n * i.size) = xs)
    (h63 : n + m ≤ maxLen) (hbytes : (n + m) * i.bytes ≤ 140737488355328) :
    ∃ v' w', (Builtin.append_ #[t, t] ty #[.slice base n cap, x]).run P w = .ok v' w' ∧ Appended w w' e i.size v' (n + m) (xs ++ news) g := by
  have hsmall : n + m ≤ 9223372036854775807 := by simp only [maxLen] at h63; omega
  have hlenN : (xs ++ news).length = (n + m) * i.size := by rw [List.length_append, hx, hl, Nat.add_mul]
  have h63' : ¬ (9223372036854775807 < ((n : Int) + (m : Int))) := by omega
  have grown : ∀ d : Array Value, d = xs.toArray ++ news.toArray ++ Builtin.zeroCells z.cells (grownCap w (n + m) cap e - (n + m)) →
      Appended w (w.drew.alloc (.cells d e)) e i.size (.slice (some ⟨w.heap.size, 0, none⟩) (n + m) (grownCap w (n + m) cap e)) (n + m) (xs ++ news) g := by
    intro d hd
    have hge := grownCap_ge w (n + m) cap e
    refine ⟨rfl, rfl, rfl, _, _, rfl, hge, grownCap_le_maxLen w (n + m) cap e h63, .inr ⟨_, d, rfl, heap_alloc_new w.drew _, ?_, ?_, .inr ⟨d, rfl, rfl, rfl⟩⟩⟩
    · subst hd
      simp only [Array.size_append, List.size_toArray, size_zeroCells, hzs, hx, hl, ← Nat.add_mul]
      congr 1; omega
    · subst hd
      simp only [Array.toList_append, List.append_assoc]
      rw [← List.append_assoc, ← hlenN]
      exact List.take_left
  by_cases hroom : n + m ≤ cap
  · rcases hb with hz0 | ⟨b, c, rfl, rfl, hg, hcs, htake⟩
    · -- nothing at all
      have hn0 : n = 0 := by omega
      have hm0 : m = 0 := by omega
      subst hn0; subst hm0; subst hz0
      have hx0 : xs = [] := List.eq_nil_of_length_eq_zero (by simpa using hx)
      have hn1 : news = [] := List.eq_nil_of_length_eq_zero (by simpa using hl)
      subst hx0; subst hn1
      refine ⟨.slice base 0 0, w, ?_, ⟨rfl, rfl, rfl, base, 0, rfl, Nat.le_refl _, Nat.zero_le _, .inl ⟨rfl, rfl⟩⟩⟩
      cases base <;> simp [Builtin.append_, run_underlying ht, sizeOf, typeInfo, hi, hlen, hf, storeCells]
    · have hfit : n * i.size + news.length ≤ c.size := by rw [hl, hcs, ← Nat.add_mul]; exact Nat.mul_le_mul_right _ hroom
      have hst := run_storeCells_at P b (n * i.size) e news 0 c w hg (by simpa using hfit) h1
      simp only [Nat.add_zero] at hst
      refine ⟨.slice (some ⟨b, 0, none⟩) (n + m) cap, w.setRow b (c.toList.take (n * i.size) ++ news ++ c.toList.drop (n * i.size + news.length)).toArray, ?_, ⟨rfl, rfl, rfl, _, cap, rfl, hroom, hcm, .inr ⟨b, _, rfl, setRow_heap w b c _ e _ hg, ?_, ?_, .inl ⟨rfl, fun k hk => setRow_other w b k _ hk⟩⟩⟩⟩
      · simp [Builtin.append_, run_underlying ht, sizeOf, typeInfo, hi, hlen, hroom, hf, Addr.add_lit, hst]
      · simp only [List.size_toArray, List.length_append, List.length_take, List.length_drop, Array.length_toList]; omega
      · rw [htake, ← hlenN]; exact List.take_left
  · have h48 : ¬ (281474976710656 < Builtin.nextslicecap (n + m) cap * i.bytes) := by
      have := growslice_fits (need := n + m) (old := cap) (bytes := i.bytes) (by omega) hbytes; omega
    have hold : (Builtin.firstCells i.size n (.slice base n cap)).run P w.drew = .ok xs.toArray w.drew := by
      rcases hb with hz0 | ⟨b, c, rfl, rfl, hg, hcs, htake⟩
      · have hn0 : n = 0 := by omega
        subst hn0
        have hx0 : xs = [] := List.eq_nil_of_length_eq_zero (by simpa using hx)
        subst hx0
        cases base <;> simp [Builtin.firstCells, loadCells, loadCellsFrom]
      · refine run_firstCells_some (P := P) w.drew i.size n ⟨b, 0, none⟩ n cap xs hx (fun j u hj => ?_)
        rw [Addr.add_lit, Nat.zero_add, World.cell?_drew, cell_of_row w b j c e (0, 0) hg]
        rw [← htake, List.getElem?_take] at hj
        split at hj
        · simpa using hj
        · cases hj
    refine ⟨_, _, ?_, grown _ rfl⟩
    simp [Builtin.append_, run_underlying ht, sizeOf, typeInfo, zeroValue, hi, hz, hlen, hroom, h63', h48, Question.forced, hfd, hold, newRow, grownCap]
    congr 2
    apply Array.ext'
    simp [List.append_assoc]

/-! ## the source -/
def castK {k k' : U.K} (h : k = k') (xs : List (U.El k)) : List (U.El k') := h ▸ xs

def chunkDec {α : Type} (E : Enc α) : Nat → List AV → Option (List α)
  | 0, [] => some []
  | 0, _ :: _ => none
  | n + 1, cs => match E.dec (cs.take E.w), chunkDec E n (cs.drop E.w) with
    | some a, some r => bif Nat.ble E.w cs.length then some (a :: r) else none
    | _, _ => none

theorem chunkDec_sound {α : Type} {E : Enc α} {r : Nm} : ∀ {n : Nat} {cs : List AV} {ys : List α} {vs : List Value}, chunkDec E n cs = some ys → relL r cs vs →
    ys.length = n ∧ vs.length = n * E.w ∧ ∀ i y, ys[i]? = some y → relL r (E.enc y) ((vs.drop (i * E.w)).take E.w)
  | 0, [], ys, vs, h, hr => by
    simp only [chunkDec, Option.some.injEq] at h; subst h
    simp only [relL] at hr; subst hr
    exact ⟨rfl, by simp, fun i y hi => by simp at hi⟩
  | 0, _ :: _, _, _, h, _ => by simp [chunkDec] at h
  | n + 1, cs, ys, vs, h, hr => by
    simp only [chunkDec] at h
    split at h
    · rename_i a rr ha hrr
      cases hb : Nat.ble E.w cs.length with
      | false => rw [hb] at h; simp at h
      | true =>
        rw [hb] at h; simp only [cond_true, Option.some.injEq] at h; subst h
        have hle := Nat.le_of_ble_eq_true hb
        have hl := relL_length hr
        obtain ⟨h1, h2, h3⟩ := chunkDec_sound hrr (relL_drop hr E.w)
        refine ⟨by simp [h1], ?_, fun i y hi => ?_⟩
        · simp at h2; rw [Nat.succ_mul]; omega
        · cases i with
          | zero => simp at hi; subst hi; simpa using E.back _ _ ha r _ (relL_take hr E.w)
          | succ i =>
            simp at hi
            have := h3 i y hi
            rw [List.drop_drop] at this
            rwa [Nat.succ_mul, Nat.add_comm]
    · simp at h

def evalSrc (k : U.K) (x : AV) (h : Heap U) (K : List (U.El k) → Option Nat → Out U) : Out U :=
  match x with
  | .nilS => K [] none
  | .sl _ id st w len _ => (match h.get id with
    | some (.cells _ cs) => bif Nat.beq st 0 && Nat.beq w (U.enc k).w then (match chunkDec (U.enc k) len cs with | some ys => K ys (some id) | none => .bad 120) else .bad 121
    | some (.arr _ k2 xs _) => (match U.dk k2 k with
      | .isTrue hk => bif Nat.beq w (U.enc k).w then .needd (st + len ≤ xs.length) (K ((castK hk xs).drop st |>.take len) (some id)) else .bad 122
      | .isFalse _ => .bad 123)
    | some (.ro k2 xs) => (match U.dk k2 k with
      | .isTrue hk => bif Nat.beq w (U.enc k).w then .needd (st + len ≤ xs.length) (K ((castK hk xs).drop st |>.take len) (some id)) else .bad 124
      | .isFalse _ => .bad 125)
    | _ => .bad 126)
  | _ => .bad 127

/-- The rows of a source, as the machine reads them. -/
def SrcOk (P : Program) {α : Type} (E : Enc α) (r : Nm) (ys : List α) (u : Value) (w : World) : Prop :=
  ∃ news : List Value, (∀ w, (Builtin.lenOf u).run P w = .ok ys.length w) ∧ news.length = ys.length * E.w ∧
    (∀ w', w'.heap = w.heap → (Builtin.firstCells E.w ys.length u).run P w' = .ok news.toArray w') ∧ (∀ v ∈ news, v.oneCell' = true) ∧
    ∀ i y, ys[i]? = some y → relL r (E.enc y) ((news.drop (i * E.w)).take E.w)

theorem rows_one {α : Type} {E : Enc α} {r : Nm} {ys : List α} {news : List Value} (hl : news.length = ys.length * E.w)
    (h : ∀ i y, ys[i]? = some y → relL r (E.enc y) ((news.drop (i * E.w)).take E.w)) : ∀ v ∈ news, v.oneCell' = true := by
  intro v hv
  obtain ⟨j, hj, rfl⟩ := List.mem_iff_getElem.1 hv
  have hw := E.pos
  have hi : j / E.w < ys.length := by rw [Nat.div_lt_iff_lt_mul hw]; omega
  have hrow := h (j / E.w) ys[j / E.w] (List.getElem?_eq_getElem hi)
  refine E.one _ r _ hrow _ ?_
  have hm := Nat.mod_lt j hw
  have hd := Nat.div_add_mod j E.w
  rw [Nat.mul_comm] at hd
  refine List.mem_iff_getElem?.2 ⟨j % E.w, ?_⟩
  rw [List.getElem?_take, if_pos hm, List.getElem?_drop, hd, List.getElem?_eq_getElem hj]

theorem src_arr {α : Type} {E : Enc α} {r : Nm} {xs : List α} {st len cap : Nat} {w : World} {b o : Nat} {c : Array Value} {T : Nat} {fz : Nat × Nat} (hb : w.heap[b]? = some (.cells c T fz))
    (hrow : ∀ i x, xs[i]? = some x → relL r (E.enc x) ((c.toList.drop (o + i * E.w)).take E.w)) (hle : st + len ≤ xs.length) :
    SrcOk P E r ((xs.drop st).take len) (.slice (some ⟨b, o + st * E.w, none⟩) len cap) w := by
  have hlen : ((xs.drop st).take len).length = len := by simp; omega
  have hfull : len = 0 ∨ o + (st + len) * E.w ≤ c.size := by
    by_cases h0 : len = 0
    · exact .inl h0
    · right
      have h1 : st + len - 1 < xs.length := by omega
      have h2 := hrow (st + len - 1) xs[st + len - 1] (List.getElem?_eq_getElem h1)
      have h3 := relL_length h2
      rw [E.len, List.length_take, List.length_drop, Array.length_toList] at h3
      have hp := E.pos
      have h4 : (st + len) * E.w = (st + len - 1) * E.w + E.w := by rw [← Nat.succ_mul]; congr 1; omega
      omega
  have hnl : ((c.toList.drop (o + st * E.w)).take (len * E.w)).length = len * E.w := by
    rw [Nat.add_mul] at hfull
    rcases hfull with h0 | h0
    · subst h0; simp
    · simp; omega
  refine ⟨(c.toList.drop (o + st * E.w)).take (len * E.w), fun w => by simp [Builtin.lenOf, hlen], by rw [hlen]; exact hnl, ?_, ?_, ?_⟩
  · intro w' hw'
    rw [hlen]
    refine run_firstCells_some (P := P) w' E.w len ⟨b, o + st * E.w, none⟩ len cap _ hnl (fun j v hj => ?_)
    rw [Addr.add_lit, cell_of_row w' b _ c T fz (by rw [hw']; exact hb)]
    rw [List.getElem?_take] at hj
    split at hj
    · rw [List.getElem?_drop] at hj; simpa using hj
    · cases hj
  · refine rows_one (r := r) (ys := (xs.drop st).take len) (by rw [hlen]; exact hnl) ?_
    intro i y hi
    rw [List.getElem?_take] at hi
    split at hi
    · rename_i hil
      rw [List.getElem?_drop] at hi
      have := hrow (st + i) y hi
      rw [List.drop_take, List.take_take, List.drop_drop]
      have e1 : o + st * E.w + i * E.w = o + (st + i) * E.w := by rw [Nat.add_mul]; omega
      have e2 : min E.w (len * E.w - i * E.w) = E.w := by
        have : (i + 1) * E.w ≤ len * E.w := Nat.mul_le_mul_right _ hil
        rw [Nat.succ_mul] at this; omega
      rw [e1, e2]; exact this
    · cases hi
  · intro i y hi
    rw [List.getElem?_take] at hi
    split at hi
    · rename_i hil
      rw [List.getElem?_drop] at hi
      have := hrow (st + i) y hi
      rw [List.drop_take, List.take_take, List.drop_drop]
      have e1 : o + st * E.w + i * E.w = o + (st + i) * E.w := by rw [Nat.add_mul]; omega
      have e2 : min E.w (len * E.w - i * E.w) = E.w := by
        have : (i + 1) * E.w ≤ len * E.w := Nat.mul_le_mul_right _ hil
        rw [Nat.succ_mul] at this; omega
      rw [e1, e2]; exact this
    · cases hi

theorem src_nil {α : Type} {E : Enc α} {r : Nm} {w : World} (a : Option Addr) (cap : Nat) : SrcOk P E r ([] : List α) (.slice a 0 cap) w := by
  refine ⟨[], fun w => rfl, by simp, fun w' _ => ?_, fun v hv => by simp at hv, fun i y hi => by simp at hi⟩
  cases a <;> simp [Builtin.firstCells, loadCells, loadCellsFrom]

theorem evalSrc_sound {M : Goal U} {k : U.K} {x : AV} {h : Heap U} {K : List (U.El k) → Option Nat → Out U} (H : (evalSrc k x h K).holds M) :
    ∃ ys rd, (K ys rd).holds M ∧ (∀ id, rd = some id → h.get id ≠ none) ∧ ∀ (β : Base) (r : Nm) (w : World) (u : Value), rel r x u → Sat β r h w → SrcOk P (U.enc k) r ys u w := by
  unfold evalSrc at H
  split at H
  · refine ⟨[], none, H, fun _ e => by simp at e, fun β r w u hu _ => ?_⟩
    simp only [rel] at hu; subst hu; exact src_nil none 0
  · rename_i kn id st wd len cap
    split at H
    · rename_i T cs hB
      rw [holds_bif] at H
      split at H
      · rename_i hc
        simp only [Bool.and_eq_true] at hc
        have hst := Nat.eq_of_beq_eq_true hc.1
        have hwd := Nat.eq_of_beq_eq_true hc.2
        subst hst; subst hwd
        split at H
        · rename_i ys hys
          refine ⟨ys, some id, H, fun _ e => by cases e; rw [hB]; simp, fun β r w u hu hs => ?_⟩
          obtain ⟨a, rfl, hlc, ha⟩ := hu
          obtain ⟨H1, hd, hw, _⟩ := hs.at hB
          obtain ⟨b, vs, hb, hrl, rfl⟩ := hd
          obtain ⟨h1, h2, h3⟩ := chunkDec_sound hys hrl
          rcases ha with hz | ⟨y, hy, rfl⟩
          · have hl0 : len = 0 := by omega
            subst hl0
            have : ys = [] := List.eq_nil_of_length_eq_zero h1
            subst this; exact src_nil a cap
          · rw [hy] at hb; cases hb
            refine ⟨vs, fun w => by simp [Builtin.lenOf, h1], by rw [h1]; exact h2, fun w' hw' => ?_, rows_one (by rw [h1]; exact h2) h3, h3⟩
            rw [h1]
            refine run_firstCells_some (P := P) w' _ len _ len cap vs h2 (fun j v hj => ?_)
            rw [Addr.add_lit, cell_of_row w' b _ vs.toArray T (0, 0) (by rw [hw']; exact Hp.inW_one.1 hw)]
            simpa using hj
        · exact H.elim
      · exact H.elim
    · rename_i T k2 xs sp hB
      split at H
      · rename_i hk _
        rw [holds_bif] at H
        split at H
        · rename_i hwd
          have hwd := Nat.eq_of_beq_eq_true hwd
          obtain ⟨hle, H⟩ := H
          subst hk; subst hwd
          refine ⟨_, some id, H, fun _ e => by cases e; rw [hB]; simp, fun β r w u hu hs => ?_⟩
          obtain ⟨a, rfl, hlc, ha⟩ := hu
          obtain ⟨H1, hd, hw, _⟩ := hs.at hB
          by_cases hl0 : len = 0
          · subst hl0; simpa [castK] using src_nil (P := P) (E := U.enc k2) (r := r) (w := w) a cap
          · rcases hd with ⟨hz, _⟩ | ⟨b, c, hb, hrow, _, _, rfl⟩
            · omega
            rcases ha with hz | ⟨y, hy, rfl⟩
            · omega
            rw [hy] at hb; cases hb
            exact src_arr (Hp.inW_one.1 hw) hrow hle
        · exact H.elim
      · exact H.elim
    · rename_i k2 xs hB
      split at H
      · rename_i hk _
        rw [holds_bif] at H
        split at H
        · rename_i hwd
          have hwd := Nat.eq_of_beq_eq_true hwd
          obtain ⟨hle, H⟩ := H
          subst hk; subst hwd
          refine ⟨_, some id, H, fun _ e => by cases e; rw [hB]; simp, fun β r w u hu hs => ?_⟩
          obtain ⟨a, rfl, hlc, ha⟩ := hu
          obtain ⟨H1, hd, hw, hG⟩ := hs.at hB
          by_cases hl0 : len = 0
          · subst hl0; simpa [castK] using src_nil (P := P) (E := U.enc k2) (r := r) (w := w) a cap
          · rcases ha with hz | ⟨y, hy, rfl⟩
            · omega
            obtain ⟨hall, rfl⟩ := hd
            have h0 : 0 < xs.length := by omega
            obtain ⟨b, o, c, T, fz, hb, hg, _⟩ := hall 0 xs[0] (List.getElem?_eq_getElem h0)
            rw [hy] at hb; cases hb
            refine src_arr (hG b _ hg) (fun i x hi => ?_) hle
            obtain ⟨b', o', c', T', fz', hb', hg', hr'⟩ := hall i x hi
            rw [hy] at hb'; cases hb'
            rw [hg] at hg'; cases hg'
            exact hr'
        · exact H.elim
      · exact H.elim
    · exact H.elim
  · exact H.elim

end
end Sx
end Go.Proofs.YtmcmdghmglopnaaGreatDoor

/-
  The evaluator of operations that make memory or write it, whole, and its soundness.
-/
namespace Go.Proofs.YtmcmdghmglopnaaGreatDoor
namespace Sx
open Go

section
variable {U : Uni} {P : Program} {τ : Tab}

/-! ## maps written -/
def mput {α : Type} : List (Int × α) → Int → α → List (Int × α)
  | [], n, x => [(n, x)]
  | (k, y) :: m, n, x => if n = k then (k, x) :: m else (k, y) :: mput m n x
def mdel {α : Type} : List (Int × α) → Int → List (Int × α)
  | [], _ => []
  | (k, y) :: m, n => if n = k then m else (k, y) :: mdel m n

theorem relM_put {α : Type} {E : Enc α} {kk : IntKind} {r : Nm} {n : Int} {y : α} {v : Value} (hv : relV E.agg r (E.enc y) v) : ∀ (m : List (Int × α)) (es : List MapEntry) (i : Nat), relM E kk r m es →
    (mget m n = none → ∀ clock, relM E kk r (mput m n y) (es ++ [{ key := .int kk n, val := v, born := clock }])) ∧
    (∀ x, mget m n = some x → ∃ j, ∃ e : MapEntry, Instr.findNow (.int kk) (.int kk n) es i = some (some (i + j, e.val)) ∧ es[j]? = some e ∧ e.key = .int kk n ∧
      relM E kk r (mput m n y) (es.modify j fun e => { e with key := .int kk n, val := v }) ∧ relM E kk r (mdel m n) (es.eraseIdx j))
  | [], es, i, h => by
    simp only [relM] at h; subst h
    exact ⟨fun _ c => ⟨_, [], rfl, rfl, hv, rfl⟩, fun x hx => by simp [mget] at hx⟩
  | (k, z) :: m, es, i, h => by
    simp only [relM] at h
    obtain ⟨e, fs, rfl, hk, hz, hr⟩ := h
    obtain ⟨ih1, ih2⟩ := relM_put (n := n) hv m fs (i + 1) hr
    by_cases hnk : n = k
    · subst hnk
      refine ⟨fun hx => by simp [mget] at hx, fun x _ => ⟨0, e, ?_, rfl, hk, ?_, ?_⟩⟩
      · simp [Instr.findNow, hk, Instr.sameNow]
      · simp only [mput, if_true, List.modify_zero_cons]; exact ⟨_, fs, rfl, rfl, hv, hr⟩
      · simp only [mdel, if_true]; exact hr
    · have hne : (n == k) = false := by simpa using hnk
      refine ⟨fun hx c => ?_, fun x hx => ?_⟩
      · simp only [mget, if_neg hnk] at hx
        simp only [mput, if_neg hnk, List.cons_append]
        exact ⟨e, _, rfl, hk, hz, ih1 hx c⟩
      · simp only [mget, if_neg hnk] at hx
        obtain ⟨j, e', h1, h2, h3, h4, h5⟩ := ih2 x hx
        refine ⟨j + 1, e', ?_, by simpa using h2, h3, ?_, ?_⟩
        · simp only [Instr.findNow, hk, Instr.sameNow, if_true, hne, h1]
          rw [show i + 1 + j = i + (j + 1) by omega]
        · simp only [mput, if_neg hnk, List.modify_succ_cons]
          exact ⟨e, _, rfl, hk, hz, h4⟩
        · simp only [mdel, if_neg hnk, List.eraseIdx_cons_succ]
          exact ⟨e, _, rfl, hk, hz, h5⟩
theorem relM_none {α : Type} {E : Enc α} {kk : IntKind} {r : Nm} {n : Int} : ∀ (m : List (Int × α)) (es : List MapEntry), relM E kk r m es → mget m n = none → ∀ x ∈ es, x.key ≠ .int kk n
  | [], es, h, _, x, hx => by simp only [relM] at h; subst h; cases hx
  | (k, z) :: m, es, h, hg, x, hx => by
    simp only [relM] at h
    obtain ⟨e, fs, rfl, hk, hz, hr⟩ := h
    by_cases hnk : n = k
    · simp [mget, hnk] at hg
    · simp only [mget, if_neg hnk] at hg
      rcases List.mem_cons.1 hx with rfl | hx
      · rw [hk]; intro e; cases e; exact hnk rfl
      · exact relM_none m fs hr hg x hx
theorem mdel_none {α : Type} {n : Int} : ∀ {m : List (Int × α)}, mget m n = none → mdel m n = m
  | [], _ => rfl
  | (k, y) :: m, h => by
    by_cases hnk : n = k
    · simp [mget, hnk] at h
    · simp only [mget, if_neg hnk] at h; simp only [mdel, if_neg hnk, mdel_none h]

/-- An element out of a value. -/
def decV {α : Type} (E : Enc α) (x : AV) : Option α :=
  bif E.agg then (match x with | .agg cs => E.dec cs | _ => none) else (bif x.one then E.dec [x] else none)
theorem decV_sound {α : Type} {E : Enc α} {x : AV} {y : α} (h : decV E x = some y) {r : Nm} {v : Value} (hv : rel r x v) : relV E.agg r (E.enc y) v := by
  unfold decV at h
  cases ha : E.agg with
  | true =>
    rw [ha] at h; simp only [cond_true] at h
    split at h
    · obtain ⟨vs, hvs, rfl⟩ := hv; exact ⟨vs, E.back _ _ h r _ hvs, rfl⟩
    · simp at h
  | false =>
    rw [ha] at h; simp only [cond_false] at h
    cases ho : x.one with
    | false => rw [ho] at h; simp at h
    | true => rw [ho] at h; simp only [cond_true] at h; exact E.back _ _ h r _ (relL_cons.2 ⟨hv, relL_nil⟩)

def evalPut (τ : Tab) (κ : Kinds U) (T : Nat) (m ky x : AV) (h : Heap U) (K : AV → Heap U → List Nat → Out U) : Out U :=
  match mapOf τ κ T, m, ky.num with
    | some (kk, _), .mp id, some (kk'', n, _) => (match h.get id with
      | some (.mp kk' k' es) => bif decide (kk = kk') && decide (kk = kk'') then (match decV (U.enc k') x with | some y => K .und (h.set id (.mp kk' k' (mput es n y))) [id] | none => .bad 141) else .bad 142
      | _ => .bad 144)
    | _, _, _ => .bad 145

def rdNe (rd : Option Nat) (id : Nat) : Bool := match rd with | some j => !(Nat.beq j id) | none => true

/-! ## the evaluator -/
def evalE1 (τ : Tab) (κ : Kinds U) (op : Op) (ev : Operand → AV) (h : Heap U) (nw : Nat) (X : List Nat) (K : AV → Heap U → List Nat → Out U) : Out U :=
  match op with
  | .alloc T => (match τ T with | some R => K (.ptr nw 0) ((nw, .cells T R.zero) :: h) X | none => .bad 130)
  | .box T x => bif (ev x).plain then K (.ptr nw 0) ((nw, .cells T (cellsAV (ev x))) :: h) X else .bad 131
  | .buildSlice T n ps => (match sliceOf τ T with
    | some (e, s) => (match τ e with
      | some R => bif Nat.ble (n * s) 16777216 && (ps.toList.all fun q => (ev q.2).plain) && Nat.beq R.zero.length s then
        (match fillAV (fun i => some (i * s, s)) ((List.replicate n R.zero).flatten) (ps.toList.map fun q => (q.1, ev q.2)) with
        | some cs => K (.sl true nw 0 s n n) ((nw, .cells e cs) :: h) X
        | none => .bad 132) else .bad 133
      | none => .bad 134)
    | none => .bad 135)
  | .makeSlice T l c => (match sliceOf τ T with
    | some (e, s) => (match κ e, τ e, (ev l).num, (ev c).num with
      | some k, some R, some (_, a, la), some (_, b, lb) => .needd (0 ≤ a ∧ a ≤ b ∧ (R.bytes : Int) * b ≤ 281474976710656)
          (K (.sl (la && lb) nw 0 s a.toNat b.toNat) ((nw, .arr e k (List.replicate a.toNat (U.enc k).dflt) (b.toNat - a.toNat)) :: h) X)
      | _, _, _, _ => .bad 136)
    | none => .bad 137)
  | .makeMap T r => (match r, mapOf τ κ T with | none, some (kk, k) => K (.mp nw) ((nw, .mp kk k []) :: h) X | _, _ => .bad 138)
  | .store T p x => (match τ T, (ev p).id? with
    | some R, some id => (match h.get id with | some B => writeAt R B (ev p) (ev x) fun B' => K .und (h.set id B') [id] | none => .bad 139)
    | _, _ => .bad 140)
  | .mapUpdate T m ky x => evalPut τ κ T (ev m) (ev ky) (ev x) h K
  | .insert T m ky x => evalPut τ κ T (ev m) (ev ky) (ev x) h K
  | .call { callee := .builtin b, args, argTypes } => (match b, args.toList, argTypes.toList with
    | .delete, [m, ky], [T, _] => (match mapOf τ κ T, ev m, (ev ky).num with
      | some (kk, _), .mp id, some (kk'', n, _) => (match h.get id with
        | some (.mp kk' k' es) => bif decide (kk = kk') && decide (kk = kk'') then K (.tup []) (h.set id (.mp kk' k' (mdel es n))) [id] else .bad 146
        | _ => .bad 147)
      | _, _, _ => .bad 148)
    | .append, [s, x], [T, T'] => bif Nat.beq T T' then (match sliceOf τ T with
      | some (e, sz) => (match κ e, τ e with
        | some k, some R => evalSrc k (ev x) h fun ys rd => (match ev s with
          | .nilS => .needd (ys.length * R.bytes ≤ 140737488355328) (.all Nat fun sp => K (.sl false nw 0 sz ys.length (ys.length + sp)) ((nw, .arr e k ys sp) :: h) X)
          | .sl kn id st w len cap => bif kn && Nat.beq len 0 && Nat.beq cap 0 then .needd (ys.length * R.bytes ≤ 140737488355328) (.all Nat fun sp => K (.sl false nw 0 sz ys.length (ys.length + sp)) ((nw, .arr e k ys sp) :: h) X)
            else (match h.get id with
            | some (.arr T2 k2 xs sp0) => (match U.dk k2 k with
              | .isTrue hk => bif Nat.beq w sz && Nat.beq T2 e && rdNe rd id then
                .same cap (xs.length + sp0) (.needd (st = 0 ∧ len = xs.length ∧ (xs.length + ys.length) * R.bytes ≤ 140737488355328)
                  (.all Nat fun sp => K (.sl false nw 0 sz (xs.length + ys.length) (xs.length + ys.length + sp)) ((nw, .arr e k (castK hk xs ++ ys) sp) :: h.del id) (id :: X))) else .bad 150
              | .isFalse _ => .bad 151)
            | _ => .bad 152)
          | _ => .bad 153)
        | _, _ => .bad 154)
      | none => .bad 155) else .bad 156
    | _, _, _ => .bad 157)
  | _ => .bad 158

/-- A table that asks for speed: no block of the new name is looked for; the name counts as touched. -/
def quickT (τ : Tab) : Bool := [0, 1, 2, 3, 4, 5, 6, 7].any fun i => match τ i with | some R => R.quick | none => false
def evalE0 (τ : Tab) (κ : Kinds U) (op : Op) (ev : Operand → AV) (h : Heap U) (nw : Nat) (K : AV → Heap U → List Nat → Out U) : Out U :=
  bif quickT τ then evalE1 τ κ op ev h nw [nw] K else (match h.get nw with
  | some _ => .bad 110
  | none => evalE1 τ κ op ev h nw [] K)

/-- What such an operation does to a world. -/
def Eg (P : Program) (o : Oper) (ev : Operand → AV) (h : Heap U) (nw : Nat) (R : AV → Heap U → List Nat → Prop) : Prop :=
  ∀ (β : Base) (r : Nm) (a : Act) (w : World), (∀ x ∈ o.op.operands.toList, rel r (ev x) (a.eval x)) → Sat β r h w → r nw = none →
    ∃ v h' t z w' r', R v h' t ∧ ((execOp a.eval o).run P w = .ok (.value z) w' ∨ ((execOp a.eval o).run P w = .ok .skip w' ∧ z = undef)) ∧
      r.le r' ∧ (∀ i, i ≠ nw → r i = none → r' i = none) ∧ rel r' v z ∧ Sat β r' h' w' ∧ (∀ id B, h.get id = some B → id ∉ t → h'.get id = some B)


theorem Sat.rename {β : Base} {r : Nm} {hp : Heap U} {w w' : World} (k : Sat β r hp w) {id nw : Nat} (hnw : r nw = none) {B B' : Blk U} (hg : hp.get id = some B)
    {b : Nat} (o' : Obj) (hone : ∀ H1, B.den β.G r id H1 → ∃ o, H1 = Hp.one b o)
    (hB : B'.den β.G (r.put nw (b, 0)) nw (Hp.one b o')) (hw : w'.heap[b]? = some o') (hs : ∀ x, x ≠ b → w'.heap[x]? = w.heap[x]?)
    (h1 : w'.os = w.os) (h2 : w'.output = w.output) (h3 : w'.tape = w.tape) : Sat β (r.put nw (b, 0)) ((nw, B') :: hp.del id) w' := by
  obtain ⟨a, H, p, c, d⟩ := k
  obtain ⟨H1, H2, q1, q2, q3, q4, _⟩ := Heap.focus p hg
  obtain ⟨o, rfl⟩ := hone H1 q1
  subst q3
  have c' := Hp.join_apart.1 c
  have ap : (Hp.one b o').apart H2 := Hp.one_apart.2 (Hp.one_apart.1 q2)
  have apG : (Hp.one b o').apart β.G := Hp.one_apart.2 (Hp.one_apart.1 c'.1)
  have d' := (Hp.inW_join q2).1 d
  have keep : ∀ {A : Hp}, A.inW w → A b = none → A.inW w' := fun {A} hA hb x o e => by
    rw [hs x (fun hx => by rw [hx, hb] at e; cases e)]; exact hA x o e
  refine ⟨⟨h1.trans a.os, h2.trans a.output, h3.trans a.tape, keep a.G (Hp.one_apart.1 c'.1)⟩, (Hp.one b o').join H2, ⟨_, H2, hB, Heap.den_mono (Nm.le_put hnw) q4, ap, rfl⟩, ?_, ?_⟩
  · exact Hp.join_apart.2 ⟨apG, c'.2⟩
  · exact (Hp.inW_join ap).2 ⟨Hp.inW_one.2 hw, keep d'.2 (Hp.one_apart.1 q2)⟩

/-- An empty row needs no block. -/
theorem Sat.empty {β : Base} {r : Nm} {hp : Heap U} {w : World} (k : Sat β r hp w) (id T : Nat) (kd : U.K) : Sat β r ((id, .arr T kd [] 0) :: hp) w := by
  obtain ⟨a, H, p, c, d⟩ := k
  exact ⟨a, H, ⟨Hp.nil, H, .inl ⟨rfl, rfl⟩, p, Hp.nil_apart H, rfl⟩, c, d⟩

theorem Sat.sameHeap {β : Base} {r : Nm} {hp : Heap U} {w w' : World} (k : Sat β r hp w) (h : w'.heap = w.heap) (h1 : w'.os = w.os) (h2 : w'.output = w.output) (h3 : w'.tape = w.tape) : Sat β r hp w' := by
  obtain ⟨a, H, p, c, d⟩ := k
  exact ⟨⟨h1.trans a.os, h2.trans a.output, h3.trans a.tape, fun x o e => by rw [h]; exact a.G x o e⟩, H, p, c, fun x o e => by rw [h]; exact d x o e⟩

theorem Nm.put_other {r : Nm} {i j : Nat} {x : Nat × Nat} (h : j ≠ i) (k : r j = none) : r.put i x j = none := by
  unfold Nm.put; rw [if_neg h]; exact k

/-- What is new. -/
theorem new_ne {h : Heap U} {nw id : Nat} {X : List Nat} {B : Blk U} (hn : h.get nw = none ∨ nw ∈ X) (hg : h.get id = some B) (hne : id ∉ X) : id ≠ nw := by
  rintro rfl
  rcases hn with hn | hn
  · rw [hn] at hg; cases hg
  · exact hne hn
theorem eg_new {M : Goal U} {o : Oper} {ev : Operand → AV} {h : Heap U} {nw : Nat} {X : List Nat} {K : AV → Heap U → List Nat → Out U} (hn : h.get nw = none ∨ nw ∈ X) {v : AV} {B : Blk U} (hK : (K v ((nw, B) :: h) X).holds M)
    (hrun : ∀ (r : Nm) (a : Act) (w : World), (∀ x ∈ o.op.operands.toList, rel r (ev x) (a.eval x)) → ∃ ob z, (execOp a.eval o).run P w = .ok (.value z) (w.alloc ob) ∧ ∀ r' : Nm, r.le r' → r' nw = some (w.heap.size, 0) → rel r' v z ∧ ∀ G, B.den G r' nw (Hp.one w.heap.size ob)) :
    Eg P o ev h nw (fun v h' t => (K v h' t).holds M) := by
  intro β r a w ho hs hnw
  obtain ⟨ob, z, h1, h2⟩ := hrun r a w ho
  obtain ⟨h3, h4⟩ := h2 (r.put nw (w.heap.size, 0)) (Nm.le_put hnw) (Nm.put_self _ _ _)
  exact ⟨v, _, X, z, w.alloc ob, r.put nw (w.heap.size, 0), hK, .inl h1, Nm.le_put hnw, fun i hi hri => Nm.put_other hi hri, h3, hs.new hnw (h4 β.G),
    fun id B' hg hne => by rw [Heap.get_cons_ne (new_ne hn hg hne)]; exact hg⟩

theorem flatten_replicate_rel {r : Nm} {xs : List AV} {vs : List Value} (h : relL r xs vs) : ∀ n, relL r (List.replicate n xs).flatten (List.replicate n vs).flatten
  | 0 => relL_nil
  | n + 1 => by simp only [List.replicate_succ, List.flatten_cons]; exact relL_append h (flatten_replicate_rel h n)

theorem madeCells_flatten (z : Array Value) (hz : 0 < z.size) : ∀ n, (madeCells z (n * z.size)).toList = (List.replicate n z.toList).flatten := by
  intro n
  apply List.ext_getElem?
  intro j
  have hlen : ((List.replicate n z.toList).flatten).length = n * z.size := by simp
  by_cases hj : j < n * z.size
  · have e1 : (madeCells z (n * z.size)).toList[j]? = some (z[j % z.size]'(Nat.mod_lt j hz)) := by
      simp [madeCells, hj, getElem!_pos z (j % z.size) (Nat.mod_lt j hz)]
    rw [e1]
    clear e1 hlen
    induction n generalizing j with
    | zero => simp at hj
    | succ n ih =>
      simp only [List.replicate_succ, List.flatten_cons, List.getElem?_append, Array.length_toList]
      by_cases h : j < z.size
      · simp [h, Nat.mod_eq_of_lt h]
      · rw [if_neg h, ← ih (j - z.size) (by rw [Nat.succ_mul] at hj; omega)]
        congr 1
        have : j % z.size = (j - z.size) % z.size := by rw [Nat.mod_eq_sub_mod (by omega)]
        simp [this]
  · rw [List.getElem?_eq_none (by simp [size_madeCells]; omega), List.getElem?_eq_none (by rw [hlen]; omega)]

end
end Sx
end Go.Proofs.YtmcmdghmglopnaaGreatDoor

/-
  Operations that make memory or write it: soundness of their evaluator.
-/
namespace Go.Proofs.YtmcmdghmglopnaaGreatDoor
namespace Sx
open Go

section
variable {U : Uni} {P : Program} {τ : Tab}

theorem sliceOf_under {T e s : Nat} (hτ : τ.met P) (h : sliceOf τ T = some (e, s)) : ∃ R, τ e = some R ∧ R.size = s ∧ P.underlying T = some (.slice e) := by
  have hk := (sliceOf_sound hτ h).1
  unfold sliceOf at h
  split at h
  · split at h
    · split at h
      · rename_i R' hR' e' hk' E hE
        simp only [Option.some.injEq, Prod.mk.injEq] at h; obtain ⟨rfl, rfl⟩ := h
        exact ⟨E, hE, rfl, hk⟩
      · simp at h
    · simp at h
  · simp at h

/-- An append that ends in a row of ours. -/
theorem append_end {β : Base} {r : Nm} {w w' : World} {e : Nat} {k : U.K} {ys : List (U.El k)} {v' : Value} {xsv : List Value} {g : Option Nat} {nw : Nat} (hnw : r nw = none)
    (h : Appended w w' e (U.enc k).w v' ys.length xsv g) (hrow : ∀ i y, ys[i]? = some y → relL r ((U.enc k).enc y) ((xsv.drop (i * (U.enc k).w)).take (U.enc k).w)) :
    ∃ sp r', r.le r' ∧ (∀ i, i ≠ nw → r i = none → r' i = none) ∧ rel r' (.sl false nw 0 (U.enc k).w ys.length (ys.length + sp)) v' ∧
      ((ys = [] ∧ sp = 0 ∧ r' = r ∧ w'.heap = w.heap ∧ w'.os = w.os ∧ w'.output = w.output ∧ w'.tape = w.tape) ∨
       ∃ b o', r' = r.put nw (b, 0) ∧ (Blk.arr e k ys sp : Blk U).den β.G r' nw (Hp.one b o') ∧
        ((g = some b ∧ w'.heap[b]? = some o' ∧ (∀ x, x ≠ b → w'.heap[x]? = w.heap[x]?) ∧ w'.os = w.os ∧ w'.output = w.output ∧ w'.tape = w.tape) ∨ (b = w.heap.size ∧ w' = w.drew.alloc o'))) := by
  obtain ⟨h1, h2, h3, a, cap, rfl, hN, hc, hh⟩ := h
  rcases hh with ⟨hz, hheap⟩ | ⟨b, c, rfl, hb, hcs, htake, hwhere⟩
  · have hy0 : ys = [] := List.eq_nil_of_length_eq_zero (by omega)
    subst hy0
    refine ⟨0, r, Nm.le.refl r, fun _ _ h => h, ⟨a, by subst hz; rfl, Nat.le_refl _, .inl rfl⟩, .inl ⟨rfl, rfl, rfl, hheap, h1, h2, h3⟩⟩
  · obtain ⟨sp, rfl⟩ : ∃ sp, cap = ys.length + sp := ⟨cap - ys.length, by omega⟩
    have hrow' : rowAt (U.enc k) (r.put nw (b, 0)) ys c 0 := by
      intro i y hy
      have hlt : i < ys.length := (List.getElem?_eq_some_iff.1 hy).1
      have := relL_mono (Nm.le_put (x := (b, 0)) hnw) _ _ (hrow i y hy)
      rw [← htake] at this
      rw [List.drop_take, List.take_take] at this
      have hm : (i + 1) * (U.enc k).w ≤ ys.length * (U.enc k).w := Nat.mul_le_mul_right _ hlt
      rw [Nat.succ_mul] at hm
      rw [show min (U.enc k).w (ys.length * (U.enc k).w - i * (U.enc k).w) = (U.enc k).w by omega] at this
      simpa using this
    refine ⟨sp, r.put nw (b, 0), Nm.le_put hnw, fun i hi hri => Nm.put_other hi hri, ⟨_, rfl, hN, .inr ⟨_, Nm.put_self _ _ _, by simp⟩⟩, .inr ⟨b, .cells c e (0, 0), rfl, .inr ⟨b, c, Nm.put_self _ _ _, hrow', hcs, hc, rfl⟩, ?_⟩⟩
    rcases hwhere with ⟨hg, hs⟩ | ⟨d, hw', rfl, rfl⟩
    · exact .inl ⟨hg, hb, hs, h1, h2, h3⟩
    · exact .inr ⟨rfl, hw'⟩

theorem run_value2 {s : Sem Value} {z : Value} {w w' : World} (h : s.run P w = .ok z w') : (do pure (Next.value (← s)) : Sem Next).run P w = .ok (.value z) w' := by
  simp [h]

set_option maxHeartbeats 4000000 in
theorem evalE1_sound (hτ : τ.met P) {κ : Kinds U} (hκ : κ.met τ) {M : Goal U} {dst : Option Tmp} {op : Op} {type : Nat} {pos : String} {after : Array Edge} {guard : Option (Nat × Bool)} {ev : Operand → AV} {h : Heap U} {nw : Nat} {K : AV → Heap U → List Nat → Out U}
    {X : List Nat} (hn : h.get nw = none ∨ nw ∈ X) (H : (evalE1 τ κ op ev h nw X K).holds M) : Eg P ⟨dst, op, type, pos, after, guard⟩ ev h nw (fun v h' t => (K v h' t).holds M) := by
  unfold evalE1 at H
  have put : ∀ (T : Nat) (m ky x : Operand) (op : Op), op.operands.toList = [m, ky, x] → (∀ (a : Act) (o : Oper), o.op = op → execOp a.eval o = (do Instr.mapUpdate T (a.eval m) (a.eval ky) (a.eval x); pure .skip)) →
      (evalPut τ κ T (ev m) (ev ky) (ev x) h K).holds M → Eg P ⟨dst, op, type, pos, after, guard⟩ ev h nw (fun v h' t => (K v h' t).holds M) := by
    intro T m ky x op hops hex H
    unfold evalPut at H
    split at H
    · rename_i kk kd id kk'' n l hmap hm hky
      split at H
      · rename_i kk' k' es hB
        rw [holds_bif] at H
        split at H
        · rename_i hc
          simp only [Bool.and_eq_true, decide_eq_true_eq] at hc
          obtain ⟨rfl, rfl⟩ := hc
          split at H
          · rename_i y hy
            intro β r a w ho hs hnw
            have hmm := ho m (by rw [hops]; simp); rw [hm] at hmm
            obtain ⟨q, hq, hmm⟩ := hmm
            have hkv := rel_num hky (ho ky (by rw [hops]; simp))
            have hxv := decV_sound hy (ho x (by rw [hops]; simp))
            obtain ⟨tk, te, hT, hkt, _⟩ := mapOf_sound hτ hmap
            obtain ⟨H1, hd, hw, _⟩ := hs.at hB
            obtain ⟨b, ents, clock, hb, hrm, hst, rfl⟩ := hd
            rw [hq] at hb; cases hb
            have hblk := Hp.inW_one.1 hw
            have hlt := (Array.getElem?_eq_some_iff.1 hblk).1
            have hget : (getObj b).run P w = .ok (.map ents clock) w := by simp [getObj, Sem.run, hblk]
            have hset : ∀ o, (setObj b o).run P w = .ok () { w with heap := w.heap.setIfInBounds b o } := fun o => by simp [setObj, Sem.run, hblk]
            obtain ⟨f1, f2⟩ := relM_put (n := n) hxv es ents.toList 0 hrm
            have fin : ∀ (ents' : Array MapEntry) (clock' : Nat), relM (U.enc k') kk r (mput es n y) ents'.toList → MapKept.Stamped ents' clock' → (Instr.mapUpdate T (.map (some b)) (.int kk n) (a.eval x)).run P w = .ok () { w with heap := w.heap.setIfInBounds b (.map ents' clock') } →
                ∃ v h' t z w' r', (K v h' t).holds M ∧ ((execOp a.eval ⟨dst, op, type, pos, after, guard⟩).run P w = .ok (.value z) w' ∨ ((execOp a.eval ⟨dst, op, type, pos, after, guard⟩).run P w = .ok .skip w' ∧ z = undef)) ∧
                  r.le r' ∧ (∀ i, i ≠ nw → r i = none → r' i = none) ∧ rel r' v z ∧ Sat β r' h' w' ∧ (∀ id B, h.get id = some B → id ∉ t → h'.get id = some B) := by
              intro ents' clock' hrel hst' hrun
              refine ⟨.und, _, [id], undef, { w with heap := w.heap.setIfInBounds b (.map ents' clock') }, r, H, .inr ⟨?_, rfl⟩, Nm.le.refl r, fun _ _ h => h, trivial, ?_, fun id' B hg hne => by rw [Heap.get_set_ne (by simpa using hne)]; exact hg⟩
              · rw [hex a _ rfl]; simp only [Sem.run_bind, hmm, hkv, hrun, Result.andThen_ok, Sem.run_pure]
              · refine hs.write hB (b := b) (.map ents' clock') ?_ ⟨b, ents', clock', hq, hrel, hst', rfl⟩ ?_ ?_ rfl rfl rfl
                · rintro H ⟨b', e', c', hb', _, _, rfl⟩; rw [hq] at hb'; cases hb'; exact ⟨_, rfl⟩
                · simp [hlt]
                · intro x hx; simp [Ne.symm hx]
            cases hmg : mget es n with
            | none =>
              have hfind := (relM_find n es ents.toList 0 hrm).1 hmg
              refine fin (ents.push { key := .int kk n, val := a.eval x, born := clock }) (clock + 1) (by simpa using f1 hmg clock) (MapKept.stamped_push hst (relM_none es ents.toList hrm hmg)) ?_
              unfold Instr.mapUpdate
              simp only [Sem.run_bind, run_underlying hT, Result.andThen_ok, hget, run_checkKey_int hkt _ 9999, Instr.findKey, run_underlying hkt, hfind, Sem.run_pure, hset]
            | some z0 =>
              obtain ⟨j, e, h1, h2, h3, h4, _⟩ := f2 z0 hmg
              refine fin (ents.modify j fun e => { e with key := .int kk n, val := a.eval x }) clock (by simpa [Array.toList_modify] using h4) (MapKept.stamped_modify hst j _ (fun _ _ => rfl) (fun e' _ he' => by rw [show e' = e from Option.some.inj (he'.symm.trans (by simpa using h2))]; exact h3.symm)) ?_
              have hej : ents[j]? = some e := by simpa using h2
              unfold Instr.mapUpdate
              simp only [Nat.zero_add] at h1
              simp only [Sem.run_bind, run_underlying hT, Result.andThen_ok, hget, run_checkKey_int hkt _ 9999, Instr.findKey, run_underlying hkt, h1, Sem.run_pure, hej, Option.map_some, Option.getD_some, Instr.keyThatStays, h3, Instr.sameBits, beq_self_eq_true, Bool.and_self, if_true, hset]
          · exact H.elim
        · exact H.elim
      · exact H.elim
    · exact H.elim
  cases op <;> (try simp only at H) <;> try exact H.elim
  case alloc T =>
    split at H
    · rename_i R hR
      refine eg_new hn H fun r a w ho => ?_
      have hm := hτ T R hR
      obtain ⟨i, z, hi, _, _, hz, _, _, hrz⟩ := hm.info
      refine ⟨.cells z.cells T, .pointer (some ⟨w.heap.size, 0, none⟩), by simp [execOp, Instr.alloc, zeroValue, typeInfo, hi, hz, newVar, newRow], fun r' hr' hnw => ⟨⟨_, hnw, rfl⟩, fun G => ⟨w.heap.size, z.cells.toList, hnw, ?_, by simp⟩⟩⟩
      exact relL_mono (fun _ _ e => by cases e) _ _ hrz
    · exact H.elim
  case box T x =>
    rw [holds_bif] at H
    split at H
    · rename_i hpl
      refine eg_new hn H fun r a w ho => ?_
      have hx := ho x (by simp [Op.operands])
      refine ⟨.cells (a.eval x).cells T, .pointer (some ⟨w.heap.size, 0, none⟩), by simp [execOp, Instr.box, newVar, newRow], fun r' hr' hnw => ⟨⟨_, hnw, rfl⟩, fun G => ⟨w.heap.size, (a.eval x).cells.toList, hnw, relL_mono hr' _ _ (rel_cells hpl hx), by simp⟩⟩⟩
    · exact H.elim
  case buildSlice T n ps =>
    split at H
    · rename_i e s hs
      split at H
      · rename_i R hR
        rw [holds_bif] at H
        split at H
        · rename_i hc
          simp only [Bool.and_eq_true] at hc
          obtain ⟨⟨hc1, hc2⟩, hc3⟩ := hc
          have hc1 := Nat.le_of_ble_eq_true hc1
          have hc3 := Nat.eq_of_beq_eq_true hc3
          split at H
          · rename_i cs hfill
            obtain ⟨R', hR', hsz, hT⟩ := sliceOf_under hτ hs
            rw [hR] at hR'; cases hR'
            refine eg_new hn H fun r a w ho => ?_
            have hm := hτ e R hR
            obtain ⟨i, z, hi, his, _, hz, hzs, _, hrz⟩ := hm.info
            have hzc : relL r R.zero z.cells.toList := relL_mono (fun _ _ e => by cases e) _ _ hrz
            have hpl' : ((ps.toList.map fun q => (q.1, ev q.2)).all fun q => q.2.plain) = true := by simpa [List.all_map] using hc2
            have hcells : relL r (List.replicate n R.zero).flatten (if n * s = 0 then #[] else (madeCells z.cells (n * s))).toList := by
              split
              · rename_i h0
                have : (List.replicate n R.zero).flatten = [] := by
                  apply List.eq_nil_of_length_eq_zero; simp [hc3, h0]
                rw [this]; exact relL_nil
              · rename_i h0
                have hpos : 0 < z.cells.size := by
                  rw [hzs, hsz]; rcases Nat.eq_zero_or_pos s with h | h
                  · subst h; simp at h0
                  · exact h
                rw [← hsz, ← hzs, madeCells_flatten z.cells hpos]
                exact flatten_replicate_rel hzc n
            obtain ⟨ov, ho1, ho2⟩ := fill_sound (r := r) _ ((ps.map fun q => (q.1, a.eval q.2)).toList) _ cs (if n * s = 0 then #[] else (madeCells z.cells (n * s))) hfill hpl' (by simp) (fun j i x hj => by
              simp only [List.getElem?_map, Option.map_eq_some_iff] at hj
              obtain ⟨q, hq, he⟩ := hj
              simp only [Prod.mk.injEq] at he
              obtain ⟨rfl, rfl⟩ := he
              refine ⟨a.eval q.2, by simp [hq], ho q.2 ?_⟩
              simp only [Op.operands, List.mem_map]
              exact ⟨q, List.mem_of_getElem? hq, rfl⟩) hcells
            refine ⟨.cells ov e, .slice (some ⟨w.heap.size, 0, none⟩) n n, ?_, fun r' hr' hnw => ⟨⟨_, rfl, Nat.le_refl _, .inr ⟨_, hnw, by simp⟩⟩, fun G => ⟨w.heap.size, ov.toList, hnw, relL_mono hr' _ _ ho2, by simp⟩⟩⟩
            refine run_value2 ?_
            unfold Instr.buildSlice
            simp only [Sem.run_bind, run_underlying hT, Result.andThen_ok, run_sizeOf hm, hsz]
            rw [if_neg (by omega)]
            by_cases h0 : n * s = 0
            · simp only [h0, if_true] at ho1 ⊢
              simp only [Sem.run_pure, Result.andThen_ok, Array.range_zero', Array.map_empty, ho1]
              simp [newRow]
            · simp only [h0, if_false] at ho1 ⊢
              simp only [madeCells] at ho1
              simp only [Sem.run_bind, zeroValue, typeInfo, run_program, hi, hz, Sem.run_pure, Result.andThen_ok, ho1]
              simp [newRow]
          · exact H.elim
        · exact H.elim
      · exact H.elim
    · exact H.elim
  case makeSlice T l c =>
    split at H
    · rename_i e s hs
      split at H
      · rename_i k R ka a0 la kb b0 lb hk hR hl hc
        obtain ⟨⟨h0, h1, h2⟩, H⟩ := H
        obtain ⟨R', hR', hsz, hT⟩ := sliceOf_under hτ hs
        rw [hR] at hR'; cases hR'
        obtain ⟨R', hR', hw, hag, hby, hz0⟩ := hκ e k hk
        rw [hR] at hR'; cases hR'
        have hm := hτ e R hR
        obtain ⟨i, z, hi, his, hib, hz, hzs, _, hrz⟩ := hm.info
        refine eg_new hn H fun r a w ho => ?_
        have e1 := rel_num hl (ho l (by simp [Op.operands]))
        have e2 := rel_num hc (ho c (by simp [Op.operands]))
        have hb63 : b0 ≤ 9223372036854775807 := by
          have : (1 : Int) ≤ R.bytes := by omega
          have h3 : b0 ≤ (R.bytes : Int) * b0 := by
            have := Int.mul_le_mul_of_nonneg_right this (show 0 ≤ b0 by omega); simpa using this
          omega
        have hrun := run_make (P := P) w T e i z hT hi hz ka kb a0 b0 h0 h1 (by rw [hib]; exact h2) hb63
        refine ⟨_, _, run_value2 (z := .slice (some ⟨w.heap.size, 0, none⟩) a0.toNat b0.toNat) (by simp only [e1, e2]; exact hrun), fun r' hr' hnw => ⟨⟨_, rfl, by omega, .inr ⟨_, hnw, by simp⟩⟩, fun G => ?_⟩⟩
        have hrowL : relL r' ((U.enc k).enc (U.enc k).dflt) z.cells.toList := hz0 r' _ (relL_mono (fun _ _ e => by cases e) _ _ hrz)
        refine .inr ⟨w.heap.size, _, hnw, ?_, ?_, ?_, rfl⟩
        · intro j x hj
          have hx : x = (U.enc k).dflt := by
            rw [List.getElem?_replicate] at hj; split at hj
            · cases hj; rfl
            · cases hj
          have hjl : j < a0.toNat := by
            rw [List.getElem?_replicate] at hj; split at hj
            · assumption
            · cases hj
          subst hx
          have hpos := (U.enc k).pos
          have hzw : z.cells.size = (U.enc k).w := by rw [hzs, hw]
          rw [his, ← hw, ← hzw, madeCells_flatten z.cells (by omega)]
          have hsplit : ((List.replicate b0.toNat z.cells.toList).flatten.drop (0 + j * z.cells.size)).take z.cells.size = z.cells.toList := by
            obtain ⟨n, hn'⟩ : ∃ n, b0.toNat = j + (n + 1) := ⟨b0.toNat - j - 1, by omega⟩
            rw [hn', ← List.replicate_append_replicate, List.flatten_append, List.replicate_succ, List.flatten_cons, Nat.zero_add]
            have hjl' : ((List.replicate j z.cells.toList).flatten).length = j * z.cells.size := by simp
            rw [← hjl', List.drop_left]
            simp
          rw [hsplit]; exact hrowL
        · simp only [size_madeCells, List.length_replicate, his, hw]; congr 1; omega
        · simp only [List.length_replicate, maxLen]; omega
      · exact H.elim
    · exact H.elim
  case makeMap T rr =>
    split at H
    · rename_i kk k hmap
      refine eg_new hn H fun r a w ho => ⟨.map #[] 0, .map (some w.heap.size), by simp [execOp, Instr.makeMap], fun r' hr' hnw => ⟨⟨_, hnw, rfl⟩, fun G => ⟨w.heap.size, #[], 0, hnw, by simp [relM], MapKept.stamped_empty 0, rfl⟩⟩⟩
    · exact H.elim
  case store T p x =>
    split at H
    · rename_i R id hR hid
      split at H
      · rename_i B hB
        obtain ⟨B', hK, hall⟩ := writeAt_sound (hτ T R hR) H hid
        intro β r a w ho hs hnw
        obtain ⟨w', hrun, hs'⟩ := hall β r w h _ _ (ho p (by simp [Op.operands])) (ho x (by simp [Op.operands])) hB hs
        exact ⟨.und, _, [id], undef, w', r, hK, .inr ⟨by simp [execOp, hrun], rfl⟩, Nm.le.refl r, fun _ _ h => h, trivial, hs', fun id' B hg hne => by rw [Heap.get_set_ne (by simpa using hne)]; exact hg⟩
      · exact H.elim
    · exact H.elim
  case mapUpdate T m ky x => exact put T m ky x _ (by simp [Op.operands]) (fun a o ho => by simp [execOp, ho]) H
  case insert T m ky x => exact put T m ky x _ (by simp [Op.operands]) (fun a o ho => by simp [execOp, ho]) H
  case call c =>
    obtain ⟨callee, args, argTypes⟩ := c
    cases callee <;> simp only at H <;> try exact H.elim
    rename_i b
    split at H
    · rename_i m ky T T2 hargs hT
      obtain ⟨args⟩ := args
      obtain ⟨argTypes⟩ := argTypes
      simp only at hargs hT; subst hargs; subst hT
      split at H
      · rename_i kk kd id kk'' n l hmap hm hky
        split at H
        · rename_i kk' k' es hB
          rw [holds_bif] at H
          split at H
          · rename_i hc
            simp only [Bool.and_eq_true, decide_eq_true_eq] at hc
            obtain ⟨rfl, rfl⟩ := hc
            intro β r a w ho hs hnw
            have hmm := ho m (by simp [Op.operands, Call.operands]); rw [hm] at hmm
            obtain ⟨q, hq, hmm⟩ := hmm
            have hkv := rel_num hky (ho ky (by simp [Op.operands, Call.operands]))
            obtain ⟨tk, te, hTT, hkt, _⟩ := mapOf_sound hτ hmap
            obtain ⟨H1, hd, hw, _⟩ := hs.at hB
            obtain ⟨b, ents, clock, hb, hrm, hst, rfl⟩ := hd
            rw [hq] at hb; cases hb
            have hblk := Hp.inW_one.1 hw
            have hlt := (Array.getElem?_eq_some_iff.1 hblk).1
            have hget : (getObj b).run P w = .ok (.map ents clock) w := by simp [getObj, Sem.run, hblk]
            have hset : ∀ o, (setObj b o).run P w = .ok () { w with heap := w.heap.setIfInBounds b o } := fun o => by simp [setObj, Sem.run, hblk]
            have fin : ∀ (ents' : Array MapEntry), relM (U.enc k') kk r (mdel es n) ents'.toList → MapKept.Stamped ents' clock → (Builtin.delete_ #[T, T2] type #[.map (some b), .int kk n]).run P w = .ok (.tuple #[]) { w with heap := w.heap.setIfInBounds b (.map ents' clock) } →
                ∃ v h' t z w' r', (K v h' t).holds M ∧ ((execOp a.eval ⟨dst, .call ⟨.builtin .delete, ⟨[m, ky]⟩, ⟨[T, T2]⟩⟩, type, pos, after, guard⟩).run P w = .ok (.value z) w' ∨ ((execOp a.eval ⟨dst, .call ⟨.builtin .delete, ⟨[m, ky]⟩, ⟨[T, T2]⟩⟩, type, pos, after, guard⟩).run P w = .ok .skip w' ∧ z = undef)) ∧
                  r.le r' ∧ (∀ i, i ≠ nw → r i = none → r' i = none) ∧ rel r' v z ∧ Sat β r' h' w' ∧ (∀ id B, h.get id = some B → id ∉ t → h'.get id = some B) := by
              intro ents' hrel hst' hrun
              refine ⟨.tup [], _, [id], .tuple #[], { w with heap := w.heap.setIfInBounds b (.map ents' clock) }, r, H, .inl ?_, Nm.le.refl r, fun _ _ h => h, ⟨[], relL_nil, rfl⟩, ?_, fun id' B hg hne => by rw [Heap.get_set_ne (by simpa using hne)]; exact hg⟩
              · simp [execOp, resolve, invoke, builtin, hmm, hkv, hrun]
              · refine hs.write hB (b := b) (.map ents' clock) ?_ ⟨b, ents', clock, hq, hrel, hst', rfl⟩ ?_ ?_ rfl rfl rfl
                · rintro H ⟨b', e', c', hb', _, _, rfl⟩; rw [hq] at hb'; cases hb'; exact ⟨_, rfl⟩
                · simp [hlt]
                · intro x hx; simp [Ne.symm hx]
            cases hmg : mget es n with
            | none =>
              have hfind := (relM_find n es ents.toList 0 hrm).1 hmg
              refine fin ents (by rw [mdel_none hmg]; exact hrm) hst ?_
              simp [Builtin.delete_, run_underlying hTT, hget, run_checkKey_int hkt _ 9999, Instr.findKey, run_underlying hkt, hfind, hset]
            | some z0 =>
              obtain ⟨_, e0, _, _, _, hv0, _⟩ := (relM_find n es ents.toList 0 hrm).2 z0 hmg
              obtain ⟨j, e, h1, h2, h3, _, h5⟩ := (relM_put (n := n) hv0 es ents.toList 0 hrm).2 z0 hmg
              refine fin (ents.eraseIdxIfInBounds j) (by simpa using h5) (MapKept.stamped_erase hst j) ?_
              simp only [Nat.zero_add] at h1
              simp [Builtin.delete_, run_underlying hTT, hget, run_checkKey_int hkt _ 9999, Instr.findKey, run_underlying hkt, h1, hset]
          · exact H.elim
        · exact H.elim
      · exact H.elim
    · rename_i sx x T T' hargs hT
      obtain ⟨args⟩ := args
      obtain ⟨argTypes⟩ := argTypes
      simp only at hargs hT; subst hargs; subst hT
      rw [holds_bif] at H
      split at H
      · rename_i hTT
        have hTT := Nat.eq_of_beq_eq_true hTT
        subst hTT
        split at H
        · rename_i e sz hs
          split at H
          · rename_i k R hk hR
            obtain ⟨R', hR', hsz, hT⟩ := sliceOf_under hτ hs
            rw [hR] at hR'; cases hR'
            obtain ⟨R', hR', hw, hag, hby, hz0⟩ := hκ e k hk
            rw [hR] at hR'; cases hR'
            have hm := hτ e R hR
            obtain ⟨i, z, hi, his, hib, hz, hzs, _, hrz⟩ := hm.info
            have hwi : (U.enc k).w = i.size := by rw [hw, his]
            obtain ⟨ys, rd, H, hrd, hsrc⟩ := evalSrc_sound H
            have hsz' : sz = (U.enc k).w := by rw [hw, hsz]
            -- a base with no room at all
            have bare : ∀ (hsx : ∀ (r : Nm) u, rel r (ev sx) u → ∃ a, u = .slice a 0 0), (Out.needd (ys.length * R.bytes ≤ 140737488355328) (.all Nat fun sp => K (.sl false nw 0 sz ys.length (ys.length + sp)) ((nw, .arr e k ys sp) :: h) X) : Out U).holds M →
                Eg P ⟨dst, .call ⟨.builtin .append, ⟨[sx, x]⟩, ⟨[T, T]⟩⟩, type, pos, after, guard⟩ ev h nw (fun v h' t => (K v h' t).holds M) := by
              rintro hsx ⟨hb, H⟩ β r a w ho hs hnw
              obtain ⟨ba, hba⟩ := hsx r _ (ho sx (by simp [Op.operands, Call.operands]))
              obtain ⟨news, n1, n2, n3, n4, n5⟩ := hsrc β r w _ (ho x (by simp [Op.operands, Call.operands])) hs
              obtain ⟨v', w', hrun, happ⟩ := run_append_any (P := P) w T type e i z hT hi hz (by rw [hzs, his]) (a.eval x) ys.length news n1 (by rw [← hwi]; exact n2) (by rw [← hwi]; exact n3 w rfl) (by rw [← hwi]; exact n3 w.drew rfl) n4 ba 0 0 [] (by simp) (Nat.le_refl _) (Nat.zero_le _) none (.inl rfl) (by
                  have : ys.length ≤ ys.length * R.bytes := Nat.le_mul_of_pos_right _ (by omega)
                  simp only [maxLen]; omega) (by rw [Nat.zero_add, hib]; exact hb)
              rw [Nat.zero_add, ← hwi, List.nil_append] at happ
              obtain ⟨sp, r', g1, g2, g3, g4⟩ := append_end (β := β) (r := r) (nw := nw) hnw happ n5
              refine ⟨_, _, X, v', w', r', H sp, .inl (by simp [execOp, resolve, invoke, builtin, hba, hrun]), g1, g2, by rw [hsz']; exact g3, ?_, fun id' B hg hne => by rw [Heap.get_cons_ne (new_ne hn hg hne)]; exact hg⟩
              rcases g4 with ⟨rfl, rfl, rfl, q1, q2, q3, q4⟩ | ⟨b, o', rfl, hden, hwh⟩
              · exact (hs.sameHeap q1 q2 q3 q4).empty nw e k
              · rcases hwh with ⟨hg, _⟩ | ⟨rfl, rfl⟩
                · cases hg
                · exact hs.drew.new hnw (by simpa using hden)
            split at H
            · rename_i hsx
              exact bare (fun r u hu => by rw [hsx] at hu; simp only [rel] at hu; exact ⟨_, hu⟩) H
            · rename_i kn id st w0 len cap hsx
              rw [holds_bif] at H
              split at H
              · rename_i hb0
                simp only [Bool.and_eq_true] at hb0
                obtain ⟨⟨_, hb1⟩, hb2⟩ := hb0
                have hb1 := Nat.eq_of_beq_eq_true hb1
                have hb2 := Nat.eq_of_beq_eq_true hb2
                subst hb1; subst hb2
                exact bare (fun r u hu => by rw [hsx] at hu; obtain ⟨a, hu, _⟩ := hu; exact ⟨a, hu⟩) H
              split at H
              · rename_i T2 k2 xs sp0 hB
                split at H
                · rename_i hkk _
                  subst hkk
                  rw [holds_bif] at H
                  split at H
                  · rename_i hc
                    simp only [Bool.and_eq_true] at hc
                    obtain ⟨⟨hc1, hc2⟩, hc3⟩ := hc
                    have hc1 := Nat.eq_of_beq_eq_true hc1
                    have hc2 := Nat.eq_of_beq_eq_true hc2
                    subst hc1; subst hc2
                    obtain ⟨h2, ⟨h0, h1, hb⟩, H⟩ := H
                    subst h0; subst h1; subst h2
                    intro β r a w ho hs hnw
                    have hu := ho sx (by simp [Op.operands, Call.operands]); rw [hsx] at hu
                    obtain ⟨ba, hba, _, hbb⟩ := hu
                    obtain ⟨news, n1, n2, n3, n4, n5⟩ := hsrc β r w _ (ho x (by simp [Op.operands, Call.operands])) hs
                    obtain ⟨H1, hd, hwin, _⟩ := hs.at hB
                    have hbase : ∃ g xsv, xsv.length = xs.length * i.size ∧ (xs.length + sp0 = 0 ∨ ∃ b c, ba = some ⟨b, 0, none⟩ ∧ g = some b ∧ w.heap[b]? = some (.cells c T2 (0, 0)) ∧ c.size = (xs.length + sp0) * i.size ∧ c.toList.take (xs.length * i.size) = xsv) ∧
                        (∀ j y, xs[j]? = some y → relL r ((U.enc k2).enc y) ((xsv.drop (j * (U.enc k2).w)).take (U.enc k2).w)) ∧ xs.length + sp0 ≤ maxLen ∧ (∀ b, g = some b → ∀ H1, (Blk.arr T2 k2 xs sp0 : Blk U).den β.G r id H1 → ∃ o, H1 = Hp.one b o) := by
                      by_cases hcz : xs.length + sp0 = 0
                      · have : xs = [] := List.eq_nil_of_length_eq_zero (by omega)
                        subst this
                        exact ⟨none, [], by simp, .inl hcz, fun j y hj => by simp at hj, by omega, fun b e => by cases e⟩
                      rcases hd with ⟨hz0', _⟩ | ⟨b, c, hb', hrow, hcs, hmx, rfl⟩
                      · have : xs = [] := List.eq_nil_of_length_eq_zero (by omega)
                        subst this
                        exact ⟨none, [], by simp, .inl hz0', fun j y hj => by simp at hj, by omega, fun b e => by cases e⟩
                      · rcases hbb with hbb | ⟨y, hy, rfl⟩
                        · have : xs = [] := List.eq_nil_of_length_eq_zero (by omega)
                          subst this
                          exact ⟨none, [], by simp, .inl hbb, fun j y hj => by simp at hj, hmx, fun b e => by cases e⟩
                        · rw [hy] at hb'; cases hb'
                          have hlen : (c.toList.take (xs.length * i.size)).length = xs.length * i.size := by
                            have hcl : c.toList.length = c.size := by simp
                            rw [List.length_take, hcl, hcs, hwi, Nat.add_mul]; omega
                          refine ⟨some b, _, hlen, .inr ⟨b, c, by simp, rfl, Hp.inW_one.1 hwin, by rw [← hwi]; exact hcs, rfl⟩, fun j y hj => ?_, hmx, fun b' e H1 hH => ?_⟩
                          · have := hrow j y hj
                            have hlt : j < xs.length := (List.getElem?_eq_some_iff.1 hj).1
                            have hm2 : (j + 1) * (U.enc k2).w ≤ xs.length * (U.enc k2).w := Nat.mul_le_mul_right _ hlt
                            rw [Nat.succ_mul] at hm2
                            rw [← hwi, List.drop_take, List.take_take, show min (U.enc k2).w (xs.length * (U.enc k2).w - j * (U.enc k2).w) = (U.enc k2).w by omega]
                            simpa using this
                          · cases e
                            rcases hH with ⟨hz1, _⟩ | ⟨b', c', hb'', _, _, _, rfl⟩
                            · exact absurd hz1 hcz
                            · rw [hy] at hb''; cases hb''; exact ⟨_, rfl⟩
                    obtain ⟨g, xsv, x1, x2, x3, x4, x5⟩ := hbase
                    obtain ⟨v', w', hrun, happ⟩ := run_append_any (P := P) w T type T2 i z hT hi hz (by rw [hzs, his]) (a.eval x) ys.length news n1 (by rw [← hwi]; exact n2) (by rw [← hwi]; exact n3 w rfl) (by rw [← hwi]; exact n3 w.drew rfl) n4 ba xs.length (xs.length + sp0) xsv x1 (by omega) x4 g x2 (by
                        have : xs.length + ys.length ≤ (xs.length + ys.length) * R.bytes := Nat.le_mul_of_pos_right _ (by omega)
                        simp only [maxLen]; omega) (by rw [hib]; exact hb)
                    rw [← hwi, show xs.length + ys.length = (xs ++ ys).length by simp] at happ
                    have hrows : ∀ j y, (xs ++ ys)[j]? = some y → relL r ((U.enc k2).enc y) (((xsv ++ news).drop (j * (U.enc k2).w)).take (U.enc k2).w) := by
                      intro j y hj
                      rw [← hwi] at x1
                      rw [List.getElem?_append] at hj
                      split at hj
                      · rename_i hlt
                        have hm2 : (j + 1) * (U.enc k2).w ≤ xs.length * (U.enc k2).w := Nat.mul_le_mul_right _ hlt
                        rw [Nat.succ_mul] at hm2
                        rw [List.drop_append_of_le_length (by omega), List.take_append_of_le_length (by simp; omega)]
                        exact x3 j y hj
                      · rename_i hge
                        have := n5 _ y hj
                        have e1 : j * (U.enc k2).w = xsv.length + (j - xs.length) * (U.enc k2).w := by
                          rw [x1, ← Nat.add_mul]; congr 1; omega
                        rw [e1, List.drop_append]
                        have e2 : xsv.drop (xsv.length + (j - xs.length) * (U.enc k2).w) = [] := List.drop_eq_nil_of_le (by omega)
                        rw [e2, List.nil_append, show xsv.length + (j - xs.length) * (U.enc k2).w - xsv.length = (j - xs.length) * (U.enc k2).w by omega]
                        exact this
                    obtain ⟨sp, r', g1, g2, g3, g4⟩ := append_end (β := β) (r := r) (nw := nw) hnw happ hrows
                    refine ⟨_, _, id :: X, v', w', r', H sp, .inl (by simp [execOp, resolve, invoke, builtin, hba, hrun]), g1, g2, by rw [hsz']; simpa using g3, ?_, fun id' B hg hne => ?_⟩
                    · rcases g4 with ⟨q0, rfl, rfl, q1, q2, q3, q4⟩ | ⟨b, o', rfl, hden, hwh⟩
                      · simp only [castK, q0]; exact ((hs.del hB).sameHeap q1 q2 q3 q4).empty nw T2 k2
                      · rcases hwh with ⟨rfl, hh1, hh2, q2, q3, q4⟩ | ⟨rfl, rfl⟩
                        · exact hs.rename hnw hB o' (x5 b rfl) hden hh1 hh2 q2 q3 q4
                        · exact (hs.del hB).drew.new hnw (by simpa [castK] using hden)
                    · have hne := not_or.1 (fun hm => hne (List.mem_cons.2 hm))
                      rw [Heap.get_cons_ne (new_ne hn hg hne.2), Heap.get_del_ne hne.1]; exact hg
                  · exact H.elim
                · exact H.elim
              · exact H.elim
            · exact H.elim
          · exact H.elim
        · exact H.elim
      · exact H.elim
    · exact H.elim
theorem evalE0_sound (hτ : τ.met P) {κ : Kinds U} (hκ : κ.met τ) {M : Goal U} {dst : Option Tmp} {op : Op} {type : Nat} {pos : String} {after : Array Edge} {guard : Option (Nat × Bool)} {ev : Operand → AV} {h : Heap U} {nw : Nat} {K : AV → Heap U → List Nat → Out U}
    (H : (evalE0 τ κ op ev h nw K).holds M) : Eg P ⟨dst, op, type, pos, after, guard⟩ ev h nw (fun v h' t => (K v h' t).holds M) := by
  unfold evalE0 at H
  rw [holds_bif] at H
  split at H
  · exact evalE1_sound hτ hκ (.inr (List.mem_singleton.2 rfl)) H
  · cases hn : h.get nw with
    | some B => rw [hn] at H; exact H.elim
    | none => rw [hn] at H; exact evalE1_sound hτ hκ (.inl hn) H

end
end Sx
end Go.Proofs.YtmcmdghmglopnaaGreatDoor

/-
  The builtin append over blocks of which all cells are known.
-/
namespace Go.Proofs.YtmcmdghmglopnaaGreatDoor
namespace Sx
open Go

section
variable {P : Program}

theorem zeroCells_made (z : Array Value) (n : Nat) : Builtin.zeroCells z n = madeCells z (n * z.size) := by
  simp [Builtin.zeroCells, madeCells]
theorem zeroCells_list (z : Array Value) (hz : 0 < z.size) (n : Nat) : (Builtin.zeroCells z n).toList = (List.replicate n z.toList).flatten := by
  rw [zeroCells_made, madeCells_flatten z hz]

theorem run_append_pd (w : World) (t ty e : Nat) (i : TypeInfo) (z : Value) (ht : P.underlying t = some (.slice e)) (hi : P.info? e = some i) (hz : i.zero = some z)
    (x : Value) (m : Nat) (news : List Value) (hlen : ∀ w, (Builtin.lenOf x).run P w = .ok m w) (hl : news.length = m * i.size)
    (hf : ∀ w', w'.heap = w.heap → (Builtin.firstCells i.size m x).run P w' = .ok news.toArray w') (h1 : ∀ u ∈ news, u.oneCell' = true)
    (base : Option Addr) (n cap : Nat) (xs : List Value) (hold : ∀ w', w'.heap = w.heap → (Builtin.firstCells i.size n (.slice base n cap)).run P w' = .ok xs.toArray w')
    (h63 : n + m ≤ maxLen) (hbytes : (n + m) * i.bytes ≤ 140737488355328) :
    (¬ n + m ≤ cap → n ≤ cap → (Builtin.append_ #[t, t] ty #[.slice base n cap, x]).run P w = .ok (.slice (some ⟨w.heap.size, 0, none⟩) (n + m) (grownCap w (n + m) cap e))
        (w.drew.alloc (.cells (xs.toArray ++ news.toArray ++ Builtin.zeroCells z.cells (grownCap w (n + m) cap e - (n + m))) e))) ∧
    (n + m ≤ cap → m = 0 → (Builtin.append_ #[t, t] ty #[.slice base n cap, x]).run P w = .ok (.slice base n cap) w) ∧
    (n + m ≤ cap → ∀ b off c T', base = some ⟨b, off, none⟩ → w.heap[b]? = some (.cells c T' (0, 0)) → off + n * i.size + news.length ≤ c.size →
        (Builtin.append_ #[t, t] ty #[.slice base n cap, x]).run P w = .ok (.slice base (n + m) cap) (w.setRow b (c.toList.take (off + n * i.size) ++ news ++ c.toList.drop (off + n * i.size + news.length)).toArray)) := by
  have h63' : ¬ (9223372036854775807 < ((n : Int) + (m : Int))) := by simp only [maxLen] at h63; omega
  refine ⟨fun hroom hnc => ?_, fun hroom hm => ?_, fun hroom b off c T' hb hg hfit => ?_⟩
  · have h48 : ¬ (281474976710656 < Builtin.nextslicecap (n + m) cap * i.bytes) := by
      have := growslice_fits (need := n + m) (old := cap) (bytes := i.bytes) (by omega) hbytes; omega
    have hfd := hf w.drew rfl
    have holdd := hold w.drew rfl
    simp [Builtin.append_, run_underlying ht, sizeOf, typeInfo, zeroValue, hi, hz, hlen, hroom, h63', h48, Question.forced, hfd, holdd, newRow, grownCap]
    congr 2
    apply Array.ext'
    simp [List.append_assoc]
  · subst hm
    have hn0 : news = [] := List.eq_nil_of_length_eq_zero (by simpa using hl)
    subst hn0
    have hf := hf w rfl
    have hroom : n ≤ cap := by simpa using hroom
    cases base <;> simp [Builtin.append_, run_underlying ht, sizeOf, typeInfo, hi, hlen, hf, hroom, storeCells]
  · subst hb
    have hst := run_storeCells_at P b (off + n * i.size) T' news 0 c w hg (by simpa using hfit) h1
    simp only [Nat.add_zero] at hst
    have hf := hf w rfl
    simp [Builtin.append_, run_underlying ht, sizeOf, typeInfo, hi, hlen, hroom, hf, Addr.add_lit, hst]

end
end Sx
end Go.Proofs.YtmcmdghmglopnaaGreatDoor

