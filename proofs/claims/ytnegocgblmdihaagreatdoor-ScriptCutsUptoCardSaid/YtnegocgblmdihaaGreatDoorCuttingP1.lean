/-
  The ground of a small symbolic machine over the model: pieces of memory (heaplets), values by names of blocks, blocks as plain data, and when a world holds them. No program in sight.
-/
import Derived.WalkKit
namespace Go.Proofs.YtnegocgblmdihaaGreatDoor
namespace Sx
open Go

/-! ## pieces of memory -/
abbrev Hp := Nat → Option Obj
def Hp.nil : Hp := fun _ => none
def Hp.one (b : Nat) (o : Obj) : Hp := fun x => if x = b then some o else none
def Hp.join (A B : Hp) : Hp := fun x => match A x with | some o => some o | none => B x
def Hp.apart (A B : Hp) : Prop := ∀ x, A x = none ∨ B x = none
def Hp.inW (A : Hp) (w : World) : Prop := ∀ x o, A x = some o → w.heap[x]? = some o

theorem Hp.apart.symm {A B : Hp} (h : A.apart B) : B.apart A := fun x => (h x).symm
theorem Hp.apart_nil (A : Hp) : A.apart Hp.nil := fun _ => .inr rfl
theorem Hp.nil_apart (A : Hp) : Hp.nil.apart A := fun _ => .inl rfl
theorem Hp.join_nil (A : Hp) : A.join Hp.nil = A := by funext x; unfold Hp.join Hp.nil; cases A x <;> rfl
theorem Hp.join_comm {A B : Hp} (h : A.apart B) : A.join B = B.join A := by
  funext x; unfold Hp.join
  rcases h x with e | e <;> rw [e] <;> cases A x <;> cases B x <;> simp_all
theorem Hp.join_assoc (A B C : Hp) : (A.join B).join C = A.join (B.join C) := by
  funext x; unfold Hp.join; cases A x <;> rfl
theorem Hp.apart_join {A B C : Hp} : A.apart (B.join C) ↔ A.apart B ∧ A.apart C := by
  constructor
  · intro h
    refine ⟨fun x => ?_, fun x => ?_⟩ <;> rcases h x with e | e
    · exact .inl e
    · unfold Hp.join at e; cases hb : B x <;> simp_all
    · exact .inl e
    · unfold Hp.join at e; cases hb : B x <;> simp_all
  · rintro ⟨h1, h2⟩ x
    rcases h1 x with e | e
    · exact .inl e
    · rcases h2 x with e' | e'
      · exact .inl e'
      · right; unfold Hp.join; rw [e]; exact e'
theorem Hp.join_apart {A B C : Hp} : (A.join B).apart C ↔ A.apart C ∧ B.apart C := by
  constructor
  · intro h; have := Hp.apart_join.1 h.symm; exact ⟨this.1.symm, this.2.symm⟩
  · rintro ⟨h1, h2⟩; exact (Hp.apart_join.2 ⟨h1.symm, h2.symm⟩).symm
theorem Hp.inW_join {A B : Hp} {w : World} (h : A.apart B) : (A.join B).inW w ↔ A.inW w ∧ B.inW w := by
  constructor
  · intro k
    refine ⟨fun x o e => k x o (by unfold Hp.join; rw [e]), fun x o e => k x o ?_⟩
    unfold Hp.join
    rcases h x with a | a
    · rw [a]; exact e
    · rw [a] at e; cases e
  · rintro ⟨ha, hb⟩ x o e
    unfold Hp.join at e
    cases hA : A x with
    | some o' => rw [hA] at e; cases e; exact ha x o hA
    | none => rw [hA] at e; exact hb x o e
theorem Hp.inW_nil (w : World) : Hp.nil.inW w := fun _ _ h => by cases h
theorem Hp.inW_one {b : Nat} {o : Obj} {w : World} : (Hp.one b o).inW w ↔ w.heap[b]? = some o := by
  constructor
  · intro h; exact h b o (by simp [Hp.one])
  · intro h x o' e; unfold Hp.one at e; split at e
    · rename_i hx; subst hx; cases e; exact h
    · cases e
theorem Hp.lt {A : Hp} {w : World} (h : A.inW w) {x : Nat} {o : Obj} (e : A x = some o) : x < w.heap.size :=
  (Array.getElem?_eq_some_iff.1 (h x o e)).1
theorem Hp.apart_one {A : Hp} {b : Nat} {o : Obj} : A.apart (Hp.one b o) ↔ A b = none := by
  constructor
  · intro h; rcases h b with e | e
    · exact e
    · simp [Hp.one] at e
  · intro h x; unfold Hp.one; split
    · rename_i e; subst e; exact .inl h
    · exact .inr rfl
theorem Hp.one_apart {A : Hp} {b : Nat} {o : Obj} : (Hp.one b o).apart A ↔ A b = none := ⟨fun h => Hp.apart_one.1 h.symm, fun h => (Hp.apart_one.2 h).symm⟩
/-! ## names of blocks -/
/-- Where the block of a name begins: its number, and the cell from which on it is counted. -/
abbrev Nm := Nat → Option (Nat × Nat)
def Nm.le (r s : Nm) : Prop := ∀ i x, r i = some x → s i = some x
theorem Nm.le.refl (r : Nm) : r.le r := fun _ _ h => h
theorem Nm.le.trans {r s t : Nm} (h : r.le s) (k : s.le t) : r.le t := fun i x e => k i x (h i x e)
def Nm.put (r : Nm) (i : Nat) (x : Nat × Nat) : Nm := fun j => if j = i then some x else r j
theorem Nm.le_put {r : Nm} {i : Nat} {x : Nat × Nat} (h : r i = none) : r.le (r.put i x) := by
  intro j y e; unfold Nm.put; split
  · rename_i k; subst k; rw [h] at e; cases e
  · exact e
theorem Nm.put_self (r : Nm) (i : Nat) (x : Nat × Nat) : r.put i x i = some x := by simp [Nm.put]

/-! ## values -/
inductive AV where
  | raw (v : Value)
  | int (k : IntKind) (n : Int)
  | lit (k : IntKind) (n : Int)
  | tt | ff | bool (b : Bool) | may (neg c : Bool)
  | nilP | ptr (id off : Nat) | ptrR (id i w c : Nat)
  | nilS | sl (known : Bool) (id s w len cap : Nat)
  | agg (cs : List AV) | tup (cs : List AV)
  | fn (f : Nat) (first caps : List AV)
  | nilF
  | mp (id : Nat) | nilM
  | ifc (t : Nat) (x : AV) | nilI
  | rp (o : Option (Nat × Nat)) | rs (o : Option (Nat × Nat)) (len cap : Nat) | rw (o : Option (Nat × Nat)) (len cap : Nat)
  | und
  deriving Inhabited

/-- An address by its block's own number. -/
def addrOf (o : Option (Nat × Nat)) : Option Addr := o.map fun q => ⟨q.1, q.2, none⟩

mutual
def rel (r : Nm) : AV → Value → Prop
  | .raw x, v => v = x
  | .int k n, v => v = .int k n
  | .lit k n, v => v = .int k n
  | .tt, v => v = .bool true
  | .ff, v => v = .bool false
  | .bool b, v => v = .bool b
  | .may neg c, v => ∃ b, v = .bool b ∧ (b = !neg → c = true)
  | .nilP, v => v = .pointer none
  | .ptr id off, v => ∃ x, r id = some x ∧ v = .pointer (some ⟨x.1, x.2 + off, none⟩)
  | .ptrR id i w c, v => ∃ x, r id = some x ∧ v = .pointer (some ⟨x.1, x.2 + (i * w + c), none⟩)
  | .nilS, v => v = .slice none 0 0
  | .sl _ id s w len cap, v => ∃ a, v = .slice a len cap ∧ len ≤ cap ∧ (cap = 0 ∨ ∃ x, r id = some x ∧ a = some ⟨x.1, x.2 + s * w, none⟩)
  | .agg cs, v => ∃ vs, relL r cs vs ∧ v = .agg vs.toArray
  | .tup cs, v => ∃ vs, relL r cs vs ∧ v = .tuple vs.toArray
  | .fn f fs cs, v => ∃ us vs, relL r fs us ∧ relL r cs vs ∧ v = .func (.func f) us.toArray vs.toArray
  | .nilF, v => v = .nilFunc
  | .mp id, v => ∃ x, r id = some x ∧ v = .map (some x.1)
  | .nilM, v => v = .map none
  | .ifc t x, v => ∃ u, rel r x u ∧ v = .iface t u
  | .nilI, v => v = .nilIface
  | .rp o, v => v = .pointer (addrOf o)
  | .rs o len cap, v => v = .slice (addrOf o) len cap
  | .rw o len cap, v => ∃ a, v = .slice a len cap ∧ (cap = 0 ∨ a = addrOf o)
  | .und, _ => True
def relL (r : Nm) : List AV → List Value → Prop
  | [], vs => vs = []
  | c :: cs, vs => ∃ v us, vs = v :: us ∧ rel r c v ∧ relL r cs us
end

mutual
theorem rel_mono {r s : Nm} (h : r.le s) : ∀ (x : AV) (v : Value), rel r x v → rel s x v
  | .raw _, _, e => e
  | .int .., _, e => e
  | .lit .., _, e => e
  | .tt, _, e => e
  | .ff, _, e => e
  | .bool _, _, e => e
  | .may .., _, e => e
  | .nilP, _, e => e
  | .ptr .., _, ⟨x, e, k⟩ => ⟨x, h _ _ e, k⟩
  | .ptrR .., _, ⟨x, e, k⟩ => ⟨x, h _ _ e, k⟩
  | .nilS, _, e => e
  | .sl .., _, ⟨a, e, l, k⟩ => ⟨a, e, l, k.imp id fun ⟨x, e, k⟩ => ⟨x, h _ _ e, k⟩⟩
  | .agg cs, _, ⟨vs, e, k⟩ => ⟨vs, relL_mono h cs vs e, k⟩
  | .tup cs, _, ⟨vs, e, k⟩ => ⟨vs, relL_mono h cs vs e, k⟩
  | .fn _ fs cs, _, ⟨us, vs, e, e', k⟩ => ⟨us, vs, relL_mono h fs us e, relL_mono h cs vs e', k⟩
  | .nilF, _, e => e
  | .mp _, _, ⟨x, e, k⟩ => ⟨x, h _ _ e, k⟩
  | .nilM, _, e => e
  | .ifc _ x, _, ⟨u, e, k⟩ => ⟨u, rel_mono h x u e, k⟩
  | .nilI, _, e => e
  | .rp _, _, e => e
  | .rs .., _, e => e
  | .rw .., _, e => e
  | .und, _, e => e
theorem relL_mono {r s : Nm} (h : r.le s) : ∀ (x : List AV) (v : List Value), relL r x v → relL s x v
  | [], _, e => e
  | c :: cs, _, ⟨v, us, e, k, l⟩ => ⟨v, us, e, rel_mono h c v k, relL_mono h cs us l⟩
end

theorem relL_length {r : Nm} : ∀ {x : List AV} {v : List Value}, relL r x v → v.length = x.length
  | [], _, e => by simp only [relL] at e; subst e; rfl
  | _ :: cs, _, e => by simp only [relL] at e; obtain ⟨v, us, rfl, _, l⟩ := e; simp [relL_length l]
theorem relL_get {r : Nm} : ∀ {x : List AV} {v : List Value}, relL r x v → ∀ {j : Nat} {c : AV}, x[j]? = some c → ∃ u, v[j]? = some u ∧ rel r c u
  | [], _, _, j, c, h => by simp at h
  | a :: cs, _, e, j, c, h => by
    simp only [relL] at e; obtain ⟨v, us, rfl, k, l⟩ := e
    cases j with
    | zero => simp at h; subst h; exact ⟨v, by simp, k⟩
    | succ j => simp at h; obtain ⟨u, hu, hr⟩ := relL_get l h; exact ⟨u, by simpa using hu, hr⟩
theorem relL_cons {r : Nm} {c : AV} {cs : List AV} {v : Value} {us : List Value} : relL r (c :: cs) (v :: us) ↔ rel r c v ∧ relL r cs us := by
  simp only [relL]
  constructor
  · rintro ⟨v', us', e, k, l⟩; cases e; exact ⟨k, l⟩
  · rintro ⟨k, l⟩; exact ⟨v, us, rfl, k, l⟩
theorem relL_nil {r : Nm} : relL r [] [] := by simp [relL]
theorem relL_append {r : Nm} : ∀ {x y : List AV} {v u : List Value}, relL r x v → relL r y u → relL r (x ++ y) (v ++ u)
  | [], _, _, _, e, k => by simp only [relL] at e; subst e; exact k
  | _ :: cs, _, _, _, e, k => by
    simp only [relL] at e; obtain ⟨v, us, rfl, k', l⟩ := e
    exact relL_cons.2 ⟨k', relL_append l k⟩
theorem relL_take {r : Nm} : ∀ {x : List AV} {v : List Value}, relL r x v → ∀ n, relL r (x.take n) (v.take n)
  | [], _, e, n => by simp only [relL] at e; subst e; simp [relL]
  | _ :: cs, _, e, n => by
    simp only [relL] at e; obtain ⟨v, us, rfl, k', l⟩ := e
    cases n with
    | zero => simp [relL]
    | succ n => exact relL_cons.2 ⟨k', relL_take l n⟩
theorem relL_drop {r : Nm} : ∀ {x : List AV} {v : List Value}, relL r x v → ∀ n, relL r (x.drop n) (v.drop n)
  | [], _, e, n => by simp only [relL] at e; subst e; simp [relL]
  | _ :: cs, _, e, n => by
    simp only [relL] at e; obtain ⟨v, us, rfl, k', l⟩ := e
    cases n with
    | zero => exact relL_cons.2 ⟨k', l⟩
    | succ n => exact relL_drop l n
theorem relL_set {r : Nm} {c : AV} {v : Value} (h : rel r c v) : ∀ {x : List AV} {u : List Value}, relL r x u → ∀ n, relL r (x.set n c) (u.set n v)
  | [], _, e, n => by simp only [relL] at e; subst e; simp [relL]
  | _ :: cs, _, e, n => by
    simp only [relL] at e; obtain ⟨v', us, rfl, k', l⟩ := e
    cases n with
    | zero => exact relL_cons.2 ⟨h, l⟩
    | succ n => exact relL_cons.2 ⟨k', relL_set h l n⟩

/-! ## a pool: many blocks as plain data, under their own numbers -/
inductive PD where
  | int (k : IntKind) (n : Int)
  | bool (b : Bool)
  | ptr (o : Option (Nat × Nat))
  | sl (o : Option (Nat × Nat)) (len cap : Nat)
  deriving Inhabited, DecidableEq
def PD.val : PD → Value
  | .int k n => .int k n
  | .bool b => .bool b
  | .ptr o => .pointer (addrOf o)
  | .sl o len cap => .slice (addrOf o) len cap
def PD.av : PD → AV
  | .int k n => .int k n
  | .bool b => .bool b
  | .ptr o => .rp o
  | .sl o len cap => .rs o len cap
theorem PD.rel_av (r : Nm) (d : PD) : rel r d.av d.val := by cases d <;> rfl
theorem PD.relL_av (r : Nm) : ∀ ds : List PD, relL r (ds.map PD.av) (ds.map PD.val)
  | [] => relL_nil
  | d :: ds => relL_cons.2 ⟨PD.rel_av r d, PD.relL_av r ds⟩
theorem PD.one (d : PD) : d.val.oneCell' = true := by cases d <;> rfl

/-- What lies at a block's number: its cells' type, and its cells. -/
abbrev Pool := Nat → Option (Nat × List PD)
def Pool.nil : Pool := fun _ => none
def Pool.obj (q : Nat × List PD) : Obj := .cells (q.2.map PD.val).toArray q.1 (0, 0)
def Pool.hp (p : Pool) : Hp := fun b => (p b).map Pool.obj
/-- These cells lie there. -/
def Pool.at (p : Pool) (o : Option (Nat × Nat)) (ds : List PD) : Prop := ∃ b off T cs, o = some (b, off) ∧ p b = some (T, cs) ∧ off + ds.length ≤ cs.length ∧ (cs.drop off).take ds.length = ds
/-- So many cells lie there. -/
def Pool.has (p : Pool) (o : Option (Nat × Nat)) (n : Nat) : Prop := ∃ b off T cs, o = some (b, off) ∧ p b = some (T, cs) ∧ off + n ≤ cs.length
def setAt (cs : List PD) (off : Nat) (ds : List PD) : List PD := cs.take off ++ ds ++ cs.drop (off + ds.length)
def Pool.set (p : Pool) (o : Option (Nat × Nat)) (ds : List PD) : Pool := match o with
  | none => p
  | some (b, off) => fun x => if x = b then (p b).map (fun q => (q.1, setAt q.2 off ds)) else p x
def Pool.put (p : Pool) (b T : Nat) (ds : List PD) : Pool := fun x => if x = b then some (T, ds) else p x

/-- What is known of memory that is none of ours: a datum at a cell of a block. -/
abbrev RPool := Nat → Nat → PD → Prop
/-- A datum of foreign memory: where a slice has no room its address is not known. -/
def PD.is : PD → Value → Prop
  | .sl o len cap, v => ∃ a, v = .slice a len cap ∧ (cap = 0 ∨ a = addrOf o)
  | d, v => v = d.val
def PD.aw : PD → AV
  | .sl o len cap => .rw o len cap
  | d => d.av
theorem PD.is_val (d : PD) : d.is d.val := by cases d <;> first | rfl | exact ⟨_, rfl, .inr rfl⟩
theorem PD.rel_aw {r : Nm} {d : PD} {v : Value} (h : d.is v) : rel r d.aw v := by cases d <;> exact h
theorem PD.relL_aw {r : Nm} : ∀ {ds : List PD} {vs : List Value}, vs.length = ds.length → (∀ (j : Nat) (d : PD), ds[j]? = some d → ∃ v, vs[j]? = some v ∧ d.is v) → relL r (ds.map PD.aw) vs
  | [], [], _, _ => relL_nil
  | [], _ :: _, h, _ => by simp at h
  | _ :: _, [], h, _ => by simp at h
  | d :: ds, v :: vs, h, k => by
    refine relL_cons.2 ⟨?_, PD.relL_aw (by simpa using h) fun j e hj => k (j + 1) e hj⟩
    obtain ⟨u, hu, hi⟩ := k 0 d rfl
    cases hu
    exact PD.rel_aw hi
def RPool.inG (f : RPool) (G : Hp) : Prop := ∀ b o d, f b o d → ∃ c T fz v, G b = some (.cells c T fz) ∧ c[o]? = some v ∧ d.is v
theorem RPool.inG.nil {f : RPool} (h : f.inG Hp.nil) {G : Hp} : f.inG G := fun b o d e => by obtain ⟨c, T, fz, v, h1, _⟩ := h b o d e; cases h1
/-- These cells are known to lie there. -/
def RPool.at (f : RPool) (o : Option (Nat × Nat)) (ds : List PD) : Prop := ∃ b off, o = some (b, off) ∧ ∀ j d, ds[j]? = some d → f b (off + j) d
theorem Pool.hp_none {p : Pool} {b : Nat} : p.hp b = none ↔ p b = none := by unfold Pool.hp; cases p b <;> simp
theorem Pool.hp_put {p : Pool} {b T : Nat} {ds : List PD} (h : p b = none) : (p.put b T ds).hp = (Hp.one b (Pool.obj (T, ds))).join p.hp := by
  funext x; unfold Pool.hp Pool.put Hp.join Hp.one
  by_cases e : x = b
  · subst e; simp
  · simp [e]

end Sx
end Go.Proofs.YtnegocgblmdihaaGreatDoor

/-
  Blocks as plain data, heaps of named blocks, and when a world holds such a heap.
-/
namespace Go.Proofs.YtnegocgblmdihaaGreatDoor
namespace Sx
open Go

/-- How an element of a row lies in cells. -/
structure Enc (α : Type) where
  w : Nat
  agg : Bool
  enc : α → List AV
  dec : List AV → Option α
  dflt : α
  len : ∀ a, (enc a).length = w
  back : ∀ cs a, dec cs = some a → ∀ r vs, relL r cs vs → relL r (enc a) vs
  one : ∀ a r vs, relL r (enc a) vs → ∀ v ∈ vs, v.oneCell' = true
  pos : 0 < w

/-- The kinds of elements and of closed things. -/
structure Uni where
  K : Type
  dk : DecidableEq K
  El : K → Type
  enc : (k : K) → Enc (El k)
  O : Type
  D : O → Nat → Hp → Prop

inductive Blk (U : Uni) where
  | cells (T : Nat) (cs : List AV)
  | arr (T : Nat) (k : U.K) (xs : List (U.El k)) (sp : Nat)
  | ro (k : U.K) (xs : List (U.El k))
  | mp (kk : IntKind) (k : U.K) (m : List (Int × U.El k))
  | obj (x : U.O)
  | pool (p : Pool)
  | rpool (f : RPool)

def relV (agg : Bool) (r : Nm) (cs : List AV) (v : Value) : Prop :=
  match agg with
  | true => ∃ vs, relL r cs vs ∧ v = .agg vs.toArray
  | false => relL r cs [v]

def relM {α : Type} (E : Enc α) (kk : IntKind) (r : Nm) : List (Int × α) → List MapEntry → Prop
  | [], es => es = []
  | (n, x) :: m, es => ∃ e fs, es = e :: fs ∧ e.key = .int kk n ∧ relV E.agg r (E.enc x) e.val ∧ relM E kk r m fs

def rowAt {α : Type} (E : Enc α) (r : Nm) (xs : List α) (c : Array Value) (o : Nat) : Prop :=
  ∀ i x, xs[i]? = some x → relL r (E.enc x) ((c.toList.drop (o + i * E.w)).take E.w)

section
variable {U : Uni}

def Blk.den (G : Hp) (r : Nm) (id : Nat) : Blk U → Hp → Prop
  | .cells T cs, H => ∃ b vs, r id = some (b, 0) ∧ relL r cs vs ∧ H = Hp.one b (.cells vs.toArray T (0, 0))
  | .arr T k xs sp, H => (xs.length + sp = 0 ∧ H = Hp.nil) ∨ ∃ b c, r id = some (b, 0) ∧ rowAt (U.enc k) r xs c 0 ∧ c.size = (xs.length + sp) * (U.enc k).w ∧ xs.length + sp ≤ maxLen ∧ H = Hp.one b (.cells c T (0, 0))
  | .ro k xs, H => (∀ i x, xs[i]? = some x → ∃ b o c T fz, r id = some (b, o) ∧ G b = some (.cells c T fz) ∧ relL r ((U.enc k).enc x) ((c.toList.drop (o + i * (U.enc k).w)).take (U.enc k).w)) ∧ H = Hp.nil
  | .mp kk k m, H => ∃ b es clock, r id = some (b, 0) ∧ relM (U.enc k) kk r m es.toList ∧ MapKept.Stamped es clock ∧ H = Hp.one b (.map es clock)
  | .obj x, H => ∃ b, r id = some (b, 0) ∧ U.D x b H
  | .pool p, H => H = p.hp
  | .rpool f, H => f.inG G ∧ H = Hp.nil

theorem relV_mono {agg : Bool} {r s : Nm} (h : r.le s) {cs : List AV} {v : Value} (e : relV agg r cs v) : relV agg s cs v := by
  cases agg
  · exact relL_mono h _ _ e
  · obtain ⟨vs, k, l⟩ := e; exact ⟨vs, relL_mono h _ _ k, l⟩
theorem relM_mono {α : Type} {E : Enc α} {kk : IntKind} {r s : Nm} (h : r.le s) : ∀ {m : List (Int × α)} {es : List MapEntry}, relM E kk r m es → relM E kk s m es
  | [], _, e => e
  | (_, _) :: _, _, ⟨e, fs, a, b, c, d⟩ => ⟨e, fs, a, b, relV_mono h c, relM_mono h d⟩
theorem rowAt_mono {α : Type} {E : Enc α} {r s : Nm} (h : r.le s) {xs : List α} {c : Array Value} {o : Nat} (k : rowAt E r xs c o) : rowAt E s xs c o :=
  fun i x e => relL_mono h _ _ (k i x e)
theorem Blk.den_mono {G : Hp} {r s : Nm} (h : r.le s) {id : Nat} {B : Blk U} {H : Hp} (k : B.den G r id H) : B.den G s id H := by
  cases B with
  | cells T cs => obtain ⟨b, vs, a, b', c⟩ := k; exact ⟨b, vs, h _ _ a, relL_mono h _ _ b', c⟩
  | arr T kk xs sp =>
    rcases k with k | ⟨b, c, a, b', d⟩
    · exact .inl k
    · exact .inr ⟨b, c, h _ _ a, rowAt_mono h b', d⟩
  | ro kk xs =>
    obtain ⟨a, b⟩ := k
    exact ⟨fun i x e => let ⟨b, o, c, T, fz, a1, a2, a3⟩ := a i x e; ⟨b, o, c, T, fz, h _ _ a1, a2, relL_mono h _ _ a3⟩, b⟩
  | mp kk kx m => obtain ⟨b, es, cl, a, b', s, c⟩ := k; exact ⟨b, es, cl, h _ _ a, relM_mono h b', s, c⟩
  | obj x => obtain ⟨b, a, c⟩ := k; exact ⟨b, h _ _ a, c⟩
  | pool p => exact k
  | rpool f => exact k

abbrev Heap (U : Uni) := List (Nat × Blk U)

def Heap.get : Heap U → Nat → Option (Blk U)
  | [], _ => none
  | (i, b) :: h, id => bif Nat.beq i id then some b else Heap.get h id
def Heap.set : Heap U → Nat → Blk U → Heap U
  | [], _, _ => []
  | (i, b) :: h, id, c => bif Nat.beq i id then (i, c) :: h else (i, b) :: Heap.set h id c
def Heap.del : Heap U → Nat → Heap U
  | [], _ => []
  | (i, b) :: h, id => bif Nat.beq i id then h else (i, b) :: Heap.del h id

def Heap.den (G : Hp) (r : Nm) : Heap U → Hp → Prop
  | [], H => H = Hp.nil
  | (id, B) :: h, H => ∃ H1 H2, B.den G r id H1 ∧ Heap.den G r h H2 ∧ H1.apart H2 ∧ H = H1.join H2

theorem Heap.den_mono {G : Hp} {r s : Nm} (h : r.le s) : ∀ {hp : Heap U} {H : Hp}, hp.den G r H → hp.den G s H
  | [], _, e => e
  | (_, _) :: _, _, ⟨H1, H2, a, b, c, d⟩ => ⟨H1, H2, Blk.den_mono h a, Heap.den_mono h b, c, d⟩

/-- The block of a name, apart from the rest. -/
theorem Heap.focus {G : Hp} {r : Nm} {id : Nat} {B : Blk U} : ∀ {h : Heap U} {H : Hp}, h.den G r H → h.get id = some B →
    ∃ H1 H2, B.den G r id H1 ∧ H1.apart H2 ∧ H = H1.join H2 ∧ (h.del id).den G r H2 ∧
      ∀ (s : Nm) (B' : Blk U) (H1' : Hp), r.le s → B'.den G s id H1' → H1'.apart H2 → (h.set id B').den G s (H1'.join H2)
  | [], _, _, e => by simp [Heap.get] at e
  | (i, C) :: h, H, ⟨H1, H2, a, b, c, d⟩, e => by
    unfold Heap.get at e
    cases hi : Nat.beq i id with
    | true =>
      rw [hi] at e; simp at e; subst e
      have : i = id := Nat.eq_of_beq_eq_true hi
      subst this
      refine ⟨H1, H2, a, c, d, by simp [Heap.del]; exact b, fun s B' H1' hs hB ha => ?_⟩
      unfold Heap.set; rw [hi]; exact ⟨H1', H2, hB, Heap.den_mono hs b, ha, rfl⟩
    | false =>
      rw [hi] at e; simp at e
      obtain ⟨K1, K2, p1, p2, p3, p4, p5⟩ := Heap.focus b e
      subst p3; subst d
      have q := Hp.apart_join.1 c
      refine ⟨K1, H1.join K2, p1, Hp.apart_join.2 ⟨q.1.symm, p2⟩, ?_, ?_, ?_⟩
      · rw [← Hp.join_assoc, Hp.join_comm q.1, Hp.join_assoc]
      · unfold Heap.del; rw [hi]; exact ⟨H1, K2, a, p4, q.2, rfl⟩
      · intro s B' K1' hs hB ha
        have q' := Hp.apart_join.1 ha
        unfold Heap.set; rw [hi]
        refine ⟨H1, K1'.join K2, Blk.den_mono hs a, p5 s B' K1' hs hB q'.2, Hp.apart_join.2 ⟨q'.1.symm, q.2⟩, ?_⟩
        rw [← Hp.join_assoc, Hp.join_comm q'.1, Hp.join_assoc]

/-! ## worlds -/
/-- What stays: memory that is none of ours, and the streams. -/
structure Base where
  G : Hp
  os : Os
  output : Array (Nat × ByteArray)
  tape : Nat → Question → Nat

structure Base.met (β : Base) (w : World) : Prop where
  os : w.os = β.os
  output : w.output = β.output
  tape : w.tape = β.tape
  G : β.G.inW w

def Sat (β : Base) (r : Nm) (h : Heap U) (w : World) : Prop := β.met w ∧ ∃ H, h.den β.G r H ∧ H.apart β.G ∧ H.inW w

theorem Sat.mono {β : Base} {r s : Nm} (h : r.le s) {hp : Heap U} {w : World} (k : Sat β r hp w) : Sat β s hp w :=
  let ⟨a, H, b, c⟩ := k; ⟨a, H, Heap.den_mono h b, c⟩
theorem Sat.drew {β : Base} {r : Nm} {hp : Heap U} {w : World} (k : Sat β r hp w) : Sat β r hp w.drew := by
  obtain ⟨a, H, b, c, d⟩ := k
  exact ⟨⟨a.os, a.output, a.tape, a.G⟩, H, b, c, d⟩

theorem heap_old {w : World} {o : Obj} {A : Hp} (h : A.inW w) : A.inW (w.alloc o) := fun x o' e => by
  rw [Go.RowKit.Below.heap_alloc w o x (Hp.lt h e)]; exact h x o' e

/-- A new block under a new name. -/
theorem Sat.new {β : Base} {r : Nm} {hp : Heap U} {w : World} (k : Sat β r hp w) {id : Nat} (hid : r id = none) {B : Blk U} {o : Obj}
    (hB : B.den β.G (r.put id (w.heap.size, 0)) id (Hp.one w.heap.size o)) : Sat β (r.put id (w.heap.size, 0)) ((id, B) :: hp) (w.alloc o) := by
  obtain ⟨a, H, b, c, d⟩ := k
  have hn : ∀ {A : Hp}, A.inW w → A w.heap.size = none := fun {A} hA => by
    cases e : A w.heap.size with
    | none => rfl
    | some o' => exact absurd (Hp.lt hA e) (Nat.lt_irrefl _)
  refine ⟨⟨a.os, a.output, a.tape, heap_old a.G⟩, (Hp.one w.heap.size o).join H, ⟨_, H, hB, Heap.den_mono (Nm.le_put hid) b, Hp.one_apart.2 (hn d), rfl⟩, ?_, ?_⟩
  · exact Hp.join_apart.2 ⟨Hp.one_apart.2 (hn a.G), c⟩
  · exact (Hp.inW_join (Hp.one_apart.2 (hn d))).2 ⟨Hp.inW_one.2 (heap_alloc_new w o), heap_old d⟩

/-- One block of ours written anew. -/
theorem Sat.write {β : Base} {r : Nm} {hp : Heap U} {w w' : World} (k : Sat β r hp w) {id : Nat} {B B' : Blk U} (hg : hp.get id = some B)
    {b : Nat} (o' : Obj) (hone : ∀ H1, B.den β.G r id H1 → ∃ o, H1 = Hp.one b o)
    (hB : B'.den β.G r id (Hp.one b o')) (hw : w'.heap[b]? = some o') (hs : ∀ x, x ≠ b → w'.heap[x]? = w.heap[x]?)
    (h1 : w'.os = w.os) (h2 : w'.output = w.output) (h3 : w'.tape = w.tape) : Sat β r (hp.set id B') w' := by
  obtain ⟨a, H, p, c, d⟩ := k
  obtain ⟨H1, H2, q1, q2, q3, _, q5⟩ := Heap.focus p hg
  obtain ⟨o, rfl⟩ := hone H1 q1
  subst q3
  have c' := Hp.join_apart.1 c
  have ap : (Hp.one b o').apart H2 := Hp.one_apart.2 (Hp.one_apart.1 q2)
  have apG : (Hp.one b o').apart β.G := Hp.one_apart.2 (Hp.one_apart.1 c'.1)
  have d' := (Hp.inW_join q2).1 d
  have keep : ∀ {A : Hp}, A.inW w → A b = none → A.inW w' := fun {A} hA hb x o e => by
    rw [hs x (fun hx => by rw [hx, hb] at e; cases e)]; exact hA x o e
  refine ⟨⟨h1.trans a.os, h2.trans a.output, h3.trans a.tape, keep a.G (Hp.one_apart.1 c'.1)⟩, (Hp.one b o').join H2, q5 r B' _ (Nm.le.refl r) hB ap, ?_, ?_⟩
  · exact Hp.join_apart.2 ⟨apG, c'.2⟩
  · exact (Hp.inW_join ap).2 ⟨Hp.inW_one.2 hw, keep d'.2 (Hp.one_apart.1 q2)⟩

/-- Reading a block of ours. -/
theorem Sat.at {β : Base} {r : Nm} {hp : Heap U} {w : World} (k : Sat β r hp w) {id : Nat} {B : Blk U} (hg : hp.get id = some B) :
    ∃ H1, B.den β.G r id H1 ∧ H1.inW w ∧ β.G.inW w := by
  obtain ⟨a, H, p, c, d⟩ := k
  obtain ⟨H1, H2, q1, q2, q3, _, _⟩ := Heap.focus p hg
  subst q3
  exact ⟨H1, q1, ((Hp.inW_join q2).1 d).1, a.G⟩

theorem Sat.del {β : Base} {r : Nm} {hp : Heap U} {w : World} (k : Sat β r hp w) {id : Nat} {B : Blk U} (hg : hp.get id = some B) : Sat β r (hp.del id) w := by
  obtain ⟨a, H, p, c, d⟩ := k
  obtain ⟨H1, H2, q1, q2, q3, q4, _⟩ := Heap.focus p hg
  subst q3
  exact ⟨a, H2, q4, (Hp.join_apart.1 c).2, ((Hp.inW_join q2).1 d).2⟩

end
end Sx
end Go.Proofs.YtnegocgblmdihaaGreatDoor

/-
  What comes of a run (a tree of ways), the table of types, and operations that only read: what they tell, and that the model tells the same.
-/
namespace Go.Proofs.YtnegocgblmdihaaGreatDoor
namespace Sx
open Go

inductive EX where
  | nx | rt | ex (id : Nat)

structure St (U : Uni) where
  env : List (Nat × AV)
  heap : Heap U
  nx : Nat
  nt : Nat
  tl : List Nat

inductive Out (U : Uni) : Type 1 where
  | fin (v : AV) (h : Heap U) (n : Nat)
  | stop (e : EX) (s : St U)
  | ite (b : Bool) (t e : Out U)
  | need (p : Prop) (k : Out U)
  | needd (p : Prop) [d : Decidable p] (k : Out U)
  | same (a b : Nat) (k : Out U)
  | asm (p : Prop) (k : Out U)
  | all (β : Type) (f : β → Out U)
  | ex (β : Type) (f : β → Out U)
  | both (a b : Out U)
  | maybe (b : Bool) (t e : Out U)
  | bad (n : Nat)

structure Goal (U : Uni) where
  Q : EX → St U → Prop
  F : AV → Heap U → Nat → Prop

section
variable {U : Uni}

def Out.holds (M : Goal U) : Out U → Prop
  | .fin v h n => M.F v h n
  | .stop e s => M.Q e s
  | .ite b t e => (b = true → t.holds M) ∧ (b = false → e.holds M)
  | .need p k => p ∧ k.holds M
  | @Out.needd _ p _ k => p ∧ k.holds M
  | .same a b k => a = b ∧ k.holds M
  | .asm p k => p → k.holds M
  | .all _ f => ∀ x, (f x).holds M
  | .ex _ f => ∃ x, (f x).holds M
  | .both a b => a.holds M ∧ b.holds M
  | .maybe b t e => (b = true → t.holds M) ∧ e.holds M
  | .bad _ => False

/-! ## the table of types -/
inductive TK where
  | int (k : IntKind) | bool | str | ptr (e : Nat) | slice (e : Nat) | array (n e : Nat) | struct (fs : List (Nat × Nat)) | map (k e : Nat) | iface | func | other

structure TyRow where
  kind : TK
  size : Nat
  bytes : Nat
  zero : List AV
  cmp : Bool
  pool : Bool
  meths : List (String × Nat)
  quick : Bool

def TK.agg : TK → Bool
  | .array .. | .struct .. => true
  | _ => false

def TK.met (P : Program) (t : Nat) : TK → Prop
  | .int k => P.underlying t = some (.int k)
  | .bool => P.underlying t = some .bool
  | .str => P.underlying t = some .string
  | .ptr e => P.underlying t = some (.pointer e)
  | .slice e => P.underlying t = some (.slice e)
  | .array n e => P.underlying t = some (.array n e)
  | .struct fs => ∃ fields, P.underlying t = some (.struct fields) ∧ fields.toList.map (fun f => (f.offset, f.type)) = fs
  | .map k e => P.underlying t = some (.map k e)
  | .iface => ∃ ms, P.underlying t = some (.interface ms)
  | .func => ∃ a b c, P.underlying t = some (.func a b c)
  | .other => ∃ d, P.underlying t = some d ∧ (match d with | .struct _ | .array _ _ => False | _ => True)

structure TyRow.met (P : Program) (t : Nat) (R : TyRow) : Prop where
  kind : R.kind.met P t
  info : ∃ i z, P.info? t = some i ∧ i.size = R.size ∧ i.bytes = R.bytes ∧ i.zero = some z ∧ z.cells.size = R.size ∧ relV R.kind.agg (fun _ => none) R.zero z ∧ relL (fun _ => none) R.zero z.cells.toList
  cmp : R.cmp = true → P.stoodInHeld t = false ∧ P.eqGuardType P.depth t = false ∧ ∀ fields, P.underlying t = some (.struct fields) → ∀ f ∈ fields.toList, f.name ≠ "_"
  meths : ∀ q ∈ R.meths, ∀ (v : Value) (w : World), (Go.method (P.types.size + Made.depth) t v q.1).run P w = .ok (q.2, v) w

abbrev Tab := Nat → Option TyRow
def Tab.met (P : Program) (τ : Tab) : Prop := ∀ t R, τ t = some R → R.met P t

/-! ## numbers and truths among the values -/
def AV.num : AV → Option (IntKind × Int × Bool)
  | .int k n => some (k, n, false)
  | .lit k n => some (k, n, true)
  | _ => none
def AV.bl : AV → Option (Bool × Bool)
  | .tt => some (true, true)
  | .ff => some (false, true)
  | .bool b => some (b, false)
  | _ => none
def mkInt (l : Bool) (k : IntKind) (n : Int) : AV := bif l then .lit k n else .int k n
def mkBool (l : Bool) (b : Bool) : AV := bif l then (bif b then .tt else .ff) else .bool b
theorem rel_mkInt {r : Nm} {l : Bool} {k : IntKind} {n : Int} {v : Value} : rel r (mkInt l k n) v ↔ v = .int k n := by cases l <;> simp [mkInt, rel]
theorem rel_mkBool {r : Nm} {l b : Bool} {v : Value} : rel r (mkBool l b) v ↔ v = .bool b := by cases l <;> cases b <;> simp [mkBool, rel]
theorem rel_num {r : Nm} {x : AV} {k : IntKind} {n : Int} {l : Bool} (h : x.num = some (k, n, l)) {v : Value} (e : rel r x v) : v = .int k n := by
  cases x <;> simp [AV.num] at h <;> obtain ⟨rfl, rfl, rfl⟩ := h <;> simpa [rel] using e
theorem rel_bl {r : Nm} {x : AV} {b l : Bool} (h : x.bl = some (b, l)) {v : Value} (e : rel r x v) : v = .bool b := by
  cases x <;> simp [AV.bl] at h <;> obtain ⟨rfl, rfl⟩ := h <;> simpa [rel] using e

def cellAV : Value → AV
  | .int k n => .lit k n
  | .bool true => .tt
  | .bool false => .ff
  | .pointer none => .nilP
  | .slice none 0 0 => .nilS
  | .map none => .nilM
  | .nilIface => .nilI
  | .nilFunc => .nilF
  | v => .raw v
def constAV : Value → AV
  | .agg cs => .agg (cs.toList.map cellAV)
  | v => cellAV v
theorem rel_cellAV (r : Nm) (v : Value) : rel r (cellAV v) v := by
  unfold cellAV; split <;> simp [rel]
theorem relL_cellAV (r : Nm) : ∀ l : List Value, relL r (l.map cellAV) l
  | [] => relL_nil
  | v :: l => relL_cons.2 ⟨rel_cellAV r v, relL_cellAV r l⟩
theorem rel_constAV (r : Nm) (v : Value) : rel r (constAV v) v := by
  unfold constAV; split
  · exact ⟨_, relL_cellAV r _, by simp⟩
  · exact rel_cellAV r v

/-! ## binary operations -/
def bitsOp (op : BinOp) (k : IntKind) (x y : Int) : Int :=
  let a := BitVec.ofInt k.bits x
  let b := BitVec.ofInt k.bits y
  match op with
  | .and => k.wrap (a &&& b).toNat
  | .or => k.wrap (a ||| b).toNat
  | .xor => k.wrap (a ^^^ b).toNat
  | _ => k.wrap (a &&& ~~~b).toNat

def evalBin (op : BinOp) (x y : AV) (K : AV → Out U) : Out U :=
  match x.num, y.num with
  | some (k, a, la), some (k', b, lb) =>
    match op with
    | .shl => bif la && lb then (bif decide (b < 0) then .bad 1 else K (.lit k (k.wrap (a * 2 ^ (min b.toNat k.bits))))) else .needd (0 ≤ b) (K (.int k (k.wrap (a * 2 ^ (min b.toNat k.bits)))))
    | .shr => bif la && lb then (bif decide (b < 0) then .bad 1 else K (.lit k (a.fdiv (2 ^ (min b.toNat k.bits))))) else .needd (0 ≤ b) (K (.int k (a.fdiv (2 ^ (min b.toNat k.bits)))))
    | .quo => bif decide (k = k') then (bif lb then (bif decide (b = 0) then .bad 2 else K (mkInt la k (k.wrap (a.tdiv b)))) else .needd (b ≠ 0) (K (.int k (k.wrap (a.tdiv b))))) else .bad 3
    | .rem => bif decide (k = k') then (bif lb then (bif decide (b = 0) then .bad 2 else K (mkInt la k (a.tmod b))) else .needd (b ≠ 0) (K (.int k (a.tmod b)))) else .bad 3
    | .add => bif decide (k = k') then K (mkInt (la && lb) k (k.wrap (a + b))) else .bad 3
    | .sub => bif decide (k = k') then K (mkInt (la && lb) k (k.wrap (a - b))) else .bad 3
    | .mul => bif decide (k = k') then K (mkInt (la && lb) k (k.wrap (a * b))) else .bad 3
    | .eql => bif decide (k = k') then K (mkBool (la && lb) (a == b)) else .bad 3
    | .neq => bif decide (k = k') then K (mkBool (la && lb) (a != b)) else .bad 3
    | .lss => bif decide (k = k') then K (mkBool (la && lb) (decide (a < b))) else .bad 3
    | .leq => bif decide (k = k') then K (mkBool (la && lb) (decide (a ≤ b))) else .bad 3
    | .gtr => bif decide (k = k') then K (mkBool (la && lb) (decide (a > b))) else .bad 3
    | .geq => bif decide (k = k') then K (mkBool (la && lb) (decide (a ≥ b))) else .bad 3
    | .and => bif decide (k = k') then K (mkInt (la && lb) k (bitsOp .and k a b)) else .bad 3
    | .or => bif decide (k = k') then K (mkInt (la && lb) k (bitsOp .or k a b)) else .bad 3
    | .xor => bif decide (k = k') then K (mkInt (la && lb) k (bitsOp .xor k a b)) else .bad 3
    | .andNot => bif decide (k = k') then K (mkInt (la && lb) k (bitsOp .andNot k a b)) else .bad 3
  | _, _ => .bad 5

theorem holds_bif {M : Goal U} {b : Bool} {x y : Out U} : (bif b then x else y).holds M ↔ if b = true then x.holds M else y.holds M := by cases b <;> simp

theorem evalBin_sound {M : Goal U} {op : BinOp} {x y : AV} {K : AV → Out U} (h : (evalBin op x y K).holds M) :
    ∃ v, (K v).holds M ∧ ∀ (P : Program) (r : Nm) (w : World) (T : Nat) (u u' : Value) (p q : Operand), rel r x u → rel r y u' →
      ∃ z, (do eqGuard op T p q u u'; binOp op T u u' : Sem Value).run P w = .ok z w ∧ rel r v z := by
  unfold evalBin at h
  split at h
  · rename_i k a la k' b lb hx hy
    cases op <;> simp only [holds_bif, Out.holds] at h <;>
      first
        | (exact h.elim)
        | (split at h
           · rename_i hk
             first
               | (simp only [decide_eq_true_eq] at hk; subst hk
                  first
                    | (refine ⟨_, h, fun P r w T u u' p q hu hu' => ?_⟩
                       have e1 := rel_num hx hu; have e2 := rel_num hy hu'; subst e1; subst e2
                       exact ⟨_, by simp [eqGuard, binOp, Op.intArith, Op.intCmp, Op.intBits]; rfl, by simp [rel_mkInt, rel_mkBool, bitsOp]⟩)
                    | (split at h
                       · split at h
                         · exact h.elim
                         · rename_i hb
                           simp only [decide_eq_true_eq] at hb
                           refine ⟨_, h, fun P r w T u u' p q hu hu' => ?_⟩
                           have e1 := rel_num hx hu; have e2 := rel_num hy hu'; subst e1; subst e2
                           exact ⟨_, by simp [eqGuard, binOp, Op.intDiv, hb]; rfl, by simp [rel_mkInt]⟩
                       · obtain ⟨hb, h⟩ := h
                         refine ⟨_, h, fun P r w T u u' p q hu hu' => ?_⟩
                         have e1 := rel_num hx hu; have e2 := rel_num hy hu'; subst e1; subst e2
                         exact ⟨_, by simp [eqGuard, binOp, Op.intDiv, hb]; rfl, by simp [rel]⟩))
               | (split at h
                  · exact h.elim
                  · rename_i hb
                    simp only [decide_eq_true_eq] at hb
                    refine ⟨_, h, fun P r w T u u' p q hu hu' => ?_⟩
                    have e1 := rel_num hx hu; have e2 := rel_num hy hu'; subst e1; subst e2
                    exact ⟨_, by simp [eqGuard, binOp, Op.shift, hb]; rfl, by simp [rel]⟩)
           · first
               | (exact h.elim)
               | (obtain ⟨hb, h⟩ := h
                  refine ⟨_, h, fun P r w T u u' p q hu hu' => ?_⟩
                  have e1 := rel_num hx hu; have e2 := rel_num hy hu'; subst e1; subst e2
                  exact ⟨_, by simp [eqGuard, binOp, Op.shift, Int.not_lt.2 hb]; rfl, by simp [rel]⟩))
  · exact h.elim

end
end Sx
end Go.Proofs.YtnegocgblmdihaaGreatDoor

/-
  Operations that only read (what they tell, out of what is known), and that the model tells the same.
-/
namespace Go.Proofs.YtnegocgblmdihaaGreatDoor
namespace Sx
open Go

section
variable {U : Uni} {P : Program} {τ : Tab}

theorem run_isAgg {t : Nat} {R : TyRow} (h : R.met P t) (w : World) : (isAgg t).run P w = .ok R.kind.agg w := by
  have k := h.kind
  unfold isAgg
  cases hk : R.kind <;> rw [hk] at k <;> simp only [TK.met] at k <;>
    first
      | (simp [run_underlying k, TK.agg]; done)
      | (obtain ⟨fs, k, _⟩ := k; simp [run_underlying k, TK.agg]; done)
      | (obtain ⟨ms, k⟩ := k; simp [run_underlying k, TK.agg]; done)
      | (obtain ⟨a, b, c, k⟩ := k; simp [run_underlying k, TK.agg]; done)
      | (obtain ⟨d, k, hd⟩ := k; simp only [Sem.run_bind, run_underlying k, Result.andThen_ok]; cases d <;> simp_all [TK.agg])
theorem run_sizeOf {t : Nat} {R : TyRow} (h : R.met P t) (w : World) : (sizeOf t).run P w = .ok R.size w := by
  obtain ⟨i, z, hi, hs, _⟩ := h.info
  simp [sizeOf, typeInfo, hi, hs]

def partAV (τ : Tab) (t : Nat) (cs : List AV) (off : Nat) : Option AV :=
  match τ t with
  | some R => bif R.kind.agg then (bif Nat.ble (off + R.size) cs.length then some (.agg ((cs.drop off).take R.size)) else none) else cs[off]?
  | none => none
theorem partAV_sound (hτ : τ.met P) {t : Nat} {cs : List AV} {off : Nat} {x : AV} (h : partAV τ t cs off = some x) {r : Nm} {vs : List Value} (hr : relL r cs vs) (w : World) :
    ∃ v, (part t vs.toArray off).run P w = .ok v w ∧ rel r x v := by
  unfold partAV at h
  cases hR : τ t with
  | none => rw [hR] at h; simp at h
  | some R =>
    rw [hR] at h; simp only at h
    have hm := hτ t R hR
    unfold part
    simp only [Sem.run_bind, run_isAgg hm, Result.andThen_ok]
    cases ha : R.kind.agg with
    | true =>
      rw [ha] at h; simp only [cond_true] at h
      cases hb : Nat.ble (off + R.size) cs.length with
      | false => rw [hb] at h; simp at h
      | true =>
        rw [hb] at h; simp at h; subst h
        refine ⟨_, by simp [run_sizeOf hm]; rfl, ⟨_, relL_take (relL_drop hr off) R.size, ?_⟩⟩
        simp [List.take_drop]
    | false =>
      rw [ha] at h; simp only [cond_false] at h
      obtain ⟨u, hu, hru⟩ := relL_get hr h
      exact ⟨u, by simp [hu], hru⟩

/-! ## equality -/
def eqOne (x y : AV) : Option (Bool × Bool) :=
  match x.num, y.num with
  | some (k, a, la), some (k', b, lb) => bif decide (k = k') then some (a == b, la && lb) else none
  | _, _ => match x.bl, y.bl with
    | some (a, la), some (b, lb) => some (a == b, la && lb)
    | _, _ => none

def cellsAV : AV → List AV
  | .agg cs => cs
  | x => [x]

def eqAV (τ : Tab) : Nat → Nat → AV → AV → Option (Bool × Bool)
  | 0, _, _, _ => none
  | n + 1, t, x, y =>
    match τ t with
    | none => none
    | some R =>
      match R.kind with
      | .int _ => match x.num, y.num with
        | some (k, a, la), some (k', b, lb) => bif decide (k = k') then some (a == b, la && lb) else none
        | _, _ => none
      | .bool => match x.bl, y.bl with
        | some (a, la), some (b, lb) => some (a == b, la && lb)
        | _, _ => none
      | .struct fs => bif R.cmp then (match x, y with
        | .agg xs, .agg ys => fs.foldr (fun f acc => match partAV τ f.2 xs f.1, partAV τ f.2 ys f.1, acc with
            | some a, some b, some (c, lc) => (match eqAV τ n f.2 a b with | some (d, ld) => some (d && c, ld && lc) | none => none)
            | _, _, _ => none) (some (true, true))
        | _, _ => none) else none
      | .array m e => bif R.cmp then (match x, y, τ e with
        | .agg xs, .agg ys, some RE => (List.range m).foldr (fun i acc => match partAV τ e xs (i * RE.size), partAV τ e ys (i * RE.size), acc with
            | some a, some b, some (c, lc) => (match eqAV τ n e a b with | some (d, ld) => some (d && c, ld && lc) | none => none)
            | _, _, _ => none) (some (true, true))
        | _, _, _ => none) else none
      | _ => none

theorem eqAV_sound (hτ : τ.met P) : ∀ (n t : Nat) (x y : AV) (b l : Bool), eqAV τ n t x y = some (b, l) → ∀ (r : Nm) (u v : Value), rel r x u → rel r y v → ∀ (d : Nat) (w : World), n ≤ d →
    (Op.equalIn d t u v).run P w = .ok b w := by
  intro n
  induction n with
  | zero => intro t x y b l h; simp [eqAV] at h
  | succ n ih =>
    intro t x y b l h r u v hu hv d w hd
    obtain ⟨d, rfl⟩ : ∃ e, d = e + 1 := ⟨d - 1, by omega⟩
    simp only [eqAV] at h
    cases hR : τ t with
    | none => rw [hR] at h; simp at h
    | some R =>
      rw [hR] at h; simp only at h
      have hm := hτ t R hR
      have hk := hm.kind
      cases hK : R.kind <;> rw [hK] at h hk <;> simp only [TK.met] at hk <;> simp only at h <;> try (simp at h; done)
      · -- int
        split at h
        · rename_i k a la k' b' lb hx hy
          have e1 := rel_num hx hu; have e2 := rel_num hy hv
          subst e1; subst e2
          cases hkk : decide (k = k') with
          | false => rw [hkk] at h; simp at h
          | true =>
            simp only [decide_eq_true_eq] at hkk; subst hkk
            simp at h
            rw [run_equalIn_int w d t k _ a b' hk, ← h.1]
        · simp at h
      · split at h
        · rename_i a la b' lb hx hy
          have e1 := rel_bl hx hu; have e2 := rel_bl hy hv
          subst e1; subst e2
          simp at h
          rw [run_equalIn_bool w d t a b' hk, ← h.1]
        · simp at h
      · rename_i m e
        cases hc : R.cmp with
        | false => rw [hc] at h; simp at h
        | true =>
          rw [hc] at h; simp only [cond_true] at h
          split at h
          · rename_i xs ys RE hRE
            obtain ⟨us, hus, rfl⟩ := hu
            obtain ⟨vs, hvs, rfl⟩ := hv
            obtain ⟨ie, ze, hie, hsz, _⟩ := (hτ e RE hRE).info
            have hcell : P.cellsOf e = RE.size := by simp [Program.cellsOf, hie, hsz]
            rw [run_equalIn_array w d _ _ hk hie, hcell]
            generalize List.range m = is at h
            induction is generalizing b l with
            | nil => simp at h; obtain ⟨rfl, _⟩ := h; rfl
            | cons i is ihl =>
              simp only [List.foldr_cons] at h
              split at h
              · rename_i a1 b1 c lc ha hb hacc
                split at h
                · rename_i d1 ld he
                  simp only [Option.some.injEq, Prod.mk.injEq] at h
                  obtain ⟨rfl, _⟩ := h
                  obtain ⟨p1, hp1, hq1⟩ := partAV_sound hτ ha hus w
                  obtain ⟨p2, hp2, hq2⟩ := partAV_sound hτ hb hvs w
                  have hrun := ih _ _ _ _ _ he r p1 p2 hq1 hq2 d w (by omega)
                  simp only [Op.eqItems, Sem.run_bind, hp1, hp2, hrun, Result.andThen_ok]
                  cases d1
                  · simp
                  · simp only [Bool.not_true, Bool.false_eq_true, if_false, Bool.true_and]
                    exact ihl _ _ hacc
                · simp at h
              · simp at h
          · simp at h
      · rename_i fs
        cases hc : R.cmp with
        | false => rw [hc] at h; simp at h
        | true =>
          rw [hc] at h; simp only [cond_true] at h
          obtain ⟨hs1, _, hs3⟩ := hm.cmp hc
          obtain ⟨fields, hf, hmap⟩ := hk
          split at h
          · rename_i xs ys
            obtain ⟨us, hus, rfl⟩ := hu
            obtain ⟨vs, hvs, rfl⟩ := hv
            have hfo : P.fieldsOf t = fields := by simp [Program.fieldsOf, hf]
            rw [run_equalIn_struct w d t _ _ (by rw [hfo]; exact hf) hs1, hfo]
            have hn := hs3 fields hf
            rw [← hmap] at h
            clear hmap hfo hf hs3
            generalize fields.toList = fl at h hn
            induction fl generalizing b l with
            | nil => simp at h; obtain ⟨rfl, _⟩ := h; rfl
            | cons f fl ihl =>
              simp only [List.map_cons, List.foldr_cons] at h
              split at h
              · rename_i a1 b1 c lc ha hb hacc
                split at h
                · rename_i d1 ld he
                  simp only [Option.some.injEq, Prod.mk.injEq] at h
                  obtain ⟨rfl, _⟩ := h
                  obtain ⟨p1, hp1, hq1⟩ := partAV_sound hτ ha hus w
                  obtain ⟨p2, hp2, hq2⟩ := partAV_sound hτ hb hvs w
                  have hrun := ih _ _ _ _ _ he r p1 p2 hq1 hq2 d w (by omega)
                  simp only [Op.eqFields, if_pos (hn f (by simp)), Sem.run_bind, hp1, hp2, hrun, Result.andThen_ok]
                  cases d1
                  · simp
                  · simp only [Bool.not_true, Bool.false_eq_true, if_false, Bool.true_and]
                    exact ihl _ _ hacc (fun g hg => hn g (by simp [hg]))
                · simp at h
              · simp at h
          · simp at h

theorem eqAV_struct {n T : Nat} {R : TyRow} {fs : List (Nat × Nat)} (hR : τ T = some R) (hK : R.kind = .struct fs) {x y : AV} {z : Bool × Bool} (h : eqAV τ (n + 1) T x y = some z) :
    R.cmp = true ∧ ∃ xs ys, x = .agg xs ∧ y = .agg ys := by
  simp only [eqAV, hR, hK] at h
  cases hcm : R.cmp with
  | false => rw [hcm] at h; simp at h
  | true =>
    rw [hcm] at h; simp only [cond_true] at h
    split at h
    · exact ⟨rfl, _, _, rfl, rfl⟩
    · simp at h
theorem eqAV_array {n T : Nat} {R : TyRow} {m e : Nat} (hR : τ T = some R) (hK : R.kind = .array m e) {x y : AV} {z : Bool × Bool} (h : eqAV τ (n + 1) T x y = some z) :
    R.cmp = true ∧ ∃ xs ys, x = .agg xs ∧ y = .agg ys := by
  simp only [eqAV, hR, hK] at h
  cases hcm : R.cmp with
  | false => rw [hcm] at h; simp at h
  | true =>
    rw [hcm] at h; simp only [cond_true] at h
    split at h
    · exact ⟨rfl, _, _, rfl, rfl⟩
    · simp at h
theorem eqAV_bool {n T : Nat} {R : TyRow} (hR : τ T = some R) (hK : R.kind = .bool) {x y : AV} {z : Bool × Bool} (h : eqAV τ (n + 1) T x y = some z) :
    ∃ c lc d ld, x.bl = some (c, lc) ∧ y.bl = some (d, ld) := by
  simp only [eqAV, hR, hK] at h
  split at h
  · rename_i a la b lb hx hy; exact ⟨_, _, _, _, hx, hy⟩
  · simp at h

/-- Is it nil, of pointers, slices, maps, functions, interfaces? -/
def AV.isNil : AV → Option Bool
  | .nilP => some true
  | .ptr .. => some false
  | .ptrR .. => some false
  | .nilM => some true
  | .mp _ => some false
  | .nilI => some true
  | .ifc .. => some false
  | .nilF => some true
  | .fn .. => some false
  | _ => none

def AV.isNilP : AV → Bool
  | .nilP => true
  | _ => false
def AV.isNilM : AV → Bool
  | .nilM => true
  | _ => false
def AV.isNilI : AV → Bool
  | .nilI => true
  | _ => false

/-- Equality of what is no number. -/
def evalEql (τ : Tab) (T : Nat) (x y : AV) : Option (Bool × Bool) :=
  match τ T with
  | none => none
  | some R =>
    match R.kind with
    | .bool => eqAV τ 12 T x y
    | .struct _ => eqAV τ 12 T x y
    | .array _ _ => eqAV τ 12 T x y
    | .ptr _ => (match x, y with
      | .nilP, .nilP => some (true, true)
      | .nilP, .ptr .. => some (false, true)
      | .nilP, .ptrR .. => some (false, true)
      | .ptr .., .nilP => some (false, true)
      | .ptrR .., .nilP => some (false, true)
      | _, _ => none)
    | .map _ _ => (match x, y with
      | .nilM, .nilM => some (true, true)
      | .nilM, .mp _ => some (false, true)
      | .mp _, .nilM => some (false, true)
      | _, _ => none)
    | .iface => (match x, y with
      | .ifc .., .nilI => some (false, true)
      | .nilI, .ifc .. => some (false, true)
      | .nilI, .nilI => some (true, true)
      | _, _ => none)
    | .func => (match x, y with
      | .fn .., .nilF => some (false, true)
      | .nilF, .fn .. => some (false, true)
      | .nilF, .nilF => some (true, true)
      | _, _ => none)
    | _ => none

def Operand.isConst : Operand → Bool
  | .const _ => true
  | _ => false

theorem run_both {T : Nat} {u v : Value} {b : Bool} {w : World} {p q : Operand} (g1 : (eqGuard .eql T p q u v).run P w = .ok () w) (g2 : (eqGuard .neq T p q u v).run P w = .ok () w)
    (b1 : binOp .eql T u v = (do pure (.bool (← Op.equal T u v)))) (b2 : binOp .neq T u v = (do pure (.bool (!(← Op.equal T u v)))))
    (he : (Op.equalIn (9999 + 1) T u v).run P w = .ok b w) :
    (do eqGuard .eql T p q u v; binOp .eql T u v : Sem Value).run P w = .ok (.bool b) w ∧ (do eqGuard .neq T p q u v; binOp .neq T u v : Sem Value).run P w = .ok (.bool (!b)) w := by
  have e : (Op.equal T u v).run P w = .ok b w := he
  constructor
  · rw [b1]; simp only [Sem.run_bind, g1, Result.andThen_ok, e, Sem.run_pure]
  · rw [b2]; simp only [Sem.run_bind, g2, Result.andThen_ok, e, Sem.run_pure]

set_option maxHeartbeats 1000000 in
theorem evalEql_sound (hτ : τ.met P) {T : Nat} {x y : AV} {b l : Bool} (h : evalEql τ T x y = some (b, l)) {r : Nm} {u v : Value} (hu : rel r x u) (hv : rel r y v) (w : World) (p q : Operand)
    (hc : Operand.isConst p = true ∨ Operand.isConst q = true ∨ x.isNilI = false ∨ y.isNilI = false) :
    (do eqGuard .eql T p q u v; binOp .eql T u v : Sem Value).run P w = .ok (.bool b) w ∧ (do eqGuard .neq T p q u v; binOp .neq T u v : Sem Value).run P w = .ok (.bool (!b)) w := by
  unfold evalEql at h
  cases hR : τ T with
  | none => rw [hR] at h; simp at h
  | some R =>
    rw [hR] at h; simp only at h
    have hm := hτ T R hR
    have hk := hm.kind
    cases hK : R.kind <;> rw [hK] at h hk <;> simp only [TK.met] at hk <;> simp only at h <;> try (simp at h; done)
    · -- bool
      have he := eqAV_sound hτ 12 T x y b l h r u v hu hv (9999 + 1) w (by omega)
      obtain ⟨c, lc, d, ld, hx, hy⟩ := eqAV_bool (n := 11) hR hK h
      have e1 := rel_bl hx hu; have e2 := rel_bl hy hv
      subst e1; subst e2
      exact run_both rfl rfl rfl rfl he
    · -- ptr
      have key : ∀ (c d : Option Addr) (b : Bool), (c = none ∧ b = d.isNone ∨ d = none ∧ b = c.isNone) → (do eqGuard .eql T p q (.pointer c) (.pointer d); binOp .eql T (.pointer c) (.pointer d) : Sem Value).run P w = .ok (.bool b) w ∧ (do eqGuard .neq T p q (.pointer c) (.pointer d); binOp .neq T (.pointer c) (.pointer d) : Sem Value).run P w = .ok (.bool (!b)) w := by
        intro c d b hh
        refine run_both rfl rfl (by cases c <;> cases d <;> rfl) (by cases c <;> cases d <;> rfl) ?_
        generalize 9999 = n
        rcases hh with ⟨rfl, rfl⟩ | ⟨rfl, rfl⟩
        · cases d <;> simp [Op.equalIn, run_underlying hk]
        · cases c <;> simp [Op.equalIn, run_underlying hk]
      split at h <;> simp at h <;> obtain ⟨rfl, _⟩ := h <;> simp only [rel] at hu hv
      · subst hu; subst hv; exact key _ _ _ (.inl ⟨rfl, rfl⟩)
      · obtain ⟨a, _, rfl⟩ := hv; subst hu; exact key _ _ _ (.inl ⟨rfl, rfl⟩)
      · obtain ⟨a, _, rfl⟩ := hv; subst hu; exact key _ _ _ (.inl ⟨rfl, rfl⟩)
      · obtain ⟨a, _, rfl⟩ := hu; subst hv; exact key _ _ _ (.inr ⟨rfl, rfl⟩)
      · obtain ⟨a, _, rfl⟩ := hu; subst hv; exact key _ _ _ (.inr ⟨rfl, rfl⟩)
    · -- array
      have he := eqAV_sound hτ 12 T x y b l h r u v hu hv (9999 + 1) w (by omega)
      obtain ⟨hcm, xs, ys, rfl, rfl⟩ := eqAV_array (n := 11) hR hK h
      obtain ⟨c, _, rfl⟩ := hu
      obtain ⟨d, _, rfl⟩ := hv
      obtain ⟨_, hg, _⟩ := hm.cmp hcm
      exact run_both (run_eqGuard_agg w _ T p q _ _ hg) (run_eqGuard_agg w _ T p q _ _ hg) rfl rfl he
    · -- struct
      have he := eqAV_sound hτ 12 T x y b l h r u v hu hv (9999 + 1) w (by omega)
      obtain ⟨hcm, xs, ys, rfl, rfl⟩ := eqAV_struct (n := 11) hR hK h
      obtain ⟨c, _, rfl⟩ := hu
      obtain ⟨d, _, rfl⟩ := hv
      obtain ⟨_, hg, _⟩ := hm.cmp hcm
      exact run_both (run_eqGuard_agg w _ T p q _ _ hg) (run_eqGuard_agg w _ T p q _ _ hg) rfl rfl he
    · -- map
      have key : ∀ (c d : Option Nat) (b : Bool), (c = none ∧ b = d.isNone ∨ d = none ∧ b = c.isNone) → (do eqGuard .eql T p q (.map c) (.map d); binOp .eql T (.map c) (.map d) : Sem Value).run P w = .ok (.bool b) w ∧ (do eqGuard .neq T p q (.map c) (.map d); binOp .neq T (.map c) (.map d) : Sem Value).run P w = .ok (.bool (!b)) w := by
        intro c d b hh
        refine run_both rfl rfl rfl rfl ?_
        generalize 9999 = n
        rcases hh with ⟨rfl, rfl⟩ | ⟨rfl, rfl⟩
        · cases d <;> simp [Op.equalIn, run_underlying hk]
        · cases c <;> simp [Op.equalIn, run_underlying hk]
      split at h <;> simp at h <;> obtain ⟨rfl, _⟩ := h <;> simp only [rel] at hu hv
      · subst hu; subst hv; exact key _ _ _ (.inl ⟨rfl, rfl⟩)
      · obtain ⟨a, _, rfl⟩ := hv; subst hu; exact key _ _ _ (.inl ⟨rfl, rfl⟩)
      · obtain ⟨a, _, rfl⟩ := hu; subst hv; exact key _ _ _ (.inr ⟨rfl, rfl⟩)
    · -- iface
      obtain ⟨ms, hk⟩ := hk
      split at h <;> simp at h <;> obtain ⟨rfl, _⟩ := h <;> simp only [rel] at hu hv
      · obtain ⟨a, _, rfl⟩ := hu; subst hv
        exact run_both rfl rfl rfl rfl ((fun n : Nat => show (Op.equalIn (n + 1) _ _ _).run P w = _ by simp [Op.equalIn, run_underlying hk]) 9999)
      · obtain ⟨a, _, rfl⟩ := hv; subst hu
        exact run_both rfl rfl rfl rfl ((fun n : Nat => show (Op.equalIn (n + 1) _ _ _).run P w = _ by simp [Op.equalIn, run_underlying hk]) 9999)
      · subst hu; subst hv
        have hg : ∀ op, (eqGuard op T p q .nilIface .nilIface).run P w = .ok () w := by
          intro op
          rcases hc with hc | hc | hc
          · cases p <;> simp [Operand.isConst] at hc
            cases op <;> rfl
          · cases q <;> simp [Operand.isConst] at hc
            cases p <;> cases op <;> rfl
          · simp [AV.isNilI] at hc
        exact run_both (hg _) (hg _) rfl rfl ((fun n : Nat => show (Op.equalIn (n + 1) _ _ _).run P w = _ by simp [Op.equalIn, run_underlying hk]) 9999)
    · obtain ⟨ms, _, _, hk⟩ := hk
      split at h <;> simp at h <;> obtain ⟨rfl, _⟩ := h <;> simp only [rel] at hu hv
      · obtain ⟨a, b, _, _, rfl⟩ := hu; subst hv
        exact run_both rfl rfl rfl rfl ((fun n : Nat => show (Op.equalIn (n + 1) _ _ _).run P w = _ by simp [Op.equalIn, run_underlying hk]) 9999)
      · obtain ⟨a, b, _, _, rfl⟩ := hv; subst hu
        exact run_both rfl rfl rfl rfl ((fun n : Nat => show (Op.equalIn (n + 1) _ _ _).run P w = _ by simp [Op.equalIn, run_underlying hk]) 9999)
      · subst hu; subst hv
        exact run_both rfl rfl rfl rfl ((fun n : Nat => show (Op.equalIn (n + 1) _ _ _).run P w = _ by simp [Op.equalIn, run_underlying hk]) 9999)

end
end Sx
end Go.Proofs.YtnegocgblmdihaaGreatDoor

/-
  The operations that leave memory alone: one evaluator for all, and that the model tells the same.
-/
namespace Go.Proofs.YtnegocgblmdihaaGreatDoor
namespace Sx
open Go

section
variable {U : Uni} {P : Program} {τ : Tab}

def takeRow (agg : Bool) (size : Nat) (cs : List AV) (off : Nat) : Option AV :=
  bif agg then (bif Nat.ble (off + size) cs.length then some (.agg ((cs.drop off).take size)) else none) else cs[off]?

theorem run_loadVar {t : Nat} {R : TyRow} (hm : R.met P t) {w : World} {b o : Nat} {c : Array Value} {E : Nat} {fz : Nat × Nat} (hb : w.heap[b]? = some (.cells c E fz))
    {r : Nm} {cs : List AV} {L : List Value} (hL : relL r cs L) (hc : ∀ j v, L[j]? = some v → c[o + j]? = some v) {off : Nat} {x : AV} (h : takeRow R.kind.agg R.size cs off = some x) :
    ∃ v, (loadVar t ⟨b, o + off, none⟩).run P w = .ok v w ∧ rel r x v := by
  have hcell : ∀ j v, L[j]? = some v → w.cell? ⟨b, o + j, none⟩ = some v := fun j v hj => by rw [cell_of_row w b (o + j) c E fz hb]; exact hc j v hj
  unfold takeRow at h
  unfold loadVar
  simp only [Sem.run_bind, run_isAgg hm, Result.andThen_ok]
  cases ha : R.kind.agg with
  | true =>
    rw [ha] at h; simp only [cond_true] at h
    cases hbl : Nat.ble (off + R.size) cs.length with
    | false => rw [hbl] at h; simp at h
    | true =>
      rw [hbl] at h; simp only [cond_true, Option.some.injEq] at h; subst h
      have hle : off + R.size ≤ cs.length := Nat.le_of_ble_eq_true hbl
      have hlen : ((L.drop off).take R.size).length = R.size := by
        have := relL_length hL; simp; omega
      have hrun := run_loadCells_list (P := P) w ⟨b, o + off, none⟩ ((L.drop off).take R.size) (fun j v hj => by
        rw [Addr.add_lit, Nat.add_assoc]
        refine hcell _ _ ?_
        rw [List.getElem?_take] at hj
        split at hj
        · rwa [List.getElem?_drop] at hj
        · cases hj)
      rw [hlen] at hrun
      exact ⟨.agg ((L.drop off).take R.size).toArray, by simp [run_sizeOf hm, hrun], ⟨_, relL_take (relL_drop hL off) R.size, rfl⟩⟩
  | false =>
    rw [ha] at h; simp only [cond_false] at h
    obtain ⟨u, hu, hru⟩ := relL_get hL h
    exact ⟨u, by simp [hcell _ _ hu], hru⟩

/-- What a place of a block holds. -/
def readAt (R : TyRow) (B : Blk U) (p : AV) (K : AV → Out U) : Out U :=
  match p, B with
  | .ptr _ off, .cells _ cs => (match takeRow R.kind.agg R.size cs off with | some v => K v | none => .bad 20)
  | .ptrR _ i w c, .cells _ cs => (match takeRow R.kind.agg R.size cs (i * w + c) with | some v => K v | none => .bad 21)
  | .ptrR _ i w c, .arr _ k xs _ => bif Nat.beq w (U.enc k).w then .needd (i < xs.length) (match takeRow R.kind.agg R.size ((U.enc k).enc (xs.getD i (U.enc k).dflt)) c with | some v => K v | none => .bad 22) else .bad 23
  | .ptrR _ i w c, .ro k xs => bif Nat.beq w (U.enc k).w then .needd (i < xs.length) (match takeRow R.kind.agg R.size ((U.enc k).enc (xs.getD i (U.enc k).dflt)) c with | some v => K v | none => .bad 24) else .bad 25
  | _, _ => .bad 26

def AV.id? : AV → Option Nat
  | .ptr id _ => some id
  | .ptrR id .. => some id
  | .mp id => some id
  | _ => none

theorem readAt_sound {M : Goal U} {t : Nat} {R : TyRow} (hm : R.met P t) {B : Blk U} {p : AV} {K : AV → Out U} (h : (readAt R B p K).holds M) {id : Nat} (hid : p.id? = some id) :
    ∃ v, (K v).holds M ∧ ∀ (β : Base) (r : Nm) (w : World) (H1 : Hp) (u : Value), rel r p u → B.den β.G r id H1 → H1.inW w → β.G.inW w → ∃ z, (Instr.loadAt t u).run P w = .ok z w ∧ rel r v z := by
  have arrs : ∀ (k : U.K) (xs : List (U.El k)) (i w' c : Nat) (v : AV), w' = (U.enc k).w → i < xs.length → takeRow R.kind.agg R.size ((U.enc k).enc (xs.getD i (U.enc k).dflt)) c = some v →
      ∀ (r : Nm) (w : World) (b o : Nat) (ca : Array Value) (T : Nat) (fz : Nat × Nat), w.heap[b]? = some (.cells ca T fz) →
      (∀ i x, xs[i]? = some x → relL r ((U.enc k).enc x) ((ca.toList.drop (o + i * (U.enc k).w)).take (U.enc k).w)) → ∃ z, (loadVar t ⟨b, o + (i * w' + c), none⟩).run P w = .ok z w ∧ rel r v z := by
    intro k xs i w' c v hw hi htk r w b o ca T fz hb hrow
    subst hw
    have hx : xs[i]? = some (xs.getD i (U.enc k).dflt) := by simp [List.getD, List.getElem?_eq_getElem hi]
    have hl := hrow i _ hx
    have := run_loadVar (P := P) hm (o := o + i * (U.enc k).w) hb hl (fun j v hj => by
      rw [List.getElem?_take] at hj
      split at hj
      · rw [List.getElem?_drop] at hj; simpa using hj
      · cases hj) htk
    rwa [Nat.add_assoc] at this
  unfold readAt at h
  split at h
  · split at h
    · rename_i i off T cs v htk
      simp only [AV.id?, Option.some.injEq] at hid; subst hid
      refine ⟨v, h, fun β r w H1 u hu hB hw _ => ?_⟩
      obtain ⟨x, hx, rfl⟩ := hu
      obtain ⟨b, vs, hb, hrl, rfl⟩ := hB
      rw [hx] at hb; cases hb
      simp only [Instr.loadAt, Instr.sureAddr]
      have := run_loadVar (P := P) hm (o := 0) (Hp.inW_one.1 hw) hrl (fun j v hj => by simpa using hj) htk
      simpa using this
    · exact h.elim
  · split at h
    · rename_i i ii wd c T cs v htk
      simp only [AV.id?, Option.some.injEq] at hid; subst hid
      refine ⟨v, h, fun β r w H1 u hu hB hw _ => ?_⟩
      obtain ⟨x, hx, rfl⟩ := hu
      obtain ⟨b, vs, hb, hrl, rfl⟩ := hB
      rw [hx] at hb; cases hb
      simp only [Instr.loadAt, Instr.sureAddr]
      have := run_loadVar (P := P) hm (o := 0) (Hp.inW_one.1 hw) hrl (fun j v hj => by simpa using hj) htk
      simpa using this
    · exact h.elim
  · rename_i i ii wd c T k xs sp
    rw [holds_bif] at h
    split at h
    · rename_i hwd
      have hwd := Nat.eq_of_beq_eq_true hwd
      obtain ⟨hlt, h⟩ := h
      split at h
      · rename_i v htk
        simp only [AV.id?, Option.some.injEq] at hid; subst hid
        refine ⟨v, h, fun β r w H1 u hu hB hw _ => ?_⟩
        obtain ⟨x, hx, rfl⟩ := hu
        rcases hB with ⟨hz, _⟩ | ⟨b, ca, hb, hrow, _, _, rfl⟩
        · omega
        rw [hx] at hb; cases hb
        simp only [Instr.loadAt, Instr.sureAddr]
        simpa using arrs k xs ii wd c v hwd hlt htk r w b 0 ca T (0, 0) (Hp.inW_one.1 hw) hrow
      · exact h.elim
    · exact h.elim
  · rename_i i ii wd c k xs
    rw [holds_bif] at h
    split at h
    · rename_i hwd
      have hwd := Nat.eq_of_beq_eq_true hwd
      obtain ⟨hlt, h⟩ := h
      split at h
      · rename_i v htk
        simp only [AV.id?, Option.some.injEq] at hid; subst hid
        refine ⟨v, h, fun β r w H1 u hu hB hw hG => ?_⟩
        obtain ⟨x, hx, rfl⟩ := hu
        obtain ⟨hall, rfl⟩ := hB
        obtain ⟨b, o, ca, T, fz, hb, hg, hrl⟩ := hall ii (xs.getD ii (U.enc k).dflt) (by simp [List.getD, List.getElem?_eq_getElem hlt])
        rw [hx] at hb; cases hb
        simp only [Instr.loadAt, Instr.sureAddr]
        subst hwd
        have := run_loadVar (P := P) hm (o := o + ii * (U.enc k).w) (hG b _ hg) hrl (fun j v hj => by
          rw [List.getElem?_take] at hj
          split at hj
          · rw [List.getElem?_drop] at hj; simpa using hj
          · cases hj) htk
        simpa [Nat.add_assoc] using this
      · exact h.elim
    · exact h.elim
  · exact h.elim

/-! ## what is built of parts -/
def setRange : List AV → Nat → List AV → List AV
  | cs, _, [] => cs
  | cs, off, c :: r => setRange (cs.set off c) (off + 1) r

def setRangeV : List Value → Nat → List Value → List Value
  | cs, _, [] => cs
  | cs, off, c :: r => setRangeV (cs.set off c) (off + 1) r

theorem relL_setRange {r : Nm} : ∀ {ns : List AV} {nv : List Value}, relL r ns nv → ∀ {cs : List AV} {vs : List Value}, relL r cs vs → ∀ off, relL r (setRange cs off ns) (setRangeV vs off nv)
  | [], _, e, _, _, h, off => by simp only [relL] at e; subst e; exact h
  | c :: ns, _, e, _, _, h, off => by
    simp only [relL] at e; obtain ⟨v, us, rfl, k, l⟩ := e
    exact relL_setRange l (relL_set k h off) (off + 1)

theorem foldl_setRangeV : ∀ (nv : List Value) (cells : Array Value) (off k : Nat),
    ((nv.zipIdx k).foldl (fun cs (x : Value × Nat) => cs.setIfInBounds (off + x.2) x.1) cells) = (setRangeV cells.toList (off + k) nv).toArray
  | [], cells, off, k => by simp [setRangeV]
  | c :: nv, cells, off, k => by
    simp only [List.zipIdx_cons, List.foldl_cons, setRangeV]
    rw [foldl_setRangeV nv _ off (k + 1)]
    simp [Nat.add_assoc]

def fillAV (place : Nat → Option (Nat × Nat)) (cells : List AV) : List (Nat × AV) → Option (List AV)
  | [] => some cells
  | (i, v) :: rest =>
    match place i with
    | none => none
    | some (off, size) => bif Nat.beq (cellsAV v).length size && Nat.ble (off + size) cells.length then fillAV place (setRange cells off (cellsAV v)) rest else none

/-- Is it one cell, or a struct of cells that are known? -/
def AV.plain : AV → Bool
  | .raw _ => false
  | .und => false
  | .tup _ => false
  | .may .. => false
  | _ => true

theorem rel_cells {r : Nm} {x : AV} {v : Value} (h : x.plain = true) (e : rel r x v) : relL r (cellsAV x) v.cells.toList := by
  cases x <;> simp only [AV.plain] at h <;> simp only [cellsAV] <;> try (simp at h; done)
  all_goals (have e' := e; simp only [rel] at e)
  all_goals first
    | (subst e; exact relL_cons.2 ⟨e', relL_nil⟩)
    | (obtain ⟨a, _, rfl⟩ := e; exact relL_cons.2 ⟨e', relL_nil⟩)
    | (obtain ⟨a, rfl, _⟩ := e; exact relL_cons.2 ⟨e', relL_nil⟩)
    | (obtain ⟨a, b, _, _, rfl⟩ := e; exact relL_cons.2 ⟨e', relL_nil⟩)
    | (obtain ⟨vs, hv, rfl⟩ := e; simpa [Value.cells] using hv)

theorem fill_sound {r : Nm} {place : Nat → Option (Nat × Nat)} : ∀ (parts : List (Nat × AV)) (pv : List (Nat × Value)) (cells out : List AV) (cv : Array Value),
    fillAV place cells parts = some out → (parts.all fun q => q.2.plain) = true → pv.length = parts.length →
    (∀ (j i : Nat) (x : AV), parts[j]? = some (i, x) → ∃ v : Value, pv[j]? = some (i, v) ∧ rel r x v) → relL r cells cv.toList → ∃ ov, Instr.fill place cv pv = some ov ∧ relL r out ov.toList
  | [], pv, cells, out, cv, h, _, hl, _, hc => by
    simp only [fillAV, Option.some.injEq] at h; subst h
    have : pv = [] := List.length_eq_zero_iff.1 (by simpa using hl)
    subst this; exact ⟨cv, rfl, hc⟩
  | (i, x) :: rest, [], _, _, _, _, _, hl, _, _ => by simp at hl
  | (i, x) :: rest, (i', v) :: pv, cells, out, cv, h, hp, hl, hall, hc => by
    obtain ⟨v', hv', hrv⟩ := hall 0 i x rfl
    simp at hv'; obtain ⟨rfl, rfl⟩ := hv'
    simp only [List.all_cons, Bool.and_eq_true] at hp
    simp only [fillAV] at h
    cases hpl : place i' with
    | none => rw [hpl] at h; simp at h
    | some q =>
      obtain ⟨off, size⟩ := q
      rw [hpl] at h; simp only at h
      cases hb : (Nat.beq (cellsAV x).length size && Nat.ble (off + size) cells.length) with
      | false => rw [hb] at h; simp at h
      | true =>
        rw [hb] at h; simp only [cond_true] at h
        simp only [Bool.and_eq_true] at hb
        have h1 := Nat.eq_of_beq_eq_true hb.1
        have h2 := Nat.le_of_ble_eq_true hb.2
        have hcx := rel_cells hp.1 hrv
        have hlx := relL_length hcx
        have hlc := relL_length hc
        simp only [Array.length_toList] at hlx hlc
        have hnew : relL r (setRange cells off (cellsAV x)) (setRangeV cv.toList off v.cells.toList) := relL_setRange hcx hc off
        have hfold := foldl_setRangeV v.cells.toList cv off 0
        obtain ⟨ov, ho, hro⟩ := fill_sound rest pv _ out ((setRangeV cv.toList off v.cells.toList).toArray) h hp.2 (by simpa using hl) (fun j i x hj => hall (j + 1) i x hj) (by simpa using hnew)
        refine ⟨ov, ?_, hro⟩
        simp only [Instr.fill, hpl]
        rw [if_neg (by simp; omega)]
        rw [← ho]
        congr 1
        rw [← Array.foldl_toList, Array.toList_zipIdx]
        simpa using hfold

end
end Sx
end Go.Proofs.YtnegocgblmdihaaGreatDoor

/-
  The evaluator of operations that leave memory alone, whole, and its soundness.
-/
namespace Go.Proofs.YtnegocgblmdihaaGreatDoor
namespace Sx
open Go

section
variable {U : Uni} {P : Program} {τ : Tab}

def evalUn (o : UnOp) (x : AV) : Option AV :=
  match o with
  | .not => (match x.bl with | some (b, l) => some (mkBool l (!b)) | none => none)
  | .neg => (match x.num with | some (k, n, l) => some (mkInt l k (k.wrap (0 - n))) | none => none)
  | .xor => (match x.num with | some (k, n, l) => some (mkInt l k (bitsOp .xor k (if k.signed then -1 else k.max) n)) | none => none)
  | .plus => none

theorem evalUn_sound {o : UnOp} {x v : AV} (h : evalUn o x = some v) {r : Nm} {u : Value} (hu : rel r x u) (w : World) : ∃ z, (Op.unary o u).run P w = .ok z w ∧ rel r v z := by
  cases o <;> simp only [evalUn] at h <;> (try split at h) <;> simp at h
  · rename_i k n l hx; have e := rel_num hx hu; subst e; subst h
    exact ⟨_, by simp [Op.unary, Op.intArith]; rfl, by simp [rel_mkInt]⟩
  · rename_i k n l hx; have e := rel_num hx hu; subst e; subst h
    exact ⟨_, by simp [Op.unary, Op.intBits]; rfl, by simp [rel_mkInt, bitsOp]⟩
  · rename_i b l hx; have e := rel_bl hx hu; subst e; subst h
    exact ⟨_, by simp [Op.unary]; rfl, by simp [rel_mkBool]⟩

def TyRow.isInt (R : TyRow) : Option IntKind := match R.kind with | .int k => some k | _ => none

theorem under_some {t : Nat} {R : TyRow} (h : R.met P t) : ∃ d, P.underlying t = some d := by
  have k := h.kind
  cases hk : R.kind <;> rw [hk] at k <;> simp only [TK.met] at k <;>
    first
      | exact ⟨_, k⟩
      | (obtain ⟨fs, k, _⟩ := k; exact ⟨_, k⟩)
      | (obtain ⟨ms, k⟩ := k; exact ⟨_, k⟩)
      | (obtain ⟨a, b, c, k⟩ := k; exact ⟨_, k⟩)

def evalConv (τ : Tab) (s d : Nat) (x : AV) : Option AV :=
  match τ s, τ d, x.num with
  | some _, some R, some (_, n, l) => (match R.kind with | .int k => some (mkInt l k (k.wrap n)) | _ => none)
  | _, _, _ => none
theorem evalConv_sound (hτ : τ.met P) {s d : Nat} {x v : AV} (h : evalConv τ s d x = some v) {r : Nm} {u : Value} (hu : rel r x u) (w : World) : ∃ z, (convert s d u).run P w = .ok z w ∧ rel r v z := by
  unfold evalConv at h
  split at h
  · rename_i Rs R k0 n l hs hd hx
    split at h
    · rename_i k hk
      simp only [Option.some.injEq] at h; subst h
      have e := rel_num hx hu; subst e
      obtain ⟨ds, hds⟩ := under_some (hτ s Rs hs)
      have hkd := (hτ d R hd).kind; rw [hk] at hkd; simp only [TK.met] at hkd
      refine ⟨.int k (k.wrap n), ?_, by simp [rel_mkInt]⟩
      simp only [convert, Sem.run_bind, run_underlying hds, run_underlying hkd, Result.andThen_ok]
      rfl
    · simp at h
  · simp at h

def structOf (τ : Tab) (T : Nat) (f : Nat) : Option (Nat × Nat) :=
  match τ T with
  | some R => (match R.kind with | .struct fs => fs[f]? | _ => none)
  | none => none
theorem structOf_sound (hτ : τ.met P) {T f off ft : Nat} (h : structOf τ T f = some (off, ft)) :
    ∃ fields, P.underlying T = some (.struct fields) ∧ ∃ fl, fields[f]? = some fl ∧ fl.offset = off ∧ fl.type = ft := by
  unfold structOf at h
  split at h
  · rename_i R hR
    split at h
    · rename_i fs hk
      have hm := (hτ T R hR).kind; rw [hk] at hm; simp only [TK.met] at hm
      obtain ⟨fields, hu, hmap⟩ := hm
      rw [← hmap, List.getElem?_map] at h
      cases hf : fields.toList[f]? with
      | none => rw [hf] at h; simp at h
      | some fl => rw [hf] at h; simp at h; exact ⟨fields, hu, fl, by simpa using hf, h.1, h.2⟩
    · simp at h
  · simp at h

def arrayOf (τ : Tab) (T : Nat) : Option (Nat × Nat × Nat) :=
  match τ T with
  | some R => (match R.kind with | .array n e => (match τ e with | some E => some (n, e, E.size) | none => none) | _ => none)
  | none => none
theorem arrayOf_sound (hτ : τ.met P) {T n e s : Nat} (h : arrayOf τ T = some (n, e, s)) :
    P.underlying T = some (.array n e) ∧ ∀ w, (sizeOf e).run P w = .ok s w := by
  unfold arrayOf at h
  split at h
  · rename_i R hR
    split at h
    · rename_i n' e' hk
      split at h
      · rename_i E hE
        simp only [Option.some.injEq, Prod.mk.injEq] at h; obtain ⟨rfl, rfl, rfl⟩ := h
        have hm := (hτ T R hR).kind; rw [hk] at hm
        exact ⟨hm, fun w => run_sizeOf (hτ _ E hE) w⟩
      · simp at h
    · simp at h
  · simp at h
def sliceOf (τ : Tab) (T : Nat) : Option (Nat × Nat) :=
  match τ T with
  | some R => (match R.kind with | .slice e => (match τ e with | some E => some (e, E.size) | none => none) | _ => none)
  | none => none
theorem sliceOf_sound (hτ : τ.met P) {T e s : Nat} (h : sliceOf τ T = some (e, s)) :
    P.underlying T = some (.slice e) ∧ ∀ w, (sizeOf e).run P w = .ok s w := by
  unfold sliceOf at h
  split at h
  · rename_i R hR
    split at h
    · rename_i e' hk
      split at h
      · rename_i E hE
        simp only [Option.some.injEq, Prod.mk.injEq] at h; obtain ⟨rfl, rfl⟩ := h
        have hm := (hτ T R hR).kind; rw [hk] at hm
        exact ⟨hm, fun w => run_sizeOf (hτ _ E hE) w⟩
      · simp at h
    · simp at h
  · simp at h

def evalField (τ : Tab) (T f : Nat) (x : AV) : Option AV :=
  match structOf τ T f, x with
  | some (off, ft), .agg cs => partAV τ ft cs off
  | _, _ => none
theorem evalField_sound (hτ : τ.met P) {T f : Nat} {x v : AV} (h : evalField τ T f x = some v) {r : Nm} {u : Value} (hu : rel r x u) (w : World) : ∃ z, (Instr.field T u f).run P w = .ok z w ∧ rel r v z := by
  unfold evalField at h
  split at h
  · rename_i off ft cs hs
    obtain ⟨fields, hk, fl, hfl, rfl, rfl⟩ := structOf_sound hτ hs
    obtain ⟨vs, hvs, rfl⟩ := hu
    obtain ⟨z, hz, hr⟩ := partAV_sound hτ h hvs w
    exact ⟨z, by simp [Instr.field, run_underlying hk, hfl, asAgg, hz], hr⟩
  · simp at h

def evalIndex (τ : Tab) (T : Nat) (x ix : AV) : Option AV :=
  match arrayOf τ T, x, ix.num with
  | some (n, e, s), .agg cs, some (_, i, true) => bif decide (0 ≤ i) && decide (i < (n : Int)) then partAV τ e cs (i.toNat * s) else none
  | _, _, _ => none
theorem evalIndex_sound (hτ : τ.met P) {T : Nat} {x ix v : AV} (h : evalIndex τ T x ix = some v) {r : Nm} {u ui : Value} (hu : rel r x u) (hi : rel r ix ui) (w : World) : ∃ z, (Instr.index T u ui).run P w = .ok z w ∧ rel r v z := by
  unfold evalIndex at h
  split at h
  · rename_i n e s cs k i ha hix
    cases hb : (decide (0 ≤ i) && decide (i < (n : Int))) with
    | false => rw [hb] at h; simp at h
    | true =>
      rw [hb] at h; simp only [cond_true] at h
      simp at hb
      obtain ⟨hk, hs⟩ := arrayOf_sound hτ ha
      obtain ⟨vs, hvs, rfl⟩ := hu
      have e := rel_num hix hi; subst e
      obtain ⟨z, hz, hr⟩ := partAV_sound hτ h hvs w
      exact ⟨z, by simp [Instr.index, asIntOf, run_underlying hk, hb, hs, hz], hr⟩
  · simp at h

def evalFieldAddr (τ : Tab) (T f : Nat) (x : AV) : Option AV :=
  match structOf τ T f with
  | some (off, ft) => (match τ ft with
    | some R => bif Nat.beq R.size 0 then none else (match x with
      | .ptr id o => some (.ptr id (o + off))
      | .ptrR id i w c => some (.ptrR id i w (c + off))
      | _ => none)
    | none => none)
  | none => none
theorem evalFieldAddr_sound (hτ : τ.met P) {T f : Nat} {x v : AV} (h : evalFieldAddr τ T f x = some v) {r : Nm} {u : Value} (hu : rel r x u) (w : World) : ∃ z, (Instr.fieldAt T u f).run P w = .ok z w ∧ rel r v z := by
  unfold evalFieldAddr at h
  split at h
  · rename_i off ft hs
    split at h
    · rename_i R hR
      cases hb : Nat.beq R.size 0 with
      | true => rw [hb] at h; simp at h
      | false =>
        rw [hb] at h; simp only [cond_false] at h
        have hne : R.size ≠ 0 := fun e => by rw [e] at hb; simp at hb
        obtain ⟨fields, hk, fl, hfl, rfl, rfl⟩ := structOf_sound hτ hs
        have hsz := run_sizeOf (P := P) (hτ _ R hR) w
        split at h <;> simp at h <;> subst h
        · obtain ⟨y, hy, rfl⟩ := hu
          exact ⟨_, by simp [Instr.fieldAt, run_underlying hk, hfl, Instr.sureAddr, fieldPlace, hsz, hne, Addr.add_lit]; rfl, ⟨y, hy, by simp [Nat.add_assoc]⟩⟩
        · obtain ⟨y, hy, rfl⟩ := hu
          exact ⟨_, by simp [Instr.fieldAt, run_underlying hk, hfl, Instr.sureAddr, fieldPlace, hsz, hne, Addr.add_lit]; rfl, ⟨y, hy, by simp [Nat.add_assoc]⟩⟩
    · simp at h
  · simp at h

def evalIndexAddr (τ : Tab) (T : Nat) (x ix : AV) (K : AV → Out U) : Out U :=
  match sliceOf τ T with
  | some (_, s) => (match x, ix.num with
    | .sl _ id st w len _, some (_, i, _) => bif Nat.beq w s then .needd (0 ≤ i ∧ i < (len : Int)) (K (.ptrR id (st + i.toNat) w 0)) else .bad 30
    | _, _ => .bad 31)
  | none => (match arrayOf τ T, x, ix.num with
    | some (n, _, s), .ptr id o, some (_, i, true) => bif decide (0 ≤ i) && decide (i < (n : Int)) then K (.ptr id (o + i.toNat * s)) else .bad 32
    | some (n, _, s), .ptrR id j w c, some (_, i, true) => bif decide (0 ≤ i) && decide (i < (n : Int)) then K (.ptrR id j w (c + i.toNat * s)) else .bad 33
    | _, _, _ => .bad 34)
theorem evalIndexAddr_sound (hτ : τ.met P) {M : Goal U} {T : Nat} {x ix : AV} {K : AV → Out U} (h : (evalIndexAddr τ T x ix K).holds M) :
    ∃ v, (K v).holds M ∧ ∀ (r : Nm) (u ui : Value) (w : World), rel r x u → rel r ix ui → ∃ z, (Instr.indexAt T u ui).run P w = .ok z w ∧ rel r v z := by
  unfold evalIndexAddr at h
  split at h
  · rename_i e s hs
    obtain ⟨hk, hsz⟩ := sliceOf_sound hτ hs
    split at h
    · rename_i kn id st wd len cap k i l hix
      rw [holds_bif] at h
      split at h
      · rename_i hw
        have hw := Nat.eq_of_beq_eq_true hw
        subst hw
        obtain ⟨⟨h0, h1⟩, h⟩ := h
        refine ⟨_, h, fun r u ui w hu hi => ?_⟩
        have e := rel_num hix hi; subst e
        obtain ⟨a, rfl, hlc, ha⟩ := hu
        rcases ha with hz | ⟨y, hy, rfl⟩
        · omega
        · refine ⟨.pointer (some ⟨y.1, y.2 + st * wd + i.toNat * wd, none⟩), ?_, ⟨y, hy, ?_⟩⟩
          · simp [Instr.indexAt, asIntOf, run_underlying hk, hsz, h0, h1, Addr.add_lit]
          · simp [Nat.add_mul, Nat.add_assoc]
      · exact h.elim
    · exact h.elim
  · split at h
    · rename_i n e s id o k i ha hix
      rw [holds_bif] at h
      split at h
      · rename_i hb
        simp at hb
        obtain ⟨hk, hsz⟩ := arrayOf_sound hτ ha
        refine ⟨_, h, fun r u ui w hu hi => ?_⟩
        have e := rel_num hix hi; subst e
        obtain ⟨y, hy, rfl⟩ := hu
        exact ⟨_, by simp [Instr.indexAt, asIntOf, run_underlying hk, hsz, hb, Addr.add_lit, Instr.sureAddr]; rfl, ⟨y, hy, by simp [Nat.add_assoc]⟩⟩
      · exact h.elim
    · rename_i n e s id j wd c k i ha hix
      rw [holds_bif] at h
      split at h
      · rename_i hb
        simp at hb
        obtain ⟨hk, hsz⟩ := arrayOf_sound hτ ha
        refine ⟨_, h, fun r u ui w hu hi => ?_⟩
        have e := rel_num hix hi; subst e
        obtain ⟨y, hy, rfl⟩ := hu
        exact ⟨_, by simp [Instr.indexAt, asIntOf, run_underlying hk, hsz, hb, Addr.add_lit, Instr.sureAddr]; rfl, ⟨y, hy, by simp [Nat.add_assoc]⟩⟩
      · exact h.elim
    · exact h.elim

end
end Sx
end Go.Proofs.YtnegocgblmdihaaGreatDoor

/-
  Slices of slices, lengths, least and greatest, maps asked; and the evaluator of all that leaves memory alone.
-/
namespace Go.Proofs.YtnegocgblmdihaaGreatDoor
namespace Sx
open Go

section
variable {U : Uni} {P : Program} {τ : Tab}

/-! ## slices of slices -/
def zNum : Option AV → Option Int
  | none => some 0
  | some v => (match v.num with | some (_, i, _) => some i | none => none)
def evalSlice (τ : Tab) (T : Nat) (x : AV) (lo hi mx : Option AV) (K : AV → Out U) : Out U :=
  match sliceOf τ T, x with
  | some (_, s), .sl kn id st w len cap => bif Nat.beq w s then (
    match lo, hi, mx with
    | none, none, none => K (.sl kn id st w len cap)
    | some l, none, none => (match l.num with | some (_, i, _) => .needd (0 ≤ i ∧ i ≤ (len : Int)) (K (.sl false id (st + i.toNat) w (len - i.toNat) (cap - i.toNat))) | none => .bad 40)
    | none, some h, none => (match h.num with | some (_, j, _) => .needd (0 ≤ j ∧ (j ≤ (len : Int) ∨ j ≤ (cap : Int))) (K (.sl false id st w j.toNat cap)) | none => .bad 41)
    | some l, some h, none => (match l.num, h.num with | some (_, i, _), some (_, j, _) => .needd (0 ≤ i ∧ i ≤ j ∧ (j ≤ (len : Int) ∨ j ≤ (cap : Int))) (K (.sl false id (st + i.toNat) w (j.toNat - i.toNat) (cap - i.toNat))) | _, _ => .bad 42)
    | none, some h, some m => (match h.num, m.num with | some (_, j, lj), some (_, n, ln) => .needd (0 ≤ j ∧ j ≤ n ∧ (n ≤ (len : Int) ∨ n ≤ (cap : Int))) (K (.sl (lj && ln) id st w j.toNat n.toNat)) | _, _ => .bad 43)
    | _, _, _ => .bad 44) else .bad 45
  | some _, .nilS => (match mx, zNum lo, zNum hi with
    | none, some i, some j => .needd (i = 0 ∧ j = 0) (K .nilS)
    | _, _, _ => .bad 47)
  | _, _ => .bad 46
theorem zNum_rel {x : Option AV} {i : Int} (h : zNum x = some i) (h0 : i = 0) {r : Nm} {vx : Option Value} (h1 : ∀ y, x = some y → ∃ z, vx = some z ∧ rel r y z) (h2 : x = none → vx = none) : vx = none ∨ ∃ k, vx = some (.int k 0) := by
  cases x with
  | none => exact .inl (h2 rfl)
  | some y =>
    obtain ⟨z, hz, hr⟩ := h1 y rfl
    unfold zNum at h; simp only at h
    cases hn : y.num with
    | none => rw [hn] at h; cases h
    | some q =>
      obtain ⟨k, j, l⟩ := q
      rw [hn] at h
      have e : j = i := Option.some.inj h
      have := rel_num hn hr
      exact .inr ⟨k, by rw [hz, this, e, h0]⟩

theorem evalSlice_sound (hτ : τ.met P) {M : Goal U} {T : Nat} {x : AV} {lo hi mx : Option AV} {K : AV → Out U} (h : (evalSlice τ T x lo hi mx K).holds M) :
    ∃ v, (K v).holds M ∧ ∀ (r : Nm) (u : Value) (vlo vhi vmx : Option Value) (w : World), rel r x u →
      (∀ y, lo = some y → ∃ z, vlo = some z ∧ rel r y z) → (lo = none → vlo = none) → (∀ y, hi = some y → ∃ z, vhi = some z ∧ rel r y z) → (hi = none → vhi = none) →
      (∀ y, mx = some y → ∃ z, vmx = some z ∧ rel r y z) → (mx = none → vmx = none) →
      ∃ z, (Instr.sliceAt T u vlo vhi vmx).run P w = .ok z w ∧ rel r v z := by
  unfold evalSlice at h
  split at h
  · rename_i e s kn id st wd len cap hs
    obtain ⟨hk, hsz⟩ := sliceOf_sound hτ hs
    have core : ∀ (r : Nm) (a : Option Addr) (w : World) (l hh m : Nat) (vlo vhi vmx : Option Value), (cap = 0 ∨ ∃ x, r id = some x ∧ a = some ⟨x.1, x.2 + st * s, none⟩) → l ≤ hh → hh ≤ m → m ≤ cap →
        (Instr.sliceBounds true len cap vlo vhi vmx).run P w = .ok (l, hh, m) w → ∀ kk, ∃ z, (Instr.sliceAt T (.slice a len cap) vlo vhi vmx).run P w = .ok z w ∧ rel r (.sl kk id (st + l) s (hh - l) (m - l)) z := by
      intro r a w l hh m vlo vhi vmx ha h1 h2 h3 hrun kk
      have hk' : P.underlying T = some (.slice (P.elem T)) := by simp [Program.elem, hk]
      have e1 : (Instr.sliceAt T (.slice a len cap) vlo vhi vmx).run P w = .ok (.slice (if m = l then a else a.map (·.add (l * s))) (hh - l) (m - l)) w := by
        simp only [Instr.sliceAt, Sem.run_bind, run_underlying hk, Result.andThen_ok, Instr.slice, hrun, hsz, Sem.run_pure]
      refine ⟨_, e1, ⟨_, rfl, by omega, ?_⟩⟩
      by_cases hml : m = l
      · left; omega
      · right
        rcases ha with hz | ⟨y, hy, rfl⟩
        · omega
        · exact ⟨y, hy, by simp [hml, Addr.add_lit, Nat.add_mul, Nat.add_assoc]⟩
    rw [holds_bif] at h
    split at h
    · rename_i hw
      have hw := Nat.eq_of_beq_eq_true hw
      subst hw
      split at h
      · refine ⟨_, h, fun r u vlo vhi vmx w hu _ hl _ hh _ hm => ?_⟩
        rw [hl rfl, hh rfl, hm rfl]
        obtain ⟨a, rfl, hlc, ha⟩ := hu
        simpa using core r a w 0 len cap none none none ha (Nat.zero_le _) hlc (Nat.le_refl _) (by simp [Instr.sliceBounds]) kn
      · split at h
        · rename_i l k i ll hl
          obtain ⟨⟨h0, h1⟩, h⟩ := h
          refine ⟨_, h, fun r u vlo vhi vmx w hu hlo _ _ hh _ hm => ?_⟩
          rw [hh rfl, hm rfl]
          obtain ⟨z, rfl, hz⟩ := hlo _ rfl
          have e := rel_num hl hz; subst e
          obtain ⟨a, rfl, hlc, ha⟩ := hu
          exact core r a w i.toNat len cap _ _ _ ha (by omega) hlc (Nat.le_refl _) (by simp [Instr.sliceBounds, Instr.sliceBound, asIntOf, h0, h1]) false
        · exact h.elim
      · split at h
        · rename_i hh k j lj hj
          obtain ⟨⟨h0, h1⟩, h⟩ := h
          refine ⟨_, h, fun r u vlo vhi vmx w hu _ hl hhi _ _ hm => ?_⟩
          rw [hl rfl, hm rfl]
          obtain ⟨z, rfl, hz⟩ := hhi _ rfl
          have e := rel_num hj hz; subst e
          obtain ⟨a, rfl, hlc, ha⟩ := hu
          have h1 : j ≤ (cap : Int) := by omega
          simpa using core r a w 0 j.toNat cap _ _ _ ha (by omega) (by omega) (Nat.le_refl _) (by simp [Instr.sliceBounds, Instr.sliceBound, asIntOf, h0, h1]) false
        · exact h.elim
      · split at h
        · rename_i l hh k i li k' j lj hi hj
          obtain ⟨⟨h0, h1, h2⟩, h⟩ := h
          refine ⟨_, h, fun r u vlo vhi vmx w hu hlo _ hhi _ _ hm => ?_⟩
          rw [hm rfl]
          obtain ⟨z, rfl, hz⟩ := hlo _ rfl
          obtain ⟨z', rfl, hz'⟩ := hhi _ rfl
          have e := rel_num hi hz; subst e
          have e := rel_num hj hz'; subst e
          obtain ⟨a, rfl, hlc, ha⟩ := hu
          have hj0 : 0 ≤ j := by omega
          have h2 : j ≤ (cap : Int) := by omega
          exact core r a w i.toNat j.toNat cap _ _ _ ha (by omega) (by omega) (Nat.le_refl _) (by simp [Instr.sliceBounds, Instr.sliceBound, asIntOf, h0, hj0, h2]; intro hc; omega) false
        · exact h.elim
      · split at h
        · rename_i hh m k j lj k' n ln hj hn
          obtain ⟨⟨h0, h1, h2⟩, h⟩ := h
          refine ⟨_, h, fun r u vlo vhi vmx w hu _ hl hhi _ hmx _ => ?_⟩
          rw [hl rfl]
          obtain ⟨z, rfl, hz⟩ := hhi _ rfl
          obtain ⟨z', rfl, hz'⟩ := hmx _ rfl
          have e := rel_num hj hz; subst e
          have e := rel_num hn hz'; subst e
          obtain ⟨a, rfl, hlc, ha⟩ := hu
          have hn0 : 0 ≤ n := by omega
          have h2 : n ≤ (cap : Int) := by omega
          simpa using core r a w 0 j.toNat n.toNat _ _ _ ha (by omega) (by omega) (by omega) (by simp [Instr.sliceBounds, Instr.sliceBound, asIntOf, h0, hn0, h2]; intro hc; omega) (lj && ln)
        · exact h.elim
      · exact h.elim
    · exact h.elim
  · rename_i hs
    obtain ⟨hk, hsz⟩ := sliceOf_sound hτ hs
    split at h
    · rename_i i j hi hj
      obtain ⟨⟨h0, h1⟩, h⟩ := h
      refine ⟨_, h, fun r u vlo vhi vmx w hu hlo hl hhi hh _ hm => ?_⟩
      rw [hm rfl]
      have hu : u = .slice none 0 0 := hu
      subst hu
      have hk' : P.underlying T = some (.slice (P.elem T)) := by simp [Program.elem, hk]
      have hb : (Instr.sliceBounds true 0 0 vlo vhi none).run P w = .ok (0, 0, 0) w := by
        rcases zNum_rel hi h0 hlo hl with e | ⟨k, e⟩ <;> rcases zNum_rel hj h1 hhi hh with e' | ⟨k', e'⟩ <;> subst e <;> subst e' <;> simp [Instr.sliceBounds, Instr.sliceBound, asIntOf]
      refine ⟨.slice none 0 0, ?_, rfl⟩
      simp only [Instr.sliceAt, Sem.run_bind, run_underlying hk, Result.andThen_ok, Instr.slice, hb, hsz, Sem.run_pure]
      simp
    · exact h.elim
  · exact h.elim

/-! ## least and greatest -/
def evalMin2 (x y : AV) : Option AV :=
  match x.num, y.num with
  | some (k, a, la), some (_, b, lb) => some (mkInt (la && lb) k (if b < a then b else a))
  | _, _ => none
def evalMax2 (x y : AV) : Option AV :=
  match x.num, y.num with
  | some (k, a, la), some (_, b, lb) => some (mkInt (la && lb) k (if b > a then b else a))
  | _, _ => none
theorem evalMin2_sound {x y v : AV} (h : evalMin2 x y = some v) {r : Nm} {u u' : Value} (hu : rel r x u) (hu' : rel r y u') (ts : Array Nat) (t : Nat) (w : World) : ∃ z, (Builtin.min_ ts t #[u, u']).run P w = .ok z w ∧ rel r v z := by
  unfold evalMin2 at h; split at h
  · rename_i k a la k' b lb hx hy
    simp only [Option.some.injEq] at h; subst h
    have e := rel_num hx hu; have e' := rel_num hy hu'; subst e; subst e'
    exact ⟨_, run_min_int2 w ts t k k' a b, by simp [rel_mkInt]⟩
  · simp at h
theorem evalMax2_sound {x y v : AV} (h : evalMax2 x y = some v) {r : Nm} {u u' : Value} (hu : rel r x u) (hu' : rel r y u') (ts : Array Nat) (t : Nat) (w : World) : ∃ z, (Builtin.max_ ts t #[u, u']).run P w = .ok z w ∧ rel r v z := by
  unfold evalMax2 at h; split at h
  · rename_i k a la k' b lb hx hy
    simp only [Option.some.injEq] at h; subst h
    have e := rel_num hx hu; have e' := rel_num hy hu'; subst e; subst e'
    exact ⟨_, run_max_int2 w ts t k k' a b, by simp [rel_mkInt]⟩
  · simp at h

/-! ## lengths -/
def evalLen (τ : Tab) (T : Nat) (x : AV) : Option AV :=
  match τ T with
  | some R => (match R.kind, x with
    | .slice _, .sl true _ _ _ len _ => some (.lit .i64 (len : Int))
    | .slice _, .sl false _ _ _ len _ => some (.int .i64 (len : Int))
    | .slice _, .nilS => some (.lit .i64 0)
    | .slice _, .raw (.slice _ len _) => some (.int .i64 (len : Int))
    | .array n _, _ => some (.lit .i64 (n : Int))
    | _, _ => none)
  | none => none
theorem evalLen_sound (hτ : τ.met P) {T : Nat} {x v : AV} (h : evalLen τ T x = some v) {r : Nm} {u : Value} (hu : rel r x u) (ts : Array Nat) (ht : ts[0]? = some T) (t : Nat) (w : World) : ∃ z, (Builtin.len_ ts t #[u]).run P w = .ok z w ∧ rel r v z := by
  unfold evalLen at h
  split at h
  · rename_i R hR
    have hk := (hτ T R hR).kind
    split at h
    · rename_i hK; simp only [Option.some.injEq] at h; subst h
      rw [hK] at hk; simp only [TK.met] at hk
      obtain ⟨a, rfl, _, _⟩ := hu
      exact ⟨_, by simp [Builtin.len_, ht, run_underlying hk]; rfl, by simp [rel, goInt]⟩
    · rename_i hK; simp only [Option.some.injEq] at h; subst h
      rw [hK] at hk; simp only [TK.met] at hk
      obtain ⟨a, rfl, _, _⟩ := hu
      exact ⟨_, by simp [Builtin.len_, ht, run_underlying hk]; rfl, by simp [rel, goInt]⟩
    · rename_i hK; simp only [Option.some.injEq] at h; subst h
      rw [hK] at hk; simp only [TK.met] at hk
      simp only [rel] at hu; subst hu
      exact ⟨_, by simp [Builtin.len_, ht, run_underlying hk]; rfl, by simp [rel, goInt]⟩
    · rename_i hK; simp only [Option.some.injEq] at h; subst h
      rw [hK] at hk; simp only [TK.met] at hk
      simp only [rel] at hu; subst hu
      exact ⟨_, by simp [Builtin.len_, ht, run_underlying hk]; rfl, by simp [rel, goInt]⟩
    · rename_i hK; simp only [Option.some.injEq] at h; subst h
      rw [hK] at hk; simp only [TK.met] at hk
      exact ⟨_, by simp [Builtin.len_, ht, run_underlying hk]; rfl, by simp [rel, goInt]⟩
    · simp at h
  · simp at h

/-! ## maps: what they hold of a key, and how many -/
def mget {α : Type} : List (Int × α) → Int → Option α
  | [], _ => none
  | (k, x) :: m, n => if n = k then some x else mget m n

theorem relM_find {α : Type} {E : Enc α} {kk : IntKind} {r : Nm} (n : Int) : ∀ (m : List (Int × α)) (es : List MapEntry) (i : Nat), relM E kk r m es →
    (mget m n = none → Instr.findNow (.int kk) (.int kk n) es i = some none) ∧
    (∀ x, mget m n = some x → ∃ j e, Instr.findNow (.int kk) (.int kk n) es i = some (some (i + j, e.val)) ∧ es[j]? = some e ∧ e.key = .int kk n ∧ relV E.agg r (E.enc x) e.val ∧ (m.map (·.1)).findIdx (· == n) = j)
  | [], es, i, h => by
    simp only [relM] at h; subst h
    exact ⟨fun _ => rfl, fun x hx => by simp [mget] at hx⟩
  | (k, y) :: m, es, i, h => by
    simp only [relM] at h
    obtain ⟨e, fs, rfl, hk, hv, hr⟩ := h
    obtain ⟨ih1, ih2⟩ := relM_find n m fs (i + 1) hr
    by_cases hnk : n = k
    · subst hnk
      refine ⟨fun hx => by simp [mget] at hx, fun x hx => ⟨0, e, ?_, rfl, hk, ?_, ?_⟩⟩
      · simp [Instr.findNow, hk, Instr.sameNow]
      · simp [mget] at hx; subst hx; exact hv
      · simp [List.findIdx_cons]
    · have hne : (n == k) = false := by simpa using hnk
      refine ⟨fun hx => ?_, fun x hx => ?_⟩
      · simp only [mget, if_neg hnk] at hx
        simp only [Instr.findNow, hk, Instr.sameNow, if_true, hne, ih1 hx]
      · simp only [mget, if_neg hnk] at hx
        obtain ⟨j, e', h1, h2, h3, h4, h5⟩ := ih2 x hx
        refine ⟨j + 1, e', ?_, by simpa using h2, h3, h4, ?_⟩
        · simp only [Instr.findNow, hk, Instr.sameNow, if_true, hne, h1]
          rw [show i + 1 + j = i + (j + 1) by omega]
        · have : (k == n) = false := by simpa using fun h => hnk h.symm
          simp [List.findIdx_cons, this, h5]

theorem relM_length {α : Type} {E : Enc α} {kk : IntKind} {r : Nm} : ∀ {m : List (Int × α)} {es : List MapEntry}, relM E kk r m es → es.length = m.length
  | [], _, h => by simp only [relM] at h; subst h; rfl
  | (_, _) :: m, _, h => by simp only [relM] at h; obtain ⟨e, fs, rfl, _, _, hr⟩ := h; simp [relM_length hr]

/-- Which kind of element a type is laid as. -/
abbrev Kinds (U : Uni) := Nat → Option U.K
def Kinds.met (τ : Tab) (κ : Kinds U) : Prop := ∀ e k, κ e = some k → ∃ R, τ e = some R ∧ (U.enc k).w = R.size ∧ (U.enc k).agg = R.kind.agg ∧ R.bytes ≠ 0 ∧
  ∀ r vs, relL r R.zero vs → relL r ((U.enc k).enc (U.enc k).dflt) vs

def mapOf (τ : Tab) (κ : Kinds U) (T : Nat) : Option (IntKind × U.K) :=
  match τ T with
  | some R => (match R.kind with
    | .map k e => (match τ k, κ e with | some Kr, some E => (match Kr.kind with | .int kk => some (kk, E) | _ => none) | _, _ => none)
    | _ => none)
  | none => none

theorem mapOf_sound (hτ : τ.met P) {κ : Kinds U} {T : Nat} {kk : IntKind} {E : U.K} (h : mapOf τ κ T = some (kk, E)) :
    ∃ k e, P.underlying T = some (.map k e) ∧ P.underlying k = some (.int kk) ∧ κ e = some E := by
  unfold mapOf at h
  split at h
  · rename_i R hR
    split at h
    · rename_i k e hk
      split at h
      · rename_i Kr E' hK hE
        split at h
        · rename_i kk' hkk
          simp only [Option.some.injEq, Prod.mk.injEq] at h; obtain ⟨rfl, rfl⟩ := h
          have hm := (hτ T R hR).kind; rw [hk] at hm
          have hm2 := (hτ k Kr hK).kind; rw [hkk] at hm2
          exact ⟨k, e, hm, hm2, hE⟩
        · simp at h
      · simp at h
    · simp at h
  · simp at h

/-- An element's cells as a value. -/
def rowAV (agg : Bool) (cs : List AV) : AV := bif agg then .agg cs else cs.headD .und

theorem rel_rowAV {agg : Bool} {r : Nm} {cs : List AV} {v : Value} (h : relV agg r cs v) : rel r (rowAV agg cs) v := by
  cases agg
  · simp only [relV] at h
    match cs, h with
    | [], h => simp [relL] at h
    | [c], h => exact (relL_cons.1 h).1
    | c :: d :: cs, h =>
      have := relL_length h; simp at this
  · exact h

theorem relV_imp {agg : Bool} {r : Nm} {xs ys : List AV} (h : ∀ vs, relL r xs vs → relL r ys vs) {v : Value} (k : relV agg r xs v) : relV agg r ys v := by
  cases agg
  · exact h _ k
  · obtain ⟨vs, a, b⟩ := k; exact ⟨vs, h _ a, b⟩

theorem run_zero {t : Nat} {R : TyRow} (h : R.met P t) (r : Nm) (w : World) : ∃ z, (zeroValue t).run P w = .ok z w ∧ relV R.kind.agg r R.zero z := by
  obtain ⟨i, z, hi, _, _, hz, _, hr, _⟩ := h.info
  exact ⟨z, by simp [zeroValue, typeInfo, hi, hz], relV_mono (fun _ _ e => by cases e) hr⟩

/-- What a map tells of a key. -/
def evalLookup (τ : Tab) (κ : Kinds U) (T : Nat) (B : Blk U) (key : AV) (ok : Bool) (K : AV → Out U) : Out U :=
  match mapOf τ κ T, B, key.num with
  | some (kk, E), .mp kk' k m, some (kk'', n, _) =>
    bif decide (kk = kk') && decide (kk = kk'') && (@decide (E = k) (U.dk E k)) then
      K (bif ok then .tup [rowAV (U.enc k).agg ((U.enc k).enc ((mget m n).getD (U.enc k).dflt)), .bool (mget m n).isSome] else rowAV (U.enc k).agg ((U.enc k).enc ((mget m n).getD (U.enc k).dflt)))
    else .bad 50
  | _, _, _ => .bad 51

theorem run_checkKey_int {k : Nat} {kk : IntKind} (h : P.underlying k = some (.int kk)) (b : Bool) (n : Nat) (v : Value) (w : World) : (Instr.checkKey b (n + 1) k v).run P w = .ok () w := by
  simp only [Instr.checkKey, Sem.run_bind, run_underlying h, Result.andThen_ok]
  cases v <;> rfl

theorem evalLookup_sound (hτ : τ.met P) {κ : Kinds U} (hκ : κ.met τ) {M : Goal U} {T : Nat} {B : Blk U} {key : AV} {ok : Bool} {K : AV → Out U} (h : (evalLookup τ κ T B key ok K).holds M) {id : Nat} :
    ∃ v, (K v).holds M ∧ ∀ (β : Base) (r : Nm) (w : World) (H1 : Hp) (u uk : Value), rel r (.mp id) u → rel r key uk → B.den β.G r id H1 → H1.inW w → ∃ z, (Instr.lookup T u uk ok).run P w = .ok z w ∧ rel r v z := by
  unfold evalLookup at h
  split at h
  · rename_i kk E kk' k m kk'' n l hmap hkey
    rw [holds_bif] at h
    split at h
    · rename_i hb
      simp only [Bool.and_eq_true, decide_eq_true_eq] at hb
      obtain ⟨⟨rfl, rfl⟩, hEk⟩ := hb
      subst hEk
      refine ⟨_, h, fun β r w H1 u uk hu huk hB hw => ?_⟩
      obtain ⟨x, hx, rfl⟩ := hu
      obtain ⟨b, es, clock, hb, hrm, _, rfl⟩ := hB
      rw [hx] at hb; cases hb
      have e := rel_num hkey huk; subst e
      obtain ⟨tk, te, hT, hk, hE'⟩ := mapOf_sound hτ hmap
      obtain ⟨R, hR, _, hag, _, hz0⟩ := hκ te E hE'
      have hE := hτ te R hR
      have hblk := Hp.inW_one.1 hw
      have hget : (getObj b).run P w = .ok (.map es clock) w := by simp [getObj, Sem.run, hblk]
      obtain ⟨f1, f2⟩ := relM_find n m es.toList 0 hrm
      have hfin : ∃ v0, (Instr.lookup T (.map (some b)) (.int kk n) ok).run P w = .ok (if ok then .tuple #[v0, .bool (mget m n).isSome] else v0) w ∧ relV (U.enc E).agg r ((U.enc E).enc ((mget m n).getD (U.enc E).dflt)) v0 := by
        cases hg : mget m n with
        | none =>
          obtain ⟨z, hz, hrz⟩ := run_zero hE r w
          refine ⟨z, ?_, by have := relV_imp (agg := R.kind.agg) (hz0 r) hrz; rw [← hag] at this; simpa using this⟩
          unfold Instr.lookup
          simp only [Sem.run_bind, run_underlying hT, Result.andThen_ok, hget, Sem.run_pure, run_checkKey_int hk _ 9999, Instr.findKey, run_underlying hk, f1 hg, hz, Option.isSome_none]
        | some y =>
          obtain ⟨j, e, h1, _, _, h4, _⟩ := f2 y hg
          refine ⟨e.val, ?_, by simpa using h4⟩
          unfold Instr.lookup
          simp only [Sem.run_bind, run_underlying hT, Result.andThen_ok, hget, Sem.run_pure, run_checkKey_int hk _ 9999, Instr.findKey, run_underlying hk, h1, Option.isSome_some]
      obtain ⟨v0, hv0, hr0⟩ := hfin
      refine ⟨_, hv0, ?_⟩
      cases ok
      · exact rel_rowAV hr0
      · exact ⟨[v0, .bool (mget m n).isSome], relL_cons.2 ⟨rel_rowAV hr0, relL_cons.2 ⟨by simp [rel], relL_nil⟩⟩, rfl⟩
    · exact h.elim
  · exact h.elim

end
end Sx
end Go.Proofs.YtnegocgblmdihaaGreatDoor

/-
  One evaluator for every operation that leaves memory alone; 'Lz': such an operation tells the same wherever what it reads is the same.
-/
namespace Go.Proofs.YtnegocgblmdihaaGreatDoor
namespace Sx
open Go

section
variable {U : Uni} {P : Program} {τ : Tab}

def AV.solid : AV → Bool
  | .ptr .. => true
  | .ptrR .. => true
  | .fn .. => true
  | .ifc .. => true
  | _ => false

def onOpt (x : Option AV) (n : Nat) (K : AV → Option Nat → Out U) : Out U := match x with | some v => K v none | none => .bad n

/-- A slice against nil: whether it may be. -/
def slNil (τ : Tab) (T : Nat) (a b : AV) : Option Bool :=
  match τ T with
  | some R => (match R.kind, a, b with
    | .slice _, .sl _ _ _ _ len cap, .nilS => some (Nat.beq len 0 && Nat.beq cap 0)
    | _, _, _ => none)
  | none => none

theorem slNil_sound (hτ : τ.met P) {T : Nat} {a b : AV} {c : Bool} (h : slNil τ T a b = some c) {r : Nm} {u v : Value} (hu : rel r a u) (hv : rel r b v) (w : World) (p q : Operand) :
    ∃ x : Bool, (x = true → c = true) ∧ (do eqGuard .eql T p q u v; binOp .eql T u v : Sem Value).run P w = .ok (.bool x) w ∧ (do eqGuard .neq T p q u v; binOp .neq T u v : Sem Value).run P w = .ok (.bool (!x)) w := by
  unfold slNil at h
  split at h
  · rename_i R hR
    have hm := hτ T R hR
    have hk := hm.kind
    split at h
    · rename_i e kn id s wd len cap hK
      rw [hK] at hk; simp only [TK.met] at hk
      simp only [Option.some.injEq] at h; subst h
      obtain ⟨a, rfl, hlc, ha⟩ := hu
      simp only [rel] at hv; subst hv
      refine ⟨a.isNone, fun hx => ?_, run_both rfl rfl rfl rfl ?_⟩
      · rcases ha with h0 | ⟨y, _, rfl⟩
        · subst h0; have : len = 0 := Nat.le_zero.1 hlc; subst this; rfl
        · simp at hx
      · exact (fun n : Nat => show (Op.equalIn (n + 1) _ _ _).run P w = _ by cases a <;> simp [Op.equalIn, run_underlying hk]) 9999
    · cases h
  · cases h

/-- Two operands equal, or not. -/
def evalEq (τ : Tab) (neg : Bool) (T : Nat) (x y : Operand) (a b : AV) (K : AV → Option Nat → Out U) : Out U :=
  match a.num with
  | some _ => evalBin (bif neg then .neq else .eql) a b fun v => K v none
  | none => (match slNil τ T a b with
   | some c => K (.may neg c) none
   | none => match evalEql τ T a b with
    | some (c, l) => bif Operand.isConst x || Operand.isConst y || !(a.isNilI) || !(b.isNilI) then K (mkBool l (bif neg then !c else c)) none else .bad 60
    | none => .bad 61)

def evalLoad (τ : Tab) (T : Nat) (p : AV) (h : Heap U) (K : AV → Option Nat → Out U) : Out U :=
  match τ T, p.id? with
  | some R, some id => (match h.get id with | some B => readAt R B p fun v => K v (some id) | none => .bad 62)
  | _, _ => .bad 63

def strAt (s : ByteArray) (i : Int) : Nat := match s[i.toNat]? with | some b => b.toNat | none => 0
def isStr (τ : Tab) (T : Nat) : Bool := match τ T with | some R => (match R.kind with | .str => true | _ => false) | none => false
/-- An array's element, or a string's byte. -/
def evalIndexS (τ : Tab) (T : Nat) (x ix : AV) (K : AV → Out U) : Out U :=
  match x with
  | .raw (.string s) => bif isStr τ T then (match ix.num with | some (_, i, _) => .needd (0 ≤ i ∧ i.toNat < s.size) (K (.int .u8 (strAt s i : Int))) | none => .bad 70) else .bad 70
  | x => (match evalIndex τ T x ix with | some v => K v | none => .bad 70)
theorem evalIndexS_sound (hτ : τ.met P) {M : Goal U} {T : Nat} {x ix : AV} {K : AV → Out U} (h : (evalIndexS τ T x ix K).holds M) :
    ∃ v, (K v).holds M ∧ ∀ (r : Nm) (u ui : Value) (w : World), rel r x u → rel r ix ui → ∃ z, (Instr.index T u ui).run P w = .ok z w ∧ rel r v z := by
  unfold evalIndexS at h
  split at h
  · rename_i s
    rw [holds_bif] at h
    split at h
    · rename_i hs
      have hT : P.underlying T = some .string := by
        unfold isStr at hs
        split at hs
        · rename_i R hR
          split at hs
          · rename_i hk
            have hm := (hτ T R hR).kind; rw [hk] at hm; exact hm
          · cases hs
        · cases hs
      split at h
      · rename_i k i l hi
        obtain ⟨⟨h0, h1⟩, h⟩ := h
        refine ⟨_, h, fun r u ui w hu hix => ?_⟩
        have e := rel_num hi hix; subst e
        have hu : u = .string s := hu
        subst hu
        have hg : s[i.toNat]? = some s[i.toNat] := by simp [h1]
        refine ⟨.int .u8 (s[i.toNat].toNat : Int), ?_, ?_⟩
        · simp [Instr.index, asIntOf, run_underlying hT, h0, hg]
        · unfold strAt; rw [hg]; rfl
      · exact h.elim
    · exact h.elim
  · split at h
    · rename_i v hv
      exact ⟨v, h, fun r u ui w hu hi => evalIndex_sound hτ hv hu hi w⟩
    · exact h.elim

def evalL0 (τ : Tab) (κ : Kinds U) (op : Op) (ev : Operand → AV) (h : Heap U) (K : AV → Option Nat → Out U) : Out U :=
  match op with
  | .move x => K (ev x) none
  | .assign x => K (ev x) none
  | .pick c a b => (match (ev c).bl with
    | some (cb, true) => K (bif cb then ev a else ev b) none
    | some (cb, false) => (match (ev a).bl, (ev b).bl with
      | some (x, _), some (y, _) => K (.bool (bif cb then x else y)) none
      | _, _ => .bad 64)
    | none => .bad 65)
  | .nilCheck x => bif (ev x).solid then K (ev x) none else .bad 66
  | .binOp o T x y _ => (match o with
    | .eql => evalEq τ false T x y (ev x) (ev y) K
    | .neq => evalEq τ true T x y (ev x) (ev y) K
    | o => evalBin o (ev x) (ev y) fun v => K v none)
  | .unOp o _ x => onOpt (evalUn o (ev x)) 67 K
  | .convert s d x => onOpt (evalConv τ s d (ev x)) 68 K
  | .field T x f => onOpt (evalField τ T f (ev x)) 69 K
  | .index T x ix => evalIndexS τ T (ev x) (ev ix) fun v => K v none
  | .extract x i => (match ev x with | .tup vs => onOpt vs[i]? 71 K | _ => .bad 72)
  | .fieldAddr T x f => onOpt (evalFieldAddr τ T f (ev x)) 73 K
  | .indexAddr T x ix => evalIndexAddr τ T (ev x) (ev ix) fun v => K v none
  | .slice T x lo hi mx => evalSlice τ T (ev x) (lo.map ev) (hi.map ev) (mx.map ev) fun v => K v none
  | .load T x => evalLoad τ T (ev x) h K
  | .makeFunc fn fs cs => (match fn with | .func f => K (.fn f (fs.toList.map ev) (cs.toList.map ev)) none | _ => .bad 74)
  | .makeInterface T x => (match τ T with | some R => (match R.kind with | .iface => .bad 75 | .other => .bad 75 | _ => K (.ifc T (ev x)) none) | none => .bad 76)
  | .build T ps => (match τ T with
    | some R => (match R.kind with
      | .struct fs => bif (ps.toList.all fun q => (ev q.2).plain) then (match fillAV (fun i => match fs[i]? with | some (off, ft) => (match τ ft with | some F => some (off, F.size) | none => none) | none => none) R.zero (ps.toList.map fun q => (q.1, ev q.2)) with | some cs => bif fs.all (fun q => (τ q.2).isSome) then K (.agg cs) none else .bad 77 | none => .bad 77) else .bad 78
      | .array _ e => (match τ e with
        | some E => bif (ps.toList.all fun q => (ev q.2).plain) then (match fillAV (fun i => some (i * E.size, E.size)) R.zero (ps.toList.map fun q => (q.1, ev q.2)) with | some cs => K (.agg cs) none | none => .bad 77) else .bad 78
        | none => .bad 77)
      | _ => .bad 79)
    | none => .bad 80)
  | .lookup T m k ok => (match ev m with
    | .mp id => (match h.get id with | some B => evalLookup τ κ T B (ev k) ok fun v => K v (some id) | none => .bad 81)
    | _ => .bad 82)
  | .call { callee := .builtin b, args, argTypes } => (match b, args.toList, argTypes[0]? with
    | .len, [x], some T => (match ev x with
      | .mp id => (match h.get id, τ T with
        | some (.mp _ _ m), some R => (match R.kind with | .map _ _ => K (.int .i64 (m.length : Int)) (some id) | _ => .bad 83)
        | _, _ => .bad 84)
      | v => onOpt (evalLen τ T v) 85 K)
    | .min, [x, y], _ => onOpt (evalMin2 (ev x) (ev y)) 86 K
    | .max, [x, y], _ => onOpt (evalMax2 (ev x) (ev y)) 87 K
    | _, _, _ => .bad 88)
  | _ => .bad 89

def Lz (P : Program) (o : Oper) (ev : Operand → AV) (v : AV) (rd : Option (Nat × Blk U)) : Prop :=
  ∀ (β : Base) (r : Nm) (a : Act) (w : World), (∀ x ∈ o.op.operands.toList, rel r (ev x) (a.eval x)) →
    (∀ id B, rd = some (id, B) → ∃ H1, B.den β.G r id H1 ∧ H1.inW w ∧ β.G.inW w) → ∃ z, (execOp a.eval o).run P w = .ok (.value z) w ∧ rel r v z

def rdOf (h : Heap U) (rd : Option Nat) : Option (Nat × Blk U) := match rd with | some id => (match h.get id with | some B => some (id, B) | none => none) | none => none

/-- What an evaluator owes. -/
def LzOut (P : Program) (M : Goal U) (o : Oper) (ev : Operand → AV) (h : Heap U) (K : AV → Option Nat → Out U) : Prop :=
  ∃ v rd, (K v rd).holds M ∧ Lz P o ev v (rdOf h rd) ∧ (∀ id, rd = some id → h.get id ≠ none)

theorem lz_none {M : Goal U} {o : Oper} {ev : Operand → AV} {h : Heap U} {K : AV → Option Nat → Out U} {v : AV} (hK : (K v none).holds M)
    (hv : ∀ (r : Nm) (a : Act) (w : World), (∀ x ∈ o.op.operands.toList, rel r (ev x) (a.eval x)) → ∃ z, (execOp a.eval o).run P w = .ok (.value z) w ∧ rel r v z) : LzOut P M o ev h K :=
  ⟨v, none, hK, fun _ r a w ho _ => hv r a w ho, fun _ e => by cases e⟩

theorem onOpt_some {M : Goal U} {x : Option AV} {n : Nat} {K : AV → Option Nat → Out U} (h : (onOpt x n K).holds M) : ∃ v, x = some v ∧ (K v none).holds M := by
  unfold onOpt at h; split at h
  · exact ⟨_, rfl, h⟩
  · exact h.elim

theorem run_value {s : Sem Value} {z : Value} {w : World} (h : s.run P w = .ok z w) : (do pure (Next.value (← s)) : Sem Next).run P w = .ok (.value z) w := by
  simp [h]

set_option maxHeartbeats 2000000 in
theorem evalL0_sound (hτ : τ.met P) {κ : Kinds U} (hκ : κ.met τ) {M : Goal U} {dst : Option Tmp} {op : Op} {type : Nat} {pos : String} {after : Array Edge} {guard : Option (Nat × Bool)} {ev : Operand → AV} {h : Heap U} {K : AV → Option Nat → Out U}
    (H : (evalL0 τ κ op ev h K).holds M) : LzOut P M ⟨dst, op, type, pos, after, guard⟩ ev h K := by
  cases op <;> simp only [evalL0] at H <;> try exact H.elim
  case move x =>
    exact lz_none H fun r a w ho => ⟨_, rfl, ho x (by simp [Op.operands])⟩
  case assign x =>
    exact lz_none H fun r a w ho => ⟨_, rfl, ho x (by simp [Op.operands])⟩
  case pick c x y =>
    split at H
    · rename_i cb hc
      refine lz_none H fun r a w ho => ?_
      have e := rel_bl hc (ho c (by simp [Op.operands]))
      refine ⟨if cb then a.eval x else a.eval y, ?_, ?_⟩
      · simp [execOp, e, asBool]
      · cases cb
        · exact ho y (by simp [Op.operands])
        · exact ho x (by simp [Op.operands])
    · rename_i cb hc
      split at H
      · rename_i p lp q lq hp hq
        refine lz_none H fun r a w ho => ?_
        have e := rel_bl hc (ho c (by simp [Op.operands]))
        have e1 := rel_bl hp (ho x (by simp [Op.operands]))
        have e2 := rel_bl hq (ho y (by simp [Op.operands]))
        refine ⟨if cb then a.eval x else a.eval y, ?_, ?_⟩
        · simp [execOp, e, asBool]
        · cases cb <;> simp [e1, e2, rel]
      · exact H.elim
    · exact H.elim
  case nilCheck x =>
    rw [holds_bif] at H
    split at H
    · rename_i hs
      refine lz_none H fun r a w ho => ?_
      have e := ho x (by simp [Op.operands])
      refine ⟨a.eval x, ?_, e⟩
      cases hx : ev x <;> rw [hx] at hs e <;> simp [AV.solid] at hs <;> simp only [rel] at e
      · obtain ⟨y, _, e⟩ := e; simp [execOp, e]
      · obtain ⟨y, _, e⟩ := e; simp [execOp, e]
      · obtain ⟨y, z, _, _, e⟩ := e; simp [execOp, e]
      · obtain ⟨y, _, e⟩ := e; simp [execOp, e]
    · exact H.elim
  case binOp o T x y yt =>
    have fin : ∀ o, (evalBin o (ev x) (ev y) fun v => K v none).holds M → LzOut P M ⟨dst, .binOp o T x y yt, type, pos, after, guard⟩ ev h K := by
      intro o H
      obtain ⟨v, hv, hall⟩ := evalBin_sound H
      refine lz_none hv fun r a w ho => ?_
      obtain ⟨z, hz, hr⟩ := hall P r w T _ _ x y (ho x (by simp [Op.operands])) (ho y (by simp [Op.operands]))
      exact ⟨z, run_value hz, hr⟩
    have fin2 : ∀ neg, (evalEq τ neg T x y (ev x) (ev y) K).holds M → LzOut P M ⟨dst, .binOp (bif neg then .neq else .eql) T x y yt, type, pos, after, guard⟩ ev h K := by
      intro neg H
      unfold evalEq at H
      split at H
      · exact fin _ H
      · split at H
        · rename_i c he
          refine lz_none H fun r a w ho => ?_
          obtain ⟨x', h0, e1, e2⟩ := slNil_sound hτ he (ho x (by simp [Op.operands])) (ho y (by simp [Op.operands])) w x y
          cases neg
          · exact ⟨_, run_value e1, ⟨x', rfl, fun hh => h0 (by simpa using hh)⟩⟩
          · exact ⟨_, run_value e2, ⟨!x', rfl, fun hh => h0 (by simpa using hh)⟩⟩
        split at H
        · rename_i c l he
          rw [holds_bif] at H
          split at H
          · rename_i hc
            refine lz_none H fun r a w ho => ?_
            obtain ⟨e1, e2⟩ := evalEql_sound hτ he (ho x (by simp [Op.operands])) (ho y (by simp [Op.operands])) w x y (by simpa [or_assoc] using hc)
            cases neg
            · exact ⟨_, run_value e1, by simp [rel_mkBool]⟩
            · exact ⟨_, run_value e2, by simp [rel_mkBool]⟩
          · exact H.elim
        · exact H.elim
    split at H
    · exact fin2 false H
    · exact fin2 true H
    · exact fin _ H
  case unOp o T x =>
    obtain ⟨v, hv, hK⟩ := onOpt_some H
    refine lz_none hK fun r a w ho => ?_
    obtain ⟨z, hz, hr⟩ := evalUn_sound (P := P) hv (ho x (by simp [Op.operands])) w
    exact ⟨z, run_value hz, hr⟩
  case convert s d x =>
    obtain ⟨v, hv, hK⟩ := onOpt_some H
    refine lz_none hK fun r a w ho => ?_
    obtain ⟨z, hz, hr⟩ := evalConv_sound hτ hv (ho x (by simp [Op.operands])) w
    exact ⟨z, run_value hz, hr⟩
  case field T x f =>
    obtain ⟨v, hv, hK⟩ := onOpt_some H
    refine lz_none hK fun r a w ho => ?_
    obtain ⟨z, hz, hr⟩ := evalField_sound hτ hv (ho x (by simp [Op.operands])) w
    exact ⟨z, run_value hz, hr⟩
  case index T x ix =>
    obtain ⟨v, hK, hall⟩ := evalIndexS_sound hτ H
    refine lz_none hK fun r a w ho => ?_
    obtain ⟨z, hz, hr⟩ := hall r _ _ w (ho x (by simp [Op.operands])) (ho ix (by simp [Op.operands]))
    exact ⟨z, run_value hz, hr⟩
  case fieldAddr T x f =>
    obtain ⟨v, hv, hK⟩ := onOpt_some H
    refine lz_none hK fun r a w ho => ?_
    obtain ⟨z, hz, hr⟩ := evalFieldAddr_sound hτ hv (ho x (by simp [Op.operands])) w
    exact ⟨z, run_value hz, hr⟩
  case indexAddr T x ix =>
    obtain ⟨v, hK, hall⟩ := evalIndexAddr_sound hτ H
    refine lz_none hK fun r a w ho => ?_
    obtain ⟨z, hz, hr⟩ := hall r _ _ w (ho x (by simp [Op.operands])) (ho ix (by simp [Op.operands]))
    exact ⟨z, run_value hz, hr⟩
  case extract x i =>
    split at H
    · rename_i vs hx
      obtain ⟨v, hv, hK⟩ := onOpt_some H
      refine lz_none hK fun r a w ho => ?_
      have e := ho x (by simp [Op.operands])
      rw [hx] at e
      obtain ⟨us, hus, e⟩ := e
      obtain ⟨u, hu, hr⟩ := relL_get hus hv
      exact ⟨u, by simp [execOp, e, Instr.extract, hu], hr⟩
    · exact H.elim
  case slice T x lo hi mx =>
    obtain ⟨v, hK, hall⟩ := evalSlice_sound hτ H
    refine lz_none hK fun r a w ho => ?_
    have hin : ∀ (q : Option Operand), (∀ y ∈ q.toArray.toList, rel r (ev y) (a.eval y)) → (∀ y, q.map ev = some y → ∃ z, q.map a.eval = some z ∧ rel r y z) ∧ (q.map ev = none → q.map a.eval = none) := by
      intro q hq
      cases q with
      | none => exact ⟨fun y e => by simp at e, fun _ => rfl⟩
      | some y => exact ⟨fun z e => by simp at e; subst e; exact ⟨_, rfl, hq y (by simp)⟩, fun e => by simp at e⟩
    have h1 := hin lo (fun y hy => ho y (by simp [Op.operands] at hy ⊢; simp [hy]))
    have h2 := hin hi (fun y hy => ho y (by simp [Op.operands] at hy ⊢; simp [hy]))
    have h3 := hin mx (fun y hy => ho y (by simp [Op.operands] at hy ⊢; simp [hy]))
    obtain ⟨z, hz, hr⟩ := hall r _ _ _ _ w (ho x (by simp [Op.operands])) h1.1 h1.2 h2.1 h2.2 h3.1 h3.2
    exact ⟨z, run_value hz, hr⟩
  case load T x =>
    unfold evalLoad at H
    split at H
    · rename_i R id hR hid
      split at H
      · rename_i B hB
        obtain ⟨v, hK, hall⟩ := readAt_sound (hτ T R hR) H hid
        refine ⟨v, some id, hK, ?_, fun id' e => by cases e; rw [hB]; simp⟩
        intro β r a w ho hrd
        obtain ⟨H1, hd, hw, hG⟩ := hrd id B (by simp [rdOf, hB])
        obtain ⟨z, hz, hr⟩ := hall β r w H1 _ (ho x (by simp [Op.operands])) hd hw hG
        exact ⟨z, run_value hz, hr⟩
      · exact H.elim
    · exact H.elim
  case makeFunc fn fs cs =>
    split at H
    · rename_i f
      refine lz_none H fun r a w ho => ?_
      have hl : ∀ l : List Operand, (∀ x ∈ l, rel r (ev x) (a.eval x)) → relL r (l.map ev) (l.map a.eval) := by
        intro l
        induction l with
        | nil => intro _; exact relL_nil
        | cons x l ih => intro hh; exact relL_cons.2 ⟨hh x (by simp), ih fun y hy => hh y (by simp [hy])⟩
      refine ⟨_, rfl, ⟨_, _, hl fs.toList (fun x hx => ho x (by simp [Op.operands] at hx ⊢; simp [hx])), hl cs.toList (fun x hx => ho x (by simp [Op.operands] at hx ⊢; simp [hx])), ?_⟩⟩
      have hmap : ∀ l : Array Operand, l.map a.eval = (l.toList.map a.eval).toArray := fun l => by apply Array.ext'; simp
      simp only [hmap]
    · exact H.elim
  case makeInterface T x =>
    split at H
    · rename_i R hR
      have hm := (hτ T R hR).kind
      have key : ∀ d, P.underlying T = some d → (∀ ms, d ≠ .interface ms) → (K (.ifc T (ev x)) none).holds M → LzOut P M ⟨dst, .makeInterface T x, type, pos, after, guard⟩ ev h K := by
        intro d hd hne H
        refine lz_none H fun r a w ho => ⟨.iface T (a.eval x), ?_, ⟨_, ho x (by simp [Op.operands]), rfl⟩⟩
        refine run_value ?_
        simp only [Instr.makeInterface, Sem.run_bind, run_underlying hd, Result.andThen_ok]
        cases d <;> first | rfl | exact absurd rfl (hne _)
      cases hk : R.kind <;> rw [hk] at H hm <;> simp only [TK.met] at hm <;> simp only at H <;>
        first
          | exact H.elim
          | exact key _ hm (fun _ e => by cases e) H
          | (obtain ⟨fs, hm, _⟩ := hm; exact key _ hm (fun _ e => by cases e) H)
          | (obtain ⟨b1, b2, b3, hm⟩ := hm; exact key _ hm (fun _ e => by cases e) H)
    · exact H.elim
  case build T ps =>
    split at H
    · rename_i R hR
      split at H
      · rename_i fs hk
        rw [holds_bif] at H
        split at H
        · rename_i hpl
          split at H
          · rename_i cs hfill
            rw [holds_bif] at H
            split at H
            · rename_i hsome
              refine lz_none H fun r a w ho => ?_
              have hm := hτ T R hR
              obtain ⟨fields, hu, hmap⟩ := (by have := hm.kind; rw [hk] at this; exact this : TK.met P T (.struct fs))
              obtain ⟨i, z, hi, _, _, hz, _, hrz, _⟩ := hm.info
              rw [hk] at hrz
              obtain ⟨zs, hzs, rfl⟩ := hrz
              have hzs' : relL r R.zero zs := relL_mono (fun _ _ e => by cases e) _ _ hzs
              have hplaces : (fields.mapM fun f => do pure (f.offset, ← sizeOf f.type) : Sem (Array (Nat × Nat))).run P w = .ok ((fs.map fun q => (q.1, ((τ q.2).map (·.size)).getD 0)).toArray) w := by
                rw [Array.mapM_eq_mapM_toList]
                have : ∀ (l : List Field), (∀ f ∈ l, (τ f.type).isSome = true) → (l.mapM (fun f => do pure (f.offset, ← sizeOf f.type) : Field → Sem (Nat × Nat))).run P w = .ok (l.map fun f => (f.offset, ((τ f.type).map (·.size)).getD 0)) w := by
                  intro l
                  induction l with
                  | nil => intro _; rfl
                  | cons f l ih =>
                    intro hh
                    have hf := hh f (by simp)
                    cases hF : τ f.type with
                    | none => rw [hF] at hf; simp at hf
                    | some F =>
                      simp only [List.mapM_cons, Sem.run_bind, run_sizeOf (hτ _ F hF), Result.andThen_ok, Sem.run_pure, ih fun g hg => hh g (by simp [hg]), List.map_cons, hF, Option.map_some, Option.getD_some]
                have hh := this fields.toList (fun f hf => by
                  have := List.all_eq_true.1 hsome (f.offset, f.type) (by rw [← hmap]; exact List.mem_map.2 ⟨f, hf, rfl⟩)
                  simpa using this)
                rw [← hmap]
                simp only [Sem.run_map, hh, Result.andThen_ok, List.map_map]
                rfl
              have hpl' : ((ps.toList.map fun q => (q.1, ev q.2)).all fun q => q.2.plain) = true := by simpa [List.all_map] using hpl
              obtain ⟨ov, ho1, ho2⟩ := fill_sound (r := r) _ ((ps.map fun q => (q.1, a.eval q.2)).toList) _ cs zs.toArray hfill hpl' (by simp) (fun j i x hj => by
                simp only [List.getElem?_map, Option.map_eq_some_iff] at hj
                obtain ⟨q, hq, he⟩ := hj
                simp only [Prod.mk.injEq] at he
                obtain ⟨rfl, rfl⟩ := he
                refine ⟨a.eval q.2, by simp [hq], ho q.2 ?_⟩
                simp only [Op.operands, List.mem_map]
                exact ⟨q, List.mem_of_getElem? hq, rfl⟩) (by simpa using hzs')
              refine ⟨.agg ov, run_value ?_, ⟨ov.toList, ho2, by simp⟩⟩
              unfold Instr.build
              simp only [Sem.run_bind, zeroValue, typeInfo, run_program, hi, Result.andThen_ok, Sem.run_pure, hz, run_underlying hu, hplaces, Value.cells]
              have hpe : (fun i : Nat => (fs.map fun q => (q.1, ((τ q.2).map (·.size)).getD 0)).toArray[i]?) = (fun i : Nat => match fs[i]? with | some (off, ft) => (match τ ft with | some F => some (off, F.size) | none => none) | none => none) := by
                funext i
                simp only [List.getElem?_toArray, List.getElem?_map]
                cases hi : fs[i]? with
                | none => rfl
                | some q =>
                  obtain ⟨off, ft⟩ := q
                  have := List.all_eq_true.1 hsome (off, ft) (List.mem_of_getElem? hi)
                  cases hft : τ ft with
                  | none => simp [hft] at this
                  | some F => simp [hft]
              rw [hpe]
              simp only [ho1]
              rfl
            · exact H.elim
          · exact H.elim
        · exact H.elim
      · rename_i n e hk
        split at H
        · rename_i E hE
          rw [holds_bif] at H
          split at H
          · rename_i hpl
            split at H
            · rename_i cs hfill
              refine lz_none H fun r a w ho => ?_
              have hm := hτ T R hR
              have hu : P.underlying T = some (.array n e) := by have := hm.kind; rw [hk] at this; exact this
              obtain ⟨i, z, hi, _, _, hz, _, hrz, _⟩ := hm.info
              rw [hk] at hrz
              obtain ⟨zs, hzs, rfl⟩ := hrz
              have hzs' : relL r R.zero zs := relL_mono (fun _ _ e => by cases e) _ _ hzs
              have hpl' : ((ps.toList.map fun q => (q.1, ev q.2)).all fun q => q.2.plain) = true := by simpa [List.all_map] using hpl
              obtain ⟨ov, ho1, ho2⟩ := fill_sound (r := r) _ ((ps.map fun q => (q.1, a.eval q.2)).toList) _ cs zs.toArray hfill hpl' (by simp) (fun j i x hj => by
                simp only [List.getElem?_map, Option.map_eq_some_iff] at hj
                obtain ⟨q, hq, he⟩ := hj
                simp only [Prod.mk.injEq] at he
                obtain ⟨rfl, rfl⟩ := he
                refine ⟨a.eval q.2, by simp [hq], ho q.2 ?_⟩
                simp only [Op.operands, List.mem_map]
                exact ⟨q, List.mem_of_getElem? hq, rfl⟩) (by simpa using hzs')
              refine ⟨.agg ov, run_value ?_, ⟨ov.toList, ho2, by simp⟩⟩
              unfold Instr.build
              simp only [Sem.run_bind, zeroValue, typeInfo, run_program, hi, Result.andThen_ok, Sem.run_pure, hz, run_underlying hu, run_sizeOf (hτ _ E hE), Value.cells]
              simp only [ho1]
              rfl
            · exact H.elim
          · exact H.elim
        · exact H.elim
      · exact H.elim
    · exact H.elim
  case lookup T m k ok =>
    split at H
    · rename_i id hm
      split at H
      · rename_i B hB
        obtain ⟨v, hK, hall⟩ := evalLookup_sound (id := id) hτ hκ H
        refine ⟨v, some id, hK, ?_, fun id' e => by cases e; rw [hB]; simp⟩
        intro β r a w ho hrd
        obtain ⟨H1, hd, hw, _⟩ := hrd id B (by simp [rdOf, hB])
        have hmm := ho m (by simp [Op.operands]); rw [hm] at hmm
        obtain ⟨z, hz, hr⟩ := hall β r w H1 _ _ hmm (ho k (by simp [Op.operands])) hd hw
        exact ⟨z, run_value hz, hr⟩
      · exact H.elim
    · exact H.elim
  case call c =>
    obtain ⟨callee, args, argTypes⟩ := c
    cases callee <;> simp only at H <;> try exact H.elim
    rename_i b
    split at H
    · rename_i x T hargs hT
      obtain ⟨args⟩ := args
      simp only at hargs; subst hargs
      split at H
      · rename_i id hx
        split at H
        · rename_i kk k m R hB hR
          split at H
          · rename_i k' e' hK'
            refine ⟨_, some id, H, ?_, fun id' e => by cases e; rw [hB]; simp⟩
            intro β r a w ho hrd
            obtain ⟨H1, hd, hw, _⟩ := hrd id (.mp kk k m) (by simp [rdOf, hB])
            have hxx := ho x (by simp [Op.operands, Call.operands]); rw [hx] at hxx
            obtain ⟨y, hy, hxx⟩ := hxx
            obtain ⟨b, es, clock, hb, hrm, _, rfl⟩ := hd
            rw [hy] at hb; cases hb
            have hT' := (hτ T R hR).kind; rw [hK'] at hT'; simp only [TK.met] at hT'
            have hget : (getObj b).run P w = .ok (.map es clock) w := by simp [getObj, Sem.run, Hp.inW_one.1 hw]
            refine ⟨.int .i64 (es.size : Int), ?_, ?_⟩
            · have : (Builtin.len_ argTypes type #[.map (some b)]).run P w = .ok (.int .i64 (es.size : Int)) w := by
                simp [Builtin.len_, hT, run_underlying hT', hget, goInt]
              simp [execOp, resolve, invoke, builtin, hxx, this]
            · have := relM_length hrm
              simp only [Array.length_toList] at this
              simp [rel, this]
          · exact H.elim
        · exact H.elim
      · obtain ⟨v, hv, hK⟩ := onOpt_some H
        refine lz_none hK fun r a w ho => ?_
        obtain ⟨z, hz, hr⟩ := evalLen_sound hτ hv (ho x (by simp [Op.operands, Call.operands])) argTypes hT type w
        exact ⟨z, by simp [execOp, resolve, invoke, builtin, hz], hr⟩
    · rename_i x y hargs
      obtain ⟨args⟩ := args
      simp only at hargs; subst hargs
      obtain ⟨v, hv, hK⟩ := onOpt_some H
      refine lz_none hK fun r a w ho => ?_
      obtain ⟨z, hz, hr⟩ := evalMin2_sound (P := P) hv (ho x (by simp [Op.operands, Call.operands])) (ho y (by simp [Op.operands, Call.operands])) argTypes type w
      exact ⟨z, by simp [execOp, resolve, invoke, builtin, hz], hr⟩
    · rename_i x y hargs
      obtain ⟨args⟩ := args
      simp only at hargs; subst hargs
      obtain ⟨v, hv, hK⟩ := onOpt_some H
      refine lz_none hK fun r a w ho => ?_
      obtain ⟨z, hz, hr⟩ := evalMax2_sound (P := P) hv (ho x (by simp [Op.operands, Call.operands])) (ho y (by simp [Op.operands, Call.operands])) argTypes type w
      exact ⟨z, by simp [execOp, resolve, invoke, builtin, hz], hr⟩
    · exact H.elim

end
end Sx
end Go.Proofs.YtnegocgblmdihaaGreatDoor

