/-
  A region whose order is drawn: what only reads is taken as soon as it may be; what writes in each order that the edges leave.
-/
import Derived.Test.YtemcdjdglcceiaaSxN
namespace Go.Proofs.Ytemcdjdglcceiaa
namespace Sx
open Go

section
variable {U : Uni} {P : Program} {τ : Tab}

structure RS (U : Uni) where
  env : List (Nat × AV)
  heap : Heap U
  nx : Nat
  tl : List Nat
  done : List Nat
  rds : List (Nat × Nat)

def edgeOn (o : Oper) (i : Nat) : Bool := o.after.toList.any fun e => Region.binds .any e && Nat.beq e.on i
def readyB (done : List Nat) (o : Oper) : Bool := o.after.toList.all fun e => !(Region.binds .any e) || elemN done e.on
def looksB (ops : Array Oper) (o : Oper) (d : Nat) : Bool := elemN (o.looksAt ops) d
def dstIs (o : Oper) (d : Nat) : Bool := match o.dst with | some x => Nat.beq x d | none => false

/-- Reads alone, and what it tells is no other one's, and whoever asks for it waits for it. -/
def lazyB (ops : Array Oper) (i : Nat) (o : Oper) : Bool :=
  isLz o.op && (match o.dst with
    | none => false
    | some d => ops.toList.zipIdx.all fun q => Nat.beq q.2 i || (!(dstIs q.1 d) && (!(looksB ops q.1 d) || edgeOn q.1 i)))

def ancB (ops : Array Oper) : Nat → Nat → Nat → Bool
  | 0, _, _ => false
  | n + 1, i, j => (match ops[i]? with
    | some o => edgeOn o j || o.after.toList.any fun e => Region.binds .any e && ancB ops n e.on j
    | none => false)

/-- Whoever asks for what this one writes waits for it, or comes ahead of it. -/
def eagerB (ops : Array Oper) (i : Nat) (o : Oper) : Bool :=
  match o.dst with
  | none => true
  | some d => ops.toList.zipIdx.all fun q => Nat.beq q.2 i || !(looksB ops q.1 d) || edgeOn q.1 i || ancB ops ops.size i q.2

def firstLazy (ops : Array Oper) (done : List Nat) : List (Oper × Nat) → Option (Oper × Nat)
  | [] => none
  | (o, i) :: l => bif !(elemN done i) && readyB done o && lazyB ops i o then some (o, i) else firstLazy ops done l

def readyAll (done : List Nat) (l : List (Oper × Nat)) : List (Oper × Nat) := l.filter fun q => !(elemN done q.2) && readyB done q.1

def bothAll : List (Out U) → Out U
  | [] => .bad 220
  | [o] => o
  | o :: os => .both o (bothAll os)

def putRd (i : Nat) (rd : Option Nat) (rds : List (Nat × Nat)) : List (Nat × Nat) := match rd with | some id => (i, id) :: rds | none => rds

def stable (ops : Array Oper) (i : Nat) (T : List Nat) (rds : List (Nat × Nat)) : Bool := rds.all fun q => !(elemN T q.2) || ancB ops ops.size i q.1

def explore (τ : Tab) (κ : Kinds U) (C : CallF U) (ops : Array Oper) : Nat → RS U → (RS U → Out U) → Out U
  | 0, _, _ => .bad 221
  | n + 1, s, K =>
    match firstLazy ops s.done ops.toList.zipIdx with
    | some (o, i) => (match want? ops s.env o with
      | .yes => evalL τ κ o.op (evO s.env) s.heap (fun v rd => explore τ κ C ops n { s with env := envPut s.env o.dst v, done := i :: s.done, rds := putRd i rd s.rds } K)
      | .no => explore τ κ C ops n { s with env := envPut s.env o.dst (.raw undef), done := i :: s.done } K
      | .ask d b => .ite b (explore τ κ C ops n { s with env := (d, .tt) :: s.env } K) (explore τ κ C ops n { s with env := (d, .ff) :: s.env } K)
      | .bad => .bad 222)
    | none => (match readyAll s.done ops.toList.zipIdx with
      | [] => bif Nat.beq s.done.length ops.size then K s else .bad 223
      | es => bothAll (es.map fun q => (match want? ops s.env q.1 with
        | .yes => bif eagerB ops q.2 q.1 then stepAny τ κ C q.1.op s.env s.heap s.nx (fun v h' nx' T _ => bif stable ops q.2 T s.rds then explore τ κ C ops n { s with env := envPut s.env q.1.dst v, heap := h', nx := nx', tl := T ++ s.tl, done := q.2 :: s.done } K else .bad 224) else .bad 225
        | .no => bif eagerB ops q.2 q.1 then explore τ κ C ops n { s with env := envPut s.env q.1.dst (.raw undef), done := q.2 :: s.done } K else .bad 226
        | .ask d b => .ite b (explore τ κ C ops n { s with env := (d, .tt) :: s.env } K) (explore τ κ C ops n { s with env := (d, .ff) :: s.env } K)
        | .bad => .bad 227)))

theorem bothAll_holds {M : Goal U} : ∀ {l : List (Out U)} {o : Out U}, (bothAll l).holds M → o ∈ l → o.holds M
  | [x], o, h, ho => by simp at ho; subst ho; exact h
  | x :: y :: l, o, h, ho => by
    obtain ⟨h1, h2⟩ := h
    rcases List.mem_cons.1 ho with rfl | ho
    · exact h1
    · exact bothAll_holds h2 ho

theorem firstLazy_some {ops : Array Oper} {done : List Nat} : ∀ {l : List (Oper × Nat)} {o : Oper} {i : Nat}, firstLazy ops done l = some (o, i) →
    (o, i) ∈ l ∧ i ∉ done ∧ readyB done o = true ∧ lazyB ops i o = true
  | [], _, _, h => by simp [firstLazy] at h
  | (p, j) :: l, o, i, h => by
    unfold firstLazy at h
    cases hc : (!(elemN done j) && readyB done p && lazyB ops j p) with
    | true =>
      rw [hc] at h; simp at h; obtain ⟨h1, h2⟩ := h
      subst h1; subst h2
      simp only [Bool.and_eq_true, Bool.not_eq_true'] at hc
      exact ⟨by simp, fun hm => by rw [elemN_iff.2 hm] at hc; simp at hc, hc.1.2, hc.2⟩
    | false =>
      rw [hc] at h; simp at h
      obtain ⟨h1, h2⟩ := firstLazy_some h
      exact ⟨by simp [h1], h2⟩
theorem firstLazy_none {ops : Array Oper} {done : List Nat} : ∀ {l : List (Oper × Nat)}, firstLazy ops done l = none → ∀ o i, (o, i) ∈ l → i ∉ done → readyB done o = true → lazyB ops i o = false
  | [], _, _, _, h, _, _ => by simp at h
  | (p, j) :: l, h, o, i, hm, hn, hr => by
    unfold firstLazy at h
    cases hc : (!(elemN done j) && readyB done p && lazyB ops j p) with
    | true => rw [hc] at h; simp at h
    | false =>
      rw [hc] at h; simp at h
      rcases List.mem_cons.1 hm with e | hm
      · have e1 : o = p := congrArg Prod.fst e
        have e2 : i = j := congrArg Prod.snd e
        rw [← e1, ← e2] at hc
        have : elemN done i = false := by cases e : elemN done i with | true => exact absurd (elemN_iff.1 e) hn | false => rfl
        rw [this, hr] at hc; simpa using hc
      · exact firstLazy_none h o i hm hn hr

theorem mem_zipIdx {ops : Array Oper} {o : Oper} {i : Nat} : (o, i) ∈ ops.toList.zipIdx ↔ ops[i]? = some o := by
  rw [List.mem_zipIdx_iff_getElem?]; simp

/-- What waits to be done tells what is known of it already. -/
def Pend (P : Program) (ops : Array Oper) (s : RS U) (i : Nat) (o : Oper) : Prop :=
  (want? ops s.env o = .yes ∧ ∃ v rd, (∀ id B, rd = some (id, B) → s.heap.get id = some B ∧ (i, id) ∈ s.rds) ∧ Lz P o (evO s.env) v rd ∧ ∀ d, o.dst = some d → ∀ r z, rel r v z → rel r (envGet s.env d) z) ∨
  (want? ops s.env o = .no ∧ ∀ d, o.dst = some d → envGet s.env d = .raw undef)

structure Inv (P : Program) (ops : Array Oper) (nt : Nat) (β : Base) (r : Nm) (s : RS U) (L : Array Bool) (a : Act) (w : World) : Prop where
  size : L.size = ops.size
  sub : ∀ i, L.getD i false = true → i ∈ s.done
  eag : ∀ i o, ops[i]? = some o → i ∈ s.done → lazyB ops i o = false → L.getD i false = true
  down : ∀ i o, ops[i]? = some o → L.getD i false = true → ∀ e ∈ o.after.toList, Region.binds .any e = true → L.getD e.on false = true
  ddown : ∀ i o, ops[i]? = some o → i ∈ s.done → ∀ e ∈ o.after.toList, Region.binds .any e = true → e.on ∈ s.done
  nodup : s.done.Nodup ∧ ∀ i ∈ s.done, i < ops.size
  sat : Sat β r s.heap w
  fresh : Fresh r s.nx
  slots : ∀ t, (∀ i o, ops[i]? = some o → i ∈ s.done → L.getD i false = false → o.dst ≠ some t) → rel r (envGet s.env t) (a.tmps.getD t undef)
  pend : ∀ i o, ops[i]? = some o → i ∈ s.done → L.getD i false = false → Pend P ops s i o
  asize : a.tmps.size = nt
  defers : a.defers = []

theorem Lz.weaken {o : Oper} {ev ev' : Operand → AV} {v : AV} {rd : Option (Nat × Blk U)} (h : Lz P o ev v rd) (k : ∀ x ∈ o.op.operands.toList, ∀ r z, rel r (ev' x) z → rel r (ev x) z) : Lz P o ev' v rd :=
  fun β r a w ho hr => h β r a w (fun x hx => k x hx r _ (ho x hx)) hr

theorem looks_tmp {ops : Array Oper} {o : Oper} {t : Nat} (h : Operand.tmp t ∈ o.op.operands.toList) : t ∈ o.looksAt ops := by
  unfold Oper.looksAt
  refine List.mem_append.2 (.inl (List.mem_filterMap.2 ⟨_, h, rfl⟩))
theorem looks_guard {ops : Array Oper} {o : Oper} {j d : Nat} {wt : Bool} (h : o.guard = some (j, wt)) (hd : (ops[j]?).bind (·.dst) = some d) : d ∈ o.looksAt ops := by
  unfold Oper.looksAt
  refine List.mem_append.2 (.inr ?_)
  rw [h]; simp only [hd]; simp

theorem evO_put {env : List (Nat × AV)} {d : Nat} {v : AV} {x : Operand} (h : x ≠ .tmp d) : evO (envPut env (some d) v) x = evO env x := by
  cases x with
  | tmp t => show envGet _ t = envGet _ t; rw [envGet_put, if_neg (fun e => h (by rw [e]))]
  | _ => rfl
theorem want_put {ops : Array Oper} {env : List (Nat × AV)} {o : Oper} {d : Nat} {v : AV} (h : d ∉ o.looksAt ops) : want? ops (envPut env (some d) v) o = want? ops env o := by
  unfold want?
  cases hg : o.guard with
  | none => rfl
  | some q =>
    obtain ⟨j, wt⟩ := q
    simp only
    cases hd : (ops[j]?).bind (·.dst) with
    | none => rfl
    | some d' =>
      simp only
      rw [envGet_put, if_neg (fun e => h (by have := looks_guard hg hd; rw [e] at this; exact this))]

/-- What is pending stays so where neither its words nor its block turn. -/
theorem Pend.keep {ops : Array Oper} {s s' : RS U} {i : Nat} {o : Oper} (h : Pend P ops s i o) {d : Nat} {v : AV} (he : s'.env = envPut s.env (some d) v) (hl : d ∉ o.looksAt ops) (hd : o.dst ≠ some d)
    (hh : ∀ id B, s.heap.get id = some B → (i, id) ∈ s.rds → s'.heap.get id = some B) (hr : ∀ q ∈ s.rds, q ∈ s'.rds) : Pend P ops s' i o := by
  have hev : ∀ x ∈ o.op.operands.toList, evO s'.env x = evO s.env x := fun x hx => by
    rw [he]; exact evO_put (fun e => hl (looks_tmp (e ▸ hx)))
  rcases h with ⟨h1, v', rd, h2, h3, h4⟩ | ⟨h1, h2⟩
  · refine .inl ⟨by rw [he, want_put hl]; exact h1, v', rd, fun id B e => ?_, h3.weaken (fun x hx r z hz => by rw [hev x hx] at hz; exact hz), fun d' e r z hz => ?_⟩
    · obtain ⟨g1, g2⟩ := h2 id B e; exact ⟨hh id B g1 g2, hr _ g2⟩
    · rw [he, envGet_put, if_neg (fun e' => hd (by rw [e, e']))]; exact h4 d' e r z hz
  · refine .inr ⟨by rw [he, want_put hl]; exact h1, fun d' e => ?_⟩
    rw [he, envGet_put, if_neg (fun e' => hd (by rw [e, e']))]; exact h2 d' e
theorem Pend.keepN {ops : Array Oper} {s s' : RS U} {i : Nat} {o : Oper} (h : Pend P ops s i o) (he : s'.env = s.env)
    (hh : ∀ id B, s.heap.get id = some B → (i, id) ∈ s.rds → s'.heap.get id = some B) (hr : ∀ q ∈ s.rds, q ∈ s'.rds) : Pend P ops s' i o := by
  rcases h with ⟨h1, v', rd, h2, h3, h4⟩ | ⟨h1, h2⟩
  · exact .inl ⟨by rw [he]; exact h1, v', rd, fun id B e => let ⟨g1, g2⟩ := h2 id B e; ⟨hh id B g1 g2, hr _ g2⟩, by rw [he]; exact h3, by rw [he]; exact h4⟩
  · exact .inr ⟨by rw [he]; exact h1, by rw [he]; exact h2⟩

theorem lazy_dst {ops : Array Oper} {i : Nat} {o : Oper} (h : lazyB ops i o = true) : isLz o.op = true ∧ ∃ d, o.dst = some d ∧ ∀ j p, ops[j]? = some p → j ≠ i → p.dst ≠ some d ∧ (d ∈ p.looksAt ops → edgeOn p i = true) := by
  unfold lazyB at h
  simp only [Bool.and_eq_true] at h
  obtain ⟨h1, h2⟩ := h
  cases hd : o.dst with
  | none => rw [hd] at h2; simp at h2
  | some d =>
    rw [hd] at h2; simp only at h2
    refine ⟨h1, d, rfl, fun j p hp hj => ?_⟩
    have := List.all_eq_true.1 h2 (p, j) (mem_zipIdx.2 hp)
    simp only [Bool.or_eq_true, Bool.and_eq_true, Bool.not_eq_true'] at this
    rcases this with h | ⟨ha, hb⟩
    · exact absurd (Nat.eq_of_beq_eq_true h) hj
    · refine ⟨fun e => ?_, fun hm => ?_⟩
      · simp [dstIs, e] at ha
      · rcases hb with hb | hb
        · have : looksB ops p d = true := elemN_iff.2 hm
          rw [this] at hb; cases hb
        · exact hb
theorem edge_mem {o : Oper} {i : Nat} (h : edgeOn o i = true) : ∃ e ∈ o.after.toList, Region.binds .any e = true ∧ e.on = i := by
  unfold edgeOn at h
  obtain ⟨e, he, hb⟩ := List.any_eq_true.1 h
  simp only [Bool.and_eq_true] at hb
  exact ⟨e, he, hb.1, Nat.eq_of_beq_eq_true hb.2⟩
theorem anc_listed {ops : Array Oper} {L : Array Bool} (down : ∀ i o, ops[i]? = some o → L.getD i false = true → ∀ e ∈ o.after.toList, Region.binds .any e = true → L.getD e.on false = true) :
    ∀ (n i j : Nat), ancB ops n i j = true → (∀ o, ops[i]? = some o → ∀ e ∈ o.after.toList, Region.binds .any e = true → L.getD e.on false = true) → L.getD j false = true
  | 0, _, _, h, _ => by simp [ancB] at h
  | n + 1, i, j, h, hr => by
    unfold ancB at h
    cases ho : ops[i]? with
    | none => rw [ho] at h; simp at h
    | some o =>
      rw [ho] at h; simp only [Bool.or_eq_true] at h
      rcases h with h | h
      · obtain ⟨e, he, hb, rfl⟩ := edge_mem h; exact hr o ho e he hb
      · obtain ⟨e, he, hb⟩ := List.any_eq_true.1 h
        simp only [Bool.and_eq_true] at hb
        have hl := hr o ho e he hb.1
        exact anc_listed down n e.on j hb.2 (fun o' ho' e' he' hb' => down e.on o' ho' hl e' he' hb')


/-- The world and the frame of an invariant where all is done. -/
theorem Inv.setEnv {ops : Array Oper} {nt : Nat} {β : Base} {r : Nm} {s : RS U} {L : Array Bool} {a : Act} {w : World} (h : Inv P ops nt β r s L a w) {d : Nat} {b : Bool} (hb : envGet s.env d = .bool b) {x : AV} (hx : ∀ r z, rel r x z ↔ rel r (.bool b) z) :
    Inv P ops nt β r { s with env := (d, x) :: s.env } L a w := by
  have hget : ∀ t, envGet ((d, x) :: s.env) t = if t = d then x else envGet s.env t := fun t => envGet_put (env := s.env) (d := d) (t := t) (v := x)
  have hev : ∀ q r z, rel r (evO ((d, x) :: s.env) q) z → rel r (evO s.env q) z := by
    intro q r z hz
    cases q with
    | tmp t =>
      have hz' : rel r (envGet ((d, x) :: s.env) t) z := hz
      show rel r (envGet s.env t) z
      rw [hget] at hz'
      by_cases e : t = d
      · rw [if_pos e] at hz'; rw [e, hb]; exact (hx r z).1 hz'
      · rw [if_neg e] at hz'; exact hz'
    | _ => exact hz
  have hslot : ∀ r z t, rel r (envGet s.env t) z → rel r (envGet ((d, x) :: s.env) t) z := by
    intro r z t hz
    rw [hget]
    by_cases e : t = d
    · rw [if_pos e]; rw [e, hb] at hz; exact (hx r z).2 hz
    · rw [if_neg e]; exact hz
  refine ⟨h.size, h.sub, h.eag, h.down, h.ddown, h.nodup, h.sat, h.fresh, fun t ht => hslot _ _ _ (h.slots t ht), fun i o ho hi hL => ?_, h.asize, h.defers⟩
  have hwant : want? ops s.env o = .yes ∨ want? ops s.env o = .no → want? ops ((d, x) :: s.env) o = want? ops s.env o := by
    intro hw
    unfold want? at hw ⊢
    cases hg : o.guard with
    | none => rfl
    | some q =>
      obtain ⟨j, wt⟩ := q
      rw [hg] at hw; simp only at hw ⊢
      cases hd : (ops[j]?).bind (·.dst) with
      | none => rfl
      | some d' =>
        rw [hd] at hw; simp only at hw ⊢
        rw [hget]
        by_cases e : d' = d
        · subst e; rw [hb] at hw; simp at hw
        · rw [if_neg e]
  rcases h.pend i o ho hi hL with ⟨h1, v, rd, h2, h3, h4⟩ | ⟨h1, h2⟩
  · exact .inl ⟨by rw [hwant (.inl h1)]; exact h1, v, rd, h2, h3.weaken (fun q _ r z hz => hev q r z hz), fun d' e r z hz => hslot r z d' (h4 d' e r z hz)⟩
  · refine .inr ⟨by rw [hwant (.inr h1)]; exact h1, fun d' e => ?_⟩
    show envGet ((d, x) :: s.env) d' = _
    rw [hget]
    by_cases e' : d' = d
    · subst e'; have := h2 d' e; rw [hb] at this; cases this
    · rw [if_neg e']; exact h2 d' e

/-- One that only reads, taken ahead. -/
theorem Inv.ahead {ops : Array Oper} {nt : Nat} {β : Base} {r : Nm} {s : RS U} {L : Array Bool} {a : Act} {w : World} (h : Inv P ops nt β r s L a w) {i : Nat} {o : Oper} (ho : ops[i]? = some o) (hn : i ∉ s.done) (hr : readyB s.done o = true) (hl : lazyB ops i o = true)
    {v : AV} {rds : List (Nat × Nat)} (hrds : ∀ q ∈ s.rds, q ∈ rds) (hp : Pend P ops { s with env := envPut s.env o.dst v, done := i :: s.done, rds := rds } i o) :
    Inv P ops nt β r { s with env := envPut s.env o.dst v, done := i :: s.done, rds := rds } L a w := by
  obtain ⟨hlz, d, hd, huniq⟩ := lazy_dst hl
  have hready : ∀ e ∈ o.after.toList, Region.binds .any e = true → e.on ∈ s.done := by
    intro e he hb
    have := List.all_eq_true.1 hr e he
    rw [hb] at this; simp at this
    exact elemN_iff.1 this
  have hLi : L.getD i false = false := by
    cases e : L.getD i false with
    | false => rfl
    | true => exact absurd (h.sub i e) hn
  refine ⟨h.size, fun j hj => List.mem_cons_of_mem _ (h.sub j hj), ?_, h.down, ?_, ?_, h.sat, h.fresh, ?_, ?_, h.asize, h.defers⟩
  · intro j p hp' hj hlz'
    rcases List.mem_cons.1 hj with rfl | hj
    · rw [ho] at hp'; cases hp'; rw [hl] at hlz'; cases hlz'
    · exact h.eag j p hp' hj hlz'
  · intro j p hp' hj e he hb
    rcases List.mem_cons.1 hj with rfl | hj
    · rw [ho] at hp'; cases hp'; exact List.mem_cons_of_mem _ (hready e he hb)
    · exact List.mem_cons_of_mem _ (h.ddown j p hp' hj e he hb)
  · refine ⟨List.nodup_cons.2 ⟨hn, h.nodup.1⟩, fun j hj => ?_⟩
    rcases List.mem_cons.1 hj with rfl | hj
    · exact (Array.getElem?_eq_some_iff.1 ho).1
    · exact h.nodup.2 j hj
  · intro t ht
    have htd : t ≠ d := fun e => ht i o ho (List.mem_cons_self ..) hLi (by rw [hd, e])
    show rel r (envGet (envPut s.env o.dst v) t) _
    rw [hd, envGet_put, if_neg htd]
    exact h.slots t (fun j p hp' hj hLj => ht j p hp' (List.mem_cons_of_mem _ hj) hLj)
  · intro j p hp' hj hLj
    rcases List.mem_cons.1 hj with rfl | hj
    · rw [ho] at hp'; cases hp'; exact hp
    · have hji : j ≠ i := fun e => hn (e ▸ hj)
      obtain ⟨u1, u2⟩ := huniq j p hp' hji
      refine (h.pend j p hp' hj hLj).keep (d := d) (v := v) (by show envPut s.env o.dst v = _; rw [hd]) (fun hm => ?_) u1 (fun id B e _ => e) hrds
      obtain ⟨e, he, hb, hon⟩ := edge_mem (u2 hm)
      have := h.ddown j p hp' hj e he hb
      rw [hon] at this; exact hn this

end
end Sx
end Go.Proofs.Ytemcdjdglcceiaa
