/-
  A pool: storing, new blocks; the evaluator of operations that make memory or write it, with these.
-/
import Derived.Test.YtmcmdghmglopnaaGreatDoorGrowingP1
namespace Go.Proofs.YtmcmdghmglopnaaGreatDoor
namespace Sx
open Go

section
variable {U : Uni} {P : Program} {τ : Tab}

/-- One block holds all that another one holds: the same; or a pool with more in it. -/
def Blk.leq (B B' : Blk U) : Prop := B = B' ∨ ∃ p p' : Pool, B = .pool p ∧ B' = .pool p' ∧ ∀ b q, p b = some q → p' b = some q
theorem Blk.leq.refl (B : Blk U) : B.leq B := .inl rfl
theorem Blk.leq.trans {A B C : Blk U} (h : A.leq B) (k : B.leq C) : A.leq C := by
  rcases h with rfl | ⟨p, p', rfl, rfl, h⟩
  · exact k
  · rcases k with rfl | ⟨q, q', e, rfl, k⟩
    · exact .inr ⟨p, p', rfl, rfl, h⟩
    · cases e; exact .inr ⟨p, q', rfl, rfl, fun b x e => k b x (h b x e)⟩
def Heap.atLeast (h : Heap U) (id : Nat) (B : Blk U) : Prop := ∃ B', h.get id = some B' ∧ B.leq B'
def Kept (h h' : Heap U) (T : List Nat) : Prop := ∀ id B, h.get id = some B → id ∉ T → h'.atLeast id B
theorem Kept.of {h h' : Heap U} {T : List Nat} (k : ∀ id B, h.get id = some B → id ∉ T → h'.get id = some B) : Kept h h' T := fun id B e hn => ⟨B, k id B e hn, .inl rfl⟩
theorem Kept.comp {h h' h'' : Heap U} {T T' T'' : List Nat} (k : Kept h h' T) (l : Kept h' h'' T') (ht : ∀ i, i ∈ T → i ∈ T'') (ht' : ∀ i, i ∈ T' → i ∈ T'') : Kept h h'' T'' := fun id B e hn =>
  let ⟨B', g1, g2⟩ := k id B e (fun hh => hn (ht id hh)); let ⟨B'', g3, g4⟩ := l id B' g1 (fun hh => hn (ht' id hh)); ⟨B'', g3, g2.trans g4⟩
theorem Sat.atLe {β : Base} {r : Nm} {hp : Heap U} {w : World} (k : Sat β r hp w) {id : Nat} {B : Blk U} (hg : hp.atLeast id B) : ∃ H1, B.den β.G r id H1 ∧ H1.inW w ∧ β.G.inW w := by
  obtain ⟨B', hg, hle⟩ := hg
  obtain ⟨H1, h1, h2, h3⟩ := k.at hg
  rcases hle with rfl | ⟨p, p', rfl, rfl, hle⟩
  · exact ⟨H1, h1, h2, h3⟩
  · have h1 : H1 = p'.hp := h1
    subst h1
    refine ⟨p.hp, rfl, fun x o e => h2 x o ?_, h3⟩
    unfold Pool.hp at e ⊢
    cases hx : p x with
    | none => rw [hx] at e; cases e
    | some q => rw [hx] at e; rw [hle x q hx]; exact e

/-- What an operation does to a world, with pools that may grow. -/
def EgK (P : Program) (o : Oper) (ev : Operand → AV) (h : Heap U) (nw : Nat) (R : AV → Heap U → List Nat → Prop) : Prop :=
  ∀ (β : Base) (r : Nm) (a : Act) (w : World), (∀ x ∈ o.op.operands.toList, rel r (ev x) (a.eval x)) → Sat β r h w → r nw = none →
    ∃ v h' t z w' r', R v h' t ∧ ((execOp a.eval o).run P w = .ok (.value z) w' ∨ ((execOp a.eval o).run P w = .ok .skip w' ∧ z = undef)) ∧
      r.le r' ∧ (∀ i, i ≠ nw → r i = none → r' i = none) ∧ rel r' v z ∧ Sat β r' h' w' ∧ Kept h h' t
theorem Eg.k {o : Oper} {ev : Operand → AV} {h : Heap U} {nw : Nat} {R : AV → Heap U → List Nat → Prop} (H : Eg P o ev h nw R) : EgK P o ev h nw R := fun β r a w ho hs hn =>
  let ⟨v, h', t, z, w', r', h1, h2, h3, h4, h5, h6, h7⟩ := H β r a w ho hs hn; ⟨v, h', t, z, w', r', h1, h2, h3, h4, h5, h6, .of h7⟩

def pdOf : AV → Option PD
  | .int k n => some (.int k n)
  | .lit k n => some (.int k n)
  | .tt => some (.bool true)
  | .ff => some (.bool false)
  | .bool b => some (.bool b)
  | .nilP => some (.ptr none)
  | .rp o => some (.ptr o)
  | .nilS => some (.sl none 0 0)
  | .rs o l c => some (.sl o l c)
  | _ => none
def pdsOf : List AV → Option (List PD)
  | [] => some []
  | x :: xs => match pdOf x, pdsOf xs with | some d, some ds => some (d :: ds) | _, _ => none
theorem pdOf_val {r : Nm} {x : AV} {d : PD} (h : pdOf x = some d) {v : Value} (e : rel r x v) : v = d.val := by
  cases x <;> simp only [pdOf] at h <;> (try (cases h; done)) <;> cases h <;> simpa [rel, PD.val, addrOf] using e
theorem pdsOf_val {r : Nm} : ∀ {xs : List AV} {ds : List PD}, pdsOf xs = some ds → ∀ {vs : List Value}, relL r xs vs → vs = ds.map PD.val
  | [], ds, h, vs, e => by simp only [pdsOf, Option.some.injEq] at h; subst h; simpa [relL] using e
  | x :: xs, ds, h, vs, e => by
    simp only [pdsOf] at h
    split at h
    · rename_i d ds' hd hds
      cases h
      simp only [relL] at e; obtain ⟨v, us, rfl, k, l⟩ := e
      rw [pdOf_val hd k, pdsOf_val hds l]; rfl
    · cases h

/-- The pool of a heap. -/
def poolOf (h : Heap U) : Option (Nat × Pool) := match h.poolId with
  | some id => (match h.get id with | some (.pool p) => some (id, p) | _ => none)
  | none => none
theorem poolOf_get {h : Heap U} {id : Nat} {p : Pool} (e : poolOf h = some (id, p)) : h.get id = some (.pool p) := by
  unfold poolOf at e; split at e
  · split at e
    · cases e; assumption
    · cases e
  · cases e

/-- A pool's block written anew. -/
theorem Sat.poolSet {β : Base} {r : Nm} {hp : Heap U} {w w' : World} (k : Sat β r hp w) {id : Nat} {p p' : Pool} (hg : hp.get id = some (.pool p)) {b : Nat} {q q' : Nat × List PD}
    (hb : p b = some q) (hb' : p' b = some q') (hs' : ∀ x, x ≠ b → p' x = p x) (hw : w'.heap[b]? = some (Pool.obj q')) (hs : ∀ x, x ≠ b → w'.heap[x]? = w.heap[x]?)
    (h1 : w'.os = w.os) (h2 : w'.output = w.output) (h3 : w'.tape = w.tape) : Sat β r (hp.set id (.pool p')) w' := by
  obtain ⟨a, H, d, c, e⟩ := k
  obtain ⟨H1, H2, q1, q2, rfl, _, q5⟩ := Heap.focus d hg
  have q1 : H1 = p.hp := q1
  subst q1
  have c' := Hp.join_apart.1 c
  have e' := (Hp.inW_join q2).1 e
  have same : ∀ x, p'.hp x = none ↔ p.hp x = none := fun x => by
    rw [Pool.hp_none, Pool.hp_none]
    by_cases hx : x = b
    · subst hx; rw [hb, hb']; simp
    · rw [hs' x hx]
  have ap : p'.hp.apart H2 := fun x => (q2 x).imp (fun h => (same x).2 h) (fun h => h)
  have apG : p'.hp.apart β.G := fun x => (c'.1 x).imp (fun h => (same x).2 h) (fun h => h)
  have keep : ∀ {A : Hp}, A.inW w → A.apart p.hp → A.inW w' := fun {A} hA hap x o ex => by
    rw [hs x (fun hx => by
      subst hx
      rcases hap x with h | h
      · rw [h] at ex; cases ex
      · rw [Pool.hp_none, hb] at h; cases h)]
    exact hA x o ex
  refine ⟨⟨h1.trans a.os, h2.trans a.output, h3.trans a.tape, keep a.G c'.1.symm⟩, p'.hp.join H2, q5 r _ _ (Nm.le.refl r) rfl ap, Hp.join_apart.2 ⟨apG, c'.2⟩, (Hp.inW_join ap).2 ⟨fun x o ex => ?_, keep e'.2 q2.symm⟩⟩
  by_cases hx : x = b
  · subst hx
    unfold Pool.hp at ex; rw [hb'] at ex; simp at ex; subst ex; exact hw
  · rw [hs x hx]
    refine e'.1 x o ?_
    unfold Pool.hp at ex ⊢; rw [← hs' x hx]; exact ex

/-- A new block of a pool. -/
theorem Sat.poolNew {β : Base} {r : Nm} {hp : Heap U} {w : World} (k : Sat β r hp w) {id : Nat} {p : Pool} (hg : hp.get id = some (.pool p)) (T : Nat) (ds : List PD) :
    p w.heap.size = none ∧ Sat β r (hp.set id (.pool (p.put w.heap.size T ds))) (w.alloc (Pool.obj (T, ds))) := by
  obtain ⟨a, H, d, c, e⟩ := k
  obtain ⟨H1, H2, q1, q2, rfl, _, q5⟩ := Heap.focus d hg
  have q1 : H1 = p.hp := q1
  subst q1
  have c' := Hp.join_apart.1 c
  have e' := (Hp.inW_join q2).1 e
  have hn : ∀ {A : Hp}, A.inW w → A w.heap.size = none := fun {A} hA => by
    cases ex : A w.heap.size with
    | none => rfl
    | some o' => exact absurd (Hp.lt hA ex) (Nat.lt_irrefl _)
  have hpn : p w.heap.size = none := Pool.hp_none.1 (hn e'.1)
  refine ⟨hpn, ?_⟩
  have hput := Pool.hp_put (T := T) (ds := ds) hpn
  have apo : (Hp.one w.heap.size (Pool.obj (T, ds))).apart p.hp := Hp.one_apart.2 (hn e'.1)
  have ap : (p.put w.heap.size T ds).hp.apart H2 := by rw [hput]; exact Hp.join_apart.2 ⟨Hp.one_apart.2 (hn e'.2), q2⟩
  refine ⟨⟨a.os, a.output, a.tape, heap_old a.G⟩, _, q5 r _ _ (Nm.le.refl r) rfl ap, ?_, (Hp.inW_join ap).2 ⟨?_, heap_old e'.2⟩⟩
  · rw [hput]; exact Hp.join_apart.2 ⟨Hp.join_apart.2 ⟨Hp.one_apart.2 (hn a.G), c'.1⟩, c'.2⟩
  · rw [hput]; exact (Hp.inW_join apo).2 ⟨Hp.inW_one.2 (heap_alloc_new w _), heap_old e'.1⟩

/-- A new block of a pool, by an operation. -/
theorem eg_pool {M : Goal U} {o : Oper} {ev : Operand → AV} {h : Heap U} {nw : Nat} {K : AV → Heap U → List Nat → Out U} {id : Nat} {p : Pool} (hg : h.get id = some (.pool p)) {T : Nat} {ds : List PD} {V : Nat → AV}
    (hK : ∀ n, p n = none → (K (V n) (h.set id (.pool (p.put n T ds))) []).holds M)
    (hrun : ∀ (r : Nm) (a : Act) (w : World), (∀ x ∈ o.op.operands.toList, rel r (ev x) (a.eval x)) → ∃ z, (execOp a.eval o).run P w = .ok (.value z) (w.alloc (Pool.obj (T, ds))) ∧ rel r (V w.heap.size) z) :
    EgK P o ev h nw (fun v h' t => (K v h' t).holds M) := by
  intro β r a w ho hs hnw
  obtain ⟨z, h1, h2⟩ := hrun r a w ho
  obtain ⟨h3, h4⟩ := hs.poolNew hg T ds
  refine ⟨V w.heap.size, _, [], z, _, r, hK _ h3, .inl h1, Nm.le.refl r, fun _ _ e => e, h2, h4, fun id' B e hn => ?_⟩
  by_cases hid : id' = id
  · subst hid
    rw [hg] at e; cases e
    refine ⟨_, Heap.get_set_self hg _, .inr ⟨_, _, rfl, rfl, fun b q hb => ?_⟩⟩
    unfold Pool.put
    rw [if_neg (fun e => by subst e; rw [h3] at hb; cases hb)]; exact hb
  · exact ⟨B, by rw [Heap.get_set_ne hid]; exact e, .inl rfl⟩

/-! ## append in a pool -/
theorem Pool.set_nil (p : Pool) (o : Option (Nat × Nat)) : p.set o [] = p := by
  cases o with
  | none => rfl
  | some q =>
    obtain ⟨b, off⟩ := q
    funext x
    show (if x = b then (p b).map (fun q => (q.1, setAt q.2 off [])) else p x) = p x
    split
    · rename_i e
      subst e
      cases p x with
      | none => rfl
      | some q => simp [setAt]
    · rfl
theorem Heap.set_same {id : Nat} {B : Blk U} : ∀ {h : Heap U}, h.get id = some B → h.set id B = h
  | [], e => by cases e
  | (i, A) :: h, e => by
    unfold Heap.get at e
    cases hi : Nat.beq i id with
    | true => rw [hi] at e; cases e; simp [Heap.set, hi]
    | false => rw [hi] at e; simp [Heap.set, hi, Heap.set_same (h := h) e]
def psrc (p : Pool) (sz : Nat) (x : AV) (K : List PD → Nat → Out U) : Out U :=
  match x with
  | .nilS => K [] 0
  | .rs o len _ => .ex (List PD) fun ds => .need (ds.length = len * sz ∧ (len = 0 ∨ p.at o ds)) (K ds len)
  | _ => .bad 531
def pdst (p : Pool) (sz : Nat) (x : AV) (K : Option (Nat × Nat) → Nat → Nat → List PD → Out U) : Out U :=
  match x with
  | .nilS => K none 0 0 []
  | .rs o len cap => .ex (List PD) fun ds => .need (ds.length = len * sz ∧ (len = 0 ∨ p.at o ds)) (K o len cap ds)
  | _ => .bad 532
theorem psrc_sound {M : Goal U} {p : Pool} {sz : Nat} {x : AV} {K : List PD → Nat → Out U} (H : (psrc p sz x K).holds M) :
    ∃ ds len, (K ds len).holds M ∧ ds.length = len * sz ∧ ∀ (r : Nm) u, rel r x u → ∃ o cap, u = .slice (addrOf o) len cap ∧ (len = 0 ∨ p.at o ds) := by
  unfold psrc at H
  split at H
  · exact ⟨[], 0, H, by simp, fun r u hu => ⟨none, 0, hu, .inl rfl⟩⟩
  · rename_i o len cap
    obtain ⟨ds, ⟨h1, h2⟩, H⟩ := H
    exact ⟨ds, len, H, h1, fun r u hu => ⟨o, cap, hu, h2⟩⟩
  · exact H.elim
theorem pdst_sound {M : Goal U} {p : Pool} {sz : Nat} {x : AV} {K : Option (Nat × Nat) → Nat → Nat → List PD → Out U} (H : (pdst p sz x K).holds M) :
    ∃ o len cap ds, (K o len cap ds).holds M ∧ ds.length = len * sz ∧ (len = 0 ∨ p.at o ds) ∧ ∀ (r : Nm) u, rel r x u → u = .slice (addrOf o) len cap := by
  unfold pdst at H
  split at H
  · exact ⟨none, 0, 0, [], H, by simp, .inl rfl, fun r u hu => hu⟩
  · rename_i o len cap
    obtain ⟨ds, ⟨h1, h2⟩, H⟩ := H
    exact ⟨o, len, cap, ds, H, h1, h2, fun r u hu => hu⟩
  · exact H.elim
theorem pool_cells {p : Pool} {o : Option (Nat × Nat)} {ds : List PD} {len sz : Nat} (cap : Nat) (hd : ds.length = len * sz) (h : len = 0 ∨ p.at o ds) {w : World} (hw : p.hp.inW w) :
    ∀ w' : World, w'.heap = w.heap → (Builtin.firstCells sz len (.slice (addrOf o) len cap)).run P w' = .ok (ds.map PD.val).toArray w' := by
  intro w' hh
  rcases h with h | ⟨b, off, T, cs, rfl, hb, hle, hat⟩
  · subst h
    have : ds = [] := List.eq_nil_of_length_eq_zero (by simpa using hd)
    subst this
    cases o <;> simp [addrOf, Builtin.firstCells, loadCells, loadCellsFrom]
  · have hblk : w'.heap[b]? = some (.cells (cs.map PD.val).toArray T (0, 0)) := by rw [hh]; exact hw b _ (by simp [Pool.hp, hb, Pool.obj])
    show (Builtin.firstCells sz len (.slice (some ⟨b, off, none⟩) len cap)).run P w' = _
    refine run_firstCells_some (P := P) w' sz len ⟨b, off, none⟩ len cap _ (by simpa using hd) (fun j v hj => ?_)
    rw [Addr.add_lit, cell_of_row w' b _ _ T (0, 0) hblk]
    have hj' : j < ds.length := by have := (List.getElem?_eq_some_iff.1 hj).1; simpa using this
    rw [← hat] at hj
    simp only [List.getElem?_map, List.getElem?_take, hj', if_true, List.getElem?_drop] at hj
    simpa using hj
def papp (R : TyRow) (e sz : Nat) (s x : AV) (h : Heap U) (K : AV → Heap U → List Nat → Out U) : Out U :=
  match poolOf h, pdsOf R.zero with
  | some (id, p), some zs => psrc p sz x fun ds m => pdst p sz s fun o len cap old =>
     .need (len ≤ cap ∧ len + m ≤ 4294967296 ∧ (len + m) * R.bytes ≤ 140737488355328)
     (.ite (decide (len + m ≤ cap))
        (.need (m = 0 ∨ p.has (shiftA o (len * sz)) (m * sz)) (K (.rs o (len + m) cap) (h.set id (.pool (p.set (shiftA o (len * sz)) ds))) [id]))
        (.all Nat fun n => .all Nat fun sp => .asm (p n = none) (K (.rs (some (n, 0)) (len + m) (len + m + sp)) (h.set id (.pool (p.put n e (old ++ ds ++ (List.replicate sp zs).flatten)))) [])))
  | _, _ => .bad 533
def pbuild (R : TyRow) (e s n : Nat) (ps : List (Nat × AV)) (h : Heap U) (K : AV → Heap U → List Nat → Out U) : Out U :=
  bif Nat.ble (n * s) 16777216 && (ps.all fun q => q.2.plain) && Nat.beq R.zero.length s then
    (match fillAV (fun i => some (i * s, s)) ((List.replicate n R.zero).flatten) ps with
    | some cs => (match poolOf h, pdsOf cs with
      | some (id, p), some ds => .all Nat fun k => .asm (p k = none) (K (.rs (some (k, 0)) n n) (h.set id (.pool (p.put k e ds))) [])
      | _, _ => .bad 534)
    | none => .bad 535) else .bad 536

/-- What an append leaves, in one: in its own block, or in a new one. -/
structure App (p : Pool) (e sz : Nat) (zs : List PD) (o : Option (Nat × Nat)) (len cap m : Nat) (old ds : List PD) (p' : Pool) (o' : Option (Nat × Nat)) (cap' : Nat) : Prop where
  inn : len + m ≤ cap → p' = p.set (shiftA o (len * sz)) ds ∧ o' = o ∧ cap' = cap
  out : ¬ len + m ≤ cap → ∃ n sp, p n = none ∧ p' = p.put n e (old ++ ds ++ (List.replicate sp zs).flatten) ∧ o' = some (n, 0) ∧ cap' = len + m + sp
def pappA (R : TyRow) (e sz : Nat) (s x : AV) (h : Heap U) (K : AV → Heap U → List Nat → Out U) : Out U :=
  match poolOf h, pdsOf R.zero with
  | some (id, p), some zs => psrc p sz x fun ds m => pdst p sz s fun o len cap old =>
     .need (len ≤ cap ∧ len + m ≤ 4294967296 ∧ (len + m) * R.bytes ≤ 140737488355328 ∧ (len + m ≤ cap → m = 0 ∨ p.has (shiftA o (len * sz)) (m * sz)))
     (.all Pool fun p' => .all (Option (Nat × Nat)) fun o' => .all Nat fun cap' => .asm (App p e sz zs o len cap m old ds p' o' cap') (K (.rs o' (len + m) cap') (h.set id (.pool p')) [id]))
  | _, _ => .bad 533
theorem psrc_mono {M : Goal U} {p : Pool} {sz : Nat} {x : AV} {K K' : List PD → Nat → Out U} (h : ∀ ds m, (K ds m).holds M → (K' ds m).holds M) (H : (psrc p sz x K).holds M) : (psrc p sz x K').holds M := by
  unfold psrc at H ⊢
  split at H
  · exact h _ _ H
  · obtain ⟨ds, h1, H⟩ := H; exact ⟨ds, h1, h _ _ H⟩
  · exact H.elim
theorem pdst_mono {M : Goal U} {p : Pool} {sz : Nat} {x : AV} {K K' : Option (Nat × Nat) → Nat → Nat → List PD → Out U} (h : ∀ o l c ds, (K o l c ds).holds M → (K' o l c ds).holds M) (H : (pdst p sz x K).holds M) : (pdst p sz x K').holds M := by
  unfold pdst at H ⊢
  split at H
  · exact h _ _ _ _ H
  · obtain ⟨ds, h1, H⟩ := H; exact ⟨ds, h1, h _ _ _ _ H⟩
  · exact H.elim
theorem pappA_papp {M : Goal U} {R : TyRow} {e sz : Nat} {s x : AV} {h : Heap U} {K : AV → Heap U → List Nat → Out U} (H : (pappA R e sz s x h K).holds M) : ∃ id, (papp R e sz s x h fun v h' t => .need (∀ i ∈ t, i = id) (K v h' [id])).holds M := by
  unfold pappA at H
  split at H
  · rename_i id p zs hp hzs
    refine ⟨id, ?_⟩
    unfold papp
    rw [hp, hzs]
    refine psrc_mono (fun ds m H => pdst_mono (fun o len cap old H => ?_) H) H
    obtain ⟨⟨b0, b1, b2, b3⟩, H⟩ := H
    refine ⟨⟨b0, b1, b2⟩, fun hc => ⟨b3 (of_decide_eq_true hc), fun i hi => by simpa using hi, H _ _ _ ⟨fun _ => ⟨rfl, rfl, rfl⟩, fun hn => absurd (of_decide_eq_true hc) hn⟩⟩, fun hc n sp hn => ⟨fun i hi => (List.not_mem_nil hi).elim, H _ _ _ ⟨fun hh => absurd hh (of_decide_eq_false hc), fun _ => ⟨n, sp, hn, rfl, rfl, rfl⟩⟩⟩⟩
  · exact H.elim
def poolT (τ : Tab) (T : Nat) : Bool := match τ T with | some R => R.pool | none => false
def evalE (τ : Tab) (κ : Kinds U) (op : Op) (ev : Operand → AV) (h : Heap U) (nw : Nat) (K : AV → Heap U → List Nat → Out U) : Out U :=
  match op with
  | .alloc T => (match τ T with
    | some R => bif R.pool then (match poolOf h, pdsOf R.zero with
      | some (id, p), some ds => .all Nat fun n => .asm (p n = none) (K (.rp (some (n, 0))) (h.set id (.pool (p.put n T ds))) [])
      | _, _ => .bad 521) else evalE0 τ κ (.alloc T) ev h nw K
    | none => .bad 522)
  | .box T x => (match τ T with
    | some R => bif R.pool then (match poolOf h, pdsOf (cellsAV (ev x)) with
      | some (id, p), some ds => bif (ev x).plain then .all Nat fun n => .asm (p n = none) (K (.rp (some (n, 0))) (h.set id (.pool (p.put n T ds))) []) else .bad 523
      | _, _ => .bad 524) else evalE0 τ κ (.box T x) ev h nw K
    | none => evalE0 τ κ (.box T x) ev h nw K)
  | .makeSlice T l c => (match sliceOf τ T with
    | some (e, s) => (match τ e with
      | some R => bif R.pool then (match poolOf h, pdsOf R.zero, (ev l).num, (ev c).num with
        | some (id, p), some [d], some (_, a, _), some (_, b, _) => bif Nat.beq R.size 1 then .need (0 ≤ a ∧ a ≤ b ∧ b ≤ 4294967296 ∧ R.bytes ≤ 64)
            (.all Nat fun n => .asm (p n = none) (K (.rs (some (n, 0)) a.toNat b.toNat) (h.set id (.pool (p.put n e (List.replicate b.toNat d)))) [])) else .bad 525
        | _, _, _, _ => .bad 526) else evalE0 τ κ (.makeSlice T l c) ev h nw K
      | none => .bad 527)
    | none => .bad 528)
  | .store T q x => (match ev q with
    | .rp o => (match τ T, poolOf h, pdsOf (cellsAV (ev x)) with
      | some R, some (id, p), some ds => bif (ev x).plain && Nat.beq ds.length R.size then .need (p.has o ds.length) (K .und (h.set id (.pool (p.set o ds))) [id]) else .bad 529
      | _, _, _ => .bad 530)
    | _ => evalE0 τ κ (.store T q x) ev h nw K)
  | .buildSlice T n ps => (match sliceOf τ T with
    | some (e, s) => (match τ e with
      | some R => bif R.pool || poolT τ T then pbuild R e s n (ps.toList.map fun q => (q.1, ev q.2)) h K else evalE0 τ κ (.buildSlice T n ps) ev h nw K
      | none => .bad 537)
    | none => .bad 538)
  | .call c => (match c.callee, c.args.toList, c.argTypes.toList with
    | .builtin .append, [s, x], [T, T'] => (match sliceOf τ T with
      | some (e, sz) => (match τ e with
        | some R => bif R.pool && Nat.beq T T' then papp R e sz (ev s) (ev x) h K else bif poolT τ T && Nat.beq T T' then pappA R e sz (ev s) (ev x) h K else evalE0 τ κ (.call c) ev h nw K
        | none => evalE0 τ κ (.call c) ev h nw K)
      | none => evalE0 τ κ (.call c) ev h nw K)
    | _, _, _ => evalE0 τ κ (.call c) ev h nw K)
  | op => evalE0 τ κ op ev h nw K

theorem setAt_map {cs ds : List PD} {off : Nat} (h : off + ds.length ≤ cs.length) : setRangeV (cs.map PD.val) off (ds.map PD.val) = (setAt cs off ds).map PD.val := by
  rw [setRangeV_eq _ _ _ (by simpa using h)]
  simp [setAt, List.map_take, List.map_drop]

set_option maxHeartbeats 1000000 in
theorem papp_sound (hτ : τ.met P) {M : Goal U} {dst : Option Tmp} {type : Nat} {pos : String} {after : Array Edge} {guard : Option (Nat × Bool)} {ev : Operand → AV} {h : Heap U} {nw : Nat} {K : AV → Heap U → List Nat → Out U}
    {T e sz : Nat} {sx x : Operand} {R : TyRow} (hs : sliceOf τ T = some (e, sz)) (hR : τ e = some R) (H : (papp R e sz (ev sx) (ev x) h K).holds M) :
    EgK P ⟨dst, .call ⟨.builtin .append, #[sx, x], #[T, T]⟩, type, pos, after, guard⟩ ev h nw (fun v h' t => (K v h' t).holds M) := by
  unfold papp at H
  split at H
  · rename_i id p zs hp hzs
    obtain ⟨ds, m, H, d1, d2⟩ := psrc_sound H
    obtain ⟨o, len, cap, old, H, o1, o2, o3⟩ := pdst_sound H
    obtain ⟨⟨b0, b1, b2⟩, H⟩ := H
    obtain ⟨R', hR', hsz, hT⟩ := sliceOf_under hτ hs
    rw [hR] at hR'; cases hR'
    have hm := hτ e R hR
    obtain ⟨i, z, hi, his, hib, hz, hzsz, _, hrz⟩ := hm.info
    have hzv := pdsOf_val hzs hrz
    intro β r a w ho hsat hnw
    obtain ⟨os, caps, hsrc, hos⟩ := d2 r _ (ho x (by simp [Op.operands, Call.operands]))
    have hdst := o3 r _ (ho sx (by simp [Op.operands, Call.operands]))
    obtain ⟨H1, hd, hw, _⟩ := hsat.at (poolOf_get hp)
    have hd : H1 = p.hp := hd
    subst hd
    have ei : i.size = sz := by rw [his, hsz]
    have hmax : len + m ≤ maxLen := by simp only [maxLen]; omega
    obtain ⟨r1, r2, r3⟩ := run_append_pd (P := P) w T type e i z hT hi hz (a.eval x) m (ds.map PD.val) (fun w => by rw [hsrc]; rfl) (by rw [List.length_map, ei]; exact d1)
      (by rw [hsrc, ei]; exact pool_cells caps d1 hos hw) (fun u hu => by obtain ⟨d, _, rfl⟩ := List.mem_map.1 hu; exact PD.one d)
      (addrOf o) len cap (old.map PD.val) (by rw [ei]; exact pool_cells cap o1 o2 hw) hmax (by rw [hib]; exact b2)
    have hexec : ∀ v w', (Builtin.append_ #[T, T] type #[.slice (addrOf o) len cap, a.eval x]).run P w = .ok v w' →
        (execOp a.eval ⟨dst, .call ⟨.builtin .append, #[sx, x], #[T, T]⟩, type, pos, after, guard⟩).run P w = .ok (.value v) w' := fun v w' hv => by
      simp [execOp, resolve, invoke, builtin, hdst, hv]
    obtain ⟨H1, H2⟩ := H
    by_cases hroom : len + m ≤ cap
    · obtain ⟨hhas, H1⟩ := H1 (decide_eq_true hroom)
      by_cases hm0 : m = 0
      · have hds0 : ds = [] := List.eq_nil_of_length_eq_zero (by rw [d1, hm0]; simp)
        subst hds0
        rw [Pool.set_nil, Heap.set_same (poolOf_get hp)] at H1
        subst hm0
        exact ⟨_, h, [id], _, w, r, H1, .inl (hexec _ _ (r2 hroom rfl)), Nm.le.refl r, fun _ _ h => h, rfl, hsat, .of fun _ _ e _ => e⟩
      · obtain ⟨b, off, T', cs, hob, hb, hle⟩ := hhas.resolve_left hm0
        cases o with
        | none => cases hob
        | some q =>
          obtain ⟨bq, oq⟩ := q
          simp only [shiftA_some, Option.some.injEq, Prod.mk.injEq] at hob
          obtain ⟨rfl, rfl⟩ := hob
          have hblk : w.heap[bq]? = some (.cells (cs.map PD.val).toArray T' (0, 0)) := hw bq _ (by simp [Pool.hp, hb, Pool.obj])
          have hfit : oq + len * i.size + (ds.map PD.val).length ≤ ((cs.map PD.val).toArray).size := by rw [ei, List.length_map, d1]; simpa using hle
          have hr := r3 hroom bq oq _ T' rfl hblk hfit
          have hset : (List.take (oq + len * i.size) ((cs.map PD.val).toArray).toList ++ ds.map PD.val ++ List.drop (oq + len * i.size + (ds.map PD.val).length) ((cs.map PD.val).toArray).toList).toArray = ((setAt cs (oq + len * sz) ds).map PD.val).toArray := by
            rw [ei]; simp [setAt, List.map_take, List.map_drop]
          rw [hset] at hr
          refine ⟨_, _, [id], _, _, r, H1, .inl (hexec _ _ hr), Nm.le.refl r, fun _ _ h => h, rfl, ?_, .of fun id' B hg hne => by rw [Heap.get_set_ne (by simpa using hne)]; exact hg⟩
          exact hsat.poolSet (poolOf_get hp) hb (q' := (T', setAt cs (oq + len * sz) ds)) (by simp [Pool.set, hb]) (fun y hy => by simp [Pool.set, hy]) (by rw [setRow_heap w bq _ _ T' (0, 0) hblk]; rfl) (fun y hy => setRow_other w bq y _ hy) rfl rfl rfl
    · have hr := r1 hroom b0
      have hge := grownCap_ge w (len + m) cap e
      have hpos : 0 < z.cells.size ∨ z.cells.size = 0 := by omega
      have hob : (.cells ((old.map PD.val).toArray ++ (ds.map PD.val).toArray ++ Builtin.zeroCells z.cells (grownCap w (len + m) cap e - (len + m))) e : Obj) = Pool.obj (e, old ++ ds ++ (List.replicate (grownCap w (len + m) cap e - (len + m)) zs).flatten) := by
        unfold Pool.obj
        congr 1
        apply Array.ext'
        rcases hpos with h0 | h0
        · rw [Array.toList_append, Array.toList_append, zeroCells_list _ h0, hzv]
          simp [List.map_flatten, List.map_replicate]
        · have hz0 : z.cells = #[] := Array.eq_empty_of_size_eq_zero h0
          have hzs0 : zs = [] := by
            have : zs.map PD.val = [] := by rw [← hzv, hz0]
            simpa using this
          rw [Array.toList_append, Array.toList_append, hz0, hzs0]
          simp [Builtin.zeroCells]
      rw [hob] at hr
      obtain ⟨hfree, hsat'⟩ := (hsat.drew).poolNew (poolOf_get hp) e (old ++ ds ++ (List.replicate (grownCap w (len + m) cap e - (len + m)) zs).flatten)
      have hsz0 : w.drew.heap.size = w.heap.size := rfl
      have hcap : len + m + (grownCap w (len + m) cap e - (len + m)) = grownCap w (len + m) cap e := by omega
      have H2 := H2 (decide_eq_false hroom) w.heap.size (grownCap w (len + m) cap e - (len + m)) hfree
      refine ⟨_, _, [], _, _, r, H2, .inl (hexec _ _ hr), Nm.le.refl r, fun _ _ h => h, by rw [hcap]; rfl, hsat', fun id' B e' hn => ?_⟩
      by_cases hid : id' = id
      · subst hid
        rw [poolOf_get hp] at e'; cases e'
        refine ⟨_, Heap.get_set_self (poolOf_get hp) _, .inr ⟨_, _, rfl, rfl, fun b q hb => ?_⟩⟩
        unfold Pool.put
        rw [if_neg (fun e => by subst e; rw [show p w.heap.size = none from hfree] at hb; cases hb)]; exact hb
      · exact ⟨B, by rw [Heap.get_set_ne hid]; exact e', .inl rfl⟩
  · exact H.elim

set_option maxHeartbeats 1000000 in
theorem evalE_sound (hτ : τ.met P) {κ : Kinds U} (hκ : κ.met τ) {M : Goal U} {dst : Option Tmp} {op : Op} {type : Nat} {pos : String} {after : Array Edge} {guard : Option (Nat × Bool)} {ev : Operand → AV} {h : Heap U} {nw : Nat} {K : AV → Heap U → List Nat → Out U}
    (H : (evalE τ κ op ev h nw K).holds M) : EgK P ⟨dst, op, type, pos, after, guard⟩ ev h nw (fun v h' t => (K v h' t).holds M) := by
  cases op
  case alloc T =>
    simp only [evalE] at H
    split at H
    · rename_i R hR
      rw [holds_bif] at H
      split at H
      · split at H
        · rename_i id p ds hp hds
          refine eg_pool (poolOf_get hp) (V := fun n => .rp (some (n, 0))) (fun n hn => H n hn) fun r a w ho => ?_
          have hm := hτ T R hR
          obtain ⟨i, z, hi, _, _, hz, _, _, hrz⟩ := hm.info
          have hzv := pdsOf_val hds hrz
          refine ⟨.pointer (some ⟨w.heap.size, 0, none⟩), ?_, rfl⟩
          have : z.cells = (ds.map PD.val).toArray := by rw [← hzv]
          simp [execOp, Instr.alloc, zeroValue, typeInfo, hi, hz, newVar, newRow, this, Pool.obj]
        · exact H.elim
      · exact (evalE0_sound hτ hκ H).k
    · exact H.elim
  case box T x =>
    simp only [evalE] at H
    split at H
    · rename_i R hR
      rw [holds_bif] at H
      split at H
      · split at H
        · rename_i id p ds hp hds
          rw [holds_bif] at H
          split at H
          · rename_i hpl
            refine eg_pool (poolOf_get hp) (V := fun n => .rp (some (n, 0))) (fun n hn => H n hn) fun r a w ho => ?_
            have hxv := pdsOf_val hds (rel_cells hpl (ho x (by simp [Op.operands])))
            refine ⟨.pointer (some ⟨w.heap.size, 0, none⟩), ?_, rfl⟩
            have : (a.eval x).cells = (ds.map PD.val).toArray := by rw [← hxv]
            simp [execOp, Instr.box, newVar, newRow, this, Pool.obj]
          · exact H.elim
        · exact H.elim
      · exact (evalE0_sound hτ hκ H).k
    · exact (evalE0_sound hτ hκ H).k
  case makeSlice T l c =>
    simp only [evalE] at H
    split at H
    · rename_i e s hs
      split at H
      · rename_i R hR
        rw [holds_bif] at H
        split at H
        · split at H
          · rename_i id p d ka a0 la kb b0 lb hp hds hl hc
            rw [holds_bif] at H
            split at H
            · rename_i h1
              have h1 := Nat.eq_of_beq_eq_true h1
              obtain ⟨⟨g0, g1, g2, g3⟩, H⟩ := H
              refine eg_pool (poolOf_get hp) (V := fun n => .rs (some (n, 0)) a0.toNat b0.toNat) (fun n hn => H n hn) fun r a w ho => ?_
              obtain ⟨R', hR', hsz, hT⟩ := sliceOf_under hτ hs
              rw [hR] at hR'; cases hR'
              have hm := hτ e R hR
              obtain ⟨i, z, hi, his, hib, hz, hzs, _, hrz⟩ := hm.info
              have hzv := pdsOf_val hds hrz
              have e1 := rel_num hl (ho l (by simp [Op.operands]))
              have e2 := rel_num hc (ho c (by simp [Op.operands]))
              have hb63 : b0 ≤ 9223372036854775807 := by omega
              have hby : (R.bytes : Int) * b0 ≤ 281474976710656 := by
                have h16 : (R.bytes : Int) ≤ 64 := by omega
                have : (R.bytes : Int) * b0 ≤ 64 * b0 := Int.mul_le_mul_of_nonneg_right h16 (by omega)
                omega
              have hrun := run_make (P := P) w T e i z hT hi hz ka kb a0 b0 g0 g1 (by rw [hib]; exact hby) hb63
              have hcl : madeCells z.cells (b0.toNat * i.size) = ((List.replicate b0.toNat d).map PD.val).toArray := by
                have hzs1 : z.cells.size = 1 := by rw [hzs, h1]
                apply Array.ext'
                rw [his, h1, ← hzs1, madeCells_flatten z.cells (by omega), hzv]
                simp
              rw [hcl] at hrun
              refine ⟨_, run_value2 (z := .slice (some ⟨w.heap.size, 0, none⟩) a0.toNat b0.toNat) (by simp only [e1, e2]; exact hrun), rfl⟩
            · exact H.elim
          · exact H.elim
        · exact (evalE0_sound hτ hκ H).k
      · exact H.elim
    · exact H.elim
  case store T q x =>
    simp only [evalE] at H
    split at H
    · rename_i o hq
      split at H
      · rename_i R id p ds hR hp hds
        rw [holds_bif] at H
        split at H
        · rename_i hc
          simp only [Bool.and_eq_true] at hc
          have hlen := Nat.eq_of_beq_eq_true hc.2
          obtain ⟨⟨b, off, T', cs, rfl, hb, hle⟩, H⟩ := H
          intro β r a w ho hs hnw
          have e1 := ho q (by simp [Op.operands])
          rw [hq] at e1; simp only [rel] at e1
          have hxv := pdsOf_val hds (rel_cells hc.1 (ho x (by simp [Op.operands])))
          have hm := hτ T R hR
          obtain ⟨H1, hd, hw, _⟩ := hs.at (poolOf_get hp)
          have hd : H1 = p.hp := hd
          subst hd
          have hblk : w.heap[b]? = some (.cells (cs.map PD.val).toArray T' (0, 0)) := hw b _ (by simp [Pool.hp, hb, Pool.obj])
          have hsize : (a.eval x).cells.size = ds.length := by rw [← Array.length_toList, hxv]; simp
          have hrun := run_storeVar (P := P) hm (o := off) hblk (v := a.eval x) (by rw [hsize, hlen]) (by rw [hxv]; intro u hu; obtain ⟨d, _, rfl⟩ := List.mem_map.1 hu; exact PD.one d) (by rw [hsize]; simpa using hle)
          have hset : (setRangeV (cs.map PD.val).toArray.toList off (a.eval x).cells.toList).toArray = ((setAt cs off ds).map PD.val).toArray := by rw [hxv]; simp [setAt_map hle]
          rw [hset] at hrun
          refine ⟨.und, _, [id], undef, w.setRow b ((setAt cs off ds).map PD.val).toArray, r, H, .inr ⟨?_, rfl⟩, Nm.le.refl r, fun _ _ h => h, trivial, ?_, .of fun id' B hg hne => by rw [Heap.get_set_ne (by simpa using hne)]; exact hg⟩
          · simp only [execOp, e1, addrOf, Option.map_some, Instr.storeAt, Instr.sureAddr, Sem.run_bind, Sem.run_pure, Result.andThen_ok, hrun]
          · exact hs.poolSet (poolOf_get hp) hb (q' := (T', setAt cs off ds)) (by simp [Pool.set, hb]) (fun y hy => by simp [Pool.set, hy]) (by rw [setRow_heap w b _ _ T' (0, 0) hblk]; rfl) (fun y hy => setRow_other w b y _ hy) rfl rfl rfl
        · exact H.elim
      · exact H.elim
    · exact (evalE0_sound hτ hκ H).k
  case buildSlice T n ps =>
    simp only [evalE] at H
    split at H
    · rename_i e s hs
      split at H
      · rename_i R hR
        rw [holds_bif] at H
        split at H
        · unfold pbuild at H
          rw [holds_bif] at H
          split at H
          · rename_i hc
            simp only [Bool.and_eq_true] at hc
            obtain ⟨⟨hc1, hc2⟩, hc3⟩ := hc
            have hc1 := Nat.le_of_ble_eq_true hc1
            have hc3 := Nat.eq_of_beq_eq_true hc3
            split at H
            · rename_i cs hfill
              split at H
              · rename_i id p ds hp hds
                obtain ⟨R', hR', hsz, hT⟩ := sliceOf_under hτ hs
                rw [hR] at hR'; cases hR'
                refine eg_pool (poolOf_get hp) (V := fun k => .rs (some (k, 0)) n n) (fun k hk => H k hk) fun r a w ho => ?_
                have hm := hτ e R hR
                obtain ⟨i, z, hi, his, _, hz, hzs, _, hrz⟩ := hm.info
                have hzc : relL r R.zero z.cells.toList := relL_mono (fun _ _ e => by cases e) _ _ hrz
                have hcells : relL r (List.replicate n R.zero).flatten (if n * s = 0 then #[] else (madeCells z.cells (n * s))).toList := by
                  split
                  · rename_i h0
                    have : (List.replicate n R.zero).flatten = [] := by
                      apply List.eq_nil_of_length_eq_zero; simp [hc3, h0]
                    rw [this]; exact relL_nil
                  · rename_i h0
                    have hpos : 0 < z.cells.size := by
                      rw [hzs, hsz]; rcases Nat.eq_zero_or_pos s with h | h
                      · subst h; simp at h0
                      · exact h
                    rw [← hsz, ← hzs, madeCells_flatten z.cells hpos]
                    exact flatten_replicate_rel hzc n
                obtain ⟨ov, ho1, ho2⟩ := fill_sound (r := r) _ ((ps.map fun q => (q.1, a.eval q.2)).toList) _ cs (if n * s = 0 then #[] else (madeCells z.cells (n * s))) hfill hc2 (by simp) (fun j i x hj => by
                  simp only [List.getElem?_map, Option.map_eq_some_iff] at hj
                  obtain ⟨q, hq, he⟩ := hj
                  simp only [Prod.mk.injEq] at he
                  obtain ⟨rfl, rfl⟩ := he
                  refine ⟨a.eval q.2, by simp [hq], ho q.2 ?_⟩
                  simp only [Op.operands, List.mem_map]
                  exact ⟨q, List.mem_of_getElem? hq, rfl⟩) hcells
                have hov := pdsOf_val hds ho2
                refine ⟨.slice (some ⟨w.heap.size, 0, none⟩) n n, ?_, rfl⟩
                have hob : Pool.obj (e, ds) = .cells ov e := by unfold Pool.obj; rw [← hov]
                rw [hob]
                refine run_value2 ?_
                unfold Instr.buildSlice
                simp only [Sem.run_bind, run_underlying hT, Result.andThen_ok, run_sizeOf hm, hsz]
                rw [if_neg (by omega)]
                by_cases h0 : n * s = 0
                · simp only [h0, if_true] at ho1 ⊢
                  simp only [Sem.run_pure, Result.andThen_ok, Array.range_zero', Array.map_empty, ho1]
                  simp [newRow]
                · simp only [h0, if_false] at ho1 ⊢
                  simp only [madeCells] at ho1
                  simp only [Sem.run_bind, zeroValue, typeInfo, run_program, hi, hz, Sem.run_pure, Result.andThen_ok, ho1]
                  simp [newRow]
              · exact H.elim
            · exact H.elim
          · exact H.elim
        · exact (evalE0_sound hτ hκ H).k
      · exact H.elim
    · exact H.elim
  case call c =>
    simp only [evalE] at H
    split at H
    · rename_i sx x T T' hcal hargs htys
      split at H
      · rename_i e sz hs
        split at H
        · rename_i R hR
          rw [holds_bif] at H
          split at H
          · rename_i hc
            simp only [Bool.and_eq_true] at hc
            have hTT := Nat.eq_of_beq_eq_true hc.2
            subst hTT
            obtain ⟨callee, args, tys⟩ := c
            simp only at hcal hargs htys
            subst hcal
            have hargs : args = #[sx, x] := Array.ext' hargs
            have htys : tys = #[T, T] := Array.ext' htys
            subst hargs; subst htys
            exact papp_sound hτ hs hR H
          · rw [holds_bif] at H
            split at H
            · rename_i hc
              simp only [Bool.and_eq_true] at hc
              have hTT := Nat.eq_of_beq_eq_true hc.2
              subst hTT
              obtain ⟨callee, args, tys⟩ := c
              simp only at hcal hargs htys
              subst hcal
              have hargs : args = #[sx, x] := Array.ext' hargs
              have htys : tys = #[T, T] := Array.ext' htys
              subst hargs; subst htys
              obtain ⟨id, H⟩ := pappA_papp H
              intro β r a w ho hsat hnw
              obtain ⟨v, h', t, z, w', r', k1, k2, k3, k4, k5, k6, k7⟩ := papp_sound hτ hs hR H β r a w ho hsat hnw
              exact ⟨v, h', [id], z, w', r', k1.2, k2, k3, k4, k5, k6, fun i B e hn => k7 i B e fun hi => hn (by rw [k1.1 i hi]; exact List.mem_singleton.2 rfl)⟩
            · exact (evalE0_sound hτ hκ H).k
        · exact (evalE0_sound hτ hκ H).k
      · exact (evalE0_sound hτ hκ H).k
    · exact (evalE0_sound hτ hκ H).k
  all_goals exact (evalE0_sound hτ hκ (by simpa only [evalE] using H)).k

end
end Sx
end Go.Proofs.YtmcmdghmglopnaaGreatDoor

/-
  One operation of any kind; operations in the order of the text.
-/
namespace Go.Proofs.YtmcmdghmglopnaaGreatDoor
namespace Sx
open Go

section
variable {U : Uni} {P : Program} {τ : Tab}

def envGet : List (Nat × AV) → Nat → AV
  | [], _ => .und
  | (i, v) :: e, t => bif Nat.beq i t then v else envGet e t
def evO (env : List (Nat × AV)) : Operand → AV
  | .tmp t => envGet env t
  | .const v => constAV v
  | .global g => .raw (.pointer (some ⟨g, 0, none⟩))
  | .func f => .fn f [] []
def envPut (env : List (Nat × AV)) (dst : Option Nat) (v : AV) : List (Nat × AV) := match dst with | some d => (d, v) :: env | none => env

/-- What stood at a loop's head, by its words of now. -/
def backEnv (e0 e : List (Nat × AV)) : List (Nat × AV) := e0.map fun q => (q.1, envGet e q.1)
theorem envGet_back : ∀ (e0 e : List (Nat × AV)) (t : Nat), envGet (backEnv e0 e) t = envGet e t ∨ envGet (backEnv e0 e) t = .und
  | [], _, _ => .inr rfl
  | (i, v) :: e0, e, t => by
    show (bif Nat.beq i t then envGet e i else envGet (backEnv e0 e) t) = _ ∨ (bif Nat.beq i t then envGet e i else envGet (backEnv e0 e) t) = _
    cases h : Nat.beq i t with
    | true => rw [Nat.eq_of_beq_eq_true h]; exact .inl rfl
    | false => exact envGet_back e0 e t
def EnvOk (r : Nm) (env : List (Nat × AV)) (a : Act) : Prop := ∀ t, rel r (envGet env t) (a.tmps.getD t undef)

theorem EnvOk.back {r : Nm} {e0 e : List (Nat × AV)} {a : Act} (h : EnvOk r e a) : EnvOk r (backEnv e0 e) a := fun t => by
  rcases envGet_back e0 e t with k | k
  · rw [k]; exact h t
  · rw [k]; exact trivial
theorem evO_ok {r : Nm} {env : List (Nat × AV)} {a : Act} (h : EnvOk r env a) (x : Operand) : rel r (evO env x) (a.eval x) := by
  cases x with
  | tmp t => exact h t
  | const v => exact rel_constAV r v
  | global g => rfl
  | func f => exact ⟨[], [], relL_nil, relL_nil, rfl⟩
theorem EnvOk.mono {r s : Nm} (k : r.le s) {env : List (Nat × AV)} {a : Act} (h : EnvOk r env a) : EnvOk s env a := fun t => rel_mono k _ _ (h t)
theorem envGet_put {env : List (Nat × AV)} {d t : Nat} {v : AV} : envGet (envPut env (some d) v) t = if t = d then v else envGet env t := by
  show (bif Nat.beq d t then v else envGet env t) = _
  by_cases h : t = d
  · subst h; simp
  · have : Nat.beq d t = false := by cases e : Nat.beq d t with | true => exact absurd (Nat.eq_of_beq_eq_true e).symm h | false => rfl
    simp [this, h]
theorem getD_put (a : Act) (d t : Nat) (z : Value) : (a.put (some d) z).tmps.getD t undef = if t = d ∧ d < a.tmps.size then z else a.tmps.getD t undef := by
  simp only [Act.put, Array.getD_eq_getD_getElem?, Array.getElem?_setIfInBounds]
  by_cases h : d = t
  · subst h
    by_cases h2 : d < a.tmps.size <;> simp [h2]
  · have : ¬ t = d := fun e => h e.symm
    simp [h, this]
theorem EnvOk.put {r : Nm} {env : List (Nat × AV)} {a : Act} (h : EnvOk r env a) {dst : Option Nat} {v : AV} {z : Value} (hv : rel r v z) (hd : ∀ d, dst = some d → d < a.tmps.size) : EnvOk r (envPut env dst v) (a.put dst z) := by
  cases dst with
  | none => exact h
  | some d =>
    intro t
    rw [envGet_put, getD_put]
    by_cases ht : t = d
    · subst ht; simp only [true_and, if_true]; rw [if_pos (hd _ rfl)]; exact hv
    · rw [if_neg ht, if_neg (fun e => ht e.1)]; exact h t
theorem put_size (a : Act) (dst : Option Nat) (z : Value) : (a.put dst z).tmps.size = a.tmps.size := by cases dst <;> simp [Act.put]
theorem put_defers (a : Act) (dst : Option Nat) (z : Value) : (a.put dst z).defers = a.defers := by cases dst <;> rfl

def Fresh (r : Nm) (nx : Nat) : Prop := ∀ i, nx ≤ i → r i = none

/-- What a call does, seen from outside. -/
def CallsSx (P : Program) (f : Nat) (args : List AV) (h : Heap U) (nx : Nat) (R : AV → Heap U → Nat → List Nat → Prop) : Prop :=
  (∃ fn, P.funcs[f]? = some fn ∧ (fn.name == "runtime.NumGoroutine") = false ∧ fn.body.isNone = false) ∧
  ∀ (β : Base) (r : Nm) (vs : List Value) (w : World), relL r args vs → Sat β r h w → Fresh r nx →
    Calls P f vs.toArray w (fun e w' => ∃ v h' nx' T z r', e = .returned z ∧ R v h' nx' T ∧ r.le r' ∧ Fresh r' nx' ∧ rel r' v z ∧ Sat β r' h' w' ∧ Kept h h' T)

abbrev CallF (U : Uni) := Nat → List AV → Heap U → Nat → (AV → Heap U → Nat → List Nat → Out U) → Out U
def CallF.ok (P : Program) (M : Goal U) (C : CallF U) : Prop := ∀ f args h nx K, (C f args h nx K).holds M → CallsSx P f args h nx (fun v h' nx' T => (K v h' nx' T).holds M)

def isLz : Op → Bool
  | .move _ | .assign _ | .pick .. | .nilCheck _ | .binOp .. | .unOp .. | .convert .. | .field .. | .index .. | .extract .. | .fieldAddr .. | .indexAddr .. | .slice .. | .load .. | .makeFunc .. | .makeInterface .. | .build .. | .lookup .. => true
  | .call { callee := .builtin b, .. } => (match b with | .len | .min | .max => true | _ => false)
  | _ => false

/-- A method of a type, by its name. -/
def methIn (m : String) : List (String × Nat) → Option Nat
  | [] => none
  | q :: l => bif q.1 == m then some q.2 else methIn m l
def methOf (τ : Tab) (T : Nat) (m : String) : Option Nat := match τ T with | some R => methIn m R.meths | none => none
theorem methIn_mem {m : String} {g : Nat} : ∀ {l : List (String × Nat)}, methIn m l = some g → (m, g) ∈ l
  | [], h => by cases h
  | q :: l, h => by
    unfold methIn at h
    cases e : q.1 == m with
    | true =>
      rw [e] at h; simp only [cond_true, Option.some.injEq] at h
      have : q.1 = m := by simpa using e
      rw [← this, ← h]; exact List.mem_cons_self ..
    | false => rw [e] at h; exact List.mem_cons_of_mem _ (methIn_mem h)
theorem methOf_run (hτ : τ.met P) {T g : Nat} {m : String} (h : methOf τ T m = some g) (v : Value) (w : World) : (Go.method (P.types.size + Made.depth) T v m).run P w = .ok (g, v) w := by
  unfold methOf at h
  split at h
  · rename_i R hR
    exact (hτ T R hR).meths (m, g) (methIn_mem h) v w
  · cases h

def stepAny (τ : Tab) (κ : Kinds U) (C : CallF U) (op : Op) (env : List (Nat × AV)) (h : Heap U) (nx : Nat) (K : AV → Heap U → Nat → List Nat → Option Nat → Out U) : Out U :=
  bif isLz op then evalL τ κ op (evO env) h (fun v rd => K v h nx [] rd)
  else (match op with
    | .call { callee := .value f, args, .. } => (match evO env f with
      | .fn g fs cs => C g (fs ++ args.toList.map (evO env) ++ cs) h nx (fun v h' nx' T => K v h' nx' T none)
      | _ => .bad 200)
    | .call { callee := .invoke recv m, args, .. } => (match evO env recv with
      | .ifc T x => (match methOf τ T m with
        | some g => C g (x :: args.toList.map (evO env)) h nx (fun v h' nx' T => K v h' nx' T none)
        | none => .bad 201)
      | _ => .bad 202)
    | op => evalE τ κ op (evO env) h nx (fun v h' T => K v h' (nx + 1) T none))

/-- What an operation of any kind does. -/
def OpWp (P : Program) (o : Oper) (ev : Operand → AV) (h : Heap U) (nx : Nat) (R : AV → Heap U → Nat → List Nat → Prop) : Prop :=
  ∀ (β : Base) (r : Nm) (a : Act) (w : World), (∀ x ∈ o.op.operands.toList, rel r (ev x) (a.eval x)) → Sat β r h w → Fresh r nx →
    ∀ (next : Act → World → Prop) (Q : Exit → Act → World → Prop),
      (∀ v h' nx' T z w' r', R v h' nx' T → r.le r' → Fresh r' nx' → rel r' v z → Sat β r' h' w' → Kept h h' T → next (a.put o.dst z) w') → o.wp P a w next Q

theorem Kept.refl (h : Heap U) (T : List Nat) : Kept h h T := .of fun _ _ e _ => e

theorem stepAny_sound (hτ : τ.met P) {κ : Kinds U} (hκ : κ.met τ) {M : Goal U} {C : CallF U} (hC : C.ok P M) {o : Oper} {env : List (Nat × AV)} {h : Heap U} {nx : Nat} {K : AV → Heap U → Nat → List Nat → Option Nat → Out U}
    (H : (stepAny τ κ C o.op env h nx K).holds M) : OpWp P o (evO env) h nx (fun v h' nx' T => ∃ rd, (K v h' nx' T rd).holds M) := by
  obtain ⟨dst, op, type, pos, after, guard⟩ := o
  unfold stepAny at H
  rw [holds_bif] at H
  split at H
  · obtain ⟨v, rd, hK, hlz, hrd⟩ := evalL_sound (dst := dst) (type := type) (pos := pos) (after := after) (guard := guard) hτ hκ H
    intro β r a w ho hs hf next Q hn
    obtain ⟨z, hz, hr⟩ := hlz β r a w ho (fun id B e => by
      unfold rdOf at e
      split at e
      · split at e
        · rename_i hB; cases e; exact hs.at hB
        · cases e
      · cases e)
    unfold Oper.wp; rw [hz, Oper.upon_value]
    exact hn v h nx [] z w r ⟨rd, hK⟩ (Nm.le.refl r) hf hr hs (Kept.refl h [])
  · rename_i hl
    have eag : (evalE τ κ op (evO env) h nx (fun v h' T => K v h' (nx + 1) T none)).holds M → OpWp P ⟨dst, op, type, pos, after, guard⟩ (evO env) h nx (fun v h' nx' T => ∃ rd, (K v h' nx' T rd).holds M) := by
      intro H β r a w ho hs hf next Q hn
      obtain ⟨v, h', T, z, w', r', hK, hrun, g1, g2, g3, g4, g5⟩ := evalE_sound hτ hκ H β r a w ho hs (hf nx (Nat.le_refl _))
      have fin : next (a.put dst z) w' := hn v h' (nx + 1) T z w' r' ⟨none, hK⟩ g1 (fun i hi => g2 i (by omega) (hf i (by omega))) g3 g4 g5
      rcases hrun with hrun | ⟨hrun, rfl⟩
      · unfold Oper.wp; rw [hrun, Oper.upon_value]; exact fin
      · unfold Oper.wp; rw [hrun, Oper.upon_skip]; exact fin
    split at H
    · rename_i f args at' heq
      simp only at heq; subst heq
      split at H
      · rename_i g fs cs hfv
        obtain ⟨⟨fn, hfn, hnm, hbd⟩, hcalls⟩ := hC _ _ _ _ _ H
        intro β r a w ho hs hf next Q hn
        have hfx := ho f (by simp [Op.operands, Call.operands]); rw [hfv] at hfx
        obtain ⟨us, vs, hus, hvs, hfx⟩ := hfx
        have hargs : relL r (args.toList.map (evO env)) (args.toList.map a.eval) := by
          have : ∀ l : List Operand, (∀ x ∈ l, rel r (evO env x) (a.eval x)) → relL r (l.map (evO env)) (l.map a.eval) := by
            intro l
            induction l with
            | nil => intro _; exact relL_nil
            | cons x l ih => intro hh; exact relL_cons.2 ⟨hh x (by simp), ih fun y hy => hh y (by simp [hy])⟩
          exact this _ (fun x hx => ho x (by simp [Op.operands, Call.operands] at hx ⊢; simp [hx]))
        have hc := hcalls β r _ w (relL_append (relL_append hus hargs) hvs) hs hf
        have hrun : (execOp a.eval ⟨dst, .call ⟨.value f, args, at'⟩, type, pos, after, guard⟩).run P w = .ok (.enter g (us ++ args.toList.map a.eval ++ vs).toArray) w := by
          have e1 : (us.toArray ++ args.map a.eval ++ vs.toArray) = (us ++ args.toList.map a.eval ++ vs).toArray := by
            apply Array.ext'; simp
          have hcf : ∀ X, (callFunc g X).run P w = .ok (.enter g X) w := by
            intro X
            unfold callFunc
            simp only [Sem.run_bind, run_program, Result.andThen_ok, hfn, hnm, hbd, Bool.false_eq_true, if_false, Sem.run_pure]
          show (do let d ← resolve a.eval _ type; invoke d.target d.args : Sem Next).run P w = _
          simp only [resolve, hfx, Deferred.ofValue, Sem.run_bind, Sem.run_pure, Result.andThen_ok, invoke]
          rw [e1]; exact hcf _
        unfold Oper.wp; rw [hrun, Oper.upon_enter]
        refine hc.mono fun e w' hh => ?_
        obtain ⟨v, h', nx', T, z, r', rfl, hK, g1, g2, g3, g4, g5⟩ := hh
        exact hn v h' nx' T z w' r' ⟨none, hK⟩ g1 g2 g3 g4 g5
      · exact H.elim
    · rename_i recv m args at' heq
      simp only at heq; subst heq
      split at H
      · rename_i T x hrv
        split at H
        · rename_i g hg
          obtain ⟨⟨fn, hfn, hnm, hbd⟩, hcalls⟩ := hC _ _ _ _ _ H
          intro β r a w ho hs hf next Q hn
          have hfx := ho recv (by simp [Op.operands, Call.operands]); rw [hrv] at hfx
          obtain ⟨u, hu, hfx⟩ := hfx
          have hargs : relL r (args.toList.map (evO env)) (args.toList.map a.eval) := by
            have : ∀ l : List Operand, (∀ x ∈ l, rel r (evO env x) (a.eval x)) → relL r (l.map (evO env)) (l.map a.eval) := by
              intro l
              induction l with
              | nil => intro _; exact relL_nil
              | cons x l ih => intro hh; exact relL_cons.2 ⟨hh x (by simp), ih fun y hy => hh y (by simp [hy])⟩
            exact this _ (fun x hx => ho x (by simp [Op.operands, Call.operands] at hx ⊢; simp [hx]))
          have hc := hcalls β r (u :: args.toList.map a.eval) w (relL_cons.2 ⟨hu, hargs⟩) hs hf
          have hrun : (execOp a.eval ⟨dst, .call ⟨.invoke recv m, args, at'⟩, type, pos, after, guard⟩).run P w = .ok (.enter g (u :: args.toList.map a.eval).toArray) w := by
            have hcf : ∀ X, (callFunc g X).run P w = .ok (.enter g X) w := by
              intro X
              unfold callFunc
              simp only [Sem.run_bind, run_program, Result.andThen_ok, hfn, hnm, hbd, Bool.false_eq_true, if_false, Sem.run_pure]
            have e0 : (#[Value.iface T u] ++ args.map a.eval)[0]? = some (.iface T u) := by
              rw [Array.getElem?_append_left (by simp)]; rfl
            have e1 : #[u] ++ (#[Value.iface T u] ++ args.map a.eval).extract 1 (#[Value.iface T u] ++ args.map a.eval).size = (u :: args.toList.map a.eval).toArray := by
              apply Array.ext'; simp
              exact List.take_of_length_le (by simp)
            show (do let d ← resolve a.eval _ type; invoke d.target d.args : Sem Next).run P w = _
            simp only [resolve, hfx, Sem.run_bind, Sem.run_pure, Result.andThen_ok, invoke, e0, callMethod, run_program, methOf_run hτ hg, e1]
            exact hcf _
          unfold Oper.wp; rw [hrun, Oper.upon_enter]
          refine hc.mono fun e w' hh => ?_
          obtain ⟨v, h', nx', T, z, r', rfl, hK, g1, g2, g3, g4, g5⟩ := hh
          exact hn v h' nx' T z w' r' ⟨none, hK⟩ g1 g2 g3 g4 g5
        · exact H.elim
      · exact H.elim
    · exact eag H

/-! ## guards -/
inductive Want where
  | yes | no | ask (d : Nat) (b : Bool) | bad

def want? (ops : Array Oper) (env : List (Nat × AV)) (o : Oper) : Want :=
  match o.guard with
  | none => .yes
  | some (j, wt) => (match (ops[j]?).bind (·.dst) with
    | none => .no
    | some d => (match envGet env d with
      | .tt => bif wt then .yes else .no
      | .ff => bif wt then .no else .yes
      | .bool b => .ask d b
      | .raw (.tuple _) => .no
      | _ => .bad))

theorem want?_sound {ops : Array Oper} {env : List (Nat × AV)} {o : Oper} {r : Nm} {a : Act} (he : ∀ j wt d, o.guard = some (j, wt) → (ops[j]?).bind (·.dst) = some d → rel r (envGet env d) (a.tmps.getD d undef) ∧ d < a.tmps.size) :
    (want? ops env o = .yes → Region.wanted o (yielded ops a.tmps) = true) ∧ (want? ops env o = .no → Region.wanted o (yielded ops a.tmps) = false) := by
  unfold want? Region.wanted
  cases hg : o.guard with
  | none => exact ⟨fun _ => rfl, fun h => by cases h⟩
  | some q =>
    obtain ⟨j, wt⟩ := q
    simp only
    cases hd : (ops[j]?).bind (·.dst) with
    | none => exact ⟨fun h => (by cases h), fun _ => (by simp [yielded, hd])⟩
    | some d =>
      obtain ⟨h1, h2⟩ := he j wt d hg hd
      have hget : a.tmps[d]? = some (a.tmps.getD d undef) := by simp [Array.getD, h2]
      have hy : yielded ops a.tmps j = (match a.tmps.getD d undef with | .bool b => some b | _ => none) := by
        unfold yielded
        rw [hd]; simp only [Option.bind_some]; rw [hget]
        cases a.tmps.getD d undef <;> rfl
      simp only
      split
      · rename_i hx; rw [hx] at h1; simp only [rel] at h1; rw [hy, h1]; cases wt <;> simp
      · rename_i hx; rw [hx] at h1; simp only [rel] at h1; rw [hy, h1]; cases wt <;> simp
      · exact ⟨fun h => (by cases h), fun h => (by cases h)⟩
      · rename_i hx; rw [hx] at h1; simp only [rel] at h1; rw [hy, h1]; exact ⟨fun h => (by cases h), fun _ => (by simp)⟩
      · exact ⟨fun h => (by cases h), fun h => (by cases h)⟩

end
end Sx
end Go.Proofs.YtmcmdghmglopnaaGreatDoor

/-
  Regions: in the order of the text, and in whatever order is drawn.
-/
namespace Go.Proofs.YtmcmdghmglopnaaGreatDoor
namespace Sx
open Go

section
variable {U : Uni} {P : Program} {τ : Tab}

def elemN (l : List Nat) (i : Nat) : Bool := l.any (Nat.beq i ·)
theorem elemN_iff {l : List Nat} {i : Nat} : elemN l i = true ↔ i ∈ l := by
  unfold elemN; rw [List.any_eq_true]
  constructor
  · rintro ⟨x, hx, e⟩; rw [Nat.eq_of_beq_eq_true e]; exact hx
  · intro h; exact ⟨i, h, by simp⟩

/-- A frame and a world, as known. -/
structure SatS (β : Base) (r : Nm) (s : St U) (a : Act) (w : World) : Prop where
  sat : Sat β r s.heap w
  fresh : Fresh r s.nx
  env : EnvOk r s.env a
  size : a.tmps.size = s.nt
  defers : a.defers = []

/-- What was there is there still, but for what was touched. -/
structure Fr (s s' : St U) : Prop where
  tl : ∀ i, i ∈ s.tl → i ∈ s'.tl
  kept : Kept s.heap s'.heap s'.tl
  nt : s'.nt = s.nt
theorem Fr.refl (s : St U) : Fr s s := ⟨fun _ h => h, Kept.refl _ _, rfl⟩
theorem Fr.trans {s t u : St U} (h : Fr s t) (k : Fr t u) : Fr s u :=
  ⟨fun i hi => k.tl i (h.tl i hi), h.kept.comp k.kept (fun i hi => k.tl i hi) (fun _ hi => hi), k.nt.trans h.nt⟩
theorem Fr.step {s : St U} {env : List (Nat × AV)} {h' : Heap U} {nx : Nat} {T : List Nat} (k : Kept s.heap h' T) : Fr s { s with env := env, heap := h', nx := nx, tl := T ++ s.tl } :=
  ⟨fun i hi => List.mem_append.2 (.inr hi), fun id B e hn => k id B e (fun hh => hn (List.mem_append.2 (.inl hh))), rfl⟩

def exOf : EX → Exit
  | .nx => .normal
  | .rt => .ret
  | .ex id => .exit id

def WP (P : Program) (c : Code) (s : St U) (R : EX → St U → Prop) : Prop :=
  ∀ (β : Base) (r : Nm) (a : Act) (w : World), SatS β r s a w → ∀ Q : Exit → Act → World → Prop,
    (∀ e s' r' a' w', R e s' → r.le r' → SatS β r' s' a' w' → Fr s s' → Q (exOf e) a' w') → c.wp P Q a w

def dstOk (nt : Nat) (o : Oper) : Bool := match o.dst with | some d => Nat.blt d nt | none => true
def dstsOk (nt : Nat) (ops : Array Oper) : Bool := ops.toList.all (dstOk nt)
theorem dstsOk_lt {nt : Nat} {ops : Array Oper} (h : dstsOk nt ops = true) {i : Nat} {o : Oper} (ho : ops[i]? = some o) {d : Nat} (hd : o.dst = some d) : d < nt := by
  have hm : o ∈ ops.toList := by rw [Array.mem_toList_iff]; exact Array.mem_of_getElem? ho
  have := List.all_eq_true.1 h o hm
  simp only [dstOk, hd] at this
  exact Nat.le_of_ble_eq_true this

/-! ## in the order of the text -/
def seqOps (τ : Tab) (κ : Kinds U) (C : CallF U) (ops : Array Oper) : List Oper → St U → (St U → Out U) → Out U
  | [], s, K => K s
  | o :: rest, s, K =>
    let skip (s : St U) : Out U := seqOps τ κ C ops rest { s with env := envPut s.env o.dst (.raw undef) } K
    let go (s : St U) : Out U := stepAny τ κ C o.op s.env s.heap s.nx (fun v h' nx' T _ => seqOps τ κ C ops rest { s with env := envPut s.env o.dst v, heap := h', nx := nx', tl := T ++ s.tl } K)
    match want? ops s.env o with
    | .yes => go s
    | .no => skip s
    | .ask d b => (match o.guard with
      | some (_, true) => .ite b (go { s with env := (d, .tt) :: s.env }) (skip { s with env := (d, .ff) :: s.env })
      | some (_, false) => .ite b (skip { s with env := (d, .tt) :: s.env }) (go { s with env := (d, .ff) :: s.env })
      | none => .bad 210)
    | .bad => .bad 211

theorem EnvOk.refine {r : Nm} {env : List (Nat × AV)} {a : Act} (h : EnvOk r env a) {d : Nat} {x : AV} (hx : ∀ z, rel r (envGet env d) z → rel r x z) : EnvOk r ((d, x) :: env) a := by
  intro t
  show rel r (envGet (envPut env (some d) x) t) _
  rw [envGet_put]
  by_cases ht : t = d
  · subst ht; simp only [if_true]; exact hx _ (h t)
  · rw [if_neg ht]; exact h t

theorem want_ask {ops : Array Oper} {env : List (Nat × AV)} {o : Oper} {d : Nat} {b : Bool} (h : want? ops env o = .ask d b) :
    envGet env d = .bool b ∧ ∃ j wt, o.guard = some (j, wt) ∧ (ops[j]?).bind (·.dst) = some d := by
  unfold want? at h
  cases hg : o.guard with
  | none => rw [hg] at h; cases h
  | some q =>
    obtain ⟨j, wt⟩ := q
    rw [hg] at h; simp only at h
    cases hd : (ops[j]?).bind (·.dst) with
    | none => rw [hd] at h; cases h
    | some d' =>
      rw [hd] at h; simp only at h
      split at h <;> try (cases wt <;> (cases h; done))
      rename_i b' hb
      cases h
      exact ⟨hb, j, wt, rfl, hd⟩

theorem guard_slot {ops : Array Oper} {nt : Nat} (hd : dstsOk nt ops = true) {r : Nm} {env : List (Nat × AV)} {a : Act} (he : EnvOk r env a) (hs : a.tmps.size = nt) {o : Oper} :
    ∀ j wt d, o.guard = some (j, wt) → (ops[j]?).bind (·.dst) = some d → rel r (envGet env d) (a.tmps.getD d undef) ∧ d < a.tmps.size := by
  intro j wt d _ hb
  refine ⟨he d, ?_⟩
  cases ho : ops[j]? with
  | none => rw [ho] at hb; simp at hb
  | some p => rw [ho] at hb; simp at hb; rw [hs]; exact dstsOk_lt hd ho hb

theorem seqOps_sound (hτ : τ.met P) {κ : Kinds U} (hκ : κ.met τ) {M : Goal U} {C : CallF U} (hC : C.ok P M) {ops : Array Oper} {Q : Exit → Act → World → Prop} {K : St U → Out U} {β : Base} :
    ∀ (l : List Oper), (∀ o ∈ l, o ∈ ops.toList) → ∀ (s : St U) (r : Nm) (a : Act) (w : World), dstsOk s.nt ops = true → (seqOps τ κ C ops l s K).holds M → SatS β r s a w →
      (∀ s' r' a' w', (K s').holds M → r.le r' → SatS β r' s' a' w' → Fr s s' → Q .normal a' w') → wpList P ops Q l a w
  | [], _, s, r, a, w, _, H, hs, hQ => hQ s r a w H (Nm.le.refl r) hs (Fr.refl s)
  | o :: rest, hin, s, r, a, w, hd, H, hs, hQ => by
    have hoin := hin o (by simp)
    obtain ⟨i0, hi0⟩ := List.mem_iff_getElem?.1 hoin
    have hio : ops[i0]? = some o := by simpa using hi0
    have hdlt : ∀ d, o.dst = some d → d < s.nt := fun d e => dstsOk_lt hd hio e
    have goCase : ∀ (s1 : St U), s1.nt = s.nt → s1.heap = s.heap → s1.tl = s.tl → s1.nx = s.nx → SatS β r s1 a w → Region.wanted o (yielded ops a.tmps) = true →
        (stepAny τ κ C o.op s1.env s1.heap s1.nx (fun v h' nx' T _ => seqOps τ κ C ops rest { s1 with env := envPut s1.env o.dst v, heap := h', nx := nx', tl := T ++ s1.tl } K)).holds M → wpList P ops Q (o :: rest) a w := by
      intro s1 e1 e2 e3 e4 hs1 hw H
      simp only [wpList, hw, if_true]
      left
      have hop := stepAny_sound hτ hκ hC H
      refine hop β r a w (fun x _ => evO_ok hs1.env x) hs1.sat hs1.fresh _ _ ?_
      rintro v h' nx' T z w' r' ⟨_, hK⟩ g1 g2 g3 g4 g5
      have hsat : SatS β r' { s1 with env := envPut s1.env o.dst v, heap := h', nx := nx', tl := T ++ s1.tl } (a.put o.dst z) w' :=
        ⟨g4, g2, (hs1.env.mono g1).put g3 (fun d e => by rw [hs1.size, e1]; exact hdlt d e), by rw [put_size]; exact hs1.size, by rw [put_defers]; exact hs1.defers⟩
      refine seqOps_sound hτ hκ hC rest (fun p hp => hin p (by simp [hp])) _ r' _ w' (by show dstsOk s1.nt ops = true; rw [e1]; exact hd) hK hsat ?_
      intro s' r'' a' w'' hK' l1 hs' hf
      refine hQ s' r'' a' w'' hK' (g1.trans l1) hs' ?_
      have hf0 : Fr s { s1 with env := envPut s1.env o.dst v, heap := h', nx := nx', tl := T ++ s1.tl } :=
        ⟨fun i hi => List.mem_append.2 (.inr (by rw [e3]; exact hi)), fun id B e hn => g5 id B (by rw [e2]; exact e) (fun hh => hn (List.mem_append.2 (.inl hh))), e1⟩
      exact hf0.trans hf
    have skipCase : ∀ (s1 : St U), s1.nt = s.nt → s1.heap = s.heap → s1.tl = s.tl → s1.nx = s.nx → SatS β r s1 a w → Region.wanted o (yielded ops a.tmps) = false →
        (seqOps τ κ C ops rest { s1 with env := envPut s1.env o.dst (.raw undef) } K).holds M → wpList P ops Q (o :: rest) a w := by
      intro s1 e1 e2 e3 e4 hs1 hw H
      simp only [wpList, hw, Bool.false_eq_true, if_false]
      have hsat : SatS β r { s1 with env := envPut s1.env o.dst (.raw undef) } (a.put o.dst undef) w :=
        ⟨hs1.sat, hs1.fresh, hs1.env.put rfl (fun d e => by rw [hs1.size, e1]; exact hdlt d e), by rw [put_size]; exact hs1.size, by rw [put_defers]; exact hs1.defers⟩
      refine seqOps_sound hτ hκ hC rest (fun p hp => hin p (by simp [hp])) _ r _ w (by show dstsOk s1.nt ops = true; rw [e1]; exact hd) H hsat ?_
      intro s' r'' a' w'' hK' l1 hs' hf
      refine hQ s' r'' a' w'' hK' l1 hs' ?_
      have hf0 : Fr s { s1 with env := envPut s1.env o.dst (.raw undef) } := ⟨fun i hi => by show i ∈ s1.tl; rw [e3]; exact hi, fun id B e _ => ⟨B, by show s1.heap.get id = some B; rw [e2]; exact e, .inl rfl⟩, e1⟩
      exact hf0.trans hf
    have hwant := want?_sound (guard_slot hd hs.env hs.size (o := o))
    simp only [seqOps] at H
    split at H
    · rename_i hw
      exact goCase s rfl rfl rfl rfl hs (hwant.1 hw) H
    · rename_i hw
      exact skipCase s rfl rfl rfl rfl hs (hwant.2 hw) H
    · rename_i d b hw
      obtain ⟨hb, j, wt, hg, hjd⟩ := want_ask hw
      have ref : ∀ c : Bool, b = c → SatS β r { s with env := (d, bif c then .tt else .ff) :: s.env } a w ∧ Region.wanted o (yielded ops a.tmps) = (c == wt) := by
        intro c hc
        have hs1 : SatS β r { s with env := (d, bif c then .tt else .ff) :: s.env } a w := ⟨hs.sat, hs.fresh, hs.env.refine (fun z hz => by rw [hb] at hz; simp only [rel] at hz; subst hc; subst hz; cases b <;> simp [rel]), hs.size, hs.defers⟩
        refine ⟨hs1, ?_⟩
        obtain ⟨h1, h2⟩ := guard_slot hd hs1.env hs1.size j wt d hg hjd
        have hget : envGet ((d, bif c then AV.tt else AV.ff) :: s.env) d = bif c then AV.tt else AV.ff := by
          show envGet (envPut s.env (some d) _) d = _; rw [envGet_put]; simp
        have hw2 := want?_sound (ops := ops) (o := o) (guard_slot hd hs1.env hs1.size)
        unfold want? at hw2
        simp only [hg, hjd, hget] at hw2
        cases c <;> cases wt <;> simp at hw2 ⊢ <;> exact hw2
      split at H
      · rename_i j' hg'
        rw [hg] at hg'; cases hg'
        cases hbb : b with
        | true =>
          obtain ⟨h1, h2⟩ := ref true hbb
          exact goCase { s with env := (d, .tt) :: s.env } rfl rfl rfl rfl h1 (by simpa using h2) (H.1 hbb)
        | false =>
          obtain ⟨h1, h2⟩ := ref false hbb
          exact skipCase { s with env := (d, .ff) :: s.env } rfl rfl rfl rfl h1 (by simpa using h2) (H.2 hbb)
      · rename_i j' hg'
        rw [hg] at hg'; cases hg'
        cases hbb : b with
        | true =>
          obtain ⟨h1, h2⟩ := ref true hbb
          exact skipCase { s with env := (d, .tt) :: s.env } rfl rfl rfl rfl h1 (by simpa using h2) (H.1 hbb)
        | false =>
          obtain ⟨h1, h2⟩ := ref false hbb
          exact goCase { s with env := (d, .ff) :: s.env } rfl rfl rfl rfl h1 (by simpa using h2) (H.2 hbb)
      · exact H.elim
    · exact H.elim

theorem region_text (hτ : τ.met P) {κ : Kinds U} (hκ : κ.met τ) {M : Goal U} {C : CallF U} (hC : C.ok P M) {id : Nat} {ops : Array Oper} {s : St U} {K : St U → Out U}
    (hd : dstsOk s.nt ops = true) (H : (seqOps τ κ C ops ops.toList s K).holds M) : WP P (.region id ops false) s (fun e s' => e = .nx ∧ (K s').holds M) := by
  intro β r a w hs Q hQ
  refine wp_region ?_
  have := wpOps_eq_wpList (P := P) (ops := ops) (Q := Q) ops.toList 0 (fun j => by simp)
  rw [List.range_eq_range']
  have e : ops.toList.length = ops.size := by simp
  rw [e] at this
  rw [this]
  exact seqOps_sound hτ hκ hC ops.toList (fun _ h => h) s r a w hd H hs (fun s' r' a' w' hK l hs' hf => hQ .nx s' r' a' w' ⟨rfl, hK⟩ l hs' hf)

end
end Sx
end Go.Proofs.YtmcmdghmglopnaaGreatDoor

/-
  A region whose order is drawn: what only reads is taken as soon as it may be; what writes in each order that the edges leave.
-/
namespace Go.Proofs.YtmcmdghmglopnaaGreatDoor
namespace Sx
open Go

section
variable {U : Uni} {P : Program} {τ : Tab}

structure RS (U : Uni) where
  env : List (Nat × AV)
  heap : Heap U
  nx : Nat
  tl : List Nat
  done : List Nat
  rds : List (Nat × Nat)

def edgeOn (o : Oper) (i : Nat) : Bool := o.after.toList.any fun e => Region.binds .any e && Nat.beq e.on i
def readyB (done : List Nat) (o : Oper) : Bool := o.after.toList.all fun e => !(Region.binds .any e) || elemN done e.on
def looksB (ops : Array Oper) (o : Oper) (d : Nat) : Bool := elemN (o.looksAt ops) d
def dstIs (o : Oper) (d : Nat) : Bool := match o.dst with | some x => Nat.beq x d | none => false

def ancB (ops : Array Oper) : Nat → Nat → Nat → Bool
  | 0, _, _ => false
  | n + 1, i, j => (match ops[i]? with
    | some o => edgeOn o j || o.after.toList.any fun e => Region.binds .any e && ancB ops n e.on j
    | none => false)

/-- Loads that are not taken as soon as they may be, but in each order. -/
def slowTys : List Nat := []
def appB : Op → Bool
  | .call c => (match c.callee with | .builtin .append => true | _ => false)
  | _ => false
def slowB (ops : Array Oper) (i : Nat) : Op → Bool
  | .load T _ => elemN slowTys T && ops.toList.zipIdx.any fun q => appB q.1.op && !(ancB ops ops.size q.2 i)
  | _ => false
/-- Reads alone, and what it tells is no other one's, and whoever asks for it waits for it. -/
def lazyB (ops : Array Oper) (i : Nat) (o : Oper) : Bool :=
  isLz o.op && (match (bif slowB ops i o.op then none else o.dst) with
    | none => false
    | some d => ops.toList.zipIdx.all fun q => Nat.beq q.2 i || (!(dstIs q.1 d) && (!(looksB ops q.1 d) || edgeOn q.1 i)))

/-- Whoever asks for what this one writes waits for it, or comes ahead of it. -/
def eagerB (ops : Array Oper) (i : Nat) (o : Oper) : Bool :=
  match o.dst with
  | none => true
  | some d => ops.toList.zipIdx.all fun q => Nat.beq q.2 i || !(looksB ops q.1 d) || edgeOn q.1 i || ancB ops ops.size i q.2

def firstLazy (ops : Array Oper) (done : List Nat) : List (Oper × Nat) → Option (Oper × Nat)
  | [] => none
  | (o, i) :: l => bif !(elemN done i) && readyB done o && lazyB ops i o then some (o, i) else firstLazy ops done l

def readyAll (done : List Nat) (l : List (Oper × Nat)) : List (Oper × Nat) := l.filter fun q => !(elemN done q.2) && readyB done q.1

/-- No block that is lent. -/
def noRo : Heap U → Bool
  | [] => true
  | (_, .ro _ _) :: _ => false
  | (_, .rpool _) :: _ => false
  | _ :: h => noRo h
/-- What only makes a block of nothing. -/
def allocB (τ : Tab) : Op → Bool
  | .alloc T => (match τ T with | some R => !R.pool | none => false)
  | .makeMap _ none => true
  | .makeSlice T _ _ => (match sliceOf τ T with | some (e, _) => (match τ e with | some R => !R.pool | none => false) | none => false)
  | _ => false
/-- And nothing stands against it. -/
def mkOk (τ : Tab) (κ : Kinds U) (op : Op) (ev : Operand → AV) : Bool :=
  match op with
  | .makeSlice T l c => (match sliceOf τ T with
    | some (e, _) => (match κ e, τ e, (ev l).num, (ev c).num with
      | some _, some R, some (_, a, true), some (_, b, true) => decide (0 ≤ a ∧ a ≤ b ∧ (R.bytes : Int) * b ≤ 281474976710656)
      | _, _, _, _ => false)
    | none => false)
  | _ => true
/-- Such a one, where whoever waits for it waits for all that write. -/
def floatB (τ : Tab) (ops : Array Oper) (f : Nat) (o : Oper) : Bool :=
  allocB τ o.op && o.guard.isNone &&
  (match o.dst with
    | some d => ops.toList.zipIdx.all fun q => Nat.beq q.2 f || (!(dstIs q.1 d) && (!(looksB ops q.1 d) || edgeOn q.1 f))
    | none => false) &&
  (ops.toList.zipIdx.all fun p => !(ancB ops ops.size p.2 f) || (ops.toList.zipIdx.all fun k => Nat.beq k.2 f || lazyB ops k.2 k.1 || ancB ops ops.size k.2 f || ancB ops ops.size p.2 k.2)) &&
  (ops.toList.zipIdx.all fun q => Nat.beq q.2 f || ancB ops ops.size f q.2 || (match q.1.dst with | some d => !(looksB ops o d) | none => true))
def firstFl (τ : Tab) (ops : Array Oper) : List (Oper × Nat) → Option Nat
  | [] => none
  | (o, i) :: l => bif floatB τ ops i o then some i else firstFl τ ops l
def notFl (f : Nat) (q : Oper × Nat) : Bool := !(Nat.beq q.2 f)
def dropFl (l es : List (Oper × Nat)) : List (Oper × Nat) := match es with | [] => l | _ => es
def isFl (τ : Tab) (ops : Array Oper) (i : Nat) : Bool := match firstFl τ ops ops.toList.zipIdx with | some f => Nat.beq f i | none => false
/-- Those of which one is taken next: not what floats, as long as there is another one. -/
def hold (τ : Tab) (κ : Kinds U) (ops : Array Oper) (fz : Bool) (env : List (Nat × AV)) (l : List (Oper × Nat)) : List (Oper × Nat) :=
  bif Nat.ble l.length 1 then l else (match firstFl τ ops ops.toList.zipIdx with
    | none => l
    | some f => (match ops[f]? with
      | some o => bif fz && mkOk τ κ o.op (evO env) then dropFl l (l.filter (notFl f)) else l
      | none => l))

def bothAll : List (Out U) → Out U
  | [] => .bad 220
  | [o] => o
  | o :: os => .both o (bothAll os)

def putRd (i : Nat) (rd : Option Nat) (rds : List (Nat × Nat)) : List (Nat × Nat) := match rd with | some id => (i, id) :: rds | none => rds

def stable (ops : Array Oper) (i : Nat) (T : List Nat) (rds : List (Nat × Nat)) : Bool := rds.all fun q => ancB ops ops.size i q.1 || !(elemN T q.2)

def explore (τ : Tab) (κ : Kinds U) (C : CallF U) (ops : Array Oper) (fz : Bool) : Nat → RS U → (RS U → Out U) → Out U
  | 0, _, _ => .bad 221
  | n + 1, s, K =>
    match firstLazy ops s.done ops.toList.zipIdx with
    | some (o, i) => (match want? ops s.env o with
      | .yes => evalL τ κ o.op (evO s.env) s.heap (fun v rd => explore τ κ C ops fz n { s with env := envPut s.env o.dst v, done := i :: s.done, rds := putRd i rd s.rds } K)
      | .no => explore τ κ C ops fz n { s with env := envPut s.env o.dst (.raw undef), done := i :: s.done } K
      | .ask d b => .ite b (explore τ κ C ops fz n { s with env := (d, .tt) :: s.env } K) (explore τ κ C ops fz n { s with env := (d, .ff) :: s.env } K)
      | .bad => .bad 222)
    | none => (match hold τ κ ops fz s.env (readyAll s.done ops.toList.zipIdx) with
      | [] => bif Nat.beq s.done.length ops.size then K s else .bad 223
      | es => bothAll (es.map fun q => (bif isFl τ ops q.2 && fz && !(noRo s.heap) then .bad 228 else match want? ops s.env q.1 with
        | .yes => bif eagerB ops q.2 q.1 then stepAny τ κ C q.1.op s.env s.heap s.nx (fun v h' nx' T _ => bif stable ops q.2 T s.rds then explore τ κ C ops fz n { s with env := envPut s.env q.1.dst v, heap := h', nx := nx', tl := T ++ s.tl, done := q.2 :: s.done } K else .bad 224) else .bad 225
        | .no => bif eagerB ops q.2 q.1 then explore τ κ C ops fz n { s with env := envPut s.env q.1.dst (.raw undef), done := q.2 :: s.done } K else .bad 226
        | .ask d b => .ite b (explore τ κ C ops fz n { s with env := (d, .tt) :: s.env } K) (explore τ κ C ops fz n { s with env := (d, .ff) :: s.env } K)
        | .bad => .bad 227)))

/-- The same, the parts of the state by themselves: what hangs on the region alone is asked once. -/
def exploreD (τ : Tab) (κ : Kinds U) (C : CallF U) (ops : Array Oper) (fz : Bool) : Nat → List Nat → List (Nat × AV) → Heap U → Nat → List Nat → List (Nat × Nat) → (RS U → Out U) → Out U
  | 0, _, _, _, _, _, _, _ => .bad 221
  | n + 1, done, env, heap, nx, tl, rds, K =>
    match firstLazy ops done ops.toList.zipIdx with
    | some (o, i) => (match want? ops env o with
      | .yes => evalL τ κ o.op (evO env) heap (fun v rd => exploreD τ κ C ops fz n (i :: done) (envPut env o.dst v) heap nx tl (putRd i rd rds) K)
      | .no => exploreD τ κ C ops fz n (i :: done) (envPut env o.dst (.raw undef)) heap nx tl rds K
      | .ask d b => .ite b (exploreD τ κ C ops fz n done ((d, .tt) :: env) heap nx tl rds K) (exploreD τ κ C ops fz n done ((d, .ff) :: env) heap nx tl rds K)
      | .bad => .bad 222)
    | none => (match hold τ κ ops fz env (readyAll done ops.toList.zipIdx) with
      | [] => bif Nat.beq done.length ops.size then K ⟨env, heap, nx, tl, done, rds⟩ else .bad 223
      | es => bothAll (es.map fun q => (bif isFl τ ops q.2 && fz && !(noRo heap) then .bad 228 else match want? ops env q.1 with
        | .yes => bif eagerB ops q.2 q.1 then stepAny τ κ C q.1.op env heap nx (fun v h' nx' T _ => bif stable ops q.2 T rds then exploreD τ κ C ops fz n (q.2 :: done) (envPut env q.1.dst v) h' nx' (T ++ tl) rds K else .bad 224) else .bad 225
        | .no => bif eagerB ops q.2 q.1 then exploreD τ κ C ops fz n (q.2 :: done) (envPut env q.1.dst (.raw undef)) heap nx tl rds K else .bad 226
        | .ask d b => .ite b (exploreD τ κ C ops fz n done ((d, .tt) :: env) heap nx tl rds K) (exploreD τ κ C ops fz n done ((d, .ff) :: env) heap nx tl rds K)
        | .bad => .bad 227)))
theorem exploreD_eq (τ : Tab) (κ : Kinds U) (C : CallF U) (ops : Array Oper) (fz : Bool) : ∀ (n : Nat) (s : RS U) (K : RS U → Out U), explore τ κ C ops fz n s K = exploreD τ κ C ops fz n s.done s.env s.heap s.nx s.tl s.rds K
  | 0, _, _ => rfl
  | n + 1, s, K => by
    unfold explore exploreD
    simp only [exploreD_eq τ κ C ops fz n]

theorem bothAll_holds {M : Goal U} : ∀ {l : List (Out U)} {o : Out U}, (bothAll l).holds M → o ∈ l → o.holds M
  | [x], o, h, ho => by simp at ho; subst ho; exact h
  | x :: y :: l, o, h, ho => by
    obtain ⟨h1, h2⟩ := h
    rcases List.mem_cons.1 ho with rfl | ho
    · exact h1
    · exact bothAll_holds h2 ho

theorem firstLazy_some {ops : Array Oper} {done : List Nat} : ∀ {l : List (Oper × Nat)} {o : Oper} {i : Nat}, firstLazy ops done l = some (o, i) →
    (o, i) ∈ l ∧ i ∉ done ∧ readyB done o = true ∧ lazyB ops i o = true
  | [], _, _, h => by simp [firstLazy] at h
  | (p, j) :: l, o, i, h => by
    unfold firstLazy at h
    cases hc : (!(elemN done j) && readyB done p && lazyB ops j p) with
    | true =>
      rw [hc] at h; simp at h; obtain ⟨h1, h2⟩ := h
      subst h1; subst h2
      simp only [Bool.and_eq_true, Bool.not_eq_true'] at hc
      exact ⟨by simp, fun hm => by rw [elemN_iff.2 hm] at hc; simp at hc, hc.1.2, hc.2⟩
    | false =>
      rw [hc] at h; simp at h
      obtain ⟨h1, h2⟩ := firstLazy_some h
      exact ⟨by simp [h1], h2⟩
theorem firstLazy_none {ops : Array Oper} {done : List Nat} : ∀ {l : List (Oper × Nat)}, firstLazy ops done l = none → ∀ o i, (o, i) ∈ l → i ∉ done → readyB done o = true → lazyB ops i o = false
  | [], _, _, _, h, _, _ => by simp at h
  | (p, j) :: l, h, o, i, hm, hn, hr => by
    unfold firstLazy at h
    cases hc : (!(elemN done j) && readyB done p && lazyB ops j p) with
    | true => rw [hc] at h; simp at h
    | false =>
      rw [hc] at h; simp at h
      rcases List.mem_cons.1 hm with e | hm
      · have e1 : o = p := congrArg Prod.fst e
        have e2 : i = j := congrArg Prod.snd e
        rw [← e1, ← e2] at hc
        have : elemN done i = false := by cases e : elemN done i with | true => exact absurd (elemN_iff.1 e) hn | false => rfl
        rw [this, hr] at hc; simpa using hc
      · exact firstLazy_none h o i hm hn hr

theorem firstFl_some {τ : Tab} {ops : Array Oper} {f : Nat} : ∀ {l : List (Oper × Nat)}, firstFl τ ops l = some f → ∃ o, (o, f) ∈ l ∧ floatB τ ops f o = true
  | [], h => by cases h
  | (o, i) :: l, h => by
    unfold firstFl at h
    cases e : floatB τ ops i o with
    | true => rw [e] at h; simp at h; subst h; exact ⟨o, by simp, e⟩
    | false => rw [e] at h; simp at h; obtain ⟨o', h1, h2⟩ := firstFl_some h; exact ⟨o', List.mem_cons_of_mem _ h1, h2⟩
theorem dropFl_cases (l es : List (Oper × Nat)) : (es = [] ∧ dropFl l es = l) ∨ (es ≠ [] ∧ dropFl l es = es) := by
  cases es with
  | nil => exact .inl ⟨rfl, rfl⟩
  | cons q es => exact .inr ⟨by simp, rfl⟩
theorem hold_cases (τ : Tab) (κ : Kinds U) (ops : Array Oper) (fz : Bool) (env : List (Nat × AV)) (l : List (Oper × Nat)) : hold τ κ ops fz env l = l ∨
    ∃ f o, fz = true ∧ firstFl τ ops ops.toList.zipIdx = some f ∧ ops[f]? = some o ∧ mkOk τ κ o.op (evO env) = true ∧ l.filter (notFl f) ≠ [] ∧ hold τ κ ops fz env l = l.filter (notFl f) := by
  unfold hold
  cases h : Nat.ble l.length 1 with
  | true => exact .inl rfl
  | false =>
    simp only [cond_false]
    cases hf : firstFl τ ops ops.toList.zipIdx with
    | none => exact .inl rfl
    | some f =>
      simp only
      cases ho : ops[f]? with
      | none => exact .inl rfl
      | some o =>
        simp only
        cases hc : (fz && mkOk τ κ o.op (evO env)) with
        | false => exact .inl rfl
        | true =>
          simp only [Bool.and_eq_true] at hc
          simp only [cond_true]
          rcases dropFl_cases l (l.filter (notFl f)) with ⟨_, e⟩ | ⟨hn, e⟩
          · exact .inl e
          · exact .inr ⟨f, o, hc.1, rfl, ho, hc.2, hn, e⟩
theorem hold_nil {τ : Tab} {κ : Kinds U} {ops : Array Oper} {fz : Bool} {env : List (Nat × AV)} {l : List (Oper × Nat)} (h : hold τ κ ops fz env l = []) : l = [] := by
  rcases hold_cases τ κ ops fz env l with e | ⟨f, o, _, _, _, _, hn, e⟩
  · rw [e] at h; exact h
  · rw [e] at h; exact absurd h hn
theorem notFl_ne {f : Nat} {q : Oper × Nat} : notFl f q = true ↔ q.2 ≠ f := by
  unfold notFl
  cases hb : Nat.beq q.2 f with
  | true => simp [Nat.eq_of_beq_eq_true hb]
  | false => simp only [Bool.not_false, true_iff]; intro e; rw [e] at hb; simp at hb
/-- What is held back is what floats, and another one is there. -/
theorem hold_mem {τ : Tab} {κ : Kinds U} {ops : Array Oper} {fz : Bool} {env : List (Nat × AV)} {l : List (Oper × Nat)} {q : Oper × Nat} (h : q ∈ l) (hq : ops[q.2]? = some q.1) :
    q ∈ hold τ κ ops fz env l ∨ (fz = true ∧ firstFl τ ops ops.toList.zipIdx = some q.2 ∧ mkOk τ κ q.1.op (evO env) = true) := by
  rcases hold_cases τ κ ops fz env l with e | ⟨f, o, hz, hf, ho, hok, _, e⟩
  · rw [e]; exact .inl h
  · rw [e]
    by_cases he : q.2 = f
    · rw [he, ho] at hq; cases hq
      exact .inr ⟨hz, by rw [he]; exact hf, hok⟩
    · exact .inl (List.mem_filter.2 ⟨h, notFl_ne.2 he⟩)
theorem hold_sub {τ : Tab} {κ : Kinds U} {ops : Array Oper} {fz : Bool} {env : List (Nat × AV)} {l : List (Oper × Nat)} {q : Oper × Nat} (h : q ∈ hold τ κ ops fz env l) : q ∈ l := by
  rcases hold_cases τ κ ops fz env l with e | ⟨f, o, _, _, _, _, _, e⟩
  · rwa [e] at h
  · rw [e] at h; exact (List.mem_filter.1 h).1
theorem den_noRo {G G' : Hp} {r : Nm} : ∀ {h : Heap U} {H : Hp}, noRo h = true → h.den G r H → h.den G' r H
  | [], _, _, e => e
  | (id, B) :: h, H, hn, ⟨H1, H2, a, b, c, d⟩ => by
    have hn' : noRo h = true := by cases B <;> first | exact hn | (exact Bool.noConfusion hn)
    refine ⟨H1, H2, ?_, den_noRo hn' b, c, d⟩
    cases B <;> first | exact a | (exact Bool.noConfusion hn)
/-- What floats, done in the machine ahead: which one, its block, what lies there. -/
abbrev Fl := Option (Nat × Nat × Obj)
def baseFl (β : Base) : Fl → Base
  | none => β
  | some x => { β with G := β.G.join (Hp.one x.2.1 x.2.2) }
/-- What such a one does, wherever it is done. -/
def FlDo (P : Program) (op : Op) (ev : Operand → AV) (nw : Nat) (v : AV) (B : Blk U) : Prop :=
  ∀ (a : Act) (o : Oper) (w : World), o.op = op → (∃ r, ∀ x ∈ op.operands.toList, rel r (ev x) (a.eval x)) → ∃ ob z, (execOp a.eval o).run P w = .ok (.value z) (w.alloc ob) ∧ ∀ r' : Nm, r' nw = some (w.heap.size, 0) → rel r' v z ∧ ∀ G, B.den G r' nw (Hp.one w.heap.size ob)
theorem evalE0_split {κ : Kinds U} {M : Goal U} {op : Op} {ev : Operand → AV} {h : Heap U} {nw : Nat} {K : AV → Heap U → List Nat → Out U} (H : (evalE0 τ κ op ev h nw K).holds M) :
    ∃ X, (h.get nw = none ∨ nw ∈ X) ∧ (evalE1 τ κ op ev h nw X K).holds M := by
  unfold evalE0 at H
  rw [holds_bif] at H
  split at H
  · exact ⟨[nw], .inr (List.mem_singleton.2 rfl), H⟩
  · cases hn : h.get nw with
    | some B => rw [hn] at H; exact H.elim
    | none => rw [hn] at H; exact ⟨[], .inl rfl, H⟩
theorem alloc_shape {op : Op} (ha : allocB τ op = true) : (∃ T R, op = .alloc T ∧ τ T = some R ∧ R.pool = false) ∨ (∃ T, op = .makeMap T none) ∨ ∃ T l c e s R, op = .makeSlice T l c ∧ sliceOf τ T = some (e, s) ∧ τ e = some R ∧ R.pool = false := by
  cases op with
  | alloc T =>
    simp only [allocB] at ha
    cases hR : τ T with
    | none => rw [hR] at ha; cases ha
    | some R =>
      rw [hR] at ha
      exact .inl ⟨T, R, rfl, hR, by simpa using ha⟩
  | makeMap T rr =>
    cases rr with
    | some _ => cases ha
    | none => exact .inr (.inl ⟨T, rfl⟩)
  | makeSlice T l c =>
    simp only [allocB] at ha
    cases hs : sliceOf τ T with
    | none => rw [hs] at ha; cases ha
    | some q =>
      obtain ⟨e, s⟩ := q
      rw [hs] at ha; simp only at ha
      cases hR : τ e with
      | none => rw [hR] at ha; cases ha
      | some R =>
        rw [hR] at ha
        exact .inr (.inr ⟨T, l, c, e, s, R, rfl, hs, hR, by simpa using ha⟩)
  | _ => exact Bool.noConfusion ha
theorem evalE_alloc {κ : Kinds U} {T : Nat} {R : TyRow} {ev : Operand → AV} {h : Heap U} {nw : Nat} {K : AV → Heap U → List Nat → Out U} (hR : τ T = some R) (hp : R.pool = false) : evalE τ κ (.alloc T) ev h nw K = evalE0 τ κ (.alloc T) ev h nw K := by
  simp only [evalE, hR, hp, cond_false]
theorem evalE_makeMap {κ : Kinds U} {T : Nat} {ev : Operand → AV} {h : Heap U} {nw : Nat} {K : AV → Heap U → List Nat → Out U} : evalE τ κ (.makeMap T none) ev h nw K = evalE0 τ κ (.makeMap T none) ev h nw K := rfl
theorem evalE_makeSlice {κ : Kinds U} {T e s : Nat} {l c : Operand} {R : TyRow} {ev : Operand → AV} {h : Heap U} {nw : Nat} {K : AV → Heap U → List Nat → Out U} (hs : sliceOf τ T = some (e, s)) (hR : τ e = some R) (hp : R.pool = false) : evalE τ κ (.makeSlice T l c) ev h nw K = evalE0 τ κ (.makeSlice T l c) ev h nw K := by
  simp only [evalE, hs, hR, hp, cond_false]
theorem makeSlice_do (hτ : τ.met P) {κ : Kinds U} (hκ : κ.met τ) {T e s : Nat} {l c : Operand} {ev : Operand → AV} {k : U.K} {R : TyRow} {ka kb : IntKind} {a0 b0 : Int} {la lb : Bool} (hs : sliceOf τ T = some (e, s)) (hk : κ e = some k) (hR : τ e = some R) (hl : (ev l).num = some (ka, a0, la)) (hc : (ev c).num = some (kb, b0, lb))
    (h0 : 0 ≤ a0) (h1 : a0 ≤ b0) (h2 : (R.bytes : Int) * b0 ≤ 281474976710656) (nw : Nat) : FlDo P (.makeSlice T l c) ev nw (.sl (la && lb) nw 0 s a0.toNat b0.toNat) (.arr e k (List.replicate a0.toNat (U.enc k).dflt) (b0.toNat - a0.toNat)) := by
  rintro a o w ho ⟨r, hr⟩
  obtain ⟨dst, op, type, pos, after, guard⟩ := o
  have ho : op = .makeSlice T l c := ho
  subst ho
  obtain ⟨R', hR', hsz, hT⟩ := sliceOf_under hτ hs
  rw [hR] at hR'; cases hR'
  obtain ⟨R', hR', hw, hag, hby, hz0⟩ := hκ e k hk
  rw [hR] at hR'; cases hR'
  have hm := hτ e R hR
  obtain ⟨i, z, hi, his, hib, hz, hzs, _, hrz⟩ := hm.info
  have e1 := rel_num hl (hr l (by simp [Op.operands]))
  have e2 := rel_num hc (hr c (by simp [Op.operands]))
  have hb63 : b0 ≤ 9223372036854775807 := by
    have : (1 : Int) ≤ R.bytes := by omega
    have h3 : b0 ≤ (R.bytes : Int) * b0 := by
      have := Int.mul_le_mul_of_nonneg_right this (show 0 ≤ b0 by omega); simpa using this
    omega
  have hrun := run_make (P := P) w T e i z hT hi hz ka kb a0 b0 h0 h1 (by rw [hib]; exact h2) hb63
  refine ⟨_, _, run_value2 (z := .slice (some ⟨w.heap.size, 0, none⟩) a0.toNat b0.toNat) (by simp only [e1, e2]; exact hrun), fun r' hnw => ⟨⟨_, rfl, by omega, .inr ⟨_, hnw, by simp⟩⟩, fun G => ?_⟩⟩
  have hrowL : relL r' ((U.enc k).enc (U.enc k).dflt) z.cells.toList := hz0 r' _ (relL_mono (fun _ _ e => by cases e) _ _ hrz)
  refine .inr ⟨w.heap.size, _, hnw, ?_, ?_, ?_, rfl⟩
  · intro j x hj
    have hx : x = (U.enc k).dflt := by
      rw [List.getElem?_replicate] at hj; split at hj
      · cases hj; rfl
      · cases hj
    have hjl : j < a0.toNat := by
      rw [List.getElem?_replicate] at hj; split at hj
      · assumption
      · cases hj
    subst hx
    have hpos := (U.enc k).pos
    have hzw : z.cells.size = (U.enc k).w := by rw [hzs, hw]
    rw [his, ← hw, ← hzw, madeCells_flatten z.cells (by omega)]
    have hsplit : ((List.replicate b0.toNat z.cells.toList).flatten.drop (0 + j * z.cells.size)).take z.cells.size = z.cells.toList := by
      obtain ⟨n, hn'⟩ : ∃ n, b0.toNat = j + (n + 1) := ⟨b0.toNat - j - 1, by omega⟩
      rw [hn', ← List.replicate_append_replicate, List.flatten_append, List.replicate_succ, List.flatten_cons, Nat.zero_add]
      have hjl' : ((List.replicate j z.cells.toList).flatten).length = j * z.cells.size := by simp
      rw [← hjl', List.drop_left]
      simp
    rw [hsplit]; exact hrowL
  · simp only [size_madeCells, List.length_replicate, his, hw]; congr 1; omega
  · simp only [List.length_replicate, maxLen]; omega
theorem alloc_do (hτ : τ.met P) {T : Nat} {R : TyRow} (hR : τ T = some R) (ev : Operand → AV) (nw : Nat) : FlDo P (.alloc T) ev nw (.ptr nw 0) (.cells T R.zero : Blk U) := by
  intro a o w ho _
  obtain ⟨i, z, hi, _, _, hz, _, _, hrz⟩ := (hτ T R hR).info
  refine ⟨.cells z.cells T (0, 0), .pointer (some ⟨w.heap.size, 0, none⟩), by simp [execOp, ho, Instr.alloc, zeroValue, typeInfo, hi, hz, newVar, newRow], fun r' hnw => ⟨⟨_, hnw, rfl⟩, fun G => ⟨w.heap.size, z.cells.toList, hnw, ?_, by simp⟩⟩⟩
  exact relL_mono (fun _ _ e => by cases e) _ _ hrz
theorem makeMap_do {T : Nat} {kk : IntKind} {k : U.K} (ev : Operand → AV) (nw : Nat) : FlDo P (.makeMap T none) ev nw (.mp nw) (.mp kk k [] : Blk U) := fun a o w ho _ =>
  ⟨.map #[] 0, .map (some w.heap.size), by simp [execOp, ho, Instr.makeMap], fun r' hnw => ⟨⟨_, hnw, rfl⟩, fun G => ⟨w.heap.size, #[], 0, hnw, by simp [relM], MapKept.stamped_empty 0, rfl⟩⟩⟩
theorem float_eval (hτ : τ.met P) {κ : Kinds U} (hκ : κ.met τ) {M : Goal U} {op : Op} (ha : allocB τ op = true) {ev : Operand → AV} {h : Heap U} {nw : Nat} {K : AV → Heap U → List Nat → Out U} (H : (evalE τ κ op ev h nw K).holds M) :
    ∃ v B X, (K v ((nw, B) :: h) X).holds M ∧ (h.get nw = none ∨ nw ∈ X) ∧ FlDo P op ev nw v B := by
  rcases alloc_shape ha with ⟨T, R, rfl, hR, hp⟩ | ⟨T, rfl⟩ | ⟨T, l, c, e, s, R, rfl, hs, hR, hp⟩
  · rw [evalE_alloc hR hp] at H
    obtain ⟨X, hn, H⟩ := evalE0_split H
    unfold evalE1 at H
    simp only [hR] at H
    exact ⟨_, _, X, H, hn, alloc_do hτ hR _ _⟩
  · rw [evalE_makeMap] at H
    obtain ⟨X, hn, H⟩ := evalE0_split H
    unfold evalE1 at H
    simp only at H
    split at H
    · exact ⟨_, _, X, H, hn, makeMap_do _ _⟩
    · exact H.elim
  · rw [evalE_makeSlice hs hR hp] at H
    obtain ⟨X, hn, H⟩ := evalE0_split H
    unfold evalE1 at H
    simp only [hs] at H
    split at H
    · rename_i k R2 ka a0 la kb b0 lb hk hR2 hl hc
      rw [hR] at hR2; cases hR2
      obtain ⟨⟨h0, h1, h2⟩, H⟩ := H
      exact ⟨_, _, X, H, hn, makeSlice_do hτ hκ hs hk hR hl hc h0 h1 h2 _⟩
    · exact H.elim
theorem alloc_run (hτ : τ.met P) {κ : Kinds U} (hκ : κ.met τ) {o : Oper} (ha : allocB τ o.op = true) {ev : Operand → AV} (hok : mkOk τ κ o.op ev = true) {r : Nm} (a : Act) (w : World) (hops : ∀ x ∈ o.op.operands.toList, rel r (ev x) (a.eval x)) : ∃ ob z, (execOp a.eval o).run P w = .ok (.value z) (w.alloc ob) := by
  rcases alloc_shape ha with ⟨T, R, ho, hR, hp⟩ | ⟨T, ho⟩ | ⟨T, l, c, e, s, R, ho, hs, hR, hp⟩
  · obtain ⟨ob, z, h, _⟩ := alloc_do (U := U) hτ hR ev 0 a o w ho ⟨r, by rw [← ho]; exact hops⟩
    exact ⟨ob, z, h⟩
  · exact ⟨.map #[] 0, .map (some w.heap.size), by simp [execOp, ho, Instr.makeMap]⟩
  · rw [ho] at hok
    simp only [mkOk, hs] at hok
    split at hok
    · rename_i k R2 ka a0 kb b0 hk hR2 hl hc
      rw [hR] at hR2; cases hR2
      obtain ⟨h0, h1, h2⟩ := of_decide_eq_true hok
      obtain ⟨ob, z, h, _⟩ := makeSlice_do hτ hκ hs hk hR hl hc h0 h1 h2 0 a o w ho ⟨r, by rw [← ho]; exact hops⟩
      exact ⟨ob, z, h⟩
    · cases hok
theorem alloc_inj {w : World} {o o' : Obj} (h : w.alloc o = w.alloc o') : o = o' := by
  have h1 := heap_alloc_new w o
  have h2 := heap_alloc_new w o'
  rw [h] at h1
  exact Option.some.inj (h1.symm.trans h2)

theorem mem_zipIdx {ops : Array Oper} {o : Oper} {i : Nat} : (o, i) ∈ ops.toList.zipIdx ↔ ops[i]? = some o := by
  rw [List.mem_zipIdx_iff_getElem?]; simp

/-- What waits to be done tells what is known of it already. -/
def Pend (P : Program) (ops : Array Oper) (s : RS U) (i : Nat) (o : Oper) : Prop :=
  (want? ops s.env o = .yes ∧ ∃ v rd, (∀ id B, rd = some (id, B) → s.heap.atLeast id B ∧ (i, id) ∈ s.rds) ∧ Lz P o (evO s.env) v rd ∧ ∀ d, o.dst = some d → ∀ r z, rel r v z → rel r (envGet s.env d) z) ∨
  (want? ops s.env o = .no ∧ ∀ d, o.dst = some d → envGet s.env d = .raw undef)

structure FlOk (P : Program) (τ : Tab) (ops : Array Oper) (fz : Bool) (β : Base) (done : List Nat) (env : List (Nat × AV)) (L : Array Bool) (a : Act) (f b : Nat) (ob : Obj) : Prop where
  z : fz = true
  no : f ∉ done
  yes : L.getD f false = true
  fl : firstFl τ ops ops.toList.zipIdx = some f
  free : β.G b = none
  ex : ∃ (o : Oper) (d : Nat) (a0 : Act) (w0 : World), ops[f]? = some o ∧ o.dst = some d ∧ w0.heap.size = b ∧ (execOp a0.eval o).run P w0 = .ok (.value (a.tmps.getD d undef)) (w0.alloc ob) ∧ ∃ r, ∀ x ∈ o.op.operands.toList, rel r (evO env x) (a0.eval x)
structure Inv (P : Program) (τ : Tab) (ops : Array Oper) (fz : Bool) (nt : Nat) (β : Base) (r : Nm) (s : RS U) (L : Array Bool) (a : Act) (w : World) (fl : Fl) : Prop where
  size : L.size = ops.size
  sub : ∀ i, L.getD i false = true → i ∈ s.done ∨ ∃ x, fl = some (i, x)
  eag : ∀ i o, ops[i]? = some o → i ∈ s.done → lazyB ops i o = false → L.getD i false = true
  down : ∀ i o, ops[i]? = some o → L.getD i false = true → ∀ e ∈ o.after.toList, Region.binds .any e = true → L.getD e.on false = true
  ddown : ∀ i o, ops[i]? = some o → i ∈ s.done → ∀ e ∈ o.after.toList, Region.binds .any e = true → e.on ∈ s.done
  nodup : s.done.Nodup ∧ ∀ i ∈ s.done, i < ops.size
  sat : Sat (baseFl β fl) r s.heap w
  fresh : Fresh r s.nx
  slots : ∀ t, (∀ i o, ops[i]? = some o → i ∈ s.done → L.getD i false = false → o.dst ≠ some t) → (∀ f x o, fl = some (f, x) → ops[f]? = some o → o.dst ≠ some t) → rel r (envGet s.env t) (a.tmps.getD t undef)
  pend : ∀ i o, ops[i]? = some o → i ∈ s.done → L.getD i false = false → Pend P ops s i o
  asize : a.tmps.size = nt
  defers : a.defers = []
  flo : ∀ f b ob, fl = some (f, b, ob) → FlOk P τ ops fz β s.done s.env L a f b ob

theorem Lz.weaken {o : Oper} {ev ev' : Operand → AV} {v : AV} {rd : Option (Nat × Blk U)} (h : Lz P o ev v rd) (k : ∀ x ∈ o.op.operands.toList, ∀ r z, rel r (ev' x) z → rel r (ev x) z) : Lz P o ev' v rd :=
  fun β r a w ho hr => h β r a w (fun x hx => k x hx r _ (ho x hx)) hr

theorem looks_tmp {ops : Array Oper} {o : Oper} {t : Nat} (h : Operand.tmp t ∈ o.op.operands.toList) : t ∈ o.looksAt ops := by
  unfold Oper.looksAt
  refine List.mem_append.2 (.inl (List.mem_filterMap.2 ⟨_, h, rfl⟩))
theorem looks_guard {ops : Array Oper} {o : Oper} {j d : Nat} {wt : Bool} (h : o.guard = some (j, wt)) (hd : (ops[j]?).bind (·.dst) = some d) : d ∈ o.looksAt ops := by
  unfold Oper.looksAt
  refine List.mem_append.2 (.inr ?_)
  rw [h]; simp only [hd]; simp

theorem evO_put {env : List (Nat × AV)} {d : Nat} {v : AV} {x : Operand} (h : x ≠ .tmp d) : evO (envPut env (some d) v) x = evO env x := by
  cases x with
  | tmp t => show envGet _ t = envGet _ t; rw [envGet_put, if_neg (fun e => h (by rw [e]))]
  | _ => rfl
theorem want_put {ops : Array Oper} {env : List (Nat × AV)} {o : Oper} {d : Nat} {v : AV} (h : d ∉ o.looksAt ops) : want? ops (envPut env (some d) v) o = want? ops env o := by
  unfold want?
  cases hg : o.guard with
  | none => rfl
  | some q =>
    obtain ⟨j, wt⟩ := q
    simp only
    cases hd : (ops[j]?).bind (·.dst) with
    | none => rfl
    | some d' =>
      simp only
      rw [envGet_put, if_neg (fun e => h (by have := looks_guard hg hd; rw [e] at this; exact this))]

/-- What is pending stays so where neither its words nor its block turn. -/
theorem Pend.keep {ops : Array Oper} {s s' : RS U} {i : Nat} {o : Oper} (h : Pend P ops s i o) {d : Nat} {v : AV} (he : s'.env = envPut s.env (some d) v) (hl : d ∉ o.looksAt ops) (hd : o.dst ≠ some d)
    (hh : ∀ id B, s.heap.get id = some B → (i, id) ∈ s.rds → s'.heap.atLeast id B) (hr : ∀ q ∈ s.rds, q ∈ s'.rds) : Pend P ops s' i o := by
  have hev : ∀ x ∈ o.op.operands.toList, evO s'.env x = evO s.env x := fun x hx => by
    rw [he]; exact evO_put (fun e => hl (looks_tmp (e ▸ hx)))
  rcases h with ⟨h1, v', rd, h2, h3, h4⟩ | ⟨h1, h2⟩
  · refine .inl ⟨by rw [he, want_put hl]; exact h1, v', rd, fun id B e => ?_, h3.weaken (fun x hx r z hz => by rw [hev x hx] at hz; exact hz), fun d' e r z hz => ?_⟩
    · obtain ⟨⟨B', g1, gl⟩, g2⟩ := h2 id B e; obtain ⟨B'', k1, k2⟩ := hh id B' g1 g2; exact ⟨⟨B'', k1, gl.trans k2⟩, hr _ g2⟩
    · rw [he, envGet_put, if_neg (fun e' => hd (by rw [e, e']))]; exact h4 d' e r z hz
  · refine .inr ⟨by rw [he, want_put hl]; exact h1, fun d' e => ?_⟩
    rw [he, envGet_put, if_neg (fun e' => hd (by rw [e, e']))]; exact h2 d' e
theorem Pend.keepN {ops : Array Oper} {s s' : RS U} {i : Nat} {o : Oper} (h : Pend P ops s i o) (he : s'.env = s.env)
    (hh : ∀ id B, s.heap.get id = some B → (i, id) ∈ s.rds → s'.heap.atLeast id B) (hr : ∀ q ∈ s.rds, q ∈ s'.rds) : Pend P ops s' i o := by
  rcases h with ⟨h1, v', rd, h2, h3, h4⟩ | ⟨h1, h2⟩
  · exact .inl ⟨by rw [he]; exact h1, v', rd, fun id B e => let ⟨⟨B', g1, gl⟩, g2⟩ := h2 id B e; let ⟨B'', k1, k2⟩ := hh id B' g1 g2; ⟨⟨B'', k1, gl.trans k2⟩, hr _ g2⟩, by rw [he]; exact h3, by rw [he]; exact h4⟩
  · exact .inr ⟨by rw [he]; exact h1, by rw [he]; exact h2⟩

theorem lazy_dst {ops : Array Oper} {i : Nat} {o : Oper} (h : lazyB ops i o = true) : isLz o.op = true ∧ ∃ d, o.dst = some d ∧ ∀ j p, ops[j]? = some p → j ≠ i → p.dst ≠ some d ∧ (d ∈ p.looksAt ops → edgeOn p i = true) := by
  unfold lazyB at h
  simp only [Bool.and_eq_true] at h
  obtain ⟨h1, h2⟩ := h
  cases hsl : slowB ops i o.op with
  | true => rw [hsl] at h2; simp at h2
  | false =>
  rw [hsl] at h2; simp only [cond_false] at h2
  cases hd : o.dst with
  | none => rw [hd] at h2; simp at h2
  | some d =>
    rw [hd] at h2; simp only at h2
    refine ⟨h1, d, rfl, fun j p hp hj => ?_⟩
    have := List.all_eq_true.1 h2 (p, j) (mem_zipIdx.2 hp)
    simp only [Bool.or_eq_true, Bool.and_eq_true, Bool.not_eq_true'] at this
    rcases this with h | ⟨ha, hb⟩
    · exact absurd (Nat.eq_of_beq_eq_true h) hj
    · refine ⟨fun e => ?_, fun hm => ?_⟩
      · simp [dstIs, e] at ha
      · rcases hb with hb | hb
        · have : looksB ops p d = true := elemN_iff.2 hm
          rw [this] at hb; cases hb
        · exact hb
theorem edge_mem {o : Oper} {i : Nat} (h : edgeOn o i = true) : ∃ e ∈ o.after.toList, Region.binds .any e = true ∧ e.on = i := by
  unfold edgeOn at h
  obtain ⟨e, he, hb⟩ := List.any_eq_true.1 h
  simp only [Bool.and_eq_true] at hb
  exact ⟨e, he, hb.1, Nat.eq_of_beq_eq_true hb.2⟩
theorem anc_listed {ops : Array Oper} {L : Array Bool} (down : ∀ i o, ops[i]? = some o → L.getD i false = true → ∀ e ∈ o.after.toList, Region.binds .any e = true → L.getD e.on false = true) :
    ∀ (n i j : Nat), ancB ops n i j = true → (∀ o, ops[i]? = some o → ∀ e ∈ o.after.toList, Region.binds .any e = true → L.getD e.on false = true) → L.getD j false = true
  | 0, _, _, h, _ => by simp [ancB] at h
  | n + 1, i, j, h, hr => by
    unfold ancB at h
    cases ho : ops[i]? with
    | none => rw [ho] at h; simp at h
    | some o =>
      rw [ho] at h; simp only [Bool.or_eq_true] at h
      rcases h with h | h
      · obtain ⟨e, he, hb, rfl⟩ := edge_mem h; exact hr o ho e he hb
      · obtain ⟨e, he, hb⟩ := List.any_eq_true.1 h
        simp only [Bool.and_eq_true] at hb
        have hl := hr o ho e he hb.1
        exact anc_listed down n e.on j hb.2 (fun o' ho' e' he' hb' => down e.on o' ho' hl e' he' hb')


theorem alloc_lz {τ : Tab} {op : Op} (h : allocB τ op = true) : isLz op = false := by
  cases op <;> simp only [allocB] at h <;> first | rfl | cases h
theorem fl_op {τ : Tab} {ops : Array Oper} {f : Nat} (h : firstFl τ ops ops.toList.zipIdx = some f) {o : Oper} (ho : ops[f]? = some o) : floatB τ ops f o = true := by
  obtain ⟨o', h1, h2⟩ := firstFl_some h
  have := mem_zipIdx.1 h1
  rw [ho] at this; cases this; exact h2
theorem fl_lazy {τ : Tab} {ops : Array Oper} {f : Nat} (h : firstFl τ ops ops.toList.zipIdx = some f) {o : Oper} (ho : ops[f]? = some o) : lazyB ops f o = false := by
  have h2 := fl_op h ho
  unfold floatB at h2
  simp only [Bool.and_eq_true] at h2
  unfold lazyB
  rw [alloc_lz h2.1.1.1.1]; rfl
theorem fl_dst {τ : Tab} {ops : Array Oper} {f : Nat} (h : firstFl τ ops ops.toList.zipIdx = some f) {o : Oper} (ho : ops[f]? = some o) : allocB τ o.op = true ∧ o.guard = none ∧ ∃ d, o.dst = some d ∧ ∀ j p, ops[j]? = some p → j ≠ f → p.dst ≠ some d ∧ (d ∈ p.looksAt ops → edgeOn p f = true) := by
  have h2 := fl_op h ho
  unfold floatB at h2
  simp only [Bool.and_eq_true] at h2
  obtain ⟨⟨⟨⟨h3, h4⟩, h5⟩, _⟩, _⟩ := h2
  refine ⟨h3, by simpa using h4, ?_⟩
  cases hd : o.dst with
  | none => rw [hd] at h5; cases h5
  | some d =>
    rw [hd] at h5; simp only at h5
    refine ⟨d, rfl, fun j p hp hj => ?_⟩
    have := List.all_eq_true.1 h5 (p, j) (mem_zipIdx.2 hp)
    simp only [Bool.or_eq_true, Bool.and_eq_true, Bool.not_eq_true'] at this
    rcases this with h | ⟨ha, hb⟩
    · exact absurd (Nat.eq_of_beq_eq_true h) hj
    · refine ⟨fun e => ?_, fun hm => ?_⟩
      · simp [dstIs, e] at ha
      · rcases hb with hb | hb
        · have : looksB ops p d = true := elemN_iff.2 hm
          rw [this] at hb; cases hb
        · exact hb
/-- Who waits for what floats waits for all that write. -/
theorem fl_anc {τ : Tab} {ops : Array Oper} {f : Nat} (h : firstFl τ ops ops.toList.zipIdx = some f) {j k : Nat} {p q : Oper} (hp : ops[j]? = some p) (hj : ancB ops ops.size j f = true) (hq : ops[k]? = some q) (hk : k ≠ f) (hl : lazyB ops k q = false) (hn : ancB ops ops.size k f = false) : ancB ops ops.size j k = true := by
  obtain ⟨o, ho, _⟩ := firstFl_some h
  have h2 := fl_op h (mem_zipIdx.1 ho)
  unfold floatB at h2
  simp only [Bool.and_eq_true] at h2
  have h3 := List.all_eq_true.1 h2.1.2 (p, j) (mem_zipIdx.2 hp)
  simp only [hj, Bool.not_true, Bool.false_or] at h3
  have h4 := List.all_eq_true.1 h3 (q, k) (mem_zipIdx.2 hq)
  simp only [hl, hn, Bool.or_false, Bool.or_eq_true] at h4
  rcases h4 with h4 | h4
  · exact absurd (Nat.eq_of_beq_eq_true h4) hk
  · exact h4

/-- Whoever is ready has all behind it done. -/
theorem anc_done {ops : Array Oper} {done : List Nat} (ddown : ∀ i o, ops[i]? = some o → i ∈ done → ∀ e ∈ o.after.toList, Region.binds .any e = true → e.on ∈ done) :
    ∀ (n : Nat) (i j : Nat), ancB ops n i j = true → (∀ o, ops[i]? = some o → ∀ e ∈ o.after.toList, Region.binds .any e = true → e.on ∈ done) → j ∈ done
  | 0, _, _, h, _ => by simp [ancB] at h
  | n + 1, i, j, h, hr => by
    unfold ancB at h
    cases ho : ops[i]? with
    | none => rw [ho] at h; simp at h
    | some o =>
      rw [ho] at h; simp only [Bool.or_eq_true] at h
      rcases h with h | h
      · obtain ⟨e, he, hb, rfl⟩ := edge_mem h; exact hr o ho e he hb
      · obtain ⟨e, he, hb⟩ := List.any_eq_true.1 h
        simp only [Bool.and_eq_true] at hb
        have hl := hr o ho e he hb.1
        exact anc_done ddown n e.on j hb.2 (fun o' ho' e' he' hb' => ddown e.on o' ho' hl e' he' hb')
/-- What floats, and was done ahead, is ready here. -/
theorem Inv.flReady {ops : Array Oper} {fz : Bool} {nt : Nat} {β : Base} {r : Nm} {s : RS U} {L : Array Bool} {a : Act} {w : World} {f b : Nat} {ob : Obj} (h : Inv P τ ops fz nt β r s L a w (some (f, b, ob))) (hlt : ∀ i o, ops[i]? = some o → ∀ e ∈ o.after.toList, Region.binds .any e = true → e.on < i) {o : Oper} (ho : ops[f]? = some o) :
    ∀ e ∈ o.after.toList, Region.binds .any e = true → e.on ∈ s.done := by
  intro e he hb
  have k := h.flo f b ob rfl
  rcases h.sub e.on (h.down f o ho k.yes e he hb) with k' | ⟨x, k'⟩
  · exact k'
  · cases k'; have := hlt _ o ho e he hb; omega

/-- What others write is not asked by what floats. -/
theorem Inv.flPut {ops : Array Oper} {fz : Bool} {nt : Nat} {β : Base} {r : Nm} {s : RS U} {L : Array Bool} {a : Act} {w : World} {f b : Nat} {ob : Obj} (h : Inv P τ ops fz nt β r s L a w (some (f, b, ob))) (hlt : ∀ i o, ops[i]? = some o → ∀ e ∈ o.after.toList, Region.binds .any e = true → e.on < i)
    {i : Nat} {o : Oper} (ho : ops[i]? = some o) (hi : i ∉ s.done) (hif : i ≠ f) (v : AV) {of : Oper} (hof : ops[f]? = some of) : ∀ x ∈ of.op.operands.toList, evO (envPut s.env o.dst v) x = evO s.env x := by
  intro x hx
  cases hd : o.dst with
  | none => rfl
  | some d =>
    refine evO_put (fun e => ?_)
    subst e
    have h2 := fl_op (h.flo f b ob rfl).fl hof
    unfold floatB at h2
    simp only [Bool.and_eq_true] at h2
    have h3 := List.all_eq_true.1 h2.2 (o, i) (mem_zipIdx.2 ho)
    simp only [hd, Bool.or_eq_true] at h3
    rcases h3 with (h3 | h3) | h3
    · exact hif (Nat.eq_of_beq_eq_true h3)
    · exact hi (anc_done h.ddown ops.size f i h3 (fun o' ho' => h.flReady hlt ho'))
    · have : looksB ops of d = true := elemN_iff.2 (looks_tmp hx)
      rw [this] at h3; cases h3
/-- The world and the frame of an invariant where all is done. -/
theorem Inv.setEnv {ops : Array Oper} {fz : Bool} {nt : Nat} {β : Base} {r : Nm} {s : RS U} {L : Array Bool} {a : Act} {w : World} {fl : Fl} (h : Inv P τ ops fz nt β r s L a w fl) {d : Nat} {b : Bool} (hb : envGet s.env d = .bool b) {x : AV} (hx : ∀ r z, rel r x z ↔ rel r (.bool b) z) :
    Inv P τ ops fz nt β r { s with env := (d, x) :: s.env } L a w fl := by
  have hget : ∀ t, envGet ((d, x) :: s.env) t = if t = d then x else envGet s.env t := fun t => envGet_put (env := s.env) (d := d) (t := t) (v := x)
  have hev : ∀ q r z, rel r (evO ((d, x) :: s.env) q) z → rel r (evO s.env q) z := by
    intro q r z hz
    cases q with
    | tmp t =>
      have hz' : rel r (envGet ((d, x) :: s.env) t) z := hz
      show rel r (envGet s.env t) z
      rw [hget] at hz'
      by_cases e : t = d
      · rw [if_pos e] at hz'; rw [e, hb]; exact (hx r z).1 hz'
      · rw [if_neg e] at hz'; exact hz'
    | _ => exact hz
  have hslot : ∀ r z t, rel r (envGet s.env t) z → rel r (envGet ((d, x) :: s.env) t) z := by
    intro r z t hz
    rw [hget]
    by_cases e : t = d
    · rw [if_pos e]; rw [e, hb] at hz; exact (hx r z).2 hz
    · rw [if_neg e]; exact hz
  refine ⟨h.size, h.sub, h.eag, h.down, h.ddown, h.nodup, h.sat, h.fresh, fun t ht hf => hslot _ _ _ (h.slots t ht hf), fun i o ho hi hL => ?_, h.asize, h.defers, fun f b ob hf => ?_⟩
  rotate_left
  · obtain ⟨k0, k1, k2, k3, k4, o, d, a0, w0, k5, k6, k7, k8, r0, k9⟩ := h.flo f b ob hf
    refine ⟨k0, k1, k2, k3, k4, o, d, a0, w0, k5, k6, k7, k8, r0, fun q hq => ?_⟩
    have hz := k9 q hq
    cases q with
    | tmp t => exact hslot _ _ t hz
    | _ => exact hz
  have hwant : want? ops s.env o = .yes ∨ want? ops s.env o = .no → want? ops ((d, x) :: s.env) o = want? ops s.env o := by
    intro hw
    unfold want? at hw ⊢
    cases hg : o.guard with
    | none => rfl
    | some q =>
      obtain ⟨j, wt⟩ := q
      rw [hg] at hw; simp only at hw ⊢
      cases hd : (ops[j]?).bind (·.dst) with
      | none => rfl
      | some d' =>
        rw [hd] at hw; simp only at hw ⊢
        rw [hget]
        by_cases e : d' = d
        · subst e; rw [hb] at hw; simp at hw
        · rw [if_neg e]
  rcases h.pend i o ho hi hL with ⟨h1, v, rd, h2, h3, h4⟩ | ⟨h1, h2⟩
  · exact .inl ⟨by rw [hwant (.inl h1)]; exact h1, v, rd, h2, h3.weaken (fun q _ r z hz => hev q r z hz), fun d' e r z hz => hslot r z d' (h4 d' e r z hz)⟩
  · refine .inr ⟨by rw [hwant (.inr h1)]; exact h1, fun d' e => ?_⟩
    show envGet ((d, x) :: s.env) d' = _
    rw [hget]
    by_cases e' : d' = d
    · subst e'; have := h2 d' e; rw [hb] at this; cases this
    · rw [if_neg e']; exact h2 d' e

/-- One that only reads, taken ahead. -/
theorem Inv.ahead {ops : Array Oper} {fz : Bool} {nt : Nat} {β : Base} {r : Nm} {s : RS U} {L : Array Bool} {a : Act} {w : World} {fl : Fl} (h : Inv P τ ops fz nt β r s L a w fl) (hlt : ∀ i o, ops[i]? = some o → ∀ e ∈ o.after.toList, Region.binds .any e = true → e.on < i) {i : Nat} {o : Oper} (ho : ops[i]? = some o) (hn : i ∉ s.done) (hr : readyB s.done o = true) (hl : lazyB ops i o = true)
    {v : AV} {rds : List (Nat × Nat)} (hrds : ∀ q ∈ s.rds, q ∈ rds) (hp : Pend P ops { s with env := envPut s.env o.dst v, done := i :: s.done, rds := rds } i o) :
    Inv P τ ops fz nt β r { s with env := envPut s.env o.dst v, done := i :: s.done, rds := rds } L a w fl := by
  obtain ⟨hlz, d, hd, huniq⟩ := lazy_dst hl
  have hready : ∀ e ∈ o.after.toList, Region.binds .any e = true → e.on ∈ s.done := by
    intro e he hb
    have := List.all_eq_true.1 hr e he
    rw [hb] at this; simp at this
    exact elemN_iff.1 this
  have hLi : L.getD i false = false := by
    cases e : L.getD i false with
    | false => rfl
    | true =>
      rcases h.sub i e with h1 | ⟨⟨b, ob⟩, h1⟩
      · exact absurd h1 hn
      · exact absurd hl (by rw [fl_lazy (h.flo i b ob h1).fl ho]; simp)
  refine ⟨h.size, fun j hj => (h.sub j hj).imp (List.mem_cons_of_mem _) id, ?_, h.down, ?_, ?_, h.sat, h.fresh, ?_, ?_, h.asize, h.defers, fun f b ob hf => ?_⟩
  · intro j p hp' hj hlz'
    rcases List.mem_cons.1 hj with rfl | hj
    · rw [ho] at hp'; cases hp'; rw [hl] at hlz'; cases hlz'
    · exact h.eag j p hp' hj hlz'
  · intro j p hp' hj e he hb
    rcases List.mem_cons.1 hj with rfl | hj
    · rw [ho] at hp'; cases hp'; exact List.mem_cons_of_mem _ (hready e he hb)
    · exact List.mem_cons_of_mem _ (h.ddown j p hp' hj e he hb)
  · refine ⟨List.nodup_cons.2 ⟨hn, h.nodup.1⟩, fun j hj => ?_⟩
    rcases List.mem_cons.1 hj with rfl | hj
    · exact (Array.getElem?_eq_some_iff.1 ho).1
    · exact h.nodup.2 j hj
  · intro t ht hft
    have htd : t ≠ d := fun e => ht i o ho (List.mem_cons_self ..) hLi (by rw [hd, e])
    show rel r (envGet (envPut s.env o.dst v) t) _
    rw [hd, envGet_put, if_neg htd]
    exact h.slots t (fun j p hp' hj hLj => ht j p hp' (List.mem_cons_of_mem _ hj) hLj) hft
  · intro j p hp' hj hLj
    rcases List.mem_cons.1 hj with rfl | hj
    · rw [ho] at hp'; cases hp'; exact hp
    · have hji : j ≠ i := fun e => hn (e ▸ hj)
      obtain ⟨u1, u2⟩ := huniq j p hp' hji
      refine (h.pend j p hp' hj hLj).keep (d := d) (v := v) (by show envPut s.env o.dst v = _; rw [hd]) (fun hm => ?_) u1 (fun id B e _ => ⟨B, e, .inl rfl⟩) hrds
      obtain ⟨e, he, hb, hon⟩ := edge_mem (u2 hm)
      have := h.ddown j p hp' hj e he hb
      rw [hon] at this; exact hn this
  · subst hf
    obtain ⟨k0, k1, k2, k3, k4, of, d', a0, w0, k5, k6, k7, k8, r0, k9⟩ := h.flo f b ob rfl
    have hif : i ≠ f := fun e => by rw [← e] at k2; rw [hLi] at k2; cases k2
    refine ⟨k0, fun hm => ?_, k2, k3, k4, of, d', a0, w0, k5, k6, k7, k8, r0, fun x hx => by rw [h.flPut hlt ho hn hif v k5 x hx]; exact k9 x hx⟩
    rcases List.mem_cons.1 hm with e | hm
    · rw [e] at k2; rw [hLi] at k2; cases k2
    · exact k1 hm

end
end Sx
end Go.Proofs.YtmcmdghmglopnaaGreatDoor

/-
  A region whose order is drawn: the machine, in whatever order, does what was reckoned.
-/
namespace Go.Proofs.YtmcmdghmglopnaaGreatDoor
namespace Sx
open Go

section
variable {U : Uni} {P : Program} {τ : Tab}

structure Acc (s0 : RS U) (r0 : Nm) (s : RS U) (r : Nm) : Prop where
  le : r0.le r
  tl : ∀ i, i ∈ s0.tl → i ∈ s.tl
  kept : Kept s0.heap s.heap s.tl

theorem Inv.slot {ops : Array Oper} {fz : Bool} {nt : Nat} {β : Base} {r : Nm} {s : RS U} {L : Array Bool} {a : Act} {w : World} {fl : Fl} (h : Inv P τ ops fz nt β r s L a w fl) {i : Nat} {o : Oper} (ho : ops[i]? = some o)
    (hLi : L.getD i false = false) (hr : ∀ e ∈ o.after.toList, Region.binds .any e = true → L.getD e.on false = true) {t : Nat} (ht : t ∈ o.looksAt ops) (hti : o.dst ≠ some t ∨ i ∉ s.done) (hfl : ∀ f x, fl = some (f, x) → edgeOn o f = false) : rel r (envGet s.env t) (a.tmps.getD t undef) := by
  refine h.slots t (fun j p hp hj hLj e => ?_) (fun f x p hf hp e => ?_)
  rotate_left
  · obtain ⟨b, ob⟩ := x
    have k := h.flo f b ob hf
    obtain ⟨_, _, d, hd, hu⟩ := fl_dst k.fl hp
    rw [hd] at e; cases e
    have hif : i ≠ f := fun e => by have := k.yes; rw [← e, hLi] at this; cases this
    have := (hu i o ho hif).2 ht
    rw [hfl f _ hf] at this; cases this
  by_cases hji : j = i
  · subst hji; rw [ho] at hp; cases hp
    rcases hti with hti | hti
    · exact hti e
    · exact hti hj
  · have hlz : lazyB ops j p = true := by
      cases hh : lazyB ops j p with
      | true => rfl
      | false => have := h.eag j p hp hj hh; rw [this] at hLj; cases hLj
    obtain ⟨_, d, hd, huniq⟩ := lazy_dst hlz
    rw [hd] at e; cases e
    obtain ⟨ed, hed, hb, hon⟩ := edge_mem ((huniq i o ho (fun e => hji e.symm)).2 ht)
    have := hr ed hed hb
    rw [hon, hLj] at this; cases this

theorem getD_both {L : Array Bool} {i : Nat} (h : L.getD i true = false) : L.getD i false = false := by
  unfold Array.getD at h ⊢; split at h <;> simp_all

/-- Nothing but reading can look at its own slot ahead of its being told. -/
theorem lazy_own {ops : Array Oper} {i : Nat} {o : Oper} (ho : ops[i]? = some o) (hl : lazyB ops i o = true) (hself : ops.toList.zipIdx.all (fun q => match q.1.dst with | some d => !(looksB ops q.1 d) || !(lazyB ops q.2 q.1) | none => true) = true) {t : Nat} (ht : t ∈ o.looksAt ops) : o.dst ≠ some t := by
  intro e
  have := List.all_eq_true.1 hself (o, i) (mem_zipIdx.2 ho)
  simp only [e, hl] at this
  have h2 : looksB ops o t = true := elemN_iff.2 ht
  rw [h2] at this; simp at this

def regOk (nt : Nat) (ops : Array Oper) : Bool :=
  dstsOk nt ops && (ops.toList.zipIdx.all fun q => match q.1.dst with | some d => !(looksB ops q.1 d) || !(lazyB ops q.2 q.1) | none => true) &&
  (ops.toList.zipIdx.all fun q => q.1.after.toList.all fun e => !(Region.binds .any e) || Nat.blt e.on q.2)

theorem FlOk.step {ops : Array Oper} {fz : Bool} {β : Base} {done done' : List Nat} {env env' : List (Nat × AV)} {L : Array Bool} {a : Act} {f b : Nat} {ob : Obj} (k : FlOk P τ ops fz β done env L a f b ob) {i : Nat} {o : Oper} (ho : ops[i]? = some o) (hLi : L.getD i false = false) (hd : ∀ j, j ∈ done' → j = i ∨ j ∈ done) {z : Value}
    (henv : ∀ of, ops[f]? = some of → ∀ x ∈ of.op.operands.toList, evO env' x = evO env x)
    (hset : ∀ j, (L.setIfInBounds i true).getD j false = (if j = i then true else L.getD j false)) : FlOk P τ ops fz β done' env' (L.setIfInBounds i true) (a.put o.dst z) f b ob := by
  have hif : f ≠ i := fun e => by have := k.yes; rw [e, hLi] at this; cases this
  refine ⟨k.z, fun hm => (hd f hm).elim hif k.no, by rw [hset, if_neg hif]; exact k.yes, k.fl, k.free, ?_⟩
  obtain ⟨of, d, a0, w0, h1, h2, h3, h4, r0, h5⟩ := k.ex
  obtain ⟨_, _, d', hd', hu⟩ := fl_dst k.fl h1
  rw [h2] at hd'; cases hd'
  refine ⟨of, d, a0, w0, h1, h2, h3, ?_, r0, fun x hx => by rw [henv of h1 x hx]; exact h5 x hx⟩
  have hne : o.dst ≠ some d := (hu i o ho (fun e => hif e.symm)).1
  have : (a.put o.dst z).tmps.getD d undef = a.tmps.getD d undef := by
    cases hdst : o.dst with
    | none => rfl
    | some d2 =>
      rw [getD_put, if_neg]
      rintro ⟨e, _⟩
      exact hne (by rw [hdst, e])
  rw [this]; exact h4
theorem Inv.listed {ops : Array Oper} {fz : Bool} {nt : Nat} {β : Base} {r : Nm} {s : RS U} {L : Array Bool} {a : Act} {w : World} {fl : Fl} (h : Inv P τ ops fz nt β r s L a w fl) {i : Nat} {o : Oper} (ho : ops[i]? = some o)
    (hLi : L.getD i false = false) (hr : ∀ e ∈ o.after.toList, Region.binds .any e = true → L.getD e.on false = true) (hi : i ∈ s.done) {z : Value} (hz : ∀ d, o.dst = some d → rel r (envGet s.env d) z) (hd : dstsOk nt ops = true) :
    Inv P τ ops fz nt β r s (L.setIfInBounds i true) (a.put o.dst z) w fl := by
  have hlt : i < L.size := by rw [h.size]; exact (Array.getElem?_eq_some_iff.1 ho).1
  have hset : ∀ j, (L.setIfInBounds i true).getD j false = (if j = i then true else L.getD j false) := by
    intro j
    by_cases e : j = i
    · subst e; simp [Array.getD, hlt]
    · rw [getD_set_ne false (fun e' => e e'.symm), if_neg e]
  refine ⟨by simp [h.size], fun j hj => ?_, fun j p hp hj hl => ?_, fun j p hp hj e he hb => ?_, h.ddown, h.nodup, h.sat, h.fresh, fun t ht hft => ?_, fun j p hp hj hLj => ?_, by rw [put_size]; exact h.asize, by rw [put_defers]; exact h.defers, fun f b ob hf => (h.flo f b ob hf).step ho hLi (fun j hj => .inr hj) (fun _ _ _ _ => rfl) hset⟩
  · rw [hset] at hj; split at hj
    · rename_i e; rw [e]; exact .inl hi
    · exact h.sub j hj
  · rw [hset]; split
    · rfl
    · exact h.eag j p hp hj hl
  · rw [hset] at hj ⊢
    split
    · rfl
    · split at hj
      · rename_i e'; subst e'; rw [ho] at hp; cases hp; exact hr e he hb
      · exact h.down j p hp hj e he hb
  · cases hdst : o.dst with
    | none =>
      show rel r _ (a.tmps.getD t undef)
      refine h.slots t (fun j p hp hj hLj e => ?_) hft
      refine ht j p hp hj ?_ e
      rw [hset, if_neg (fun e' => ?_)]
      · exact hLj
      · subst e'; rw [ho] at hp; cases hp; rw [hdst] at e; cases e
    | some d =>
      rw [getD_put]
      by_cases htd : t = d
      · subst htd; rw [if_pos ⟨rfl, by rw [h.asize]; exact dstsOk_lt hd ho hdst⟩]; exact hz t hdst
      · rw [if_neg (fun e => htd e.1)]
        refine h.slots t (fun j p hp hj hLj e => ?_) hft
        refine ht j p hp hj ?_ e
        rw [hset, if_neg (fun e' => ?_)]
        · exact hLj
        · subst e'; rw [ho] at hp; cases hp; rw [hdst] at e; cases e; exact htd rfl
  · rw [hset] at hLj; split at hLj
    · cases hLj
    · exact h.pend j p hp hj hLj

/-- One that writes, and its step in the machine. -/
theorem Inv.eager {ops : Array Oper} {fz : Bool} {nt : Nat} {β : Base} {r r' : Nm} {s : RS U} {L : Array Bool} {a : Act} {w w' : World} {fl : Fl} (h : Inv P τ ops fz nt β r s L a w fl) (hlts : ∀ i o, ops[i]? = some o → ∀ e ∈ o.after.toList, Region.binds .any e = true → e.on < i) {i : Nat} {o : Oper} (ho : ops[i]? = some o)
    (hLi : L.getD i false = false) (hr : ∀ e ∈ o.after.toList, Region.binds .any e = true → L.getD e.on false = true) (hi : i ∉ s.done) (heag : eagerB ops i o = true) (hd : dstsOk nt ops = true)
    {v : AV} {z : Value} {h' : Heap U} {nx' : Nat} {T : List Nat} (g1 : r.le r') (g2 : Fresh r' nx') (g3 : rel r' v z) (g4 : Sat (baseFl β fl) r' h' w') (g5 : Kept s.heap h' T) (hst : stable ops i T s.rds = true) (hnf : ∀ e ∈ o.after.toList, Region.binds .any e = true → e.on ∈ s.done) :
    Inv P τ ops fz nt β r' { s with env := envPut s.env o.dst v, heap := h', nx := nx', tl := T ++ s.tl, done := i :: s.done } (L.setIfInBounds i true) (a.put o.dst z) w' fl := by
  have hlt : i < L.size := by rw [h.size]; exact (Array.getElem?_eq_some_iff.1 ho).1
  have hset : ∀ j, (L.setIfInBounds i true).getD j false = (if j = i then true else L.getD j false) := by
    intro j
    by_cases e : j = i
    · subst e; simp [Array.getD, hlt]
    · rw [getD_set_ne false (fun e' => e e'.symm), if_neg e]
  have hanc : ∀ j, ancB ops ops.size i j = true → L.getD j false = true := fun j hj => anc_listed h.down ops.size i j hj (fun o' ho' => by rw [ho] at ho'; cases ho'; exact hr)
  refine ⟨by simp [h.size], fun j hj => ?_, fun j p hp hj hl => ?_, fun j p hp hj e he hb => ?_, fun j p hp hj e he hb => ?_, ⟨List.nodup_cons.2 ⟨hi, h.nodup.1⟩, fun j hj => ?_⟩, g4, g2, fun t ht hft => ?_, fun j p hp hj hLj => ?_, by rw [put_size]; exact h.asize, by rw [put_defers]; exact h.defers, fun f b ob hf => (h.flo f b ob hf).step ho hLi (fun j hj => List.mem_cons.1 hj) (fun of hof => by
    subst hf
    exact h.flPut hlts ho hi (fun e => by have := (h.flo f b ob rfl).yes; rw [← e, hLi] at this; cases this) v hof) hset⟩
  · rw [hset] at hj; split at hj
    · rename_i e; rw [e]; exact .inl (List.mem_cons_self ..)
    · exact (h.sub j hj).imp (List.mem_cons_of_mem _) id
  · rw [hset]; split
    · rfl
    · rename_i hne
      rcases List.mem_cons.1 hj with e | hj
      · exact absurd e hne
      · exact h.eag j p hp hj hl
  · rw [hset] at hj ⊢
    split
    · rfl
    · split at hj
      · rename_i e'; subst e'; rw [ho] at hp; cases hp; exact hr e he hb
      · exact h.down j p hp hj e he hb
  · rcases List.mem_cons.1 hj with e' | hj
    · subst e'; rw [ho] at hp; cases hp; exact List.mem_cons_of_mem _ (hnf e he hb)
    · exact List.mem_cons_of_mem _ (h.ddown j p hp hj e he hb)
  · rcases List.mem_cons.1 hj with e' | hj
    · subst e'; exact (Array.getElem?_eq_some_iff.1 ho).1
    · exact h.nodup.2 j hj
  · show rel r' (envGet (envPut s.env o.dst v) t) _
    have hold : (o.dst ≠ some t) → rel r' (envGet s.env t) (a.tmps.getD t undef) := fun hne => rel_mono g1 _ _ (h.slots t (fun j p hp hj hLj e => by
      refine ht j p hp (List.mem_cons_of_mem _ hj) ?_ e
      have hji : j ≠ i := fun e' => hi (by rw [← e']; exact hj)
      rw [hset, if_neg hji]; exact hLj) hft)
    cases hdst : o.dst with
    | none => exact hold (by rw [hdst]; simp)
    | some d =>
      rw [envGet_put, getD_put]
      by_cases htd : t = d
      · subst htd; rw [if_pos rfl, if_pos ⟨rfl, by rw [h.asize]; exact dstsOk_lt hd ho hdst⟩]; exact g3
      · rw [if_neg htd, if_neg (fun e => htd e.1)]; exact hold (by rw [hdst]; intro e; cases e; exact htd rfl)
  · rw [hset] at hLj
    split at hLj
    · cases hLj
    · rename_i hne
      have hj' : j ∈ s.done := by
        rcases List.mem_cons.1 hj with e | hj
        · exact absurd e hne
        · exact hj
      have hlz : lazyB ops j p = true := by
        cases hh : lazyB ops j p with
        | true => rfl
        | false => have := h.eag j p hp hj' hh; rw [this] at hLj; cases hLj
      have hheap : ∀ id B, s.heap.get id = some B → (j, id) ∈ s.rds → h'.atLeast id B := by
        intro id B e hm
        refine g5 id B e (fun hT => ?_)
        have := List.all_eq_true.1 hst (j, id) hm
        simp only [elemN_iff.2 hT, Bool.not_true, Bool.or_false] at this
        rw [hanc j this] at hLj; cases hLj
      have hp0 := h.pend j p hp hj' hLj
      cases hdst : o.dst with
      | none => exact hp0.keepN rfl hheap (fun _ h => h)
      | some d =>
        refine hp0.keep (d := d) (v := v) rfl (fun hm => ?_) (fun e => ?_) hheap (fun _ h => h)
        · unfold eagerB at heag
          rw [hdst] at heag; simp only at heag
          have := List.all_eq_true.1 heag (p, j) (mem_zipIdx.2 hp)
          have h2 : looksB ops p d = true := elemN_iff.2 hm
          simp only [h2, Bool.not_true, Bool.or_false, Bool.or_eq_true] at this
          rcases this with (h3 | h3) | h3
          · exact hne (Nat.eq_of_beq_eq_true h3)
          · obtain ⟨e, he, hb, hon⟩ := edge_mem h3
            have := h.ddown j p hp hj' e he hb
            rw [hon] at this; exact hi this
          · rw [hanc j h3] at hLj; cases hLj
        · obtain ⟨_, d', hd', huniq⟩ := lazy_dst hlz
          rw [hd'] at e; cases e
          exact (huniq i o ho (fun e => hne e.symm)).1 hdst

theorem rdOf_some {h : Heap U} {rd : Option Nat} {id : Nat} {B : Blk U} (e : rdOf h rd = some (id, B)) : rd = some id ∧ h.get id = some B := by
  unfold rdOf at e
  split at e
  · split at e
    · rename_i hB; cases e; exact ⟨rfl, hB⟩
    · cases e
  · cases e

theorem regOk_lt {nt : Nat} {ops : Array Oper} (hok : regOk nt ops = true) : ∀ i o, ops[i]? = some o → ∀ e ∈ o.after.toList, Region.binds .any e = true → e.on < i := by
  simp only [regOk, Bool.and_eq_true] at hok
  obtain ⟨_, hlt⟩ := hok
  intro i o ho e he hb
  have := List.all_eq_true.1 hlt (o, i) (mem_zipIdx.2 ho)
  have := List.all_eq_true.1 this e he
  rw [hb] at this; simp only [Bool.not_true, Bool.false_or] at this
  exact Nat.le_of_ble_eq_true this
theorem den_more {G G' : Hp} {r : Nm} (hG : ∀ x o, G x = some o → G' x = some o) : ∀ {h : Heap U} {H : Hp}, h.den G r H → h.den G' r H
  | [], _, e => e
  | (id, B) :: h, H, ⟨H1, H2, a, b, c, d⟩ => by
    refine ⟨H1, H2, ?_, den_more hG b, c, d⟩
    cases B with
    | ro k xs =>
      obtain ⟨a1, a2⟩ := a
      exact ⟨fun i x e => let ⟨b, o, c, T, fz, k1, k2, k3⟩ := a1 i x e; ⟨b, o, c, T, fz, k1, hG _ _ k2, k3⟩, a2⟩
    | rpool f => exact ⟨fun b o d e => let ⟨c, T, fz, k1, k2⟩ := a.1 b o d e; ⟨c, T, fz, hG _ _ k1, k2⟩, a.2⟩
    | _ => exact a
theorem set_getD {ops : Array Oper} {L : Array Bool} (hs : L.size = ops.size) {i : Nat} {o : Oper} (ho : ops[i]? = some o) : ∀ j, (L.setIfInBounds i true).getD j false = (if j = i then true else L.getD j false) := by
  have hlt : i < L.size := by rw [hs]; exact (Array.getElem?_eq_some_iff.1 ho).1
  intro j
  by_cases e : j = i
  · subst e; simp [Array.getD, hlt]
  · rw [getD_set_ne false (fun e' => e e'.symm), if_neg e]
/-- What floats is done in the machine ahead. -/
theorem Inv.early (hτ : τ.met P) {κ : Kinds U} (hκ : κ.met τ) {ops : Array Oper} {fz : Bool} {nt : Nat} {β : Base} {r : Nm} {s : RS U} {L : Array Bool} {a : Act} {w : World} (h : Inv P τ ops fz nt β r s L a w none) {i : Nat} {o : Oper} (ho : ops[i]? = some o)
    (hLi : L.getD i false = false) (hr : ∀ e ∈ o.after.toList, Region.binds .any e = true → L.getD e.on false = true) (hi : i ∉ s.done) (hfl : firstFl τ ops ops.toList.zipIdx = some i) (hz : fz = true) (hd : dstsOk nt ops = true) (hok : mkOk τ κ o.op (evO s.env) = true) (hops : ∀ x ∈ o.op.operands.toList, rel r (evO s.env x) (a.eval x)) :
    ∃ z w' x, (execOp a.eval o).run P w = .ok (.value z) w' ∧ Inv P τ ops fz nt β r s (L.setIfInBounds i true) (a.put o.dst z) w' (some (i, x)) := by
  have hset := set_getD h.size ho
  obtain ⟨ha, hg, d, hdst, hu⟩ := fl_dst hfl ho
  obtain ⟨ob, z, hrun⟩ := alloc_run hτ hκ ha hok a w hops
  refine ⟨z, w.alloc ob, (w.heap.size, ob), hrun, by simp [h.size], fun j hj => ?_, fun j p hp hj hl => ?_, fun j p hp hj e he hb => ?_, h.ddown, h.nodup, ?_, h.fresh, fun t ht hft => ?_, fun j p hp hj hLj => ?_, by rw [put_size]; exact h.asize, by rw [put_defers]; exact h.defers, fun f b ob' hf => ?_⟩
  · rw [hset] at hj; split at hj
    · rename_i e; rw [e]; exact .inr ⟨_, rfl⟩
    · rcases h.sub j hj with k | ⟨_, k⟩
      · exact .inl k
      · cases k
  · rw [hset]; split
    · rfl
    · exact h.eag j p hp hj hl
  · rw [hset] at hj ⊢
    split
    · rfl
    · split at hj
      · rename_i e'; subst e'; rw [ho] at hp; cases hp; exact hr e he hb
      · exact h.down j p hp hj e he hb
  · obtain ⟨hm, H, k1, k2, k3⟩ := h.sat
    have hm : β.met w := hm
    have k2 : H.apart β.G := k2
    have hno : ∀ {A : Hp}, A.inW w → A w.heap.size = none := fun {A} hA => by
      cases e : A w.heap.size with
      | none => rfl
      | some o' => exact absurd (Hp.lt hA e) (Nat.lt_irrefl _)
    have hGb : β.G.apart (Hp.one w.heap.size ob) := Hp.apart_one.2 (hno hm.G)
    refine ⟨⟨hm.os, hm.output, hm.tape, (Hp.inW_join hGb).2 ⟨heap_old hm.G, Hp.inW_one.2 (heap_alloc_new w ob)⟩⟩, H, den_more (fun x o e => ?_) k1, Hp.apart_join.2 ⟨k2, Hp.apart_one.2 (hno k3)⟩, heap_old k3⟩
    show (match β.G x with | some o => some o | none => _) = _
    have e : β.G x = some o := e
    rw [e]
  · have htd : t ≠ d := fun e => hft i _ o rfl ho (by rw [hdst, e])
    rw [hdst, getD_put, if_neg (fun e => htd e.1)]
    refine h.slots t (fun j p hp hj hLj e => ?_) (fun f x o' e => by cases e)
    refine ht j p hp hj ?_ e
    rw [hset, if_neg (fun e' => hi (by rw [← e']; exact hj))]; exact hLj
  · rw [hset] at hLj; split at hLj
    · cases hLj
    · exact h.pend j p hp hj hLj
  · cases hf
    have hno : β.G w.heap.size = none := by
      obtain ⟨hm, _⟩ := h.sat
      have hm : β.met w := hm
      cases e : β.G w.heap.size with
      | none => rfl
      | some o' => exact absurd (Hp.lt hm.G e) (Nat.lt_irrefl _)
    refine ⟨hz, hi, by rw [hset, if_pos rfl], hfl, hno, o, d, a, w, ho, hdst, rfl, ?_, r, hops⟩
    have hdl : d < a.tmps.size := by rw [h.asize]; exact dstsOk_lt hd ho hdst
    rw [hdst, getD_put, if_pos ⟨rfl, hdl⟩]; exact hrun
/-- And is taken here at last. -/
theorem Inv.flush {ops : Array Oper} {fz : Bool} {nt : Nat} {β : Base} {r : Nm} {s : RS U} {L : Array Bool} {a : Act} {w : World} {f b : Nat} {ob : Obj} (h : Inv P τ ops fz nt β r s L a w (some (f, b, ob))) {o : Oper} (ho : ops[f]? = some o)
    (hready : ∀ e ∈ o.after.toList, Region.binds .any e = true → e.on ∈ s.done) {v : AV} {B : Blk U} {X : List Nat} (hB : FlDo P o.op (evO s.env) s.nx v B) (hn : s.heap.get s.nx = none ∨ s.nx ∈ X) (hst : stable ops f X s.rds = true) (hro : noRo s.heap = true) :
    Inv P τ ops fz nt β (r.put s.nx (b, 0)) { s with env := envPut s.env o.dst v, heap := (s.nx, B) :: s.heap, nx := s.nx + 1, tl := X ++ s.tl, done := f :: s.done } L a w none ∧ r.le (r.put s.nx (b, 0)) := by
  have k := h.flo f b ob rfl
  obtain ⟨o', d, a0, w0, h1, hdst, h3, h4, hex⟩ := k.ex
  rw [ho] at h1; cases h1
  obtain ⟨ob', z, g1, g2⟩ := hB a0 o w0 rfl hex
  rw [h4] at g1
  have e1 : a.tmps.getD d undef = z ∧ w0.alloc ob = w0.alloc ob' := by
    injection g1 with g2' g3'
    injection g2' with g2'
    exact ⟨g2', g3'⟩
  have e2 := alloc_inj e1.2
  subst e2
  have hnm : r s.nx = none := h.fresh s.nx (Nat.le_refl _)
  have hle : r.le (r.put s.nx (b, 0)) := Nm.le_put hnm
  obtain ⟨g3, g4⟩ := g2 (r.put s.nx (b, 0)) (by rw [h3]; exact Nm.put_self _ _ _)
  obtain ⟨_, _, d', hd', hu⟩ := fl_dst k.fl ho
  rw [hdst] at hd'; cases hd'
  have hfL : ∀ j, L.getD j false = false → j ≠ f := fun j hj e => by have := k.yes; rw [← e, hj] at this; cases this
  refine ⟨⟨h.size, fun j hj => ?_, fun j p hp hj hl => ?_, h.down, fun j p hp hj e he hb => ?_, ⟨List.nodup_cons.2 ⟨k.no, h.nodup.1⟩, fun j hj => ?_⟩, ?_, fun i hi => ?_, fun t ht _ => ?_, fun j p hp hj hLj => ?_, h.asize, h.defers, fun _ _ _ e => by cases e⟩, hle⟩
  · rcases h.sub j hj with k' | ⟨x, k'⟩
    · exact .inl (List.mem_cons_of_mem _ k')
    · cases k'; exact .inl (List.mem_cons_self ..)
  · rcases List.mem_cons.1 hj with e | hj
    · rw [e]; exact k.yes
    · exact h.eag j p hp hj hl
  · rcases List.mem_cons.1 hj with e' | hj
    · subst e'; rw [ho] at hp; cases hp; exact List.mem_cons_of_mem _ (hready e he hb)
    · exact List.mem_cons_of_mem _ (h.ddown j p hp hj e he hb)
  · rcases List.mem_cons.1 hj with e' | hj
    · subst e'; exact (Array.getElem?_eq_some_iff.1 ho).1
    · exact h.nodup.2 j hj
  · obtain ⟨hm, H, k1, k2, k3⟩ := h.sat
    have k2 := Hp.apart_join.1 k2
    have hG : β.G.apart (Hp.one b ob) := Hp.apart_one.2 k.free
    have hin := (Hp.inW_join hG).1 hm.G
    refine ⟨⟨hm.os, hm.output, hm.tape, hin.1⟩, (Hp.one b ob).join H, ⟨_, H, ?_, Heap.den_mono hle (den_noRo hro k1), k2.2.symm, rfl⟩, Hp.join_apart.2 ⟨hG.symm, k2.1⟩, (Hp.inW_join k2.2.symm).2 ⟨hin.2, k3⟩⟩
    have := g4 β.G
    rw [h3] at this; exact this
  · exact Nm.put_other (fun e => by have : s.nx + 1 ≤ i := hi; omega) (h.fresh i (by have : s.nx + 1 ≤ i := hi; omega))
  · show rel _ (envGet (envPut s.env o.dst v) t) _
    rw [hdst, envGet_put]
    by_cases htd : t = d
    · subst htd; rw [if_pos rfl, e1.1]; exact g3
    · rw [if_neg htd]
      refine rel_mono hle _ _ (h.slots t (fun j p hp hj hLj => ht j p hp (List.mem_cons_of_mem _ hj) hLj) (fun f' x o' e hof => ?_))
      cases e; rw [ho] at hof; cases hof; rw [hdst]; intro e; cases e; exact htd rfl
  · have hj' : j ∈ s.done := by
      rcases List.mem_cons.1 hj with e | hj
      · exact absurd e (hfL j hLj)
      · exact hj
    obtain ⟨u1, u2⟩ := hu j p hp (hfL j hLj)
    have hid : ∀ id C, s.heap.get id = some C → (j, id) ∈ s.rds → id ≠ s.nx := fun id C e hm => new_ne hn e (fun hX => by
      have := List.all_eq_true.1 hst (j, id) hm
      simp only [elemN_iff.2 hX, Bool.not_true, Bool.or_false] at this
      have := anc_listed h.down ops.size f j this (fun o' ho' e' he' hb' => h.down f o' ho' k.yes e' he' hb')
      rw [hLj] at this; cases this)
    refine (h.pend j p hp hj' hLj).keep (d := d) (v := v) (by show envPut s.env o.dst v = _; rw [hdst]) (fun hm => ?_) u1 (fun id C e hm => ⟨C, ?_, .inl rfl⟩) (fun _ h => h)
    · obtain ⟨e, he, hb, hon⟩ := edge_mem (u2 hm)
      have := h.ddown j p hp hj' e he hb
      rw [hon] at this; exact k.no this
    · show Heap.get ((s.nx, B) :: s.heap) id = _
      rw [Heap.get_cons_ne (hid id C e hm)]; exact e
theorem ready_done {done : List Nat} {o : Oper} (h : readyB done o = true) : ∀ e ∈ o.after.toList, Region.binds .any e = true → e.on ∈ done := by
  intro e he hb
  have := List.all_eq_true.1 h e he
  rw [hb] at this; simp at this
  exact elemN_iff.1 this
/-- The step of what floats, where it is taken. -/
theorem float_step (hτ : τ.met P) {κ : Kinds U} (hκ : κ.met τ) {M : Goal U} {C : CallF U} {ops : Array Oper} {fz : Bool} {n : Nat} {s : RS U} {K : RS U → Out U} {f : Nat} {o : Oper} (ho : ops[f]? = some o) (hfl : firstFl τ ops ops.toList.zipIdx = some f) (hz : fz = true)
    (H : (bif isFl τ ops f && fz && !(noRo s.heap) then (.bad 228 : Out U) else match want? ops s.env o with
        | .yes => bif eagerB ops f o then stepAny τ κ C o.op s.env s.heap s.nx (fun v h' nx' T _ => bif stable ops f T s.rds then explore τ κ C ops fz n { s with env := envPut s.env o.dst v, heap := h', nx := nx', tl := T ++ s.tl, done := f :: s.done } K else .bad 224) else .bad 225
        | .no => bif eagerB ops f o then explore τ κ C ops fz n { s with env := envPut s.env o.dst (.raw undef), done := f :: s.done } K else .bad 226
        | .ask d b => .ite b (explore τ κ C ops fz n { s with env := (d, .tt) :: s.env } K) (explore τ κ C ops fz n { s with env := (d, .ff) :: s.env } K)
        | .bad => .bad 227).holds M) :
    noRo s.heap = true ∧ ∃ v B X, (s.heap.get s.nx = none ∨ s.nx ∈ X) ∧ stable ops f X s.rds = true ∧ FlDo P o.op (evO s.env) s.nx v B ∧ (explore τ κ C ops fz n { s with env := envPut s.env o.dst v, heap := (s.nx, B) :: s.heap, nx := s.nx + 1, tl := X ++ s.tl, done := f :: s.done } K).holds M := by
  obtain ⟨ha, hg, _⟩ := fl_dst hfl ho
  have hw : want? ops s.env o = .yes := by unfold want?; rw [hg]
  have hif : isFl τ ops f = true := by unfold isFl; rw [hfl]; exact Nat.beq_refl f
  rw [hw, hz, hif, holds_bif] at H
  split at H
  · exact H.elim
  · rename_i hro
    have hro : noRo s.heap = true := by cases e : noRo s.heap with | true => rfl | false => rw [e] at hro; simp at hro
    simp only at H
    rw [holds_bif] at H
    split at H
    · unfold stepAny at H
      rw [alloc_lz ha] at H
      have H2 : (evalE τ κ o.op (evO s.env) s.heap s.nx (fun v h' T => bif stable ops f T s.rds then explore τ κ C ops true n { s with env := envPut s.env o.dst v, heap := h', nx := s.nx + 1, tl := T ++ s.tl, done := f :: s.done } K else .bad 224)).holds M := by
        rcases alloc_shape ha with ⟨T, R, e, _, _⟩ | ⟨T, e⟩ | ⟨T, l, c, e', s', R, e, _⟩
        · rw [e] at H ⊢; exact H
        · rw [e] at H ⊢; exact H
        · rw [e] at H ⊢; exact H
      obtain ⟨v, B, X, hK, hn, hB⟩ := float_eval hτ hκ ha H2
      rw [holds_bif] at hK
      split at hK
      · rename_i hst
        exact ⟨hro, v, B, X, hn, hst, hB, by rw [hz]; exact hK⟩
      · exact hK.elim
    · exact H.elim
theorem readyAll_mem {ops : Array Oper} {done : List Nat} {o : Oper} {i : Nat} (ho : ops[i]? = some o) (hn : i ∉ done) (hr : readyB done o = true) : (o, i) ∈ readyAll done ops.toList.zipIdx := by
  refine List.mem_filter.2 ⟨mem_zipIdx.2 ho, ?_⟩
  have : elemN done i = false := by cases e : elemN done i with | true => exact absurd (elemN_iff.1 e) hn | false => rfl
  simp [this, hr]
theorem readyAll_out {ops : Array Oper} {done : List Nat} {q : Oper × Nat} (h : q ∈ readyAll done ops.toList.zipIdx) : ops[q.2]? = some q.1 ∧ q.2 ∉ done ∧ readyB done q.1 = true := by
  obtain ⟨h1, h2⟩ := List.mem_filter.1 h
  simp only [Bool.and_eq_true, Bool.not_eq_true'] at h2
  exact ⟨mem_zipIdx.1 h1, fun hm => by rw [elemN_iff.2 hm] at h2; simp at h2, h2.2⟩
theorem readyB_of {done : List Nat} {o : Oper} (h : ∀ e ∈ o.after.toList, Region.binds .any e = true → e.on ∈ done) : readyB done o = true := by
  unfold readyB
  refine List.all_eq_true.2 (fun e he => ?_)
  cases hb : Region.binds .any e with
  | false => simp
  | true => simp [elemN_iff.2 (h e he hb)]
theorem region_step (hτ : τ.met P) {κ : Kinds U} (hκ : κ.met τ) {M : Goal U} {C : CallF U} (hC : C.ok P M) {ops : Array Oper} {fz : Bool} {nt : Nat} (hok : regOk nt ops = true) {Q : Exit → Act → World → Prop} {K : RS U → Out U} {β : Base} {r0 : Nm} {s0 : RS U} {L : Array Bool} {a : Act} {w : World} {i : Nat} (hi : i ∈ Region.ready .any ops L) :
    ∀ (n : Nat) (s : RS U) (r : Nm) (fl : Fl), (explore τ κ C ops fz n s K).holds M → Inv P τ ops fz nt β r s L a w fl → Acc s0 r0 s r →
      wpOp P ops Q i (fun a' w' => ∃ n' s' r' fl', (explore τ κ C ops fz n' s' K).holds M ∧ Inv P τ ops fz nt β r' s' (L.setIfInBounds i true) a' w' fl' ∧ Acc s0 r0 s' r') a w := by
  have hlt := regOk_lt hok
  simp only [regOk, Bool.and_eq_true] at hok
  obtain ⟨⟨hd, hself⟩, _⟩ := hok
  obtain ⟨hL0, o, ho, hrd⟩ := mem_ready.1 hi
  have hLi := getD_both hL0
  have hr : ∀ e ∈ o.after.toList, Region.binds .any e = true → L.getD e.on false = true := fun e he hb => hrd e (by simpa using he) hb
  intro n
  induction n with
  | zero => intro s r fl H; exact H.elim
  | succ n ih =>
    intro s r fl H hI hA
    by_cases hdone : i ∈ s.done
    · -- it was reckoned ahead
      have hlz : lazyB ops i o = true := by
        cases hh : lazyB ops i o with
        | true => rfl
        | false => have := hI.eag i o ho hdone hh; rw [this] at hLi; cases hLi
      have hnf : ∀ f x, fl = some (f, x) → edgeOn o f = false := fun f x hf => by
        cases e : edgeOn o f with
        | false => rfl
        | true =>
          obtain ⟨ed, he, hb, hon⟩ := edge_mem e
          have := hI.ddown i o ho hdone ed he hb
          rw [hon] at this
          exact absurd this (hI.flo f x.1 x.2 hf).no
      have hslot : ∀ t, t ∈ o.looksAt ops → rel r (envGet s.env t) (a.tmps.getD t undef) := fun t ht => hI.slot ho hLi hr ht (.inl (lazy_own ho hlz hself ht)) hnf
      have hops : ∀ x ∈ o.op.operands.toList, rel r (evO s.env x) (a.eval x) := by
        intro x hx
        cases x with
        | tmp t => exact hslot t (looks_tmp hx)
        | const v => exact rel_constAV r v
        | global g => rfl
        | func f => exact ⟨[], [], relL_nil, relL_nil, rfl⟩
      have hwant := want?_sound (ops := ops) (env := s.env) (o := o) (r := r) (a := a) (fun j wt d hg hjd => ⟨hslot d (looks_guard hg hjd), by
        cases hoj : ops[j]? with
        | none => rw [hoj] at hjd; simp at hjd
        | some p => rw [hoj] at hjd; simp at hjd; rw [hI.asize]; exact dstsOk_lt hd hoj hjd⟩)
      unfold wpOp; rw [ho]; simp only
      rcases hI.pend i o ho hdone hLi with ⟨h1, v, rd, h2, h3, h4⟩ | ⟨h1, h2⟩
      · rw [hwant.1 h1, if_pos rfl]
        left
        obtain ⟨z, hz, hrz⟩ := h3 (baseFl β fl) r a w hops (fun id B e => hI.sat.atLe (h2 id B e).1)
        unfold Oper.wp; rw [hz, Oper.upon_value]
        exact ⟨n + 1, s, r, fl, H, hI.listed ho hLi hr hdone (fun d e => h4 d e r z hrz) hd, hA⟩
      · rw [hwant.2 h1, if_neg (by simp)]
        exact ⟨n + 1, s, r, fl, H, hI.listed ho hLi hr hdone (fun d e => by rw [h2 d e]; rfl) hd, hA⟩
    · unfold explore at H
      split at H
      · -- another one, or this one, is reckoned ahead
        rename_i o' i' hfl
        obtain ⟨hm, hn', hready, hlz⟩ := firstLazy_some hfl
        have ho' := mem_zipIdx.1 hm
        split at H
        · rename_i hw
          obtain ⟨v, rd, hK, hLz, hrdne⟩ := evalL_sound (dst := o'.dst) (type := o'.type) (pos := o'.pos) (after := o'.after) (guard := o'.guard) hτ hκ H
          obtain ⟨_, d, hdst, huniq⟩ := lazy_dst hlz
          refine ih _ r fl hK (hI.ahead hlt ho' hn' hready hlz (v := v) (rds := putRd i' rd s.rds) (fun q hq => by unfold putRd; split <;> simp [hq]) ?_) ⟨hA.le, hA.tl, hA.kept⟩
          have hnl : d ∉ o'.looksAt ops := fun hh => lazy_own ho' hlz hself hh hdst
          refine .inl ⟨?_, v, rdOf s.heap rd, fun id B e => ?_, ?_, fun d' e r z hz => ?_⟩
          · show want? ops (envPut s.env o'.dst v) o' = _; rw [hdst, want_put hnl]; exact hw
          · obtain ⟨e1, e2⟩ := rdOf_some e; exact ⟨⟨_, e2, .inl rfl⟩, by subst e1; exact List.mem_cons_self ..⟩
          · refine Lz.weaken hLz (fun x hx r z hz => ?_)
            have : evO (envPut s.env o'.dst v) x = evO s.env x := by rw [hdst]; exact evO_put (fun e => hnl (looks_tmp (e ▸ hx)))
            rw [this] at hz; exact hz
          · show rel r (envGet (envPut s.env o'.dst v) d') z
            rw [e, envGet_put, if_pos rfl]; exact hz
        · rename_i hw
          obtain ⟨_, d, hdst, huniq⟩ := lazy_dst hlz
          have hnl : d ∉ o'.looksAt ops := fun hh => lazy_own ho' hlz hself hh hdst
          refine ih _ r fl H (hI.ahead hlt ho' hn' hready hlz (v := .raw undef) (rds := s.rds) (fun q hq => hq) ?_) ⟨hA.le, hA.tl, hA.kept⟩
          refine .inr ⟨?_, fun d' e => ?_⟩
          · show want? ops (envPut s.env o'.dst _) o' = _; rw [hdst, want_put hnl]; exact hw
          · show envGet (envPut s.env o'.dst _) d' = _; rw [e, envGet_put, if_pos rfl]
        · rename_i d b hw
          obtain ⟨hb, _⟩ := want_ask hw
          cases hbb : b with
          | true => exact ih _ r fl (H.1 hbb) (hI.setEnv hb (x := .tt) (fun r z => by simp [rel, hbb])) ⟨hA.le, hA.tl, hA.kept⟩
          | false => exact ih _ r fl (H.2 hbb) (hI.setEnv hb (x := .ff) (fun r z => by simp [rel, hbb])) ⟨hA.le, hA.tl, hA.kept⟩
        · exact H.elim
      · rename_i hfl
        -- the step, where it is one of those that are taken next
        have step : (o, i) ∈ hold τ κ ops fz s.env (readyAll s.done ops.toList.zipIdx) → (∀ f x, fl = some (f, x) → edgeOn o f = false) → (bothAll ((hold τ κ ops fz s.env (readyAll s.done ops.toList.zipIdx)).map fun q => (bif isFl τ ops q.2 && fz && !(noRo s.heap) then (.bad 228 : Out U) else match want? ops s.env q.1 with
            | .yes => bif eagerB ops q.2 q.1 then stepAny τ κ C q.1.op s.env s.heap s.nx (fun v h' nx' T _ => bif stable ops q.2 T s.rds then explore τ κ C ops fz n { s with env := envPut s.env q.1.dst v, heap := h', nx := nx', tl := T ++ s.tl, done := q.2 :: s.done } K else .bad 224) else .bad 225
            | .no => bif eagerB ops q.2 q.1 then explore τ κ C ops fz n { s with env := envPut s.env q.1.dst (.raw undef), done := q.2 :: s.done } K else .bad 226
            | .ask d b => .ite b (explore τ κ C ops fz n { s with env := (d, .tt) :: s.env } K) (explore τ κ C ops fz n { s with env := (d, .ff) :: s.env } K)
            | .bad => .bad 227))).holds M →
            wpOp P ops Q i (fun a' w' => ∃ n' s' r' fl', (explore τ κ C ops fz n' s' K).holds M ∧ Inv P τ ops fz nt β r' s' (L.setIfInBounds i true) a' w' fl' ∧ Acc s0 r0 s' r') a w := by
          intro hmem hnf H
          have hrd0 := ready_done (readyAll_out (hold_sub hmem)).2.2
          have hslot : ∀ t, t ∈ o.looksAt ops → rel r (envGet s.env t) (a.tmps.getD t undef) := fun t ht => hI.slot ho hLi hr ht (.inr hdone) hnf
          have hops : ∀ x ∈ o.op.operands.toList, rel r (evO s.env x) (a.eval x) := by
            intro x hx
            cases x with
            | tmp t => exact hslot t (looks_tmp hx)
            | const v => exact rel_constAV r v
            | global g => rfl
            | func f => exact ⟨[], [], relL_nil, relL_nil, rfl⟩
          have hwant := want?_sound (ops := ops) (env := s.env) (o := o) (r := r) (a := a) (fun j wt d hg hjd => ⟨hslot d (looks_guard hg hjd), by
            cases hoj : ops[j]? with
            | none => rw [hoj] at hjd; simp at hjd
            | some p => rw [hoj] at hjd; simp at hjd; rw [hI.asize]; exact dstsOk_lt hd hoj hjd⟩)
          have H := bothAll_holds H (List.mem_map.2 ⟨(o, i), hmem, rfl⟩)
          simp only at H
          rw [holds_bif] at H
          split at H
          · exact H.elim
          split at H
          · rename_i hw
            rw [holds_bif] at H
            split at H
            · rename_i heag
              unfold wpOp; rw [ho]; simp only
              rw [hwant.1 hw, if_pos rfl]
              left
              have hop := stepAny_sound hτ hκ hC H
              refine hop (baseFl β fl) r a w hops hI.sat hI.fresh _ _ ?_
              rintro v h' nx' T z w' r' ⟨_, hK⟩ g1 g2 g3 g4 g5
              rw [holds_bif] at hK
              split at hK
              · rename_i hst
                exact ⟨n, _, r', fl, hK, hI.eager hlt ho hLi hr hdone heag hd g1 g2 g3 g4 g5 hst hrd0, hA.le.trans g1, fun j hj => List.mem_append.2 (.inr (hA.tl j hj)),
                  hA.kept.comp g5 (fun i hi => List.mem_append.2 (.inr hi)) (fun i hi => List.mem_append.2 (.inl hi))⟩
              · exact hK.elim
            · exact H.elim
          · rename_i hw
            rw [holds_bif] at H
            split at H
            · rename_i heag
              unfold wpOp; rw [ho]; simp only
              rw [hwant.2 hw, if_neg (by simp)]
              have := hI.eager hlt (v := .raw undef) (z := undef) (h' := s.heap) (nx' := s.nx) (T := []) ho hLi hr hdone heag hd (Nm.le.refl r) hI.fresh rfl hI.sat (Kept.refl _ _) (by unfold stable; refine List.all_eq_true.2 (fun q _ => by simp [elemN])) hrd0
              exact ⟨n, _, r, fl, H, this, hA.le, hA.tl, hA.kept⟩
            · exact H.elim
          · rename_i d b hw
            obtain ⟨hb, _⟩ := want_ask hw
            cases hbb : b with
            | true => exact ih _ r fl (H.1 hbb) (hI.setEnv hb (x := .tt) (fun r z => by simp [rel, hbb])) ⟨hA.le, hA.tl, hA.kept⟩
            | false => exact ih _ r fl (H.2 hbb) (hI.setEnv hb (x := .ff) (fun r z => by simp [rel, hbb])) ⟨hA.le, hA.tl, hA.kept⟩
          · exact H.elim
        cases fl with
        | none =>
          have hpre : ∀ e ∈ o.after.toList, Region.binds .any e = true → e.on ∈ s.done := fun e he hb => by
            rcases hI.sub _ (hr e he hb) with k | ⟨_, k⟩
            · exact k
            · cases k
          have hmem := readyAll_mem ho hdone (readyB_of hpre)
          split at H
          · rename_i hnil; have := hold_nil hnil; rw [this] at hmem; cases hmem
          · rcases hold_mem (τ := τ) (κ := κ) (fz := fz) (env := s.env) hmem ho with hm | ⟨hz, hf, hmk⟩
            · exact step hm (fun f x e => by cases e) H
            · -- it floats: the machine does it ahead
              rename_i hne
              have hops : ∀ x ∈ o.op.operands.toList, rel r (evO s.env x) (a.eval x) := by
                intro x hx
                cases x with
                | tmp t => exact hI.slot ho hLi hr (looks_tmp hx) (.inr hdone) (fun f x e => by cases e)
                | const v => exact rel_constAV r v
                | global g => rfl
                | func f => exact ⟨[], [], relL_nil, relL_nil, rfl⟩
              obtain ⟨z, w', x, hrun, hI'⟩ := hI.early hτ hκ ho hLi hr hdone hf hz hd hmk hops
              have hg := (fl_dst hf ho).2.1
              have hwt : Region.wanted o (yielded ops a.tmps) = true := by unfold Region.wanted; rw [hg]
              unfold wpOp; rw [ho]; simp only
              rw [hwt, if_pos rfl]
              left
              unfold Oper.wp; rw [hrun, Oper.upon_value]
              refine ⟨n + 1, s, r, some (i, x), ?_, hI', hA⟩
              unfold explore
              rw [hfl]
              revert hne H
              cases hold τ κ ops fz s.env (readyAll s.done ops.toList.zipIdx) with
              | nil => intro hne H; exact absurd rfl hne
              | cons q l => intro hne H; exact H
        | some y =>
          obtain ⟨f, b, ob⟩ := y
          have k := hI.flo f b ob rfl
          obtain ⟨of, _, _, _, hof, _⟩ := k.ex
          have hfr := hI.flReady hlt hof
          have hfm := readyAll_mem hof k.no (readyB_of hfr)
          split at H
          · rename_i hnil; have := hold_nil hnil; rw [this] at hfm; cases hfm
          · rename_i hne
            rcases Classical.em ((of, f) ∈ hold τ κ ops fz s.env (readyAll s.done ops.toList.zipIdx)) with hin | hout
            · have H := bothAll_holds H (List.mem_map.2 ⟨(of, f), hin, rfl⟩)
              obtain ⟨hro, v, B, X, hn, hst, hB, hK⟩ := float_step hτ hκ hof k.fl k.z H
              obtain ⟨hI', hle⟩ := hI.flush hof hfr hB hn hst hro
              refine ih _ _ none hK hI' ⟨hA.le.trans hle, fun j hj => List.mem_append.2 (.inr (hA.tl j hj)), hA.kept.comp (fun id C e hX => ⟨C, ?_, .inl rfl⟩) (T' := X) (fun i hi => List.mem_append.2 (.inr hi)) (fun i hi => List.mem_append.2 (.inl hi))⟩
              show Heap.get ((s.nx, B) :: s.heap) id = _
              rw [Heap.get_cons_ne (new_ne hn e hX)]; exact e
            · have hnf : edgeOn o f = false := by
                cases he : edgeOn o f with
                | false => rfl
                | true =>
                  exfalso
                  cases hh : hold τ κ ops fz s.env (readyAll s.done ops.toList.zipIdx) with
                  | nil => exact hne hh
                  | cons q l =>
                    have hq : q ∈ hold τ κ ops fz s.env (readyAll s.done ops.toList.zipIdx) := by rw [hh]; exact List.mem_cons_self ..
                    obtain ⟨q1, q2, q3⟩ := readyAll_out (hold_sub hq)
                    have hqf : q.2 ≠ f := fun e => hout (by
                      have : q = (of, f) := by
                        obtain ⟨qo, qi⟩ := q
                        simp only at e q1; subst e; rw [hof] at q1; cases q1; rfl
                      rw [← this]; exact hq)
                    have hql := firstLazy_none hfl q.1 q.2 (mem_zipIdx.2 q1) q2 q3
                    have hqa : ancB ops ops.size q.2 f = false := by
                      cases e : ancB ops ops.size q.2 f with
                      | false => rfl
                      | true => exact absurd (anc_done hI.ddown ops.size q.2 f e (fun o' ho' => by rw [q1] at ho'; cases ho'; exact ready_done q3)) k.no
                    have hia : ancB ops ops.size i f = true := by
                      have hsz : 0 < ops.size := by have := (Array.getElem?_eq_some_iff.1 ho).1; omega
                      obtain ⟨m, hm⟩ : ∃ m, ops.size = m + 1 := ⟨ops.size - 1, by omega⟩
                      rw [hm]; unfold ancB; rw [ho]; simp only [he, Bool.true_or]
                    have h5 := fl_anc k.fl ho hia q1 hqf hql hqa
                    have h6 := anc_listed hI.down ops.size i q.2 h5 (fun o' ho' => by rw [ho] at ho'; cases ho'; exact hr)
                    rcases hI.sub _ h6 with h7 | ⟨_, h7⟩
                    · exact q2 h7
                    · cases h7; exact hqf rfl
              have hpre : ∀ e ∈ o.after.toList, Region.binds .any e = true → e.on ∈ s.done := fun e he hb => by
                rcases hI.sub _ (hr e he hb) with h7 | ⟨_, h7⟩
                · exact h7
                · exfalso
                  cases h7
                  have : edgeOn o e.on = true := by
                    unfold edgeOn
                    exact List.any_eq_true.2 ⟨e, he, by simp [hb]⟩
                  rw [this] at hnf; cases hnf
              have hmem := readyAll_mem ho hdone (readyB_of hpre)
              rcases hold_mem (τ := τ) (κ := κ) (fz := fz) (env := s.env) hmem ho with hm | ⟨_, hf, _⟩
              · exact step hm (fun f' x e => by cases e; exact hnf) H
              · exfalso
                rw [k.fl] at hf; cases hf
                rw [k.yes] at hLi; cases hLi

theorem region_end (hτ : τ.met P) {κ : Kinds U} (hκ : κ.met τ) {M : Goal U} {C : CallF U} {ops : Array Oper} {fz : Bool} {nt : Nat} (hlt : ∀ i o, ops[i]? = some o → ∀ e ∈ o.after.toList, Region.binds .any e = true → e.on < i) {K : RS U → Out U} {β : Base} {r0 : Nm} {s0 : RS U} {L : Array Bool} {a : Act} {w : World} (hall : ∀ i, i < ops.size → L.getD i false = true) :
    ∀ (n : Nat) (s : RS U) (r : Nm) (fl : Fl), (explore τ κ C ops fz n s K).holds M → Inv P τ ops fz nt β r s L a w fl → Acc s0 r0 s r → ∃ s' r', (K s').holds M ∧ Inv P τ ops fz nt β r' s' L a w none ∧ Acc s0 r0 s' r' := by
  intro n
  induction n with
  | zero => intro s r fl H; exact H.elim
  | succ n ih =>
    intro s r fl H hI hA
    have hdn : ∀ i o, ops[i]? = some o → i ∉ s.done → ∃ x, fl = some (i, x) := fun i o ho hn => (hI.sub i (hall i (Array.getElem?_eq_some_iff.1 ho).1)).resolve_left hn
    unfold explore at H
    split at H
    · rename_i o i hfl
      obtain ⟨hm, hn, _, hl⟩ := firstLazy_some hfl
      obtain ⟨x, hx⟩ := hdn i o (mem_zipIdx.1 hm) hn
      have := fl_lazy (hI.flo i x.1 x.2 hx).fl (mem_zipIdx.1 hm)
      rw [this] at hl; cases hl
    · cases fl with
      | none =>
        split at H
        · rw [holds_bif] at H
          split at H
          · exact ⟨s, r, H, hI, hA⟩
          · exact H.elim
        · rename_i es hes
          exfalso
          cases hre : hold τ κ ops fz s.env (readyAll s.done ops.toList.zipIdx) with
          | nil => exact hes hre
          | cons q l =>
            have hq : q ∈ hold τ κ ops fz s.env (readyAll s.done ops.toList.zipIdx) := by rw [hre]; simp
            obtain ⟨q1, q2, _⟩ := readyAll_out (hold_sub hq)
            obtain ⟨x, hx⟩ := hdn q.2 q.1 q1 q2
            cases hx
      | some y =>
        obtain ⟨f, b, ob⟩ := y
        have k := hI.flo f b ob rfl
        obtain ⟨of, _, _, _, hof, _⟩ := k.ex
        have hfr := hI.flReady hlt hof
        have hfm := readyAll_mem hof k.no (readyB_of hfr)
        split at H
        · rename_i hnil; have := hold_nil hnil; rw [this] at hfm; cases hfm
        · rename_i hne
          have hin : (of, f) ∈ hold τ κ ops fz s.env (readyAll s.done ops.toList.zipIdx) := by
            cases hh : hold τ κ ops fz s.env (readyAll s.done ops.toList.zipIdx) with
            | nil => exact absurd hh hne
            | cons q l =>
              have hq : q ∈ hold τ κ ops fz s.env (readyAll s.done ops.toList.zipIdx) := by rw [hh]; exact List.mem_cons_self ..
              obtain ⟨q1, q2, _⟩ := readyAll_out (hold_sub hq)
              obtain ⟨x, hx⟩ := hdn q.2 q.1 q1 q2
              have : q = (of, f) := by
                obtain ⟨qo, qi⟩ := q
                cases hx
                simp only at q1; rw [hof] at q1; cases q1; rfl
              rw [← hh, ← this]; exact hq
          have H := bothAll_holds H (List.mem_map.2 ⟨(of, f), hin, rfl⟩)
          obtain ⟨hro, v, B, X, hn, hst, hB, hK⟩ := float_step hτ hκ hof k.fl k.z H
          obtain ⟨hI', hle⟩ := hI.flush hof hfr hB hn hst hro
          refine ih _ _ none hK hI' ⟨hA.le.trans hle, fun j hj => List.mem_append.2 (.inr (hA.tl j hj)), hA.kept.comp (fun id C e hX => ⟨C, ?_, .inl rfl⟩) (T' := X) (fun i hi => List.mem_append.2 (.inr hi)) (fun i hi => List.mem_append.2 (.inl hi))⟩
          show Heap.get ((s.nx, B) :: s.heap) id = _
          rw [Heap.get_cons_ne (new_ne hn e hX)]; exact e

theorem ready_nil {ops : Array Oper} {nt : Nat} (hok : regOk nt ops = true) {L : Array Bool} (hsz : L.size = ops.size) (h : Region.ready .any ops L = []) : ∀ i, i < ops.size → L.getD i false = true := by
  simp only [regOk, Bool.and_eq_true] at hok
  obtain ⟨_, hlt⟩ := hok
  intro i
  induction i using Nat.strongRecOn with
  | _ i ih =>
    intro hi
    cases hL : L.getD i false with
    | true => rfl
    | false =>
      exfalso
      have hmem : i ∈ Region.ready .any ops L := by
        refine mem_ready.2 ⟨?_, ops[i], Array.getElem?_eq_getElem hi, fun e he hb => ?_⟩
        · have : i < L.size := by omega
          simp [Array.getD, this] at hL ⊢; exact hL
        · have := List.all_eq_true.1 hlt (ops[i], i) (mem_zipIdx.2 (Array.getElem?_eq_getElem hi))
          have := List.all_eq_true.1 this e (by simpa using he)
          rw [hb] at this; simp only [Bool.not_true, Bool.false_or] at this
          have hlt' : e.on < i := Nat.le_of_ble_eq_true this
          exact ih e.on hlt' (by omega)
      rw [h] at hmem; simp at hmem

theorem region_run (hτ : τ.met P) {κ : Kinds U} (hκ : κ.met τ) {M : Goal U} {C : CallF U} (hC : C.ok P M) {ops : Array Oper} {fz : Bool} {nt : Nat} (hok : regOk nt ops = true) {Q : Exit → Act → World → Prop} {K : RS U → Out U} {β : Base} {r0 : Nm} {s0 : RS U}
    (hQ : ∀ s r a w, (K s).holds M → r0.le r → Acc s0 r0 s r → Sat β r s.heap w → Fresh r s.nx → EnvOk r s.env a → a.tmps.size = nt → a.defers = [] → Q .normal a w) :
    ∀ (fuel : Nat) (n : Nat) (s : RS U) (r : Nm) (fl : Fl) (L : Array Bool) (a : Act) (w : World), (explore τ κ C ops fz n s K).holds M → Inv P τ ops fz nt β r s L a w fl → Acc s0 r0 s r →
      (L.toList.countP (fun b => !b)) ≤ fuel → wpAny P .any ops Q fuel L a w := by
  have fin : ∀ (n : Nat) (s : RS U) (r : Nm) (fl : Fl) (L : Array Bool) (a : Act) (w : World), (explore τ κ C ops fz n s K).holds M → Inv P τ ops fz nt β r s L a w fl → Acc s0 r0 s r → Region.ready .any ops L = [] → Q .normal a w := by
    intro n s r fl L a w H hI hA hnil
    have hall := ready_nil hok hI.size hnil
    obtain ⟨s', r', hK, hI', hA'⟩ := region_end hτ hκ (regOk_lt hok) hall n s r fl H hI hA
    refine hQ s' r' a w hK hA'.le hA' hI'.sat hI'.fresh (fun t => hI'.slots t (fun i o ho _ hL => ?_) (fun _ _ _ e => by cases e)) hI'.asize hI'.defers
    rw [hall i (Array.getElem?_eq_some_iff.1 ho).1] at hL; cases hL
  intro fuel
  induction fuel with
  | zero =>
    intro n s r fl L a w H hI hA hc
    have hnil : Region.ready .any ops L = [] := by
      cases hre : Region.ready .any ops L with
      | nil => rfl
      | cons i l =>
        have hi : i ∈ Region.ready .any ops L := by rw [hre]; simp
        obtain ⟨h0, o, ho, _⟩ := mem_ready.1 hi
        have hlt : i < L.size := by rw [hI.size]; exact (Array.getElem?_eq_some_iff.1 ho).1
        have : 0 < L.toList.countP (fun b => !b) := by
          rw [List.countP_pos_iff]
          refine ⟨L[i], by simp, ?_⟩
          simp [Array.getD, hlt] at h0; simp [h0]
        omega
    exact ⟨hnil, fin n s r fl L a w H hI hA hnil⟩
  | succ fuel ih =>
    intro n s r fl L a w H hI hA hc
    refine ⟨fin n s r fl L a w H hI hA, fun i hi => ?_⟩
    refine wpOp_mono ?_ (region_step hτ hκ hC hok hi n s r fl H hI hA)
    rintro a' w' ⟨n', s', r', fl', H', hI', hA'⟩
    refine ih n' s' r' fl' _ a' w' H' hI' hA' ?_
    obtain ⟨h0, o, ho, _⟩ := mem_ready.1 hi
    have hlt : i < L.size := by rw [hI.size]; exact (Array.getElem?_eq_some_iff.1 ho).1
    have hLi : L[i] = false := by simpa [Array.getD, hlt] using h0
    have : (L.setIfInBounds i true).toList.countP (fun b => !b) + 1 = L.toList.countP (fun b => !b) := by
      have h1 : 0 < L.toList.countP (fun b => !b) := by
        rw [List.countP_pos_iff]; exact ⟨L[i], by simp, by simp [hLi]⟩
      rw [Array.toList_setIfInBounds, List.countP_set (by simpa using hlt)]
      have h2 : L.toList[i]'(by simpa using hlt) = false := by simpa using hLi
      rw [h2]; simp only [Bool.not_false, if_true, Bool.not_true, Bool.false_eq_true, if_false, Nat.add_zero]; omega
    omega

theorem region_drawn (hτ : τ.met P) (hm : P.follows .mixedOrders = true) {κ : Kinds U} (hκ : κ.met τ) {M : Goal U} {C : CallF U} (hC : C.ok P M) {id : Nat} {ops : Array Oper} {s : St U} {n : Nat} {K : St U → Out U}
    (hok : regOk s.nt ops = true) {fz : Bool} (H : (explore τ κ C ops fz n ⟨s.env, s.heap, s.nx, s.tl, [], []⟩ (fun x => K { s with env := x.env, heap := x.heap, nx := x.nx, tl := x.tl })).holds M) :
    WP P (.region id ops true) s (fun e s' => e = .nx ∧ (K s').holds M) := by
  intro β r a w hs Q hQ
  refine wp_region_any hm ?_
  refine region_run (s0 := ⟨s.env, s.heap, s.nx, s.tl, [], []⟩) (r0 := r) (β := β) hτ hκ hC hok ?_ ops.size n _ r none _ a _ H ?_ ⟨Nm.le.refl r, fun _ h => h, Kept.refl _ _⟩ (Nat.le_trans (List.countP_le_length) (by simp))
  · intro x r' a' w' hK l hA h1 h2 h3 h4 h5
    exact hQ .nx { s with env := x.env, heap := x.heap, nx := x.nx, tl := x.tl } r' a' w' ⟨rfl, hK⟩ l ⟨h1, h2, h3, h4, h5⟩ ⟨hA.tl, hA.kept, rfl⟩
  · have hf : ∀ i, (Array.replicate ops.size false).getD i false = false := fun i => by simp [Array.getD]
    refine ⟨by simp, fun i hi => (by rw [hf] at hi; cases hi), fun i o _ hi => (by simp at hi), fun i o _ hi => (by rw [hf] at hi; cases hi), fun i o _ hi => (by simp at hi), ⟨List.nodup_nil, fun i hi => (by simp at hi)⟩, hs.sat.drew, hs.fresh, fun t _ _ => hs.env t, fun i o _ hi => (by simp at hi), hs.size, hs.defers, fun _ _ _ e => (by cases e)⟩

end
end Sx
end Go.Proofs.YtmcmdghmglopnaaGreatDoor

/-
  Code, whole: functions run in place, by what is known of them, loops by what is said of them; and that the machine does the same.
-/
namespace Go.Proofs.YtmcmdghmglopnaaGreatDoor
namespace Sx
open Go

section
variable {U : Uni} {P : Program} {τ : Tab}

abbrev LoopS (U : Uni) := St U → (EX → St U → Out U) → Out U
abbrev HookS (U : Uni) := List AV → Heap U → Nat → (AV → Heap U → Nat → List Nat → Out U) → Out U

def LoopOk (P : Program) (id : Nat) (body : Code) (L : LoopS U) : Prop := ∀ (M : Goal U) (s : St U) (K : EX → St U → Out U), (L s K).holds M → WP P (.block id (.loop body)) s (fun e s' => (K e s').holds M)
def HookOk (P : Program) (f : Nat) (H : HookS U) : Prop := ∀ (M : Goal U) (args : List AV) (h : Heap U) (nx : Nat) (K : AV → Heap U → Nat → List Nat → Out U), (H args h nx K).holds M → CallsSx P f args h nx (fun v h' nx' T => (K v h' nx' T).holds M)

/-- A function's loop, by the number of its block. -/
def loopAt (id : Nat) : Code → Option Code
  | .block j c => bif Nat.beq j id then (match c with | .loop b => some b | _ => none) else loopAt id c
  | .seq a b => (match loopAt id a with | some c => some c | none => loopAt id b)
  | .cond _ a b => (match loopAt id a with | some c => some c | none => loopAt id b)
  | .loop b => loopAt id b
  | _ => none
def loopOf (fn : Func) (id : Nat) : Code := match fn.body with
  | some c => (match loopAt id c with | some b => b | none => .skip)
  | none => .skip
def LoopFor (P : Program) (_f id : Nat) (body : Code) (L : LoopS U) : Prop := LoopOk P id body L

/-- A region of which is said what it does, by its number. -/
def RegOk (P : Program) (c : Code) (L : LoopS U) : Prop := ∀ (M : Goal U) (s : St U) (K : EX → St U → Out U), (L s K).holds M → WP P c s (fun e s' => (K e s').holds M)
def regAt (id : Nat) : Code → Option Code
  | .region j ops d => bif Nat.beq j id then some (.region j ops d) else none
  | .block _ c => regAt id c
  | .seq a b => (match regAt id a with | some c => some c | none => regAt id b)
  | .cond _ a b => (match regAt id a with | some c => some c | none => regAt id b)
  | .loop b => regAt id b
  | _ => none
def regOf (fn : Func) (id : Nat) : Code := match fn.body with
  | some c => (match regAt id c with | some b => b | none => .skip)
  | none => .skip
def RegFor (P : Program) (_f _id : Nat) (c : Code) (L : LoopS U) : Prop := RegOk P c L

structure Cfg (P : Program) (U : Uni) where
  τ : Tab
  κ : Kinds U
  fns : Nat → Option Func
  hooks : Nat → Option (HookS U)
  loops : Nat → Nat → Option (LoopS U)

structure Cfg.ok (C : Cfg P U) : Prop where
  τ : C.τ.met P
  κ : C.κ.met C.τ
  mixed : P.follows .mixedOrders = true
  fns : ∀ g fn, C.fns g = some fn → P.funcs[g]? = some fn ∧ (fn.name == "runtime.NumGoroutine") = false
  hooks : ∀ g H, C.hooks g = some H → HookOk P g H

def argsEnv : Nat → List AV → List (Nat × AV)
  | _, [] => []
  | i, v :: vs => (i, v) :: argsEnv (i + 1) vs

/-- The value of one result. -/
def resOne (τ : Tab) (s : St U) (x : ResultVar) (K : AV → Out U) : Out U :=
  match x with
  | .tmp t => K (envGet s.env t)
  | .cell a t => (match envGet s.env a with
    | .ptr id off => evalLoad τ t (.ptr id off) s.heap (fun v _ => K v)
    | _ => .bad 310)

def resList (τ : Tab) (s : St U) : List ResultVar → (List AV → Out U) → Out U
  | [], K => K []
  | x :: xs, K => resOne τ s x fun v => resList τ s xs fun vs => K (v :: vs)

def resAll (τ : Tab) (fn : Func) (s : St U) (K : AV → Out U) : Out U :=
  resList τ s fn.results.toList fun vs => match vs with
    | [v] => K v
    | vs => K (.tup vs)

def runCode (C : Cfg P U) : Nat → Nat → Code → St U → (EX → St U → Out U) → Out U
  | 0, _, _, _, _ => .bad 300
  | n + 1, f, c, s, K =>
    let callf : CallF U := fun g args h nx k => match C.hooks g with
      | some H => H args h nx k
      | none => (match C.fns g with
        | some fn => (match fn.body with
          | some body => bif Nat.ble args.length fn.ntmps then
              runCode C n g body ⟨argsEnv 0 args, h, nx, fn.ntmps, []⟩ (fun e s' => match e with
                | .nx => resAll C.τ fn s' fun v => k v s'.heap s'.nx s'.tl
                | .rt => resAll C.τ fn s' fun v => k v s'.heap s'.nx s'.tl
                | .ex _ => .bad 301) else .bad 302
          | none => .bad 303)
        | none => .bad 304)
    match c with
    | .skip => K .nx s
    | .region id ops draw => (match C.loops f (1000000 + id) with
      | some L => .need (RegFor P f id (.region id ops draw) L) (L s K)
      | none => bif draw then
        (bif regOk s.nt ops then exploreD C.τ C.κ callf ops (noRo s.heap) (ops.size + ops.size + 2) [] s.env s.heap s.nx s.tl [] (fun x => K .nx { s with env := x.env, heap := x.heap, nx := x.nx, tl := x.tl }) else .bad 305)
      else (bif dstsOk s.nt ops then seqOps C.τ C.κ callf ops ops.toList s (K .nx) else .bad 306))
    | .seq a b => runCode C n f a s (fun e s' => match e with
        | .nx => runCode C n f b s' K
        | .rt => K .rt s'
        | .ex id => K (.ex id) s')
    | .cond c t e => (match evO s.env c with
        | .tt => runCode C n f t s K
        | .ff => runCode C n f e s K
        | .bool b => .ite b (runCode C n f t s K) (runCode C n f e s K)
        | .may neg b => .maybe b (runCode C n f (bif neg then e else t) s K) (runCode C n f (bif neg then t else e) s K)
        | _ => .bad 307)
    | .block id body =>
      (match C.loops f id, body with
        | some L, .loop lb => .need (LoopFor P f id lb L) (L s K)
        | _, body => runCode C n f body s (fun e s' => match e with
          | .nx => K .nx s'
          | .rt => K .rt s'
          | .ex j => bif Nat.beq j id then K .nx s' else K (.ex j) s'))
    | .loop body => runCode C n f body s (fun e s' => match e with
        | .nx => runCode C n f (.loop body) { s' with env := backEnv s.env s'.env } K
        | .rt => K .rt s'
        | .ex j => K (.ex j) s')
    | .exit id => K (.ex id) s
    | .ret => K .rt s
    | .label _ => K .nx s
    | _ => .bad 308

theorem WP.mono {c : Code} {s : St U} {R R' : EX → St U → Prop} (h : WP P c s R) (k : ∀ e s', R e s' → R' e s') : WP P c s R' :=
  fun β r a w hs Q hQ => h β r a w hs Q (fun e s' r' a' w' hR => hQ e s' r' a' w' (k e s' hR))

theorem WP.seq {a b : Code} {s : St U} {R R' : EX → St U → Prop} (h : WP P a s R') (k : ∀ s', R' .nx s' → WP P b s' R) (k2 : ∀ e s', e ≠ .nx → R' e s' → R e s') : WP P (.seq a b) s R := by
  intro β r ac w hs Q hQ
  refine wp_seq (h β r ac w hs _ ?_)
  intro e s' r' a' w' hR hle hs' hf
  cases e with
  | nx =>
    show b.wp P Q a' w'
    exact k s' hR β r' a' w' hs' Q (fun e s'' r'' a'' w'' hR' hle' hs'' hf' => hQ e s'' r'' a'' w'' hR' (hle.trans hle') hs'' (hf.trans hf'))
  | rt => exact hQ .rt s' r' a' w' (k2 _ _ (by simp) hR) hle hs' hf
  | ex id => exact hQ (.ex id) s' r' a' w' (k2 _ _ (by simp) hR) hle hs' hf

theorem WP.block {id : Nat} {c : Code} {s : St U} {R R' : EX → St U → Prop} (h : WP P c s R') (k1 : ∀ s', R' .nx s' → R .nx s') (k2 : ∀ s', R' .rt s' → R .rt s') (k3 : ∀ j s', R' (.ex j) s' → R (if j = id then .nx else .ex j) s') : WP P (.block id c) s R := by
  intro β r ac w hs Q hQ
  refine wp_block (h β r ac w hs _ ?_)
  intro e s' r' a' w' hR hle hs' hf
  cases e with
  | nx => exact hQ .nx s' r' a' w' (k1 _ hR) hle hs' hf
  | rt => exact hQ .rt s' r' a' w' (k2 _ hR) hle hs' hf
  | ex j =>
    show (if j = id then Q .normal a' w' else Q (.exit j) a' w')
    have := k3 j s' hR
    split
    · rename_i e; rw [if_pos e] at this; exact hQ .nx s' r' a' w' this hle hs' hf
    · rename_i e; rw [if_neg e] at this; exact hQ (.ex j) s' r' a' w' this hle hs' hf

theorem argsEnv_ok {r : Nm} : ∀ (args : List AV) (vs : List Value) (i t : Nat), relL r args vs → rel r (envGet (argsEnv i args) t) (if i ≤ t then vs.getD (t - i) undef else undef) := by
  intro args
  induction args with
  | nil => intro vs i t _; exact trivial
  | cons x xs ih =>
    intro vs i t h
    simp only [relL] at h
    obtain ⟨v, us, rfl, h1, h2⟩ := h
    show rel r (bif Nat.beq i t then x else envGet (argsEnv (i + 1) xs) t) _
    cases e : Nat.beq i t with
    | true =>
      have := Nat.eq_of_beq_eq_true e
      subst this; simpa using h1
    | false =>
      have hne : i ≠ t := fun e' => by subst e'; simp at e
      have := ih us (i + 1) t h2
      simp only [cond_false]
      by_cases hle : i ≤ t
      · rw [if_pos (by omega)] at this
        rw [if_pos hle, show t - i = (t - (i + 1)) + 1 by omega]
        simpa using this
      · rw [if_neg (by omega)] at this
        rw [if_neg hle]; exact this

theorem entry_ok {r : Nm} {args : List AV} {vs : List Value} (h : relL r args vs) (nt : Nat) (hn : args.length ≤ nt) :
    EnvOk r (argsEnv 0 args) { tmps := vs.toArray ++ Array.replicate (nt - vs.toArray.size) undef, defers := [] } ∧ (vs.toArray ++ Array.replicate (nt - vs.toArray.size) undef).size = nt := by
  have hl := relL_length h
  refine ⟨fun t => ?_, by simp; omega⟩
  have := argsEnv_ok args vs 0 t h
  simp only [Nat.zero_le, if_true, Nat.sub_zero] at this
  have e : (vs.toArray ++ Array.replicate (nt - vs.toArray.size) undef).getD t undef = vs.getD t undef := by
    simp only [Array.getD_eq_getD_getElem?, Array.getElem?_append, List.size_toArray, List.getElem?_toArray, Array.getElem?_replicate, List.getD_eq_getElem?_getD]
    split
    · rfl
    · rename_i hh
      rw [List.getElem?_eq_none (by omega)]
      split <;> rfl
  show rel r _ ((vs.toArray ++ Array.replicate (nt - vs.toArray.size) undef).getD t undef)
  rw [e]; exact this

def resVal (tmps : Array Value) : ResultVar → Sem Value
  | .tmp t => pure (tmps.getD t undef)
  | .cell b t => do loadVar t (← asAddr (tmps.getD b undef))
theorem results_eq (fn : Func) (tmps : Array Value) : results fn tmps = (do let vs ← fn.results.mapM (resVal tmps); pure (if h : vs.size = 1 then vs[0] else .tuple vs)) := rfl

theorem resOne_sound (hτ : τ.met P) {M : Goal U} {s : St U} {x : ResultVar} {K : AV → Out U} (H : (resOne τ s x K).holds M) :
    ∃ v, (K v).holds M ∧ ∀ (β : Base) (r : Nm) (a : Act) (w : World), SatS β r s a w → ∃ z, (resVal a.tmps x).run P w = .ok z w ∧ rel r v z := by
  cases x with
  | tmp t => exact ⟨_, H, fun β r a w hs => ⟨_, rfl, hs.env t⟩⟩
  | cell b t =>
    simp only [resOne] at H
    split at H
    · rename_i id off hb
      unfold evalLoad at H
      split at H
      · rename_i R id' hR hid
        split at H
        · rename_i B hB
          obtain ⟨v, hK, hall⟩ := readAt_sound (P := P) (hτ t R hR) H hid
          refine ⟨v, hK, fun β r a w hs => ?_⟩
          obtain ⟨H1, hd, hw, hG⟩ := hs.sat.at hB
          have he := hs.env b; rw [hb] at he
          obtain ⟨z, hz, hr⟩ := hall β r w H1 _ he hd hw hG
          refine ⟨z, ?_, hr⟩
          obtain ⟨y, hy, he⟩ := he
          rw [he] at hz
          show (do let x ← asAddr (a.tmps.getD b undef); loadVar t x : Sem Value).run P w = _
          rw [he]
          simp only [asAddr, Sem.run_bind, Sem.run_pure, Result.andThen_ok]
          simpa [Instr.loadAt, Instr.sureAddr] using hz
        · exact H.elim
      · exact H.elim
    · exact H.elim

theorem resList_sound (hτ : τ.met P) {M : Goal U} {s : St U} : ∀ (xs : List ResultVar) (K : List AV → Out U), (resList τ s xs K).holds M →
    ∃ vs, (K vs).holds M ∧ vs.length = xs.length ∧ ∀ (β : Base) (r : Nm) (a : Act) (w : World), SatS β r s a w → ∃ zs, (xs.mapM (resVal a.tmps)).run P w = .ok zs w ∧ relL r vs zs
  | [], K, H => ⟨[], H, rfl, fun β r a w _ => ⟨[], rfl, relL_nil⟩⟩
  | x :: xs, K, H => by
    obtain ⟨v, hK, h1⟩ := resOne_sound hτ H
    obtain ⟨vs, hK', hl, h2⟩ := resList_sound hτ xs _ hK
    refine ⟨v :: vs, hK', by simp [hl], fun β r a w hs => ?_⟩
    obtain ⟨z, hz, hr⟩ := h1 β r a w hs
    obtain ⟨zs, hzs, hrs⟩ := h2 β r a w hs
    refine ⟨z :: zs, ?_, relL_cons.2 ⟨hr, hrs⟩⟩
    simp only [List.mapM_cons, Sem.run_bind, hz, Result.andThen_ok, hzs, Sem.run_pure]

theorem resAll_sound (hτ : τ.met P) {M : Goal U} {fn : Func} {s : St U} {K : AV → Out U} (H : (resAll τ fn s K).holds M) :
    ∃ v, (K v).holds M ∧ ∀ (β : Base) (r : Nm) (a : Act) (w : World), SatS β r s a w → ∃ z, (results fn a.tmps).run P w = .ok z w ∧ rel r v z := by
  obtain ⟨vs, hK, hl, h⟩ := resList_sound hτ _ _ H
  have key : ∀ (a : Act) (w : World) (zs : List Value), (fn.results.toList.mapM (resVal a.tmps)).run P w = .ok zs w →
      (results fn a.tmps).run P w = .ok (if h : zs.toArray.size = 1 then zs.toArray[0] else .tuple zs.toArray) w := by
    intro a w zs hz
    rw [results_eq, Sem.run_bind, Array.mapM_eq_mapM_toList, Sem.run_map, hz]
    simp only [Result.andThen_ok, Sem.run_pure]
  match vs, hK, h with
  | [v], hK, h =>
    refine ⟨v, hK, fun β r a w hs => ?_⟩
    obtain ⟨zs, hz, hr⟩ := h β r a w hs
    simp only [relL] at hr
    obtain ⟨z, us, rfl, h1, rfl⟩ := hr
    exact ⟨z, by rw [key a w _ hz]; rfl, h1⟩
  | [], hK, h =>
    refine ⟨.tup [], hK, fun β r a w hs => ?_⟩
    obtain ⟨zs, hz, hr⟩ := h β r a w hs
    simp only [relL] at hr; subst hr
    exact ⟨.tuple #[], by rw [key a w _ hz]; rfl, ⟨[], relL_nil, rfl⟩⟩
  | x :: y :: vs, hK, h =>
    refine ⟨.tup (x :: y :: vs), hK, fun β r a w hs => ?_⟩
    obtain ⟨zs, hz, hr⟩ := h β r a w hs
    have hlz := relL_length hr
    refine ⟨.tuple zs.toArray, ?_, ⟨zs, hr, rfl⟩⟩
    rw [key a w _ hz, dif_neg (by simp [hlz])]

theorem calls_in_place {C : Cfg P U} (hC : C.ok) {M : Goal U} {n : Nat} (ih : ∀ (f : Nat) (c : Code) (s : St U) (K : EX → St U → Out U), (runCode C n f c s K).holds M → WP P c s (fun e s' => (K e s').holds M))
    {g : Nat} {fn : Func} (hfn : C.fns g = some fn) {body : Code} (hb : fn.body = some body) {args : List AV} (hl : args.length ≤ fn.ntmps) {h : Heap U} {nx : Nat} {k : AV → Heap U → Nat → List Nat → Out U}
    (H : (runCode C n g body ⟨argsEnv 0 args, h, nx, fn.ntmps, []⟩ (fun e s' => match e with
                | .nx => resAll C.τ fn s' fun v => k v s'.heap s'.nx s'.tl
                | .rt => resAll C.τ fn s' fun v => k v s'.heap s'.nx s'.tl
                | .ex _ => .bad 301)).holds M) : CallsSx P g args h nx (fun v h' nx' T => (k v h' nx' T).holds M) := by
  obtain ⟨h1, h2⟩ := hC.fns g fn hfn
  refine ⟨⟨fn, h1, h2, by rw [hb]; rfl⟩, fun β r vs w hr hs hf => ?_⟩
  obtain ⟨e1, e2⟩ := entry_ok hr fn.ntmps hl
  refine calls_of_wp h1 hb (ih g body _ _ H β r _ w ⟨hs, hf, e1, e2, rfl⟩ _ ?_)
  have fin : ∀ (s' : St U) (r' : Nm) (a' : Act) (w' : World), (resAll C.τ fn s' fun v => k v s'.heap s'.nx s'.tl).holds M → r.le r' → SatS β r' s' a' w' → Fr (⟨argsEnv 0 args, h, nx, fn.ntmps, []⟩ : St U) s' →
      a'.defers = [] ∧ ∃ v, (results fn a'.tmps).run P w' = .ok v w' ∧ ∃ av h' nx' T z r', (Ending.returned v) = .returned z ∧ (k av h' nx' T).holds M ∧ r.le r' ∧ Fresh r' nx' ∧ rel r' av z ∧ Sat β r' h' w' ∧ Kept h h' T := by
    intro s' r' a' w' hres hle hs' hfr
    obtain ⟨v, hK, hh⟩ := resAll_sound hC.τ hres
    obtain ⟨z, hz, hrz⟩ := hh β r' a' w' hs'
    exact ⟨hs'.defers, z, hz, v, s'.heap, s'.nx, s'.tl, z, r', rfl, hK, hle, hs'.fresh, hrz, hs'.sat, hfr.kept⟩
  intro e s' r' a' w' hR hle hs' hfr
  cases e with
  | nx => exact fin s' r' a' w' hR hle hs' hfr
  | rt => exact fin s' r' a' w' hR hle hs' hfr
  | ex j => exact hR.elim

theorem runCode_both {C : Cfg P U} (hC : C.ok) {M : Goal U} : ∀ (n : Nat), (∀ (f : Nat) (c : Code) (s : St U) (K : EX → St U → Out U), (runCode C n f c s K).holds M → WP P c s (fun e s' => (K e s').holds M)) ∧
    (∀ (f : Nat) (body : Code) (s : St U) (K : EX → St U → Out U), (runCode C n f (.loop body) s K).holds M → ∀ (β : Base) (r : Nm) (a : Act) (w : World), SatS β r s a w → ∀ Q : Exit → Act → World → Prop,
      (∀ e s' r' a' w', (K e s').holds M → r.le r' → SatS β r' s' a' w' → Fr s s' → Q (exOf e) a' w') → Code.rounds P body Q n a w) := by
  intro n
  induction n with
  | zero => exact ⟨fun f c s K H => H.elim, fun f c s K H => H.elim⟩
  | succ n ihb =>
    obtain ⟨ih, ihl⟩ := ihb
    have loops : ∀ (f : Nat) (body : Code) (s : St U) (K : EX → St U → Out U), (runCode C (n + 1) f (.loop body) s K).holds M → ∀ (β : Base) (r : Nm) (a : Act) (w : World), SatS β r s a w → ∀ Q : Exit → Act → World → Prop,
        (∀ e s' r' a' w', (K e s').holds M → r.le r' → SatS β r' s' a' w' → Fr s s' → Q (exOf e) a' w') → Code.rounds P body Q (n + 1) a w := by
      intro f body s K H β r a w hs Q hQ
      simp only [runCode] at H
      refine ih f body s _ H β r a w hs _ ?_
      intro e s' r' a' w' hR hle hs' hf
      cases e with
      | nx => exact ihl f body _ K hR β r' a' w' ⟨hs'.sat, hs'.fresh, hs'.env.back, hs'.size, hs'.defers⟩ Q (fun e s'' r'' a'' w'' hR' hle' hs'' hf' => hQ e s'' r'' a'' w'' hR' (hle.trans hle') hs'' ((show Fr s { s' with env := backEnv s.env s'.env } from ⟨hf.tl, hf.kept, hf.nt⟩).trans hf'))
      | rt => exact hQ .rt s' r' a' w' hR hle hs' hf
      | ex j => exact hQ (.ex j) s' r' a' w' hR hle hs' hf
    refine ⟨?_, loops⟩
    intro f c s K H
    have hcall : CallF.ok P M (fun g args h nx k => match C.hooks g with
      | some H => H args h nx k
      | none => (match C.fns g with
        | some fn => (match fn.body with
          | some body => bif Nat.ble args.length fn.ntmps then
              runCode C n g body ⟨argsEnv 0 args, h, nx, fn.ntmps, []⟩ (fun e s' => match e with
                | .nx => resAll C.τ fn s' fun v => k v s'.heap s'.nx s'.tl
                | .rt => resAll C.τ fn s' fun v => k v s'.heap s'.nx s'.tl
                | .ex _ => .bad 301) else .bad 302
          | none => .bad 303)
        | none => .bad 304)) := by
      intro g args h nx k Hk
      simp only at Hk
      split at Hk
      · rename_i Hh hh
        exact hC.hooks g Hh hh M args h nx k Hk
      · split at Hk
        · rename_i fn hfn
          split at Hk
          · rename_i body hb
            rw [holds_bif] at Hk
            split at Hk
            · rename_i hl
              exact calls_in_place hC (fun f c s K => ih f c s K) hfn hb (Nat.le_of_ble_eq_true hl) Hk
            · exact Hk.elim
          · exact Hk.elim
        · exact Hk.elim
    have simple : ∀ (e : EX) (c : Code), (∀ (Q : Exit → Act → World → Prop) a w, Q (exOf e) a w → c.wp P Q a w) → (K e s).holds M → WP P c s (fun e s' => (K e s').holds M) :=
      fun e c hc hK β r a w hs Q hQ => hc Q a w (hQ e s r a w hK (Nm.le.refl r) hs (Fr.refl s))
    cases c <;> simp only [runCode] at H <;> try exact H.elim
    case skip => exact simple .nx _ (fun Q a w h => wp_skip h) H
    case region id ops draw =>
     split at H
     · obtain ⟨hL, H⟩ := H
       exact hL M s K H
     · cases draw with
      | true =>
        simp only [cond_true] at H
        rw [holds_bif] at H
        split at H
        · rename_i hok
          exact (region_drawn (K := K .nx) hC.τ hC.mixed hC.κ hcall hok (by rw [exploreD_eq]; exact H)).mono (fun e s' hh => by obtain ⟨rfl, hh⟩ := hh; exact hh)
        · exact H.elim
      | false =>
        simp only [cond_false] at H
        rw [holds_bif] at H
        split at H
        · rename_i hok
          exact (region_text hC.τ hC.κ hcall hok H).mono (fun e s' hh => by obtain ⟨rfl, hh⟩ := hh; exact hh)
        · exact H.elim
    case seq a b =>
      refine WP.seq (ih f a s _ H) (fun s' h => ih f b s' K h) (fun e s' hne h => ?_)
      cases e with
      | nx => exact absurd rfl hne
      | rt => exact h
      | ex id => exact h
    case cond c t e =>
      have key : ∀ (b : Bool) (hcv : ∀ (β : Base) (r : Nm) (a : Act) (w : World), SatS β r s a w → a.eval c = .bool b), (runCode C n f (if b then t else e) s K).holds M → WP P (.cond c t e) s (fun e s' => (K e s').holds M) := by
        intro b hcv hh β r a w hs Q hQ
        exact wp_cond (hcv β r a w hs) (ih f _ s K hh β r a w hs Q hQ)
      split at H
      · rename_i hc
        exact key true (fun β r a w hs => by have := evO_ok hs.env c; rw [hc] at this; exact this) H
      · rename_i hc
        exact key false (fun β r a w hs => by have := evO_ok hs.env c; rw [hc] at this; exact this) H
      · rename_i b hc
        have hcv : ∀ (β : Base) (r : Nm) (a : Act) (w : World), SatS β r s a w → a.eval c = .bool b := fun β r a w hs => by have := evO_ok hs.env c; rw [hc] at this; exact this
        cases hb : b with
        | true => exact key true (fun β r a w hs => by rw [← hb]; exact hcv β r a w hs) (H.1 hb)
        | false => exact key false (fun β r a w hs => by rw [← hb]; exact hcv β r a w hs) (H.2 hb)
      · rename_i neg b hc
        intro β r a w hs Q hQ
        have hv := evO_ok hs.env c; rw [hc] at hv
        obtain ⟨x, hx, himp⟩ := hv
        refine wp_cond hx ?_
        by_cases hxn : x = !neg
        · have hh := H.1 (himp hxn)
          have : (bif neg then e else t) = (if x then t else e) := by subst hxn; cases neg <;> rfl
          rw [this] at hh
          exact ih f _ s K hh β r a w hs Q hQ
        · have hh := H.2
          have : (bif neg then t else e) = (if x then t else e) := by cases neg <;> cases x <;> simp at hxn ⊢
          rw [this] at hh
          exact ih f _ s K hh β r a w hs Q hQ
      · exact H.elim
    case block id body =>
      split at H
      · rename_i L lb hL
        exact H.1 M s K H.2
      · refine WP.block (ih f _ s _ H) (fun s' h => h) (fun s' h => h) (fun j s' h => ?_)
        simp only [holds_bif] at h
        by_cases hj : j = id
        · subst hj; simp only [Nat.beq_refl, if_true] at h; rw [if_pos rfl]; exact h
        · have : Nat.beq j id = false := by cases e : Nat.beq j id with | true => exact absurd (Nat.eq_of_beq_eq_true e) hj | false => rfl
          simp only [this, Bool.false_eq_true, if_false] at h; rw [if_neg hj]; exact h
    case loop body =>
      intro β r a w hs Q hQ
      exact wp_loop_rounds (n + 1) (loops f body s K (by simp only [runCode]; exact H) β r a w hs Q hQ)
    case exit id => exact simple (.ex id) _ (fun Q a w h => wp_exit h) H
    case ret => exact simple .rt _ (fun Q a w h => wp_ret h) H
    case label l => exact simple .nx _ (fun Q a w h => wp_label h) H

theorem runCode_sound {C : Cfg P U} (hC : C.ok) {M : Goal U} (n f : Nat) (c : Code) (s : St U) (K : EX → St U → Out U) (H : (runCode C n f c s K).holds M) : WP P c s (fun e s' => (K e s').holds M) :=
  (runCode_both hC n).1 f c s K H

end
end Sx
end Go.Proofs.YtmcmdghmglopnaaGreatDoor

/-
  One description of a state for another: names changed, things forgotten; and loops by what holds at each round's head.
-/
namespace Go.Proofs.YtmcmdghmglopnaaGreatDoor
namespace Sx
open Go

section
variable {U : Uni} {P : Program}

mutual
def AV.ren (f : Nat → Nat) : AV → AV
  | .ptr id off => .ptr (f id) off
  | .ptrR id i w c => .ptrR (f id) i w c
  | .sl k id s w len cap => .sl k (f id) s w len cap
  | .mp id => .mp (f id)
  | .agg cs => .agg (AV.renL f cs)
  | .tup cs => .tup (AV.renL f cs)
  | .fn g fs cs => .fn g (AV.renL f fs) (AV.renL f cs)
  | .ifc t x => .ifc t (AV.ren f x)
  | .raw v => .raw v
  | .int k n => .int k n
  | .lit k n => .lit k n
  | .tt => .tt
  | .ff => .ff
  | .bool b => .bool b
  | .may n c => .may n c
  | .nilP => .nilP
  | .nilS => .nilS
  | .nilF => .nilF
  | .nilM => .nilM
  | .nilI => .nilI
  | .rp o => .rp o
  | .rs o l c => .rs o l c
  | .und => .und
def AV.renL (f : Nat → Nat) : List AV → List AV
  | [] => []
  | c :: cs => AV.ren f c :: AV.renL f cs
end

mutual
theorem rel_ren {r : Nm} {f : Nat → Nat} : ∀ (x : AV) (v : Value), rel r (x.ren f) v → rel (fun i => r (f i)) x v
  | .ptr .., _, h => h
  | .ptrR .., _, h => h
  | .sl .., _, h => h
  | .mp _, _, h => h
  | .agg cs, _, ⟨vs, h, e⟩ => ⟨vs, relL_ren cs vs h, e⟩
  | .tup cs, _, ⟨vs, h, e⟩ => ⟨vs, relL_ren cs vs h, e⟩
  | .fn _ fs cs, _, ⟨us, vs, h, k, e⟩ => ⟨us, vs, relL_ren fs us h, relL_ren cs vs k, e⟩
  | .ifc _ x, _, ⟨u, h, e⟩ => ⟨u, rel_ren x u h, e⟩
  | .raw _, _, h => h
  | .int .., _, h => h
  | .lit .., _, h => h
  | .tt, _, h => h
  | .ff, _, h => h
  | .bool _, _, h => h
  | .may .., _, h => h
  | .nilP, _, h => h
  | .nilS, _, h => h
  | .nilF, _, h => h
  | .nilM, _, h => h
  | .nilI, _, h => h
  | .rp _, _, h => h
  | .rs .., _, h => h
  | .und, _, h => h
theorem relL_ren {r : Nm} {f : Nat → Nat} : ∀ (x : List AV) (v : List Value), relL r (AV.renL f x) v → relL (fun i => r (f i)) x v
  | [], _, h => h
  | c :: cs, _, ⟨v, us, e, h, k⟩ => ⟨v, us, e, rel_ren c v h, relL_ren cs us k⟩
end

def Blk.ren (f : Nat → Nat) : Blk U → Blk U
  | .cells T cs => .cells T (AV.renL f cs)
  | b => b

/-- Nothing of an element's layout names a block. -/
class Plain (U : Uni) : Prop where
  enc : ∀ k a f, AV.renL f ((U.enc k).enc a) = (U.enc k).enc a

theorem enc_ren [Plain U] {r : Nm} {f : Nat → Nat} {k : U.K} {a : U.El k} {vs : List Value} (h : relL r ((U.enc k).enc a) vs) : relL (fun i => r (f i)) ((U.enc k).enc a) vs :=
  relL_ren _ _ (by rw [Plain.enc]; exact h)

theorem relM_ren [Plain U] {k : U.K} {kk : IntKind} {r : Nm} {f : Nat → Nat} : ∀ {m : List (Int × U.El k)} {es : List MapEntry}, relM (U.enc k) kk r m es → relM (U.enc k) kk (fun i => r (f i)) m es
  | [], _, h => h
  | (_, _) :: _, _, ⟨e, fs, a, b, c, d⟩ => ⟨e, fs, a, b, by
      cases hg : (U.enc k).agg with
      | true => rw [hg] at c; obtain ⟨vs, h1, h2⟩ := c; exact ⟨vs, enc_ren h1, h2⟩
      | false => rw [hg] at c; exact enc_ren (r := r) c, relM_ren d⟩

theorem Blk.den_ren [Plain U] {G : Hp} {r : Nm} {f : Nat → Nat} {id : Nat} {B : Blk U} {H : Hp} (h : (B.ren f).den G r (f id) H) : B.den G (fun i => r (f i)) id H := by
  cases B with
  | cells T cs => obtain ⟨b, vs, h1, h2, h3⟩ := h; exact ⟨b, vs, h1, relL_ren _ _ h2, h3⟩
  | arr T k xs sp =>
    rcases h with h | ⟨b, c, h1, h2, h3, h4, h5⟩
    · exact .inl h
    · exact .inr ⟨b, c, h1, fun i x e => enc_ren (h2 i x e), h3, h4, h5⟩
  | ro k xs =>
    obtain ⟨h1, h2⟩ := h
    exact ⟨fun i x e => let ⟨b, o, c, T, fz, a1, a2, a3⟩ := h1 i x e; ⟨b, o, c, T, fz, a1, a2, enc_ren a3⟩, h2⟩
  | mp kk k m => obtain ⟨b, es, cl, h1, h2, h3⟩ := h; exact ⟨b, es, cl, h1, relM_ren h2, h3⟩
  | obj x => obtain ⟨b, h1, h2⟩ := h; exact ⟨b, h1, h2⟩
  | pool p => exact h
  | rpool f => exact h

/-- Where names come from: below nx0 from themselves. -/
def mkF (nx0 : Nat) (ren : List (Nat × Nat)) (top : Nat) (i : Nat) : Nat :=
  bif Nat.blt i nx0 then i else (match ren.lookup i with | some j => j | none => top + i)

/-- One value says no less than another. -/
def AV.sub (a b : AV) : Prop := ∀ r v, rel r a v → rel r b v
theorem AV.sub_refl (a : AV) : a.sub a := fun _ _ h => h
theorem AV.sub_int {k : IntKind} {n m : Int} (h : n = m) : (AV.int k n).sub (.int k m) := by subst h; exact AV.sub_refl _
theorem AV.sub_sl {k k' : Bool} {id s w len cap len' cap' : Nat} (h : len = len') (h' : cap = cap') : (AV.sl k id s w len cap).sub (.sl k' id s w len' cap') := by subst h; subst h'; exact fun _ _ h => h
/-- A block at hand for a block that is wanted. -/
inductive BSub : Option (Blk U) → Blk U → Prop where
  | same (B : Blk U) : BSub (some B) B
  | cells (T : Nat) (cs ds : List AV) (h : ∀ r vs, relL r cs vs → relL r ds vs) : BSub (some (.cells T cs)) (.cells T ds)
  | rows (T : Nat) (k : U.K) (cs : List AV) (xs : List (U.El k)) (n : Nat) (h : chunkDec (U.enc k) n cs = some xs) (hm : n ≤ maxLen) : BSub (some (.cells T cs)) (.arr T k xs 0)
  | none (T : Nat) (k : U.K) : BSub Option.none (.arr T k [] 0)
theorem BSub.den {B C : Blk U} (h : BSub (some C) B) {G : Hp} {r : Nm} {id : Nat} {H : Hp} (d : C.den G r id H) : B.den G r id H := by
  cases h with
  | same => exact d
  | cells T cs ds h => obtain ⟨b, vs, h1, h2, h3⟩ := d; exact ⟨b, vs, h1, h _ _ h2, h3⟩
  | rows T k cs xs n h hm =>
    obtain ⟨b, vs, h1, h2, h3⟩ := d
    obtain ⟨g1, g2, g3⟩ := chunkDec_sound h h2
    subst g1
    exact .inr ⟨b, vs.toArray, h1, fun i x e => by simpa using g3 i x e, by simpa using g2, hm, h3⟩
theorem BSub.arr {T : Nat} {k : U.K} {xs ys : List (U.El k)} {sp sp' : Nat} (h : xs = ys) (h' : sp = sp') : BSub (some (.arr T k xs sp : Blk U)) (.arr T k ys sp') := by subst h; subst h'; exact .same _

def EnvSub (f : Nat → Nat) (env : List (Nat × AV)) : List (Nat × AV) → Prop
  | [] => True
  | (t, v) :: l => (envGet env t).sub (v.ren f) ∧ EnvSub f env l
def HeapSub (f : Nat → Nat) (h : Heap U) : Heap U → Prop
  | [] => True
  | (id, B) :: l => BSub (h.get (f id)) (B.ren f) ∧ HeapSub f (h.del (f id)) l
def KeptAll (h' : Heap U) (T : List Nat) : Heap U → Prop
  | [] => True
  | (id, B) :: l => (id ∈ T ∨ h'.get id = some B) ∧ KeptAll h' T l

theorem kept_of_all0 {h' : Heap U} {T : List Nat} : ∀ {h : Heap U}, KeptAll h' T h → ∀ id B, h.get id = some B → id ∉ T → h'.get id = some B
  | [], _, id, B, e, _ => by simp [Heap.get] at e
  | (i, C) :: h, k, id, B, e, hn => by
    unfold Heap.get at e
    cases hi : Nat.beq i id with
    | true =>
      rw [hi] at e; simp at e; subst e
      have := Nat.eq_of_beq_eq_true hi
      subst this
      exact k.1.resolve_left hn
    | false => rw [hi] at e; simp at e; exact kept_of_all0 k.2 id B e hn
theorem kept_of_all {h' : Heap U} {T : List Nat} {h : Heap U} (k : KeptAll h' T h) : Kept h h' T := .of (kept_of_all0 k)

structure Wk (nx0 : Nat) (ren : List (Nat × Nat)) (s s' : St U) : Prop where
  env : EnvSub (mkF nx0 ren s.nx) s.env s'.env
  heap : HeapSub (mkF nx0 ren s.nx) s.heap s'.heap
  nt : s'.nt = s.nt
  tl : ∀ i, i ∈ s.tl → i ∈ s'.tl
  kept : KeptAll s'.heap s'.tl s.heap
  nx : nx0 ≤ s'.nx ∧ (ren.all fun q => Nat.blt q.1 s'.nx) = true

theorem envSub_ok {f : Nat → Nat} {r : Nm} {env : List (Nat × AV)} {a : Act} (he : EnvOk r env a) : ∀ {l : List (Nat × AV)}, EnvSub f env l → EnvOk (fun i => r (f i)) l a
  | [], _, t => trivial
  | (t0, v) :: l, h, t => by
    show rel _ (bif Nat.beq t0 t then v else envGet l t) _
    cases e : Nat.beq t0 t with
    | true =>
      have := Nat.eq_of_beq_eq_true e
      subst this
      exact rel_ren _ _ (h.1 r _ (he t0))
    | false => exact envSub_ok he h.2 t

theorem heapSub_den [Plain U] {f : Nat → Nat} {G : Hp} {r : Nm} : ∀ {l h : Heap U} {H : Hp}, HeapSub f h l → h.den G r H →
    ∃ H1 H2, l.den G (fun i => r (f i)) H1 ∧ H1.apart H2 ∧ H = H1.join H2
  | [], h, H, _, _ => ⟨Hp.nil, H, rfl, Hp.nil_apart H, rfl⟩
  | (id, B) :: l, h, H, ⟨hb, hl⟩, hd => by
    cases hg : h.get (f id) with
    | none =>
      rw [hg] at hb
      have hdel : h.del (f id) = h := by
        clear hl hb hd
        induction h with
        | nil => rfl
        | cons q h ih =>
          obtain ⟨i, C⟩ := q
          unfold Heap.get at hg
          cases e : Nat.beq i (f id) with
          | true => rw [e] at hg; simp at hg
          | false => rw [e] at hg; simp at hg; unfold Heap.del; rw [e]; simp [ih hg]
      rw [hdel] at hl
      obtain ⟨H1, H2, h1, h2, h3⟩ := heapSub_den hl hd
      refine ⟨H1, H2, ⟨Hp.nil, H1, ?_, h1, Hp.nil_apart _, rfl⟩, h2, h3⟩
      cases B with
      | arr T k xs sp =>
        simp only [Blk.ren] at hb
        cases hb
        exact .inl ⟨rfl, rfl⟩
      | _ => simp only [Blk.ren] at hb; cases hb
    | some C =>
      rw [hg] at hb
      obtain ⟨K1, K2, k1, k2, k3, k4, _⟩ := Heap.focus hd hg
      obtain ⟨H1, H2, h1, h2, h3⟩ := heapSub_den hl k4
      subst h3; subst k3
      have q := Hp.apart_join.1 k2
      refine ⟨K1.join H1, H2, ⟨K1, H1, Blk.den_ren (hb.den k1), h1, q.1, rfl⟩, Hp.join_apart.2 ⟨q.2, h2⟩, by rw [Hp.join_assoc]⟩

theorem Wk.ok [Plain U] {nx0 : Nat} {ren : List (Nat × Nat)} {s s' : St U} (h : Wk nx0 ren s s') {β : Base} {r : Nm} {a : Act} {w : World} (hs : SatS β r s a w) :
    ∃ r', (∀ i x, i < nx0 → r i = some x → r' i = some x) ∧ SatS β r' s' a w ∧ Fr s s' := by
  refine ⟨fun i => r (mkF nx0 ren s.nx i), fun i x hi e => ?_, ⟨?_, fun i hi => ?_, envSub_ok hs.env h.env, by rw [h.nt]; exact hs.size, hs.defers⟩, ⟨h.tl, kept_of_all h.kept, h.nt⟩⟩
  · have : Nat.blt i nx0 = true := by rw [Nat.blt_eq]; exact hi
    simp only [mkF, this, cond_true]; exact e
  · obtain ⟨hm, H, hd, ha, hw⟩ := hs.sat
    obtain ⟨H1, H2, h1, h2, h3⟩ := heapSub_den h.heap hd
    subst h3
    exact ⟨hm, H1, h1, (Hp.join_apart.1 ha).1, ((Hp.inW_join h2).1 hw).1⟩
  · refine hs.fresh _ ?_
    have hb : Nat.blt i nx0 = false := by
      cases e : Nat.blt i nx0 with
      | false => rfl
      | true => rw [Nat.blt_eq] at e; have := h.nx.1; omega
    simp only [mkF, hb, cond_false]
    cases hl : ren.lookup i with
    | none => simp
    | some j =>
      exfalso
      have hm : (i, j) ∈ ren := by
        clear h hs
        induction ren with
        | nil => simp at hl
        | cons q ren ih =>
          obtain ⟨k, l⟩ := q
          rw [List.lookup_cons] at hl
          split at hl
          · rename_i e; simp at e; cases hl; subst e; simp
          · exact List.mem_cons_of_mem _ (ih hl)
      have := List.all_eq_true.1 h.nx.2 (i, j) hm
      simp only [Nat.blt_eq] at this
      omega

/-- What holds of a run holds of it with a weaker goal. -/
theorem Out.mono {M1 M2 : Goal U} (hQ : ∀ e s, M1.Q e s → M2.Q e s) (hF : ∀ v h n, M1.F v h n → M2.F v h n) : ∀ {o : Out U}, o.holds M1 → o.holds M2
  | .fin v h n, hh => hF v h n hh
  | .stop e s, hh => hQ e s hh
  | .ite _ _ _, hh => ⟨fun hb => Out.mono hQ hF (hh.1 hb), fun hb => Out.mono hQ hF (hh.2 hb)⟩
  | .need _ _, hh => ⟨hh.1, Out.mono hQ hF hh.2⟩
  | @Out.needd _ _ _ _, hh => ⟨hh.1, Out.mono hQ hF hh.2⟩
  | .same _ _ _, hh => ⟨hh.1, Out.mono hQ hF hh.2⟩
  | .asm _ _, hh => fun hp => Out.mono hQ hF (hh hp)
  | .all _ _, hh => fun x => Out.mono hQ hF (hh x)
  | .ex _ _, ⟨x, hh⟩ => ⟨x, Out.mono hQ hF hh⟩
  | .both _ _, hh => ⟨Out.mono hQ hF hh.1, Out.mono hQ hF hh.2⟩
  | .maybe _ _ _, hh => ⟨fun hb => Out.mono hQ hF (hh.1 hb), Out.mono hQ hF hh.2⟩
  | .bad _, hh => hh

theorem Out.weak {M1 M2 : Goal U} {o : Out U} (h : o.holds M1) (hQ : ∀ e s, M1.Q e s → M2.Q e s) (hF : ∀ v h n, M1.F v h n → M2.F v h n) : o.holds M2 := Out.mono hQ hF h

/-- A loop as the caller sees it: some state of the family at its head; any of the ends behind it. -/
def loopS {Pa Ya Za : Type} (nx0 : Nat) (I0 : Pa → St U) (c1 : Pa → Ya → Prop) (F1 : Pa → Ya → St U) (c2 : Pa → Za → Prop) (F2 : Pa → Za → St U) : LoopS U := fun s K =>
  .ex Pa fun p => .ex (List (Nat × Nat)) fun ren => .need (s.nx ≤ nx0 ∧ Wk nx0 ren s (I0 p))
    (.both (.all Ya fun y => .asm (c1 p y) (K .nx (F1 p y))) (.all Za fun y => .asm (c2 p y) (K .rt (F2 p y))))
def loopN {Pa Ya : Type} (nx0 : Nat) (I0 : Pa → St U) (c1 : Pa → Ya → Prop) (F1 : Pa → Ya → St U) : LoopS U := fun s K =>
  .ex Pa fun p => .ex (List (Nat × Nat)) fun ren => .need (s.nx ≤ nx0 ∧ Wk nx0 ren s (I0 p)) (.all Ya fun y => .asm (c1 p y) (K .nx (F1 p y)))

theorem tl_ok {l l' : List Nat} (h : (l.all fun i => l'.any (Nat.beq i)) = true) : ∀ i, i ∈ l → i ∈ l' := by
  intro i hi
  obtain ⟨j, hj, e⟩ := List.any_eq_true.1 (List.all_eq_true.1 h i hi)
  rw [Nat.eq_of_beq_eq_true e]; exact hj
theorem in_ok {i : Nat} {l : List Nat} (h : l.any (Nat.beq i) = true) : i ∈ l := by
  obtain ⟨j, hj, e⟩ := List.any_eq_true.1 h
  rw [Nat.eq_of_beq_eq_true e]; exact hj
end
end Sx
end Go.Proofs.YtmcmdghmglopnaaGreatDoor

/-
  Objects: a block that stands for several; what a function does to one object and rows of others, seen from outside.
-/
namespace Go.Proofs.YtmcmdghmglopnaaGreatDoor
namespace Sx
open Go

section
variable {U : Uni} {P : Program}

/-! ## the names in a value -/
mutual
def AV.on (p : Nat → Bool) : AV → Bool
  | .ptr id _ => p id
  | .ptrR id _ _ _ => p id
  | .sl _ id _ _ _ _ => p id
  | .mp id => p id
  | .agg cs => AV.onL p cs
  | .tup cs => AV.onL p cs
  | .fn _ fs cs => AV.onL p fs && AV.onL p cs
  | .ifc _ x => AV.on p x
  | .raw _ => true
  | .int .. => true
  | .lit .. => true
  | .tt => true
  | .ff => true
  | .bool _ => true
  | .may .. => true
  | .nilP => true
  | .nilS => true
  | .nilF => true
  | .nilM => true
  | .nilI => true
  | .rp _ => true
  | .rs .. => true
  | .und => true
def AV.onL (p : Nat → Bool) : List AV → Bool
  | [] => true
  | c :: cs => AV.on p c && AV.onL p cs
end

mutual
theorem rel_on {p : Nat → Bool} {r s : Nm} (h : ∀ i, p i = true → r i = s i) : ∀ (x : AV) (v : Value), x.on p = true → rel r x v → rel s x v
  | .ptr id _, _, q, ⟨x, e, k⟩ => ⟨x, (h id q) ▸ e, k⟩
  | .ptrR id _ _ _, _, q, ⟨x, e, k⟩ => ⟨x, (h id q) ▸ e, k⟩
  | .sl _ id _ _ _ _, _, q, ⟨a, e, l, k⟩ => ⟨a, e, l, k.imp (fun h => h) fun ⟨x, e, k⟩ => ⟨x, (h id q) ▸ e, k⟩⟩
  | .mp id, _, q, ⟨x, e, k⟩ => ⟨x, (h id q) ▸ e, k⟩
  | .agg cs, _, q, ⟨vs, e, k⟩ => ⟨vs, relL_on h cs vs q e, k⟩
  | .tup cs, _, q, ⟨vs, e, k⟩ => ⟨vs, relL_on h cs vs q e, k⟩
  | .fn _ fs cs, _, q, ⟨us, vs, e, e', k⟩ => by
    simp only [AV.on, Bool.and_eq_true] at q
    exact ⟨us, vs, relL_on h fs us q.1 e, relL_on h cs vs q.2 e', k⟩
  | .ifc _ x, _, q, ⟨u, e, k⟩ => ⟨u, rel_on h x u q e, k⟩
  | .raw _, _, _, e => e
  | .int .., _, _, e => e
  | .lit .., _, _, e => e
  | .tt, _, _, e => e
  | .ff, _, _, e => e
  | .bool _, _, _, e => e
  | .may .., _, _, e => e
  | .nilP, _, _, e => e
  | .nilS, _, _, e => e
  | .nilF, _, _, e => e
  | .nilM, _, _, e => e
  | .nilI, _, _, e => e
  | .rp _, _, _, e => e
  | .rs .., _, _, e => e
  | .und, _, _, e => e
theorem relL_on {p : Nat → Bool} {r s : Nm} (h : ∀ i, p i = true → r i = s i) : ∀ (x : List AV) (v : List Value), AV.onL p x = true → relL r x v → relL s x v
  | [], _, _, e => e
  | c :: cs, _, q, ⟨v, us, e, k, l⟩ => by
    simp only [AV.onL, Bool.and_eq_true] at q
    exact ⟨v, us, e, rel_on h c v q.1 k, relL_on h cs us q.2 l⟩
end

mutual
theorem rel_ren' {r : Nm} {f : Nat → Nat} : ∀ (x : AV) (v : Value), rel (fun i => r (f i)) x v → rel r (x.ren f) v
  | .ptr .., _, h => h
  | .ptrR .., _, h => h
  | .sl .., _, h => h
  | .mp _, _, h => h
  | .agg cs, _, ⟨vs, h, e⟩ => ⟨vs, relL_ren' cs vs h, e⟩
  | .tup cs, _, ⟨vs, h, e⟩ => ⟨vs, relL_ren' cs vs h, e⟩
  | .fn _ fs cs, _, ⟨us, vs, h, k, e⟩ => ⟨us, vs, relL_ren' fs us h, relL_ren' cs vs k, e⟩
  | .ifc _ x, _, ⟨u, h, e⟩ => ⟨u, rel_ren' x u h, e⟩
  | .raw _, _, h => h
  | .int .., _, h => h
  | .lit .., _, h => h
  | .tt, _, h => h
  | .ff, _, h => h
  | .bool _, _, h => h
  | .may .., _, h => h
  | .nilP, _, h => h
  | .nilS, _, h => h
  | .nilF, _, h => h
  | .nilM, _, h => h
  | .nilI, _, h => h
  | .rp _, _, h => h
  | .rs .., _, h => h
  | .und, _, h => h
theorem relL_ren' {r : Nm} {f : Nat → Nat} : ∀ (x : List AV) (v : List Value), relL (fun i => r (f i)) x v → relL r (AV.renL f x) v
  | [], _, h => h
  | c :: cs, _, ⟨v, us, e, h, k⟩ => ⟨v, us, e, rel_ren' c v h, relL_ren' cs us k⟩
end

def noName (_ : Nat) : Bool := false
theorem rel_closed {r s : Nm} {x : AV} {v : Value} (h : x.on noName = true) (e : rel r x v) : rel s x v := rel_on (fun _ h => by simp [noName] at h) x v h e
theorem relL_closed {r s : Nm} {x : List AV} {v : List Value} (h : AV.onL noName x = true) (e : relL r x v) : relL s x v := relL_on (fun _ h => by simp [noName] at h) x v h e

class Bare (U : Uni) : Prop where
  enc : ∀ k a, AV.onL noName ((U.enc k).enc a) = true
theorem enc_bare [Bare U] {r s : Nm} {k : U.K} {a : U.El k} {vs : List Value} (h : relL r ((U.enc k).enc a) vs) : relL s ((U.enc k).enc a) vs := relL_closed (Bare.enc k a) h
theorem relM_bare [Bare U] {k : U.K} {kk : IntKind} {r s : Nm} : ∀ {m : List (Int × U.El k)} {es : List MapEntry}, relM (U.enc k) kk r m es → relM (U.enc k) kk s m es
  | [], _, h => h
  | (_, _) :: _, _, ⟨e, fs, a, b, c, d⟩ => by
    refine ⟨e, fs, a, b, ?_, relM_bare d⟩
    cases hg : (U.enc k).agg with
    | true => rw [hg] at c; obtain ⟨vs, h1, h2⟩ := c; exact ⟨vs, enc_bare h1, h2⟩
    | false => rw [hg] at c; exact enc_bare (r := r) c

def Blk.bare : Blk U → Bool
  | .cells _ cs => AV.onL noName cs
  | .arr .. => true
  | .ro .. => false
  | .mp .. => true
  | .obj _ => true
  | .pool _ => true
  | .rpool _ => false
def Blk.noRo : Blk U → Bool
  | .ro .. => false
  | .rpool _ => false
  | _ => true
theorem Blk.den_at [Bare U] {G G' : Hp} {r s : Nm} {i j : Nat} {H : Hp} {B : Blk U} (hb : B.bare = true) (h : r i = s j) (d : B.den G r i H) : B.den G' s j H := by
  cases B with
  | cells T cs => obtain ⟨b, vs, h1, h2, h3⟩ := d; exact ⟨b, vs, h ▸ h1, relL_closed hb h2, h3⟩
  | arr T k xs sp =>
    rcases d with d | ⟨b, c, h1, h2, h3, h4, h5⟩
    · exact .inl d
    · exact .inr ⟨b, c, h ▸ h1, fun i x e => enc_bare (h2 i x e), h3, h4, h5⟩
  | ro k xs => cases hb
  | mp kk k m => obtain ⟨b, es, cl, h1, h2, h3⟩ := d; exact ⟨b, es, cl, h ▸ h1, relM_bare h2, h3⟩
  | obj x => obtain ⟨b, h1, h2⟩ := d; exact ⟨b, h ▸ h1, h2⟩
  | pool p => exact d
  | rpool f => cases hb
theorem Heap.den_append {G : Hp} {r : Nm} : ∀ {h l : Heap U} {H K : Hp}, h.den G r H → l.den G r K → H.apart K → (h ++ l).den G r (H.join K)
  | [], l, H, K, d, e, _ => by
    have : H = Hp.nil := d
    subst this; exact e
  | (id, B) :: h, l, H, K, ⟨H1, H2, a, b, c, d⟩, e, ha => by
    subst d
    have q := Hp.join_apart.1 ha
    refine ⟨H1, H2.join K, a, Heap.den_append b e q.2, Hp.apart_join.2 ⟨c, q.1⟩, by rw [Hp.join_assoc]⟩

/-! ## rows among the arguments -/
def RowsIn {α : Type} (A : Hp) (E : Enc α) (b o : Nat) (ys : List α) : Prop :=
  ∀ i y, ys[i]? = some y → ∃ c T fz r, A b = some (.cells c T fz) ∧ relL r (E.enc y) ((c.toList.drop (o + i * E.w)).take E.w)

def evalRows (k : U.K) (x : AV) (h : Heap U) (K : List (U.El k) → Nat → Out U) : Out U :=
  match x with
  | .nilS => K [] 0
  | .sl _ id st w len cap => (match h.get id with
    | some (.cells _ cs) => bif Nat.beq w (U.enc k).w then (match chunkDec (U.enc k) len ((cs.drop (st * (U.enc k).w)).take (len * (U.enc k).w)) with | some ys => K ys cap | none => .bad 420) else .bad 421
    | some (.arr _ k2 xs _) => (match U.dk k2 k with
      | .isTrue hk => bif Nat.beq w (U.enc k).w then .need (st + len ≤ xs.length) (K ((castK hk xs).drop st |>.take len) cap) else .bad 422
      | .isFalse _ => .bad 423)
    | some (.ro k2 xs) => (match U.dk k2 k with
      | .isTrue hk => bif Nat.beq w (U.enc k).w then .need (st + len ≤ xs.length) (K ((castK hk xs).drop st |>.take len) cap) else .bad 424
      | .isFalse _ => .bad 425)
    | _ => .bad 426)
  | _ => .bad 427

theorem rowsIn_sub {α : Type} {A : Hp} {E : Enc α} {b o : Nat} {xs : List α} {st len : Nat} (h : ∀ i x, xs[i]? = some x → ∃ c T fz r, A b = some (.cells c T fz) ∧ relL r (E.enc x) ((c.toList.drop (o + i * E.w)).take E.w)) :
    RowsIn A E b (o + st * E.w) ((xs.drop st).take len) := by
  intro i y hi
  rw [List.getElem?_take] at hi
  split at hi
  · rw [List.getElem?_drop] at hi
    obtain ⟨c, T, fz, r, h1, h2⟩ := h _ y hi
    refine ⟨c, T, fz, r, h1, ?_⟩
    rw [Nat.add_mul] at h2
    rwa [Nat.add_assoc]
  · cases hi

theorem evalRows_sound {M : Goal U} {k : U.K} {x : AV} {h : Heap U} {K : List (U.El k) → Nat → Out U} (H : (evalRows k x h K).holds M) :
    ∃ ys cap, (K ys cap).holds M ∧ ∀ (G : Hp) (r : Nm) (A : Hp) (u : Value), rel r x u → h.den G r A → A.apart G →
      ∃ a, u = .slice a ys.length cap ∧ ys.length ≤ cap ∧ (cap = 0 ∨ ∃ b o, a = some ⟨b, o, none⟩ ∧ RowsIn (A.join G) (U.enc k) b o ys) := by
  unfold evalRows at H
  split at H
  · refine ⟨[], 0, H, fun G r A u hu _ _ => ?_⟩
    simp only [rel] at hu; subst hu; exact ⟨none, rfl, Nat.le_refl _, .inl rfl⟩
  · rename_i kn id st wd len cap
    split at H
    · rename_i T cs hB
      rw [holds_bif] at H
      split at H
      · rename_i hc
        have hwd := Nat.eq_of_beq_eq_true hc
        subst hwd
        split at H
        · rename_i ys hys
          refine ⟨ys, cap, H, fun G r A u hu hd hG => ?_⟩
          obtain ⟨a, rfl, hlc, ha⟩ := hu
          obtain ⟨H1, H2, hq, _, rfl, _, _⟩ := Heap.focus hd hB
          obtain ⟨b, vs, hb, hrl, rfl⟩ := hq
          obtain ⟨h1, h2, h3⟩ := chunkDec_sound hys (relL_take (relL_drop hrl _) _)
          refine ⟨a, by rw [h1], by rw [h1]; exact hlc, ha.imp (fun h => h) fun ⟨y, hy, e⟩ => ?_⟩
          rw [hy] at hb; cases hb
          refine ⟨b, _, e, fun i y hi => ⟨vs.toArray, T, (0, 0), r, ?_, ?_⟩⟩
          · simp [Hp.join, Hp.one]
          · have hlt : i < len := by have := (List.getElem?_eq_some_iff.1 hi).1; omega
            have hm : i * (U.enc k).w + (U.enc k).w ≤ len * (U.enc k).w := by
              have := Nat.mul_le_mul_right (U.enc k).w (show i + 1 ≤ len by omega)
              rwa [Nat.add_mul, Nat.one_mul] at this
            have h4 := h3 i y hi
            rw [List.drop_take, List.take_take, Nat.min_eq_left (by omega), List.drop_drop] at h4
            simpa using h4
        · exact H.elim
      · exact H.elim
    · rename_i T k2 xs sp hB
      split at H
      · rename_i hk _
        rw [holds_bif] at H
        split at H
        · rename_i hwd
          have hwd := Nat.eq_of_beq_eq_true hwd
          obtain ⟨hle, H⟩ := H
          subst hk; subst hwd
          have hlen : (List.take len (List.drop st (castK rfl xs))).length = len := by simp [castK]; omega
          refine ⟨_, cap, H, fun G r A u hu hd hG => ?_⟩
          obtain ⟨a, rfl, hlc, ha⟩ := hu
          refine ⟨a, by rw [hlen], by rw [hlen]; exact hlc, ha.imp (fun h => h) fun ⟨y, hy, e⟩ => ?_⟩
          obtain ⟨H1, H2, hq, _, rfl, _, _⟩ := Heap.focus hd hB
          rcases hq with ⟨hz, _⟩ | ⟨b, c, hb, hrow, _, _, rfl⟩
          · have hx : xs = [] := List.eq_nil_of_length_eq_zero (by omega)
            subst hx
            exact ⟨_, _, e, fun i y hi => by simp [castK] at hi⟩
          · rw [hy] at hb; cases hb
            exact ⟨b, _, e, rowsIn_sub (fun i x hi => ⟨c, T, (0, 0), r, by simp [Hp.join, Hp.one], hrow i x hi⟩)⟩
        · exact H.elim
      · exact H.elim
    · rename_i k2 xs hB
      split at H
      · rename_i hk _
        rw [holds_bif] at H
        split at H
        · rename_i hwd
          have hwd := Nat.eq_of_beq_eq_true hwd
          obtain ⟨hle, H⟩ := H
          subst hk; subst hwd
          have hlen : (List.take len (List.drop st (castK rfl xs))).length = len := by simp [castK]; omega
          refine ⟨_, cap, H, fun G r A u hu hd hG => ?_⟩
          obtain ⟨a, rfl, hlc, ha⟩ := hu
          refine ⟨a, by rw [hlen], by rw [hlen]; exact hlc, ha.imp (fun h => h) fun ⟨y, hy, e⟩ => ?_⟩
          obtain ⟨H1, H2, hq, _, rfl, _, _⟩ := Heap.focus hd hB
          obtain ⟨hall, rfl⟩ := hq
          refine ⟨_, _, e, rowsIn_sub (fun i x hi => ?_)⟩
          obtain ⟨b, o, c, T, fz, hb, hg, hrr⟩ := hall i x hi
          rw [hy] at hb; cases hb
          exact ⟨c, T, fz, r, by rw [Hp.join_comm hG]; simp [Hp.join, hg], hrr⟩
        · exact H.elim
      · exact H.elim
    · exact H.elim
  · exact H.elim

inductive Sg (U : Uni) where
  | int (k : IntKind) | bool | val | el (k : U.K) | rows (k : U.K)
inductive Arg (U : Uni) where
  | int (k : IntKind) (n : Int)
  | bool (b : Bool)
  | val (v : AV)
  | el (k : U.K) (a : U.El k)
  | rows (k : U.K) (ys : List (U.El k)) (cap : Nat)

def evalArg (g : Sg U) (x : AV) (h : Heap U) (K : Arg U → Out U) : Out U :=
  match g with
  | .int k => (match x.num with | some (k', n, _) => bif decide (k' = k) then K (.int k n) else .bad 433 | none => .bad 434)
  | .bool => (match x.bl with | some (b, _) => K (.bool b) | none => .bad 435)
  | .val => bif x.on noName then K (.val x) else .bad 430
  | .el k => (match x with | .agg cs => (match (U.enc k).dec cs with | some a => K (.el k a) | none => .bad 436) | _ => .bad 437)
  | .rows k => evalRows k x h fun ys cap => K (.rows k ys cap)
def evalArgs : List (Sg U) → List AV → Heap U → (List (Arg U) → Out U) → Out U
  | [], [], _, K => K []
  | g :: sg, x :: xs, h, K => evalArg g x h fun a => evalArgs sg xs h fun as => K (a :: as)
  | [], _ :: _, _, _ => .bad 431
  | _ :: _, [], _, _ => .bad 432

def Arg.av (j : Nat) : Arg U → AV
  | .int k n => .int k n
  | .bool b => .bool b
  | .val v => v
  | .el k a => .agg ((U.enc k).enc a)
  | .rows k ys cap => .sl false j 0 (U.enc k).w ys.length cap
def argAV : Nat → List (Arg U) → List AV
  | _, [] => []
  | j, a :: as => a.av j :: argAV (j + 1) as
def argHeap : Nat → List (Arg U) → Heap U
  | _, [] => []
  | j, .rows k ys _ :: as => (j, .ro k ys) :: argHeap (j + 1) as
  | j, .int .. :: as => argHeap (j + 1) as
  | j, .bool _ :: as => argHeap (j + 1) as
  | j, .val _ :: as => argHeap (j + 1) as
  | j, .el .. :: as => argHeap (j + 1) as

theorem evalArg_sound [Bare U] {M : Goal U} {g : Sg U} {x : AV} {h : Heap U} {K : Arg U → Out U} (H : (evalArg g x h K).holds M) :
    ∃ a, (K a).holds M ∧ ∀ (G : Hp) (r : Nm) (A : Hp) (u : Value) (j : Nat) (rt : Nm), rel r x u → h.den G r A → A.apart G → Fresh rt j →
      ∃ r0, rt.le r0 ∧ Fresh r0 (j + 1) ∧ rel r0 (a.av j) u ∧ ∀ as, (∀ s, r0.le s → (argHeap (j + 1) as).den (A.join G) s Hp.nil → (argHeap j (a :: as)).den (A.join G) s Hp.nil) := by
  have plain : ∀ (rt : Nm) (j : Nat), Fresh rt j → Fresh rt (j + 1) := fun rt j hf i hi => hf i (by omega)
  unfold evalArg at H
  split at H
  · split at H
    · rename_i k' n l hx
      rw [holds_bif] at H
      split at H
      · rename_i hk
        simp only [decide_eq_true_eq] at hk; subst hk
        exact ⟨_, H, fun G r A u j rt hu _ _ hf => ⟨rt, Nm.le.refl rt, plain rt j hf, rel_num hx hu, fun as s _ d => d⟩⟩
      · exact H.elim
    · exact H.elim
  · split at H
    · rename_i b l hx
      exact ⟨_, H, fun G r A u j rt hu _ _ hf => ⟨rt, Nm.le.refl rt, plain rt j hf, rel_bl hx hu, fun as s _ d => d⟩⟩
    · exact H.elim
  · rw [holds_bif] at H
    split at H
    · rename_i hx
      exact ⟨_, H, fun G r A u j rt hu _ _ hf => ⟨rt, Nm.le.refl rt, plain rt j hf, rel_closed hx hu, fun as s _ d => d⟩⟩
    · exact H.elim
  · rename_i k
    split at H
    · rename_i cs
      split at H
      · rename_i a ha
        refine ⟨_, H, fun G r A u j rt hu _ _ hf => ⟨rt, Nm.le.refl rt, plain rt j hf, ?_, fun as s _ d => d⟩⟩
        obtain ⟨vs, h1, rfl⟩ := hu
        exact ⟨vs, enc_bare ((U.enc k).back _ _ ha r vs h1), rfl⟩
      · exact H.elim
    · exact H.elim
  · rename_i k
    obtain ⟨ys, cap, H, hrows⟩ := evalRows_sound H
    refine ⟨_, H, fun G r A u j rt hu hd ha hf => ?_⟩
    obtain ⟨a, rfl, hle, hcase⟩ := hrows G r A u hu hd ha
    rcases hcase with hz | ⟨b, o, rfl, hin⟩
    · subst hz
      refine ⟨rt, Nm.le.refl rt, plain rt j hf, ⟨a, rfl, hle, .inl rfl⟩, fun as s _ d => ⟨Hp.nil, Hp.nil, ⟨fun i y hi => ?_, rfl⟩, d, Hp.nil_apart _, rfl⟩⟩
      have : ys = [] := List.eq_nil_of_length_eq_zero (by omega)
      subst this; simp at hi
    · refine ⟨rt.put j (b, o), Nm.le_put (hf j (Nat.le_refl _)), fun i hi => by unfold Nm.put; rw [if_neg (by omega)]; exact hf i (by omega),
        ⟨_, rfl, hle, .inr ⟨_, Nm.put_self rt j (b, o), by simp⟩⟩, fun as s hs d => ⟨Hp.nil, Hp.nil, ⟨fun i y hi => ?_, rfl⟩, d, Hp.nil_apart _, rfl⟩⟩
      obtain ⟨c, T, fz, r1, g1, g2⟩ := hin i y hi
      exact ⟨b, o, c, T, fz, hs _ _ (Nm.put_self rt j (b, o)), g1, enc_bare g2⟩

theorem evalArgs_sound [Bare U] {M : Goal U} : ∀ {sg : List (Sg U)} {xs : List AV} {h : Heap U} {K : List (Arg U) → Out U}, (evalArgs sg xs h K).holds M →
    ∃ as, (K as).holds M ∧ ∀ (G : Hp) (r : Nm) (A : Hp) (us : List Value) (base : Nat) (rt : Nm), relL r xs us → h.den G r A → A.apart G → Fresh rt base →
      ∃ r0, rt.le r0 ∧ Fresh r0 (base + as.length) ∧ relL r0 (argAV base as) us ∧ (argHeap base as).den (A.join G) r0 Hp.nil
  | [], [], h, K, H => ⟨[], H, fun G r A us base rt hr _ _ hf => ⟨rt, Nm.le.refl rt, hf, hr, rfl⟩⟩
  | g :: sg, x :: xs, h, K, H => by
    obtain ⟨a, H, h1⟩ := evalArg_sound H
    obtain ⟨as, hK, ih⟩ := evalArgs_sound H
    refine ⟨_, hK, fun G r A us base rt hr hd ha hf => ?_⟩
    simp only [relL] at hr
    obtain ⟨u, us, rfl, hr1, hr2⟩ := hr
    obtain ⟨r1, a1, a2, a3, a4⟩ := h1 G r A u base rt hr1 hd ha hf
    obtain ⟨r0, k1, k2, k3, k4⟩ := ih G r A us (base + 1) r1 hr2 hd ha a2
    exact ⟨r0, a1.trans k1, by rw [List.length_cons, ← Nat.add_assoc, Nat.add_right_comm]; exact k2, relL_cons.2 ⟨rel_mono k1 _ _ a3, k3⟩, a4 as r0 k1 k4⟩
  | [], _ :: _, _, _, H => H.elim
  | _ :: _, [], _, _, H => H.elim

/-! ## objects -/
abbrev Tm (U : Uni) := U.O → Heap U → Nat → Prop
/-- How objects lie. -/
def Laid (U : Uni) (tm : Tm U) : Prop := ∀ x b H, U.D x b H ↔ ∃ hp n r, tm x hp n ∧ r 0 = some (b, 0) ∧ Fresh r n ∧ Heap.den Hp.nil r hp H

/-- One heap for another, under the same names. -/
def HImp (n : Nat) (h h' : Heap U) : Prop := ∀ (G : Hp) (r : Nm) (H : Hp), Fresh r n → h.den G r H → ∃ H1 H2, h'.den G r H1 ∧ H1.apart H2 ∧ H = H1.join H2
theorem HImp.refl (n : Nat) (h : Heap U) : HImp n h h := fun _ _ H _ d => ⟨H, Hp.nil, d, (Hp.nil_apart H).symm, (Hp.join_nil H).symm⟩

def delAll (f : Nat → Nat) : Heap U → Heap U → Heap U
  | h, [] => h
  | h, (id, _) :: l => delAll f (h.del (f id)) l

/-! ## new blocks -/
def newAt : Nat → List (Blk U) → Heap U
  | _, [] => []
  | j, B :: E => (j, B) :: newAt (j + 1) E
def newFree : Nat → List (Blk U) → Heap U → Bool
  | _, [], _ => true
  | j, _ :: E, h => (h.get j).isNone && newFree (j + 1) E h
def shf (n nx i : Nat) : Nat := nx + (i - n)

theorem newAt_den [Bare U] {G G' : Hp} {r s : Nm} : ∀ {E : List (Blk U)} {i j : Nat} {H : Hp}, (E.all Blk.bare) = true → (∀ k, k < E.length → r (i + k) = s (j + k)) → (newAt i E).den G r H → (newAt j E).den G' s H
  | [], _, _, _, _, _, d => d
  | B :: E, i, j, H, hb, hrs, ⟨H1, H2, a, b, c, d⟩ => by
    simp only [List.all_cons, Bool.and_eq_true] at hb
    exact ⟨H1, H2, Blk.den_at hb.1 (by simpa using hrs 0 (by simp)) a, newAt_den hb.2 (fun k hk => by
      have := hrs (k + 1) (by simpa using hk)
      rwa [show i + (k + 1) = i + 1 + k by omega, show j + (k + 1) = j + 1 + k by omega] at this) b, c, d⟩

theorem newFree_get {h : Heap U} : ∀ {E : List (Blk U)} {j id : Nat} {B : Blk U} {l : Heap U}, newFree j E h = true → h.get id = some B → l.get id = some B → (newAt j E ++ l).get id = some B
  | [], _, _, _, _, _, _, e => e
  | C :: E, j, id, B, l, hf, hg, e => by
    simp only [newFree, Bool.and_eq_true] at hf
    have hne : id ≠ j := fun hh => by subst hh; rw [hg] at hf; simp at hf
    show Heap.get ((j, C) :: (newAt (j + 1) E ++ l)) id = some B
    rw [Heap.get_cons_ne hne]
    exact newFree_get hf.2 hg e

/-- How a function leaves off, in its own names: what it tells, and the new blocks. -/
structure Fin (n n' : Nat) (v0 : AV) (h2 : Heap U) (v : AV) (E : List (Blk U)) : Prop where
  sub : ∃ f : Nat → Nat, HeapSub f h2 (newAt n E) ∧ v0.sub (v.ren f)
  bare : E.all Blk.bare = true
  on : v.on (fun i => Nat.ble n i && Nat.blt i (n + E.length)) = true

theorem Fin.plain {n n' : Nat} {v0 : AV} {h2 : Heap U} {v : AV} (h : v0.sub v) (hv : v.on noName = true) : Fin n n' v0 h2 v ([] : List (Blk U)) := by
  refine ⟨⟨fun i => i, trivial, fun r z hz => rel_ren' v z (h r z hz)⟩, rfl, ?_⟩
  have key : ∀ (p : Nat → Bool) (x : AV), x.on noName = true → x.on p = true := by
    intro p x
    exact AV.rec (motive_1 := fun x => x.on noName = true → x.on p = true) (motive_2 := fun l => AV.onL noName l = true → AV.onL p l = true)
      (fun _ _ => rfl) (fun _ _ _ => rfl) (fun _ _ _ => rfl) (fun _ => rfl) (fun _ => rfl) (fun _ _ => rfl) (fun _ _ _ => rfl) (fun _ => rfl)
      (fun _ _ h => by simp [AV.on, noName] at h) (fun _ _ _ _ h => by simp [AV.on, noName] at h) (fun _ => rfl) (fun _ _ _ _ _ _ h => by simp [AV.on, noName] at h)
      (fun _ ih h => ih h) (fun _ ih h => ih h) (fun _ _ _ i1 i2 h => by simp only [AV.on, Bool.and_eq_true] at h ⊢; exact ⟨i1 h.1, i2 h.2⟩)
      (fun _ => rfl) (fun _ h => by simp [AV.on, noName] at h) (fun _ => rfl) (fun _ _ ih h => ih h) (fun _ => rfl) (fun _ _ => rfl) (fun _ _ _ _ => rfl) (fun _ => rfl)
      (fun _ => rfl) (fun _ _ i1 i2 h => by simp only [AV.onL, Bool.and_eq_true] at h ⊢; exact ⟨i1 h.1, i2 h.2⟩) x
  exact key _ v hv

end
end Sx
end Go.Proofs.YtmcmdghmglopnaaGreatDoor

/-
  What a function does, told once for all callers: of one object and rows, or of rows alone.
-/
namespace Go.Proofs.YtmcmdghmglopnaaGreatDoor
namespace Sx
open Go

section
variable {U : Uni} {P : Program}

abbrev RunObj (U : Uni) := U.O → List (Arg U) → (AV → U.O → List (Blk U) → Out U) → Out U
abbrev RunFree (U : Uni) := List (Arg U) → (AV → List (Blk U) → Out U) → Out U

def hookObj (n : Nat) (sg : List (Sg U)) (run : RunObj U) : HookS U := fun args h nx K =>
  match args with
  | .ptr id off :: rest => bif Nat.beq off 0 then (match h.get id with
    | some (.obj x) => evalArgs sg rest (h.del id) fun as => run x as fun v x' E =>
        bif newFree nx E h then K (v.ren (shf n nx)) (newAt nx E ++ h.set id (.obj x')) (nx + E.length) [id] else .bad 440
    | _ => .bad 441) else .bad 442
  | _ => .bad 443

def hookFree (sg : List (Sg U)) (run : RunFree U) : HookS U := fun args h nx K =>
  evalArgs sg args h fun as => run as fun v E =>
    bif newFree nx E h then K (v.ren (shf 0 nx)) (newAt nx E ++ h) (nx + E.length) [] else .bad 444

def HasFn (P : Program) (f : Nat) : Prop := ∃ fn, P.funcs[f]? = some fn ∧ (fn.name == "runtime.NumGoroutine") = false ∧ fn.body.isNone = false

/-- The callee's end, in its own names: its object, and what it tells and leaves besides. -/
def EndObj (n n' : Nat) (v0 : AV) (h' : Heap U) (v : AV) (x' : U.O) (E : List (Blk U)) : Prop :=
  ∃ h2, HImp n' h' h2 ∧ h2.get 0 = some (.obj x') ∧ Fin n n' v0 (h2.del 0) v E
def EndFree (n' : Nat) (v0 : AV) (h' : Heap U) (v : AV) (E : List (Blk U)) : Prop :=
  ∃ h2, HImp n' h' h2 ∧ Fin 0 n' v0 h2 v E

theorem hookFree_ok [Plain U] [Bare U] {f : Nat} {sg : List (Sg U)} {run : RunFree U} (hfn : HasFn P f)
    (hcall : ∀ (M : Goal U) as K0, (run as K0).holds M →
      CallsSx P f (argAV 0 as) (argHeap 0 as) as.length (fun v0 h' n' _ => ∃ v E, (K0 v E).holds M ∧ EndFree n' v0 h' v E)) :
    HookOk P f (hookFree sg run) := by
  intro M args h nx K H
  unfold hookFree at H
  obtain ⟨as, H, hargs⟩ := evalArgs_sound H
  refine ⟨hfn, fun β r vs w hr hs hfresh => ?_⟩
  obtain ⟨hm, H2, hd, hap, hin⟩ := hs
  have hc := hcall M as _ H
  obtain ⟨r0, k1, k2, k3, k4⟩ := hargs β.G r H2 vs 0 (fun _ => none) hr hd hap (fun _ _ => rfl)
  have hGin : (H2.join β.G).inW w := (Hp.inW_join hap).2 ⟨hin, hm.G⟩
  have hsat : Sat ⟨H2.join β.G, β.os, β.output, β.tape⟩ r0 (argHeap 0 as) w :=
    ⟨⟨hm.os, hm.output, hm.tape, hGin⟩, Hp.nil, k4, Hp.nil_apart _, Hp.inW_nil w⟩
  refine (hc.2 _ r0 _ w k3 hsat (by rw [Nat.zero_add] at k2; exact k2)).mono fun e w' hh => ?_
  obtain ⟨v0, h', n', T, z, r', rfl, ⟨v, E, hK, h2, himp, hfin⟩, g1, g2, g3, g4, _⟩ := hh
  rw [holds_bif] at hK
  split at hK
  · rename_i hfree
    obtain ⟨hm', A', hd', hap', hin'⟩ := g4
    obtain ⟨B1, B2, p1, p2, rfl⟩ := himp _ _ _ g2 hd'
    obtain ⟨⟨f2, hsub, hv0⟩, hbare, hon⟩ := hfin
    obtain ⟨C1, C2, c1, c2, rfl⟩ := heapSub_den hsub p1
    have hdis := Hp.join_apart.1 hap'
    have hdis2 := Hp.join_apart.1 hdis.1
    have aC1 := Hp.apart_join.1 hdis2.1
    let rr : Nm := fun i => if i < nx then r i else if i < nx + E.length then r' (f2 (0 + (i - nx))) else none
    have hle : r.le rr := fun i y e => by
      show (if i < nx then r i else _) = _
      rw [if_pos (Nat.lt_of_not_le fun hh => by rw [hfresh i hh] at e; cases e)]; exact e
    have hnew : (newAt nx E).den β.G rr C1 := newAt_den hbare (fun k hk => by
      show r' (f2 (0 + k)) = (if nx + k < nx then _ else if nx + k < nx + E.length then _ else _)
      rw [if_neg (by omega), if_pos (by omega), Nat.add_sub_cancel_left]) c1
    have hinA := (Hp.inW_join p2).1 hin'
    have hinC := (Hp.inW_join c2).1 hinA.1
    have hG' := (Hp.inW_join hap).1 hm'.G
    refine ⟨v.ren (shf 0 nx), _, _, _, z, rr, rfl, hK, hle, fun i hi => ?_, ?_, ⟨⟨hm'.os, hm'.output, hm'.tape, hG'.2⟩, C1.join H2, ?_, ?_, ?_⟩, ?_⟩
    · show (if i < nx then _ else if i < nx + E.length then _ else none) = none
      rw [if_neg (by omega), if_neg (by omega)]
    · have h1 := rel_ren _ _ (hv0 _ _ g3)
      refine rel_ren' _ _ (rel_on (r := fun i => r' (f2 i)) (fun i hi => ?_) v z hon h1)
      simp only [Bool.and_eq_true] at hi
      have i2 : i < 0 + E.length := by have := hi.2; rwa [Nat.blt_eq] at this
      show r' (f2 i) = (if shf 0 nx i < nx then _ else if shf 0 nx i < nx + E.length then r' (f2 (0 + (shf 0 nx i - nx))) else _)
      unfold shf
      rw [if_neg (by omega), if_pos (by omega)]
      congr 2; omega
    · exact Heap.den_append hnew (Heap.den_mono hle hd) aC1.1
    · exact Hp.join_apart.2 ⟨aC1.2, hap⟩
    · exact (Hp.inW_join aC1.1).2 ⟨hinC.1, hG'.1⟩
    · refine Kept.of fun id2 B2 e2 hn2 => ?_
      exact newFree_get hfree e2 e2
  · exact hK.elim

/-- A run of the body is a call. -/
theorem calls_of_run {C : Cfg P U} (hC : C.ok) {M : Goal U} {n g : Nat} {fn : Func} (h1 : P.funcs[g]? = some fn) (h2 : (fn.name == "runtime.NumGoroutine") = false) {body : Code} (hb : fn.body = some body) {args : List AV} (hl : args.length ≤ fn.ntmps) {h : Heap U} {nx : Nat}
    {R : AV → Heap U → Nat → List Nat → Prop} {k : AV → Heap U → Nat → List Nat → Out U} (hk : ∀ v h' nx' T, (k v h' nx' T).holds M → R v h' nx' T)
    (H : (runCode C n g body ⟨argsEnv 0 args, h, nx, fn.ntmps, []⟩ (fun e s' => match e with
                | .nx => resAll C.τ fn s' fun v => k v s'.heap s'.nx s'.tl
                | .rt => resAll C.τ fn s' fun v => k v s'.heap s'.nx s'.tl
                | .ex _ => .bad 301)).holds M) : CallsSx P g args h nx R := by
  refine ⟨⟨fn, h1, h2, by rw [hb]; rfl⟩, fun β r vs w hr hs hf => ?_⟩
  obtain ⟨e1, e2⟩ := entry_ok hr fn.ntmps hl
  refine calls_of_wp h1 hb (runCode_sound hC n g body _ _ H β r _ w ⟨hs, hf, e1, e2, rfl⟩ _ ?_)
  have fin : ∀ (s' : St U) (r' : Nm) (a' : Act) (w' : World), (resAll C.τ fn s' fun v => k v s'.heap s'.nx s'.tl).holds M → r.le r' → SatS β r' s' a' w' → Fr (⟨argsEnv 0 args, h, nx, fn.ntmps, []⟩ : St U) s' →
      a'.defers = [] ∧ ∃ v, (results fn a'.tmps).run P w' = .ok v w' ∧ ∃ av h' nx' T z r', (Ending.returned v) = .returned z ∧ R av h' nx' T ∧ r.le r' ∧ Fresh r' nx' ∧ rel r' av z ∧ Sat β r' h' w' ∧ Kept h h' T := by
    intro s' r' a' w' hres hle hs' hfr
    obtain ⟨v, hK, hh⟩ := resAll_sound hC.τ hres
    obtain ⟨z, hz, hrz⟩ := hh β r' a' w' hs'
    exact ⟨hs'.defers, z, hz, v, s'.heap, s'.nx, s'.tl, z, r', rfl, hk _ _ _ _ hK, hle, hs'.fresh, hrz, hs'.sat, hfr.kept⟩
  intro e s' r' a' w' hR hle hs' hfr
  cases e with
  | nx => exact fin s' r' a' w' hR hle hs' hfr
  | rt => exact fin s' r' a' w' hR hle hs' hfr
  | ex j => exact hR.elim

end
end Sx
end Go.Proofs.YtmcmdghmglopnaaGreatDoor

/-
  Objects made of plainer blocks: a universe with such objects besides.
-/
namespace Go.Proofs.YtmcmdghmglopnaaGreatDoor
namespace Sx
open Go

abbrev Uni.plus (U : Uni) (O : Type) (tm : O → Heap U → Nat → Prop) : Uni :=
  ⟨U.K, U.dk, U.El, U.enc, U.O ⊕ O, fun x b H => match x with
    | .inl x => U.D x b H
    | .inr x => ∃ hp n r, tm x hp n ∧ r 0 = some (b, 0) ∧ Fresh r n ∧ Heap.den Hp.nil r hp H⟩

section
variable {U : Uni} {O : Type} {tm : O → Heap U → Nat → Prop}

def Blk.up : Blk U → Blk (U.plus O tm)
  | .cells T cs => .cells T cs
  | .arr T k xs sp => .arr T k xs sp
  | .ro k xs => .ro k xs
  | .mp kk k m => .mp kk k m
  | .obj x => .obj (.inl x)
  | .pool p => .pool p
  | .rpool f => .rpool f
def Heap.up : Heap U → Heap (U.plus O tm)
  | [] => []
  | (i, B) :: h => (i, B.up) :: Heap.up h

def tmUp (tm0 : Tm U) (tm : O → Heap U → Nat → Prop) : Tm (U.plus O tm) := fun x hp n => ∃ h : Heap U, hp = h.up ∧ (match x with | .inl x => tm0 x h n | .inr x => tm x h n)

instance plainPlus [Plain U] : Plain (U.plus O tm) := ⟨fun k a f => Plain.enc (U := U) k a f⟩
instance barePlus [Bare U] : Bare (U.plus O tm) := ⟨fun k a => Bare.enc (U := U) k a⟩
end
end Sx
end Go.Proofs.YtmcmdghmglopnaaGreatDoor

/-
  One state for another, world by world; objects unpacked into their blocks; loops in that wider sense.
-/
namespace Go.Proofs.YtmcmdghmglopnaaGreatDoor
namespace Sx
open Go

section
variable {U : Uni} {P : Program}

/-- In each world some state of the family holds. -/
def SImp {Ya : Type} (nx0 : Nat) (s : St U) (T : Ya → St U) (c : Ya → Prop) : Prop :=
  ∀ (β : Base) (r : Nm) (a : Act) (w : World), SatS β r s a w → ∃ y r', c y ∧ (∀ i x, i < nx0 → r i = some x → r' i = some x) ∧ SatS β r' (T y) a w ∧ Fr s (T y)

theorem SImp.of_wk [Plain U] {Ya : Type} {nx0 : Nat} {ren : List (Nat × Nat)} {s : St U} {T : Ya → St U} {c : Ya → Prop} (y : Ya) (h : Wk nx0 ren s (T y)) (hc : c y) : SImp nx0 s T c :=
  fun _ _ _ _ hs => let ⟨r', h1, h2, h3⟩ := h.ok hs; ⟨y, r', hc, h1, h2, h3⟩

theorem SImp.bind {Ya Za : Type} {nx0 : Nat} {s : St U} {T : Ya → St U} {c : Ya → Prop} {R : Za → St U} {d : Za → Prop} (h : SImp nx0 s T c) (k : ∀ y, c y → SImp nx0 (T y) R d) : SImp nx0 s R d := by
  intro β r a w hs
  obtain ⟨y, r1, hc, h1, h2, h3⟩ := h β r a w hs
  obtain ⟨z, r2, hd, k1, k2, k3⟩ := k y hc β r1 a w h2
  exact ⟨z, r2, hd, fun i x hi e => k1 i x hi (h1 i x hi e), k2, h3.trans k3⟩

/-! ## unpacking -/
def renAll (f : Nat → Nat) : Heap U → Heap U
  | [] => []
  | (i, B) :: h => (f i, B.ren f) :: renAll f h
/-- Where an object's inner names go: 0 to its own, the others behind a base. -/
def openF (id base j : Nat) : Nat := bif Nat.beq j 0 then id else base + j

/-! ## loops -/
/-- The state with the temporaries of a list alone. -/
def keepSt (ts : List Nat) (s : St U) : St U := { s with env := ts.map fun t => (t, envGet s.env t) }
def stopK (ts : List Nat) (e : EX) (s : St U) : Out U := .stop e (keepSt ts s)
theorem keep_get (env : List (Nat × AV)) : ∀ (ts : List Nat) (t : Nat), envGet (ts.map fun t => (t, envGet env t)) t = envGet env t ∨ envGet (ts.map fun t => (t, envGet env t)) t = .und
  | [], _ => .inr rfl
  | u :: ts, t => by
    show (bif Nat.beq u t then envGet env u else envGet (ts.map _) t) = _ ∨ (bif Nat.beq u t then envGet env u else envGet (ts.map _) t) = _
    cases e : Nat.beq u t with
    | true => have := Nat.eq_of_beq_eq_true e; subst this; exact .inl rfl
    | false => exact keep_get env ts t
theorem keep_sat (ts : List Nat) {β : Base} {r : Nm} {s : St U} {a : Act} {w : World} (h : SatS β r s a w) : SatS β r (keepSt ts s) a w :=
  ⟨h.sat, h.fresh, fun t => by
    show rel r (envGet (ts.map fun t => (t, envGet s.env t)) t) _
    rcases keep_get s.env ts t with e | e
    · rw [e]; exact h.env t
    · rw [e]; trivial, h.size, h.defers⟩
def loopG {Pa Ya Za : Type} (nx0 : Nat) (I0 : Pa → St U) (c1 : Pa → Ya → Prop) (F1 : Pa → Ya → St U) (c2 : Pa → Za → Prop) (F2 : Pa → Za → St U) : LoopS U := fun s K =>
  .ex (Pa → Prop) fun c0 => .need (s.nx ≤ nx0 ∧ SImp nx0 s I0 c0)
    (.all Pa fun p => .asm (c0 p) (.both (.all Ya fun y => .asm (c1 p y) (K .nx (F1 p y))) (.all Za fun y => .asm (c2 p y) (K .rt (F2 p y)))))

end
end Sx
end Go.Proofs.YtmcmdghmglopnaaGreatDoor

/-
  What a function does to several objects, told once for all callers; the objects stay whole.
-/
namespace Go.Proofs.YtmcmdghmglopnaaGreatDoor
namespace Sx
open Go

section
variable {U : Uni} {P : Program}

def takeObjs : Nat → List AV → Heap U → (List (Nat × U.O) → List AV → Heap U → Out U) → Out U
  | 0, args, h, K => K [] args h
  | m + 1, .ptr id off :: args, h, K => bif Nat.beq off 0 then (match h.get id with
    | some (.obj x) => takeObjs m args (h.del id) fun os rest h' => K ((id, x) :: os) rest h'
    | _ => .bad 450) else .bad 451
  | _ + 1, _, _, _ => .bad 452

def objsAt : Nat → List U.O → Heap U
  | _, [] => []
  | j, x :: xs => (j, .obj x) :: objsAt (j + 1) xs
def objsBack : List (Nat × U.O) → List U.O → Heap U
  | [], _ => []
  | _ :: _, [] => []
  | (id, _) :: os, x :: xs => (id, .obj x) :: objsBack os xs
def ptrsAt : Nat → Nat → List AV
  | _, 0 => []
  | j, m + 1 => .ptr j 0 :: ptrsAt (j + 1) m

abbrev RunObjs (U : Uni) := List U.O → List (Arg U) → (AV → List U.O → List (Blk U) → Out U) → Out U
def hookObjs (m : Nat) (sg : List (Sg U)) (run : RunObjs U) : HookS U := fun args h nx K =>
  takeObjs m args h fun os rest h' => evalArgs sg rest h' fun as => run (os.map (·.2)) as fun v xs E =>
    bif newFree nx E h && Nat.beq xs.length m then K (v.ren (shf m nx)) (newAt nx E ++ (objsBack os xs ++ h')) (nx + E.length) (os.map (·.1)) else .bad 460

/-- The callee's end, in its own names: its objects first. -/
def EndObjs (m n' : Nat) (v0 : AV) (h' : Heap U) (v : AV) (xs : List U.O) (E : List (Blk U)) : Prop :=
  ∃ hr, HImp n' h' (objsAt 0 xs ++ hr) ∧ Fin m n' v0 hr v E

end
end Sx
end Go.Proofs.YtmcmdghmglopnaaGreatDoor

/-
  A step that changes only what is known, ahead of a call: objects unpacked, or packed.
-/
namespace Go.Proofs.YtmcmdghmglopnaaGreatDoor
namespace Sx
open Go

section
variable {U : Uni} {P : Program}

abbrev GhostS (U : Uni) := Heap U → Nat → (Heap U → Nat → List Nat → Out U) → Out U
def GhostOk (G : GhostS U) : Prop := ∀ (M : Goal U) (h : Heap U) (nx : Nat) (K : Heap U → Nat → List Nat → Out U), (G h nx K).holds M →
  ∀ (β : Base) (r : Nm) (w : World), Sat β r h w → Fresh r nx → ∃ h' nx' T r', (K h' nx' T).holds M ∧ r.le r' ∧ Fresh r' nx' ∧ Sat β r' h' w ∧ Kept h h' T

def hookAfter (G : GhostS U) (H : HookS U) : HookS U := fun args h nx K => G h nx fun h' nx' T => H args h' nx' fun v h2 nx2 T2 => K v h2 nx2 (T ++ T2)

/-- A loop in the wider sense that is left at its head alone. -/
def loopH {Pa Ya : Type} (nx0 : Nat) (I0 : Pa → St U) (c1 : Pa → Ya → Prop) (F1 : Pa → Ya → St U) : LoopS U := fun s K =>
  .ex (Pa → Prop) fun c0 => .need (s.nx ≤ nx0 ∧ SImp nx0 s I0 c0) (.all Pa fun p => .asm (c0 p) (.all Ya fun y => .asm (c1 p y) (K .nx (F1 p y))))
/-- A loop that is told of some temporaries alone. -/
def keepLoop (ts : List Nat) (L : LoopS U) : LoopS U := fun s K => L (keepSt ts s) K
end
end Sx
end Go.Proofs.YtmcmdghmglopnaaGreatDoor

/-
  Whole functions, run and met: what all seats use alike.
-/
namespace Go.Proofs.YtmcmdghmglopnaaGreatDoor
namespace Sx
open Go

section
variable {U : Uni} {P : Program}

/-- A run of a whole function. -/
noncomputable def runF (C : Cfg P U) (n g : Nat) (fn : Func) (args : List AV) (h : Heap U) (nx : Nat) : Out U :=
  match fn.body with
  | some b => runCode C n g b ⟨argsEnv 0 args, h, nx, fn.ntmps, []⟩ (fun e s' => match e with
     | .nx => resAll C.τ fn s' fun v => .fin v s'.heap s'.nx
     | .rt => resAll C.τ fn s' fun v => .fin v s'.heap s'.nx
     | .ex _ => .bad 301)
  | none => .bad 0
/-- A run of which only what it tells is kept. -/
noncomputable def runL (C : Cfg P U) (n g : Nat) (fn : Func) (args : List AV) (h : Heap U) (nx : Nat) : Out U :=
  match fn.body with
  | some b => runCode C n g b ⟨argsEnv 0 args, h, nx, fn.ntmps, []⟩ (fun e s' => match e with
     | .nx => resAll C.τ fn s' fun v => .fin v [] 0
     | .rt => resAll C.τ fn s' fun v => .fin v [] 0
     | .ex _ => .bad 301)
  | none => .bad 0

theorem calls_runF {C : Cfg P U} (hC : C.ok) {n g : Nat} {fn : Func} (hg : P.funcs[g]? = some fn ∧ (fn.name == "runtime.NumGoroutine") = false) (hb : fn.body.isSome = true) {args : List AV} (hl : args.length ≤ fn.ntmps) {h : Heap U} {nx : Nat}
    {R : AV → Heap U → Nat → List Nat → Prop} (H : (runF C n g fn args h nx).holds ⟨fun _ _ => False, fun v h' nx' => R v h' nx' []⟩) : CallsSx P g args h nx (fun v h' nx' _ => R v h' nx' []) := by
  unfold runF at H
  cases hbd : fn.body with
  | none => rw [hbd] at hb; cases hb
  | some body =>
    rw [hbd] at H
    exact calls_of_run hC (n := n) (M := ⟨fun _ _ => False, fun v h' nx' => R v h' nx' []⟩) (R := fun v h' nx' _ => R v h' nx' []) (k := fun v h' nx' _ => .fin v h' nx') hg.1 hg.2 hbd hl (fun _ _ _ _ hh => hh) H
theorem calls_runL {C : Cfg P U} (hC : C.ok) {n g : Nat} {fn : Func} (hg : P.funcs[g]? = some fn ∧ (fn.name == "runtime.NumGoroutine") = false) (hb : fn.body.isSome = true) {args : List AV} (hl : args.length ≤ fn.ntmps) {h : Heap U} {nx : Nat}
    (H : (runL C n g fn args h nx).holds ⟨fun _ _ => False, fun v _ _ => v.sub .tt⟩) : CallsSx P g args h nx (fun v _ _ _ => v.sub .tt) := by
  unfold runL at H
  cases hbd : fn.body with
  | none => rw [hbd] at hb; cases hb
  | some body =>
    rw [hbd] at H
    exact calls_of_run hC (n := n) (M := ⟨fun _ _ => False, fun v _ _ => v.sub .tt⟩) (R := fun v _ _ _ => v.sub .tt) (k := fun v h' nx' _ => .fin v [] 0) hg.1 hg.2 hbd hl (fun _ _ _ _ hh => hh) H

theorem AV.sub_lit' {k : IntKind} {n : Int} : (AV.lit k n).sub (.int k n) := fun _ _ h => h
theorem AV.sub_same (a : AV) : a.sub a := fun _ _ h => h
theorem free_hook [Plain U] [Bare U] {C : Cfg P U} (hC : C.ok) {f n : Nat} {fn : Func} {sgn : List (Sg U)} {run : RunFree U} (hg : P.funcs[f]? = some fn ∧ (fn.name == "runtime.NumGoroutine") = false) (hb : fn.body.isSome = true)
    (H : ∀ (M : Goal U) (ar : List (Arg U)) (K0 : AV → List (Blk U) → Out U), (run ar K0).holds M → ar.length ≤ fn.ntmps ∧
      (runF C n f fn (argAV 0 ar) (argHeap 0 ar) ar.length).holds ⟨fun _ _ => False, fun v0 h' n' => ∃ v E, (K0 v E).holds M ∧ EndFree n' v0 h' v E⟩) :
    HookOk P f (hookFree sgn run) := by
  refine hookFree_ok ⟨fn, hg.1, hg.2, by cases hb' : fn.body <;> simp [hb'] at hb ⊢⟩ ?_
  intro M ar K0 h
  obtain ⟨hl, h⟩ := H M ar _ h
  refine calls_runF (R := fun v0 h' n' _ => ∃ v E, (K0 v E).holds M ∧ EndFree n' v0 h' v E) hC (n := n) hg hb ?_ h
  have : ∀ (j : Nat) (l : List (Arg U)), (argAV j l).length = l.length := by
    intro j l; induction l generalizing j with
    | nil => rfl
    | cons a l ih => simp [argAV, ih]
  rw [this]; exact hl

theorem endPlain {n' : Nat} {v0 v : AV} {h' : Heap U} (h : v0.sub v) (hv : v.on noName = true) : EndFree n' v0 h' v [] := ⟨h', HImp.refl _ _, .plain h hv⟩

theorem wrap_nat {n : Nat} (h : n < 4611686018427387904) : IntKind.wrap .i64 ((n : Int) + 1) = ((n + 1 : Nat) : Int) := by
  simp [IntKind.wrap, IntKind.bits, IntKind.signed]; omega
theorem wrap_low {n : Int} (h0 : -4611686018427387904 < n) (h : n < 4611686018427387904) : IntKind.wrap .i64 n = n := by
  simp [IntKind.wrap, IntKind.bits, IntKind.signed]; omega
end
end Sx
end Go.Proofs.YtmcmdghmglopnaaGreatDoor

/-
  States trimmed: some temporaries and blocks alone are kept; loops told so.
-/
namespace Go.Proofs.YtmcmdghmglopnaaGreatDoor
namespace Sx
open Go

section
variable {U : Uni} {P : Program}

def TrimOk (tr : St U → St U) : Prop := ∀ (β : Base) (r : Nm) (s : St U) (a : Act) (w : World), SatS β r s a w → SatS β r (tr s) a w ∧ Fr s (tr s)
def Heap.keep (ids : List Nat) : Heap U → Heap U
  | [] => []
  | (i, B) :: h => bif ids.any (Nat.beq i) then (i, B) :: Heap.keep ids h else Heap.keep ids h
def Heap.gone (ids : List Nat) : Heap U → List Nat
  | [] => []
  | (i, _) :: h => bif ids.any (Nat.beq i) then Heap.gone ids h else i :: Heap.gone ids h
theorem Heap.keep_den {ids : List Nat} {G : Hp} {r : Nm} : ∀ {h : Heap U} {H : Hp}, h.den G r H → ∃ H1 H2, (h.keep ids).den G r H1 ∧ H1.apart H2 ∧ H = H1.join H2
  | [], H, d => ⟨H, Hp.nil, d, (Hp.nil_apart H).symm, (Hp.join_nil H).symm⟩
  | (i, B) :: h, _, ⟨A1, A2, a, b, c, d⟩ => by
    obtain ⟨K1, K2, k1, k2, rfl⟩ := Heap.keep_den (ids := ids) b
    subst d
    have q := Hp.apart_join.1 c
    cases e : ids.any (Nat.beq i) with
    | true =>
      refine ⟨A1.join K1, K2, ?_, Hp.join_apart.2 ⟨q.2, k2⟩, by rw [Hp.join_assoc]⟩
      show Heap.den G r (bif ids.any (Nat.beq i) then _ else _) _
      rw [e]
      exact ⟨A1, K1, a, k1, q.1, rfl⟩
    | false =>
      refine ⟨K1, A1.join K2, ?_, Hp.apart_join.2 ⟨q.1.symm, k2⟩, ?_⟩
      · show Heap.den G r (bif ids.any (Nat.beq i) then _ else _) _
        rw [e]; exact k1
      · rw [← Hp.join_assoc, ← Hp.join_assoc, Hp.join_comm q.1]
theorem Heap.keep_get {ids : List Nat} {id : Nat} {B : Blk U} : ∀ {h : Heap U}, h.get id = some B → id ∈ h.gone ids ∨ (h.keep ids).get id = some B
  | [], e => by cases e
  | (i, C) :: h, e => by
    change (bif Nat.beq i id then some C else Heap.get h id) = some B at e
    show id ∈ (bif ids.any (Nat.beq i) then _ else _) ∨ Heap.get (bif ids.any (Nat.beq i) then _ else _) id = some B
    cases hi : Nat.beq i id with
    | true =>
      rw [hi] at e
      have := Nat.eq_of_beq_eq_true hi
      subst this
      cases hk : ids.any (Nat.beq i) with
      | true => right; show (bif Nat.beq i i then some C else _) = _; rw [hi]; exact e
      | false => left; exact List.mem_cons_self ..
    | false =>
      rw [hi] at e
      have ih := Heap.keep_get (ids := ids) (h := h) e
      cases hk : ids.any (Nat.beq i) with
      | true =>
        rcases ih with h1 | h1
        · exact .inl h1
        · right; show (bif Nat.beq i id then some C else _) = _; rw [hi]; exact h1
      | false =>
        rcases ih with h1 | h1
        · exact .inl (List.mem_cons_of_mem _ h1)
        · exact .inr h1

def trimSt (ts ids : List Nat) (s : St U) : St U := { s with env := ts.map fun t => (t, envGet s.env t), heap := s.heap.keep ids, tl := s.heap.gone ids ++ s.tl }
theorem trim_ok (ts ids : List Nat) : TrimOk (trimSt (U := U) ts ids) := by
  intro β r s a w hs
  have k := keep_sat ts hs
  obtain ⟨hm, H, hd, ha, hw⟩ := hs.sat
  obtain ⟨H1, H2, h1, h2, rfl⟩ := Heap.keep_den (ids := ids) hd
  refine ⟨⟨⟨hm, H1, h1, (Hp.join_apart.1 ha).1, ((Hp.inW_join h2).1 hw).1⟩, k.fresh, k.env, k.size, k.defers⟩, ⟨fun i hi => List.mem_append.2 (.inr hi), Kept.of fun id B e hn => ?_, rfl⟩⟩
  rcases Heap.keep_get (ids := ids) e with h | h
  · exact absurd (List.mem_append.2 (.inl h)) hn
  · exact h

def stopT (tr : St U → St U) (e : EX) (s : St U) : Out U := .stop e (tr s)
def trimLoop (tr : St U → St U) (L : LoopS U) : LoopS U := fun s K => L (tr s) K
theorem trimLoop_ok {id : Nat} {body : Code} {tr : St U → St U} (ht : TrimOk tr) {L : LoopS U} (h : LoopOk P id body L) : LoopOk P id body (trimLoop tr L) := by
  intro M s K H β r a w hs Q hQ
  obtain ⟨h1, h2⟩ := ht β r s a w hs
  exact h M (tr s) K H β r a w h1 Q (fun e s' r' a' w' hR hle hs' hf => hQ e s' r' a' w' hR hle hs' (h2.trans hf))

theorem loopT_ok [Plain U] {C : Cfg P U} (hC : C.ok) {id f n : Nat} {body : Code} {Pa ι Ya Za : Type} {tr : St U → St U} (ht : TrimOk tr) (nx0 : Nat) (I : Pa → ι → St U) (J : Pa → ι → Prop) (x0 : Pa → ι) (μ : Pa → ι → Nat) (c1 : Pa → Ya → Prop) (F1 : Pa → Ya → St U) (c2 : Pa → Za → Prop) (F2 : Pa → Za → St U)
    (hJ : ∀ p, J p (x0 p))
    (hbody : ∀ (p : Pa) (x : ι), J p x → (runCode C n f body (I p x) (stopT tr)).holds ⟨fun e s' => match e with
      | .nx => SImp nx0 s' (I p) (fun y => J p y ∧ μ p y < μ p x)
      | .rt => SImp nx0 s' (F2 p) (c2 p)
      | .ex j => j = id ∧ SImp nx0 s' (F1 p) (c1 p), fun _ _ _ => False⟩) : LoopOk P id body (loopG nx0 (fun p => I p (x0 p)) c1 F1 c2 F2) := by
  intro M s K ⟨c0, ⟨hnx, h0⟩, hpost⟩ β r a w hs Q hQ
  have hdom : ∀ i x, r i = some x → i < nx0 := fun i x e => by
    rcases Nat.lt_or_ge i nx0 with h | h
    · exact h
    · rw [hs.fresh i (by omega)] at e; cases e
  obtain ⟨p, r0, hp, g1, g2, g3⟩ := h0 β r a w hs
  have hpost := hpost p hp
  refine wp_block ?_
  have key : ∀ (m : Nat) (x : ι) (r1 : Nm) (a1 : Act) (w1 : World), J p x → μ p x ≤ m → SatS β r1 (I p x) a1 w1 → (∀ i x, i < nx0 → r i = some x → r1 i = some x) → Fr s (I p x) →
      Code.rounds P body (Exit.inBlock id Q) (m + 1) a1 w1 := by
    intro m
    induction m with
    | zero =>
      intro x r1 a1 w1 hj hm hs1 hr1 hf1
      refine runCode_sound hC n f body (I p x) (stopT tr) (hbody p x hj) β r1 a1 w1 hs1 _ ?_
      intro e s' r' a' w' hR hle hs' hf
      obtain ⟨t1, t2⟩ := ht β r' s' a' w' hs'
      cases e with
      | nx => obtain ⟨y, _, ⟨_, hlt⟩, _⟩ := hR β r' a' w' t1; omega
      | rt =>
        obtain ⟨y, r'', hc, k1, k2, k3⟩ := hR β r' a' w' t1
        exact hQ .rt _ r'' a' w' (hpost.2 y hc) (fun i x e => k1 i x (hdom i x e) (hle i x (hr1 i x (hdom i x e) e))) k2 (((hf1.trans hf).trans t2).trans k3)
      | ex j =>
        obtain ⟨rfl, hR⟩ := hR
        obtain ⟨y, r'', hc, k1, k2, k3⟩ := hR β r' a' w' t1
        show (if j = j then Q .normal a' w' else Q (.exit j) a' w')
        rw [if_pos rfl]
        exact hQ .nx _ r'' a' w' (hpost.1 y hc) (fun i x e => k1 i x (hdom i x e) (hle i x (hr1 i x (hdom i x e) e))) k2 (((hf1.trans hf).trans t2).trans k3)
    | succ m ih =>
      intro x r1 a1 w1 hj hm hs1 hr1 hf1
      refine runCode_sound hC n f body (I p x) (stopT tr) (hbody p x hj) β r1 a1 w1 hs1 _ ?_
      intro e s' r' a' w' hR hle hs' hf
      obtain ⟨t1, t2⟩ := ht β r' s' a' w' hs'
      cases e with
      | nx =>
        obtain ⟨y, r'', ⟨hjy, hlt⟩, k1, k2, k3⟩ := hR β r' a' w' t1
        exact ih y r'' a' w' hjy (by omega) k2 (fun i x hi e => k1 i x hi (hle i x (hr1 i x hi e))) (((hf1.trans hf).trans t2).trans k3)
      | rt =>
        obtain ⟨y, r'', hc, k1, k2, k3⟩ := hR β r' a' w' t1
        exact hQ .rt _ r'' a' w' (hpost.2 y hc) (fun i x e => k1 i x (hdom i x e) (hle i x (hr1 i x (hdom i x e) e))) k2 (((hf1.trans hf).trans t2).trans k3)
      | ex j =>
        obtain ⟨rfl, hR⟩ := hR
        obtain ⟨y, r'', hc, k1, k2, k3⟩ := hR β r' a' w' t1
        show (if j = j then Q .normal a' w' else Q (.exit j) a' w')
        rw [if_pos rfl]
        exact hQ .nx _ r'' a' w' (hpost.1 y hc) (fun i x e => k1 i x (hdom i x e) (hle i x (hr1 i x (hdom i x e) e))) k2 (((hf1.trans hf).trans t2).trans k3)
  exact wp_loop_rounds _ (key (μ p (x0 p)) (x0 p) r0 a w (hJ p) (Nat.le_refl _) g2 g1 g3)
theorem loopTH_ok [Plain U] {C : Cfg P U} (hC : C.ok) {id f n : Nat} {body : Code} {Pa ι Ya : Type} {tr : St U → St U} (ht : TrimOk tr) (nx0 : Nat) (I : Pa → ι → St U) (J : Pa → ι → Prop) (x0 : Pa → ι) (μ : Pa → ι → Nat) (c1 : Pa → Ya → Prop) (F1 : Pa → Ya → St U)
    (hJ : ∀ p, J p (x0 p))
    (hbody : ∀ (p : Pa) (x : ι), J p x → (runCode C n f body (I p x) (stopT tr)).holds ⟨fun e s' => match e with
      | .nx => SImp nx0 s' (I p) (fun y => J p y ∧ μ p y < μ p x)
      | .rt => False
      | .ex j => j = id ∧ SImp nx0 s' (F1 p) (c1 p), fun _ _ _ => False⟩) : LoopOk P id body (loopH nx0 (fun p => I p (x0 p)) c1 F1) := by
  intro M s K ⟨c0, h0, hp⟩
  refine loopT_ok (f := f) (n := n) hC ht nx0 I J x0 μ c1 F1 (fun _ (_ : Empty) => False) (fun _ e => e.elim) hJ ?_ M s K ⟨c0, h0, fun p hc => ⟨hp p hc, fun e => e.elim⟩⟩
  intro p x hx
  refine Out.weak (hbody p x hx) (fun e s' hh => ?_) (fun _ _ _ hh => hh)
  cases e with
  | nx => exact hh
  | rt => exact hh.elim
  | ex j => exact hh
end
end Sx
end Go.Proofs.YtmcmdghmglopnaaGreatDoor

/-
  A universe of raw cells, for runs on known arguments; a tree of which each choice is made.
-/
namespace Go.Proofs.YtmcmdghmglopnaaGreatDoor
namespace Sx
open Go

def okL (w : Nat) (cs : List AV) : Bool := Nat.beq cs.length w && cs.all AV.one
theorem okL_len {w : Nat} {cs : List AV} (h : okL w cs = true) : cs.length = w := by
  unfold okL at h; simp only [Bool.and_eq_true] at h; exact Nat.eq_of_beq_eq_true h.1
theorem okL_one {w : Nat} {cs : List AV} (h : okL w cs = true) : cs.all AV.one = true := by
  unfold okL at h; simp only [Bool.and_eq_true] at h; exact h.2
/-- Elements as rows of cells. -/
def rawEnc (z : List AV) (agg : Bool) (hz : okL z.length z = true) (hp : 0 < z.length) : Enc (List AV) where
  w := z.length
  agg := agg
  enc := fun a => bif okL z.length a then a else z
  dec := fun cs => bif okL z.length cs then some cs else none
  dflt := z
  len := fun a => by
    cases h : okL z.length a with
    | false => rfl
    | true => exact okL_len h
  back := fun cs a h r vs hr => by
    cases hk : okL z.length cs with
    | false => rw [hk] at h; cases h
    | true => rw [hk] at h; cases h; rw [hk]; exact hr
  one := fun a r vs h => by
    cases hk : okL z.length a with
    | false => rw [hk] at h; exact relL_one (okL_one hz) h
    | true => rw [hk] at h; exact relL_one (okL_one hk) h
  pos := hp
def rawOne : Enc (List AV) := rawEnc [.nilP] false rfl (by decide)
def rawK (τ : Tab) (e : Nat) : Enc (List AV) := match τ e with
  | some R => if h : okL R.zero.length R.zero = true ∧ 0 < R.zero.length then rawEnc R.zero R.kind.agg h.1 h.2 else rawOne
  | none => rawOne
/-- The universe of raw cells over a table of types. -/
@[reducible] def RawU (τ : Tab) : Uni := ⟨Nat, inferInstance, fun _ => List AV, rawK τ, Empty, fun e => e.elim⟩
/-- A table that asks for speed. -/
def quickTab (τ : Tab) : Tab := fun t => match τ t with | some R => some { R with quick := true } | none => none
theorem quick_met {P : Program} {τ : Tab} (h : τ.met P) : (quickTab τ).met P := by
  intro t R hR
  unfold quickTab at hR
  split at hR
  · rename_i R0 h0
    cases hR
    have k := h t R0 h0
    exact ⟨k.kind, k.info, k.cmp, k.meths⟩
  · cases hR
def rawKinds (τ : Tab) : Kinds (RawU τ) := fun e => match τ e with
  | some R => bif okL R.zero.length R.zero && Nat.blt 0 R.zero.length && Nat.beq R.zero.length R.size && !(Nat.beq R.bytes 0) then some e else none
  | none => none
theorem rawKinds_met (τ : Tab) : (rawKinds τ).met τ := by
  intro e k h
  unfold rawKinds at h
  split at h
  · rename_i R hR
    cases hc : (okL R.zero.length R.zero && Nat.blt 0 R.zero.length && Nat.beq R.zero.length R.size && !(Nat.beq R.bytes 0)) with
    | false => rw [hc] at h; cases h
    | true =>
      rw [hc] at h; cases h
      simp only [Bool.and_eq_true] at hc
      obtain ⟨⟨⟨h1, h2⟩, h3⟩, h4⟩ := hc
      have h2 : 0 < R.zero.length := by rwa [Nat.blt_eq] at h2
      have h3 := Nat.eq_of_beq_eq_true h3
      have e1 : rawK τ e = rawEnc R.zero R.kind.agg h1 h2 := by unfold rawK; rw [hR]; simp only []; rw [dif_pos ⟨h1, h2⟩]
      refine ⟨R, hR, ?_, ?_, ?_, fun r vs hv => ?_⟩
      · show (rawK τ e).w = _; rw [e1]; exact h3
      · show (rawK τ e).agg = _; rw [e1]; rfl
      · intro hb; rw [hb] at h4; simp at h4
      · show relL r ((rawK τ e).enc (rawK τ e).dflt) vs
        rw [e1]
        show relL r (bif okL R.zero.length R.zero then R.zero else R.zero) vs
        rw [h1]; exact hv
  · cases h

section
variable {U : Uni}
/-- Each choice made. -/
def Out.conc : Out U → Out U
  | .fin v h n => .fin v h n
  | .stop e s => .stop e s
  | .ite b t e => bif b then t.conc else e.conc
  | .need p k => .need p k.conc
  | @Out.needd _ p _ k => bif decide p then k.conc else .bad 997
  | .same a b k => .same a b k.conc
  | .asm p k => .asm p k.conc
  | .all β f => .all β fun x => (f x).conc
  | .ex β f => .ex β fun x => (f x).conc
  | .both a b => .both a.conc b.conc
  | .maybe b t e => bif b then .maybe b t.conc e.conc else e.conc
  | .bad n => .bad n
end
end Sx
end Go.Proofs.YtmcmdghmglopnaaGreatDoor

/-
  Turns and how picks wait, in plain Lean.
-/
namespace Go.Proofs.YtmcmdghmglopnaaGreatDoor
namespace Sx

/-! ## windows -/
/-- Each window of length w that ends by e holds t. -/
def Covers (l : List Int) (t : Int) (w e : Nat) : Prop := ∀ s, s + w ≤ e → ∃ i, s ≤ i ∧ i < s + w ∧ l[i]? = some t
def FairP (l : List Int) (n : Int) (w : Nat) : Prop := ∀ t, 0 ≤ t → t < n → Covers l t w l.length

/-- What is known behind k picks: behind which place each came last (0: not yet), and the longest row without one. -/
structure LS where
  last : Int → Nat
  most : Nat
def lsStep (n : Int) (i : Nat) (t : Int) (s : LS) : LS := if 0 ≤ t ∧ t < n then ⟨fun x => if x = t then i + 1 else s.last x, max s.most (i - s.last t)⟩ else s
def lsRun (l : List Int) (n : Int) : Nat → LS
  | 0 => ⟨fun _ => 0, 0⟩
  | k + 1 => match l[k]? with
    | some t => lsStep n k t (lsRun l n k)
    | none => lsRun l n k

structure LInv (l : List Int) (n : Int) (k : Nat) (s : LS) : Prop where
  at_ : ∀ t, s.last t = 0 ∨ l[s.last t - 1]? = some t
  le : ∀ t, s.last t ≤ k
  all : ∀ i t, i < k → 0 ≤ t → t < n → l[i]? = some t → i < s.last t
  in_ : ∀ t, ¬ (0 ≤ t ∧ t < n) → s.last t = 0
  most : ∀ w, 1 ≤ w → (s.most < w ↔ ∀ t, 0 ≤ t → t < n → Covers l t w (s.last t))

theorem lsRun_inv (l : List Int) (n : Int) : ∀ k, k ≤ l.length → LInv l n k (lsRun l n k)
  | 0, _ => ⟨fun _ => .inl rfl, fun _ => Nat.le_refl _, fun i t h => absurd h (by omega), fun _ _ => rfl, fun w hw => ⟨fun _ t _ _ s hs => by simp [lsRun] at hs; omega, fun _ => by simp [lsRun]; omega⟩⟩
  | k + 1, hk => by
    have ih := lsRun_inv l n k (by omega)
    have hlt : k < l.length := by omega
    have hget : l[k]? = some l[k] := List.getElem?_eq_getElem hlt
    generalize ht : l[k] = t at hget
    simp only [lsRun, hget]
    unfold lsStep
    by_cases hv : 0 ≤ t ∧ t < n
    · rw [if_pos hv]
      generalize hs : lsRun l n k = s at ih
      refine ⟨fun x => ?_, fun x => ?_, fun i x hi h0 h1 hx => ?_, fun x hx => ?_, fun w hw => ?_⟩
      · show (if x = t then k + 1 else s.last x) = 0 ∨ l[(if x = t then k + 1 else s.last x) - 1]? = some x
        by_cases e : x = t
        · rw [if_pos e]; exact .inr (by simpa [e] using hget)
        · rw [if_neg e]; exact ih.at_ x
      · show (if x = t then k + 1 else s.last x) ≤ k + 1
        have := ih.le x
        split <;> omega
      · show i < (if x = t then k + 1 else s.last x)
        by_cases e : x = t
        · rw [if_pos e]; omega
        · rw [if_neg e]
          rcases Nat.lt_or_ge i k with h | h
          · exact ih.all i x h h0 h1 hx
          · have : i = k := by omega
            subst this
            rw [hget] at hx; cases hx; exact absurd rfl e
      · show (if x = t then k + 1 else s.last x) = 0
        by_cases e : x = t
        · subst e; exact absurd hv hx
        · rw [if_neg e]; exact ih.in_ x hx
      · show max s.most (k - s.last t) < w ↔ ∀ x, 0 ≤ x → x < n → Covers l x w (if x = t then k + 1 else s.last x)
        rw [Nat.max_lt, ih.most w hw]
        constructor
        · rintro ⟨h1, h2⟩ x hx0 hx1
          by_cases e : x = t
          · subst e
            rw [if_pos rfl]
            intro a ha
            rcases Nat.lt_or_ge (s.last x) (a + w) with h | h
            · rcases Nat.lt_or_ge k (a + w) with h3 | h3
              · exact ⟨k, by omega, by omega, hget⟩
              · -- a + w ≤ k, s.last x < a + w
                have h5 := ih.le x
                rcases ih.at_ x with h4 | h4
                · omega
                · exact ⟨s.last x - 1, by omega, by omega, h4⟩
            · exact h1 x hx0 hx1 a h
          · rw [if_neg e]; exact h1 x hx0 hx1
        · intro h
          refine ⟨fun x hx0 hx1 => ?_, ?_⟩
          · have := h x hx0 hx1
            by_cases e : x = t
            · subst e
              rw [if_pos rfl] at this
              exact fun a ha => this a (by have := ih.le x; omega)
            · rwa [if_neg e] at this
          · have h1 := h t hv.1 hv.2
            rw [if_pos rfl] at h1
            rcases Nat.lt_or_ge (k - s.last t) w with h2 | h2
            · exact h2
            · exfalso
              obtain ⟨i, i1, i2, i3⟩ := h1 (s.last t) (by have := ih.le t; omega)
              rcases Nat.lt_or_ge i k with h4 | h4
              · have := ih.all i t h4 hv.1 hv.2 i3; omega
              · omega
    · rw [if_neg hv]
      refine ⟨ih.at_, fun x => Nat.le_succ_of_le (ih.le x), fun i x hi h0 h1 hx => ?_, ih.in_, ih.most⟩
      rcases Nat.lt_or_ge i k with h | h
      · exact ih.all i x h h0 h1 hx
      · have : i = k := by omega
        subst this
        rw [hget] at hx; cases hx; exact absurd ⟨h0, h1⟩ hv

/-- The longest row without one: of all. -/
def LongIs (l : List Int) (n : Int) (r : Nat) : Prop := ∀ w, 1 ≤ w → (r < w ↔ FairP l n w)
theorem long_missing {l : List Int} {n : Int} {t : Int} (h0 : 0 ≤ t) (h1 : t < n) (h : (lsRun l n l.length).last t = 0) : LongIs l n l.length := by
  have inv := lsRun_inv l n l.length (Nat.le_refl _)
  intro w hw
  constructor
  · intro h x _ _ s hs; omega
  · intro hf
    rcases Nat.lt_or_ge l.length w with k | k
    · exact k
    · obtain ⟨i, i1, i2, i3⟩ := hf t h0 h1 0 (by omega)
      have := (List.getElem?_eq_some_iff.1 i3).1
      have := inv.all i t this h0 h1 i3
      omega
theorem long_all {l : List Int} {n : Int} {r : Nat} (hall : ∀ t, 0 ≤ t → t < n → (lsRun l n l.length).last t ≠ 0)
    (hr : ∀ w, 1 ≤ w → (r < w ↔ (lsRun l n l.length).most < w ∧ ∀ t, 0 ≤ t → t < n → l.length - (lsRun l n l.length).last t < w)) : LongIs l n r := by
  have inv := lsRun_inv l n l.length (Nat.le_refl _)
  intro w hw
  rw [hr w hw, inv.most w hw]
  constructor
  · rintro ⟨h1, h2⟩ t h0 h1' s hs
    have hl := inv.le t
    rcases Nat.lt_or_ge ((lsRun l n l.length).last t) (s + w) with h | h
    · rcases inv.at_ t with k | k
      · exact absurd k (hall t h0 h1')
      · have := h2 t h0 h1'
        have := hall t h0 h1'
        exact ⟨_, by omega, by omega, k⟩
    · exact h1 t h0 h1' s h
  · intro h
    refine ⟨fun t h0 h1 s hs => h t h0 h1 s (by have := inv.le t; omega), fun t h0 h1 => ?_⟩
    rcases Nat.lt_or_ge (l.length - (lsRun l n l.length).last t) w with k | k
    · exact k
    · exfalso
      have hl := inv.le t
      obtain ⟨i, i1, i2, i3⟩ := h t h0 h1 ((lsRun l n l.length).last t) (by omega)
      have := (List.getElem?_eq_some_iff.1 i3).1
      have := inv.all i t this h0 h1 i3
      omega
theorem LongIs.le {l : List Int} {n : Int} {r : Nat} (h : LongIs l n r) : r ≤ l.length := by
  have := (h (l.length + 1) (by omega)).2 (fun t _ _ s hs => by omega)
  omega

/-! ## turns -/
/-- The threads of a turn. -/
def turnI (n t : Int) : List Int := (List.range n.toNat).map fun (k : Nat) => (t % n + (if t % 2 = 0 then (k : Int) else n - k)) % n
def turnsI (n : Int) (l : List Int) : List Int := (if l = [] then [0] else l).flatMap (turnI n)
theorem turnI_length (n t : Int) : (turnI n t).length = n.toNat := by simp [turnI]
theorem turnI_get {n t : Int} {k : Nat} (h : k < n.toNat) : (turnI n t)[k]? = some ((t % n + (if t % 2 = 0 then (k : Int) else n - k)) % n) := by
  simp [turnI, h]
theorem turnI_in {n t x : Int} (h : x ∈ turnI n t) : 0 ≤ x ∧ x < n := by
  simp only [turnI, List.mem_map, List.mem_range] at h
  obtain ⟨k, hk, rfl⟩ := h
  have : 0 < n := by omega
  exact ⟨Int.emod_nonneg _ (by omega), Int.emod_lt_of_pos _ this⟩
theorem emod_small {x n : Int} (h0 : 0 ≤ x) (h : x < n) : x % n = x := Int.emod_eq_of_lt h0 h
theorem turnI_all {n t x : Int} (h0 : 0 ≤ x) (h : x < n) : ∃ k, k < n.toNat ∧ (turnI n t)[k]? = some x := by
  have hn : 0 < n := by omega
  have ha := Int.emod_nonneg t (show n ≠ 0 by omega)
  have hb := Int.emod_lt_of_pos t hn
  generalize ht : t % n = f at ha hb
  by_cases he : t % 2 = 0
  · by_cases hx : f ≤ x
    · refine ⟨(x - f).toNat, by omega, ?_⟩
      rw [turnI_get (by omega), if_pos he, ht, show f + ((x - f).toNat : Int) = x by omega, emod_small h0 h]
    · refine ⟨(x - f + n).toNat, by omega, ?_⟩
      rw [turnI_get (by omega), if_pos he, ht, show f + ((x - f + n).toNat : Int) = x + n by omega, Int.add_emod_right, emod_small h0 h]
  · by_cases hx : x ≤ f
    · refine ⟨(f - x).toNat, by omega, ?_⟩
      rw [turnI_get (by omega), if_neg he, ht, show f + (n - ((f - x).toNat : Int)) = x + n by omega, Int.add_emod_right, emod_small h0 h]
    · refine ⟨(f - x + n).toNat, by omega, ?_⟩
      rw [turnI_get (by omega), if_neg he, ht, show f + (n - ((f - x + n).toNat : Int)) = x by omega, emod_small h0 h]
/-! ## rows of turns -/
/-- Rounds: each holds all threads. -/
def Round (n : Int) (b : List Int) : Prop := b.length = n.toNat ∧ ∀ x, 0 ≤ x → x < n → x ∈ b
theorem turnI_round (n t : Int) : Round n (turnI n t) := ⟨turnI_length n t, fun x h0 h => by
  obtain ⟨k, _, hk⟩ := turnI_all (t := t) h0 h
  exact List.mem_of_getElem? hk⟩
theorem rounds_length {n : Int} : ∀ {bs : List (List Int)}, (∀ b ∈ bs, Round n b) → bs.flatten.length = bs.length * n.toNat
  | [], _ => by simp
  | b :: bs, h => by
    rw [List.flatten_cons, List.length_append, rounds_length (fun c hc => h c (List.mem_cons_of_mem _ hc)), (h b (List.mem_cons_self ..)).1, List.length_cons, Nat.add_mul, Nat.one_mul]
    omega
end Sx
end Go.Proofs.YtmcmdghmglopnaaGreatDoor

/-
  What the laws on turns ask, in plain Lean.
-/
namespace Go.Proofs.YtmcmdghmglopnaaGreatDoor
namespace Sx

/-- The rounds of turns. -/
def blocks (n : Int) (l : List Int) : List (List Int) := (if l = [] then [0] else l).map (turnI n)
theorem turnsI_blocks (n : Int) (l : List Int) : turnsI n l = (blocks n l).flatten := by unfold turnsI blocks; rw [List.flatMap_def]
theorem blocks_round (n : Int) (l : List Int) : ∀ b ∈ blocks n l, Round n b := by
  intro b hb
  obtain ⟨t, _, rfl⟩ := List.mem_map.1 hb
  exact turnI_round n t
def turnsLen (l : List Int) : Nat := max l.length 1
theorem blocks_length (n : Int) (l : List Int) : (blocks n l).length = turnsLen l := by
  unfold blocks turnsLen
  cases l with
  | nil => rfl
  | cons a l => simp
theorem turnsI_length (n : Int) (l : List Int) : (turnsI n l).length = turnsLen l * n.toNat := by rw [turnsI_blocks, rounds_length (blocks_round n l), blocks_length]
/-! ## how often each comes -/
def cnt (l : List Int) (x : Int) : Nat := l.count x
end Sx
end Go.Proofs.YtmcmdghmglopnaaGreatDoor

