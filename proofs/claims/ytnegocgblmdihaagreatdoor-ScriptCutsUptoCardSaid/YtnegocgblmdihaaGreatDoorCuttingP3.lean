/-
  A region whose order is drawn: the machine, in whatever order, does what was reckoned.
-/
import Derived.Test.YtnegocgblmdihaaGreatDoorCuttingP2
namespace Go.Proofs.YtnegocgblmdihaaGreatDoor
namespace Sx
open Go

section
variable {U : Uni} {P : Program} {τ : Tab}

structure Acc (s0 : RS U) (r0 : Nm) (s : RS U) (r : Nm) : Prop where
  le : r0.le r
  tl : ∀ i, i ∈ s0.tl → i ∈ s.tl
  kept : Kept s0.heap s.heap s.tl

theorem Inv.slot {ops : Array Oper} {fz : Bool} {nt : Nat} {β : Base} {r : Nm} {s : RS U} {L : Array Bool} {a : Act} {w : World} {fl : Fl} (h : Inv P τ ops fz nt β r s L a w fl) {i : Nat} {o : Oper} (ho : ops[i]? = some o)
    (hLi : L.getD i false = false) (hr : ∀ e ∈ o.after.toList, Region.binds .any e = true → L.getD e.on false = true) {t : Nat} (ht : t ∈ o.looksAt ops) (hti : o.dst ≠ some t ∨ i ∉ s.done) (hfl : ∀ f x, fl = some (f, x) → edgeOn o f = false) : rel r (envGet s.env t) (a.tmps.getD t undef) := by
  refine h.slots t (fun j p hp hj hLj e => ?_) (fun f x p hf hp e => ?_)
  rotate_left
  · obtain ⟨b, ob⟩ := x
    have k := h.flo f b ob hf
    obtain ⟨_, _, d, hd, hu⟩ := fl_dst k.fl hp
    rw [hd] at e; cases e
    have hif : i ≠ f := fun e => by have := k.yes; rw [← e, hLi] at this; cases this
    have := (hu i o ho hif).2 ht
    rw [hfl f _ hf] at this; cases this
  by_cases hji : j = i
  · subst hji; rw [ho] at hp; cases hp
    rcases hti with hti | hti
    · exact hti e
    · exact hti hj
  · have hlz : lazyB ops j p = true := by
      cases hh : lazyB ops j p with
      | true => rfl
      | false => have := h.eag j p hp hj hh; rw [this] at hLj; cases hLj
    obtain ⟨_, d, hd, huniq⟩ := lazy_dst hlz
    rw [hd] at e; cases e
    obtain ⟨ed, hed, hb, hon⟩ := edge_mem ((huniq i o ho (fun e => hji e.symm)).2 ht)
    have := hr ed hed hb
    rw [hon, hLj] at this; cases this

theorem getD_both {L : Array Bool} {i : Nat} (h : L.getD i true = false) : L.getD i false = false := by
  unfold Array.getD at h ⊢; split at h <;> simp_all

/-- Nothing but reading can look at its own slot ahead of its being told. -/
theorem lazy_own {ops : Array Oper} {i : Nat} {o : Oper} (ho : ops[i]? = some o) (hl : lazyB ops i o = true) (hself : ops.toList.zipIdx.all (fun q => match q.1.dst with | some d => !(looksB ops q.1 d) || !(lazyB ops q.2 q.1) | none => true) = true) {t : Nat} (ht : t ∈ o.looksAt ops) : o.dst ≠ some t := by
  intro e
  have := List.all_eq_true.1 hself (o, i) (mem_zipIdx.2 ho)
  simp only [e, hl] at this
  have h2 : looksB ops o t = true := elemN_iff.2 ht
  rw [h2] at this; simp at this

def regOk (nt : Nat) (ops : Array Oper) : Bool :=
  dstsOk nt ops && (ops.toList.zipIdx.all fun q => match q.1.dst with | some d => !(looksB ops q.1 d) || !(lazyB ops q.2 q.1) | none => true) &&
  (ops.toList.zipIdx.all fun q => q.1.after.toList.all fun e => !(Region.binds .any e) || Nat.blt e.on q.2)

theorem FlOk.step {ops : Array Oper} {fz : Bool} {β : Base} {done done' : List Nat} {env env' : List (Nat × AV)} {L : Array Bool} {a : Act} {f b : Nat} {ob : Obj} (k : FlOk P τ ops fz β done env L a f b ob) {i : Nat} {o : Oper} (ho : ops[i]? = some o) (hLi : L.getD i false = false) (hd : ∀ j, j ∈ done' → j = i ∨ j ∈ done) {z : Value}
    (henv : ∀ of, ops[f]? = some of → ∀ x ∈ of.op.operands.toList, evO env' x = evO env x)
    (hset : ∀ j, (L.setIfInBounds i true).getD j false = (if j = i then true else L.getD j false)) : FlOk P τ ops fz β done' env' (L.setIfInBounds i true) (a.put o.dst z) f b ob := by
  have hif : f ≠ i := fun e => by have := k.yes; rw [e, hLi] at this; cases this
  refine ⟨k.z, fun hm => (hd f hm).elim hif k.no, by rw [hset, if_neg hif]; exact k.yes, k.fl, k.free, ?_⟩
  obtain ⟨of, d, a0, w0, h1, h2, h3, h4, r0, h5⟩ := k.ex
  obtain ⟨_, _, d', hd', hu⟩ := fl_dst k.fl h1
  rw [h2] at hd'; cases hd'
  refine ⟨of, d, a0, w0, h1, h2, h3, ?_, r0, fun x hx => by rw [henv of h1 x hx]; exact h5 x hx⟩
  have hne : o.dst ≠ some d := (hu i o ho (fun e => hif e.symm)).1
  have : (a.put o.dst z).tmps.getD d undef = a.tmps.getD d undef := by
    cases hdst : o.dst with
    | none => rfl
    | some d2 =>
      rw [getD_put, if_neg]
      rintro ⟨e, _⟩
      exact hne (by rw [hdst, e])
  rw [this]; exact h4
theorem Inv.listed {ops : Array Oper} {fz : Bool} {nt : Nat} {β : Base} {r : Nm} {s : RS U} {L : Array Bool} {a : Act} {w : World} {fl : Fl} (h : Inv P τ ops fz nt β r s L a w fl) {i : Nat} {o : Oper} (ho : ops[i]? = some o)
    (hLi : L.getD i false = false) (hr : ∀ e ∈ o.after.toList, Region.binds .any e = true → L.getD e.on false = true) (hi : i ∈ s.done) {z : Value} (hz : ∀ d, o.dst = some d → rel r (envGet s.env d) z) (hd : dstsOk nt ops = true) :
    Inv P τ ops fz nt β r s (L.setIfInBounds i true) (a.put o.dst z) w fl := by
  have hlt : i < L.size := by rw [h.size]; exact (Array.getElem?_eq_some_iff.1 ho).1
  have hset : ∀ j, (L.setIfInBounds i true).getD j false = (if j = i then true else L.getD j false) := by
    intro j
    by_cases e : j = i
    · subst e; simp [Array.getD, hlt]
    · rw [getD_set_ne false (fun e' => e e'.symm), if_neg e]
  refine ⟨by simp [h.size], fun j hj => ?_, fun j p hp hj hl => ?_, fun j p hp hj e he hb => ?_, h.ddown, h.nodup, h.sat, h.fresh, fun t ht hft => ?_, fun j p hp hj hLj => ?_, by rw [put_size]; exact h.asize, by rw [put_defers]; exact h.defers, fun f b ob hf => (h.flo f b ob hf).step ho hLi (fun j hj => .inr hj) (fun _ _ _ _ => rfl) hset⟩
  · rw [hset] at hj; split at hj
    · rename_i e; rw [e]; exact .inl hi
    · exact h.sub j hj
  · rw [hset]; split
    · rfl
    · exact h.eag j p hp hj hl
  · rw [hset] at hj ⊢
    split
    · rfl
    · split at hj
      · rename_i e'; subst e'; rw [ho] at hp; cases hp; exact hr e he hb
      · exact h.down j p hp hj e he hb
  · cases hdst : o.dst with
    | none =>
      show rel r _ (a.tmps.getD t undef)
      refine h.slots t (fun j p hp hj hLj e => ?_) hft
      refine ht j p hp hj ?_ e
      rw [hset, if_neg (fun e' => ?_)]
      · exact hLj
      · subst e'; rw [ho] at hp; cases hp; rw [hdst] at e; cases e
    | some d =>
      rw [getD_put]
      by_cases htd : t = d
      · subst htd; rw [if_pos ⟨rfl, by rw [h.asize]; exact dstsOk_lt hd ho hdst⟩]; exact hz t hdst
      · rw [if_neg (fun e => htd e.1)]
        refine h.slots t (fun j p hp hj hLj e => ?_) hft
        refine ht j p hp hj ?_ e
        rw [hset, if_neg (fun e' => ?_)]
        · exact hLj
        · subst e'; rw [ho] at hp; cases hp; rw [hdst] at e; cases e; exact htd rfl
  · rw [hset] at hLj; split at hLj
    · cases hLj
    · exact h.pend j p hp hj hLj

/-- One that writes, and its step in the machine. -/
theorem Inv.eager {ops : Array Oper} {fz : Bool} {nt : Nat} {β : Base} {r r' : Nm} {s : RS U} {L : Array Bool} {a : Act} {w w' : World} {fl : Fl} (h : Inv P τ ops fz nt β r s L a w fl) (hlts : ∀ i o, ops[i]? = some o → ∀ e ∈ o.after.toList, Region.binds .any e = true → e.on < i) {i : Nat} {o : Oper} (ho : ops[i]? = some o)
    (hLi : L.getD i false = false) (hr : ∀ e ∈ o.after.toList, Region.binds .any e = true → L.getD e.on false = true) (hi : i ∉ s.done) (heag : eagerB ops i o = true) (hd : dstsOk nt ops = true)
    {v : AV} {z : Value} {h' : Heap U} {nx' : Nat} {T : List Nat} (g1 : r.le r') (g2 : Fresh r' nx') (g3 : rel r' v z) (g4 : Sat (baseFl β fl) r' h' w') (g5 : Kept s.heap h' T) (hst : stable ops i T s.rds = true) (hnf : ∀ e ∈ o.after.toList, Region.binds .any e = true → e.on ∈ s.done) :
    Inv P τ ops fz nt β r' { s with env := envPut s.env o.dst v, heap := h', nx := nx', tl := T ++ s.tl, done := i :: s.done } (L.setIfInBounds i true) (a.put o.dst z) w' fl := by
  have hlt : i < L.size := by rw [h.size]; exact (Array.getElem?_eq_some_iff.1 ho).1
  have hset : ∀ j, (L.setIfInBounds i true).getD j false = (if j = i then true else L.getD j false) := by
    intro j
    by_cases e : j = i
    · subst e; simp [Array.getD, hlt]
    · rw [getD_set_ne false (fun e' => e e'.symm), if_neg e]
  have hanc : ∀ j, ancB ops ops.size i j = true → L.getD j false = true := fun j hj => anc_listed h.down ops.size i j hj (fun o' ho' => by rw [ho] at ho'; cases ho'; exact hr)
  refine ⟨by simp [h.size], fun j hj => ?_, fun j p hp hj hl => ?_, fun j p hp hj e he hb => ?_, fun j p hp hj e he hb => ?_, ⟨List.nodup_cons.2 ⟨hi, h.nodup.1⟩, fun j hj => ?_⟩, g4, g2, fun t ht hft => ?_, fun j p hp hj hLj => ?_, by rw [put_size]; exact h.asize, by rw [put_defers]; exact h.defers, fun f b ob hf => (h.flo f b ob hf).step ho hLi (fun j hj => List.mem_cons.1 hj) (fun of hof => by
    subst hf
    exact h.flPut hlts ho hi (fun e => by have := (h.flo f b ob rfl).yes; rw [← e, hLi] at this; cases this) v hof) hset⟩
  · rw [hset] at hj; split at hj
    · rename_i e; rw [e]; exact .inl (List.mem_cons_self ..)
    · exact (h.sub j hj).imp (List.mem_cons_of_mem _) id
  · rw [hset]; split
    · rfl
    · rename_i hne
      rcases List.mem_cons.1 hj with e | hj
      · exact absurd e hne
      · exact h.eag j p hp hj hl
  · rw [hset] at hj ⊢
    split
    · rfl
    · split at hj
      · rename_i e'; subst e'; rw [ho] at hp; cases hp; exact hr e he hb
      · exact h.down j p hp hj e he hb
  · rcases List.mem_cons.1 hj with e' | hj
    · subst e'; rw [ho] at hp; cases hp; exact List.mem_cons_of_mem _ (hnf e he hb)
    · exact List.mem_cons_of_mem _ (h.ddown j p hp hj e he hb)
  · rcases List.mem_cons.1 hj with e' | hj
    · subst e'; exact (Array.getElem?_eq_some_iff.1 ho).1
    · exact h.nodup.2 j hj
  · show rel r' (envGet (envPut s.env o.dst v) t) _
    have hold : (o.dst ≠ some t) → rel r' (envGet s.env t) (a.tmps.getD t undef) := fun hne => rel_mono g1 _ _ (h.slots t (fun j p hp hj hLj e => by
      refine ht j p hp (List.mem_cons_of_mem _ hj) ?_ e
      have hji : j ≠ i := fun e' => hi (by rw [← e']; exact hj)
      rw [hset, if_neg hji]; exact hLj) hft)
    cases hdst : o.dst with
    | none => exact hold (by rw [hdst]; simp)
    | some d =>
      rw [envGet_put, getD_put]
      by_cases htd : t = d
      · subst htd; rw [if_pos rfl, if_pos ⟨rfl, by rw [h.asize]; exact dstsOk_lt hd ho hdst⟩]; exact g3
      · rw [if_neg htd, if_neg (fun e => htd e.1)]; exact hold (by rw [hdst]; intro e; cases e; exact htd rfl)
  · rw [hset] at hLj
    split at hLj
    · cases hLj
    · rename_i hne
      have hj' : j ∈ s.done := by
        rcases List.mem_cons.1 hj with e | hj
        · exact absurd e hne
        · exact hj
      have hlz : lazyB ops j p = true := by
        cases hh : lazyB ops j p with
        | true => rfl
        | false => have := h.eag j p hp hj' hh; rw [this] at hLj; cases hLj
      have hheap : ∀ id B, s.heap.get id = some B → (j, id) ∈ s.rds → h'.atLeast id B := by
        intro id B e hm
        refine g5 id B e (fun hT => ?_)
        have := List.all_eq_true.1 hst (j, id) hm
        simp only [elemN_iff.2 hT, Bool.not_true, Bool.or_false] at this
        rw [hanc j this] at hLj; cases hLj
      have hp0 := h.pend j p hp hj' hLj
      cases hdst : o.dst with
      | none => exact hp0.keepN rfl hheap (fun _ h => h)
      | some d =>
        refine hp0.keep (d := d) (v := v) rfl (fun hm => ?_) (fun e => ?_) hheap (fun _ h => h)
        · unfold eagerB at heag
          rw [hdst] at heag; simp only at heag
          have := List.all_eq_true.1 heag (p, j) (mem_zipIdx.2 hp)
          have h2 : looksB ops p d = true := elemN_iff.2 hm
          simp only [h2, Bool.not_true, Bool.or_false, Bool.or_eq_true] at this
          rcases this with (h3 | h3) | h3
          · exact hne (Nat.eq_of_beq_eq_true h3)
          · obtain ⟨e, he, hb, hon⟩ := edge_mem h3
            have := h.ddown j p hp hj' e he hb
            rw [hon] at this; exact hi this
          · rw [hanc j h3] at hLj; cases hLj
        · obtain ⟨_, d', hd', huniq⟩ := lazy_dst hlz
          rw [hd'] at e; cases e
          exact (huniq i o ho (fun e => hne e.symm)).1 hdst

theorem rdOf_some {h : Heap U} {rd : Option Nat} {id : Nat} {B : Blk U} (e : rdOf h rd = some (id, B)) : rd = some id ∧ h.get id = some B := by
  unfold rdOf at e
  split at e
  · split at e
    · rename_i hB; cases e; exact ⟨rfl, hB⟩
    · cases e
  · cases e

theorem regOk_lt {nt : Nat} {ops : Array Oper} (hok : regOk nt ops = true) : ∀ i o, ops[i]? = some o → ∀ e ∈ o.after.toList, Region.binds .any e = true → e.on < i := by
  simp only [regOk, Bool.and_eq_true] at hok
  obtain ⟨_, hlt⟩ := hok
  intro i o ho e he hb
  have := List.all_eq_true.1 hlt (o, i) (mem_zipIdx.2 ho)
  have := List.all_eq_true.1 this e he
  rw [hb] at this; simp only [Bool.not_true, Bool.false_or] at this
  exact Nat.le_of_ble_eq_true this
theorem den_more {G G' : Hp} {r : Nm} (hG : ∀ x o, G x = some o → G' x = some o) : ∀ {h : Heap U} {H : Hp}, h.den G r H → h.den G' r H
  | [], _, e => e
  | (id, B) :: h, H, ⟨H1, H2, a, b, c, d⟩ => by
    refine ⟨H1, H2, ?_, den_more hG b, c, d⟩
    cases B with
    | ro k xs =>
      obtain ⟨a1, a2⟩ := a
      exact ⟨fun i x e => let ⟨b, o, c, T, fz, k1, k2, k3⟩ := a1 i x e; ⟨b, o, c, T, fz, k1, hG _ _ k2, k3⟩, a2⟩
    | rpool f => exact ⟨fun b o d e => let ⟨c, T, fz, v, k1, k2⟩ := a.1 b o d e; ⟨c, T, fz, v, hG _ _ k1, k2⟩, a.2⟩
    | _ => exact a
theorem set_getD {ops : Array Oper} {L : Array Bool} (hs : L.size = ops.size) {i : Nat} {o : Oper} (ho : ops[i]? = some o) : ∀ j, (L.setIfInBounds i true).getD j false = (if j = i then true else L.getD j false) := by
  have hlt : i < L.size := by rw [hs]; exact (Array.getElem?_eq_some_iff.1 ho).1
  intro j
  by_cases e : j = i
  · subst e; simp [Array.getD, hlt]
  · rw [getD_set_ne false (fun e' => e e'.symm), if_neg e]
/-- What floats is done in the machine ahead. -/
theorem Inv.early (hτ : τ.met P) {κ : Kinds U} (hκ : κ.met τ) {ops : Array Oper} {fz : Bool} {nt : Nat} {β : Base} {r : Nm} {s : RS U} {L : Array Bool} {a : Act} {w : World} (h : Inv P τ ops fz nt β r s L a w none) {i : Nat} {o : Oper} (ho : ops[i]? = some o)
    (hLi : L.getD i false = false) (hr : ∀ e ∈ o.after.toList, Region.binds .any e = true → L.getD e.on false = true) (hi : i ∉ s.done) (hfl : firstFl τ ops ops.toList.zipIdx = some i) (hz : fz = true) (hd : dstsOk nt ops = true) (hok : mkOk τ κ o.op (evO s.env) = true) (hops : ∀ x ∈ o.op.operands.toList, rel r (evO s.env x) (a.eval x)) :
    ∃ z w' x, (execOp a.eval o).run P w = .ok (.value z) w' ∧ Inv P τ ops fz nt β r s (L.setIfInBounds i true) (a.put o.dst z) w' (some (i, x)) := by
  have hset := set_getD h.size ho
  obtain ⟨ha, hg, d, hdst, hu⟩ := fl_dst hfl ho
  obtain ⟨ob, z, hrun⟩ := alloc_run hτ hκ ha hok a w hops
  refine ⟨z, w.alloc ob, (w.heap.size, ob), hrun, by simp [h.size], fun j hj => ?_, fun j p hp hj hl => ?_, fun j p hp hj e he hb => ?_, h.ddown, h.nodup, ?_, h.fresh, fun t ht hft => ?_, fun j p hp hj hLj => ?_, by rw [put_size]; exact h.asize, by rw [put_defers]; exact h.defers, fun f b ob' hf => ?_⟩
  · rw [hset] at hj; split at hj
    · rename_i e; rw [e]; exact .inr ⟨_, rfl⟩
    · rcases h.sub j hj with k | ⟨_, k⟩
      · exact .inl k
      · cases k
  · rw [hset]; split
    · rfl
    · exact h.eag j p hp hj hl
  · rw [hset] at hj ⊢
    split
    · rfl
    · split at hj
      · rename_i e'; subst e'; rw [ho] at hp; cases hp; exact hr e he hb
      · exact h.down j p hp hj e he hb
  · obtain ⟨hm, H, k1, k2, k3⟩ := h.sat
    have hm : β.met w := hm
    have k2 : H.apart β.G := k2
    have hno : ∀ {A : Hp}, A.inW w → A w.heap.size = none := fun {A} hA => by
      cases e : A w.heap.size with
      | none => rfl
      | some o' => exact absurd (Hp.lt hA e) (Nat.lt_irrefl _)
    have hGb : β.G.apart (Hp.one w.heap.size ob) := Hp.apart_one.2 (hno hm.G)
    refine ⟨⟨hm.os, hm.output, hm.tape, (Hp.inW_join hGb).2 ⟨heap_old hm.G, Hp.inW_one.2 (heap_alloc_new w ob)⟩⟩, H, den_more (fun x o e => ?_) k1, Hp.apart_join.2 ⟨k2, Hp.apart_one.2 (hno k3)⟩, heap_old k3⟩
    show (match β.G x with | some o => some o | none => _) = _
    have e : β.G x = some o := e
    rw [e]
  · have htd : t ≠ d := fun e => hft i _ o rfl ho (by rw [hdst, e])
    rw [hdst, getD_put, if_neg (fun e => htd e.1)]
    refine h.slots t (fun j p hp hj hLj e => ?_) (fun f x o' e => by cases e)
    refine ht j p hp hj ?_ e
    rw [hset, if_neg (fun e' => hi (by rw [← e']; exact hj))]; exact hLj
  · rw [hset] at hLj; split at hLj
    · cases hLj
    · exact h.pend j p hp hj hLj
  · cases hf
    have hno : β.G w.heap.size = none := by
      obtain ⟨hm, _⟩ := h.sat
      have hm : β.met w := hm
      cases e : β.G w.heap.size with
      | none => rfl
      | some o' => exact absurd (Hp.lt hm.G e) (Nat.lt_irrefl _)
    refine ⟨hz, hi, by rw [hset, if_pos rfl], hfl, hno, o, d, a, w, ho, hdst, rfl, ?_, r, hops⟩
    have hdl : d < a.tmps.size := by rw [h.asize]; exact dstsOk_lt hd ho hdst
    rw [hdst, getD_put, if_pos ⟨rfl, hdl⟩]; exact hrun
/-- And is taken here at last. -/
theorem Inv.flush {ops : Array Oper} {fz : Bool} {nt : Nat} {β : Base} {r : Nm} {s : RS U} {L : Array Bool} {a : Act} {w : World} {f b : Nat} {ob : Obj} (h : Inv P τ ops fz nt β r s L a w (some (f, b, ob))) {o : Oper} (ho : ops[f]? = some o)
    (hready : ∀ e ∈ o.after.toList, Region.binds .any e = true → e.on ∈ s.done) {v : AV} {B : Blk U} {X : List Nat} (hB : FlDo P o.op (evO s.env) s.nx v B) (hn : s.heap.get s.nx = none ∨ s.nx ∈ X) (hst : stable ops f X s.rds = true) (hro : noRo s.heap = true) :
    Inv P τ ops fz nt β (r.put s.nx (b, 0)) { s with env := envPut s.env o.dst v, heap := (s.nx, B) :: s.heap, nx := s.nx + 1, tl := X ++ s.tl, done := f :: s.done } L a w none ∧ r.le (r.put s.nx (b, 0)) := by
  have k := h.flo f b ob rfl
  obtain ⟨o', d, a0, w0, h1, hdst, h3, h4, hex⟩ := k.ex
  rw [ho] at h1; cases h1
  obtain ⟨ob', z, g1, g2⟩ := hB a0 o w0 rfl hex
  rw [h4] at g1
  have e1 : a.tmps.getD d undef = z ∧ w0.alloc ob = w0.alloc ob' := by
    injection g1 with g2' g3'
    injection g2' with g2'
    exact ⟨g2', g3'⟩
  have e2 := alloc_inj e1.2
  subst e2
  have hnm : r s.nx = none := h.fresh s.nx (Nat.le_refl _)
  have hle : r.le (r.put s.nx (b, 0)) := Nm.le_put hnm
  obtain ⟨g3, g4⟩ := g2 (r.put s.nx (b, 0)) (by rw [h3]; exact Nm.put_self _ _ _)
  obtain ⟨_, _, d', hd', hu⟩ := fl_dst k.fl ho
  rw [hdst] at hd'; cases hd'
  have hfL : ∀ j, L.getD j false = false → j ≠ f := fun j hj e => by have := k.yes; rw [← e, hj] at this; cases this
  refine ⟨⟨h.size, fun j hj => ?_, fun j p hp hj hl => ?_, h.down, fun j p hp hj e he hb => ?_, ⟨List.nodup_cons.2 ⟨k.no, h.nodup.1⟩, fun j hj => ?_⟩, ?_, fun i hi => ?_, fun t ht _ => ?_, fun j p hp hj hLj => ?_, h.asize, h.defers, fun _ _ _ e => by cases e⟩, hle⟩
  · rcases h.sub j hj with k' | ⟨x, k'⟩
    · exact .inl (List.mem_cons_of_mem _ k')
    · cases k'; exact .inl (List.mem_cons_self ..)
  · rcases List.mem_cons.1 hj with e | hj
    · rw [e]; exact k.yes
    · exact h.eag j p hp hj hl
  · rcases List.mem_cons.1 hj with e' | hj
    · subst e'; rw [ho] at hp; cases hp; exact List.mem_cons_of_mem _ (hready e he hb)
    · exact List.mem_cons_of_mem _ (h.ddown j p hp hj e he hb)
  · rcases List.mem_cons.1 hj with e' | hj
    · subst e'; exact (Array.getElem?_eq_some_iff.1 ho).1
    · exact h.nodup.2 j hj
  · obtain ⟨hm, H, k1, k2, k3⟩ := h.sat
    have k2 := Hp.apart_join.1 k2
    have hG : β.G.apart (Hp.one b ob) := Hp.apart_one.2 k.free
    have hin := (Hp.inW_join hG).1 hm.G
    refine ⟨⟨hm.os, hm.output, hm.tape, hin.1⟩, (Hp.one b ob).join H, ⟨_, H, ?_, Heap.den_mono hle (den_noRo hro k1), k2.2.symm, rfl⟩, Hp.join_apart.2 ⟨hG.symm, k2.1⟩, (Hp.inW_join k2.2.symm).2 ⟨hin.2, k3⟩⟩
    have := g4 β.G
    rw [h3] at this; exact this
  · exact Nm.put_other (fun e => by have : s.nx + 1 ≤ i := hi; omega) (h.fresh i (by have : s.nx + 1 ≤ i := hi; omega))
  · show rel _ (envGet (envPut s.env o.dst v) t) _
    rw [hdst, envGet_put]
    by_cases htd : t = d
    · subst htd; rw [if_pos rfl, e1.1]; exact g3
    · rw [if_neg htd]
      refine rel_mono hle _ _ (h.slots t (fun j p hp hj hLj => ht j p hp (List.mem_cons_of_mem _ hj) hLj) (fun f' x o' e hof => ?_))
      cases e; rw [ho] at hof; cases hof; rw [hdst]; intro e; cases e; exact htd rfl
  · have hj' : j ∈ s.done := by
      rcases List.mem_cons.1 hj with e | hj
      · exact absurd e (hfL j hLj)
      · exact hj
    obtain ⟨u1, u2⟩ := hu j p hp (hfL j hLj)
    have hid : ∀ id C, s.heap.get id = some C → (j, id) ∈ s.rds → id ≠ s.nx := fun id C e hm => new_ne hn e (fun hX => by
      have := List.all_eq_true.1 hst (j, id) hm
      simp only [elemN_iff.2 hX, Bool.not_true, Bool.or_false] at this
      have := anc_listed h.down ops.size f j this (fun o' ho' e' he' hb' => h.down f o' ho' k.yes e' he' hb')
      rw [hLj] at this; cases this)
    refine (h.pend j p hp hj' hLj).keep (d := d) (v := v) (by show envPut s.env o.dst v = _; rw [hdst]) (fun hm => ?_) u1 (fun id C e hm => ⟨C, ?_, .inl rfl⟩) (fun _ h => h)
    · obtain ⟨e, he, hb, hon⟩ := edge_mem (u2 hm)
      have := h.ddown j p hp hj' e he hb
      rw [hon] at this; exact k.no this
    · show Heap.get ((s.nx, B) :: s.heap) id = _
      rw [Heap.get_cons_ne (hid id C e hm)]; exact e
theorem ready_done {done : List Nat} {o : Oper} (h : readyB done o = true) : ∀ e ∈ o.after.toList, Region.binds .any e = true → e.on ∈ done := by
  intro e he hb
  have := List.all_eq_true.1 h e he
  rw [hb] at this; simp at this
  exact elemN_iff.1 this
/-- The step of what floats, where it is taken. -/
theorem float_step (hτ : τ.met P) {κ : Kinds U} (hκ : κ.met τ) {M : Goal U} {C : CallF U} {ops : Array Oper} {fz : Bool} {n : Nat} {s : RS U} {K : RS U → Out U} {f : Nat} {o : Oper} (ho : ops[f]? = some o) (hfl : firstFl τ ops ops.toList.zipIdx = some f) (hz : fz = true)
    (H : (bif isFl τ ops f && fz && !(noRo s.heap) then (.bad 228 : Out U) else match want? ops s.env o with
        | .yes => bif eagerB ops f o then stepAny τ κ C o.op s.env s.heap s.nx (fun v h' nx' T _ => bif stable ops f T s.rds then explore τ κ C ops fz n { s with env := envPut s.env o.dst v, heap := h', nx := nx', tl := T ++ s.tl, done := f :: s.done } K else .bad 224) else .bad 225
        | .no => bif eagerB ops f o then explore τ κ C ops fz n { s with env := envPut s.env o.dst (.raw undef), done := f :: s.done } K else .bad 226
        | .ask d b => .ite b (explore τ κ C ops fz n { s with env := (d, .tt) :: s.env } K) (explore τ κ C ops fz n { s with env := (d, .ff) :: s.env } K)
        | .bad => .bad 227).holds M) :
    noRo s.heap = true ∧ ∃ v B X, (s.heap.get s.nx = none ∨ s.nx ∈ X) ∧ stable ops f X s.rds = true ∧ FlDo P o.op (evO s.env) s.nx v B ∧ (explore τ κ C ops fz n { s with env := envPut s.env o.dst v, heap := (s.nx, B) :: s.heap, nx := s.nx + 1, tl := X ++ s.tl, done := f :: s.done } K).holds M := by
  obtain ⟨ha, hg, _⟩ := fl_dst hfl ho
  have hw : want? ops s.env o = .yes := by unfold want?; rw [hg]
  have hif : isFl τ ops f = true := by unfold isFl; rw [hfl]; exact Nat.beq_refl f
  rw [hw, hz, hif, holds_bif] at H
  split at H
  · exact H.elim
  · rename_i hro
    have hro : noRo s.heap = true := by cases e : noRo s.heap with | true => rfl | false => rw [e] at hro; simp at hro
    simp only at H
    rw [holds_bif] at H
    split at H
    · unfold stepAny at H
      rw [alloc_lz ha] at H
      have H2 : (evalE τ κ o.op (evO s.env) s.heap s.nx (fun v h' T => bif stable ops f T s.rds then explore τ κ C ops true n { s with env := envPut s.env o.dst v, heap := h', nx := s.nx + 1, tl := T ++ s.tl, done := f :: s.done } K else .bad 224)).holds M := by
        rcases alloc_shape ha with ⟨T, R, e, _, _⟩ | ⟨T, e⟩ | ⟨T, l, c, e', s', R, e, _⟩
        · rw [e] at H ⊢; exact H
        · rw [e] at H ⊢; exact H
        · rw [e] at H ⊢; exact H
      obtain ⟨v, B, X, hK, hn, hB⟩ := float_eval hτ hκ ha H2
      rw [holds_bif] at hK
      split at hK
      · rename_i hst
        exact ⟨hro, v, B, X, hn, hst, hB, by rw [hz]; exact hK⟩
      · exact hK.elim
    · exact H.elim
theorem readyAll_mem {ops : Array Oper} {done : List Nat} {o : Oper} {i : Nat} (ho : ops[i]? = some o) (hn : i ∉ done) (hr : readyB done o = true) : (o, i) ∈ readyAll done ops.toList.zipIdx := by
  refine List.mem_filter.2 ⟨mem_zipIdx.2 ho, ?_⟩
  have : elemN done i = false := by cases e : elemN done i with | true => exact absurd (elemN_iff.1 e) hn | false => rfl
  simp [this, hr]
theorem readyAll_out {ops : Array Oper} {done : List Nat} {q : Oper × Nat} (h : q ∈ readyAll done ops.toList.zipIdx) : ops[q.2]? = some q.1 ∧ q.2 ∉ done ∧ readyB done q.1 = true := by
  obtain ⟨h1, h2⟩ := List.mem_filter.1 h
  simp only [Bool.and_eq_true, Bool.not_eq_true'] at h2
  exact ⟨mem_zipIdx.1 h1, fun hm => by rw [elemN_iff.2 hm] at h2; simp at h2, h2.2⟩
theorem readyB_of {done : List Nat} {o : Oper} (h : ∀ e ∈ o.after.toList, Region.binds .any e = true → e.on ∈ done) : readyB done o = true := by
  unfold readyB
  refine List.all_eq_true.2 (fun e he => ?_)
  cases hb : Region.binds .any e with
  | false => simp
  | true => simp [elemN_iff.2 (h e he hb)]
theorem region_step (hτ : τ.met P) {κ : Kinds U} (hκ : κ.met τ) {M : Goal U} {C : CallF U} (hC : C.ok P M) {ops : Array Oper} {fz : Bool} {nt : Nat} (hok : regOk nt ops = true) {Q : Exit → Act → World → Prop} {K : RS U → Out U} {β : Base} {r0 : Nm} {s0 : RS U} {L : Array Bool} {a : Act} {w : World} {i : Nat} (hi : i ∈ Region.ready .any ops L) :
    ∀ (n : Nat) (s : RS U) (r : Nm) (fl : Fl), (explore τ κ C ops fz n s K).holds M → Inv P τ ops fz nt β r s L a w fl → Acc s0 r0 s r →
      wpOp P ops Q i (fun a' w' => ∃ n' s' r' fl', (explore τ κ C ops fz n' s' K).holds M ∧ Inv P τ ops fz nt β r' s' (L.setIfInBounds i true) a' w' fl' ∧ Acc s0 r0 s' r') a w := by
  have hlt := regOk_lt hok
  simp only [regOk, Bool.and_eq_true] at hok
  obtain ⟨⟨hd, hself⟩, _⟩ := hok
  obtain ⟨hL0, o, ho, hrd⟩ := mem_ready.1 hi
  have hLi := getD_both hL0
  have hr : ∀ e ∈ o.after.toList, Region.binds .any e = true → L.getD e.on false = true := fun e he hb => hrd e (by simpa using he) hb
  intro n
  induction n with
  | zero => intro s r fl H; exact H.elim
  | succ n ih =>
    intro s r fl H hI hA
    by_cases hdone : i ∈ s.done
    · -- it was reckoned ahead
      have hlz : lazyB ops i o = true := by
        cases hh : lazyB ops i o with
        | true => rfl
        | false => have := hI.eag i o ho hdone hh; rw [this] at hLi; cases hLi
      have hnf : ∀ f x, fl = some (f, x) → edgeOn o f = false := fun f x hf => by
        cases e : edgeOn o f with
        | false => rfl
        | true =>
          obtain ⟨ed, he, hb, hon⟩ := edge_mem e
          have := hI.ddown i o ho hdone ed he hb
          rw [hon] at this
          exact absurd this (hI.flo f x.1 x.2 hf).no
      have hslot : ∀ t, t ∈ o.looksAt ops → rel r (envGet s.env t) (a.tmps.getD t undef) := fun t ht => hI.slot ho hLi hr ht (.inl (lazy_own ho hlz hself ht)) hnf
      have hops : ∀ x ∈ o.op.operands.toList, rel r (evO s.env x) (a.eval x) := by
        intro x hx
        cases x with
        | tmp t => exact hslot t (looks_tmp hx)
        | const v => exact rel_constAV r v
        | global g => rfl
        | func f => exact ⟨[], [], relL_nil, relL_nil, rfl⟩
      have hwant := want?_sound (ops := ops) (env := s.env) (o := o) (r := r) (a := a) (fun j wt d hg hjd => ⟨hslot d (looks_guard hg hjd), by
        cases hoj : ops[j]? with
        | none => rw [hoj] at hjd; simp at hjd
        | some p => rw [hoj] at hjd; simp at hjd; rw [hI.asize]; exact dstsOk_lt hd hoj hjd⟩)
      unfold wpOp; rw [ho]; simp only
      rcases hI.pend i o ho hdone hLi with ⟨h1, v, rd, h2, h3, h4⟩ | ⟨h1, h2⟩
      · rw [hwant.1 h1, if_pos rfl]
        left
        obtain ⟨z, hz, hrz⟩ := h3 (baseFl β fl) r a w hops (fun id B e => hI.sat.atLe (h2 id B e).1)
        unfold Oper.wp; rw [hz, Oper.upon_value]
        exact ⟨n + 1, s, r, fl, H, hI.listed ho hLi hr hdone (fun d e => h4 d e r z hrz) hd, hA⟩
      · rw [hwant.2 h1, if_neg (by simp)]
        exact ⟨n + 1, s, r, fl, H, hI.listed ho hLi hr hdone (fun d e => by rw [h2 d e]; rfl) hd, hA⟩
    · unfold explore at H
      split at H
      · -- another one, or this one, is reckoned ahead
        rename_i o' i' hfl
        obtain ⟨hm, hn', hready, hlz⟩ := firstLazy_some hfl
        have ho' := mem_zipIdx.1 hm
        split at H
        · rename_i hw
          obtain ⟨v, rd, hK, hLz, hrdne⟩ := evalL_sound (dst := o'.dst) (type := o'.type) (pos := o'.pos) (after := o'.after) (guard := o'.guard) hτ hκ H
          obtain ⟨_, d, hdst, huniq⟩ := lazy_dst hlz
          refine ih _ r fl hK (hI.ahead hlt ho' hn' hready hlz (v := v) (rds := putRd i' rd s.rds) (fun q hq => by unfold putRd; split <;> simp [hq]) ?_) ⟨hA.le, hA.tl, hA.kept⟩
          have hnl : d ∉ o'.looksAt ops := fun hh => lazy_own ho' hlz hself hh hdst
          refine .inl ⟨?_, v, rdOf s.heap rd, fun id B e => ?_, ?_, fun d' e r z hz => ?_⟩
          · show want? ops (envPut s.env o'.dst v) o' = _; rw [hdst, want_put hnl]; exact hw
          · obtain ⟨e1, e2⟩ := rdOf_some e; exact ⟨⟨_, e2, .inl rfl⟩, by subst e1; exact List.mem_cons_self ..⟩
          · refine Lz.weaken hLz (fun x hx r z hz => ?_)
            have : evO (envPut s.env o'.dst v) x = evO s.env x := by rw [hdst]; exact evO_put (fun e => hnl (looks_tmp (e ▸ hx)))
            rw [this] at hz; exact hz
          · show rel r (envGet (envPut s.env o'.dst v) d') z
            rw [e, envGet_put, if_pos rfl]; exact hz
        · rename_i hw
          obtain ⟨_, d, hdst, huniq⟩ := lazy_dst hlz
          have hnl : d ∉ o'.looksAt ops := fun hh => lazy_own ho' hlz hself hh hdst
          refine ih _ r fl H (hI.ahead hlt ho' hn' hready hlz (v := .raw undef) (rds := s.rds) (fun q hq => hq) ?_) ⟨hA.le, hA.tl, hA.kept⟩
          refine .inr ⟨?_, fun d' e => ?_⟩
          · show want? ops (envPut s.env o'.dst _) o' = _; rw [hdst, want_put hnl]; exact hw
          · show envGet (envPut s.env o'.dst _) d' = _; rw [e, envGet_put, if_pos rfl]
        · rename_i d b hw
          obtain ⟨hb, _⟩ := want_ask hw
          cases hbb : b with
          | true => exact ih _ r fl (H.1 hbb) (hI.setEnv hb (x := .tt) (fun r z => by simp [rel, hbb])) ⟨hA.le, hA.tl, hA.kept⟩
          | false => exact ih _ r fl (H.2 hbb) (hI.setEnv hb (x := .ff) (fun r z => by simp [rel, hbb])) ⟨hA.le, hA.tl, hA.kept⟩
        · exact H.elim
      · rename_i hfl
        -- the step, where it is one of those that are taken next
        have step : (o, i) ∈ hold τ κ ops fz s.env (readyAll s.done ops.toList.zipIdx) → (∀ f x, fl = some (f, x) → edgeOn o f = false) → (bothAll ((hold τ κ ops fz s.env (readyAll s.done ops.toList.zipIdx)).map fun q => (bif isFl τ ops q.2 && fz && !(noRo s.heap) then (.bad 228 : Out U) else match want? ops s.env q.1 with
            | .yes => bif eagerB ops q.2 q.1 then stepAny τ κ C q.1.op s.env s.heap s.nx (fun v h' nx' T _ => bif stable ops q.2 T s.rds then explore τ κ C ops fz n { s with env := envPut s.env q.1.dst v, heap := h', nx := nx', tl := T ++ s.tl, done := q.2 :: s.done } K else .bad 224) else .bad 225
            | .no => bif eagerB ops q.2 q.1 then explore τ κ C ops fz n { s with env := envPut s.env q.1.dst (.raw undef), done := q.2 :: s.done } K else .bad 226
            | .ask d b => .ite b (explore τ κ C ops fz n { s with env := (d, .tt) :: s.env } K) (explore τ κ C ops fz n { s with env := (d, .ff) :: s.env } K)
            | .bad => .bad 227))).holds M →
            wpOp P ops Q i (fun a' w' => ∃ n' s' r' fl', (explore τ κ C ops fz n' s' K).holds M ∧ Inv P τ ops fz nt β r' s' (L.setIfInBounds i true) a' w' fl' ∧ Acc s0 r0 s' r') a w := by
          intro hmem hnf H
          have hrd0 := ready_done (readyAll_out (hold_sub hmem)).2.2
          have hslot : ∀ t, t ∈ o.looksAt ops → rel r (envGet s.env t) (a.tmps.getD t undef) := fun t ht => hI.slot ho hLi hr ht (.inr hdone) hnf
          have hops : ∀ x ∈ o.op.operands.toList, rel r (evO s.env x) (a.eval x) := by
            intro x hx
            cases x with
            | tmp t => exact hslot t (looks_tmp hx)
            | const v => exact rel_constAV r v
            | global g => rfl
            | func f => exact ⟨[], [], relL_nil, relL_nil, rfl⟩
          have hwant := want?_sound (ops := ops) (env := s.env) (o := o) (r := r) (a := a) (fun j wt d hg hjd => ⟨hslot d (looks_guard hg hjd), by
            cases hoj : ops[j]? with
            | none => rw [hoj] at hjd; simp at hjd
            | some p => rw [hoj] at hjd; simp at hjd; rw [hI.asize]; exact dstsOk_lt hd hoj hjd⟩)
          have H := bothAll_holds H (List.mem_map.2 ⟨(o, i), hmem, rfl⟩)
          simp only at H
          rw [holds_bif] at H
          split at H
          · exact H.elim
          split at H
          · rename_i hw
            rw [holds_bif] at H
            split at H
            · rename_i heag
              unfold wpOp; rw [ho]; simp only
              rw [hwant.1 hw, if_pos rfl]
              left
              have hop := stepAny_sound hτ hκ hC H
              refine hop (baseFl β fl) r a w hops hI.sat hI.fresh _ _ ?_
              rintro v h' nx' T z w' r' ⟨_, hK⟩ g1 g2 g3 g4 g5
              rw [holds_bif] at hK
              split at hK
              · rename_i hst
                exact ⟨n, _, r', fl, hK, hI.eager hlt ho hLi hr hdone heag hd g1 g2 g3 g4 g5 hst hrd0, hA.le.trans g1, fun j hj => List.mem_append.2 (.inr (hA.tl j hj)),
                  hA.kept.comp g5 (fun i hi => List.mem_append.2 (.inr hi)) (fun i hi => List.mem_append.2 (.inl hi))⟩
              · exact hK.elim
            · exact H.elim
          · rename_i hw
            rw [holds_bif] at H
            split at H
            · rename_i heag
              unfold wpOp; rw [ho]; simp only
              rw [hwant.2 hw, if_neg (by simp)]
              have := hI.eager hlt (v := .raw undef) (z := undef) (h' := s.heap) (nx' := s.nx) (T := []) ho hLi hr hdone heag hd (Nm.le.refl r) hI.fresh rfl hI.sat (Kept.refl _ _) (by unfold stable; refine List.all_eq_true.2 (fun q _ => by simp [elemN])) hrd0
              exact ⟨n, _, r, fl, H, this, hA.le, hA.tl, hA.kept⟩
            · exact H.elim
          · rename_i d b hw
            obtain ⟨hb, _⟩ := want_ask hw
            cases hbb : b with
            | true => exact ih _ r fl (H.1 hbb) (hI.setEnv hb (x := .tt) (fun r z => by simp [rel, hbb])) ⟨hA.le, hA.tl, hA.kept⟩
            | false => exact ih _ r fl (H.2 hbb) (hI.setEnv hb (x := .ff) (fun r z => by simp [rel, hbb])) ⟨hA.le, hA.tl, hA.kept⟩
          · exact H.elim
        cases fl with
        | none =>
          have hpre : ∀ e ∈ o.after.toList, Region.binds .any e = true → e.on ∈ s.done := fun e he hb => by
            rcases hI.sub _ (hr e he hb) with k | ⟨_, k⟩
            · exact k
            · cases k
          have hmem := readyAll_mem ho hdone (readyB_of hpre)
          split at H
          · rename_i hnil; have := hold_nil hnil; rw [this] at hmem; cases hmem
          · rcases hold_mem (τ := τ) (κ := κ) (fz := fz) (env := s.env) hmem ho with hm | ⟨hz, hf, hmk⟩
            · exact step hm (fun f x e => by cases e) H
            · -- it floats: the machine does it ahead
              rename_i hne
              have hops : ∀ x ∈ o.op.operands.toList, rel r (evO s.env x) (a.eval x) := by
                intro x hx
                cases x with
                | tmp t => exact hI.slot ho hLi hr (looks_tmp hx) (.inr hdone) (fun f x e => by cases e)
                | const v => exact rel_constAV r v
                | global g => rfl
                | func f => exact ⟨[], [], relL_nil, relL_nil, rfl⟩
              obtain ⟨z, w', x, hrun, hI'⟩ := hI.early hτ hκ ho hLi hr hdone hf hz hd hmk hops
              have hg := (fl_dst hf ho).2.1
              have hwt : Region.wanted o (yielded ops a.tmps) = true := by unfold Region.wanted; rw [hg]
              unfold wpOp; rw [ho]; simp only
              rw [hwt, if_pos rfl]
              left
              unfold Oper.wp; rw [hrun, Oper.upon_value]
              refine ⟨n + 1, s, r, some (i, x), ?_, hI', hA⟩
              unfold explore
              rw [hfl]
              revert hne H
              cases hold τ κ ops fz s.env (readyAll s.done ops.toList.zipIdx) with
              | nil => intro hne H; exact absurd rfl hne
              | cons q l => intro hne H; exact H
        | some y =>
          obtain ⟨f, b, ob⟩ := y
          have k := hI.flo f b ob rfl
          obtain ⟨of, _, _, _, hof, _⟩ := k.ex
          have hfr := hI.flReady hlt hof
          have hfm := readyAll_mem hof k.no (readyB_of hfr)
          split at H
          · rename_i hnil; have := hold_nil hnil; rw [this] at hfm; cases hfm
          · rename_i hne
            rcases Classical.em ((of, f) ∈ hold τ κ ops fz s.env (readyAll s.done ops.toList.zipIdx)) with hin | hout
            · have H := bothAll_holds H (List.mem_map.2 ⟨(of, f), hin, rfl⟩)
              obtain ⟨hro, v, B, X, hn, hst, hB, hK⟩ := float_step hτ hκ hof k.fl k.z H
              obtain ⟨hI', hle⟩ := hI.flush hof hfr hB hn hst hro
              refine ih _ _ none hK hI' ⟨hA.le.trans hle, fun j hj => List.mem_append.2 (.inr (hA.tl j hj)), hA.kept.comp (fun id C e hX => ⟨C, ?_, .inl rfl⟩) (T' := X) (fun i hi => List.mem_append.2 (.inr hi)) (fun i hi => List.mem_append.2 (.inl hi))⟩
              show Heap.get ((s.nx, B) :: s.heap) id = _
              rw [Heap.get_cons_ne (new_ne hn e hX)]; exact e
            · have hnf : edgeOn o f = false := by
                cases he : edgeOn o f with
                | false => rfl
                | true =>
                  exfalso
                  cases hh : hold τ κ ops fz s.env (readyAll s.done ops.toList.zipIdx) with
                  | nil => exact hne hh
                  | cons q l =>
                    have hq : q ∈ hold τ κ ops fz s.env (readyAll s.done ops.toList.zipIdx) := by rw [hh]; exact List.mem_cons_self ..
                    obtain ⟨q1, q2, q3⟩ := readyAll_out (hold_sub hq)
                    have hqf : q.2 ≠ f := fun e => hout (by
                      have : q = (of, f) := by
                        obtain ⟨qo, qi⟩ := q
                        simp only at e q1; subst e; rw [hof] at q1; cases q1; rfl
                      rw [← this]; exact hq)
                    have hql := firstLazy_none hfl q.1 q.2 (mem_zipIdx.2 q1) q2 q3
                    have hqa : ancB ops ops.size q.2 f = false := by
                      cases e : ancB ops ops.size q.2 f with
                      | false => rfl
                      | true => exact absurd (anc_done hI.ddown ops.size q.2 f e (fun o' ho' => by rw [q1] at ho'; cases ho'; exact ready_done q3)) k.no
                    have hia : ancB ops ops.size i f = true := by
                      have hsz : 0 < ops.size := by have := (Array.getElem?_eq_some_iff.1 ho).1; omega
                      obtain ⟨m, hm⟩ : ∃ m, ops.size = m + 1 := ⟨ops.size - 1, by omega⟩
                      rw [hm]; unfold ancB; rw [ho]; simp only [he, Bool.true_or]
                    have h5 := fl_anc k.fl ho hia q1 hqf hql hqa
                    have h6 := anc_listed hI.down ops.size i q.2 h5 (fun o' ho' => by rw [ho] at ho'; cases ho'; exact hr)
                    rcases hI.sub _ h6 with h7 | ⟨_, h7⟩
                    · exact q2 h7
                    · cases h7; exact hqf rfl
              have hpre : ∀ e ∈ o.after.toList, Region.binds .any e = true → e.on ∈ s.done := fun e he hb => by
                rcases hI.sub _ (hr e he hb) with h7 | ⟨_, h7⟩
                · exact h7
                · exfalso
                  cases h7
                  have : edgeOn o e.on = true := by
                    unfold edgeOn
                    exact List.any_eq_true.2 ⟨e, he, by simp [hb]⟩
                  rw [this] at hnf; cases hnf
              have hmem := readyAll_mem ho hdone (readyB_of hpre)
              rcases hold_mem (τ := τ) (κ := κ) (fz := fz) (env := s.env) hmem ho with hm | ⟨_, hf, _⟩
              · exact step hm (fun f' x e => by cases e; exact hnf) H
              · exfalso
                rw [k.fl] at hf; cases hf
                rw [k.yes] at hLi; cases hLi

theorem region_end (hτ : τ.met P) {κ : Kinds U} (hκ : κ.met τ) {M : Goal U} {C : CallF U} {ops : Array Oper} {fz : Bool} {nt : Nat} (hlt : ∀ i o, ops[i]? = some o → ∀ e ∈ o.after.toList, Region.binds .any e = true → e.on < i) {K : RS U → Out U} {β : Base} {r0 : Nm} {s0 : RS U} {L : Array Bool} {a : Act} {w : World} (hall : ∀ i, i < ops.size → L.getD i false = true) :
    ∀ (n : Nat) (s : RS U) (r : Nm) (fl : Fl), (explore τ κ C ops fz n s K).holds M → Inv P τ ops fz nt β r s L a w fl → Acc s0 r0 s r → ∃ s' r', (K s').holds M ∧ Inv P τ ops fz nt β r' s' L a w none ∧ Acc s0 r0 s' r' := by
  intro n
  induction n with
  | zero => intro s r fl H; exact H.elim
  | succ n ih =>
    intro s r fl H hI hA
    have hdn : ∀ i o, ops[i]? = some o → i ∉ s.done → ∃ x, fl = some (i, x) := fun i o ho hn => (hI.sub i (hall i (Array.getElem?_eq_some_iff.1 ho).1)).resolve_left hn
    unfold explore at H
    split at H
    · rename_i o i hfl
      obtain ⟨hm, hn, _, hl⟩ := firstLazy_some hfl
      obtain ⟨x, hx⟩ := hdn i o (mem_zipIdx.1 hm) hn
      have := fl_lazy (hI.flo i x.1 x.2 hx).fl (mem_zipIdx.1 hm)
      rw [this] at hl; cases hl
    · cases fl with
      | none =>
        split at H
        · rw [holds_bif] at H
          split at H
          · exact ⟨s, r, H, hI, hA⟩
          · exact H.elim
        · rename_i es hes
          exfalso
          cases hre : hold τ κ ops fz s.env (readyAll s.done ops.toList.zipIdx) with
          | nil => exact hes hre
          | cons q l =>
            have hq : q ∈ hold τ κ ops fz s.env (readyAll s.done ops.toList.zipIdx) := by rw [hre]; simp
            obtain ⟨q1, q2, _⟩ := readyAll_out (hold_sub hq)
            obtain ⟨x, hx⟩ := hdn q.2 q.1 q1 q2
            cases hx
      | some y =>
        obtain ⟨f, b, ob⟩ := y
        have k := hI.flo f b ob rfl
        obtain ⟨of, _, _, _, hof, _⟩ := k.ex
        have hfr := hI.flReady hlt hof
        have hfm := readyAll_mem hof k.no (readyB_of hfr)
        split at H
        · rename_i hnil; have := hold_nil hnil; rw [this] at hfm; cases hfm
        · rename_i hne
          have hin : (of, f) ∈ hold τ κ ops fz s.env (readyAll s.done ops.toList.zipIdx) := by
            cases hh : hold τ κ ops fz s.env (readyAll s.done ops.toList.zipIdx) with
            | nil => exact absurd hh hne
            | cons q l =>
              have hq : q ∈ hold τ κ ops fz s.env (readyAll s.done ops.toList.zipIdx) := by rw [hh]; exact List.mem_cons_self ..
              obtain ⟨q1, q2, _⟩ := readyAll_out (hold_sub hq)
              obtain ⟨x, hx⟩ := hdn q.2 q.1 q1 q2
              have : q = (of, f) := by
                obtain ⟨qo, qi⟩ := q
                cases hx
                simp only at q1; rw [hof] at q1; cases q1; rfl
              rw [← hh, ← this]; exact hq
          have H := bothAll_holds H (List.mem_map.2 ⟨(of, f), hin, rfl⟩)
          obtain ⟨hro, v, B, X, hn, hst, hB, hK⟩ := float_step hτ hκ hof k.fl k.z H
          obtain ⟨hI', hle⟩ := hI.flush hof hfr hB hn hst hro
          refine ih _ _ none hK hI' ⟨hA.le.trans hle, fun j hj => List.mem_append.2 (.inr (hA.tl j hj)), hA.kept.comp (fun id C e hX => ⟨C, ?_, .inl rfl⟩) (T' := X) (fun i hi => List.mem_append.2 (.inr hi)) (fun i hi => List.mem_append.2 (.inl hi))⟩
          show Heap.get ((s.nx, B) :: s.heap) id = _
          rw [Heap.get_cons_ne (new_ne hn e hX)]; exact e

theorem ready_nil {ops : Array Oper} {nt : Nat} (hok : regOk nt ops = true) {L : Array Bool} (hsz : L.size = ops.size) (h : Region.ready .any ops L = []) : ∀ i, i < ops.size → L.getD i false = true := by
  simp only [regOk, Bool.and_eq_true] at hok
  obtain ⟨_, hlt⟩ := hok
  intro i
  induction i using Nat.strongRecOn with
  | _ i ih =>
    intro hi
    cases hL : L.getD i false with
    | true => rfl
    | false =>
      exfalso
      have hmem : i ∈ Region.ready .any ops L := by
        refine mem_ready.2 ⟨?_, ops[i], Array.getElem?_eq_getElem hi, fun e he hb => ?_⟩
        · have : i < L.size := by omega
          simp [Array.getD, this] at hL ⊢; exact hL
        · have := List.all_eq_true.1 hlt (ops[i], i) (mem_zipIdx.2 (Array.getElem?_eq_getElem hi))
          have := List.all_eq_true.1 this e (by simpa using he)
          rw [hb] at this; simp only [Bool.not_true, Bool.false_or] at this
          have hlt' : e.on < i := Nat.le_of_ble_eq_true this
          exact ih e.on hlt' (by omega)
      rw [h] at hmem; simp at hmem

theorem region_run (hτ : τ.met P) {κ : Kinds U} (hκ : κ.met τ) {M : Goal U} {C : CallF U} (hC : C.ok P M) {ops : Array Oper} {fz : Bool} {nt : Nat} (hok : regOk nt ops = true) {Q : Exit → Act → World → Prop} {K : RS U → Out U} {β : Base} {r0 : Nm} {s0 : RS U}
    (hQ : ∀ s r a w, (K s).holds M → r0.le r → Acc s0 r0 s r → Sat β r s.heap w → Fresh r s.nx → EnvOk r s.env a → a.tmps.size = nt → a.defers = [] → Q .normal a w) :
    ∀ (fuel : Nat) (n : Nat) (s : RS U) (r : Nm) (fl : Fl) (L : Array Bool) (a : Act) (w : World), (explore τ κ C ops fz n s K).holds M → Inv P τ ops fz nt β r s L a w fl → Acc s0 r0 s r →
      (L.toList.countP (fun b => !b)) ≤ fuel → wpAny P .any ops Q fuel L a w := by
  have fin : ∀ (n : Nat) (s : RS U) (r : Nm) (fl : Fl) (L : Array Bool) (a : Act) (w : World), (explore τ κ C ops fz n s K).holds M → Inv P τ ops fz nt β r s L a w fl → Acc s0 r0 s r → Region.ready .any ops L = [] → Q .normal a w := by
    intro n s r fl L a w H hI hA hnil
    have hall := ready_nil hok hI.size hnil
    obtain ⟨s', r', hK, hI', hA'⟩ := region_end hτ hκ (regOk_lt hok) hall n s r fl H hI hA
    refine hQ s' r' a w hK hA'.le hA' hI'.sat hI'.fresh (fun t => hI'.slots t (fun i o ho _ hL => ?_) (fun _ _ _ e => by cases e)) hI'.asize hI'.defers
    rw [hall i (Array.getElem?_eq_some_iff.1 ho).1] at hL; cases hL
  intro fuel
  induction fuel with
  | zero =>
    intro n s r fl L a w H hI hA hc
    have hnil : Region.ready .any ops L = [] := by
      cases hre : Region.ready .any ops L with
      | nil => rfl
      | cons i l =>
        have hi : i ∈ Region.ready .any ops L := by rw [hre]; simp
        obtain ⟨h0, o, ho, _⟩ := mem_ready.1 hi
        have hlt : i < L.size := by rw [hI.size]; exact (Array.getElem?_eq_some_iff.1 ho).1
        have : 0 < L.toList.countP (fun b => !b) := by
          rw [List.countP_pos_iff]
          refine ⟨L[i], by simp, ?_⟩
          simp [Array.getD, hlt] at h0; simp [h0]
        omega
    exact ⟨hnil, fin n s r fl L a w H hI hA hnil⟩
  | succ fuel ih =>
    intro n s r fl L a w H hI hA hc
    refine ⟨fin n s r fl L a w H hI hA, fun i hi => ?_⟩
    refine wpOp_mono ?_ (region_step hτ hκ hC hok hi n s r fl H hI hA)
    rintro a' w' ⟨n', s', r', fl', H', hI', hA'⟩
    refine ih n' s' r' fl' _ a' w' H' hI' hA' ?_
    obtain ⟨h0, o, ho, _⟩ := mem_ready.1 hi
    have hlt : i < L.size := by rw [hI.size]; exact (Array.getElem?_eq_some_iff.1 ho).1
    have hLi : L[i] = false := by simpa [Array.getD, hlt] using h0
    have : (L.setIfInBounds i true).toList.countP (fun b => !b) + 1 = L.toList.countP (fun b => !b) := by
      have h1 : 0 < L.toList.countP (fun b => !b) := by
        rw [List.countP_pos_iff]; exact ⟨L[i], by simp, by simp [hLi]⟩
      rw [Array.toList_setIfInBounds, List.countP_set (by simpa using hlt)]
      have h2 : L.toList[i]'(by simpa using hlt) = false := by simpa using hLi
      rw [h2]; simp only [Bool.not_false, if_true, Bool.not_true, Bool.false_eq_true, if_false, Nat.add_zero]; omega
    omega

theorem region_drawn (hτ : τ.met P) (hm : P.follows .mixedOrders = true) {κ : Kinds U} (hκ : κ.met τ) {M : Goal U} {C : CallF U} (hC : C.ok P M) {id : Nat} {ops : Array Oper} {s : St U} {n : Nat} {K : St U → Out U}
    (hok : regOk s.nt ops = true) {fz : Bool} (H : (explore τ κ C ops fz n ⟨s.env, s.heap, s.nx, s.tl, [], []⟩ (fun x => K { s with env := x.env, heap := x.heap, nx := x.nx, tl := x.tl })).holds M) :
    WP P (.region id ops true) s (fun e s' => e = .nx ∧ (K s').holds M) := by
  intro β r a w hs Q hQ
  refine wp_region_any hm ?_
  refine region_run (s0 := ⟨s.env, s.heap, s.nx, s.tl, [], []⟩) (r0 := r) (β := β) hτ hκ hC hok ?_ ops.size n _ r none _ a _ H ?_ ⟨Nm.le.refl r, fun _ h => h, Kept.refl _ _⟩ (Nat.le_trans (List.countP_le_length) (by simp))
  · intro x r' a' w' hK l hA h1 h2 h3 h4 h5
    exact hQ .nx { s with env := x.env, heap := x.heap, nx := x.nx, tl := x.tl } r' a' w' ⟨rfl, hK⟩ l ⟨h1, h2, h3, h4, h5⟩ ⟨hA.tl, hA.kept, rfl⟩
  · have hf : ∀ i, (Array.replicate ops.size false).getD i false = false := fun i => by simp [Array.getD]
    refine ⟨by simp, fun i hi => (by rw [hf] at hi; cases hi), fun i o _ hi => (by simp at hi), fun i o _ hi => (by rw [hf] at hi; cases hi), fun i o _ hi => (by simp at hi), ⟨List.nodup_nil, fun i hi => (by simp at hi)⟩, hs.sat.drew, hs.fresh, fun t _ _ => hs.env t, fun i o _ hi => (by simp at hi), hs.size, hs.defers, fun _ _ _ e => (by cases e)⟩

end
end Sx
end Go.Proofs.YtnegocgblmdihaaGreatDoor

/-
  Code, whole: functions run in place, by what is known of them, loops by what is said of them; and that the machine does the same.
-/
namespace Go.Proofs.YtnegocgblmdihaaGreatDoor
namespace Sx
open Go

section
variable {U : Uni} {P : Program} {τ : Tab}

abbrev LoopS (U : Uni) := St U → (EX → St U → Out U) → Out U
abbrev HookS (U : Uni) := List AV → Heap U → Nat → (AV → Heap U → Nat → List Nat → Out U) → Out U

def LoopOk (P : Program) (id : Nat) (body : Code) (L : LoopS U) : Prop := ∀ (M : Goal U) (s : St U) (K : EX → St U → Out U), (L s K).holds M → WP P (.block id (.loop body)) s (fun e s' => (K e s').holds M)
def HookOk (P : Program) (f : Nat) (H : HookS U) : Prop := ∀ (M : Goal U) (args : List AV) (h : Heap U) (nx : Nat) (K : AV → Heap U → Nat → List Nat → Out U), (H args h nx K).holds M → CallsSx P f args h nx (fun v h' nx' T => (K v h' nx' T).holds M)

/-- A function's loop, by the number of its block. -/
def loopAt (id : Nat) : Code → Option Code
  | .block j c => bif Nat.beq j id then (match c with | .loop b => some b | _ => none) else loopAt id c
  | .seq a b => (match loopAt id a with | some c => some c | none => loopAt id b)
  | .cond _ a b => (match loopAt id a with | some c => some c | none => loopAt id b)
  | .loop b => loopAt id b
  | _ => none
def loopOf (fn : Func) (id : Nat) : Code := match fn.body with
  | some c => (match loopAt id c with | some b => b | none => .skip)
  | none => .skip
def LoopFor (P : Program) (_f id : Nat) (body : Code) (L : LoopS U) : Prop := LoopOk P id body L

/-- A region of which is said what it does, by its number. -/
def RegOk (P : Program) (c : Code) (L : LoopS U) : Prop := ∀ (M : Goal U) (s : St U) (K : EX → St U → Out U), (L s K).holds M → WP P c s (fun e s' => (K e s').holds M)
def regAt (id : Nat) : Code → Option Code
  | .region j ops d => bif Nat.beq j id then some (.region j ops d) else none
  | .block _ c => regAt id c
  | .seq a b => (match regAt id a with | some c => some c | none => regAt id b)
  | .cond _ a b => (match regAt id a with | some c => some c | none => regAt id b)
  | .loop b => regAt id b
  | _ => none
def regOf (fn : Func) (id : Nat) : Code := match fn.body with
  | some c => (match regAt id c with | some b => b | none => .skip)
  | none => .skip
def RegFor (P : Program) (_f _id : Nat) (c : Code) (L : LoopS U) : Prop := RegOk P c L

structure Cfg (P : Program) (U : Uni) where
  τ : Tab
  κ : Kinds U
  fns : Nat → Option Func
  hooks : Nat → Option (HookS U)
  loops : Nat → Nat → Option (LoopS U)

structure Cfg.ok (C : Cfg P U) : Prop where
  τ : C.τ.met P
  κ : C.κ.met C.τ
  mixed : P.follows .mixedOrders = true
  fns : ∀ g fn, C.fns g = some fn → P.funcs[g]? = some fn ∧ (fn.name == "runtime.NumGoroutine") = false
  hooks : ∀ g H, C.hooks g = some H → HookOk P g H

def argsEnv : Nat → List AV → List (Nat × AV)
  | _, [] => []
  | i, v :: vs => (i, v) :: argsEnv (i + 1) vs

/-- The value of one result. -/
def resOne (τ : Tab) (s : St U) (x : ResultVar) (K : AV → Out U) : Out U :=
  match x with
  | .tmp t => K (envGet s.env t)
  | .cell a t => (match envGet s.env a with
    | .ptr id off => evalLoad τ t (.ptr id off) s.heap (fun v _ => K v)
    | _ => .bad 310)

def resList (τ : Tab) (s : St U) : List ResultVar → (List AV → Out U) → Out U
  | [], K => K []
  | x :: xs, K => resOne τ s x fun v => resList τ s xs fun vs => K (v :: vs)

def resAll (τ : Tab) (fn : Func) (s : St U) (K : AV → Out U) : Out U :=
  resList τ s fn.results.toList fun vs => match vs with
    | [v] => K v
    | vs => K (.tup vs)

def runCode (C : Cfg P U) : Nat → Nat → Code → St U → (EX → St U → Out U) → Out U
  | 0, _, _, _, _ => .bad 300
  | n + 1, f, c, s, K =>
    let callf : CallF U := fun g args h nx k => match C.hooks g with
      | some H => H args h nx k
      | none => (match C.fns g with
        | some fn => (match fn.body with
          | some body => bif Nat.ble args.length fn.ntmps then
              runCode C n g body ⟨argsEnv 0 args, h, nx, fn.ntmps, []⟩ (fun e s' => match e with
                | .nx => resAll C.τ fn s' fun v => k v s'.heap s'.nx s'.tl
                | .rt => resAll C.τ fn s' fun v => k v s'.heap s'.nx s'.tl
                | .ex _ => .bad 301) else .bad 302
          | none => .bad 303)
        | none => .bad 304)
    match c with
    | .skip => K .nx s
    | .region id ops draw => (match C.loops f (1000000 + id) with
      | some L => .need (RegFor P f id (.region id ops draw) L) (L s K)
      | none => bif draw then
        (bif regOk s.nt ops then exploreD C.τ C.κ callf ops (noRo s.heap) (ops.size + ops.size + 2) [] s.env s.heap s.nx s.tl [] (fun x => K .nx { s with env := x.env, heap := x.heap, nx := x.nx, tl := x.tl }) else .bad 305)
      else (bif dstsOk s.nt ops then seqOps C.τ C.κ callf ops ops.toList s (K .nx) else .bad 306))
    | .seq a b => runCode C n f a s (fun e s' => match e with
        | .nx => runCode C n f b s' K
        | .rt => K .rt s'
        | .ex id => K (.ex id) s')
    | .cond c t e => (match evO s.env c with
        | .tt => runCode C n f t s K
        | .ff => runCode C n f e s K
        | .bool b => .ite b (runCode C n f t s K) (runCode C n f e s K)
        | .may neg b => .maybe b (runCode C n f (bif neg then e else t) s K) (runCode C n f (bif neg then t else e) s K)
        | _ => .bad 307)
    | .block id body =>
      (match C.loops f id, body with
        | some L, .loop lb => .need (LoopFor P f id lb L) (L s K)
        | _, body => runCode C n f body s (fun e s' => match e with
          | .nx => K .nx s'
          | .rt => K .rt s'
          | .ex j => bif Nat.beq j id then K .nx s' else K (.ex j) s'))
    | .loop body => runCode C n f body s (fun e s' => match e with
        | .nx => runCode C n f (.loop body) { s' with env := backEnv s.env s'.env } K
        | .rt => K .rt s'
        | .ex j => K (.ex j) s')
    | .exit id => K (.ex id) s
    | .ret => K .rt s
    | .label _ => K .nx s
    | _ => .bad 308

theorem WP.mono {c : Code} {s : St U} {R R' : EX → St U → Prop} (h : WP P c s R) (k : ∀ e s', R e s' → R' e s') : WP P c s R' :=
  fun β r a w hs Q hQ => h β r a w hs Q (fun e s' r' a' w' hR => hQ e s' r' a' w' (k e s' hR))

theorem WP.seq {a b : Code} {s : St U} {R R' : EX → St U → Prop} (h : WP P a s R') (k : ∀ s', R' .nx s' → WP P b s' R) (k2 : ∀ e s', e ≠ .nx → R' e s' → R e s') : WP P (.seq a b) s R := by
  intro β r ac w hs Q hQ
  refine wp_seq (h β r ac w hs _ ?_)
  intro e s' r' a' w' hR hle hs' hf
  cases e with
  | nx =>
    show b.wp P Q a' w'
    exact k s' hR β r' a' w' hs' Q (fun e s'' r'' a'' w'' hR' hle' hs'' hf' => hQ e s'' r'' a'' w'' hR' (hle.trans hle') hs'' (hf.trans hf'))
  | rt => exact hQ .rt s' r' a' w' (k2 _ _ (by simp) hR) hle hs' hf
  | ex id => exact hQ (.ex id) s' r' a' w' (k2 _ _ (by simp) hR) hle hs' hf

theorem WP.block {id : Nat} {c : Code} {s : St U} {R R' : EX → St U → Prop} (h : WP P c s R') (k1 : ∀ s', R' .nx s' → R .nx s') (k2 : ∀ s', R' .rt s' → R .rt s') (k3 : ∀ j s', R' (.ex j) s' → R (if j = id then .nx else .ex j) s') : WP P (.block id c) s R := by
  intro β r ac w hs Q hQ
  refine wp_block (h β r ac w hs _ ?_)
  intro e s' r' a' w' hR hle hs' hf
  cases e with
  | nx => exact hQ .nx s' r' a' w' (k1 _ hR) hle hs' hf
  | rt => exact hQ .rt s' r' a' w' (k2 _ hR) hle hs' hf
  | ex j =>
    show (if j = id then Q .normal a' w' else Q (.exit j) a' w')
    have := k3 j s' hR
    split
    · rename_i e; rw [if_pos e] at this; exact hQ .nx s' r' a' w' this hle hs' hf
    · rename_i e; rw [if_neg e] at this; exact hQ (.ex j) s' r' a' w' this hle hs' hf

theorem argsEnv_ok {r : Nm} : ∀ (args : List AV) (vs : List Value) (i t : Nat), relL r args vs → rel r (envGet (argsEnv i args) t) (if i ≤ t then vs.getD (t - i) undef else undef) := by
  intro args
  induction args with
  | nil => intro vs i t _; exact trivial
  | cons x xs ih =>
    intro vs i t h
    simp only [relL] at h
    obtain ⟨v, us, rfl, h1, h2⟩ := h
    show rel r (bif Nat.beq i t then x else envGet (argsEnv (i + 1) xs) t) _
    cases e : Nat.beq i t with
    | true =>
      have := Nat.eq_of_beq_eq_true e
      subst this; simpa using h1
    | false =>
      have hne : i ≠ t := fun e' => by subst e'; simp at e
      have := ih us (i + 1) t h2
      simp only [cond_false]
      by_cases hle : i ≤ t
      · rw [if_pos (by omega)] at this
        rw [if_pos hle, show t - i = (t - (i + 1)) + 1 by omega]
        simpa using this
      · rw [if_neg (by omega)] at this
        rw [if_neg hle]; exact this

theorem entry_ok {r : Nm} {args : List AV} {vs : List Value} (h : relL r args vs) (nt : Nat) (hn : args.length ≤ nt) :
    EnvOk r (argsEnv 0 args) { tmps := vs.toArray ++ Array.replicate (nt - vs.toArray.size) undef, defers := [] } ∧ (vs.toArray ++ Array.replicate (nt - vs.toArray.size) undef).size = nt := by
  have hl := relL_length h
  refine ⟨fun t => ?_, by simp; omega⟩
  have := argsEnv_ok args vs 0 t h
  simp only [Nat.zero_le, if_true, Nat.sub_zero] at this
  have e : (vs.toArray ++ Array.replicate (nt - vs.toArray.size) undef).getD t undef = vs.getD t undef := by
    simp only [Array.getD_eq_getD_getElem?, Array.getElem?_append, List.size_toArray, List.getElem?_toArray, Array.getElem?_replicate, List.getD_eq_getElem?_getD]
    split
    · rfl
    · rename_i hh
      rw [List.getElem?_eq_none (by omega)]
      split <;> rfl
  show rel r _ ((vs.toArray ++ Array.replicate (nt - vs.toArray.size) undef).getD t undef)
  rw [e]; exact this

def resVal (tmps : Array Value) : ResultVar → Sem Value
  | .tmp t => pure (tmps.getD t undef)
  | .cell b t => do loadVar t (← asAddr (tmps.getD b undef))
theorem results_eq (fn : Func) (tmps : Array Value) : results fn tmps = (do let vs ← fn.results.mapM (resVal tmps); pure (if h : vs.size = 1 then vs[0] else .tuple vs)) := rfl

theorem resOne_sound (hτ : τ.met P) {M : Goal U} {s : St U} {x : ResultVar} {K : AV → Out U} (H : (resOne τ s x K).holds M) :
    ∃ v, (K v).holds M ∧ ∀ (β : Base) (r : Nm) (a : Act) (w : World), SatS β r s a w → ∃ z, (resVal a.tmps x).run P w = .ok z w ∧ rel r v z := by
  cases x with
  | tmp t => exact ⟨_, H, fun β r a w hs => ⟨_, rfl, hs.env t⟩⟩
  | cell b t =>
    simp only [resOne] at H
    split at H
    · rename_i id off hb
      unfold evalLoad at H
      split at H
      · rename_i R id' hR hid
        split at H
        · rename_i B hB
          obtain ⟨v, hK, hall⟩ := readAt_sound (P := P) (hτ t R hR) H hid
          refine ⟨v, hK, fun β r a w hs => ?_⟩
          obtain ⟨H1, hd, hw, hG⟩ := hs.sat.at hB
          have he := hs.env b; rw [hb] at he
          obtain ⟨z, hz, hr⟩ := hall β r w H1 _ he hd hw hG
          refine ⟨z, ?_, hr⟩
          obtain ⟨y, hy, he⟩ := he
          rw [he] at hz
          show (do let x ← asAddr (a.tmps.getD b undef); loadVar t x : Sem Value).run P w = _
          rw [he]
          simp only [asAddr, Sem.run_bind, Sem.run_pure, Result.andThen_ok]
          simpa [Instr.loadAt, Instr.sureAddr] using hz
        · exact H.elim
      · exact H.elim
    · exact H.elim

theorem resList_sound (hτ : τ.met P) {M : Goal U} {s : St U} : ∀ (xs : List ResultVar) (K : List AV → Out U), (resList τ s xs K).holds M →
    ∃ vs, (K vs).holds M ∧ vs.length = xs.length ∧ ∀ (β : Base) (r : Nm) (a : Act) (w : World), SatS β r s a w → ∃ zs, (xs.mapM (resVal a.tmps)).run P w = .ok zs w ∧ relL r vs zs
  | [], K, H => ⟨[], H, rfl, fun β r a w _ => ⟨[], rfl, relL_nil⟩⟩
  | x :: xs, K, H => by
    obtain ⟨v, hK, h1⟩ := resOne_sound hτ H
    obtain ⟨vs, hK', hl, h2⟩ := resList_sound hτ xs _ hK
    refine ⟨v :: vs, hK', by simp [hl], fun β r a w hs => ?_⟩
    obtain ⟨z, hz, hr⟩ := h1 β r a w hs
    obtain ⟨zs, hzs, hrs⟩ := h2 β r a w hs
    refine ⟨z :: zs, ?_, relL_cons.2 ⟨hr, hrs⟩⟩
    simp only [List.mapM_cons, Sem.run_bind, hz, Result.andThen_ok, hzs, Sem.run_pure]

theorem resAll_sound (hτ : τ.met P) {M : Goal U} {fn : Func} {s : St U} {K : AV → Out U} (H : (resAll τ fn s K).holds M) :
    ∃ v, (K v).holds M ∧ ∀ (β : Base) (r : Nm) (a : Act) (w : World), SatS β r s a w → ∃ z, (results fn a.tmps).run P w = .ok z w ∧ rel r v z := by
  obtain ⟨vs, hK, hl, h⟩ := resList_sound hτ _ _ H
  have key : ∀ (a : Act) (w : World) (zs : List Value), (fn.results.toList.mapM (resVal a.tmps)).run P w = .ok zs w →
      (results fn a.tmps).run P w = .ok (if h : zs.toArray.size = 1 then zs.toArray[0] else .tuple zs.toArray) w := by
    intro a w zs hz
    rw [results_eq, Sem.run_bind, Array.mapM_eq_mapM_toList, Sem.run_map, hz]
    simp only [Result.andThen_ok, Sem.run_pure]
  match vs, hK, h with
  | [v], hK, h =>
    refine ⟨v, hK, fun β r a w hs => ?_⟩
    obtain ⟨zs, hz, hr⟩ := h β r a w hs
    simp only [relL] at hr
    obtain ⟨z, us, rfl, h1, rfl⟩ := hr
    exact ⟨z, by rw [key a w _ hz]; rfl, h1⟩
  | [], hK, h =>
    refine ⟨.tup [], hK, fun β r a w hs => ?_⟩
    obtain ⟨zs, hz, hr⟩ := h β r a w hs
    simp only [relL] at hr; subst hr
    exact ⟨.tuple #[], by rw [key a w _ hz]; rfl, ⟨[], relL_nil, rfl⟩⟩
  | x :: y :: vs, hK, h =>
    refine ⟨.tup (x :: y :: vs), hK, fun β r a w hs => ?_⟩
    obtain ⟨zs, hz, hr⟩ := h β r a w hs
    have hlz := relL_length hr
    refine ⟨.tuple zs.toArray, ?_, ⟨zs, hr, rfl⟩⟩
    rw [key a w _ hz, dif_neg (by simp [hlz])]

theorem calls_in_place {C : Cfg P U} (hC : C.ok) {M : Goal U} {n : Nat} (ih : ∀ (f : Nat) (c : Code) (s : St U) (K : EX → St U → Out U), (runCode C n f c s K).holds M → WP P c s (fun e s' => (K e s').holds M))
    {g : Nat} {fn : Func} (hfn : C.fns g = some fn) {body : Code} (hb : fn.body = some body) {args : List AV} (hl : args.length ≤ fn.ntmps) {h : Heap U} {nx : Nat} {k : AV → Heap U → Nat → List Nat → Out U}
    (H : (runCode C n g body ⟨argsEnv 0 args, h, nx, fn.ntmps, []⟩ (fun e s' => match e with
                | .nx => resAll C.τ fn s' fun v => k v s'.heap s'.nx s'.tl
                | .rt => resAll C.τ fn s' fun v => k v s'.heap s'.nx s'.tl
                | .ex _ => .bad 301)).holds M) : CallsSx P g args h nx (fun v h' nx' T => (k v h' nx' T).holds M) := by
  obtain ⟨h1, h2⟩ := hC.fns g fn hfn
  refine ⟨⟨fn, h1, h2, by rw [hb]; rfl⟩, fun β r vs w hr hs hf => ?_⟩
  obtain ⟨e1, e2⟩ := entry_ok hr fn.ntmps hl
  refine calls_of_wp h1 hb (ih g body _ _ H β r _ w ⟨hs, hf, e1, e2, rfl⟩ _ ?_)
  have fin : ∀ (s' : St U) (r' : Nm) (a' : Act) (w' : World), (resAll C.τ fn s' fun v => k v s'.heap s'.nx s'.tl).holds M → r.le r' → SatS β r' s' a' w' → Fr (⟨argsEnv 0 args, h, nx, fn.ntmps, []⟩ : St U) s' →
      a'.defers = [] ∧ ∃ v, (results fn a'.tmps).run P w' = .ok v w' ∧ ∃ av h' nx' T z r', (Ending.returned v) = .returned z ∧ (k av h' nx' T).holds M ∧ r.le r' ∧ Fresh r' nx' ∧ rel r' av z ∧ Sat β r' h' w' ∧ Kept h h' T := by
    intro s' r' a' w' hres hle hs' hfr
    obtain ⟨v, hK, hh⟩ := resAll_sound hC.τ hres
    obtain ⟨z, hz, hrz⟩ := hh β r' a' w' hs'
    exact ⟨hs'.defers, z, hz, v, s'.heap, s'.nx, s'.tl, z, r', rfl, hK, hle, hs'.fresh, hrz, hs'.sat, hfr.kept⟩
  intro e s' r' a' w' hR hle hs' hfr
  cases e with
  | nx => exact fin s' r' a' w' hR hle hs' hfr
  | rt => exact fin s' r' a' w' hR hle hs' hfr
  | ex j => exact hR.elim

theorem runCode_both {C : Cfg P U} (hC : C.ok) {M : Goal U} : ∀ (n : Nat), (∀ (f : Nat) (c : Code) (s : St U) (K : EX → St U → Out U), (runCode C n f c s K).holds M → WP P c s (fun e s' => (K e s').holds M)) ∧
    (∀ (f : Nat) (body : Code) (s : St U) (K : EX → St U → Out U), (runCode C n f (.loop body) s K).holds M → ∀ (β : Base) (r : Nm) (a : Act) (w : World), SatS β r s a w → ∀ Q : Exit → Act → World → Prop,
      (∀ e s' r' a' w', (K e s').holds M → r.le r' → SatS β r' s' a' w' → Fr s s' → Q (exOf e) a' w') → Code.rounds P body Q n a w) := by
  intro n
  induction n with
  | zero => exact ⟨fun f c s K H => H.elim, fun f c s K H => H.elim⟩
  | succ n ihb =>
    obtain ⟨ih, ihl⟩ := ihb
    have loops : ∀ (f : Nat) (body : Code) (s : St U) (K : EX → St U → Out U), (runCode C (n + 1) f (.loop body) s K).holds M → ∀ (β : Base) (r : Nm) (a : Act) (w : World), SatS β r s a w → ∀ Q : Exit → Act → World → Prop,
        (∀ e s' r' a' w', (K e s').holds M → r.le r' → SatS β r' s' a' w' → Fr s s' → Q (exOf e) a' w') → Code.rounds P body Q (n + 1) a w := by
      intro f body s K H β r a w hs Q hQ
      simp only [runCode] at H
      refine ih f body s _ H β r a w hs _ ?_
      intro e s' r' a' w' hR hle hs' hf
      cases e with
      | nx => exact ihl f body _ K hR β r' a' w' ⟨hs'.sat, hs'.fresh, hs'.env.back, hs'.size, hs'.defers⟩ Q (fun e s'' r'' a'' w'' hR' hle' hs'' hf' => hQ e s'' r'' a'' w'' hR' (hle.trans hle') hs'' ((show Fr s { s' with env := backEnv s.env s'.env } from ⟨hf.tl, hf.kept, hf.nt⟩).trans hf'))
      | rt => exact hQ .rt s' r' a' w' hR hle hs' hf
      | ex j => exact hQ (.ex j) s' r' a' w' hR hle hs' hf
    refine ⟨?_, loops⟩
    intro f c s K H
    have hcall : CallF.ok P M (fun g args h nx k => match C.hooks g with
      | some H => H args h nx k
      | none => (match C.fns g with
        | some fn => (match fn.body with
          | some body => bif Nat.ble args.length fn.ntmps then
              runCode C n g body ⟨argsEnv 0 args, h, nx, fn.ntmps, []⟩ (fun e s' => match e with
                | .nx => resAll C.τ fn s' fun v => k v s'.heap s'.nx s'.tl
                | .rt => resAll C.τ fn s' fun v => k v s'.heap s'.nx s'.tl
                | .ex _ => .bad 301) else .bad 302
          | none => .bad 303)
        | none => .bad 304)) := by
      intro g args h nx k Hk
      simp only at Hk
      split at Hk
      · rename_i Hh hh
        exact hC.hooks g Hh hh M args h nx k Hk
      · split at Hk
        · rename_i fn hfn
          split at Hk
          · rename_i body hb
            rw [holds_bif] at Hk
            split at Hk
            · rename_i hl
              exact calls_in_place hC (fun f c s K => ih f c s K) hfn hb (Nat.le_of_ble_eq_true hl) Hk
            · exact Hk.elim
          · exact Hk.elim
        · exact Hk.elim
    have simple : ∀ (e : EX) (c : Code), (∀ (Q : Exit → Act → World → Prop) a w, Q (exOf e) a w → c.wp P Q a w) → (K e s).holds M → WP P c s (fun e s' => (K e s').holds M) :=
      fun e c hc hK β r a w hs Q hQ => hc Q a w (hQ e s r a w hK (Nm.le.refl r) hs (Fr.refl s))
    cases c <;> simp only [runCode] at H <;> try exact H.elim
    case skip => exact simple .nx _ (fun Q a w h => wp_skip h) H
    case region id ops draw =>
     split at H
     · obtain ⟨hL, H⟩ := H
       exact hL M s K H
     · cases draw with
      | true =>
        simp only [cond_true] at H
        rw [holds_bif] at H
        split at H
        · rename_i hok
          exact (region_drawn (K := K .nx) hC.τ hC.mixed hC.κ hcall hok (by rw [exploreD_eq]; exact H)).mono (fun e s' hh => by obtain ⟨rfl, hh⟩ := hh; exact hh)
        · exact H.elim
      | false =>
        simp only [cond_false] at H
        rw [holds_bif] at H
        split at H
        · rename_i hok
          exact (region_text hC.τ hC.κ hcall hok H).mono (fun e s' hh => by obtain ⟨rfl, hh⟩ := hh; exact hh)
        · exact H.elim
    case seq a b =>
      refine WP.seq (ih f a s _ H) (fun s' h => ih f b s' K h) (fun e s' hne h => ?_)
      cases e with
      | nx => exact absurd rfl hne
      | rt => exact h
      | ex id => exact h
    case cond c t e =>
      have key : ∀ (b : Bool) (hcv : ∀ (β : Base) (r : Nm) (a : Act) (w : World), SatS β r s a w → a.eval c = .bool b), (runCode C n f (if b then t else e) s K).holds M → WP P (.cond c t e) s (fun e s' => (K e s').holds M) := by
        intro b hcv hh β r a w hs Q hQ
        exact wp_cond (hcv β r a w hs) (ih f _ s K hh β r a w hs Q hQ)
      split at H
      · rename_i hc
        exact key true (fun β r a w hs => by have := evO_ok hs.env c; rw [hc] at this; exact this) H
      · rename_i hc
        exact key false (fun β r a w hs => by have := evO_ok hs.env c; rw [hc] at this; exact this) H
      · rename_i b hc
        have hcv : ∀ (β : Base) (r : Nm) (a : Act) (w : World), SatS β r s a w → a.eval c = .bool b := fun β r a w hs => by have := evO_ok hs.env c; rw [hc] at this; exact this
        cases hb : b with
        | true => exact key true (fun β r a w hs => by rw [← hb]; exact hcv β r a w hs) (H.1 hb)
        | false => exact key false (fun β r a w hs => by rw [← hb]; exact hcv β r a w hs) (H.2 hb)
      · rename_i neg b hc
        intro β r a w hs Q hQ
        have hv := evO_ok hs.env c; rw [hc] at hv
        obtain ⟨x, hx, himp⟩ := hv
        refine wp_cond hx ?_
        by_cases hxn : x = !neg
        · have hh := H.1 (himp hxn)
          have : (bif neg then e else t) = (if x then t else e) := by subst hxn; cases neg <;> rfl
          rw [this] at hh
          exact ih f _ s K hh β r a w hs Q hQ
        · have hh := H.2
          have : (bif neg then t else e) = (if x then t else e) := by cases neg <;> cases x <;> simp at hxn ⊢
          rw [this] at hh
          exact ih f _ s K hh β r a w hs Q hQ
      · exact H.elim
    case block id body =>
      split at H
      · rename_i L lb hL
        exact H.1 M s K H.2
      · refine WP.block (ih f _ s _ H) (fun s' h => h) (fun s' h => h) (fun j s' h => ?_)
        simp only [holds_bif] at h
        by_cases hj : j = id
        · subst hj; simp only [Nat.beq_refl, if_true] at h; rw [if_pos rfl]; exact h
        · have : Nat.beq j id = false := by cases e : Nat.beq j id with | true => exact absurd (Nat.eq_of_beq_eq_true e) hj | false => rfl
          simp only [this, Bool.false_eq_true, if_false] at h; rw [if_neg hj]; exact h
    case loop body =>
      intro β r a w hs Q hQ
      exact wp_loop_rounds (n + 1) (loops f body s K (by simp only [runCode]; exact H) β r a w hs Q hQ)
    case exit id => exact simple (.ex id) _ (fun Q a w h => wp_exit h) H
    case ret => exact simple .rt _ (fun Q a w h => wp_ret h) H
    case label l => exact simple .nx _ (fun Q a w h => wp_label h) H

theorem runCode_sound {C : Cfg P U} (hC : C.ok) {M : Goal U} (n f : Nat) (c : Code) (s : St U) (K : EX → St U → Out U) (H : (runCode C n f c s K).holds M) : WP P c s (fun e s' => (K e s').holds M) :=
  (runCode_both hC n).1 f c s K H

end
end Sx
end Go.Proofs.YtnegocgblmdihaaGreatDoor

/-
  One description of a state for another: names changed, things forgotten; and loops by what holds at each round's head.
-/
namespace Go.Proofs.YtnegocgblmdihaaGreatDoor
namespace Sx
open Go

section
variable {U : Uni} {P : Program}

mutual
def AV.ren (f : Nat → Nat) : AV → AV
  | .ptr id off => .ptr (f id) off
  | .ptrR id i w c => .ptrR (f id) i w c
  | .sl k id s w len cap => .sl k (f id) s w len cap
  | .mp id => .mp (f id)
  | .agg cs => .agg (AV.renL f cs)
  | .tup cs => .tup (AV.renL f cs)
  | .fn g fs cs => .fn g (AV.renL f fs) (AV.renL f cs)
  | .ifc t x => .ifc t (AV.ren f x)
  | .raw v => .raw v
  | .int k n => .int k n
  | .lit k n => .lit k n
  | .tt => .tt
  | .ff => .ff
  | .bool b => .bool b
  | .may n c => .may n c
  | .nilP => .nilP
  | .nilS => .nilS
  | .nilF => .nilF
  | .nilM => .nilM
  | .nilI => .nilI
  | .rp o => .rp o
  | .rs o l c => .rs o l c
  | .rw o l c => .rw o l c
  | .und => .und
def AV.renL (f : Nat → Nat) : List AV → List AV
  | [] => []
  | c :: cs => AV.ren f c :: AV.renL f cs
end

mutual
theorem rel_ren {r : Nm} {f : Nat → Nat} : ∀ (x : AV) (v : Value), rel r (x.ren f) v → rel (fun i => r (f i)) x v
  | .ptr .., _, h => h
  | .ptrR .., _, h => h
  | .sl .., _, h => h
  | .mp _, _, h => h
  | .agg cs, _, ⟨vs, h, e⟩ => ⟨vs, relL_ren cs vs h, e⟩
  | .tup cs, _, ⟨vs, h, e⟩ => ⟨vs, relL_ren cs vs h, e⟩
  | .fn _ fs cs, _, ⟨us, vs, h, k, e⟩ => ⟨us, vs, relL_ren fs us h, relL_ren cs vs k, e⟩
  | .ifc _ x, _, ⟨u, h, e⟩ => ⟨u, rel_ren x u h, e⟩
  | .raw _, _, h => h
  | .int .., _, h => h
  | .lit .., _, h => h
  | .tt, _, h => h
  | .ff, _, h => h
  | .bool _, _, h => h
  | .may .., _, h => h
  | .nilP, _, h => h
  | .nilS, _, h => h
  | .nilF, _, h => h
  | .nilM, _, h => h
  | .nilI, _, h => h
  | .rp _, _, h => h
  | .rs .., _, h => h
  | .rw .., _, h => h
  | .und, _, h => h
theorem relL_ren {r : Nm} {f : Nat → Nat} : ∀ (x : List AV) (v : List Value), relL r (AV.renL f x) v → relL (fun i => r (f i)) x v
  | [], _, h => h
  | c :: cs, _, ⟨v, us, e, h, k⟩ => ⟨v, us, e, rel_ren c v h, relL_ren cs us k⟩
end

def Blk.ren (f : Nat → Nat) : Blk U → Blk U
  | .cells T cs => .cells T (AV.renL f cs)
  | b => b

/-- Nothing of an element's layout names a block. -/
class Plain (U : Uni) : Prop where
  enc : ∀ k a f, AV.renL f ((U.enc k).enc a) = (U.enc k).enc a

theorem enc_ren [Plain U] {r : Nm} {f : Nat → Nat} {k : U.K} {a : U.El k} {vs : List Value} (h : relL r ((U.enc k).enc a) vs) : relL (fun i => r (f i)) ((U.enc k).enc a) vs :=
  relL_ren _ _ (by rw [Plain.enc]; exact h)

theorem relM_ren [Plain U] {k : U.K} {kk : IntKind} {r : Nm} {f : Nat → Nat} : ∀ {m : List (Int × U.El k)} {es : List MapEntry}, relM (U.enc k) kk r m es → relM (U.enc k) kk (fun i => r (f i)) m es
  | [], _, h => h
  | (_, _) :: _, _, ⟨e, fs, a, b, c, d⟩ => ⟨e, fs, a, b, by
      cases hg : (U.enc k).agg with
      | true => rw [hg] at c; obtain ⟨vs, h1, h2⟩ := c; exact ⟨vs, enc_ren h1, h2⟩
      | false => rw [hg] at c; exact enc_ren (r := r) c, relM_ren d⟩

theorem Blk.den_ren [Plain U] {G : Hp} {r : Nm} {f : Nat → Nat} {id : Nat} {B : Blk U} {H : Hp} (h : (B.ren f).den G r (f id) H) : B.den G (fun i => r (f i)) id H := by
  cases B with
  | cells T cs => obtain ⟨b, vs, h1, h2, h3⟩ := h; exact ⟨b, vs, h1, relL_ren _ _ h2, h3⟩
  | arr T k xs sp =>
    rcases h with h | ⟨b, c, h1, h2, h3, h4, h5⟩
    · exact .inl h
    · exact .inr ⟨b, c, h1, fun i x e => enc_ren (h2 i x e), h3, h4, h5⟩
  | ro k xs =>
    obtain ⟨h1, h2⟩ := h
    exact ⟨fun i x e => let ⟨b, o, c, T, fz, a1, a2, a3⟩ := h1 i x e; ⟨b, o, c, T, fz, a1, a2, enc_ren a3⟩, h2⟩
  | mp kk k m => obtain ⟨b, es, cl, h1, h2, h3⟩ := h; exact ⟨b, es, cl, h1, relM_ren h2, h3⟩
  | obj x => obtain ⟨b, h1, h2⟩ := h; exact ⟨b, h1, h2⟩
  | pool p => exact h
  | rpool f => exact h

/-- Where names come from: below nx0 from themselves. -/
def mkF (nx0 : Nat) (ren : List (Nat × Nat)) (top : Nat) (i : Nat) : Nat :=
  bif Nat.blt i nx0 then i else (match ren.lookup i with | some j => j | none => top + i)

/-- One value says no less than another. -/
def AV.sub (a b : AV) : Prop := ∀ r v, rel r a v → rel r b v
theorem AV.sub_refl (a : AV) : a.sub a := fun _ _ h => h
theorem AV.sub_int {k : IntKind} {n m : Int} (h : n = m) : (AV.int k n).sub (.int k m) := by subst h; exact AV.sub_refl _
theorem AV.sub_bool {n m : Bool} (h : n = m) : (AV.bool n).sub (.bool m) := by subst h; exact AV.sub_refl _
theorem AV.sub_tt {m : Bool} (h : m = true) : AV.tt.sub (.bool m) := by subst h; exact fun _ _ h => h
theorem AV.sub_ff {m : Bool} (h : m = false) : AV.ff.sub (.bool m) := by subst h; exact fun _ _ h => h
theorem AV.sub_nilS {kn : Bool} {id s w : Nat} : AV.nilS.sub (.sl kn id s w 0 0) := fun _ _ h => ⟨none, h, Nat.le_refl _, .inl rfl⟩
theorem AV.sub_sl {k k' : Bool} {id s w len cap len' cap' : Nat} (h : len = len') (h' : cap = cap') : (AV.sl k id s w len cap).sub (.sl k' id s w len' cap') := by subst h; subst h'; exact fun _ _ h => h
/-- A block at hand for a block that is wanted. -/
inductive BSub : Option (Blk U) → Blk U → Prop where
  | same (B : Blk U) : BSub (some B) B
  | cells (T : Nat) (cs ds : List AV) (h : ∀ r vs, relL r cs vs → relL r ds vs) : BSub (some (.cells T cs)) (.cells T ds)
  | rows (T : Nat) (k : U.K) (cs : List AV) (xs : List (U.El k)) (n : Nat) (h : chunkDec (U.enc k) n cs = some xs) (hm : n ≤ maxLen) : BSub (some (.cells T cs)) (.arr T k xs 0)
  | none (T : Nat) (k : U.K) : BSub Option.none (.arr T k [] 0)
theorem BSub.den {B C : Blk U} (h : BSub (some C) B) {G : Hp} {r : Nm} {id : Nat} {H : Hp} (d : C.den G r id H) : B.den G r id H := by
  cases h with
  | same => exact d
  | cells T cs ds h => obtain ⟨b, vs, h1, h2, h3⟩ := d; exact ⟨b, vs, h1, h _ _ h2, h3⟩
  | rows T k cs xs n h hm =>
    obtain ⟨b, vs, h1, h2, h3⟩ := d
    obtain ⟨g1, g2, g3⟩ := chunkDec_sound h h2
    subst g1
    exact .inr ⟨b, vs.toArray, h1, fun i x e => by simpa using g3 i x e, by simpa using g2, hm, h3⟩
theorem AV.subL_nil : ∀ r vs, relL r ([] : List AV) vs → relL r [] vs := fun _ _ h => h
theorem AV.subL_cons {a b : AV} {as bs : List AV} (h : a.sub b) (k : ∀ r vs, relL r as vs → relL r bs vs) : ∀ r vs, relL r (a :: as) vs → relL r (b :: bs) vs := by
  intro r vs e
  simp only [relL] at e; obtain ⟨v, us, rfl, h1, h2⟩ := e
  exact relL_cons.2 ⟨h r v h1, k r us h2⟩
theorem BSub.arr {T : Nat} {k : U.K} {xs ys : List (U.El k)} {sp sp' : Nat} (h : xs = ys) (h' : sp = sp') : BSub (some (.arr T k xs sp : Blk U)) (.arr T k ys sp') := by subst h; subst h'; exact .same _

def EnvSub (f : Nat → Nat) (env : List (Nat × AV)) : List (Nat × AV) → Prop
  | [] => True
  | (t, v) :: l => (envGet env t).sub (v.ren f) ∧ EnvSub f env l
def HeapSub (f : Nat → Nat) (h : Heap U) : Heap U → Prop
  | [] => True
  | (id, B) :: l => BSub (h.get (f id)) (B.ren f) ∧ HeapSub f (h.del (f id)) l
def KeptAll (h' : Heap U) (T : List Nat) : Heap U → Prop
  | [] => True
  | (id, B) :: l => (id ∈ T ∨ h'.get id = some B) ∧ KeptAll h' T l

theorem kept_of_all0 {h' : Heap U} {T : List Nat} : ∀ {h : Heap U}, KeptAll h' T h → ∀ id B, h.get id = some B → id ∉ T → h'.get id = some B
  | [], _, id, B, e, _ => by simp [Heap.get] at e
  | (i, C) :: h, k, id, B, e, hn => by
    unfold Heap.get at e
    cases hi : Nat.beq i id with
    | true =>
      rw [hi] at e; simp at e; subst e
      have := Nat.eq_of_beq_eq_true hi
      subst this
      exact k.1.resolve_left hn
    | false => rw [hi] at e; simp at e; exact kept_of_all0 k.2 id B e hn
theorem kept_of_all {h' : Heap U} {T : List Nat} {h : Heap U} (k : KeptAll h' T h) : Kept h h' T := .of (kept_of_all0 k)

structure Wk (nx0 : Nat) (ren : List (Nat × Nat)) (s s' : St U) : Prop where
  env : EnvSub (mkF nx0 ren s.nx) s.env s'.env
  heap : HeapSub (mkF nx0 ren s.nx) s.heap s'.heap
  nt : s'.nt = s.nt
  tl : ∀ i, i ∈ s.tl → i ∈ s'.tl
  kept : KeptAll s'.heap s'.tl s.heap
  nx : nx0 ≤ s'.nx ∧ (ren.all fun q => Nat.blt q.1 s'.nx) = true

theorem envSub_ok {f : Nat → Nat} {r : Nm} {env : List (Nat × AV)} {a : Act} (he : EnvOk r env a) : ∀ {l : List (Nat × AV)}, EnvSub f env l → EnvOk (fun i => r (f i)) l a
  | [], _, t => trivial
  | (t0, v) :: l, h, t => by
    show rel _ (bif Nat.beq t0 t then v else envGet l t) _
    cases e : Nat.beq t0 t with
    | true =>
      have := Nat.eq_of_beq_eq_true e
      subst this
      exact rel_ren _ _ (h.1 r _ (he t0))
    | false => exact envSub_ok he h.2 t

theorem heapSub_den [Plain U] {f : Nat → Nat} {G : Hp} {r : Nm} : ∀ {l h : Heap U} {H : Hp}, HeapSub f h l → h.den G r H →
    ∃ H1 H2, l.den G (fun i => r (f i)) H1 ∧ H1.apart H2 ∧ H = H1.join H2
  | [], h, H, _, _ => ⟨Hp.nil, H, rfl, Hp.nil_apart H, rfl⟩
  | (id, B) :: l, h, H, ⟨hb, hl⟩, hd => by
    cases hg : h.get (f id) with
    | none =>
      rw [hg] at hb
      have hdel : h.del (f id) = h := by
        clear hl hb hd
        induction h with
        | nil => rfl
        | cons q h ih =>
          obtain ⟨i, C⟩ := q
          unfold Heap.get at hg
          cases e : Nat.beq i (f id) with
          | true => rw [e] at hg; simp at hg
          | false => rw [e] at hg; simp at hg; unfold Heap.del; rw [e]; simp [ih hg]
      rw [hdel] at hl
      obtain ⟨H1, H2, h1, h2, h3⟩ := heapSub_den hl hd
      refine ⟨H1, H2, ⟨Hp.nil, H1, ?_, h1, Hp.nil_apart _, rfl⟩, h2, h3⟩
      cases B with
      | arr T k xs sp =>
        simp only [Blk.ren] at hb
        cases hb
        exact .inl ⟨rfl, rfl⟩
      | _ => simp only [Blk.ren] at hb; cases hb
    | some C =>
      rw [hg] at hb
      obtain ⟨K1, K2, k1, k2, k3, k4, _⟩ := Heap.focus hd hg
      obtain ⟨H1, H2, h1, h2, h3⟩ := heapSub_den hl k4
      subst h3; subst k3
      have q := Hp.apart_join.1 k2
      refine ⟨K1.join H1, H2, ⟨K1, H1, Blk.den_ren (hb.den k1), h1, q.1, rfl⟩, Hp.join_apart.2 ⟨q.2, h2⟩, by rw [Hp.join_assoc]⟩

theorem Wk.ok [Plain U] {nx0 : Nat} {ren : List (Nat × Nat)} {s s' : St U} (h : Wk nx0 ren s s') {β : Base} {r : Nm} {a : Act} {w : World} (hs : SatS β r s a w) :
    ∃ r', (∀ i x, i < nx0 → r i = some x → r' i = some x) ∧ SatS β r' s' a w ∧ Fr s s' := by
  refine ⟨fun i => r (mkF nx0 ren s.nx i), fun i x hi e => ?_, ⟨?_, fun i hi => ?_, envSub_ok hs.env h.env, by rw [h.nt]; exact hs.size, hs.defers⟩, ⟨h.tl, kept_of_all h.kept, h.nt⟩⟩
  · have : Nat.blt i nx0 = true := by rw [Nat.blt_eq]; exact hi
    simp only [mkF, this, cond_true]; exact e
  · obtain ⟨hm, H, hd, ha, hw⟩ := hs.sat
    obtain ⟨H1, H2, h1, h2, h3⟩ := heapSub_den h.heap hd
    subst h3
    exact ⟨hm, H1, h1, (Hp.join_apart.1 ha).1, ((Hp.inW_join h2).1 hw).1⟩
  · refine hs.fresh _ ?_
    have hb : Nat.blt i nx0 = false := by
      cases e : Nat.blt i nx0 with
      | false => rfl
      | true => rw [Nat.blt_eq] at e; have := h.nx.1; omega
    simp only [mkF, hb, cond_false]
    cases hl : ren.lookup i with
    | none => simp
    | some j =>
      exfalso
      have hm : (i, j) ∈ ren := by
        clear h hs
        induction ren with
        | nil => simp at hl
        | cons q ren ih =>
          obtain ⟨k, l⟩ := q
          rw [List.lookup_cons] at hl
          split at hl
          · rename_i e; simp at e; cases hl; subst e; simp
          · exact List.mem_cons_of_mem _ (ih hl)
      have := List.all_eq_true.1 h.nx.2 (i, j) hm
      simp only [Nat.blt_eq] at this
      omega

/-- What holds of a run holds of it with a weaker goal. -/
theorem Out.mono {M1 M2 : Goal U} (hQ : ∀ e s, M1.Q e s → M2.Q e s) (hF : ∀ v h n, M1.F v h n → M2.F v h n) : ∀ {o : Out U}, o.holds M1 → o.holds M2
  | .fin v h n, hh => hF v h n hh
  | .stop e s, hh => hQ e s hh
  | .ite _ _ _, hh => ⟨fun hb => Out.mono hQ hF (hh.1 hb), fun hb => Out.mono hQ hF (hh.2 hb)⟩
  | .need _ _, hh => ⟨hh.1, Out.mono hQ hF hh.2⟩
  | @Out.needd _ _ _ _, hh => ⟨hh.1, Out.mono hQ hF hh.2⟩
  | .same _ _ _, hh => ⟨hh.1, Out.mono hQ hF hh.2⟩
  | .asm _ _, hh => fun hp => Out.mono hQ hF (hh hp)
  | .all _ _, hh => fun x => Out.mono hQ hF (hh x)
  | .ex _ _, ⟨x, hh⟩ => ⟨x, Out.mono hQ hF hh⟩
  | .both _ _, hh => ⟨Out.mono hQ hF hh.1, Out.mono hQ hF hh.2⟩
  | .maybe _ _ _, hh => ⟨fun hb => Out.mono hQ hF (hh.1 hb), Out.mono hQ hF hh.2⟩
  | .bad _, hh => hh

theorem Out.weak {M1 M2 : Goal U} {o : Out U} (h : o.holds M1) (hQ : ∀ e s, M1.Q e s → M2.Q e s) (hF : ∀ v h n, M1.F v h n → M2.F v h n) : o.holds M2 := Out.mono hQ hF h

/-- A loop as the caller sees it: some state of the family at its head; any of the ends behind it. -/
def loopS {Pa Ya Za : Type} (nx0 : Nat) (I0 : Pa → St U) (c1 : Pa → Ya → Prop) (F1 : Pa → Ya → St U) (c2 : Pa → Za → Prop) (F2 : Pa → Za → St U) : LoopS U := fun s K =>
  .ex Pa fun p => .ex (List (Nat × Nat)) fun ren => .need (s.nx ≤ nx0 ∧ Wk nx0 ren s (I0 p))
    (.both (.all Ya fun y => .asm (c1 p y) (K .nx (F1 p y))) (.all Za fun y => .asm (c2 p y) (K .rt (F2 p y))))
def loopN {Pa Ya : Type} (nx0 : Nat) (I0 : Pa → St U) (c1 : Pa → Ya → Prop) (F1 : Pa → Ya → St U) : LoopS U := fun s K =>
  .ex Pa fun p => .ex (List (Nat × Nat)) fun ren => .need (s.nx ≤ nx0 ∧ Wk nx0 ren s (I0 p)) (.all Ya fun y => .asm (c1 p y) (K .nx (F1 p y)))

theorem tl_ok {l l' : List Nat} (h : (l.all fun i => l'.any (Nat.beq i)) = true) : ∀ i, i ∈ l → i ∈ l' := by
  intro i hi
  obtain ⟨j, hj, e⟩ := List.any_eq_true.1 (List.all_eq_true.1 h i hi)
  rw [Nat.eq_of_beq_eq_true e]; exact hj
theorem in_ok {i : Nat} {l : List Nat} (h : l.any (Nat.beq i) = true) : i ∈ l := by
  obtain ⟨j, hj, e⟩ := List.any_eq_true.1 h
  rw [Nat.eq_of_beq_eq_true e]; exact hj
theorem BSub.of_eq {o : Option (Blk U)} {B : Blk U} (h : o = some B) : BSub o B := h ▸ BSub.same B

end
end Sx
end Go.Proofs.YtnegocgblmdihaaGreatDoor

/-
  Objects: a block that stands for several; what a function does to one object and rows of others, seen from outside.
-/
namespace Go.Proofs.YtnegocgblmdihaaGreatDoor
namespace Sx
open Go

section
variable {U : Uni} {P : Program}

/-! ## the names in a value -/
mutual
def AV.on (p : Nat → Bool) : AV → Bool
  | .ptr id _ => p id
  | .ptrR id _ _ _ => p id
  | .sl _ id _ _ _ _ => p id
  | .mp id => p id
  | .agg cs => AV.onL p cs
  | .tup cs => AV.onL p cs
  | .fn _ fs cs => AV.onL p fs && AV.onL p cs
  | .ifc _ x => AV.on p x
  | .raw _ => true
  | .int .. => true
  | .lit .. => true
  | .tt => true
  | .ff => true
  | .bool _ => true
  | .may .. => true
  | .nilP => true
  | .nilS => true
  | .nilF => true
  | .nilM => true
  | .nilI => true
  | .rp _ => true
  | .rs .. => true
  | .rw .. => true
  | .und => true
def AV.onL (p : Nat → Bool) : List AV → Bool
  | [] => true
  | c :: cs => AV.on p c && AV.onL p cs
end

mutual
theorem rel_on {p : Nat → Bool} {r s : Nm} (h : ∀ i, p i = true → r i = s i) : ∀ (x : AV) (v : Value), x.on p = true → rel r x v → rel s x v
  | .ptr id _, _, q, ⟨x, e, k⟩ => ⟨x, (h id q) ▸ e, k⟩
  | .ptrR id _ _ _, _, q, ⟨x, e, k⟩ => ⟨x, (h id q) ▸ e, k⟩
  | .sl _ id _ _ _ _, _, q, ⟨a, e, l, k⟩ => ⟨a, e, l, k.imp (fun h => h) fun ⟨x, e, k⟩ => ⟨x, (h id q) ▸ e, k⟩⟩
  | .mp id, _, q, ⟨x, e, k⟩ => ⟨x, (h id q) ▸ e, k⟩
  | .agg cs, _, q, ⟨vs, e, k⟩ => ⟨vs, relL_on h cs vs q e, k⟩
  | .tup cs, _, q, ⟨vs, e, k⟩ => ⟨vs, relL_on h cs vs q e, k⟩
  | .fn _ fs cs, _, q, ⟨us, vs, e, e', k⟩ => by
    simp only [AV.on, Bool.and_eq_true] at q
    exact ⟨us, vs, relL_on h fs us q.1 e, relL_on h cs vs q.2 e', k⟩
  | .ifc _ x, _, q, ⟨u, e, k⟩ => ⟨u, rel_on h x u q e, k⟩
  | .raw _, _, _, e => e
  | .int .., _, _, e => e
  | .lit .., _, _, e => e
  | .tt, _, _, e => e
  | .ff, _, _, e => e
  | .bool _, _, _, e => e
  | .may .., _, _, e => e
  | .nilP, _, _, e => e
  | .nilS, _, _, e => e
  | .nilF, _, _, e => e
  | .nilM, _, _, e => e
  | .nilI, _, _, e => e
  | .rp _, _, _, e => e
  | .rs .., _, _, e => e
  | .rw .., _, _, e => e
  | .und, _, _, e => e
theorem relL_on {p : Nat → Bool} {r s : Nm} (h : ∀ i, p i = true → r i = s i) : ∀ (x : List AV) (v : List Value), AV.onL p x = true → relL r x v → relL s x v
  | [], _, _, e => e
  | c :: cs, _, q, ⟨v, us, e, k, l⟩ => by
    simp only [AV.onL, Bool.and_eq_true] at q
    exact ⟨v, us, e, rel_on h c v q.1 k, relL_on h cs us q.2 l⟩
end

mutual
theorem rel_ren' {r : Nm} {f : Nat → Nat} : ∀ (x : AV) (v : Value), rel (fun i => r (f i)) x v → rel r (x.ren f) v
  | .ptr .., _, h => h
  | .ptrR .., _, h => h
  | .sl .., _, h => h
  | .mp _, _, h => h
  | .agg cs, _, ⟨vs, h, e⟩ => ⟨vs, relL_ren' cs vs h, e⟩
  | .tup cs, _, ⟨vs, h, e⟩ => ⟨vs, relL_ren' cs vs h, e⟩
  | .fn _ fs cs, _, ⟨us, vs, h, k, e⟩ => ⟨us, vs, relL_ren' fs us h, relL_ren' cs vs k, e⟩
  | .ifc _ x, _, ⟨u, h, e⟩ => ⟨u, rel_ren' x u h, e⟩
  | .raw _, _, h => h
  | .int .., _, h => h
  | .lit .., _, h => h
  | .tt, _, h => h
  | .ff, _, h => h
  | .bool _, _, h => h
  | .may .., _, h => h
  | .nilP, _, h => h
  | .nilS, _, h => h
  | .nilF, _, h => h
  | .nilM, _, h => h
  | .nilI, _, h => h
  | .rp _, _, h => h
  | .rs .., _, h => h
  | .rw .., _, h => h
  | .und, _, h => h
theorem relL_ren' {r : Nm} {f : Nat → Nat} : ∀ (x : List AV) (v : List Value), relL (fun i => r (f i)) x v → relL r (AV.renL f x) v
  | [], _, h => h
  | c :: cs, _, ⟨v, us, e, h, k⟩ => ⟨v, us, e, rel_ren' c v h, relL_ren' cs us k⟩
end

def noName (_ : Nat) : Bool := false
theorem rel_closed {r s : Nm} {x : AV} {v : Value} (h : x.on noName = true) (e : rel r x v) : rel s x v := rel_on (fun _ h => by simp [noName] at h) x v h e
theorem relL_closed {r s : Nm} {x : List AV} {v : List Value} (h : AV.onL noName x = true) (e : relL r x v) : relL s x v := relL_on (fun _ h => by simp [noName] at h) x v h e

class Bare (U : Uni) : Prop where
  enc : ∀ k a, AV.onL noName ((U.enc k).enc a) = true
theorem enc_bare [Bare U] {r s : Nm} {k : U.K} {a : U.El k} {vs : List Value} (h : relL r ((U.enc k).enc a) vs) : relL s ((U.enc k).enc a) vs := relL_closed (Bare.enc k a) h
theorem relM_bare [Bare U] {k : U.K} {kk : IntKind} {r s : Nm} : ∀ {m : List (Int × U.El k)} {es : List MapEntry}, relM (U.enc k) kk r m es → relM (U.enc k) kk s m es
  | [], _, h => h
  | (_, _) :: _, _, ⟨e, fs, a, b, c, d⟩ => by
    refine ⟨e, fs, a, b, ?_, relM_bare d⟩
    cases hg : (U.enc k).agg with
    | true => rw [hg] at c; obtain ⟨vs, h1, h2⟩ := c; exact ⟨vs, enc_bare h1, h2⟩
    | false => rw [hg] at c; exact enc_bare (r := r) c

def Blk.bare : Blk U → Bool
  | .cells _ cs => AV.onL noName cs
  | .arr .. => true
  | .ro .. => false
  | .mp .. => true
  | .obj _ => true
  | .pool _ => true
  | .rpool _ => false
def Blk.noRo : Blk U → Bool
  | .ro .. => false
  | .rpool _ => false
  | _ => true
theorem Blk.den_at [Bare U] {G G' : Hp} {r s : Nm} {i j : Nat} {H : Hp} {B : Blk U} (hb : B.bare = true) (h : r i = s j) (d : B.den G r i H) : B.den G' s j H := by
  cases B with
  | cells T cs => obtain ⟨b, vs, h1, h2, h3⟩ := d; exact ⟨b, vs, h ▸ h1, relL_closed hb h2, h3⟩
  | arr T k xs sp =>
    rcases d with d | ⟨b, c, h1, h2, h3, h4, h5⟩
    · exact .inl d
    · exact .inr ⟨b, c, h ▸ h1, fun i x e => enc_bare (h2 i x e), h3, h4, h5⟩
  | ro k xs => cases hb
  | mp kk k m => obtain ⟨b, es, cl, h1, h2, h3⟩ := d; exact ⟨b, es, cl, h ▸ h1, relM_bare h2, h3⟩
  | obj x => obtain ⟨b, h1, h2⟩ := d; exact ⟨b, h ▸ h1, h2⟩
  | pool p => exact d
  | rpool f => cases hb
theorem Blk.den_G {G G' : Hp} {r : Nm} {i : Nat} {H : Hp} {B : Blk U} (hb : B.noRo = true) (d : B.den G r i H) : B.den G' r i H := by
  cases B with
  | ro k xs => cases hb
  | cells T cs => exact d
  | arr T k xs sp => exact d
  | mp kk k m => exact d
  | obj x => exact d
  | pool p => exact d
  | rpool f => cases hb
theorem Blk.den_nil {G : Hp} {r : Nm} {i : Nat} {H : Hp} {B : Blk U} (d : B.den Hp.nil r i H) : B.den G r i H := by
  cases B with
  | ro k xs =>
    obtain ⟨h1, h2⟩ := d
    exact ⟨fun i x e => (by obtain ⟨b, o, c, T, fz, _, a2, _⟩ := h1 i x e; cases a2), h2⟩
  | cells T cs => exact d
  | arr T k xs sp => exact d
  | mp kk k m => exact d
  | obj x => exact d
  | pool p => exact d
  | rpool f => exact ⟨d.1.nil, d.2⟩
theorem Heap.den_G {G G' : Hp} {r : Nm} : ∀ {h : Heap U} {H : Hp}, (h.all fun q => q.2.noRo) = true → h.den G r H → h.den G' r H
  | [], _, _, d => d
  | (id, B) :: h, H, hb, ⟨H1, H2, a, b, c, d⟩ => by
    simp only [List.all_cons, Bool.and_eq_true] at hb
    exact ⟨H1, H2, Blk.den_G hb.1 a, Heap.den_G hb.2 b, c, d⟩
theorem Heap.den_nil {G : Hp} {r : Nm} : ∀ {h : Heap U} {H : Hp}, h.den Hp.nil r H → h.den G r H
  | [], _, d => d
  | (_, _) :: _, _, ⟨H1, H2, a, b, c, d⟩ => ⟨H1, H2, Blk.den_nil a, Heap.den_nil b, c, d⟩
theorem Heap.den_append {G : Hp} {r : Nm} : ∀ {h l : Heap U} {H K : Hp}, h.den G r H → l.den G r K → H.apart K → (h ++ l).den G r (H.join K)
  | [], l, H, K, d, e, _ => by
    have : H = Hp.nil := d
    subst this; exact e
  | (id, B) :: h, l, H, K, ⟨H1, H2, a, b, c, d⟩, e, ha => by
    subst d
    have q := Hp.join_apart.1 ha
    refine ⟨H1, H2.join K, a, Heap.den_append b e q.2, Hp.apart_join.2 ⟨c, q.1⟩, by rw [Hp.join_assoc]⟩

/-! ## rows among the arguments -/
def RowsIn {α : Type} (A : Hp) (E : Enc α) (b o : Nat) (ys : List α) : Prop :=
  ∀ i y, ys[i]? = some y → ∃ c T fz r, A b = some (.cells c T fz) ∧ relL r (E.enc y) ((c.toList.drop (o + i * E.w)).take E.w)

def evalRows (k : U.K) (x : AV) (h : Heap U) (K : List (U.El k) → Nat → Out U) : Out U :=
  match x with
  | .nilS => K [] 0
  | .sl _ id st w len cap => (match h.get id with
    | some (.cells _ cs) => bif Nat.beq w (U.enc k).w then (match chunkDec (U.enc k) len ((cs.drop (st * (U.enc k).w)).take (len * (U.enc k).w)) with | some ys => K ys cap | none => .bad 420) else .bad 421
    | some (.arr _ k2 xs _) => (match U.dk k2 k with
      | .isTrue hk => bif Nat.beq w (U.enc k).w then .need (st + len ≤ xs.length) (K ((castK hk xs).drop st |>.take len) cap) else .bad 422
      | .isFalse _ => .bad 423)
    | some (.ro k2 xs) => (match U.dk k2 k with
      | .isTrue hk => bif Nat.beq w (U.enc k).w then .need (st + len ≤ xs.length) (K ((castK hk xs).drop st |>.take len) cap) else .bad 424
      | .isFalse _ => .bad 425)
    | _ => .bad 426)
  | _ => .bad 427

theorem rowsIn_sub {α : Type} {A : Hp} {E : Enc α} {b o : Nat} {xs : List α} {st len : Nat} (h : ∀ i x, xs[i]? = some x → ∃ c T fz r, A b = some (.cells c T fz) ∧ relL r (E.enc x) ((c.toList.drop (o + i * E.w)).take E.w)) :
    RowsIn A E b (o + st * E.w) ((xs.drop st).take len) := by
  intro i y hi
  rw [List.getElem?_take] at hi
  split at hi
  · rw [List.getElem?_drop] at hi
    obtain ⟨c, T, fz, r, h1, h2⟩ := h _ y hi
    refine ⟨c, T, fz, r, h1, ?_⟩
    rw [Nat.add_mul] at h2
    rwa [Nat.add_assoc]
  · cases hi

theorem evalRows_sound {M : Goal U} {k : U.K} {x : AV} {h : Heap U} {K : List (U.El k) → Nat → Out U} (H : (evalRows k x h K).holds M) :
    ∃ ys cap, (K ys cap).holds M ∧ ∀ (G : Hp) (r : Nm) (A : Hp) (u : Value), rel r x u → h.den G r A → A.apart G →
      ∃ a, u = .slice a ys.length cap ∧ ys.length ≤ cap ∧ (cap = 0 ∨ ∃ b o, a = some ⟨b, o, none⟩ ∧ RowsIn (A.join G) (U.enc k) b o ys) := by
  unfold evalRows at H
  split at H
  · refine ⟨[], 0, H, fun G r A u hu _ _ => ?_⟩
    simp only [rel] at hu; subst hu; exact ⟨none, rfl, Nat.le_refl _, .inl rfl⟩
  · rename_i kn id st wd len cap
    split at H
    · rename_i T cs hB
      rw [holds_bif] at H
      split at H
      · rename_i hc
        have hwd := Nat.eq_of_beq_eq_true hc
        subst hwd
        split at H
        · rename_i ys hys
          refine ⟨ys, cap, H, fun G r A u hu hd hG => ?_⟩
          obtain ⟨a, rfl, hlc, ha⟩ := hu
          obtain ⟨H1, H2, hq, _, rfl, _, _⟩ := Heap.focus hd hB
          obtain ⟨b, vs, hb, hrl, rfl⟩ := hq
          obtain ⟨h1, h2, h3⟩ := chunkDec_sound hys (relL_take (relL_drop hrl _) _)
          refine ⟨a, by rw [h1], by rw [h1]; exact hlc, ha.imp (fun h => h) fun ⟨y, hy, e⟩ => ?_⟩
          rw [hy] at hb; cases hb
          refine ⟨b, _, e, fun i y hi => ⟨vs.toArray, T, (0, 0), r, ?_, ?_⟩⟩
          · simp [Hp.join, Hp.one]
          · have hlt : i < len := by have := (List.getElem?_eq_some_iff.1 hi).1; omega
            have hm : i * (U.enc k).w + (U.enc k).w ≤ len * (U.enc k).w := by
              have := Nat.mul_le_mul_right (U.enc k).w (show i + 1 ≤ len by omega)
              rwa [Nat.add_mul, Nat.one_mul] at this
            have h4 := h3 i y hi
            rw [List.drop_take, List.take_take, Nat.min_eq_left (by omega), List.drop_drop] at h4
            simpa using h4
        · exact H.elim
      · exact H.elim
    · rename_i T k2 xs sp hB
      split at H
      · rename_i hk _
        rw [holds_bif] at H
        split at H
        · rename_i hwd
          have hwd := Nat.eq_of_beq_eq_true hwd
          obtain ⟨hle, H⟩ := H
          subst hk; subst hwd
          have hlen : (List.take len (List.drop st (castK rfl xs))).length = len := by simp [castK]; omega
          refine ⟨_, cap, H, fun G r A u hu hd hG => ?_⟩
          obtain ⟨a, rfl, hlc, ha⟩ := hu
          refine ⟨a, by rw [hlen], by rw [hlen]; exact hlc, ha.imp (fun h => h) fun ⟨y, hy, e⟩ => ?_⟩
          obtain ⟨H1, H2, hq, _, rfl, _, _⟩ := Heap.focus hd hB
          rcases hq with ⟨hz, _⟩ | ⟨b, c, hb, hrow, _, _, rfl⟩
          · have hx : xs = [] := List.eq_nil_of_length_eq_zero (by omega)
            subst hx
            exact ⟨_, _, e, fun i y hi => by simp [castK] at hi⟩
          · rw [hy] at hb; cases hb
            exact ⟨b, _, e, rowsIn_sub (fun i x hi => ⟨c, T, (0, 0), r, by simp [Hp.join, Hp.one], hrow i x hi⟩)⟩
        · exact H.elim
      · exact H.elim
    · rename_i k2 xs hB
      split at H
      · rename_i hk _
        rw [holds_bif] at H
        split at H
        · rename_i hwd
          have hwd := Nat.eq_of_beq_eq_true hwd
          obtain ⟨hle, H⟩ := H
          subst hk; subst hwd
          have hlen : (List.take len (List.drop st (castK rfl xs))).length = len := by simp [castK]; omega
          refine ⟨_, cap, H, fun G r A u hu hd hG => ?_⟩
          obtain ⟨a, rfl, hlc, ha⟩ := hu
          refine ⟨a, by rw [hlen], by rw [hlen]; exact hlc, ha.imp (fun h => h) fun ⟨y, hy, e⟩ => ?_⟩
          obtain ⟨H1, H2, hq, _, rfl, _, _⟩ := Heap.focus hd hB
          obtain ⟨hall, rfl⟩ := hq
          refine ⟨_, _, e, rowsIn_sub (fun i x hi => ?_)⟩
          obtain ⟨b, o, c, T, fz, hb, hg, hrr⟩ := hall i x hi
          rw [hy] at hb; cases hb
          exact ⟨c, T, fz, r, by rw [Hp.join_comm hG]; simp [Hp.join, hg], hrr⟩
        · exact H.elim
      · exact H.elim
    · exact H.elim
  · exact H.elim

inductive Sg (U : Uni) where
  | int (k : IntKind) | bool | val | el (k : U.K) | rows (k : U.K)
inductive Arg (U : Uni) where
  | int (k : IntKind) (n : Int)
  | bool (b : Bool)
  | val (v : AV)
  | el (k : U.K) (a : U.El k)
  | rows (k : U.K) (ys : List (U.El k)) (cap : Nat)

def evalArg (g : Sg U) (x : AV) (h : Heap U) (K : Arg U → Out U) : Out U :=
  match g with
  | .int k => (match x.num with | some (k', n, _) => bif decide (k' = k) then K (.int k n) else .bad 433 | none => .bad 434)
  | .bool => (match x.bl with | some (b, _) => K (.bool b) | none => .bad 435)
  | .val => bif x.on noName then K (.val x) else .bad 430
  | .el k => (match x with | .agg cs => (match (U.enc k).dec cs with | some a => K (.el k a) | none => .bad 436) | _ => .bad 437)
  | .rows k => evalRows k x h fun ys cap => K (.rows k ys cap)
def evalArgs : List (Sg U) → List AV → Heap U → (List (Arg U) → Out U) → Out U
  | [], [], _, K => K []
  | g :: sg, x :: xs, h, K => evalArg g x h fun a => evalArgs sg xs h fun as => K (a :: as)
  | [], _ :: _, _, _ => .bad 431
  | _ :: _, [], _, _ => .bad 432

def Arg.av (j : Nat) : Arg U → AV
  | .int k n => .int k n
  | .bool b => .bool b
  | .val v => v
  | .el k a => .agg ((U.enc k).enc a)
  | .rows k ys cap => .sl false j 0 (U.enc k).w ys.length cap
def argAV : Nat → List (Arg U) → List AV
  | _, [] => []
  | j, a :: as => a.av j :: argAV (j + 1) as
def argHeap : Nat → List (Arg U) → Heap U
  | _, [] => []
  | j, .rows k ys _ :: as => (j, .ro k ys) :: argHeap (j + 1) as
  | j, .int .. :: as => argHeap (j + 1) as
  | j, .bool _ :: as => argHeap (j + 1) as
  | j, .val _ :: as => argHeap (j + 1) as
  | j, .el .. :: as => argHeap (j + 1) as

theorem evalArg_sound [Bare U] {M : Goal U} {g : Sg U} {x : AV} {h : Heap U} {K : Arg U → Out U} (H : (evalArg g x h K).holds M) :
    ∃ a, (K a).holds M ∧ ∀ (G : Hp) (r : Nm) (A : Hp) (u : Value) (j : Nat) (rt : Nm), rel r x u → h.den G r A → A.apart G → Fresh rt j →
      ∃ r0, rt.le r0 ∧ Fresh r0 (j + 1) ∧ rel r0 (a.av j) u ∧ ∀ as, (∀ s, r0.le s → (argHeap (j + 1) as).den (A.join G) s Hp.nil → (argHeap j (a :: as)).den (A.join G) s Hp.nil) := by
  have plain : ∀ (rt : Nm) (j : Nat), Fresh rt j → Fresh rt (j + 1) := fun rt j hf i hi => hf i (by omega)
  unfold evalArg at H
  split at H
  · split at H
    · rename_i k' n l hx
      rw [holds_bif] at H
      split at H
      · rename_i hk
        simp only [decide_eq_true_eq] at hk; subst hk
        exact ⟨_, H, fun G r A u j rt hu _ _ hf => ⟨rt, Nm.le.refl rt, plain rt j hf, rel_num hx hu, fun as s _ d => d⟩⟩
      · exact H.elim
    · exact H.elim
  · split at H
    · rename_i b l hx
      exact ⟨_, H, fun G r A u j rt hu _ _ hf => ⟨rt, Nm.le.refl rt, plain rt j hf, rel_bl hx hu, fun as s _ d => d⟩⟩
    · exact H.elim
  · rw [holds_bif] at H
    split at H
    · rename_i hx
      exact ⟨_, H, fun G r A u j rt hu _ _ hf => ⟨rt, Nm.le.refl rt, plain rt j hf, rel_closed hx hu, fun as s _ d => d⟩⟩
    · exact H.elim
  · rename_i k
    split at H
    · rename_i cs
      split at H
      · rename_i a ha
        refine ⟨_, H, fun G r A u j rt hu _ _ hf => ⟨rt, Nm.le.refl rt, plain rt j hf, ?_, fun as s _ d => d⟩⟩
        obtain ⟨vs, h1, rfl⟩ := hu
        exact ⟨vs, enc_bare ((U.enc k).back _ _ ha r vs h1), rfl⟩
      · exact H.elim
    · exact H.elim
  · rename_i k
    obtain ⟨ys, cap, H, hrows⟩ := evalRows_sound H
    refine ⟨_, H, fun G r A u j rt hu hd ha hf => ?_⟩
    obtain ⟨a, rfl, hle, hcase⟩ := hrows G r A u hu hd ha
    rcases hcase with hz | ⟨b, o, rfl, hin⟩
    · subst hz
      refine ⟨rt, Nm.le.refl rt, plain rt j hf, ⟨a, rfl, hle, .inl rfl⟩, fun as s _ d => ⟨Hp.nil, Hp.nil, ⟨fun i y hi => ?_, rfl⟩, d, Hp.nil_apart _, rfl⟩⟩
      have : ys = [] := List.eq_nil_of_length_eq_zero (by omega)
      subst this; simp at hi
    · refine ⟨rt.put j (b, o), Nm.le_put (hf j (Nat.le_refl _)), fun i hi => by unfold Nm.put; rw [if_neg (by omega)]; exact hf i (by omega),
        ⟨_, rfl, hle, .inr ⟨_, Nm.put_self rt j (b, o), by simp⟩⟩, fun as s hs d => ⟨Hp.nil, Hp.nil, ⟨fun i y hi => ?_, rfl⟩, d, Hp.nil_apart _, rfl⟩⟩
      obtain ⟨c, T, fz, r1, g1, g2⟩ := hin i y hi
      exact ⟨b, o, c, T, fz, hs _ _ (Nm.put_self rt j (b, o)), g1, enc_bare g2⟩

theorem evalArgs_sound [Bare U] {M : Goal U} : ∀ {sg : List (Sg U)} {xs : List AV} {h : Heap U} {K : List (Arg U) → Out U}, (evalArgs sg xs h K).holds M →
    ∃ as, (K as).holds M ∧ ∀ (G : Hp) (r : Nm) (A : Hp) (us : List Value) (base : Nat) (rt : Nm), relL r xs us → h.den G r A → A.apart G → Fresh rt base →
      ∃ r0, rt.le r0 ∧ Fresh r0 (base + as.length) ∧ relL r0 (argAV base as) us ∧ (argHeap base as).den (A.join G) r0 Hp.nil
  | [], [], h, K, H => ⟨[], H, fun G r A us base rt hr _ _ hf => ⟨rt, Nm.le.refl rt, hf, hr, rfl⟩⟩
  | g :: sg, x :: xs, h, K, H => by
    obtain ⟨a, H, h1⟩ := evalArg_sound H
    obtain ⟨as, hK, ih⟩ := evalArgs_sound H
    refine ⟨_, hK, fun G r A us base rt hr hd ha hf => ?_⟩
    simp only [relL] at hr
    obtain ⟨u, us, rfl, hr1, hr2⟩ := hr
    obtain ⟨r1, a1, a2, a3, a4⟩ := h1 G r A u base rt hr1 hd ha hf
    obtain ⟨r0, k1, k2, k3, k4⟩ := ih G r A us (base + 1) r1 hr2 hd ha a2
    exact ⟨r0, a1.trans k1, by rw [List.length_cons, ← Nat.add_assoc, Nat.add_right_comm]; exact k2, relL_cons.2 ⟨rel_mono k1 _ _ a3, k3⟩, a4 as r0 k1 k4⟩
  | [], _ :: _, _, _, H => H.elim
  | _ :: _, [], _, _, H => H.elim

/-! ## objects -/
abbrev Tm (U : Uni) := U.O → Heap U → Nat → Prop
/-- How objects lie. -/
def Laid (U : Uni) (tm : Tm U) : Prop := ∀ x b H, U.D x b H ↔ ∃ hp n r, tm x hp n ∧ r 0 = some (b, 0) ∧ Fresh r n ∧ Heap.den Hp.nil r hp H

/-- One heap for another, under the same names. -/
def HImp (n : Nat) (h h' : Heap U) : Prop := ∀ (G : Hp) (r : Nm) (H : Hp), Fresh r n → h.den G r H → ∃ H1 H2, h'.den G r H1 ∧ H1.apart H2 ∧ H = H1.join H2
theorem HImp.refl (n : Nat) (h : Heap U) : HImp n h h := fun _ _ H _ d => ⟨H, Hp.nil, d, (Hp.nil_apart H).symm, (Hp.join_nil H).symm⟩

def delAll (f : Nat → Nat) : Heap U → Heap U → Heap U
  | h, [] => h
  | h, (id, _) :: l => delAll f (h.del (f id)) l

theorem heapSub_rest [Plain U] {f : Nat → Nat} {G : Hp} {r : Nm} : ∀ {l h : Heap U} {H : Hp}, HeapSub f h l → h.den G r H →
    ∃ H1 H2, l.den G (fun i => r (f i)) H1 ∧ H1.apart H2 ∧ H = H1.join H2 ∧ (delAll f h l).den G r H2
  | [], h, H, _, hd => ⟨Hp.nil, H, rfl, Hp.nil_apart H, rfl, hd⟩
  | (id, B) :: l, h, H, ⟨hb, hl⟩, hd => by
    cases hg : h.get (f id) with
    | none =>
      rw [hg] at hb
      have hdel : h.del (f id) = h := by
        clear hl hb hd
        induction h with
        | nil => rfl
        | cons q h ih =>
          obtain ⟨i, C⟩ := q
          unfold Heap.get at hg
          cases e : Nat.beq i (f id) with
          | true => rw [e] at hg; simp at hg
          | false => rw [e] at hg; simp at hg; unfold Heap.del; rw [e]; simp [ih hg]
      rw [hdel] at hl
      obtain ⟨H1, H2, h1, h2, h3, h4⟩ := heapSub_rest hl hd
      refine ⟨H1, H2, ⟨Hp.nil, H1, ?_, h1, Hp.nil_apart _, rfl⟩, h2, h3, by unfold delAll; rw [hdel]; exact h4⟩
      cases B with
      | arr T k xs sp =>
        simp only [Blk.ren] at hb
        cases hb
        exact .inl ⟨rfl, rfl⟩
      | _ => simp only [Blk.ren] at hb; cases hb
    | some C =>
      rw [hg] at hb
      obtain ⟨K1, K2, k1, k2, k3, k4, _⟩ := Heap.focus hd hg
      obtain ⟨H1, H2, h1, h2, h3, h4⟩ := heapSub_rest hl k4
      subst h3; subst k3
      have q := Hp.apart_join.1 k2
      refine ⟨K1.join H1, H2, ⟨K1, H1, Blk.den_ren (hb.den k1), h1, q.1, rfl⟩, Hp.join_apart.2 ⟨q.2, h2⟩, by rw [Hp.join_assoc], h4⟩

theorem mkF_fresh {r : Nm} {n' n : Nat} {ren : List (Nat × Nat)} (hf : Fresh r n') (hk : (ren.all fun q => Nat.blt q.1 n) = true) : Fresh (fun i => r (mkF 0 ren n' i)) n := by
  intro i hi
  have hb : Nat.blt i 0 = false := rfl
  simp only [mkF, hb, cond_false]
  cases hl : ren.lookup i with
  | none => exact hf _ (by show n' ≤ n' + i; omega)
  | some j =>
    exfalso
    have hm : (i, j) ∈ ren := by
      clear hk
      induction ren with
      | nil => simp at hl
      | cons q ren ih =>
        obtain ⟨k, l⟩ := q
        rw [List.lookup_cons] at hl
        split at hl
        · rename_i e; simp at e; cases hl; subst e; simp
        · exact List.mem_cons_of_mem _ (ih hl)
    have := List.all_eq_true.1 hk (i, j) hm
    simp only [Nat.blt_eq] at this
    omega

/-- Several blocks packed into one object. -/
theorem pack [Plain U] {tm : Tm U} (hL : Laid U tm) {x : U.O} {T : Nat} {cs : List AV} {hp h : Heap U} {n n' m : Nat} {ren : List (Nat × Nat)} (ht : tm x ((0, .cells T cs) :: hp) n)
    (hk : (ren.all fun q => Nat.blt q.1 n) = true) (hm : mkF 0 ren n' 0 = m) (hs : HeapSub (mkF 0 ren n') h ((0, .cells T cs) :: hp)) (hro : (hp.all fun q => q.2.noRo) = true) :
    HImp n' h ((m, .obj x) :: delAll (mkF 0 ren n') h ((0, .cells T cs) :: hp)) := by
  intro G r H hf hd
  obtain ⟨H1, H2, h1, h2, h3, h4⟩ := heapSub_rest hs hd
  subst h3
  refine ⟨H1.join H2, Hp.nil, ⟨H1, H2, ?_, h4, h2, rfl⟩, (Hp.nil_apart _).symm, (Hp.join_nil _).symm⟩
  have h1' := h1
  obtain ⟨K1, K2, ⟨b, vs, hb, _, _⟩, _, _, _⟩ := h1'
  refine ⟨b, by rw [← hm]; exact hb, (hL x b H1).2 ⟨_, n, _, ht, hb, mkF_fresh hf hk, Heap.den_G ?_ h1⟩⟩
  simp only [List.all_cons, hro, Bool.and_true]
  rfl

/-! ## new blocks -/
def newAt : Nat → List (Blk U) → Heap U
  | _, [] => []
  | j, B :: E => (j, B) :: newAt (j + 1) E
def newFree : Nat → List (Blk U) → Heap U → Bool
  | _, [], _ => true
  | j, _ :: E, h => (h.get j).isNone && newFree (j + 1) E h
def shf (n nx i : Nat) : Nat := nx + (i - n)

theorem newAt_den [Bare U] {G G' : Hp} {r s : Nm} : ∀ {E : List (Blk U)} {i j : Nat} {H : Hp}, (E.all Blk.bare) = true → (∀ k, k < E.length → r (i + k) = s (j + k)) → (newAt i E).den G r H → (newAt j E).den G' s H
  | [], _, _, _, _, _, d => d
  | B :: E, i, j, H, hb, hrs, ⟨H1, H2, a, b, c, d⟩ => by
    simp only [List.all_cons, Bool.and_eq_true] at hb
    exact ⟨H1, H2, Blk.den_at hb.1 (by simpa using hrs 0 (by simp)) a, newAt_den hb.2 (fun k hk => by
      have := hrs (k + 1) (by simpa using hk)
      rwa [show i + (k + 1) = i + 1 + k by omega, show j + (k + 1) = j + 1 + k by omega] at this) b, c, d⟩

theorem newFree_get {h : Heap U} : ∀ {E : List (Blk U)} {j id : Nat} {B : Blk U} {l : Heap U}, newFree j E h = true → h.get id = some B → l.get id = some B → (newAt j E ++ l).get id = some B
  | [], _, _, _, _, _, _, e => e
  | C :: E, j, id, B, l, hf, hg, e => by
    simp only [newFree, Bool.and_eq_true] at hf
    have hne : id ≠ j := fun hh => by subst hh; rw [hg] at hf; simp at hf
    show Heap.get ((j, C) :: (newAt (j + 1) E ++ l)) id = some B
    rw [Heap.get_cons_ne hne]
    exact newFree_get hf.2 hg e

/-- How a function leaves off, in its own names: what it tells, and the new blocks. -/
structure Fin (n n' : Nat) (v0 : AV) (h2 : Heap U) (v : AV) (E : List (Blk U)) : Prop where
  sub : ∃ f : Nat → Nat, HeapSub f h2 (newAt n E) ∧ v0.sub (v.ren f)
  bare : E.all Blk.bare = true
  on : v.on (fun i => Nat.ble n i && Nat.blt i (n + E.length)) = true

theorem Fin.plain {n n' : Nat} {v0 : AV} {h2 : Heap U} {v : AV} (h : v0.sub v) (hv : v.on noName = true) : Fin n n' v0 h2 v ([] : List (Blk U)) := by
  refine ⟨⟨fun i => i, trivial, fun r z hz => rel_ren' v z (h r z hz)⟩, rfl, ?_⟩
  have key : ∀ (p : Nat → Bool) (x : AV), x.on noName = true → x.on p = true := by
    intro p x
    exact AV.rec (motive_1 := fun x => x.on noName = true → x.on p = true) (motive_2 := fun l => AV.onL noName l = true → AV.onL p l = true)
      (fun _ _ => rfl) (fun _ _ _ => rfl) (fun _ _ _ => rfl) (fun _ => rfl) (fun _ => rfl) (fun _ _ => rfl) (fun _ _ _ => rfl) (fun _ => rfl)
      (fun _ _ h => by simp [AV.on, noName] at h) (fun _ _ _ _ h => by simp [AV.on, noName] at h) (fun _ => rfl) (fun _ _ _ _ _ _ h => by simp [AV.on, noName] at h)
      (fun _ ih h => ih h) (fun _ ih h => ih h) (fun _ _ _ i1 i2 h => by simp only [AV.on, Bool.and_eq_true] at h ⊢; exact ⟨i1 h.1, i2 h.2⟩)
      (fun _ => rfl) (fun _ h => by simp [AV.on, noName] at h) (fun _ => rfl) (fun _ _ ih h => ih h) (fun _ => rfl) (fun _ _ => rfl) (fun _ _ _ _ => rfl) (fun _ _ _ _ => rfl) (fun _ => rfl)
      (fun _ => rfl) (fun _ _ i1 i2 h => by simp only [AV.onL, Bool.and_eq_true] at h ⊢; exact ⟨i1 h.1, i2 h.2⟩) x
  exact key _ v hv

end
end Sx
end Go.Proofs.YtnegocgblmdihaaGreatDoor

/-
  What a function does, told once for all callers: of one object and rows, or of rows alone.
-/
namespace Go.Proofs.YtnegocgblmdihaaGreatDoor
namespace Sx
open Go

section
variable {U : Uni} {P : Program}

abbrev RunObj (U : Uni) := U.O → List (Arg U) → (AV → U.O → List (Blk U) → Out U) → Out U
abbrev RunFree (U : Uni) := List (Arg U) → (AV → List (Blk U) → Out U) → Out U

def hookObj (n : Nat) (sg : List (Sg U)) (run : RunObj U) : HookS U := fun args h nx K =>
  match args with
  | .ptr id off :: rest => bif Nat.beq off 0 then (match h.get id with
    | some (.obj x) => evalArgs sg rest (h.del id) fun as => run x as fun v x' E =>
        bif newFree nx E h then K (v.ren (shf n nx)) (newAt nx E ++ h.set id (.obj x')) (nx + E.length) [id] else .bad 440
    | _ => .bad 441) else .bad 442
  | _ => .bad 443

def hookFree (sg : List (Sg U)) (run : RunFree U) : HookS U := fun args h nx K =>
  evalArgs sg args h fun as => run as fun v E =>
    bif newFree nx E h then K (v.ren (shf 0 nx)) (newAt nx E ++ h) (nx + E.length) [] else .bad 444

def HasFn (P : Program) (f : Nat) : Prop := ∃ fn, P.funcs[f]? = some fn ∧ (fn.name == "runtime.NumGoroutine") = false ∧ fn.body.isNone = false

/-- The callee's end, in its own names: its object, and what it tells and leaves besides. -/
def EndObj (n n' : Nat) (v0 : AV) (h' : Heap U) (v : AV) (x' : U.O) (E : List (Blk U)) : Prop :=
  ∃ h2, HImp n' h' h2 ∧ h2.get 0 = some (.obj x') ∧ Fin n n' v0 (h2.del 0) v E
def EndFree (n' : Nat) (v0 : AV) (h' : Heap U) (v : AV) (E : List (Blk U)) : Prop :=
  ∃ h2, HImp n' h' h2 ∧ Fin 0 n' v0 h2 v E

theorem hookObj_ok [Plain U] [Bare U] {tm : Tm U} (hL : Laid U tm) {f n0 : Nat} {sg : List (Sg U)} {run : RunObj U} (hfn : HasFn P f)
    (hcall : ∀ (M : Goal U) x as K0, (run x as K0).holds M → ∀ hp n, tm x hp n → n = n0 ∧
      CallsSx P f (.ptr 0 0 :: argAV n as) (hp ++ argHeap n as) (n + as.length) (fun v0 h' n' _ => ∃ v x' E, (K0 v x' E).holds M ∧ EndObj n n' v0 h' v x' E)) :
    HookOk P f (hookObj n0 sg run) := by
  intro M args h nx K H
  unfold hookObj at H
  split at H
  · rename_i id off rest
    rw [holds_bif] at H
    split at H
    · rename_i hoff
      have hoff := Nat.eq_of_beq_eq_true hoff
      subst hoff
      split at H
      · rename_i x hg
        obtain ⟨as, H, hargs⟩ := evalArgs_sound H
        refine ⟨hfn, fun β r vs w hr hs hfresh => ?_⟩
        simp only [relL] at hr
        obtain ⟨u0, us, rfl, hu0, hus⟩ := hr
        obtain ⟨hm, A, hd, hap, hin⟩ := hs
        obtain ⟨H1, H2, q1, q2, rfl, q4, q5⟩ := Heap.focus hd hg
        obtain ⟨b, hb, hD⟩ := q1
        obtain ⟨hp, n, rt, ht, h0, hft, hden⟩ := (hL x b H1).1 hD
        obtain ⟨hn, hc⟩ := hcall M x as _ H hp n ht
        subst hn
        have ap := Hp.join_apart.1 hap
        obtain ⟨r0, k1, k2, k3, k4⟩ := hargs β.G r H2 us n rt hus q4 ap.2 hft
        obtain ⟨y, hy, rfl⟩ := hu0
        rw [hb] at hy; cases hy
        have hin2 := (Hp.inW_join q2).1 hin
        have hGin : (H2.join β.G).inW w := (Hp.inW_join ap.2).2 ⟨hin2.2, hm.G⟩
        have hsat : Sat ⟨H2.join β.G, β.os, β.output, β.tape⟩ r0 (hp ++ argHeap n as) w :=
          ⟨⟨hm.os, hm.output, hm.tape, hGin⟩, H1.join Hp.nil, Heap.den_append (Heap.den_mono k1 (Heap.den_nil hden)) k4 (Hp.apart_nil _), by rw [Hp.join_nil]; exact Hp.apart_join.2 ⟨q2, ap.1⟩, by rw [Hp.join_nil]; exact hin2.1⟩
        refine (hc.2 _ r0 _ w (relL_cons.2 ⟨⟨(b, 0), k1 _ _ h0, rfl⟩, k3⟩) hsat k2).mono fun e w' hh => ?_
        obtain ⟨v0, h', n', T, z, r', rfl, ⟨v, x', E, hK, h2, himp, hx', hfin⟩, g1, g2, g3, g4, _⟩ := hh
        rw [holds_bif] at hK
        split at hK
        · rename_i hfree
          obtain ⟨hm', A', hd', hap', hin'⟩ := g4
          obtain ⟨B1, B2, p1, p2, rfl⟩ := himp _ _ _ g2 hd'
          obtain ⟨A1, A2, ⟨b', hb', hDx⟩, a2, rfl, a4, _⟩ := Heap.focus p1 hx'
          have hbb : b' = b := by
            have := g1 _ _ (k1 _ _ h0); rw [this] at hb'; cases hb'; rfl
          subst hbb
          obtain ⟨⟨f2, hsub, hv0⟩, hbare, hon⟩ := hfin
          obtain ⟨C1, C2, c1, c2, rfl⟩ := heapSub_den hsub a4
          have hdis := Hp.join_apart.1 hap'
          have hdis1 := Hp.join_apart.1 hdis.1
          have hdis2 := Hp.join_apart.1 hdis1.2
          have aA1 := Hp.apart_join.1 hdis1.1
          have aC1 := Hp.apart_join.1 hdis2.1
          have aAC := Hp.apart_join.1 a2
          let rr : Nm := fun i => if i < nx then r i else if i < nx + E.length then r' (f2 (n + (i - nx))) else none
          have hle : r.le rr := fun i y e => by
            show (if i < nx then r i else _) = _
            rw [if_pos (Nat.lt_of_not_le fun hh => by rw [hfresh i hh] at e; cases e)]; exact e
          have hset := q5 rr (.obj x') A1 hle ⟨b', hle _ _ hb, hDx⟩ aA1.1
          have hnew : (newAt nx E).den β.G rr C1 := newAt_den hbare (fun k hk => by
            show r' (f2 (n + k)) = (if nx + k < nx then _ else if nx + k < nx + E.length then _ else _)
            rw [if_neg (by omega), if_pos (by omega), Nat.add_sub_cancel_left]) c1
          have hinA := (Hp.inW_join p2).1 hin'
          have hinA1 := (Hp.inW_join a2).1 hinA.1
          have hinC := (Hp.inW_join c2).1 hinA1.2
          have hG' := (Hp.inW_join ap.2).1 hm'.G
          refine ⟨v.ren (shf n nx), _, _, _, z, rr, rfl, hK, hle, fun i hi => ?_, ?_, ⟨⟨hm'.os, hm'.output, hm'.tape, hG'.2⟩, C1.join (A1.join H2), ?_, ?_, ?_⟩, ?_⟩
          · show (if i < nx then _ else if i < nx + E.length then _ else none) = none
            rw [if_neg (by omega), if_neg (by omega)]
          · have h1 := rel_ren _ _ (hv0 _ _ g3)
            refine rel_ren' _ _ (rel_on (r := fun i => r' (f2 i)) (fun i hi => ?_) v z hon h1)
            simp only [Bool.and_eq_true] at hi
            have i1 := Nat.le_of_ble_eq_true hi.1
            have i2 : i < n + E.length := by have := hi.2; rwa [Nat.blt_eq] at this
            show r' (f2 i) = (if shf n nx i < nx then _ else if shf n nx i < nx + E.length then r' (f2 (n + (shf n nx i - nx))) else _)
            unfold shf
            rw [if_neg (by omega), if_pos (by omega)]
            congr 2; omega
          · exact Heap.den_append hnew hset (Hp.apart_join.2 ⟨aAC.1.symm, aC1.1⟩)
          · exact Hp.join_apart.2 ⟨aC1.2, Hp.join_apart.2 ⟨aA1.2, ap.2⟩⟩
          · exact (Hp.inW_join (Hp.apart_join.2 ⟨aAC.1.symm, aC1.1⟩)).2 ⟨hinC.1, (Hp.inW_join aA1.1).2 ⟨hinA1.1, hG'.1⟩⟩
          · refine Kept.of fun id2 B2 e2 hn2 => ?_
            have hne : id2 ≠ id := fun hh => hn2 (by simp [hh])
            exact newFree_get hfree e2 (by rw [Heap.get_set_ne hne]; exact e2)
        · exact hK.elim
      · exact H.elim
    · exact H.elim
  · exact H.elim

theorem hookFree_ok [Plain U] [Bare U] {f : Nat} {sg : List (Sg U)} {run : RunFree U} (hfn : HasFn P f)
    (hcall : ∀ (M : Goal U) as K0, (run as K0).holds M →
      CallsSx P f (argAV 0 as) (argHeap 0 as) as.length (fun v0 h' n' _ => ∃ v E, (K0 v E).holds M ∧ EndFree n' v0 h' v E)) :
    HookOk P f (hookFree sg run) := by
  intro M args h nx K H
  unfold hookFree at H
  obtain ⟨as, H, hargs⟩ := evalArgs_sound H
  refine ⟨hfn, fun β r vs w hr hs hfresh => ?_⟩
  obtain ⟨hm, H2, hd, hap, hin⟩ := hs
  have hc := hcall M as _ H
  obtain ⟨r0, k1, k2, k3, k4⟩ := hargs β.G r H2 vs 0 (fun _ => none) hr hd hap (fun _ _ => rfl)
  have hGin : (H2.join β.G).inW w := (Hp.inW_join hap).2 ⟨hin, hm.G⟩
  have hsat : Sat ⟨H2.join β.G, β.os, β.output, β.tape⟩ r0 (argHeap 0 as) w :=
    ⟨⟨hm.os, hm.output, hm.tape, hGin⟩, Hp.nil, k4, Hp.nil_apart _, Hp.inW_nil w⟩
  refine (hc.2 _ r0 _ w k3 hsat (by rw [Nat.zero_add] at k2; exact k2)).mono fun e w' hh => ?_
  obtain ⟨v0, h', n', T, z, r', rfl, ⟨v, E, hK, h2, himp, hfin⟩, g1, g2, g3, g4, _⟩ := hh
  rw [holds_bif] at hK
  split at hK
  · rename_i hfree
    obtain ⟨hm', A', hd', hap', hin'⟩ := g4
    obtain ⟨B1, B2, p1, p2, rfl⟩ := himp _ _ _ g2 hd'
    obtain ⟨⟨f2, hsub, hv0⟩, hbare, hon⟩ := hfin
    obtain ⟨C1, C2, c1, c2, rfl⟩ := heapSub_den hsub p1
    have hdis := Hp.join_apart.1 hap'
    have hdis2 := Hp.join_apart.1 hdis.1
    have aC1 := Hp.apart_join.1 hdis2.1
    let rr : Nm := fun i => if i < nx then r i else if i < nx + E.length then r' (f2 (0 + (i - nx))) else none
    have hle : r.le rr := fun i y e => by
      show (if i < nx then r i else _) = _
      rw [if_pos (Nat.lt_of_not_le fun hh => by rw [hfresh i hh] at e; cases e)]; exact e
    have hnew : (newAt nx E).den β.G rr C1 := newAt_den hbare (fun k hk => by
      show r' (f2 (0 + k)) = (if nx + k < nx then _ else if nx + k < nx + E.length then _ else _)
      rw [if_neg (by omega), if_pos (by omega), Nat.add_sub_cancel_left]) c1
    have hinA := (Hp.inW_join p2).1 hin'
    have hinC := (Hp.inW_join c2).1 hinA.1
    have hG' := (Hp.inW_join hap).1 hm'.G
    refine ⟨v.ren (shf 0 nx), _, _, _, z, rr, rfl, hK, hle, fun i hi => ?_, ?_, ⟨⟨hm'.os, hm'.output, hm'.tape, hG'.2⟩, C1.join H2, ?_, ?_, ?_⟩, ?_⟩
    · show (if i < nx then _ else if i < nx + E.length then _ else none) = none
      rw [if_neg (by omega), if_neg (by omega)]
    · have h1 := rel_ren _ _ (hv0 _ _ g3)
      refine rel_ren' _ _ (rel_on (r := fun i => r' (f2 i)) (fun i hi => ?_) v z hon h1)
      simp only [Bool.and_eq_true] at hi
      have i2 : i < 0 + E.length := by have := hi.2; rwa [Nat.blt_eq] at this
      show r' (f2 i) = (if shf 0 nx i < nx then _ else if shf 0 nx i < nx + E.length then r' (f2 (0 + (shf 0 nx i - nx))) else _)
      unfold shf
      rw [if_neg (by omega), if_pos (by omega)]
      congr 2; omega
    · exact Heap.den_append hnew (Heap.den_mono hle hd) aC1.1
    · exact Hp.join_apart.2 ⟨aC1.2, hap⟩
    · exact (Hp.inW_join aC1.1).2 ⟨hinC.1, hG'.1⟩
    · refine Kept.of fun id2 B2 e2 hn2 => ?_
      exact newFree_get hfree e2 e2
  · exact hK.elim

/-- A run of the body is a call. -/
theorem calls_of_run {C : Cfg P U} (hC : C.ok) {M : Goal U} {n g : Nat} {fn : Func} (h1 : P.funcs[g]? = some fn) (h2 : (fn.name == "runtime.NumGoroutine") = false) {body : Code} (hb : fn.body = some body) {args : List AV} (hl : args.length ≤ fn.ntmps) {h : Heap U} {nx : Nat}
    {R : AV → Heap U → Nat → List Nat → Prop} {k : AV → Heap U → Nat → List Nat → Out U} (hk : ∀ v h' nx' T, (k v h' nx' T).holds M → R v h' nx' T)
    (H : (runCode C n g body ⟨argsEnv 0 args, h, nx, fn.ntmps, []⟩ (fun e s' => match e with
                | .nx => resAll C.τ fn s' fun v => k v s'.heap s'.nx s'.tl
                | .rt => resAll C.τ fn s' fun v => k v s'.heap s'.nx s'.tl
                | .ex _ => .bad 301)).holds M) : CallsSx P g args h nx R := by
  refine ⟨⟨fn, h1, h2, by rw [hb]; rfl⟩, fun β r vs w hr hs hf => ?_⟩
  obtain ⟨e1, e2⟩ := entry_ok hr fn.ntmps hl
  refine calls_of_wp h1 hb (runCode_sound hC n g body _ _ H β r _ w ⟨hs, hf, e1, e2, rfl⟩ _ ?_)
  have fin : ∀ (s' : St U) (r' : Nm) (a' : Act) (w' : World), (resAll C.τ fn s' fun v => k v s'.heap s'.nx s'.tl).holds M → r.le r' → SatS β r' s' a' w' → Fr (⟨argsEnv 0 args, h, nx, fn.ntmps, []⟩ : St U) s' →
      a'.defers = [] ∧ ∃ v, (results fn a'.tmps).run P w' = .ok v w' ∧ ∃ av h' nx' T z r', (Ending.returned v) = .returned z ∧ R av h' nx' T ∧ r.le r' ∧ Fresh r' nx' ∧ rel r' av z ∧ Sat β r' h' w' ∧ Kept h h' T := by
    intro s' r' a' w' hres hle hs' hfr
    obtain ⟨v, hK, hh⟩ := resAll_sound hC.τ hres
    obtain ⟨z, hz, hrz⟩ := hh β r' a' w' hs'
    exact ⟨hs'.defers, z, hz, v, s'.heap, s'.nx, s'.tl, z, r', rfl, hk _ _ _ _ hK, hle, hs'.fresh, hrz, hs'.sat, hfr.kept⟩
  intro e s' r' a' w' hR hle hs' hfr
  cases e with
  | nx => exact fin s' r' a' w' hR hle hs' hfr
  | rt => exact fin s' r' a' w' hR hle hs' hfr
  | ex j => exact hR.elim

end
end Sx
end Go.Proofs.YtnegocgblmdihaaGreatDoor

/-
  Objects made of plainer blocks: a universe with such objects besides.
-/
namespace Go.Proofs.YtnegocgblmdihaaGreatDoor
namespace Sx
open Go

abbrev Uni.plus (U : Uni) (O : Type) (tm : O → Heap U → Nat → Prop) : Uni :=
  ⟨U.K, U.dk, U.El, U.enc, U.O ⊕ O, fun x b H => match x with
    | .inl x => U.D x b H
    | .inr x => ∃ hp n r, tm x hp n ∧ r 0 = some (b, 0) ∧ Fresh r n ∧ Heap.den Hp.nil r hp H⟩

section
variable {U : Uni} {O : Type} {tm : O → Heap U → Nat → Prop}

def Blk.up : Blk U → Blk (U.plus O tm)
  | .cells T cs => .cells T cs
  | .arr T k xs sp => .arr T k xs sp
  | .ro k xs => .ro k xs
  | .mp kk k m => .mp kk k m
  | .obj x => .obj (.inl x)
  | .pool p => .pool p
  | .rpool f => .rpool f
def Heap.up : Heap U → Heap (U.plus O tm)
  | [] => []
  | (i, B) :: h => (i, B.up) :: Heap.up h

theorem Blk.den_up {G : Hp} {r : Nm} {i : Nat} {H : Hp} {B : Blk U} : (B.up : Blk (U.plus O tm)).den G r i H ↔ B.den G r i H := by cases B <;> exact Iff.rfl
theorem Heap.den_up {G : Hp} {r : Nm} : ∀ {h : Heap U} {H : Hp}, (h.up : Heap (U.plus O tm)).den G r H ↔ h.den G r H
  | [], _ => Iff.rfl
  | (i, B) :: h, H => by
    show (∃ H1 H2, _ ∧ _ ∧ _ ∧ _) ↔ (∃ H1 H2, _ ∧ _ ∧ _ ∧ _)
    constructor
    · rintro ⟨H1, H2, a, b, c, d⟩; exact ⟨H1, H2, Blk.den_up.1 a, Heap.den_up.1 b, c, d⟩
    · rintro ⟨H1, H2, a, b, c, d⟩; exact ⟨H1, H2, Blk.den_up.2 a, Heap.den_up.2 b, c, d⟩

def tmUp (tm0 : Tm U) (tm : O → Heap U → Nat → Prop) : Tm (U.plus O tm) := fun x hp n => ∃ h : Heap U, hp = h.up ∧ (match x with | .inl x => tm0 x h n | .inr x => tm x h n)

theorem laid_plus {tm0 : Tm U} (h0 : Laid U tm0) : Laid (U.plus O tm) (tmUp tm0 tm) := by
  intro x b H
  cases x with
  | inl x =>
    refine (h0 x b H).trans ⟨fun ⟨hp, n, r, a, b, c, d⟩ => ⟨hp.up, n, r, ⟨hp, rfl, a⟩, b, c, Heap.den_up.2 d⟩, fun ⟨hp, n, r, ⟨h, e, a⟩, b, c, d⟩ => ?_⟩
    subst e; exact ⟨h, n, r, a, b, c, Heap.den_up.1 d⟩
  | inr x =>
    refine ⟨fun ⟨hp, n, r, a, b, c, d⟩ => ⟨hp.up, n, r, ⟨hp, rfl, a⟩, b, c, Heap.den_up.2 d⟩, fun ⟨hp, n, r, ⟨h, e, a⟩, b, c, d⟩ => ?_⟩
    subst e; exact ⟨h, n, r, a, b, c, Heap.den_up.1 d⟩

instance plainPlus [Plain U] : Plain (U.plus O tm) := ⟨fun k a f => Plain.enc (U := U) k a f⟩
instance barePlus [Bare U] : Bare (U.plus O tm) := ⟨fun k a => Bare.enc (U := U) k a⟩
end
end Sx
end Go.Proofs.YtnegocgblmdihaaGreatDoor

/-
  One state for another, world by world; objects unpacked into their blocks; loops in that wider sense.
-/
namespace Go.Proofs.YtnegocgblmdihaaGreatDoor
namespace Sx
open Go

section
variable {U : Uni} {P : Program}

/-- In each world some state of the family holds. -/
def SImp {Ya : Type} (nx0 : Nat) (s : St U) (T : Ya → St U) (c : Ya → Prop) : Prop :=
  ∀ (β : Base) (r : Nm) (a : Act) (w : World), SatS β r s a w → ∃ y r', c y ∧ (∀ i x, i < nx0 → r i = some x → r' i = some x) ∧ SatS β r' (T y) a w ∧ Fr s (T y)

theorem SImp.of_wk [Plain U] {Ya : Type} {nx0 : Nat} {ren : List (Nat × Nat)} {s : St U} {T : Ya → St U} {c : Ya → Prop} (y : Ya) (h : Wk nx0 ren s (T y)) (hc : c y) : SImp nx0 s T c :=
  fun _ _ _ _ hs => let ⟨r', h1, h2, h3⟩ := h.ok hs; ⟨y, r', hc, h1, h2, h3⟩

theorem SImp.bind {Ya Za : Type} {nx0 : Nat} {s : St U} {T : Ya → St U} {c : Ya → Prop} {R : Za → St U} {d : Za → Prop} (h : SImp nx0 s T c) (k : ∀ y, c y → SImp nx0 (T y) R d) : SImp nx0 s R d := by
  intro β r a w hs
  obtain ⟨y, r1, hc, h1, h2, h3⟩ := h β r a w hs
  obtain ⟨z, r2, hd, k1, k2, k3⟩ := k y hc β r1 a w h2
  exact ⟨z, r2, hd, fun i x hi e => k1 i x hi (h1 i x hi e), k2, h3.trans k3⟩

/-! ## unpacking -/
theorem Blk.den_ren' [Bare U] {G : Hp} {r : Nm} {f : Nat → Nat} {id : Nat} {B : Blk U} {H : Hp} (h : B.den G (fun i => r (f i)) id H) : (B.ren f).den G r (f id) H := by
  cases B with
  | cells T cs => obtain ⟨b, vs, h1, h2, h3⟩ := h; exact ⟨b, vs, h1, relL_ren' _ _ h2, h3⟩
  | arr T k xs sp =>
    rcases h with h | ⟨b, c, h1, h2, h3, h4, h5⟩
    · exact .inl h
    · exact .inr ⟨b, c, h1, fun i x e => enc_bare (h2 i x e), h3, h4, h5⟩
  | ro k xs =>
    obtain ⟨h1, h2⟩ := h
    exact ⟨fun i x e => let ⟨b, o, c, T, fz, a1, a2, a3⟩ := h1 i x e; ⟨b, o, c, T, fz, a1, a2, enc_bare a3⟩, h2⟩
  | mp kk k m => obtain ⟨b, es, cl, h1, h2, h3⟩ := h; exact ⟨b, es, cl, h1, relM_bare h2, h3⟩
  | obj x => obtain ⟨b, h1, h2⟩ := h; exact ⟨b, h1, h2⟩
  | pool p => exact h
  | rpool f => exact h

def renAll (f : Nat → Nat) : Heap U → Heap U
  | [] => []
  | (i, B) :: h => (f i, B.ren f) :: renAll f h
theorem renAll_den [Bare U] {G : Hp} {r : Nm} {f : Nat → Nat} : ∀ {h : Heap U} {H : Hp}, h.den G (fun i => r (f i)) H → (renAll f h).den G r H
  | [], _, d => d
  | (_, _) :: _, _, ⟨H1, H2, a, b, c, d⟩ => ⟨H1, H2, Blk.den_ren' a, renAll_den b, c, d⟩

/-- Where an object's inner names go: 0 to its own, the others behind a base. -/
def openF (id base j : Nat) : Nat := bif Nat.beq j 0 then id else base + j

theorem unpack [Bare U] {tm : Tm U} (hL : Laid U tm) {s : St U} {id base : Nat} {x : U.O} (hg : s.heap.get id = some (.obj x)) (hid : id < base) (hb : s.nx ≤ base) {nx0 : Nat} (h0 : nx0 ≤ base) :
    SImp nx0 s (fun q : Heap U × Nat => { s with heap := s.heap.del id ++ renAll (openF id base) q.1, nx := base + q.2, tl := id :: s.tl }) (fun q => tm x q.1 q.2) := by
  intro β r a w hs
  obtain ⟨hm, H, hd, hap, hin⟩ := hs.sat
  obtain ⟨H1, H2, ⟨b, hbn, hD⟩, q2, rfl, q4, _⟩ := Heap.focus hd hg
  obtain ⟨hp, n, rt, ht, hz, hft, hden⟩ := (hL x b H1).1 hD
  let rr : Nm := fun i => if i < base then r i else rt (i - base)
  have hdom : ∀ i y, r i = some y → i < base := fun i y e => by
    rcases Nat.lt_or_ge i base with h | h
    · exact h
    · rw [hs.fresh i (by omega)] at e; cases e
  have hle : r.le rr := fun i y e => by show (if i < base then r i else _) = _; rw [if_pos (hdom i y e)]; exact e
  have hrt : (fun j => rr (openF id base j)) = rt := by
    funext j
    show rr (bif Nat.beq j 0 then id else base + j) = rt j
    cases j with
    | zero => show (if id < base then r id else _) = _; rw [if_pos hid, hbn, hz]
    | succ j => show (if base + (j + 1) < base then _ else rt (base + (j + 1) - base)) = _; rw [if_neg (by omega), Nat.add_sub_cancel_left]
  have hnew : (renAll (openF id base) hp).den β.G rr H1 := renAll_den (by rw [hrt]; exact Heap.den_nil hden)
  refine ⟨(hp, n), rr, ht, fun i y hi e => hle i y e, ⟨⟨hm, H2.join H1, Heap.den_append (Heap.den_mono hle q4) hnew q2.symm, by rw [Hp.join_comm q2.symm]; exact hap, by rw [Hp.join_comm q2.symm]; exact hin⟩, fun i hi => ?_, hs.env.mono hle, hs.size, hs.defers⟩, ⟨fun i hi => List.mem_cons_of_mem _ hi, Kept.of fun i B e hn => ?_, rfl⟩⟩
  · show (if i < base then r i else rt (i - base)) = none
    have hi' : base + n ≤ i := hi
    rw [if_neg (by omega)]; exact hft _ (by omega)
  · have hne : i ≠ id := fun hh => hn (by rw [hh]; exact List.mem_cons_self ..)
    have hdel : (s.heap.del id).get i = some B := by rw [Heap.get_del_ne hne]; exact e
    have app : ∀ (h l : Heap U), h.get i = some B → Heap.get (h ++ l) i = some B := by
      intro h l
      induction h with
      | nil => intro e; cases e
      | cons q h ih =>
        obtain ⟨j, C⟩ := q
        intro e
        show (bif Nat.beq j i then some C else Heap.get (h ++ l) i) = some B
        change (bif Nat.beq j i then some C else Heap.get h i) = some B at e
        cases hh : Nat.beq j i with
        | true => rw [hh] at e; exact e
        | false => rw [hh] at e; exact ih e
    exact app _ _ hdel

/-! ## loops -/
/-- The state with the temporaries of a list alone. -/
def keepSt (ts : List Nat) (s : St U) : St U := { s with env := ts.map fun t => (t, envGet s.env t) }
def stopK (ts : List Nat) (e : EX) (s : St U) : Out U := .stop e (keepSt ts s)
theorem keep_get (env : List (Nat × AV)) : ∀ (ts : List Nat) (t : Nat), envGet (ts.map fun t => (t, envGet env t)) t = envGet env t ∨ envGet (ts.map fun t => (t, envGet env t)) t = .und
  | [], _ => .inr rfl
  | u :: ts, t => by
    show (bif Nat.beq u t then envGet env u else envGet (ts.map _) t) = _ ∨ (bif Nat.beq u t then envGet env u else envGet (ts.map _) t) = _
    cases e : Nat.beq u t with
    | true => have := Nat.eq_of_beq_eq_true e; subst this; exact .inl rfl
    | false => exact keep_get env ts t
theorem keep_sat (ts : List Nat) {β : Base} {r : Nm} {s : St U} {a : Act} {w : World} (h : SatS β r s a w) : SatS β r (keepSt ts s) a w :=
  ⟨h.sat, h.fresh, fun t => by
    show rel r (envGet (ts.map fun t => (t, envGet s.env t)) t) _
    rcases keep_get s.env ts t with e | e
    · rw [e]; exact h.env t
    · rw [e]; trivial, h.size, h.defers⟩
def loopG {Pa Ya Za : Type} (nx0 : Nat) (I0 : Pa → St U) (c1 : Pa → Ya → Prop) (F1 : Pa → Ya → St U) (c2 : Pa → Za → Prop) (F2 : Pa → Za → St U) : LoopS U := fun s K =>
  .ex (Pa → Prop) fun c0 => .need (s.nx ≤ nx0 ∧ SImp nx0 s I0 c0)
    (.all Pa fun p => .asm (c0 p) (.both (.all Ya fun y => .asm (c1 p y) (K .nx (F1 p y))) (.all Za fun y => .asm (c2 p y) (K .rt (F2 p y)))))

end
end Sx
end Go.Proofs.YtnegocgblmdihaaGreatDoor

/-
  What a function does to several objects, told once for all callers; the objects stay whole.
-/
namespace Go.Proofs.YtnegocgblmdihaaGreatDoor
namespace Sx
open Go

section
variable {U : Uni} {P : Program}

def takeObjs : Nat → List AV → Heap U → (List (Nat × U.O) → List AV → Heap U → Out U) → Out U
  | 0, args, h, K => K [] args h
  | m + 1, .ptr id off :: args, h, K => bif Nat.beq off 0 then (match h.get id with
    | some (.obj x) => takeObjs m args (h.del id) fun os rest h' => K ((id, x) :: os) rest h'
    | _ => .bad 450) else .bad 451
  | _ + 1, _, _, _ => .bad 452

def objsAt : Nat → List U.O → Heap U
  | _, [] => []
  | j, x :: xs => (j, .obj x) :: objsAt (j + 1) xs
def objsBack : List (Nat × U.O) → List U.O → Heap U
  | [], _ => []
  | _ :: _, [] => []
  | (id, _) :: os, x :: xs => (id, .obj x) :: objsBack os xs
def ptrsAt : Nat → Nat → List AV
  | _, 0 => []
  | j, m + 1 => .ptr j 0 :: ptrsAt (j + 1) m

abbrev RunObjs (U : Uni) := List U.O → List (Arg U) → (AV → List U.O → List (Blk U) → Out U) → Out U
def hookObjs (m : Nat) (sg : List (Sg U)) (run : RunObjs U) : HookS U := fun args h nx K =>
  takeObjs m args h fun os rest h' => evalArgs sg rest h' fun as => run (os.map (·.2)) as fun v xs E =>
    bif newFree nx E h && Nat.beq xs.length m then K (v.ren (shf m nx)) (newAt nx E ++ (objsBack os xs ++ h')) (nx + E.length) (os.map (·.1)) else .bad 460

/-- The callee's end, in its own names: its objects first. -/
def EndObjs (m n' : Nat) (v0 : AV) (h' : Heap U) (v : AV) (xs : List U.O) (E : List (Blk U)) : Prop :=
  ∃ hr, HImp n' h' (objsAt 0 xs ++ hr) ∧ Fin m n' v0 hr v E

end
end Sx
end Go.Proofs.YtnegocgblmdihaaGreatDoor

/-
  A step that changes only what is known, ahead of a call: objects unpacked, or packed.
-/
namespace Go.Proofs.YtnegocgblmdihaaGreatDoor
namespace Sx
open Go

section
variable {U : Uni} {P : Program}

abbrev GhostS (U : Uni) := Heap U → Nat → (Heap U → Nat → List Nat → Out U) → Out U
def GhostOk (G : GhostS U) : Prop := ∀ (M : Goal U) (h : Heap U) (nx : Nat) (K : Heap U → Nat → List Nat → Out U), (G h nx K).holds M →
  ∀ (β : Base) (r : Nm) (w : World), Sat β r h w → Fresh r nx → ∃ h' nx' T r', (K h' nx' T).holds M ∧ r.le r' ∧ Fresh r' nx' ∧ Sat β r' h' w ∧ Kept h h' T

def hookAfter (G : GhostS U) (H : HookS U) : HookS U := fun args h nx K => G h nx fun h' nx' T => H args h' nx' fun v h2 nx2 T2 => K v h2 nx2 (T ++ T2)

theorem hookAfter_ok {f : Nat} {G : GhostS U} {H : HookS U} (hfn : HasFn P f) (hG : GhostOk G) (hH : HookOk P f H) : HookOk P f (hookAfter G H) := by
  intro M args h nx K hh
  refine ⟨hfn, fun β r vs w hr hs hf => ?_⟩
  obtain ⟨h', nx', T, r1, hK, g1, g2, g3, g4⟩ := hG M h nx _ hh β r w hs hf
  refine ((hH M args h' nx' _ hK).2 β r1 vs w (relL_mono g1 _ _ hr) g3 g2).mono ?_
  rintro e w' ⟨v, h2, nx2, T2, z, r2, rfl, k0, k1, k2, k3, k4, k5⟩
  exact ⟨v, h2, nx2, T ++ T2, z, r2, rfl, k0, g1.trans k1, k2, k3, k4, g4.comp k5 (fun i hi => List.mem_append.2 (.inl hi)) (fun i hi => List.mem_append.2 (.inr hi))⟩

/-- Unpacked, whatever way the object may lie. -/
theorem unpack_ghost [Bare U] {tm : Tm U} (hL : Laid U tm) {h : Heap U} {id nx : Nat} {x : U.O} (hg : h.get id = some (.obj x)) (hid : id < nx) {β : Base} {r : Nm} {w : World} (hs : Sat β r h w) (hf : Fresh r nx) :
    ∃ hp n r', tm x hp n ∧ r.le r' ∧ Fresh r' (nx + n) ∧ Sat β r' (h.del id ++ renAll (openF id nx) hp) w := by
  obtain ⟨q, r', ht, h1, h2, _⟩ := unpack (s := ⟨[], h, nx, 0, []⟩) hL hg hid (Nat.le_refl _) (Nat.le_refl _) β r ⟨#[], []⟩ w ⟨hs, hf, fun t => trivial, rfl, rfl⟩
  refine ⟨q.1, q.2, r', ht, fun i y e => h1 i y ?_ e, h2.fresh, h2.sat⟩
  rcases Nat.lt_or_ge i nx with hh | hh
  · exact hh
  · rw [hf i hh] at e; cases e

/-- A loop in the wider sense that is left at its head alone. -/
def loopH {Pa Ya : Type} (nx0 : Nat) (I0 : Pa → St U) (c1 : Pa → Ya → Prop) (F1 : Pa → Ya → St U) : LoopS U := fun s K =>
  .ex (Pa → Prop) fun c0 => .need (s.nx ≤ nx0 ∧ SImp nx0 s I0 c0) (.all Pa fun p => .asm (c0 p) (.all Ya fun y => .asm (c1 p y) (K .nx (F1 p y))))
/-- A loop that is told of some temporaries alone. -/
def keepLoop (ts : List Nat) (L : LoopS U) : LoopS U := fun s K => L (keepSt ts s) K
end
end Sx
end Go.Proofs.YtnegocgblmdihaaGreatDoor

/-
  Whole functions, run and met: what all seats use alike.
-/
namespace Go.Proofs.YtnegocgblmdihaaGreatDoor
namespace Sx
open Go

section
variable {U : Uni} {P : Program}

/-- A run of a whole function. -/
noncomputable def runF (C : Cfg P U) (n g : Nat) (fn : Func) (args : List AV) (h : Heap U) (nx : Nat) : Out U :=
  match fn.body with
  | some b => runCode C n g b ⟨argsEnv 0 args, h, nx, fn.ntmps, []⟩ (fun e s' => match e with
     | .nx => resAll C.τ fn s' fun v => .fin v s'.heap s'.nx
     | .rt => resAll C.τ fn s' fun v => .fin v s'.heap s'.nx
     | .ex _ => .bad 301)
  | none => .bad 0
/-- A run of which only what it tells is kept. -/
noncomputable def runL (C : Cfg P U) (n g : Nat) (fn : Func) (args : List AV) (h : Heap U) (nx : Nat) : Out U :=
  match fn.body with
  | some b => runCode C n g b ⟨argsEnv 0 args, h, nx, fn.ntmps, []⟩ (fun e s' => match e with
     | .nx => resAll C.τ fn s' fun v => .fin v [] 0
     | .rt => resAll C.τ fn s' fun v => .fin v [] 0
     | .ex _ => .bad 301)
  | none => .bad 0

theorem calls_runF {C : Cfg P U} (hC : C.ok) {n g : Nat} {fn : Func} (hg : P.funcs[g]? = some fn ∧ (fn.name == "runtime.NumGoroutine") = false) (hb : fn.body.isSome = true) {args : List AV} (hl : args.length ≤ fn.ntmps) {h : Heap U} {nx : Nat}
    {R : AV → Heap U → Nat → List Nat → Prop} (H : (runF C n g fn args h nx).holds ⟨fun _ _ => False, fun v h' nx' => R v h' nx' []⟩) : CallsSx P g args h nx (fun v h' nx' _ => R v h' nx' []) := by
  unfold runF at H
  cases hbd : fn.body with
  | none => rw [hbd] at hb; cases hb
  | some body =>
    rw [hbd] at H
    exact calls_of_run hC (n := n) (M := ⟨fun _ _ => False, fun v h' nx' => R v h' nx' []⟩) (R := fun v h' nx' _ => R v h' nx' []) (k := fun v h' nx' _ => .fin v h' nx') hg.1 hg.2 hbd hl (fun _ _ _ _ hh => hh) H
theorem calls_runL {C : Cfg P U} (hC : C.ok) {n g : Nat} {fn : Func} (hg : P.funcs[g]? = some fn ∧ (fn.name == "runtime.NumGoroutine") = false) (hb : fn.body.isSome = true) {args : List AV} (hl : args.length ≤ fn.ntmps) {h : Heap U} {nx : Nat}
    (H : (runL C n g fn args h nx).holds ⟨fun _ _ => False, fun v _ _ => v.sub .tt⟩) : CallsSx P g args h nx (fun v _ _ _ => v.sub .tt) := by
  unfold runL at H
  cases hbd : fn.body with
  | none => rw [hbd] at hb; cases hb
  | some body =>
    rw [hbd] at H
    exact calls_of_run hC (n := n) (M := ⟨fun _ _ => False, fun v _ _ => v.sub .tt⟩) (R := fun v _ _ _ => v.sub .tt) (k := fun v h' nx' _ => .fin v [] 0) hg.1 hg.2 hbd hl (fun _ _ _ _ hh => hh) H

theorem AV.sub_lit' {k : IntKind} {n : Int} : (AV.lit k n).sub (.int k n) := fun _ _ h => h
theorem AV.sub_same (a : AV) : a.sub a := fun _ _ h => h
theorem AV.sub_tup {xs bs : List AV} (h : ∀ r vs, relL r xs vs → relL r bs vs) : (AV.tup xs).sub (.tup bs) := fun r v ⟨vs, e, k⟩ => ⟨vs, h r vs e, k⟩
theorem free_hook [Plain U] [Bare U] {C : Cfg P U} (hC : C.ok) {f n : Nat} {fn : Func} {sgn : List (Sg U)} {run : RunFree U} (hg : P.funcs[f]? = some fn ∧ (fn.name == "runtime.NumGoroutine") = false) (hb : fn.body.isSome = true)
    (H : ∀ (M : Goal U) (ar : List (Arg U)) (K0 : AV → List (Blk U) → Out U), (run ar K0).holds M → ar.length ≤ fn.ntmps ∧
      (runF C n f fn (argAV 0 ar) (argHeap 0 ar) ar.length).holds ⟨fun _ _ => False, fun v0 h' n' => ∃ v E, (K0 v E).holds M ∧ EndFree n' v0 h' v E⟩) :
    HookOk P f (hookFree sgn run) := by
  refine hookFree_ok ⟨fn, hg.1, hg.2, by cases hb' : fn.body <;> simp [hb'] at hb ⊢⟩ ?_
  intro M ar K0 h
  obtain ⟨hl, h⟩ := H M ar _ h
  refine calls_runF (R := fun v0 h' n' _ => ∃ v E, (K0 v E).holds M ∧ EndFree n' v0 h' v E) hC (n := n) hg hb ?_ h
  have : ∀ (j : Nat) (l : List (Arg U)), (argAV j l).length = l.length := by
    intro j l; induction l generalizing j with
    | nil => rfl
    | cons a l ih => simp [argAV, ih]
  rw [this]; exact hl

theorem endPlain {n' : Nat} {v0 v : AV} {h' : Heap U} (h : v0.sub v) (hv : v.on noName = true) : EndFree n' v0 h' v [] := ⟨h', HImp.refl _ _, .plain h hv⟩

theorem wrap_nat {n : Nat} (h : n < 4611686018427387904) : IntKind.wrap .i64 ((n : Int) + 1) = ((n + 1 : Nat) : Int) := by
  simp [IntKind.wrap, IntKind.bits, IntKind.signed]; omega
theorem wrap_low {n : Int} (h0 : -4611686018427387904 < n) (h : n < 4611686018427387904) : IntKind.wrap .i64 n = n := by
  simp [IntKind.wrap, IntKind.bits, IntKind.signed]; omega
end
end Sx
end Go.Proofs.YtnegocgblmdihaaGreatDoor

/-
  Functions that work on a pool, told once for all callers; an empty pool.
-/
namespace Go.Proofs.YtnegocgblmdihaaGreatDoor
namespace Sx
open Go

section
variable {U : Uni} {P : Program}

abbrev RunPool (U : Uni) := Pool → List (Arg U) → (AV → Pool → List (Blk U) → Out U) → Out U

def hookPool (sg : List (Sg U)) (run : RunPool U) : HookS U := fun args h nx K =>
  match poolOf h with
  | some (id, p) => evalArgs sg args (h.del id) fun as => run p as fun v p' E =>
      bif newFree nx E h then K (v.ren (shf 1 nx)) (newAt nx E ++ h.set id (.pool p')) (nx + E.length) [id] else .bad 540
  | none => .bad 541

/-- The callee's end, in its own names. -/
def EndPool (n' : Nat) (v0 : AV) (h' : Heap U) (v : AV) (p' : Pool) (E : List (Blk U)) : Prop :=
  ∃ h2, HImp n' h' h2 ∧ h2.get 0 = some (.pool p') ∧ Fin 1 n' v0 (h2.del 0) v E

theorem hookPool_ok [Plain U] [Bare U] {f : Nat} {sg : List (Sg U)} {run : RunPool U} (hfn : HasFn P f)
    (hcall : ∀ (M : Goal U) p as K0, (run p as K0).holds M →
      CallsSx P f (argAV 1 as) ((0, .pool p) :: argHeap 1 as) (1 + as.length) (fun v0 h' n' _ => ∃ v p' E, (K0 v p' E).holds M ∧ EndPool n' v0 h' v p' E)) :
    HookOk P f (hookPool sg run) := by
  intro M args h nx K H
  unfold hookPool at H
  split at H
  · rename_i id p hg
    have hg := poolOf_get hg
    obtain ⟨as, H, hargs⟩ := evalArgs_sound H
    refine ⟨hfn, fun β r vs w hr hs hfresh => ?_⟩
    obtain ⟨hm, A, hd, hap, hin⟩ := hs
    obtain ⟨H1, H2, q1, q2, rfl, q4, q5⟩ := Heap.focus hd hg
    have hc := hcall M p as _ H
    have ap := Hp.join_apart.1 hap
    obtain ⟨r0, k1, k2, k3, k4⟩ := hargs β.G r H2 vs 1 (fun _ => none) hr q4 ap.2 (fun _ _ => rfl)
    have hin2 := (Hp.inW_join q2).1 hin
    have hGin : (H2.join β.G).inW w := (Hp.inW_join ap.2).2 ⟨hin2.2, hm.G⟩
    have hsat : Sat ⟨H2.join β.G, β.os, β.output, β.tape⟩ r0 ((0, .pool p) :: argHeap 1 as) w :=
      ⟨⟨hm.os, hm.output, hm.tape, hGin⟩, H1.join Hp.nil, ⟨H1, Hp.nil, q1, k4, Hp.apart_nil _, rfl⟩, by rw [Hp.join_nil]; exact Hp.apart_join.2 ⟨q2, ap.1⟩, by rw [Hp.join_nil]; exact hin2.1⟩
    refine (hc.2 _ r0 _ w k3 hsat k2).mono fun e w' hh => ?_
    obtain ⟨v0, h', n', T, z, r', rfl, ⟨v, p', E, hK, h2, himp, hx', hfin⟩, g1, g2, g3, g4, _⟩ := hh
    rw [holds_bif] at hK
    split at hK
    · rename_i hfree
      obtain ⟨hm', A', hd', hap', hin'⟩ := g4
      obtain ⟨B1, B2, p1, p2, rfl⟩ := himp _ _ _ g2 hd'
      obtain ⟨A1, A2, hA1, a2, rfl, a4, _⟩ := Heap.focus p1 hx'
      have hA1 : A1 = p'.hp := hA1
      obtain ⟨⟨f2, hsub, hv0⟩, hbare, hon⟩ := hfin
      obtain ⟨C1, C2, c1, c2, rfl⟩ := heapSub_den hsub a4
      have hdis := Hp.join_apart.1 hap'
      have hdis1 := Hp.join_apart.1 hdis.1
      have hdis2 := Hp.join_apart.1 hdis1.2
      have aA1 := Hp.apart_join.1 hdis1.1
      have aC1 := Hp.apart_join.1 hdis2.1
      have aAC := Hp.apart_join.1 a2
      let rr : Nm := fun i => if i < nx then r i else if i < nx + E.length then r' (f2 (1 + (i - nx))) else none
      have hle : r.le rr := fun i y e => by
        show (if i < nx then r i else _) = _
        rw [if_pos (Nat.lt_of_not_le fun hh => by rw [hfresh i hh] at e; cases e)]; exact e
      have hset := q5 rr (.pool p') A1 hle hA1 aA1.1
      have hnew : (newAt nx E).den β.G rr C1 := newAt_den hbare (fun k hk => by
        show r' (f2 (1 + k)) = (if nx + k < nx then _ else if nx + k < nx + E.length then _ else _)
        rw [if_neg (by omega), if_pos (by omega), Nat.add_sub_cancel_left]) c1
      have hinA := (Hp.inW_join p2).1 hin'
      have hinA1 := (Hp.inW_join a2).1 hinA.1
      have hinC := (Hp.inW_join c2).1 hinA1.2
      have hG' := (Hp.inW_join ap.2).1 hm'.G
      refine ⟨v.ren (shf 1 nx), _, _, _, z, rr, rfl, hK, hle, fun i hi => ?_, ?_, ⟨⟨hm'.os, hm'.output, hm'.tape, hG'.2⟩, C1.join (A1.join H2), ?_, ?_, ?_⟩, ?_⟩
      · show (if i < nx then _ else if i < nx + E.length then _ else none) = none
        rw [if_neg (by omega), if_neg (by omega)]
      · have h1 := rel_ren _ _ (hv0 _ _ g3)
        refine rel_ren' _ _ (rel_on (r := fun i => r' (f2 i)) (fun i hi => ?_) v z hon h1)
        simp only [Bool.and_eq_true] at hi
        have i1 := Nat.le_of_ble_eq_true hi.1
        have i2 : i < 1 + E.length := by have := hi.2; rwa [Nat.blt_eq] at this
        show r' (f2 i) = (if shf 1 nx i < nx then _ else if shf 1 nx i < nx + E.length then r' (f2 (1 + (shf 1 nx i - nx))) else _)
        unfold shf
        rw [if_neg (by omega), if_pos (by omega)]
        congr 2; omega
      · exact Heap.den_append hnew hset (Hp.apart_join.2 ⟨aAC.1.symm, aC1.1⟩)
      · exact Hp.join_apart.2 ⟨aC1.2, Hp.join_apart.2 ⟨aA1.2, ap.2⟩⟩
      · exact (Hp.inW_join (Hp.apart_join.2 ⟨aAC.1.symm, aC1.1⟩)).2 ⟨hinC.1, (Hp.inW_join aA1.1).2 ⟨hinA1.1, hG'.1⟩⟩
      · refine Kept.of fun id2 B2 e2 hn2 => ?_
        have hne : id2 ≠ id := fun hh => hn2 (by simp [hh])
        exact newFree_get hfree e2 (by rw [Heap.get_set_ne hne]; exact e2)
    · exact hK.elim
  · exact H.elim

/-- A function's contract over a pool, by the run of its body. -/
theorem pool_hook [Plain U] [Bare U] {C : Cfg P U} (hC : C.ok) {f n : Nat} {fn : Func} {sgn : List (Sg U)} {run : RunPool U} (hg : P.funcs[f]? = some fn ∧ (fn.name == "runtime.NumGoroutine") = false) (hb : fn.body.isSome = true)
    (H : ∀ (M : Goal U) (p : Pool) (ar : List (Arg U)) (K0 : AV → Pool → List (Blk U) → Out U), (run p ar K0).holds M → ar.length ≤ fn.ntmps ∧
      (runF C n f fn (argAV 1 ar) ((0, .pool p) :: argHeap 1 ar) (1 + ar.length)).holds ⟨fun _ _ => False, fun v0 h' n' => ∃ v p' E, (K0 v p' E).holds M ∧ EndPool n' v0 h' v p' E⟩) :
    HookOk P f (hookPool sgn run) := by
  refine hookPool_ok ⟨fn, hg.1, hg.2, by cases hb' : fn.body <;> simp [hb'] at hb ⊢⟩ ?_
  intro M p ar K0 h
  obtain ⟨hl, h⟩ := H M p ar _ h
  refine calls_runF (R := fun v0 h' n' _ => ∃ v p' E, (K0 v p' E).holds M ∧ EndPool n' v0 h' v p' E) hC (n := n) hg hb ?_ h
  have : ∀ (j : Nat) (l : List (Arg U)), (argAV j l).length = l.length := by
    intro j l; induction l generalizing j with
    | nil => rfl
    | cons a l ih => simp [argAV, ih]
  rw [this]; exact hl

/-- An empty pool needs no memory. -/
theorem Sat.nilPool {β : Base} {r : Nm} {hp : Heap U} {w : World} (k : Sat β r hp w) (id : Nat) : Sat β r ((id, .pool Pool.nil) :: hp) w := by
  obtain ⟨a, H, d, c, e⟩ := k
  exact ⟨a, H, ⟨Hp.nil, H, rfl, d, Hp.nil_apart H, rfl⟩, c, e⟩

/-- A call that begins with an empty pool beside what is there. -/
theorem CallsSx.nilPool {f : Nat} {args : List AV} {h : Heap U} {nx nx' id : Nat} {R : AV → Heap U → Nat → List Nat → Prop} (hc : CallsSx P f args ((id, .pool Pool.nil) :: h) nx' R) (hid : h.get id = none) (hn : nx ≤ nx') : CallsSx P f args h nx R := by
  refine ⟨hc.1, fun β r vs w hr hs hf => (hc.2 β r vs w hr (hs.nilPool id) (fun i hi => hf i (by omega))).mono ?_⟩
  rintro e w' ⟨v, h', nx2, T, z, r', rfl, h1, h2, h3, h4, h5, h6⟩
  refine ⟨v, h', nx2, T, z, r', rfl, h1, h2, h3, h4, h5, fun i B hi hT => h6 i B ?_ hT⟩
  rw [Heap.get_cons_ne (fun e => by subst e; rw [hid] at hi; cases hi)]; exact hi
end
end Sx
end Go.Proofs.YtnegocgblmdihaaGreatDoor

/-
  Functions that only read: what a heap's pools hold is known to them as foreign memory.
-/
namespace Go.Proofs.YtnegocgblmdihaaGreatDoor
namespace Sx
open Go

section
variable {U : Uni} {P : Program}

/-- A datum of a pool. -/
def Pool.see (p : Pool) : RPool := fun b o d => ∃ q, p b = some q ∧ q.2[o]? = some d
def RPool.nil : RPool := fun _ _ _ => False
def RPool.join (f g : RPool) : RPool := fun b o d => f b o d ∨ g b o d
/-- All that a heap's pools hold. -/
def seen : Heap U → RPool
  | [] => RPool.nil
  | (_, .pool p) :: h => p.see.join (seen h)
  | (_, .rpool f) :: h => f.join (seen h)
  | (_, .cells ..) :: h => seen h
  | (_, .arr ..) :: h => seen h
  | (_, .ro ..) :: h => seen h
  | (_, .mp ..) :: h => seen h
  | (_, .obj _) :: h => seen h

theorem RPool.inG.mono {f : RPool} {G G' : Hp} (h : f.inG G) (k : ∀ b o, G b = some o → G' b = some o) : f.inG G' := fun b o d e =>
  let ⟨c, T, fz, v, h1, h2⟩ := h b o d e; ⟨c, T, fz, v, k _ _ h1, h2⟩
theorem RPool.inG.join {f g : RPool} {G : Hp} (h : f.inG G) (k : g.inG G) : (f.join g).inG G := fun b o d e => by
  rcases e with e | e
  · exact h b o d e
  · exact k b o d e
theorem Pool.see_inG {p : Pool} {G : Hp} (h : ∀ b o, p.hp b = some o → G b = some o) : p.see.inG G := fun b o d e => by
  obtain ⟨q, hb, e⟩ := e
  exact ⟨_, _, _, d.val, h b _ (by unfold Pool.hp; rw [hb]; rfl), by simp [e], d.is_val⟩
theorem join_left {A B : Hp} {b : Nat} {o : Obj} (h : A b = some o) : (A.join B) b = some o := by unfold Hp.join; rw [h]
theorem join_right {A B : Hp} (hab : A.apart B) {b : Nat} {o : Obj} (h : B b = some o) : (A.join B) b = some o := by
  unfold Hp.join
  rcases hab b with e | e
  · rw [e]; exact h
  · rw [e] at h; cases h
theorem seen_inG {G : Hp} {r : Nm} : ∀ {h : Heap U} {A : Hp}, h.den G r A → A.apart G → (seen h).inG (A.join G)
  | [], A, _, _ => fun b o d e => e.elim
  | (i, B) :: h, A, ⟨H1, H2, q1, q2, q3, q4⟩, hap => by
    subst q4
    have ap := Hp.join_apart.1 hap
    have ih := seen_inG q2 ap.2
    have up : ∀ b o, (H2.join G) b = some o → ((H1.join H2).join G) b = some o := fun b o e => by
      rw [Hp.join_assoc]; exact join_right (Hp.apart_join.2 ⟨q3, ap.1⟩) e
    have ih := ih.mono up
    cases B with
    | cells T cs => exact ih
    | arr T k xs sp => exact ih
    | ro k xs => exact ih
    | mp kk k m => exact ih
    | obj x => exact ih
    | pool p =>
      have q1 : H1 = p.hp := q1
      subst q1
      exact (Pool.see_inG fun b o e => join_left (join_left e)).join ih
    | rpool f =>
      obtain ⟨q1, rfl⟩ := q1
      exact (q1.mono fun b o e => join_right (Hp.join_apart.2 ⟨Hp.nil_apart _, ap.2⟩) e).join ih

abbrev RunSee (U : Uni) := RPool → List (Arg U) → (AV → List (Blk U) → Out U) → Out U
/-- The same, gone through block by block. -/
def seenK : Heap U → (RPool → Out U) → Out U
  | [], K => K RPool.nil
  | (_, .pool p) :: h, K => seenK h fun f => K (p.see.join f)
  | (_, .rpool g) :: h, K => seenK h fun f => K (g.join f)
  | (_, .cells ..) :: h, K => seenK h K
  | (_, .arr ..) :: h, K => seenK h K
  | (_, .ro ..) :: h, K => seenK h K
  | (_, .mp ..) :: h, K => seenK h K
  | (_, .obj _) :: h, K => seenK h K
theorem seenK_eq : ∀ (h : Heap U) (K : RPool → Out U), seenK h K = K (seen h)
  | [], _ => rfl
  | (_, B) :: h, K => by cases B <;> exact seenK_eq h _
def hookSee (sg : List (Sg U)) (run : RunSee U) : HookS U := fun args h nx K =>
  evalArgs sg args h fun as => seenK h fun f => run f as fun v E =>
    bif newFree nx E h then K (v.ren (shf 1 nx)) (newAt nx E ++ h) (nx + E.length) [] else .bad 546
def EndSee (n' : Nat) (v0 : AV) (h' : Heap U) (v : AV) (E : List (Blk U)) : Prop :=
  ∃ h2, HImp n' h' h2 ∧ Fin 1 n' v0 h2 v E

theorem hookSee_ok [Plain U] [Bare U] {f : Nat} {sg : List (Sg U)} {run : RunSee U} (hfn : HasFn P f)
    (hcall : ∀ (M : Goal U) g as K0, (run g as K0).holds M →
      CallsSx P f (argAV 1 as) ((0, .rpool g) :: argHeap 1 as) (1 + as.length) (fun v0 h' n' _ => ∃ v E, (K0 v E).holds M ∧ EndSee n' v0 h' v E)) :
    HookOk P f (hookSee sg run) := by
  intro M args h nx K H
  unfold hookSee at H
  obtain ⟨as, H, hargs⟩ := evalArgs_sound H
  rw [seenK_eq] at H
  refine ⟨hfn, fun β r vs w hr hs hfresh => ?_⟩
  obtain ⟨hm, H2, hd, hap, hin⟩ := hs
  have hc := hcall M (seen h) as _ H
  obtain ⟨r0, k1, k2, k3, k4⟩ := hargs β.G r H2 vs 1 (fun _ => none) hr hd hap (fun _ _ => rfl)
  have hGin : (H2.join β.G).inW w := (Hp.inW_join hap).2 ⟨hin, hm.G⟩
  have hsat : Sat ⟨H2.join β.G, β.os, β.output, β.tape⟩ r0 ((0, .rpool (seen h)) :: argHeap 1 as) w :=
    ⟨⟨hm.os, hm.output, hm.tape, hGin⟩, Hp.nil, ⟨Hp.nil, Hp.nil, ⟨seen_inG hd hap, rfl⟩, k4, Hp.nil_apart _, rfl⟩, Hp.nil_apart _, Hp.inW_nil w⟩
  refine (hc.2 _ r0 _ w k3 hsat k2).mono fun e w' hh => ?_
  obtain ⟨v0, h', n', T, z, r', rfl, ⟨v, E, hK, h2, himp, hfin⟩, g1, g2, g3, g4, _⟩ := hh
  rw [holds_bif] at hK
  split at hK
  · rename_i hfree
    obtain ⟨hm', A', hd', hap', hin'⟩ := g4
    obtain ⟨B1, B2, p1, p2, rfl⟩ := himp _ _ _ g2 hd'
    obtain ⟨⟨f2, hsub, hv0⟩, hbare, hon⟩ := hfin
    obtain ⟨C1, C2, c1, c2, rfl⟩ := heapSub_den hsub p1
    have hdis := Hp.join_apart.1 hap'
    have hdis2 := Hp.join_apart.1 hdis.1
    have aC1 := Hp.apart_join.1 hdis2.1
    let rr : Nm := fun i => if i < nx then r i else if i < nx + E.length then r' (f2 (1 + (i - nx))) else none
    have hle : r.le rr := fun i y e => by
      show (if i < nx then r i else _) = _
      rw [if_pos (Nat.lt_of_not_le fun hh => by rw [hfresh i hh] at e; cases e)]; exact e
    have hnew : (newAt nx E).den β.G rr C1 := newAt_den hbare (fun k hk => by
      show r' (f2 (1 + k)) = (if nx + k < nx then _ else if nx + k < nx + E.length then _ else _)
      rw [if_neg (by omega), if_pos (by omega), Nat.add_sub_cancel_left]) c1
    have hinA := (Hp.inW_join p2).1 hin'
    have hinC := (Hp.inW_join c2).1 hinA.1
    have hG' := (Hp.inW_join hap).1 hm'.G
    refine ⟨v.ren (shf 1 nx), _, _, _, z, rr, rfl, hK, hle, fun i hi => ?_, ?_, ⟨⟨hm'.os, hm'.output, hm'.tape, hG'.2⟩, C1.join H2, ?_, ?_, ?_⟩, ?_⟩
    · show (if i < nx then _ else if i < nx + E.length then _ else none) = none
      rw [if_neg (by omega), if_neg (by omega)]
    · have h1 := rel_ren _ _ (hv0 _ _ g3)
      refine rel_ren' _ _ (rel_on (r := fun i => r' (f2 i)) (fun i hi => ?_) v z hon h1)
      simp only [Bool.and_eq_true] at hi
      have i1 := Nat.le_of_ble_eq_true hi.1
      have i2 : i < 1 + E.length := by have := hi.2; rwa [Nat.blt_eq] at this
      show r' (f2 i) = (if shf 1 nx i < nx then _ else if shf 1 nx i < nx + E.length then r' (f2 (1 + (shf 1 nx i - nx))) else _)
      unfold shf
      rw [if_neg (by omega), if_pos (by omega)]
      congr 2; omega
    · exact Heap.den_append hnew (Heap.den_mono hle hd) aC1.1
    · exact Hp.join_apart.2 ⟨aC1.2, hap⟩
    · exact (Hp.inW_join aC1.1).2 ⟨hinC.1, hG'.1⟩
    · exact Kept.of fun id2 B2 e2 hn2 => newFree_get hfree e2 e2
  · exact hK.elim

/-- A reading function's contract by the run of its body. -/
theorem see_hook [Plain U] [Bare U] {C : Cfg P U} (hC : C.ok) {f n : Nat} {fn : Func} {sgn : List (Sg U)} {run : RunSee U} (hg : P.funcs[f]? = some fn ∧ (fn.name == "runtime.NumGoroutine") = false) (hb : fn.body.isSome = true)
    (H : ∀ (M : Goal U) (g : RPool) (ar : List (Arg U)) (K0 : AV → List (Blk U) → Out U), (run g ar K0).holds M → ar.length ≤ fn.ntmps ∧
      (runF C n f fn (argAV 1 ar) ((0, .rpool g) :: argHeap 1 ar) (1 + ar.length)).holds ⟨fun _ _ => False, fun v0 h' n' => ∃ v E, (K0 v E).holds M ∧ EndSee n' v0 h' v E⟩) :
    HookOk P f (hookSee sgn run) := by
  refine hookSee_ok ⟨fn, hg.1, hg.2, by cases hb' : fn.body <;> simp [hb'] at hb ⊢⟩ ?_
  intro M g ar K0 h
  obtain ⟨hl, h⟩ := H M g ar _ h
  refine calls_runF (R := fun v0 h' n' _ => ∃ v E, (K0 v E).holds M ∧ EndSee n' v0 h' v E) hC (n := n) hg hb ?_ h
  have : ∀ (j : Nat) (l : List (Arg U)), (argAV j l).length = l.length := by
    intro j l; induction l generalizing j with
    | nil => rfl
    | cons a l ih => simp [argAV, ih]
  rw [this]; exact hl
theorem endSee {n' : Nat} {v0 v : AV} {h' : Heap U} (h : v0.sub v) (hv : v.on noName = true) : EndSee n' v0 h' v [] := ⟨h', HImp.refl _ _, .plain h hv⟩

end
end Sx
end Go.Proofs.YtnegocgblmdihaaGreatDoor

/-
  Functions of a reader: cells of which the first one is a slice of a row that is only read.
-/
namespace Go.Proofs.YtnegocgblmdihaaGreatDoor
namespace Sx
open Go

section
variable {U : Uni} {P : Program}

abbrev RunRd (U : Uni) (k : U.K) := List (U.El k) → Nat → Nat → Nat → Nat → List AV → (AV → Nat → Nat → Nat → List AV → Out U) → Out U
def hookRd (k : U.K) (run : RunRd U k) : HookS U := fun args h nx K =>
  match args with
  | [.ptr id off] => bif Nat.beq off 0 then (match h.get id with
    | some (.cells T (.sl _ bid st w len cap :: cs)) => (match h.get bid with
      | some (.ro k2 xs) => (match U.dk k2 k with
        | .isTrue hk => bif Nat.beq w (U.enc k).w && AV.onL noName cs then
            run (castK hk xs) T st len cap cs fun v st' len' cap' cs' => bif v.on noName && AV.onL noName cs' then
              .need (cap' ≤ cap) (K v (h.set id (.cells T (.sl false bid st' w len' cap' :: cs'))) nx [id]) else .bad 560
          else .bad 561
        | .isFalse _ => .bad 562)
      | _ => .bad 563)
    | _ => .bad 564) else .bad 565
  | _ => .bad 566
/-- The callee's end. -/
def EndRd (k : U.K) (T n' : Nat) (v0 : AV) (h' : Heap U) (v : AV) (st len cap : Nat) (cs : List AV) : Prop :=
  ∃ h2, HImp n' h' h2 ∧ h2.get 0 = some (.cells T (.sl false 1 st (U.enc k).w len cap :: cs)) ∧ v0.sub v

theorem hookRd_ok [Plain U] [Bare U] {f : Nat} {k : U.K} {run : RunRd U k} (hfn : HasFn P f)
    (hcall : ∀ (M : Goal U) xs T st len cap cs K0, (run xs T st len cap cs K0).holds M →
      CallsSx P f [.ptr 0 0] [(0, .cells T (.sl false 1 st (U.enc k).w len cap :: cs)), (1, .ro k xs)] 2 (fun v0 h' n' _ => ∃ v st' len' cap' cs', (K0 v st' len' cap' cs').holds M ∧ EndRd k T n' v0 h' v st' len' cap' cs')) :
    HookOk P f (hookRd k run) := by
  intro M args h nx K H
  unfold hookRd at H
  split at H
  · rename_i id off
    rw [holds_bif] at H
    split at H
    · rename_i hoff
      have hoff := Nat.eq_of_beq_eq_true hoff
      subst hoff
      split at H
      · rename_i T kn bid st w len cap cs hg
        split at H
        · rename_i k2 xs hb
          split at H
          · rename_i hk _
            rw [holds_bif] at H
            split at H
            · rename_i hc
              simp only [Bool.and_eq_true] at hc
              have hw := Nat.eq_of_beq_eq_true hc.1
              subst hw
              subst hk
              refine ⟨hfn, fun β r vs w hr hs hfresh => ?_⟩
              have hcl := hcall M _ T st len cap cs _ H
              obtain ⟨hm, A, hd, hap, hin⟩ := hs
              obtain ⟨_, _, ⟨hro, _⟩, _⟩ := Heap.focus hd hb
              obtain ⟨H1, H2, q1, q2, rfl, q4, q5⟩ := Heap.focus hd hg
              obtain ⟨b, vs0, hbn, hrl, rfl⟩ := q1
              simp only [relL] at hr
              obtain ⟨u0, us, rfl, ⟨x0, hx0, rfl⟩, rfl⟩ := hr
              rw [hbn] at hx0; cases hx0
              obtain ⟨v1, us1, rfl, hv1, hcs⟩ := hrl
              have ap := Hp.join_apart.1 hap
              have hin2 := (Hp.inW_join q2).1 hin
              have hGin : (H2.join β.G).inW w := (Hp.inW_join ap.2).2 ⟨hin2.2, hm.G⟩
              let r0 : Nm := fun i => if i = 0 then some (b, 0) else if i = 1 then r bid else none
              have h01 : r0 1 = r bid := rfl
              have hsat : Sat ⟨H2.join β.G, β.os, β.output, β.tape⟩ r0 [(0, .cells T (.sl false 1 st (U.enc k2).w len cap :: cs)), (1, .ro k2 (castK rfl xs))] w := by
                refine ⟨⟨hm.os, hm.output, hm.tape, hGin⟩, _, ⟨Hp.one b (.cells (v1 :: us1).toArray T (0, 0)), Hp.nil, ⟨b, v1 :: us1, rfl, ?_, rfl⟩, ⟨Hp.nil, Hp.nil, ⟨fun i x hx => ?_, rfl⟩, rfl, Hp.nil_apart _, rfl⟩, Hp.apart_nil _, rfl⟩, ?_, ?_⟩
                · refine relL_cons.2 ⟨?_, relL_closed hc.2 hcs⟩
                  obtain ⟨a, e1, e2, e3⟩ := hv1
                  exact ⟨a, e1, e2, e3⟩
                · obtain ⟨b', o, c, T', fz, g1, g2, g3⟩ := hro i x hx
                  exact ⟨b', o, c, T', fz, g1, join_right ap.2 g2, enc_bare g3⟩
                · rw [Hp.join_nil]; exact Hp.apart_join.2 ⟨q2, ap.1⟩
                · rw [Hp.join_nil]; exact hin2.1
              have hf2 : Fresh r0 2 := fun i hi => by show (if i = 0 then _ else if i = 1 then _ else none) = none; rw [if_neg (by omega), if_neg (by omega)]
              refine (hcl.2 _ r0 [_] w (relL_cons.2 ⟨⟨(b, 0), rfl, rfl⟩, relL_nil⟩) hsat hf2).mono fun e w' hh => ?_
              obtain ⟨v0, h', n', T', z, r', rfl, ⟨v, st', len', cap', cs', hK, h2, himp, hx', hsub⟩, g1, g2, g3, g4, _⟩ := hh
              rw [holds_bif] at hK
              split at hK
              · rename_i hon
                simp only [Bool.and_eq_true] at hon
                obtain ⟨hcap, hK⟩ := hK
                obtain ⟨hm', A', hd', hap', hin'⟩ := g4
                obtain ⟨B1, B2, p1, p2, rfl⟩ := himp _ _ _ g2 hd'
                obtain ⟨A1, A2, ⟨b', vs', hb', hrl', rfl⟩, a2, rfl, a4, _⟩ := Heap.focus p1 hx'
                have hbb : b' = b := by
                  have := g1 0 (b, 0) rfl; rw [this] at hb'; cases hb'; rfl
                subst hbb
                have hdis := Hp.join_apart.1 hap'
                have hdis1 := Hp.join_apart.1 hdis.1
                have aA1 := Hp.apart_join.1 hdis1.1
                have hinA := (Hp.inW_join p2).1 hin'
                have hinA1 := (Hp.inW_join a2).1 hinA.1
                have hG' := (Hp.inW_join ap.2).1 hm'.G
                obtain ⟨v2, us2, rfl, ⟨a, e1, e2, e3⟩, hcs2⟩ := hrl'
                have hset := q5 r (.cells T (.sl false bid st' (U.enc k2).w len' cap' :: cs')) _ (Nm.le.refl r) ⟨b', v2 :: us2, hbn, relL_cons.2 ⟨⟨a, e1, e2, ?_⟩, relL_closed hon.2 hcs2⟩, rfl⟩ aA1.1
                · refine ⟨v, _, nx, [id], z, r, rfl, hK, Nm.le.refl r, hfresh, rel_closed hon.1 (hsub _ _ g3), ⟨⟨hm'.os, hm'.output, hm'.tape, hG'.2⟩, _, hset, Hp.join_apart.2 ⟨aA1.2, ap.2⟩, (Hp.inW_join aA1.1).2 ⟨hinA1.1, hG'.1⟩⟩, Kept.of fun id2 B2' e2' hn2 => ?_⟩
                  rw [Heap.get_set_ne (fun hh => hn2 (by simp [hh]))]; exact e2'
                · rcases e3 with e3 | ⟨x, hx, e3⟩
                  · exact .inl e3
                  · by_cases hz : cap' = 0
                    · exact .inl hz
                    · obtain ⟨a1, _, _, k3⟩ := hv1
                      rcases k3 with k3 | ⟨y, hy, _⟩
                      · omega
                      · have h1 := g1 1 y (by rw [h01]; exact hy)
                        rw [h1] at hx; cases hx
                        exact .inr ⟨_, hy, e3⟩
              · exact hK.elim
            · exact H.elim
          · exact H.elim
        · exact H.elim
      · exact H.elim
    · exact H.elim
  · exact H.elim

/-- A reader's function's contract by the run of its body. -/
theorem rd_hook [Plain U] [Bare U] {C : Cfg P U} (hC : C.ok) {f n : Nat} {fn : Func} {k : U.K} {run : RunRd U k} (hg : P.funcs[f]? = some fn ∧ (fn.name == "runtime.NumGoroutine") = false) (hb : fn.body.isSome = true) (h1 : 1 ≤ fn.ntmps)
    (H : ∀ (M : Goal U) xs T st len cap cs K0, (run xs T st len cap cs K0).holds M →
      (runF C n f fn [.ptr 0 0] [(0, .cells T (.sl false 1 st (U.enc k).w len cap :: cs)), (1, .ro k xs)] 2).holds ⟨fun _ _ => False, fun v0 h' n' => ∃ v st' len' cap' cs', (K0 v st' len' cap' cs').holds M ∧ EndRd k T n' v0 h' v st' len' cap' cs'⟩) :
    HookOk P f (hookRd k run) := by
  refine hookRd_ok ⟨fn, hg.1, hg.2, by cases hb' : fn.body <;> simp [hb'] at hb ⊢⟩ ?_
  intro M xs T st len cap cs K0 h
  have h := H M xs T st len cap cs _ h
  exact calls_runF (R := fun v0 h' n' _ => ∃ v st' len' cap' cs', (K0 v st' len' cap' cs').holds M ∧ EndRd k T n' v0 h' v st' len' cap' cs') hC (n := n) hg hb (by show 1 ≤ _; exact h1) h
theorem endRd {k : U.K} {T n' : Nat} {v0 v : AV} {h' : Heap U} {st len cap : Nat} {cs : List AV} (h : v0.sub v) (hg : h'.get 0 = some (.cells T (.sl false 1 st (U.enc k).w len cap :: cs))) : EndRd k T n' v0 h' v st len cap cs := ⟨h', HImp.refl _ _, hg, h⟩

end
end Sx
end Go.Proofs.YtnegocgblmdihaaGreatDoor

/-
  States trimmed: some temporaries and blocks alone are kept; loops told so.
-/
namespace Go.Proofs.YtnegocgblmdihaaGreatDoor
namespace Sx
open Go

section
variable {U : Uni} {P : Program}

def TrimOk (tr : St U → St U) : Prop := ∀ (β : Base) (r : Nm) (s : St U) (a : Act) (w : World), SatS β r s a w → SatS β r (tr s) a w ∧ Fr s (tr s)
def Heap.keep (ids : List Nat) : Heap U → Heap U
  | [] => []
  | (i, B) :: h => bif ids.any (Nat.beq i) then (i, B) :: Heap.keep ids h else Heap.keep ids h
def Heap.gone (ids : List Nat) : Heap U → List Nat
  | [] => []
  | (i, _) :: h => bif ids.any (Nat.beq i) then Heap.gone ids h else i :: Heap.gone ids h
theorem Heap.keep_den {ids : List Nat} {G : Hp} {r : Nm} : ∀ {h : Heap U} {H : Hp}, h.den G r H → ∃ H1 H2, (h.keep ids).den G r H1 ∧ H1.apart H2 ∧ H = H1.join H2
  | [], H, d => ⟨H, Hp.nil, d, (Hp.nil_apart H).symm, (Hp.join_nil H).symm⟩
  | (i, B) :: h, _, ⟨A1, A2, a, b, c, d⟩ => by
    obtain ⟨K1, K2, k1, k2, rfl⟩ := Heap.keep_den (ids := ids) b
    subst d
    have q := Hp.apart_join.1 c
    cases e : ids.any (Nat.beq i) with
    | true =>
      refine ⟨A1.join K1, K2, ?_, Hp.join_apart.2 ⟨q.2, k2⟩, by rw [Hp.join_assoc]⟩
      show Heap.den G r (bif ids.any (Nat.beq i) then _ else _) _
      rw [e]
      exact ⟨A1, K1, a, k1, q.1, rfl⟩
    | false =>
      refine ⟨K1, A1.join K2, ?_, Hp.apart_join.2 ⟨q.1.symm, k2⟩, ?_⟩
      · show Heap.den G r (bif ids.any (Nat.beq i) then _ else _) _
        rw [e]; exact k1
      · rw [← Hp.join_assoc, ← Hp.join_assoc, Hp.join_comm q.1]
theorem Heap.keep_get {ids : List Nat} {id : Nat} {B : Blk U} : ∀ {h : Heap U}, h.get id = some B → id ∈ h.gone ids ∨ (h.keep ids).get id = some B
  | [], e => by cases e
  | (i, C) :: h, e => by
    change (bif Nat.beq i id then some C else Heap.get h id) = some B at e
    show id ∈ (bif ids.any (Nat.beq i) then _ else _) ∨ Heap.get (bif ids.any (Nat.beq i) then _ else _) id = some B
    cases hi : Nat.beq i id with
    | true =>
      rw [hi] at e
      have := Nat.eq_of_beq_eq_true hi
      subst this
      cases hk : ids.any (Nat.beq i) with
      | true => right; show (bif Nat.beq i i then some C else _) = _; rw [hi]; exact e
      | false => left; exact List.mem_cons_self ..
    | false =>
      rw [hi] at e
      have ih := Heap.keep_get (ids := ids) (h := h) e
      cases hk : ids.any (Nat.beq i) with
      | true =>
        rcases ih with h1 | h1
        · exact .inl h1
        · right; show (bif Nat.beq i id then some C else _) = _; rw [hi]; exact h1
      | false =>
        rcases ih with h1 | h1
        · exact .inl (List.mem_cons_of_mem _ h1)
        · exact .inr h1

def trimSt (ts ids : List Nat) (s : St U) : St U := { s with env := ts.map fun t => (t, envGet s.env t), heap := s.heap.keep ids, tl := s.heap.gone ids ++ s.tl }
theorem trim_ok (ts ids : List Nat) : TrimOk (trimSt (U := U) ts ids) := by
  intro β r s a w hs
  have k := keep_sat ts hs
  obtain ⟨hm, H, hd, ha, hw⟩ := hs.sat
  obtain ⟨H1, H2, h1, h2, rfl⟩ := Heap.keep_den (ids := ids) hd
  refine ⟨⟨⟨hm, H1, h1, (Hp.join_apart.1 ha).1, ((Hp.inW_join h2).1 hw).1⟩, k.fresh, k.env, k.size, k.defers⟩, ⟨fun i hi => List.mem_append.2 (.inr hi), Kept.of fun id B e hn => ?_, rfl⟩⟩
  rcases Heap.keep_get (ids := ids) e with h | h
  · exact absurd (List.mem_append.2 (.inl h)) hn
  · exact h

def stopT (tr : St U → St U) (e : EX) (s : St U) : Out U := .stop e (tr s)
def trimLoop (tr : St U → St U) (L : LoopS U) : LoopS U := fun s K => L (tr s) K
theorem trimLoop_ok {id : Nat} {body : Code} {tr : St U → St U} (ht : TrimOk tr) {L : LoopS U} (h : LoopOk P id body L) : LoopOk P id body (trimLoop tr L) := by
  intro M s K H β r a w hs Q hQ
  obtain ⟨h1, h2⟩ := ht β r s a w hs
  exact h M (tr s) K H β r a w h1 Q (fun e s' r' a' w' hR hle hs' hf => hQ e s' r' a' w' hR hle hs' (h2.trans hf))

theorem loopT_ok [Plain U] {C : Cfg P U} (hC : C.ok) {id f n : Nat} {body : Code} {Pa ι Ya Za : Type} {tr : St U → St U} (ht : TrimOk tr) (nx0 : Nat) (I : Pa → ι → St U) (J : Pa → ι → Prop) (x0 : Pa → ι) (μ : Pa → ι → Nat) (c1 : Pa → Ya → Prop) (F1 : Pa → Ya → St U) (c2 : Pa → Za → Prop) (F2 : Pa → Za → St U)
    (hJ : ∀ p, J p (x0 p))
    (hbody : ∀ (p : Pa) (x : ι), J p x → (runCode C n f body (I p x) (stopT tr)).holds ⟨fun e s' => match e with
      | .nx => SImp nx0 s' (I p) (fun y => J p y ∧ μ p y < μ p x)
      | .rt => SImp nx0 s' (F2 p) (c2 p)
      | .ex j => j = id ∧ SImp nx0 s' (F1 p) (c1 p), fun _ _ _ => False⟩) : LoopOk P id body (loopG nx0 (fun p => I p (x0 p)) c1 F1 c2 F2) := by
  intro M s K ⟨c0, ⟨hnx, h0⟩, hpost⟩ β r a w hs Q hQ
  have hdom : ∀ i x, r i = some x → i < nx0 := fun i x e => by
    rcases Nat.lt_or_ge i nx0 with h | h
    · exact h
    · rw [hs.fresh i (by omega)] at e; cases e
  obtain ⟨p, r0, hp, g1, g2, g3⟩ := h0 β r a w hs
  have hpost := hpost p hp
  refine wp_block ?_
  have key : ∀ (m : Nat) (x : ι) (r1 : Nm) (a1 : Act) (w1 : World), J p x → μ p x ≤ m → SatS β r1 (I p x) a1 w1 → (∀ i x, i < nx0 → r i = some x → r1 i = some x) → Fr s (I p x) →
      Code.rounds P body (Exit.inBlock id Q) (m + 1) a1 w1 := by
    intro m
    induction m with
    | zero =>
      intro x r1 a1 w1 hj hm hs1 hr1 hf1
      refine runCode_sound hC n f body (I p x) (stopT tr) (hbody p x hj) β r1 a1 w1 hs1 _ ?_
      intro e s' r' a' w' hR hle hs' hf
      obtain ⟨t1, t2⟩ := ht β r' s' a' w' hs'
      cases e with
      | nx => obtain ⟨y, _, ⟨_, hlt⟩, _⟩ := hR β r' a' w' t1; omega
      | rt =>
        obtain ⟨y, r'', hc, k1, k2, k3⟩ := hR β r' a' w' t1
        exact hQ .rt _ r'' a' w' (hpost.2 y hc) (fun i x e => k1 i x (hdom i x e) (hle i x (hr1 i x (hdom i x e) e))) k2 (((hf1.trans hf).trans t2).trans k3)
      | ex j =>
        obtain ⟨rfl, hR⟩ := hR
        obtain ⟨y, r'', hc, k1, k2, k3⟩ := hR β r' a' w' t1
        show (if j = j then Q .normal a' w' else Q (.exit j) a' w')
        rw [if_pos rfl]
        exact hQ .nx _ r'' a' w' (hpost.1 y hc) (fun i x e => k1 i x (hdom i x e) (hle i x (hr1 i x (hdom i x e) e))) k2 (((hf1.trans hf).trans t2).trans k3)
    | succ m ih =>
      intro x r1 a1 w1 hj hm hs1 hr1 hf1
      refine runCode_sound hC n f body (I p x) (stopT tr) (hbody p x hj) β r1 a1 w1 hs1 _ ?_
      intro e s' r' a' w' hR hle hs' hf
      obtain ⟨t1, t2⟩ := ht β r' s' a' w' hs'
      cases e with
      | nx =>
        obtain ⟨y, r'', ⟨hjy, hlt⟩, k1, k2, k3⟩ := hR β r' a' w' t1
        exact ih y r'' a' w' hjy (by omega) k2 (fun i x hi e => k1 i x hi (hle i x (hr1 i x hi e))) (((hf1.trans hf).trans t2).trans k3)
      | rt =>
        obtain ⟨y, r'', hc, k1, k2, k3⟩ := hR β r' a' w' t1
        exact hQ .rt _ r'' a' w' (hpost.2 y hc) (fun i x e => k1 i x (hdom i x e) (hle i x (hr1 i x (hdom i x e) e))) k2 (((hf1.trans hf).trans t2).trans k3)
      | ex j =>
        obtain ⟨rfl, hR⟩ := hR
        obtain ⟨y, r'', hc, k1, k2, k3⟩ := hR β r' a' w' t1
        show (if j = j then Q .normal a' w' else Q (.exit j) a' w')
        rw [if_pos rfl]
        exact hQ .nx _ r'' a' w' (hpost.1 y hc) (fun i x e => k1 i x (hdom i x e) (hle i x (hr1 i x (hdom i x e) e))) k2 (((hf1.trans hf).trans t2).trans k3)
  exact wp_loop_rounds _ (key (μ p (x0 p)) (x0 p) r0 a w (hJ p) (Nat.le_refl _) g2 g1 g3)
theorem loopTH_ok [Plain U] {C : Cfg P U} (hC : C.ok) {id f n : Nat} {body : Code} {Pa ι Ya : Type} {tr : St U → St U} (ht : TrimOk tr) (nx0 : Nat) (I : Pa → ι → St U) (J : Pa → ι → Prop) (x0 : Pa → ι) (μ : Pa → ι → Nat) (c1 : Pa → Ya → Prop) (F1 : Pa → Ya → St U)
    (hJ : ∀ p, J p (x0 p))
    (hbody : ∀ (p : Pa) (x : ι), J p x → (runCode C n f body (I p x) (stopT tr)).holds ⟨fun e s' => match e with
      | .nx => SImp nx0 s' (I p) (fun y => J p y ∧ μ p y < μ p x)
      | .rt => False
      | .ex j => j = id ∧ SImp nx0 s' (F1 p) (c1 p), fun _ _ _ => False⟩) : LoopOk P id body (loopH nx0 (fun p => I p (x0 p)) c1 F1) := by
  intro M s K ⟨c0, h0, hp⟩
  refine loopT_ok (f := f) (n := n) hC ht nx0 I J x0 μ c1 F1 (fun _ (_ : Empty) => False) (fun _ e => e.elim) hJ ?_ M s K ⟨c0, h0, fun p hc => ⟨hp p hc, fun e => e.elim⟩⟩
  intro p x hx
  refine Out.weak (hbody p x hx) (fun e s' hh => ?_) (fun _ _ _ hh => hh)
  cases e with
  | nx => exact hh
  | rt => exact hh.elim
  | ex j => exact hh
end
end Sx
end Go.Proofs.YtnegocgblmdihaaGreatDoor

/-
  A step that changes only what is known, ahead of a loop.
-/
namespace Go.Proofs.YtnegocgblmdihaaGreatDoor
namespace Sx
open Go

section
variable {U : Uni} {P : Program}

def ghostLoop (G : GhostS U) (L : LoopS U) : LoopS U := fun s K => G s.heap s.nx fun h nx T => L { s with heap := h, nx := nx, tl := T ++ s.tl } K
/-- A step that changes only what is known, behind a call. -/
def hookThen (H : HookS U) (G : GhostS U) : HookS U := fun args h nx K => H args h nx fun v h2 nx2 T2 => G h2 nx2 fun h3 nx3 T3 => K v h3 nx3 (T2 ++ T3)
theorem hookThen_ok {f : Nat} {G : GhostS U} {H : HookS U} (hG : GhostOk G) (hH : HookOk P f H) : HookOk P f (hookThen H G) := by
  intro M args h nx K hh
  obtain ⟨hfn, hc⟩ := hH M args h nx _ hh
  refine ⟨hfn, fun β r vs w hr hs hf => (hc β r vs w hr hs hf).mono ?_⟩
  rintro e w' ⟨v, h2, nx2, T2, z, r2, rfl, k0, k1, k2, k3, k4, k5⟩
  obtain ⟨h3, nx3, T3, r3, hK, g1, g2, g3, g4⟩ := hG M h2 nx2 _ k0 β r2 w' k4 k2
  exact ⟨v, h3, nx3, T2 ++ T3, z, r3, rfl, hK, k1.trans g1, g2, rel_mono g1 _ _ k3, g3, k5.comp g4 (fun i hi => List.mem_append.2 (.inl hi)) (fun i hi => List.mem_append.2 (.inr hi))⟩
end
end Sx
end Go.Proofs.YtnegocgblmdihaaGreatDoor

/-
  From a call as it is known here to a call in any world: all that was there stays.
-/
namespace Go.Proofs.YtnegocgblmdihaaGreatDoor
namespace Sx
open Go

/-- All of a world's memory. -/
def whole (W : World) : Hp := fun b => W.heap[b]?

theorem law_calls {U : Uni} {P : Program} {f : Nat} {avs : List AV} {h : Heap U} {nx : Nat} (hc : CallsSx P f avs h nx (fun v _ _ _ => v.sub .tt)) {W : World} {r : Nm} {vs : List Value}
    (hr : relL r avs vs) (hh : h.den (whole W) r Hp.nil) (hf : Fresh r nx) :
    Calls P f vs.toArray W (fun e W' => e = .returned (.bool true) ∧ RowKit.Below W.heap.size W W') := by
  refine (hc.2 ⟨whole W, W.os, W.output, W.tape⟩ r vs W hr ⟨⟨rfl, rfl, rfl, fun x o e => e⟩, Hp.nil, hh, Hp.nil_apart _, Hp.inW_nil W⟩ hf).mono ?_
  rintro e w' ⟨v, h', nx', T, z, r', rfl, hv, _, _, hz, ⟨hm, _⟩, _⟩
  have hz' : z = .bool true := hv r' z hz
  refine ⟨by rw [hz'], hm.os, hm.tape, hm.output, ?_, fun k hk => ?_⟩
  · rcases Nat.eq_zero_or_pos W.heap.size with h0 | h0
    · omega
    · have hk : W.heap.size - 1 < W.heap.size := by omega
      have := hm.G (W.heap.size - 1) _ (Array.getElem?_eq_getElem hk)
      have hlt := (Array.getElem?_eq_some_iff.1 this).1
      omega
  · have := hm.G k _ (Array.getElem?_eq_getElem hk)
    rw [this, Array.getElem?_eq_getElem hk]

end Sx
end Go.Proofs.YtnegocgblmdihaaGreatDoor

/-
  A universe of raw cells, for runs on known arguments; a tree of which each choice is made.
-/
namespace Go.Proofs.YtnegocgblmdihaaGreatDoor
namespace Sx
open Go

def okL (w : Nat) (cs : List AV) : Bool := Nat.beq cs.length w && cs.all AV.one
theorem okL_len {w : Nat} {cs : List AV} (h : okL w cs = true) : cs.length = w := by
  unfold okL at h; simp only [Bool.and_eq_true] at h; exact Nat.eq_of_beq_eq_true h.1
theorem okL_one {w : Nat} {cs : List AV} (h : okL w cs = true) : cs.all AV.one = true := by
  unfold okL at h; simp only [Bool.and_eq_true] at h; exact h.2
/-- Elements as rows of cells. -/
def rawEnc (z : List AV) (agg : Bool) (hz : okL z.length z = true) (hp : 0 < z.length) : Enc (List AV) where
  w := z.length
  agg := agg
  enc := fun a => bif okL z.length a then a else z
  dec := fun cs => bif okL z.length cs then some cs else none
  dflt := z
  len := fun a => by
    cases h : okL z.length a with
    | false => rfl
    | true => exact okL_len h
  back := fun cs a h r vs hr => by
    cases hk : okL z.length cs with
    | false => rw [hk] at h; cases h
    | true => rw [hk] at h; cases h; rw [hk]; exact hr
  one := fun a r vs h => by
    cases hk : okL z.length a with
    | false => rw [hk] at h; exact relL_one (okL_one hz) h
    | true => rw [hk] at h; exact relL_one (okL_one hk) h
  pos := hp
def rawOne : Enc (List AV) := rawEnc [.nilP] false rfl (by decide)
def rawK (τ : Tab) (e : Nat) : Enc (List AV) := match τ e with
  | some R => if h : okL R.zero.length R.zero = true ∧ 0 < R.zero.length then rawEnc R.zero R.kind.agg h.1 h.2 else rawOne
  | none => rawOne
/-- The universe of raw cells over a table of types. -/
@[reducible] def RawU (τ : Tab) : Uni := ⟨Nat, inferInstance, fun _ => List AV, rawK τ, Empty, fun e => e.elim⟩
/-- A table that asks for speed. -/
def quickTab (τ : Tab) : Tab := fun t => match τ t with | some R => some { R with quick := true } | none => none
theorem quick_met {P : Program} {τ : Tab} (h : τ.met P) : (quickTab τ).met P := by
  intro t R hR
  unfold quickTab at hR
  split at hR
  · rename_i R0 h0
    cases hR
    have k := h t R0 h0
    exact ⟨k.kind, k.info, k.cmp, k.meths⟩
  · cases hR
def rawKinds (τ : Tab) : Kinds (RawU τ) := fun e => match τ e with
  | some R => bif okL R.zero.length R.zero && Nat.blt 0 R.zero.length && Nat.beq R.zero.length R.size && !(Nat.beq R.bytes 0) then some e else none
  | none => none
theorem rawKinds_met (τ : Tab) : (rawKinds τ).met τ := by
  intro e k h
  unfold rawKinds at h
  split at h
  · rename_i R hR
    cases hc : (okL R.zero.length R.zero && Nat.blt 0 R.zero.length && Nat.beq R.zero.length R.size && !(Nat.beq R.bytes 0)) with
    | false => rw [hc] at h; cases h
    | true =>
      rw [hc] at h; cases h
      simp only [Bool.and_eq_true] at hc
      obtain ⟨⟨⟨h1, h2⟩, h3⟩, h4⟩ := hc
      have h2 : 0 < R.zero.length := by rwa [Nat.blt_eq] at h2
      have h3 := Nat.eq_of_beq_eq_true h3
      have e1 : rawK τ e = rawEnc R.zero R.kind.agg h1 h2 := by unfold rawK; rw [hR]; simp only []; rw [dif_pos ⟨h1, h2⟩]
      refine ⟨R, hR, ?_, ?_, ?_, fun r vs hv => ?_⟩
      · show (rawK τ e).w = _; rw [e1]; exact h3
      · show (rawK τ e).agg = _; rw [e1]; rfl
      · intro hb; rw [hb] at h4; simp at h4
      · show relL r ((rawK τ e).enc (rawK τ e).dflt) vs
        rw [e1]
        show relL r (bif okL R.zero.length R.zero then R.zero else R.zero) vs
        rw [h1]; exact hv
  · cases h

section
variable {U : Uni}
/-- Each choice made. -/
def Out.conc : Out U → Out U
  | .fin v h n => .fin v h n
  | .stop e s => .stop e s
  | .ite b t e => bif b then t.conc else e.conc
  | .need p k => .need p k.conc
  | @Out.needd _ p _ k => bif decide p then k.conc else .bad 997
  | .same a b k => .same a b k.conc
  | .asm p k => .asm p k.conc
  | .all β f => .all β fun x => (f x).conc
  | .ex β f => .ex β fun x => (f x).conc
  | .both a b => .both a.conc b.conc
  | .maybe b t e => bif b then .maybe b t.conc e.conc else e.conc
  | .bad n => .bad n
end
end Sx
end Go.Proofs.YtnegocgblmdihaaGreatDoor

