/-
  A region whose order is drawn: the machine, in whatever order, does what was reckoned.
-/
import Derived.Test.YtemcdjdglcceiaaSxO
namespace Go.Proofs.Ytemcdjdglcceiaa
namespace Sx
open Go

section
variable {U : Uni} {P : Program} {τ : Tab}

structure Acc (s0 : RS U) (r0 : Nm) (s : RS U) (r : Nm) : Prop where
  le : r0.le r
  tl : ∀ i, i ∈ s0.tl → i ∈ s.tl
  kept : Kept s0.heap s.heap s.tl

theorem Inv.slot {ops : Array Oper} {nt : Nat} {β : Base} {r : Nm} {s : RS U} {L : Array Bool} {a : Act} {w : World} (h : Inv P ops nt β r s L a w) {i : Nat} {o : Oper} (ho : ops[i]? = some o)
    (hLi : L.getD i false = false) (hr : ∀ e ∈ o.after.toList, Region.binds .any e = true → L.getD e.on false = true) {t : Nat} (ht : t ∈ o.looksAt ops) (hti : o.dst ≠ some t ∨ i ∉ s.done) : rel r (envGet s.env t) (a.tmps.getD t undef) := by
  refine h.slots t (fun j p hp hj hLj e => ?_)
  by_cases hji : j = i
  · subst hji; rw [ho] at hp; cases hp
    rcases hti with hti | hti
    · exact hti e
    · exact hti hj
  · have hlz : lazyB ops j p = true := by
      cases hh : lazyB ops j p with
      | true => rfl
      | false => have := h.eag j p hp hj hh; rw [this] at hLj; cases hLj
    obtain ⟨_, d, hd, huniq⟩ := lazy_dst hlz
    rw [hd] at e; cases e
    obtain ⟨ed, hed, hb, hon⟩ := edge_mem ((huniq i o ho (fun e => hji e.symm)).2 ht)
    have := hr ed hed hb
    rw [hon, hLj] at this; cases this

theorem getD_both {L : Array Bool} {i : Nat} (h : L.getD i true = false) : L.getD i false = false := by
  unfold Array.getD at h ⊢; split at h <;> simp_all

/-- Nothing but reading can look at its own slot ahead of its being told. -/
theorem lazy_own {ops : Array Oper} {i : Nat} {o : Oper} (ho : ops[i]? = some o) (hl : lazyB ops i o = true) (hself : ops.toList.zipIdx.all (fun q => match q.1.dst with | some d => !(looksB ops q.1 d) || !(lazyB ops q.2 q.1) | none => true) = true) {t : Nat} (ht : t ∈ o.looksAt ops) : o.dst ≠ some t := by
  intro e
  have := List.all_eq_true.1 hself (o, i) (mem_zipIdx.2 ho)
  simp only [e, hl] at this
  have h2 : looksB ops o t = true := elemN_iff.2 ht
  rw [h2] at this; simp at this

def regOk (nt : Nat) (ops : Array Oper) : Bool :=
  dstsOk nt ops && (ops.toList.zipIdx.all fun q => match q.1.dst with | some d => !(looksB ops q.1 d) || !(lazyB ops q.2 q.1) | none => true) &&
  (ops.toList.zipIdx.all fun q => q.1.after.toList.all fun e => !(Region.binds .any e) || Nat.blt e.on q.2)

theorem Inv.listed {ops : Array Oper} {nt : Nat} {β : Base} {r : Nm} {s : RS U} {L : Array Bool} {a : Act} {w : World} (h : Inv P ops nt β r s L a w) {i : Nat} {o : Oper} (ho : ops[i]? = some o)
    (hLi : L.getD i false = false) (hr : ∀ e ∈ o.after.toList, Region.binds .any e = true → L.getD e.on false = true) (hi : i ∈ s.done) {z : Value} (hz : ∀ d, o.dst = some d → rel r (envGet s.env d) z) (hd : dstsOk nt ops = true) :
    Inv P ops nt β r s (L.setIfInBounds i true) (a.put o.dst z) w := by
  have hlt : i < L.size := by rw [h.size]; exact (Array.getElem?_eq_some_iff.1 ho).1
  have hset : ∀ j, (L.setIfInBounds i true).getD j false = (if j = i then true else L.getD j false) := by
    intro j
    by_cases e : j = i
    · subst e; simp [Array.getD, hlt]
    · rw [getD_set_ne false (fun e' => e e'.symm), if_neg e]
  refine ⟨by simp [h.size], fun j hj => ?_, fun j p hp hj hl => ?_, fun j p hp hj e he hb => ?_, h.ddown, h.nodup, h.sat, h.fresh, fun t ht => ?_, fun j p hp hj hLj => ?_, by rw [put_size]; exact h.asize, by rw [put_defers]; exact h.defers⟩
  · rw [hset] at hj; split at hj
    · rename_i e; rw [e]; exact hi
    · exact h.sub j hj
  · rw [hset]; split
    · rfl
    · exact h.eag j p hp hj hl
  · rw [hset] at hj ⊢
    split
    · rfl
    · split at hj
      · rename_i e'; subst e'; rw [ho] at hp; cases hp; exact hr e he hb
      · exact h.down j p hp hj e he hb
  · cases hdst : o.dst with
    | none =>
      show rel r _ (a.tmps.getD t undef)
      refine h.slots t (fun j p hp hj hLj e => ?_)
      refine ht j p hp hj ?_ e
      rw [hset, if_neg (fun e' => ?_)]
      · exact hLj
      · subst e'; rw [ho] at hp; cases hp; rw [hdst] at e; cases e
    | some d =>
      rw [getD_put]
      by_cases htd : t = d
      · subst htd; rw [if_pos ⟨rfl, by rw [h.asize]; exact dstsOk_lt hd ho hdst⟩]; exact hz t hdst
      · rw [if_neg (fun e => htd e.1)]
        refine h.slots t (fun j p hp hj hLj e => ?_)
        refine ht j p hp hj ?_ e
        rw [hset, if_neg (fun e' => ?_)]
        · exact hLj
        · subst e'; rw [ho] at hp; cases hp; rw [hdst] at e; cases e; exact htd rfl
  · rw [hset] at hLj; split at hLj
    · cases hLj
    · exact h.pend j p hp hj hLj

/-- One that writes, and its step in the machine. -/
theorem Inv.eager {ops : Array Oper} {nt : Nat} {β : Base} {r r' : Nm} {s : RS U} {L : Array Bool} {a : Act} {w w' : World} (h : Inv P ops nt β r s L a w) {i : Nat} {o : Oper} (ho : ops[i]? = some o)
    (hLi : L.getD i false = false) (hr : ∀ e ∈ o.after.toList, Region.binds .any e = true → L.getD e.on false = true) (hi : i ∉ s.done) (heag : eagerB ops i o = true) (hd : dstsOk nt ops = true)
    {v : AV} {z : Value} {h' : Heap U} {nx' : Nat} {T : List Nat} (g1 : r.le r') (g2 : Fresh r' nx') (g3 : rel r' v z) (g4 : Sat β r' h' w') (g5 : Kept s.heap h' T) (hst : stable ops i T s.rds = true) :
    Inv P ops nt β r' { s with env := envPut s.env o.dst v, heap := h', nx := nx', tl := T ++ s.tl, done := i :: s.done } (L.setIfInBounds i true) (a.put o.dst z) w' := by
  have hlt : i < L.size := by rw [h.size]; exact (Array.getElem?_eq_some_iff.1 ho).1
  have hset : ∀ j, (L.setIfInBounds i true).getD j false = (if j = i then true else L.getD j false) := by
    intro j
    by_cases e : j = i
    · subst e; simp [Array.getD, hlt]
    · rw [getD_set_ne false (fun e' => e e'.symm), if_neg e]
  have hanc : ∀ j, ancB ops ops.size i j = true → L.getD j false = true := fun j hj => anc_listed h.down ops.size i j hj (fun o' ho' => by rw [ho] at ho'; cases ho'; exact hr)
  refine ⟨by simp [h.size], fun j hj => ?_, fun j p hp hj hl => ?_, fun j p hp hj e he hb => ?_, fun j p hp hj e he hb => ?_, ⟨List.nodup_cons.2 ⟨hi, h.nodup.1⟩, fun j hj => ?_⟩, g4, g2, fun t ht => ?_, fun j p hp hj hLj => ?_, by rw [put_size]; exact h.asize, by rw [put_defers]; exact h.defers⟩
  · rw [hset] at hj; split at hj
    · rename_i e; rw [e]; exact List.mem_cons_self ..
    · exact List.mem_cons_of_mem _ (h.sub j hj)
  · rw [hset]; split
    · rfl
    · rename_i hne
      rcases List.mem_cons.1 hj with e | hj
      · exact absurd e hne
      · exact h.eag j p hp hj hl
  · rw [hset] at hj ⊢
    split
    · rfl
    · split at hj
      · rename_i e'; subst e'; rw [ho] at hp; cases hp; exact hr e he hb
      · exact h.down j p hp hj e he hb
  · rcases List.mem_cons.1 hj with e' | hj
    · subst e'; rw [ho] at hp; cases hp; exact List.mem_cons_of_mem _ (h.sub _ (hr e he hb))
    · exact List.mem_cons_of_mem _ (h.ddown j p hp hj e he hb)
  · rcases List.mem_cons.1 hj with e' | hj
    · subst e'; exact (Array.getElem?_eq_some_iff.1 ho).1
    · exact h.nodup.2 j hj
  · show rel r' (envGet (envPut s.env o.dst v) t) _
    have hold : (o.dst ≠ some t) → rel r' (envGet s.env t) (a.tmps.getD t undef) := fun hne => rel_mono g1 _ _ (h.slots t (fun j p hp hj hLj e => by
      refine ht j p hp (List.mem_cons_of_mem _ hj) ?_ e
      have hji : j ≠ i := fun e' => hi (by rw [← e']; exact hj)
      rw [hset, if_neg hji]; exact hLj))
    cases hdst : o.dst with
    | none => exact hold (by rw [hdst]; simp)
    | some d =>
      rw [envGet_put, getD_put]
      by_cases htd : t = d
      · subst htd; rw [if_pos rfl, if_pos ⟨rfl, by rw [h.asize]; exact dstsOk_lt hd ho hdst⟩]; exact g3
      · rw [if_neg htd, if_neg (fun e => htd e.1)]; exact hold (by rw [hdst]; intro e; cases e; exact htd rfl)
  · rw [hset] at hLj
    split at hLj
    · cases hLj
    · rename_i hne
      have hj' : j ∈ s.done := by
        rcases List.mem_cons.1 hj with e | hj
        · exact absurd e hne
        · exact hj
      have hlz : lazyB ops j p = true := by
        cases hh : lazyB ops j p with
        | true => rfl
        | false => have := h.eag j p hp hj' hh; rw [this] at hLj; cases hLj
      have hheap : ∀ id B, s.heap.get id = some B → (j, id) ∈ s.rds → h'.get id = some B := by
        intro id B e hm
        refine g5 id B e (fun hT => ?_)
        have := List.all_eq_true.1 hst (j, id) hm
        simp only [elemN_iff.2 hT, Bool.not_true, Bool.false_or] at this
        rw [hanc j this] at hLj; cases hLj
      have hp0 := h.pend j p hp hj' hLj
      cases hdst : o.dst with
      | none => exact hp0.keepN rfl hheap (fun _ h => h)
      | some d =>
        refine hp0.keep (d := d) (v := v) rfl (fun hm => ?_) (fun e => ?_) hheap (fun _ h => h)
        · unfold eagerB at heag
          rw [hdst] at heag; simp only at heag
          have := List.all_eq_true.1 heag (p, j) (mem_zipIdx.2 hp)
          have h2 : looksB ops p d = true := elemN_iff.2 hm
          simp only [h2, Bool.not_true, Bool.or_false, Bool.or_eq_true] at this
          rcases this with (h3 | h3) | h3
          · exact hne (Nat.eq_of_beq_eq_true h3)
          · obtain ⟨e, he, hb, hon⟩ := edge_mem h3
            have := h.ddown j p hp hj' e he hb
            rw [hon] at this; exact hi this
          · rw [hanc j h3] at hLj; cases hLj
        · obtain ⟨_, d', hd', huniq⟩ := lazy_dst hlz
          rw [hd'] at e; cases e
          exact (huniq i o ho (fun e => hne e.symm)).1 hdst

theorem rdOf_some {h : Heap U} {rd : Option Nat} {id : Nat} {B : Blk U} (e : rdOf h rd = some (id, B)) : rd = some id ∧ h.get id = some B := by
  unfold rdOf at e
  split at e
  · split at e
    · rename_i hB; cases e; exact ⟨rfl, hB⟩
    · cases e
  · cases e

theorem region_step (hτ : τ.met P) {κ : Kinds U} (hκ : κ.met τ) {M : Goal U} {C : CallF U} (hC : C.ok P M) {ops : Array Oper} {nt : Nat} (hok : regOk nt ops = true) {Q : Exit → Act → World → Prop} {K : RS U → Out U} {β : Base} {r0 : Nm} {s0 : RS U} {L : Array Bool} {a : Act} {w : World} {i : Nat} (hi : i ∈ Region.ready .any ops L) :
    ∀ (n : Nat) (s : RS U) (r : Nm), (explore τ κ C ops n s K).holds M → Inv P ops nt β r s L a w → Acc s0 r0 s r →
      wpOp P ops Q i (fun a' w' => ∃ n' s' r', (explore τ κ C ops n' s' K).holds M ∧ Inv P ops nt β r' s' (L.setIfInBounds i true) a' w' ∧ Acc s0 r0 s' r') a w := by
  simp only [regOk, Bool.and_eq_true] at hok
  obtain ⟨⟨hd, hself⟩, _⟩ := hok
  obtain ⟨hL0, o, ho, hrd⟩ := mem_ready.1 hi
  have hLi := getD_both hL0
  have hr : ∀ e ∈ o.after.toList, Region.binds .any e = true → L.getD e.on false = true := fun e he hb => hrd e (by simpa using he) hb
  intro n
  induction n with
  | zero => intro s r H; exact H.elim
  | succ n ih =>
    intro s r H hI hA
    by_cases hdone : i ∈ s.done
    · -- it was reckoned ahead
      have hlz : lazyB ops i o = true := by
        cases hh : lazyB ops i o with
        | true => rfl
        | false => have := hI.eag i o ho hdone hh; rw [this] at hLi; cases hLi
      have hslot : ∀ t, t ∈ o.looksAt ops → rel r (envGet s.env t) (a.tmps.getD t undef) := fun t ht => hI.slot ho hLi hr ht (.inl (lazy_own ho hlz hself ht))
      have hops : ∀ x ∈ o.op.operands.toList, rel r (evO s.env x) (a.eval x) := by
        intro x hx
        cases x with
        | tmp t => exact hslot t (looks_tmp hx)
        | const v => exact rel_constAV r v
        | global g => rfl
        | func f => exact ⟨[], [], relL_nil, relL_nil, rfl⟩
      have hwant := want?_sound (ops := ops) (env := s.env) (o := o) (r := r) (a := a) (fun j wt d hg hjd => ⟨hslot d (looks_guard hg hjd), by
        cases hoj : ops[j]? with
        | none => rw [hoj] at hjd; simp at hjd
        | some p => rw [hoj] at hjd; simp at hjd; rw [hI.asize]; exact dstsOk_lt hd hoj hjd⟩)
      unfold wpOp; rw [ho]; simp only
      rcases hI.pend i o ho hdone hLi with ⟨h1, v, rd, h2, h3, h4⟩ | ⟨h1, h2⟩
      · rw [hwant.1 h1, if_pos rfl]
        left
        obtain ⟨z, hz, hrz⟩ := h3 β r a w hops (fun id B e => hI.sat.at (h2 id B e).1)
        unfold Oper.wp; rw [hz, Oper.upon_value]
        exact ⟨n + 1, s, r, H, hI.listed ho hLi hr hdone (fun d e => h4 d e r z hrz) hd, hA⟩
      · rw [hwant.2 h1, if_neg (by simp)]
        exact ⟨n + 1, s, r, H, hI.listed ho hLi hr hdone (fun d e => by rw [h2 d e]; rfl) hd, hA⟩
    · unfold explore at H
      split at H
      · -- another one, or this one, is reckoned ahead
        rename_i o' i' hfl
        obtain ⟨hm, hn', hready, hlz⟩ := firstLazy_some hfl
        have ho' := mem_zipIdx.1 hm
        split at H
        · rename_i hw
          obtain ⟨v, rd, hK, hLz, hrdne⟩ := evalL_sound (dst := o'.dst) (type := o'.type) (pos := o'.pos) (after := o'.after) (guard := o'.guard) hτ hκ H
          obtain ⟨_, d, hdst, huniq⟩ := lazy_dst hlz
          refine ih _ r hK (hI.ahead ho' hn' hready hlz (v := v) (rds := putRd i' rd s.rds) (fun q hq => by unfold putRd; split <;> simp [hq]) ?_) ⟨hA.le, hA.tl, hA.kept⟩
          have hnl : d ∉ o'.looksAt ops := fun hh => lazy_own ho' hlz hself hh hdst
          refine .inl ⟨?_, v, rdOf s.heap rd, fun id B e => ?_, ?_, fun d' e r z hz => ?_⟩
          · show want? ops (envPut s.env o'.dst v) o' = _; rw [hdst, want_put hnl]; exact hw
          · obtain ⟨e1, e2⟩ := rdOf_some e; exact ⟨e2, by subst e1; exact List.mem_cons_self ..⟩
          · refine Lz.weaken hLz (fun x hx r z hz => ?_)
            have : evO (envPut s.env o'.dst v) x = evO s.env x := by rw [hdst]; exact evO_put (fun e => hnl (looks_tmp (e ▸ hx)))
            rw [this] at hz; exact hz
          · show rel r (envGet (envPut s.env o'.dst v) d') z
            rw [e, envGet_put, if_pos rfl]; exact hz
        · rename_i hw
          obtain ⟨_, d, hdst, huniq⟩ := lazy_dst hlz
          have hnl : d ∉ o'.looksAt ops := fun hh => lazy_own ho' hlz hself hh hdst
          refine ih _ r H (hI.ahead ho' hn' hready hlz (v := .raw undef) (rds := s.rds) (fun q hq => hq) ?_) ⟨hA.le, hA.tl, hA.kept⟩
          refine .inr ⟨?_, fun d' e => ?_⟩
          · show want? ops (envPut s.env o'.dst _) o' = _; rw [hdst, want_put hnl]; exact hw
          · show envGet (envPut s.env o'.dst _) d' = _; rw [e, envGet_put, if_pos rfl]
        · rename_i d b hw
          obtain ⟨hb, _⟩ := want_ask hw
          cases hbb : b with
          | true => exact ih _ r (H.1 hbb) (hI.setEnv hb (x := .tt) (fun r z => by simp [rel, hbb])) ⟨hA.le, hA.tl, hA.kept⟩
          | false => exact ih _ r (H.2 hbb) (hI.setEnv hb (x := .ff) (fun r z => by simp [rel, hbb])) ⟨hA.le, hA.tl, hA.kept⟩
        · exact H.elim
      · rename_i hfl
        have hreadyB : readyB s.done o = true := by
          unfold readyB
          refine List.all_eq_true.2 (fun e he => ?_)
          cases hb : Region.binds .any e with
          | false => simp
          | true => simp [elemN_iff.2 (hI.sub _ (hr e he hb))]
        have hmem : (o, i) ∈ readyAll s.done ops.toList.zipIdx := by
          refine List.mem_filter.2 ⟨mem_zipIdx.2 ho, ?_⟩
          have : elemN s.done i = false := by cases e : elemN s.done i with | true => exact absurd (elemN_iff.1 e) hdone | false => rfl
          simp [this, hreadyB]
        have hslot : ∀ t, t ∈ o.looksAt ops → rel r (envGet s.env t) (a.tmps.getD t undef) := fun t ht => hI.slot ho hLi hr ht (.inr hdone)
        have hops : ∀ x ∈ o.op.operands.toList, rel r (evO s.env x) (a.eval x) := by
          intro x hx
          cases x with
          | tmp t => exact hslot t (looks_tmp hx)
          | const v => exact rel_constAV r v
          | global g => rfl
          | func f => exact ⟨[], [], relL_nil, relL_nil, rfl⟩
        have hwant := want?_sound (ops := ops) (env := s.env) (o := o) (r := r) (a := a) (fun j wt d hg hjd => ⟨hslot d (looks_guard hg hjd), by
          cases hoj : ops[j]? with
          | none => rw [hoj] at hjd; simp at hjd
          | some p => rw [hoj] at hjd; simp at hjd; rw [hI.asize]; exact dstsOk_lt hd hoj hjd⟩)
        split at H
        · rename_i hnil; rw [hnil] at hmem; simp at hmem
        · have H := bothAll_holds H (List.mem_map.2 ⟨(o, i), hmem, rfl⟩)
          simp only at H
          split at H
          · rename_i hw
            rw [holds_bif] at H
            split at H
            · rename_i heag
              unfold wpOp; rw [ho]; simp only
              rw [hwant.1 hw, if_pos rfl]
              left
              have hop := stepAny_sound hτ hκ hC H
              refine hop β r a w hops hI.sat hI.fresh _ _ ?_
              rintro v h' nx' T z w' r' ⟨_, hK⟩ g1 g2 g3 g4 g5
              rw [holds_bif] at hK
              split at hK
              · rename_i hst
                exact ⟨n, _, r', hK, hI.eager ho hLi hr hdone heag hd g1 g2 g3 g4 g5 hst, hA.le.trans g1, fun j hj => List.mem_append.2 (.inr (hA.tl j hj)),
                  fun id B e hn => g5 id B (hA.kept id B e (fun hh => hn (List.mem_append.2 (.inr hh)))) (fun hh => hn (List.mem_append.2 (.inl hh)))⟩
              · exact hK.elim
            · exact H.elim
          · rename_i hw
            rw [holds_bif] at H
            split at H
            · rename_i heag
              unfold wpOp; rw [ho]; simp only
              rw [hwant.2 hw, if_neg (by simp)]
              have := hI.eager (v := .raw undef) (z := undef) (h' := s.heap) (nx' := s.nx) (T := []) ho hLi hr hdone heag hd (Nm.le.refl r) hI.fresh rfl hI.sat (Kept.refl _ _) (by unfold stable; refine List.all_eq_true.2 (fun q _ => by simp [elemN]))
              exact ⟨n, _, r, H, this, hA.le, hA.tl, hA.kept⟩
            · exact H.elim
          · rename_i d b hw
            obtain ⟨hb, _⟩ := want_ask hw
            cases hbb : b with
            | true => exact ih _ r (H.1 hbb) (hI.setEnv hb (x := .tt) (fun r z => by simp [rel, hbb])) ⟨hA.le, hA.tl, hA.kept⟩
            | false => exact ih _ r (H.2 hbb) (hI.setEnv hb (x := .ff) (fun r z => by simp [rel, hbb])) ⟨hA.le, hA.tl, hA.kept⟩
          · exact H.elim

theorem region_end {κ : Kinds U} {M : Goal U} {C : CallF U} {ops : Array Oper} {nt : Nat} {K : RS U → Out U} {β : Base} {r : Nm} {L : Array Bool} {a : Act} {w : World} (hall : ∀ i, i < ops.size → L.getD i false = true) :
    ∀ (n : Nat) (s : RS U), (explore τ κ C ops n s K).holds M → Inv P ops nt β r s L a w → (K s).holds M := by
  intro n
  cases n with
  | zero => intro s H; exact H.elim
  | succ n =>
    intro s H hI
    unfold explore at H
    split at H
    · rename_i o i hfl
      obtain ⟨hm, hn, _⟩ := firstLazy_some hfl
      exact absurd (hI.sub i (hall i (Array.getElem?_eq_some_iff.1 (mem_zipIdx.1 hm)).1)) hn
    · split at H
      · rw [holds_bif] at H
        split at H
        · exact H
        · exact H.elim
      · rename_i es hes
        exfalso
        cases hre : readyAll s.done ops.toList.zipIdx with
        | nil => exact hes hre
        | cons q l =>
          have hq : q ∈ readyAll s.done ops.toList.zipIdx := by rw [hre]; simp
          obtain ⟨h1, h2⟩ := List.mem_filter.1 hq
          obtain ⟨o, i⟩ := q
          have hlt := (Array.getElem?_eq_some_iff.1 (mem_zipIdx.1 h1)).1
          have := hI.sub i (hall i hlt)
          rw [elemN_iff.2 this] at h2; simp at h2

theorem ready_nil {ops : Array Oper} {nt : Nat} (hok : regOk nt ops = true) {L : Array Bool} (hsz : L.size = ops.size) (h : Region.ready .any ops L = []) : ∀ i, i < ops.size → L.getD i false = true := by
  simp only [regOk, Bool.and_eq_true] at hok
  obtain ⟨_, hlt⟩ := hok
  intro i
  induction i using Nat.strongRecOn with
  | _ i ih =>
    intro hi
    cases hL : L.getD i false with
    | true => rfl
    | false =>
      exfalso
      have hmem : i ∈ Region.ready .any ops L := by
        refine mem_ready.2 ⟨?_, ops[i], Array.getElem?_eq_getElem hi, fun e he hb => ?_⟩
        · have : i < L.size := by omega
          simp [Array.getD, this] at hL ⊢; exact hL
        · have := List.all_eq_true.1 hlt (ops[i], i) (mem_zipIdx.2 (Array.getElem?_eq_getElem hi))
          have := List.all_eq_true.1 this e (by simpa using he)
          rw [hb] at this; simp only [Bool.not_true, Bool.false_or] at this
          have hlt' : e.on < i := Nat.le_of_ble_eq_true this
          exact ih e.on hlt' (by omega)
      rw [h] at hmem; simp at hmem

theorem region_run (hτ : τ.met P) {κ : Kinds U} (hκ : κ.met τ) {M : Goal U} {C : CallF U} (hC : C.ok P M) {ops : Array Oper} {nt : Nat} (hok : regOk nt ops = true) {Q : Exit → Act → World → Prop} {K : RS U → Out U} {β : Base} {r0 : Nm} {s0 : RS U}
    (hQ : ∀ s r a w, (K s).holds M → r0.le r → Acc s0 r0 s r → Sat β r s.heap w → Fresh r s.nx → EnvOk r s.env a → a.tmps.size = nt → a.defers = [] → Q .normal a w) :
    ∀ (fuel : Nat) (n : Nat) (s : RS U) (r : Nm) (L : Array Bool) (a : Act) (w : World), (explore τ κ C ops n s K).holds M → Inv P ops nt β r s L a w → Acc s0 r0 s r →
      (L.toList.countP (fun b => !b)) ≤ fuel → wpAny P .any ops Q fuel L a w := by
  have fin : ∀ (n : Nat) (s : RS U) (r : Nm) (L : Array Bool) (a : Act) (w : World), (explore τ κ C ops n s K).holds M → Inv P ops nt β r s L a w → Acc s0 r0 s r → Region.ready .any ops L = [] → Q .normal a w := by
    intro n s r L a w H hI hA hnil
    have hall := ready_nil hok hI.size hnil
    refine hQ s r a w (region_end hall n s H hI) hA.le hA hI.sat hI.fresh (fun t => hI.slots t (fun i o ho _ hL => ?_)) hI.asize hI.defers
    rw [hall i (Array.getElem?_eq_some_iff.1 ho).1] at hL; cases hL
  intro fuel
  induction fuel with
  | zero =>
    intro n s r L a w H hI hA hc
    have hnil : Region.ready .any ops L = [] := by
      cases hre : Region.ready .any ops L with
      | nil => rfl
      | cons i l =>
        have hi : i ∈ Region.ready .any ops L := by rw [hre]; simp
        obtain ⟨h0, o, ho, _⟩ := mem_ready.1 hi
        have hlt : i < L.size := by rw [hI.size]; exact (Array.getElem?_eq_some_iff.1 ho).1
        have : 0 < L.toList.countP (fun b => !b) := by
          rw [List.countP_pos_iff]
          refine ⟨L[i], by simp, ?_⟩
          simp [Array.getD, hlt] at h0; simp [h0]
        omega
    exact ⟨hnil, fin n s r L a w H hI hA hnil⟩
  | succ fuel ih =>
    intro n s r L a w H hI hA hc
    refine ⟨fin n s r L a w H hI hA, fun i hi => ?_⟩
    refine wpOp_mono ?_ (region_step hτ hκ hC hok hi n s r H hI hA)
    rintro a' w' ⟨n', s', r', H', hI', hA'⟩
    refine ih n' s' r' _ a' w' H' hI' hA' ?_
    obtain ⟨h0, o, ho, _⟩ := mem_ready.1 hi
    have hlt : i < L.size := by rw [hI.size]; exact (Array.getElem?_eq_some_iff.1 ho).1
    have hLi : L[i] = false := by simpa [Array.getD, hlt] using h0
    have : (L.setIfInBounds i true).toList.countP (fun b => !b) + 1 = L.toList.countP (fun b => !b) := by
      have h1 : 0 < L.toList.countP (fun b => !b) := by
        rw [List.countP_pos_iff]; exact ⟨L[i], by simp, by simp [hLi]⟩
      rw [Array.toList_setIfInBounds, List.countP_set (by simpa using hlt)]
      have h2 : L.toList[i]'(by simpa using hlt) = false := by simpa using hLi
      rw [h2]; simp only [Bool.not_false, if_true, Bool.not_true, Bool.false_eq_true, if_false, Nat.add_zero]; omega
    omega

theorem region_drawn (hτ : τ.met P) (hm : P.follows .mixedOrders = true) {κ : Kinds U} (hκ : κ.met τ) {M : Goal U} {C : CallF U} (hC : C.ok P M) {id : Nat} {ops : Array Oper} {s : St U} {n : Nat} {K : St U → Out U}
    (hok : regOk s.nt ops = true) (H : (explore τ κ C ops n ⟨s.env, s.heap, s.nx, s.tl, [], []⟩ (fun x => K { s with env := x.env, heap := x.heap, nx := x.nx, tl := x.tl })).holds M) :
    WP P (.region id ops true) s (fun e s' => e = .nx ∧ (K s').holds M) := by
  intro β r a w hs Q hQ
  refine wp_region_any hm ?_
  refine region_run (s0 := ⟨s.env, s.heap, s.nx, s.tl, [], []⟩) (r0 := r) (β := β) hτ hκ hC hok ?_ ops.size n _ r _ a _ H ?_ ⟨Nm.le.refl r, fun _ h => h, Kept.refl _ _⟩ (Nat.le_trans (List.countP_le_length) (by simp))
  · intro x r' a' w' hK l hA h1 h2 h3 h4 h5
    exact hQ .nx { s with env := x.env, heap := x.heap, nx := x.nx, tl := x.tl } r' a' w' ⟨rfl, hK⟩ l ⟨h1, h2, h3, h4, h5⟩ ⟨hA.tl, hA.kept, rfl⟩
  · have hf : ∀ i, (Array.replicate ops.size false).getD i false = false := fun i => by simp [Array.getD]
    refine ⟨by simp, fun i hi => (by rw [hf] at hi; cases hi), fun i o _ hi => (by simp at hi), fun i o _ hi => (by rw [hf] at hi; cases hi), fun i o _ hi => (by simp at hi), ⟨List.nodup_nil, fun i hi => (by simp at hi)⟩, hs.sat.drew, hs.fresh, fun t _ => hs.env t, fun i o _ hi => (by simp at hi), hs.size, hs.defers⟩

end
end Sx
end Go.Proofs.Ytemcdjdglcceiaa
