/-
  Going over a map of numbers, in whatever order: the operations of such a loop, for the executor.
-/
import Derived.Test.YtmcmdghmglopnaaGreatDoorGrowingP6
import Derived.Maps.RangeRun
import Derived.Maps.Range
namespace Go.Proofs.YtmcmdghmglopnaaGreatDoor
namespace Sx
open Go
open Go.ChangeMaps (setBlock)

abbrev CST := (Operand → AV) → Heap V → Nat → (AV → Heap V → List Nat → Out V) → Out V
def wRange (x : Operand) : CST := fun ev h nw K => match ev x with
  | .mp id => (match h.get id with
    | some (.mp .i64 .int m) => K (.ptr nw 0) ((nw, .obj ⟨m, m, none⟩) :: h.del id) [nw, id]
    | _ => .bad 770)
  | _ => .bad 771
def wNext (x : Operand) : CST := fun ev h _ K => match ev x with
  | .ptr id off => bif Nat.beq off 0 then (match h.get id with
    | some (.obj x) => .both (.asm (x.left = []) (K (.tup [.ff]) h []))
        (.all (Int × Int) fun q => .all (List (Int × Int)) fun l1 => .all (List (Int × Int)) fun l2 => .asm (x.left = l1 ++ q :: l2) (K (.tup [.tt, .int .i64 q.1, .int .i64 q.2]) (h.set id (.obj ⟨x.m, l1 ++ l2, some q⟩)) [id]))
    | _ => .bad 772) else .bad 773
  | _ => .bad 774
def wEntry (x : Operand) : CST := fun ev h _ K => match ev x with
  | .ptr id off => bif Nat.beq off 0 then (match h.get id with
    | some (.obj x) => (match x.cur with | some q => K (.tup [.int .i64 q.1, .int .i64 q.2]) h [] | none => .bad 775)
    | _ => .bad 776) else .bad 777
  | _ => .bad 778
def custom : Op → Option CST
  | .range T x => bif Nat.beq T 64 then some (wRange x) else none
  | .next x s => bif s then none else some (wNext x)
  | .entry x => some (wEntry x)
  | _ => none

theorem relM_kv {r : Nm} : ∀ {m : List (Int × Int)} {es : List MapEntry}, relM intLay .i64 r m es → KV es m
  | [], es, h => by cases h; rfl
  | (n, x) :: m, es, ⟨e, fs, h1, h2, h3, h4⟩ => by
    subst h1
    have ih := relM_kv h4
    have hv : e.val = .int .i64 x := by
      have h3 : relL r [.int .i64 x] [e.val] := h3
      simp only [relL, rel] at h3
      obtain ⟨v, us, e1, e2, _⟩ := h3
      cases e1; exact e2
    unfold KV at ih ⊢
    rw [List.map_cons, List.map_cons, ih, h2, hv]
theorem kv_split {es : List MapEntry} {m : List (Int × Int)} (h : KV es m) {a b : List MapEntry} {e : MapEntry} (he : es = a ++ e :: b) : ∃ l1 l2 q, m = l1 ++ q :: l2 ∧ KV a l1 ∧ KV b l2 ∧ e.key = .int .i64 q.1 ∧ e.val = .int .i64 q.2 := by
  subst he
  unfold KV at h ⊢
  rw [List.map_append, List.map_cons] at h
  obtain ⟨l1, l', e1, e2, e3⟩ := List.map_eq_append_iff.1 h.symm
  obtain ⟨q, l2, e4, e5, e6⟩ := List.map_eq_cons_iff.1 e3
  subst e1; subst e4
  have e5 := Prod.mk.inj e5
  exact ⟨l1, l2, q, rfl, e2.symm, e6.symm, e5.1.symm, e5.2.symm⟩
theorem left_push {es : Array MapEntry} {seen : Array Nat} {e : MapEntry} (hn : (es.toList.map (·.born)).Nodup) {a b : List MapEntry} (h : (leftOf es seen).toList = a ++ e :: b) : (leftOf es (seen.push e.born)).toList = a ++ b := by
  have h1 : (leftOf es (seen.push e.born)).toList = (leftOf es seen).toList.filter (fun x => !(x.born == e.born)) := by
    unfold leftOf
    rw [Array.toList_filter, Array.toList_filter, List.filter_filter]
    refine List.filter_congr fun x _ => ?_
    simp only [Array.contains_push]
    cases (x.born == e.born) <;> cases (seen.contains x.born) <;> rfl
  have hnd : (((leftOf es seen).toList).map (·.born)).Nodup := by
    unfold leftOf
    rw [Array.toList_filter]
    exact hn.sublist ((List.filter_sublist).map _)
  rw [h1, h]
  rw [h, List.map_append, List.map_cons, List.nodup_append] at hnd
  obtain ⟨n1, n2, n3⟩ := hnd
  have n2 := List.nodup_cons.1 n2
  rw [List.filter_append, List.filter_cons]
  have ha : a.filter (fun x => !(x.born == e.born)) = a := List.filter_eq_self.2 fun x hx => by
    have := n3 x.born (List.mem_map.2 ⟨x, hx, rfl⟩) e.born (List.mem_cons_self ..)
    simpa using this
  have hb : b.filter (fun x => !(x.born == e.born)) = b := List.filter_eq_self.2 fun x hx => by
    have : x.born ≠ e.born := fun hh => n2.1 (hh ▸ List.mem_map.2 ⟨x, hx, rfl⟩)
    simpa using this
  rw [ha, hb]
  simp

theorem underlying64 : Tryz.prog.underlying 64 = some (.map 3 3) := by kernel_rfl
theorem custom_ok {M : Goal V} {dst : Option Tmp} {op : Op} {type : Nat} {pos : String} {after : Array Edge} {guard : Option (Nat × Bool)} {ev : Operand → AV} {h : Heap V} {nw : Nat} {K : AV → Heap V → List Nat → Out V} {f : CST}
    (hf : custom op = some f) (H : (f ev h nw K).holds M) : EgK Tryz.prog ⟨dst, op, type, pos, after, guard⟩ ev h nw (fun v h' t => (K v h' t).holds M) := by
  cases op <;> try (cases hf; done)
  case range T x =>
    have hf : (bif Nat.beq T 64 then some (wRange x) else none) = some f := hf
    cases hT : Nat.beq T 64 with
    | false => rw [hT] at hf; cases hf
    | true =>
      rw [hT] at hf; cases hf
      obtain rfl := Nat.eq_of_beq_eq_true hT
      unfold wRange at H
      split at H
      · rename_i id hx
        split at H
        · rename_i m hg
          intro β r a w ho hs hn
          have h1 := ho x (by simp [Op.operands])
          rw [hx] at h1
          simp only [rel] at h1
          obtain ⟨y, hy, hev⟩ := h1
          obtain ⟨hm, A, hd, hap, hin⟩ := hs
          obtain ⟨H1, H2, ⟨b, es, clock, q1, q2, q3, rfl⟩, q2', rfl, q4, _⟩ := Heap.focus hd hg
          rw [q1] at hy; cases hy
          have hin' := (Hp.inW_join q2').1 hin
          have hb : w.heap[b]? = some (.map es clock) := hin'.1 b _ (by simp [Hp.one])
          have hrun := run_range_map (P := Tryz.prog) w 64 3 3 b es clock underlying64 hb
          have hle := Nm.le_put (r := r) (x := (w.heap.size, 0)) hn
          have none_at : ∀ {A : Hp}, A.inW w → A w.heap.size = none := fun {A} hA => by
            cases e : A w.heap.size with
            | none => rfl
            | some o => have := (Array.getElem?_eq_some_iff.1 (hA _ o e)).1; omega
          have keep : ∀ {A : Hp}, A.inW w → A.inW (w.alloc (.mapIter (some b) clock #[] clock)) := fun {A} hA x o e => by
            have h1 := hA x o e
            exact (RowKit.Below.heap_alloc w _ x (Array.getElem?_eq_some_iff.1 h1).1).trans h1
          have hbs := (Array.getElem?_eq_some_iff.1 hb).1
          have hkv := relM_kv q2
          have hap1 := Hp.join_apart.1 hap
          have aone : (Hp.one w.heap.size (.mapIter (some b) clock #[] clock)).apart H2 := Hp.one_apart.2 (none_at hin'.2)
          have e0 : (leftOf es #[]).toList = es.toList := by unfold leftOf; rw [Array.toList_filter]; exact List.filter_eq_self.2 (fun x _ => by simp)
          refine ⟨_, _, _, .pointer (some ⟨w.heap.size, 0, none⟩), w.alloc (.mapIter (some b) clock #[] clock), r.put nw (w.heap.size, 0), H, .inl ?_, hle, fun i hi hr => by unfold Nm.put; rw [if_neg hi]; exact hr, ⟨(w.heap.size, 0), Nm.put_self _ _ _, rfl⟩,
            ⟨⟨hm.os, hm.output, hm.tape, keep hm.G⟩, ((Hp.one b (.map es clock)).join (Hp.one w.heap.size (.mapIter (some b) clock #[] clock))).join H2, ⟨_, H2, ⟨w.heap.size, Nm.put_self _ _ _, b, es, clock, clock, #[], clock, by omega, rfl, hkv, q3, q3.1, Nat.le_refl _, Nat.le_refl _, by rw [e0]; exact hkv, fun q hq => by cases hq⟩, Heap.den_mono hle q4, Hp.join_apart.2 ⟨q2', aone⟩, rfl⟩, ?_, ?_⟩, Kept.of fun i B e hne => ?_⟩
          · simp [execOp, hev, hrun]
          · exact Hp.join_apart.2 ⟨Hp.join_apart.2 ⟨hap1.1, Hp.one_apart.2 (none_at hm.G)⟩, hap1.2⟩
          · refine (Hp.inW_join (Hp.join_apart.2 ⟨q2', aone⟩)).2 ⟨(Hp.inW_join (Hp.apart.symm (Hp.one_apart.2 (by simp [Hp.one]; omega)))).2 ⟨keep hin'.1, fun x o e => ?_⟩, keep hin'.2⟩
            unfold Hp.one at e
            split at e
            · rename_i hx; cases e; subst hx; exact (MapKept.heap_alloc w _).1
            · cases e
          · simp only [List.mem_cons, List.not_mem_nil, or_false, not_or] at hne
            rw [Heap.get_cons_ne hne.1, Heap.get_del_ne hne.2]; exact e
        · exact H.elim
      · exact H.elim
  case next x s =>
    unfold custom at hf
    cases s with
    | true => cases hf
    | false =>
      cases hf
      unfold wNext at H
      split at H
      · rename_i id off hx
        rw [holds_bif] at H
        split at H
        · rename_i hoff
          obtain rfl := Nat.eq_of_beq_eq_true hoff
          split at H
          · rename_i wk hg
            obtain ⟨Hend, Hgo⟩ := H
            intro β r a w ho hs hn
            have h1 := ho x (by simp [Op.operands])
            rw [hx] at h1
            simp only [rel] at h1
            obtain ⟨y, hy, hev⟩ := h1
            have hs0 := hs
            obtain ⟨hm, A, hd, hap, hin⟩ := hs
            obtain ⟨H1, H2, ⟨ri, q1, b, es, clock, since, seen, c0, hne, rfl, kv, st, old, s1, s2, kl, _⟩, q2', rfl, q4, q5⟩ := Heap.focus hd hg
            rw [q1] at hy; cases hy
            have hin' := (Hp.inW_join q2').1 hin
            have aone : (Hp.one b (.map es clock)).apart (Hp.one ri (.mapIter (some b) since seen c0)) := Hp.one_apart.2 (by simp [Hp.one, hne])
            have hin1 := (Hp.inW_join aone).1 hin'.1
            have hb : w.heap[b]? = some (.map es clock) := hin1.1 b _ (by simp [Hp.one])
            have hr : w.heap[ri]? = some (.mapIter (some b) since seen c0) := hin1.2 ri _ (by simp [Hp.one])
            have hstn := ((MapKept.stamped_iff es clock).1 st).2.1
            rcases run_next_at (P := Tryz.prog) w type ri b since c0 seen es clock hr hb old s1 with ⟨h0, hrun⟩ | ⟨e, he, w1, hal, hrun⟩
            · have hl : wk.left = [] := by
                have : (leftOf es seen).toList = [] := List.eq_nil_of_length_eq_zero (by simpa using h0)
                rw [this] at kl
                unfold KV at kl
                exact (List.map_eq_nil_iff.1 kl.symm)
              refine ⟨_, _, _, .tuple #[.bool false], w, r, Hend hl, .inl ?_, Nm.le.refl r, fun i _ hr => hr, ⟨[.bool false], by simp [relL, rel], rfl⟩, hs0, Kept.refl _ _⟩
              simp [execOp, hev, hrun]
            · obtain ⟨l1, l2, hsplit⟩ := List.append_of_mem he
              obtain ⟨m1, m2, q, hml, k1, k2, k3, k4⟩ := kv_split kl hsplit
              have hem : e ∈ es.toList := by
                unfold leftOf at he
                simp at he
                simpa using he.1
              have hr1 : w1.heap = w.heap := by rcases hal with rfl | rfl <;> rfl
              have hset : ∀ k, k ≠ ri → (setBlock w1 ri (.mapIter (some b) since (seen.push e.born) clock)).heap[k]? = w.heap[k]? := fun k hk => by
                unfold setBlock
                simp only
                rw [Array.getElem?_setIfInBounds_ne (fun h => hk h.symm), hr1]
              have hself : (setBlock w1 ri (.mapIter (some b) since (seen.push e.born) clock)).heap[ri]? = some (.mapIter (some b) since (seen.push e.born) clock) := by
                unfold setBlock
                simp only
                rw [Array.getElem?_setIfInBounds_self_of_lt]
                rw [hr1]; exact (Array.getElem?_eq_some_iff.1 hr).1
              have keep : ∀ {A : Hp}, A ri = none → A.inW w → A.inW (setBlock w1 ri (.mapIter (some b) since (seen.push e.born) clock)) := fun {A} hn hA x o ex => by
                rw [hset x (fun hh => by subst hh; rw [hn] at ex; cases ex)]
                exact hA x o ex
              have hap1 := Hp.join_apart.1 hap
              have hap2 := Hp.join_apart.1 hap1.1
              have hq2 := Hp.join_apart.1 q2'
              have aone' : (Hp.one b (.map es clock)).apart (Hp.one ri (.mapIter (some b) since (seen.push e.born) clock)) := Hp.one_apart.2 (by simp [Hp.one, hne])
              have ajoin : ((Hp.one b (.map es clock)).join (Hp.one ri (.mapIter (some b) since (seen.push e.born) clock))).apart H2 := Hp.join_apart.2 ⟨hq2.1, Hp.one_apart.2 (Hp.one_apart.1 hq2.2)⟩
              refine ⟨_, _, _, .tuple #[.bool true, e.key, e.val], _, r, Hgo q m1 m2 hml, .inl ?_, Nm.le.refl r, fun i _ hr => hr, ⟨[.bool true, e.key, e.val], ?_, rfl⟩, ⟨⟨?_, ?_, ?_, keep (Hp.one_apart.1 hap2.2) hm.G⟩, ((Hp.one b (.map es clock)).join (Hp.one ri (.mapIter (some b) since (seen.push e.born) clock))).join H2, ?_, ?_, ?_⟩, Kept.of fun i B ei hne => ?_⟩
              · simp [execOp, hev, hrun]
              · simp [relL, rel, k3, k4]
              · rcases hal with rfl | rfl <;> exact hm.os
              · rcases hal with rfl | rfl <;> exact hm.output
              · rcases hal with rfl | rfl <;> exact hm.tape
              · refine q5 r (.obj ⟨wk.m, m1 ++ m2, some q⟩) _ (Nm.le.refl _) ⟨ri, q1, b, es, clock, since, seen.push e.born, clock, hne, rfl, kv, st, old, s2, s2, ?_, fun q' hq' => ?_⟩ ajoin
                · rw [left_push hstn hsplit]
                  unfold KV at k1 k2 ⊢
                  rw [List.map_append, List.map_append, k1, k2]
                · cases hq'
                  exact ⟨seen, e, hem, rfl, rfl, k3, k4⟩
              · exact Hp.join_apart.2 ⟨Hp.join_apart.2 ⟨hap2.1, Hp.one_apart.2 (Hp.one_apart.1 hap2.2)⟩, hap1.2⟩
              · refine (Hp.inW_join ajoin).2 ⟨(Hp.inW_join aone').2 ⟨keep (by simp [Hp.one]; exact fun h => hne h.symm) hin1.1, fun x o ex => ?_⟩, keep (Hp.one_apart.1 hq2.2) hin'.2⟩
                unfold Hp.one at ex
                split at ex
                · rename_i hx'; cases ex; subst hx'; exact hself
                · cases ex
              · rw [Heap.get_set_ne (by simpa using hne)]; exact ei
          · exact H.elim
        · exact H.elim
      · exact H.elim
  case entry x =>
    cases hf
    unfold wEntry at H
    split at H
    · rename_i id off hx
      rw [holds_bif] at H
      split at H
      · rename_i hoff
        obtain rfl := Nat.eq_of_beq_eq_true hoff
        split at H
        · rename_i wk hg
          split at H
          · rename_i q hq
            intro β r a w ho hs hn
            have h1 := ho x (by simp [Op.operands])
            rw [hx] at h1
            simp only [rel] at h1
            obtain ⟨y, hy, hev⟩ := h1
            have hs0 := hs
            obtain ⟨hm, A, hd, hap, hin⟩ := hs
            obtain ⟨H1, H2, ⟨ri, q1, b, es, clock, since, seen, c0, hne, rfl, kv, st, old, s1, s2, kl, hc⟩, q2', rfl, q4, q5⟩ := Heap.focus hd hg
            rw [q1] at hy; cases hy
            have hin' := (Hp.inW_join q2').1 hin
            have aone : (Hp.one b (.map es clock)).apart (Hp.one ri (.mapIter (some b) since seen c0)) := Hp.one_apart.2 (by simp [Hp.one, hne])
            have hin1 := (Hp.inW_join aone).1 hin'.1
            have hb : w.heap[b]? = some (.map es clock) := hin1.1 b _ (by simp [Hp.one])
            have hr : w.heap[ri]? = some (.mapIter (some b) since seen c0) := hin1.2 ri _ (by simp [Hp.one])
            obtain ⟨seen', e, he, rfl, rfl, k1, k2⟩ := hc q hq
            have hrun := run_entry_at (P := Tryz.prog) w ri b since seen' es c0 e hr hb he ((MapKept.stamped_iff es c0).1 st).2.1
            refine ⟨_, _, _, .tuple #[e.key, e.val], w, r, H, .inl ?_, Nm.le.refl r, fun i _ hr => hr, ⟨[e.key, e.val], by simp [relL, rel, k1, k2], rfl⟩, hs0, Kept.refl _ _⟩
            simp [execOp, hev, hrun]
          · exact H.elim
        · exact H.elim
      · exact H.elim
    · exact H.elim
end Sx
end Go.Proofs.YtmcmdghmglopnaaGreatDoor

/-
  Regions that go over a map.
-/
namespace Go.Proofs.YtmcmdghmglopnaaGreatDoor
namespace Sx
open Go

def noCall : CallF V := fun _ _ _ _ _ => .bad 781
theorem noCall_ok {M : Goal V} : noCall.ok Tryz.prog M := fun f args h nx K H => H.elim
def seqX : List Oper → St V → (St V → Out V) → Out V
  | [], s, K => K s
  | o :: rest, s, K => match o.guard with
    | some _ => .bad 780
    | none => (match custom o.op with
      | some f => f (evO s.env) s.heap s.nx (fun v h' T => seqX rest ⟨envPut s.env o.dst v, h', s.nx + 1, s.nt, T ++ s.tl⟩ K)
      | none => stepAny tab kinds noCall o.op s.env s.heap s.nx (fun v h' nx' T _ => seqX rest ⟨envPut s.env o.dst v, h', nx', s.nt, T ++ s.tl⟩ K))
theorem seqX_sound {M : Goal V} {ops : Array Oper} {Q : Exit → Act → World → Prop} {K : St V → Out V} {β : Base} :
    ∀ (l : List Oper), (∀ o ∈ l, o ∈ ops.toList) → ∀ (s : St V) (r : Nm) (a : Act) (w : World), dstsOk s.nt ops = true → (seqX l s K).holds M → SatS β r s a w →
      (∀ s' r' a' w', (K s').holds M → r.le r' → SatS β r' s' a' w' → Fr s s' → Q .normal a' w') → wpList Tryz.prog ops Q l a w
  | [], _, s, r, a, w, _, H, hs, hQ => hQ s r a w H (Nm.le.refl r) hs (Fr.refl s)
  | o :: rest, hin, s, r, a, w, hd, H, hs, hQ => by
    have hoin := hin o (by simp)
    obtain ⟨i0, hi0⟩ := List.mem_iff_getElem?.1 hoin
    have hio : ops[i0]? = some o := by simpa using hi0
    have hdlt : ∀ d, o.dst = some d → d < s.nt := fun d e => dstsOk_lt hd hio e
    unfold seqX at H
    split at H
    · exact H.elim
    · rename_i hg
      have hw : Region.wanted o (yielded ops a.tmps) = true := by unfold Region.wanted; rw [hg]
      have go : ∀ (R : AV → Heap V → Nat → List Nat → Prop), OpWp Tryz.prog o (evO s.env) s.heap s.nx R → (∀ v h' nx' T, R v h' nx' T → (seqX rest ⟨envPut s.env o.dst v, h', nx', s.nt, T ++ s.tl⟩ K).holds M) → wpList Tryz.prog ops Q (o :: rest) a w := by
        intro R hop hR
        simp only [wpList, hw, if_true]
        left
        refine hop β r a w (fun x _ => evO_ok hs.env x) hs.sat hs.fresh _ _ ?_
        rintro v h' nx' T z w' r' hv g1 g2 g3 g4 g5
        have hK := hR _ _ _ _ hv
        have hsat : SatS β r' ⟨envPut s.env o.dst v, h', nx', s.nt, T ++ s.tl⟩ (a.put o.dst z) w' :=
          ⟨g4, g2, (hs.env.mono g1).put g3 (fun d e => by rw [hs.size]; exact hdlt d e), by rw [put_size]; exact hs.size, by rw [put_defers]; exact hs.defers⟩
        refine seqX_sound rest (fun p hp => hin p (by simp [hp])) ⟨envPut s.env o.dst v, h', nx', s.nt, T ++ s.tl⟩ r' _ w' hd hK hsat ?_
        intro s' r'' a' w'' hK' l1 hs' hf
        refine hQ s' r'' a' w'' hK' (g1.trans l1) hs' ?_
        have hf0 : Fr s ⟨envPut s.env o.dst v, h', nx', s.nt, T ++ s.tl⟩ :=
          ⟨fun i hi => List.mem_append.2 (.inr hi), fun id B e hn => g5 id B e (fun hh => hn (List.mem_append.2 (.inl hh))), rfl⟩
        exact hf0.trans hf
      split at H
      · rename_i f hf
        obtain ⟨dst, op, type, pos, after, guard⟩ := o
        refine go (fun v h' nx' T => nx' = s.nx + 1 ∧ (seqX rest ⟨envPut s.env dst v, h', s.nx + 1, s.nt, T ++ s.tl⟩ K).holds M) ?_ (fun v h' nx' T hv => by obtain ⟨rfl, hv⟩ := hv; exact hv)
        intro β' r0 a0 w0 ho hs0 hfr next Q' hn
        obtain ⟨v, h', T, z, w', r', hK, hrun, g1, g2, g3, g4, g5⟩ := custom_ok (type := type) (pos := pos) (after := after) (guard := guard) (dst := dst) hf H β' r0 a0 w0 ho hs0 (hfr s.nx (Nat.le_refl _))
        have fin : next (a0.put dst z) w' := hn v h' (s.nx + 1) T z w' r' ⟨rfl, hK⟩ g1 (fun i hi => g2 i (by omega) (hfr i (by omega))) g3 g4 g5
        rcases hrun with hrun | ⟨hrun, rfl⟩
        · unfold Oper.wp; rw [hrun, Oper.upon_value]; exact fin
        · unfold Oper.wp; rw [hrun, Oper.upon_skip]; exact fin
      · exact go _ (stepAny_sound tab_met kinds_met noCall_ok H) (fun v h' nx' T hv => by obtain ⟨_, hv⟩ := hv; exact hv)
def opsOf : Code → Array Oper
  | .region _ ops _ => ops
  | _ => #[]
def regX (ops : Array Oper) : LoopS V := fun s K => bif dstsOk s.nt ops then seqX ops.toList s (K .nx) else .bad 782
theorem regX_ok (id : Nat) (ops : Array Oper) : RegOk Tryz.prog (.region id ops false) (regX ops) := by
  intro M s K H
  unfold regX at H
  rw [holds_bif] at H
  split at H
  · rename_i hd
    intro β r a w hs Q hQ
    refine wp_region ?_
    have := wpOps_eq_wpList (P := Tryz.prog) (ops := ops) (Q := Q) ops.toList 0 (fun j => by simp)
    rw [List.range_eq_range']
    have e : ops.toList.length = ops.size := by simp
    rw [e] at this
    rw [this]
    exact seqX_sound ops.toList (fun _ h => h) s r a w hd H hs (fun s' r' a' w' hK l hs' hf => hQ .nx s' r' a' w' hK l hs' hf)
  · exact H.elim
end Sx
end Go.Proofs.YtmcmdghmglopnaaGreatDoor

/-
  The longest row without one: the runs of the machine.
-/
namespace Go.Proofs.YtmcmdghmglopnaaGreatDoor
namespace Sx
open Go
set_option maxRecDepth 100000
set_option linter.unusedVariables false

noncomputable def regs33 (id : Nat) : Option (LoopS V) := match id with
  | 1000015 => some (regX (opsOf (regOf Tryz.f33 15)))
  | 1000016 => some (regX (opsOf (regOf Tryz.f33 16)))
  | 1000017 => some (regX (opsOf (regOf Tryz.f33 17)))
  | _ => none
structure LgP where
  l : List Int
  c : Nat
  n : Int
  hb : l.length ≤ 1099511627776
abbrev TW : List Nat := [0, 1, 2, 3, 4, 5, 6]
/-- At the first loop's head: how many picks are over, the map, the longest row. -/
def LgI1 (p : LgP) (x : Nat × List (Int × Int) × Int) : St V := ⟨[(0, .sl false 0 0 1 p.l.length p.c), (1, .int .i64 p.n), (5, .mp 2), (6, .int .i64 x.2.2), (14, .sl false 0 0 1 p.l.length p.c), (15, .int .i64 (p.l.length : Int)), (16, .int .i64 (x.1 : Int))], [(2, .mp .i64 Kd.int x.2.1), (0, .ro Kd.int p.l)], 3, 66, TW⟩
structure LgQ where
  p : LgP
  m : Mp
  q : Int
  hm : ∀ e ∈ m, 0 ≤ e.2 ∧ e.2 < p.l.length
  hq : 0 ≤ q ∧ q ≤ p.l.length
/-- At the second loop's head: what is still to come, what was at hand, the longest row. -/
def LgI2 (p : LgQ) (x : Mp × Option (Int × Int) × Int) : St V := ⟨[(0, .sl false 0 0 1 p.p.l.length p.p.c), (6, .int .i64 x.2.2), (53, .ptr 3 0)], [(3, .obj ⟨p.m, x.1, x.2.1⟩), (0, .ro Kd.int p.p.l)], 4, 66, TW⟩
def LgE2 (p : LgQ) (y : Int × Option (Int × Int)) : St V := ⟨[(0, .sl false 0 0 1 p.p.l.length p.p.c), (6, .int .i64 y.1), (53, .ptr 3 0)], [(3, .obj ⟨p.m, [], y.2⟩), (0, .ro Kd.int p.p.l)], 4, 66, TW⟩
def LgL1 : LoopS V := trimLoop (trimSt [0, 1, 5, 6, 14, 15, 16] [0, 2]) (loopH 3 (fun p : LgP => LgI1 p (0, [], 0)) (fun p (y : Mp × Int) => LastOf p.n p.l.length y.1 (lsRun p.l p.n p.l.length) ∧ y.2 = ((lsRun p.l p.n p.l.length).most : Int)) (fun p y => LgI1 p (p.l.length, y.1, y.2)))
def LgL2 : LoopS V := trimLoop (trimSt [0, 6, 53] [0, 3]) (loopH 4 (fun p : LgQ => LgI2 p (p.m, none, p.q)) (fun p (y : Int × Option (Int × Int)) => MostOf p.p.l.length p.q p.m y.1) LgE2)
noncomputable def cfgW : Cfg Tryz.prog V := ⟨tab, kinds, fun _ => none, fun _ => none, fun f id => match f, id with | 33, id => regs33 id | _, _ => none⟩
noncomputable def cfgL : Cfg Tryz.prog V := ⟨tab, kinds, fun _ => none, fun _ => none, fun f id => match f, id with | 33, 0 => some LgL1 | 33, 2 => some LgL2 | 33, id => regs33 id | _, _ => none⟩
theorem lb1 (p : LgP) (x : Nat × List (Int × Int) × Int) : runCode cfgW 60 33 (loopOf Tryz.f33 0) (LgI1 p x) (stopT (trimSt [0, 1, 5, 6, 14, 15, 16] [0, 2])) = Out.ite (decide ((↑x.1 : Int) < (↑p.l.length : Int))) (Out.needd (0 ≤ (↑x.1 : Int) ∧ (↑x.1 : Int) < (↑p.l.length : Int)) (Out.needd (0 + x.1 < p.l.length) (Out.ite (decide (p.l.getD (0 + x.1) (V.enc Kd.int).dflt < 0)) (Out.stop EX.nx {env := [(0, .sl false 0 0 1 p.l.length p.2), (1, .int .i64 p.n), (5, .mp 2), (6, .int .i64 x.snd.snd), (14, .sl false 0 0 1 p.l.length p.2), (15, .int .i64 (↑p.l.length : Int)), (16, .int .i64 (IntKind.i64.wrap ((↑x.1 : Int) + 1)))], heap := [(2, .mp .i64 Kd.int x.snd.fst), (0, .ro Kd.int p.l)], nx := 3, nt := 66, tl := [0, 1, 2, 3, 4, 5, 6] : St V }) (Out.ite (decide (p.l.getD (0 + x.1) (V.enc Kd.int).dflt ≥ p.n)) (Out.stop EX.nx {env := [(0, .sl false 0 0 1 p.l.length p.2), (1, .int .i64 p.n), (5, .mp 2), (6, .int .i64 x.snd.snd), (14, .sl false 0 0 1 p.l.length p.2), (15, .int .i64 (↑p.l.length : Int)), (16, .int .i64 (IntKind.i64.wrap ((↑x.1 : Int) + 1)))], heap := [(2, .mp .i64 Kd.int x.snd.fst), (0, .ro Kd.int p.l)], nx := 3, nt := 66, tl := [0, 1, 2, 3, 4, 5, 6] : St V }) (Out.ite (!(mget x.snd.fst (p.l.getD (0 + x.1) (V.enc Kd.int).dflt)).isSome) (Out.stop EX.nx {env := [(0, .sl false 0 0 1 p.l.length p.2), (1, .int .i64 p.n), (5, .mp 2), (6, .int .i64 (if IntKind.i64.wrap (IntKind.i64.wrap ((↑x.1 : Int) - -1) - 1) > x.snd.snd then IntKind.i64.wrap (IntKind.i64.wrap ((↑x.1 : Int) - -1) - 1) else x.snd.snd)), (14, .sl false 0 0 1 p.l.length p.2), (15, .int .i64 (↑p.l.length : Int)), (16, .int .i64 (IntKind.i64.wrap ((↑x.1 : Int) + 1)))], heap := [(2, .mp .i64 Kd.int (mput x.snd.fst (p.l.getD (0 + x.1) (V.enc Kd.int).dflt) (↑x.1 : Int))), (0, .ro Kd.int p.l)], nx := 4, nt := 66, tl := [2, 0, 1, 2, 3, 4, 5, 6] : St V }) (Out.stop EX.nx {env := [(0, .sl false 0 0 1 p.l.length p.2), (1, .int .i64 p.n), (5, .mp 2), (6, .int .i64 (if IntKind.i64.wrap (IntKind.i64.wrap ((↑x.1 : Int) - (mget x.snd.fst (p.l.getD (0 + x.1) (V.enc Kd.int).dflt)).getD (V.enc Kd.int).dflt) - 1) > x.snd.snd then IntKind.i64.wrap (IntKind.i64.wrap ((↑x.1 : Int) - (mget x.snd.fst (p.l.getD (0 + x.1) (V.enc Kd.int).dflt)).getD (V.enc Kd.int).dflt) - 1) else x.snd.snd)), (14, .sl false 0 0 1 p.l.length p.2), (15, .int .i64 (↑p.l.length : Int)), (16, .int .i64 (IntKind.i64.wrap ((↑x.1 : Int) + 1)))], heap := [(2, .mp .i64 Kd.int (mput x.snd.fst (p.l.getD (0 + x.1) (V.enc Kd.int).dflt) (↑x.1 : Int))), (0, .ro Kd.int p.l)], nx := 4, nt := 66, tl := [2, 0, 1, 2, 3, 4, 5, 6] : St V })))))) (Out.stop (EX.ex 0) {env := [(0, .sl false 0 0 1 p.l.length p.2), (1, .int .i64 p.n), (5, .mp 2), (6, .int .i64 x.snd.snd), (14, .sl false 0 0 1 p.l.length p.2), (15, .int .i64 (↑p.l.length : Int)), (16, .int .i64 (↑x.1 : Int))], heap := [(2, .mp .i64 Kd.int x.snd.fst), (0, .ro Kd.int p.l)], nx := 3, nt := 66, tl := [0, 1, 2, 3, 4, 5, 6] : St V }) := by kernel_rfl

theorem lb2 (p : LgQ) (x : Mp × Option (Int × Int) × Int) : runCode cfgW 60 33 (loopOf Tryz.f33 2) (LgI2 p x) (stopT (trimSt [0, 6, 53] [0, 3])) = Out.need (RegFor Tryz.prog 33 16 (regOf Tryz.f33 16) (regX (opsOf (regOf Tryz.f33 16)))) ((Out.asm ({m := p.m, left := x.fst, cur := x.snd.fst : Walk }.left = []) (Out.stop (EX.ex 2) {env := [(0, .sl false 0 0 1 p.p.l.length p.p.2), (6, .int .i64 x.snd.snd), (53, .ptr 3 0)], heap := [(3, .obj {m := p.m, left := x.fst, cur := x.snd.fst : Walk }), (0, .ro Kd.int p.p.l)], nx := 5, nt := 66, tl := [0, 1, 2, 3, 4, 5, 6] : St V })).both (Out.all (Int × Int) fun y => Out.all (List (Int × Int)) fun y_1 => Out.all (List (Int × Int)) fun y_2 => Out.asm ({m := p.m, left := x.fst, cur := x.snd.fst : Walk }.left = y_1 ++ y :: y_2) (Out.need (RegFor Tryz.prog 33 17 (regOf Tryz.f33 17) (regX (opsOf (regOf Tryz.f33 17)))) (Out.stop EX.nx {env := [(0, .sl false 0 0 1 p.p.l.length p.p.2), (6, .int .i64 (if IntKind.i64.wrap (IntKind.i64.wrap ((↑p.p.l.length : Int) - 1) - y.snd) > x.snd.snd then IntKind.i64.wrap (IntKind.i64.wrap ((↑p.p.l.length : Int) - 1) - y.snd) else x.snd.snd)), (53, .ptr 3 0)], heap := [(3, .obj {m := {m := p.m, left := x.fst, cur := x.snd.fst : Walk }.m, left := y_1 ++ y_2, cur := some y : Walk }), (0, .ro Kd.int p.p.l)], nx := 6, nt := 66, tl := [3, 0, 1, 2, 3, 4, 5, 6] : St V })))) := by kernel_rfl

theorem lt33 (l : List Int) (c : Nat) (n : Int) : runF cfgL 60 33 Tryz.f33 [.sl false 0 0 1 l.length c, .int .i64 n] [(0, .ro Kd.int l)] 2 = Out.need (LoopFor Tryz.prog 33 0 (loopOf Tryz.f33 0) LgL1) (Out.ex (LgP → Prop) fun y => Out.need (3 ≤ 3 ∧ SImp 3 {env := [(0, .sl false 0 0 1 l.length c), (1, .int .i64 n), (5, .mp 2), (6, .lit .i64 0), (14, .sl false 0 0 1 l.length c), (15, .int .i64 (↑l.length : Int)), (16, .lit .i64 0)], heap := [(2, .mp .i64 Kd.int []), (0, .ro Kd.int l)], nx := 3, nt := 66, tl := [] : St V } (fun p => LgI1 p (0, [], 0)) y) (Out.all LgP fun y_1 => Out.asm (y y_1) (Out.all (Mp × Int) fun y => Out.asm ((fun p y => LastOf p.n p.l.length y.fst (lsRun p.l p.n p.l.length) ∧ y.snd = (↑(lsRun p.l p.n p.l.length).most : Int)) y_1 y) (Out.ite (decide ((↑(y_1.l.length, y.fst, y.snd).snd.fst.length : Int) < y_1.n)) (Out.fin (.int .i64 (↑y_1.l.length : Int)) [(2, .mp .i64 Kd.int (y_1.l.length, y.fst, y.snd).snd.fst), (0, .ro Kd.int y_1.l)] 3) (Out.need (RegFor Tryz.prog 33 15 (regOf Tryz.f33 15) (regX (opsOf (regOf Tryz.f33 15)))) (Out.need (LoopFor Tryz.prog 33 2 (loopOf Tryz.f33 2) LgL2) (Out.ex (LgQ → Prop) fun y_2 => Out.need (4 ≤ 4 ∧ SImp 4 {env := [(0, .sl false 0 0 1 y_1.l.length y_1.2), (6, .int .i64 (y_1.l.length, y.fst, y.snd).snd.snd), (53, .ptr 3 0)], heap := [(3, .obj {m := (y_1.l.length, y.fst, y.snd).snd.fst, left := (y_1.l.length, y.fst, y.snd).snd.fst, cur := none : Walk }), (0, .ro Kd.int y_1.l)], nx := 4, nt := 66, tl := [3, 2, 0, 1, 2, 3, 4, 5, 6] : St V } (fun p => LgI2 p (p.m, none, p.q)) y_2) (Out.all LgQ fun y => Out.asm (y_2 y) (Out.all (Int × Option (Int × Int)) fun y_3 => Out.asm ((fun p y => MostOf p.p.l.length p.q p.m y.fst) y y_3) (Out.fin (.int .i64 y_3.fst) [(3, .obj {m := y.m, left := [], cur := y_3.snd : Walk }), (0, .ro Kd.int y.p.l)] 4)))))))))) := by kernel_rfl

end Sx
end Go.Proofs.YtmcmdghmglopnaaGreatDoor

/-
  picks.longest, for all callers.
-/
namespace Go.Proofs.YtmcmdghmglopnaaGreatDoor
namespace Sx
open Go
set_option linter.unusedSimpArgs false
set_option linter.unusedVariables false

theorem cfgW_ok : cfgW.ok := ⟨tab_met, kinds_met, mixed_met, fun g fn h => (by cases h), fun g H h => (by cases h)⟩
theorem cfgL_ok : cfgL.ok := ⟨tab_met, kinds_met, mixed_met, fun g fn h => (by cases h), fun g H h => (by cases h)⟩
theorem reg_ok (id : Nat) (h : regOf Tryz.f33 id = .region id (opsOf (regOf Tryz.f33 id)) false) : RegFor Tryz.prog 33 id (regOf Tryz.f33 id) (regX (opsOf (regOf Tryz.f33 id))) := by
  have := regX_ok id (opsOf (regOf Tryz.f33 id))
  unfold RegFor
  rw [← h] at this
  exact this
theorem reg15 : RegFor Tryz.prog 33 15 (regOf Tryz.f33 15) (regX (opsOf (regOf Tryz.f33 15))) := reg_ok 15 (by kernel_rfl)
theorem reg16 : RegFor Tryz.prog 33 16 (regOf Tryz.f33 16) (regX (opsOf (regOf Tryz.f33 16))) := reg_ok 16 (by kernel_rfl)
theorem reg17 : RegFor Tryz.prog 33 17 (regOf Tryz.f33 17) (regX (opsOf (regOf Tryz.f33 17))) := reg_ok 17 (by kernel_rfl)

theorem wrap_in {n : Int} (h0 : -4611686018427387904 < n) (h : n < 4611686018427387904) : IntKind.wrap .i64 n = n := wrap_low h0 h
theorem lgl1_ok : LoopOk Tryz.prog 0 (loopOf Tryz.f33 0) LgL1 := by
  refine trimLoop_ok (trim_ok _ _) (loopTH_ok (C := cfgW) cfgW_ok (f := 33) (n := 60) (trim_ok [0, 1, 5, 6, 14, 15, 16] [0, 2]) 3 LgI1 (fun p x => x.1 ≤ p.l.length ∧ LastOf p.n x.1 x.2.1 (lsRun p.l p.n x.1) ∧ x.2.2 = ((lsRun p.l p.n x.1).most : Int)) (fun _ => (0, [], 0)) (fun p x => p.l.length - x.1)
    (fun p (y : Mp × Int) => LastOf p.n p.l.length y.1 (lsRun p.l p.n p.l.length) ∧ y.2 = ((lsRun p.l p.n p.l.length).most : Int)) (fun p y => LgI1 p (p.l.length, y.1, y.2)) (fun p => ⟨Nat.zero_le _, LastOf.start _, rfl⟩) ?_)
  intro p x ⟨hi, hx, hq⟩
  rw [lb1]
  have hb := p.hb
  have hinv := lsRun_inv p.l p.n x.1 hi
  simp only [Out.holds, decide_eq_true_eq, decide_eq_false_iff_not]
  by_cases hlt : x.1 < p.l.length
  · refine ⟨fun _ => ⟨by omega, by omega, ?_⟩, fun h => absurd hlt (by omega)⟩
    have hget : p.l[x.1]? = some (p.l.getD (0 + x.1) 0) := by
      rw [Nat.zero_add, List.getD_eq_getElem?_getD, List.getElem?_eq_getElem hlt]; rfl
    rw [show (V.enc Kd.int).dflt = (0 : Int) from rfl]
    generalize p.l.getD (0 + x.1) 0 = t at hget
    have hrun : lsRun p.l p.n (x.1 + 1) = lsStep p.n x.1 t (lsRun p.l p.n x.1) := by simp only [lsRun, hget]
    have hw : IntKind.wrap .i64 ((x.1 : Int) + 1) = ((x.1 + 1 : Nat) : Int) := wrap_nat (by omega)
    have hm1 : (lsRun p.l p.n x.1).most ≤ p.l.length := by
      rcases Nat.lt_or_ge p.l.length (lsRun p.l p.n x.1).most with k | k
      · have := (hinv.most (p.l.length + 1) (by omega)).2 (fun t h0 h1 s hs => by have := hinv.le t; omega)
        omega
      · exact k
    have skip : ¬ (0 ≤ t ∧ t < p.n) → SImp 3 (⟨[(0, .sl false 0 0 1 p.l.length p.c), (1, .int .i64 p.n), (5, .mp 2), (6, .int .i64 x.2.2), (14, .sl false 0 0 1 p.l.length p.c), (15, .int .i64 (p.l.length : Int)), (16, .int .i64 (IntKind.wrap .i64 ((x.1 : Int) + 1)))], [(2, .mp .i64 Kd.int x.2.1), (0, .ro Kd.int p.l)], 3, 66, [0, 1, 2, 3, 4, 5, 6]⟩ : St V) (LgI1 p) (fun y => (y.1 ≤ p.l.length ∧ LastOf p.n y.1 y.2.1 (lsRun p.l p.n y.1) ∧ y.2.2 = ((lsRun p.l p.n y.1).most : Int)) ∧ p.l.length - y.1 < p.l.length - x.1) := by
      intro hv
      refine SImp.of_wk (ren := []) (x.1 + 1, x.2.1, x.2.2) ?_ ⟨⟨hlt, ?_, ?_⟩, ?_⟩
      · exact ⟨⟨AV.sub_same _, AV.sub_same _, AV.sub_same _, AV.sub_same _, AV.sub_same _, AV.sub_same _, AV.sub_int hw, trivial⟩, ⟨.same _, .same _, trivial⟩, rfl, tl_ok rfl, ⟨.inl (in_ok rfl), .inl (in_ok rfl), trivial⟩, ⟨Nat.le_of_ble_eq_true rfl, rfl⟩⟩
      · rw [hrun]; unfold lsStep; rw [if_neg hv]; exact hx.skip
      · rw [hrun]; unfold lsStep; rw [if_neg hv]; exact hq
      · show p.l.length - (x.1 + 1) < p.l.length - x.1; omega
    refine ⟨fun h => skip (by omega), fun h0 => ⟨fun h => skip (by omega), fun h1 => ?_⟩⟩
    have hv : 0 ≤ t ∧ t < p.n := by omega
    have hg := hx.get t
    have hlast := hinv.le t
    have put : ∀ q' : Int, q' = (if IntKind.wrap .i64 (IntKind.wrap .i64 ((x.1 : Int) - (((lsRun p.l p.n x.1).last t : Int) - 1)) - 1) > x.2.2 then IntKind.wrap .i64 (IntKind.wrap .i64 ((x.1 : Int) - (((lsRun p.l p.n x.1).last t : Int) - 1)) - 1) else x.2.2) →
        SImp 3 (⟨[(0, .sl false 0 0 1 p.l.length p.c), (1, .int .i64 p.n), (5, .mp 2), (6, .int .i64 q'), (14, .sl false 0 0 1 p.l.length p.c), (15, .int .i64 (p.l.length : Int)), (16, .int .i64 (IntKind.wrap .i64 ((x.1 : Int) + 1)))], [(2, .mp .i64 Kd.int (mput x.2.1 t (x.1 : Int))), (0, .ro Kd.int p.l)], 4, 66, [2, 0, 1, 2, 3, 4, 5, 6]⟩ : St V) (LgI1 p) (fun y => (y.1 ≤ p.l.length ∧ LastOf p.n y.1 y.2.1 (lsRun p.l p.n y.1) ∧ y.2.2 = ((lsRun p.l p.n y.1).most : Int)) ∧ p.l.length - y.1 < p.l.length - x.1) := by
      intro q' hq'
      have e1 : IntKind.wrap .i64 ((x.1 : Int) - (((lsRun p.l p.n x.1).last t : Int) - 1)) = (x.1 : Int) - (((lsRun p.l p.n x.1).last t : Int) - 1) := wrap_in (by omega) (by omega)
      rw [e1] at hq'
      have e2 : IntKind.wrap .i64 ((x.1 : Int) - (((lsRun p.l p.n x.1).last t : Int) - 1) - 1) = ((x.1 - (lsRun p.l p.n x.1).last t : Nat) : Int) := by rw [wrap_in (by omega) (by omega)]; omega
      rw [e2] at hq'
      refine SImp.of_wk (ren := []) (x.1 + 1, mput x.2.1 t (x.1 : Int), q') ?_ ⟨⟨hlt, ?_, ?_⟩, ?_⟩
      · exact ⟨⟨AV.sub_same _, AV.sub_same _, AV.sub_same _, AV.sub_same _, AV.sub_same _, AV.sub_same _, AV.sub_int hw, trivial⟩, ⟨.same _, .same _, trivial⟩, rfl, tl_ok rfl, ⟨.inl (in_ok rfl), .inl (in_ok rfl), trivial⟩, ⟨Nat.le_of_ble_eq_true rfl, rfl⟩⟩
      · rw [hrun]; unfold lsStep; rw [if_pos hv]; exact hx.put hv.1 hv.2
      · rw [hrun]; unfold lsStep; rw [if_pos hv]
        show q' = ((max (lsRun p.l p.n x.1).most (x.1 - (lsRun p.l p.n x.1).last t) : Nat) : Int)
        rw [hq', hq]
        split <;> omega
      · show p.l.length - (x.1 + 1) < p.l.length - x.1; omega
    refine ⟨fun hnone => put _ ?_, fun hsome => put _ ?_⟩
    · rw [hg] at hnone
      have : (lsRun p.l p.n x.1).last t = 0 := by
        apply Classical.byContradiction
        intro hne
        rw [if_neg hne] at hnone; simp at hnone
      rw [this]; rfl
    · rw [hg] at hsome ⊢
      by_cases hz : (lsRun p.l p.n x.1).last t = 0
      · rw [if_pos hz] at hsome; simp at hsome
      · rw [if_neg hz]; rfl
  · refine ⟨fun h => absurd h (by omega), fun _ => ⟨trivial, ?_⟩⟩
    have he : x.1 = p.l.length := by omega
    refine SImp.of_wk (ren := []) (x.2.1, x.2.2) ?_ ⟨by rw [← he]; exact hx, by rw [← he]; exact hq⟩
    exact ⟨⟨AV.sub_same _, AV.sub_same _, AV.sub_same _, AV.sub_same _, AV.sub_same _, AV.sub_same _, AV.sub_int (by rw [he]), trivial⟩, ⟨.same _, .same _, trivial⟩, rfl, tl_ok rfl, ⟨.inl (in_ok rfl), .inl (in_ok rfl), trivial⟩, ⟨Nat.le_of_ble_eq_true rfl, rfl⟩⟩
theorem lgl2_ok : LoopOk Tryz.prog 2 (loopOf Tryz.f33 2) LgL2 := by
  refine trimLoop_ok (trim_ok _ _) (loopTH_ok (C := cfgW) cfgW_ok (f := 33) (n := 60) (trim_ok [0, 6, 53] [0, 3]) 4 LgI2 (fun p x => ∃ dn : Mp, (∀ e, e ∈ p.m ↔ e ∈ dn ++ x.1) ∧ MostOf p.p.l.length p.q dn x.2.2 ∧ 0 ≤ x.2.2 ∧ x.2.2 ≤ p.p.l.length) (fun p => (p.m, none, p.q)) (fun p x => x.1.length)
    (fun p (y : Int × Option (Int × Int)) => MostOf p.p.l.length p.q p.m y.1) LgE2 (fun p => ⟨[], by simp, MostOf.nil, p.hq⟩) ?_)
  intro p x ⟨dn, hdn, hmost, hq0, hq1⟩
  rw [lb2]
  have hb := p.p.hb
  refine ⟨reg16, fun hl => ⟨rfl, ?_⟩, fun e l1 l2 hl => ⟨reg17, ?_⟩⟩
  · have hl : x.1 = [] := hl
    refine SImp.of_wk (ren := []) (x.2.2, x.2.1) ?_ (hmost.perm fun e => by rw [hdn, hl, List.append_nil])
    exact ⟨⟨AV.sub_same _, AV.sub_same _, AV.sub_same _, trivial⟩, ⟨by rw [hl]; exact .same _, .same _, trivial⟩, rfl, tl_ok rfl, ⟨.inl (in_ok rfl), .inl (in_ok rfl), trivial⟩, ⟨Nat.le_of_ble_eq_true rfl, rfl⟩⟩
  · have hl : x.1 = l1 ++ e :: l2 := hl
    have hem : e ∈ p.m := (hdn e).2 (by rw [hl]; simp)
    have hv := p.hm e hem
    have e1 : IntKind.wrap .i64 ((p.p.l.length : Int) - 1) = (p.p.l.length : Int) - 1 := wrap_in (by omega) (by omega)
    have e2 : IntKind.wrap .i64 ((p.p.l.length : Int) - 1 - e.2) = (p.p.l.length : Int) - 1 - e.2 := wrap_in (by omega) (by omega)
    rw [e1, e2]
    refine SImp.of_wk (ren := []) (l1 ++ l2, some e, if (p.p.l.length : Int) - 1 - e.2 > x.2.2 then (p.p.l.length : Int) - 1 - e.2 else x.2.2) ?_ ⟨⟨dn ++ [e], fun e' => ?_, hmost.snoc, ?_⟩, ?_⟩
    · exact ⟨⟨AV.sub_same _, AV.sub_same _, AV.sub_same _, trivial⟩, ⟨.same _, .same _, trivial⟩, rfl, tl_ok rfl, ⟨.inl (in_ok rfl), .inl (in_ok rfl), trivial⟩, ⟨Nat.le_of_ble_eq_true rfl, rfl⟩⟩
    · rw [hdn, hl]
      simp only [List.mem_append, List.mem_cons, List.mem_singleton]
      constructor
      · rintro (h | h | h | h)
        · exact .inl (.inl h)
        · exact .inr (.inl h)
        · exact .inl (.inr (.inl h))
        · exact .inr (.inr h)
      · rintro ((h | h) | h | h)
        · exact .inl h
        · rcases h with h | h
          · exact .inr (.inr (.inl h))
          · cases h
        · exact .inr (.inl h)
        · exact .inr (.inr (.inr h))
    · show 0 ≤ (if (p.p.l.length : Int) - 1 - e.2 > x.2.2 then (p.p.l.length : Int) - 1 - e.2 else x.2.2) ∧ (if (p.p.l.length : Int) - 1 - e.2 > x.2.2 then (p.p.l.length : Int) - 1 - e.2 else x.2.2) ≤ (p.p.l.length : Int)
      split <;> omega
    · show (l1 ++ l2).length < x.1.length
      rw [hl]; simp
/-- The longest row of picks in which some thread is not. -/
def runLongest : RunFree V := fun ar K => match ar with
  | [.rows .int l c, .int .i64 n] => .need (l.length ≤ 1099511627776) (.all Nat fun r => .asm (LongIs l n r) (K (.int .i64 (r : Int)) []))
  | _ => .bad 800
theorem hLongest : HookOk Tryz.prog 33 (hookFree [.rows Kd.int, .int .i64] runLongest) := by
  refine free_hook (C := cfgL) cfgL_ok (n := 60) (fn := Tryz.f33) ⟨by kernel_rfl, by kernel_rfl⟩ (by kernel_rfl) ?_
  intro M ar K0 H
  unfold runLongest at H
  split at H
  · rename_i l c n
    obtain ⟨hb, H⟩ := H
    refine ⟨show 2 ≤ _ by decide +kernel, ?_⟩
    show (runF cfgL 60 33 Tryz.f33 [.sl false 0 0 1 l.length c, .int .i64 n] [(0, .ro Kd.int l)] 2).holds _
    rw [lt33]
    simp only [Out.holds]
    refine ⟨lgl1_ok, fun p => p = ⟨l, c, n, hb⟩, ⟨Nat.le_refl _, SImp.of_wk (ren := []) ⟨l, c, n, hb⟩ ?_ rfl⟩, ?_⟩
    · exact ⟨⟨AV.sub_same _, AV.sub_same _, AV.sub_same _, AV.sub_lit', AV.sub_same _, AV.sub_same _, AV.sub_lit', trivial⟩, ⟨.same _, .same _, trivial⟩, rfl, tl_ok rfl, ⟨.inr rfl, .inr rfl, trivial⟩, ⟨Nat.le_of_ble_eq_true rfl, rfl⟩⟩
    · intro p hp y hy
      subst hp
      obtain ⟨m, q⟩ := y
      obtain ⟨hm, hq⟩ := hy
      have hq : q = ((lsRun l n l.length).most : Int) := hq
      have hm : LastOf n l.length m (lsRun l n l.length) := hm
      have hinv := lsRun_inv l n l.length (Nat.le_refl _)
      have hm1 : (lsRun l n l.length).most ≤ l.length := by
        rcases Nat.lt_or_ge l.length (lsRun l n l.length).most with k | k
        · have := (hinv.most (l.length + 1) (by omega)).2 (fun t h0 h1 s hs => by have := hinv.le t; omega)
          omega
        · exact k
      refine ⟨fun hd => ?_, fun hd => ?_⟩
      · have hlt : (m.length : Int) < n := of_decide_eq_true hd
        exact ⟨_, _, H l.length (long_miss hm hlt), endPlain (AV.sub_same _) rfl⟩
      · have hge : ¬ (m.length : Int) < n := of_decide_eq_false hd
        refine ⟨reg15, lgl2_ok, fun p => p = ⟨⟨l, c, n, hb⟩, m, q, hm.vals, by rw [hq]; show 0 ≤ ((lsRun l n l.length).most : Int) ∧ ((lsRun l n l.length).most : Int) ≤ l.length; omega⟩, ⟨Nat.le_refl _, SImp.of_wk (ren := []) ⟨⟨l, c, n, hb⟩, m, q, hm.vals, by rw [hq]; show 0 ≤ ((lsRun l n l.length).most : Int) ∧ ((lsRun l n l.length).most : Int) ≤ l.length; omega⟩ ?_ rfl⟩, ?_⟩
        · exact ⟨⟨AV.sub_same _, AV.sub_same _, AV.sub_same _, trivial⟩, ⟨.same _, .same _, trivial⟩, rfl, tl_ok rfl, ⟨.inl (in_ok rfl), .inl (in_ok rfl), trivial⟩, ⟨Nat.le_of_ble_eq_true rfl, rfl⟩⟩
        · intro p2 hp2 y2 hr
          subst hp2
          obtain ⟨r, cur⟩ := y2
          have hr : MostOf l.length q m r := hr
          rw [hq] at hr
          obtain ⟨h0, h1⟩ := long_most hm hge hr
          exact ⟨_, _, H r.toNat h1, endPlain (AV.sub_int (by omega)) rfl⟩
  · exact H.elim
end Sx
end Go.Proofs.YtmcmdghmglopnaaGreatDoor

