/-
  Operations that make memory or write it: soundness of their evaluator.
-/
import Derived.Test.YtemcdjdglcceiaaSxK
namespace Go.Proofs.Ytemcdjdglcceiaa
namespace Sx
open Go

section
variable {U : Uni} {P : Program} {τ : Tab}

theorem holds_need {M : Goal U} {p : Prop} {k : Out U} : (Out.need p k).holds M ↔ p ∧ k.holds M := Iff.rfl

theorem sliceOf_under {T e s : Nat} (hτ : τ.met P) (h : sliceOf τ T = some (e, s)) : ∃ R, τ e = some R ∧ R.size = s ∧ P.underlying T = some (.slice e) := by
  have hk := (sliceOf_sound hτ h).1
  unfold sliceOf at h
  split at h
  · split at h
    · split at h
      · rename_i R' hR' e' hk' E hE
        simp only [Option.some.injEq, Prod.mk.injEq] at h; obtain ⟨rfl, rfl⟩ := h
        exact ⟨E, hE, rfl, hk⟩
      · simp at h
    · simp at h
  · simp at h

/-- An append that ends in a row of ours. -/
theorem append_end {β : Base} {r : Nm} {w w' : World} {e : Nat} {k : U.K} {ys : List (U.El k)} {v' : Value} {xsv : List Value} {g : Option Nat} {nw : Nat} (hnw : r nw = none)
    (h : Appended w w' e (U.enc k).w v' ys.length xsv g) (hrow : ∀ i y, ys[i]? = some y → relL r ((U.enc k).enc y) ((xsv.drop (i * (U.enc k).w)).take (U.enc k).w)) :
    ∃ sp r', r.le r' ∧ (∀ i, i ≠ nw → r i = none → r' i = none) ∧ rel r' (.sl false nw 0 (U.enc k).w ys.length (ys.length + sp)) v' ∧
      ((ys = [] ∧ sp = 0 ∧ r' = r ∧ w'.heap = w.heap ∧ w'.os = w.os ∧ w'.output = w.output ∧ w'.tape = w.tape) ∨
       ∃ b o', r' = r.put nw (b, 0) ∧ (Blk.arr e k ys sp : Blk U).den β.G r' nw (Hp.one b o') ∧
        ((g = some b ∧ w'.heap[b]? = some o' ∧ (∀ x, x ≠ b → w'.heap[x]? = w.heap[x]?) ∧ w'.os = w.os ∧ w'.output = w.output ∧ w'.tape = w.tape) ∨ (b = w.heap.size ∧ w' = w.drew.alloc o'))) := by
  obtain ⟨h1, h2, h3, a, cap, rfl, hN, hc, hh⟩ := h
  rcases hh with ⟨hz, hheap⟩ | ⟨b, c, rfl, hb, hcs, htake, hwhere⟩
  · have hy0 : ys = [] := List.eq_nil_of_length_eq_zero (by omega)
    subst hy0
    refine ⟨0, r, Nm.le.refl r, fun _ _ h => h, ⟨a, by subst hz; rfl, Nat.le_refl _, .inl rfl⟩, .inl ⟨rfl, rfl, rfl, hheap, h1, h2, h3⟩⟩
  · obtain ⟨sp, rfl⟩ : ∃ sp, cap = ys.length + sp := ⟨cap - ys.length, by omega⟩
    have hrow' : rowAt (U.enc k) (r.put nw (b, 0)) ys c 0 := by
      intro i y hy
      have hlt : i < ys.length := (List.getElem?_eq_some_iff.1 hy).1
      have := relL_mono (Nm.le_put (x := (b, 0)) hnw) _ _ (hrow i y hy)
      rw [← htake] at this
      rw [List.drop_take, List.take_take] at this
      have hm : (i + 1) * (U.enc k).w ≤ ys.length * (U.enc k).w := Nat.mul_le_mul_right _ hlt
      rw [Nat.succ_mul] at hm
      rw [show min (U.enc k).w (ys.length * (U.enc k).w - i * (U.enc k).w) = (U.enc k).w by omega] at this
      simpa using this
    refine ⟨sp, r.put nw (b, 0), Nm.le_put hnw, fun i hi hri => Nm.put_other hi hri, ⟨_, rfl, hN, .inr ⟨_, Nm.put_self _ _ _, by simp⟩⟩, .inr ⟨b, .cells c e (0, 0), rfl, .inr ⟨b, c, Nm.put_self _ _ _, hrow', hcs, hc, rfl⟩, ?_⟩⟩
    rcases hwhere with ⟨hg, hs⟩ | ⟨d, hw', rfl, rfl⟩
    · exact .inl ⟨hg, hb, hs, h1, h2, h3⟩
    · exact .inr ⟨rfl, hw'⟩

theorem run_value2 {s : Sem Value} {z : Value} {w w' : World} (h : s.run P w = .ok z w') : (do pure (Next.value (← s)) : Sem Next).run P w = .ok (.value z) w' := by
  simp [h]

set_option maxHeartbeats 4000000 in
theorem evalE_sound (hτ : τ.met P) {κ : Kinds U} (hκ : κ.met τ) {M : Goal U} {dst : Option Tmp} {op : Op} {type : Nat} {pos : String} {after : Array Edge} {guard : Option (Nat × Bool)} {ev : Operand → AV} {h : Heap U} {nw : Nat} {K : AV → Heap U → List Nat → Out U}
    (H : (evalE τ κ op ev h nw K).holds M) : Eg P ⟨dst, op, type, pos, after, guard⟩ ev h nw (fun v h' t => (K v h' t).holds M) := by
  unfold evalE at H
  cases hn : h.get nw with
  | some B => rw [hn] at H; exact H.elim
  | none =>
  rw [hn] at H
  have put : ∀ (T : Nat) (m ky x : Operand) (op : Op), op.operands.toList = [m, ky, x] → (∀ (a : Act) (o : Oper), o.op = op → execOp a.eval o = (do Instr.mapUpdate T (a.eval m) (a.eval ky) (a.eval x); pure .skip)) →
      (evalPut τ κ T (ev m) (ev ky) (ev x) h K).holds M → Eg P ⟨dst, op, type, pos, after, guard⟩ ev h nw (fun v h' t => (K v h' t).holds M) := by
    intro T m ky x op hops hex H
    unfold evalPut at H
    split at H
    · rename_i kk kd id kk'' n l hmap hm hky
      split at H
      · rename_i kk' k' es hB
        rw [holds_bif] at H
        split at H
        · rename_i hc
          simp only [Bool.and_eq_true, decide_eq_true_eq] at hc
          obtain ⟨rfl, rfl⟩ := hc
          split at H
          · rename_i y hy
            intro β r a w ho hs hnw
            have hmm := ho m (by rw [hops]; simp); rw [hm] at hmm
            obtain ⟨q, hq, hmm⟩ := hmm
            have hkv := rel_num hky (ho ky (by rw [hops]; simp))
            have hxv := decV_sound hy (ho x (by rw [hops]; simp))
            obtain ⟨tk, te, hT, hkt, _⟩ := mapOf_sound hτ hmap
            obtain ⟨H1, hd, hw, _⟩ := hs.at hB
            obtain ⟨b, ents, clock, hb, hrm, rfl⟩ := hd
            rw [hq] at hb; cases hb
            have hblk := Hp.inW_one.1 hw
            have hlt := (Array.getElem?_eq_some_iff.1 hblk).1
            have hget : (getObj b).run P w = .ok (.map ents clock) w := by simp [getObj, Sem.run, hblk]
            have hset : ∀ o, (setObj b o).run P w = .ok () { w with heap := w.heap.setIfInBounds b o } := fun o => by simp [setObj, Sem.run, hblk]
            obtain ⟨f1, f2⟩ := relM_put (n := n) hxv es ents.toList 0 hrm
            have fin : ∀ (ents' : Array MapEntry) (clock' : Nat), relM (U.enc k') kk r (mput es n y) ents'.toList → (Instr.mapUpdate T (.map (some b)) (.int kk n) (a.eval x)).run P w = .ok () { w with heap := w.heap.setIfInBounds b (.map ents' clock') } →
                ∃ v h' t z w' r', (K v h' t).holds M ∧ ((execOp a.eval ⟨dst, op, type, pos, after, guard⟩).run P w = .ok (.value z) w' ∨ ((execOp a.eval ⟨dst, op, type, pos, after, guard⟩).run P w = .ok .skip w' ∧ z = undef)) ∧
                  r.le r' ∧ (∀ i, i ≠ nw → r i = none → r' i = none) ∧ rel r' v z ∧ Sat β r' h' w' ∧ (∀ id B, h.get id = some B → id ∉ t → h'.get id = some B) := by
              intro ents' clock' hrel hrun
              refine ⟨.und, _, [id], undef, { w with heap := w.heap.setIfInBounds b (.map ents' clock') }, r, H, .inr ⟨?_, rfl⟩, Nm.le.refl r, fun _ _ h => h, trivial, ?_, fun id' B hg hne => by rw [Heap.get_set_ne (by simpa using hne)]; exact hg⟩
              · rw [hex a _ rfl]; simp only [Sem.run_bind, hmm, hkv, hrun, Result.andThen_ok, Sem.run_pure]
              · refine hs.write hB (b := b) (.map ents' clock') ?_ ⟨b, ents', clock', hq, hrel, rfl⟩ ?_ ?_ rfl rfl rfl
                · rintro H ⟨b', e', c', hb', _, rfl⟩; rw [hq] at hb'; cases hb'; exact ⟨_, rfl⟩
                · simp [hlt]
                · intro x hx; simp [Ne.symm hx]
            cases hmg : mget es n with
            | none =>
              have hfind := (relM_find n es ents.toList 0 hrm).1 hmg
              refine fin (ents.push { key := .int kk n, val := a.eval x, born := clock }) (clock + 1) (by simpa using f1 hmg clock) ?_
              unfold Instr.mapUpdate
              simp only [Sem.run_bind, run_underlying hT, Result.andThen_ok, hget, run_checkKey_int hkt _ 9999, Instr.findKey, run_underlying hkt, hfind, Sem.run_pure, hset]
            | some z0 =>
              obtain ⟨j, e, h1, h2, h3, h4, _⟩ := f2 z0 hmg
              refine fin (ents.modify j fun e => { e with key := .int kk n, val := a.eval x }) clock (by simpa [Array.toList_modify] using h4) ?_
              have hej : ents[j]? = some e := by simpa using h2
              unfold Instr.mapUpdate
              simp only [Nat.zero_add] at h1
              simp only [Sem.run_bind, run_underlying hT, Result.andThen_ok, hget, run_checkKey_int hkt _ 9999, Instr.findKey, run_underlying hkt, h1, Sem.run_pure, hej, Option.map_some, Option.getD_some, Instr.keyThatStays, h3, Instr.sameBits, beq_self_eq_true, Bool.and_self, if_true, hset]
          · exact H.elim
        · exact H.elim
      · exact H.elim
    · exact H.elim
  cases op <;> simp only at H <;> try exact H.elim
  case alloc T =>
    split at H
    · rename_i R hR
      refine eg_new hn H fun r a w ho => ?_
      have hm := hτ T R hR
      obtain ⟨i, z, hi, _, _, hz, _, _, hrz⟩ := hm.info
      refine ⟨.cells z.cells T, .pointer (some ⟨w.heap.size, 0, none⟩), by simp [execOp, Instr.alloc, zeroValue, typeInfo, hi, hz, newVar, newRow], fun r' hr' hnw => ⟨⟨_, hnw, rfl⟩, fun G => ⟨w.heap.size, z.cells.toList, hnw, ?_, by simp⟩⟩⟩
      exact relL_mono (fun _ _ e => by cases e) _ _ hrz
    · exact H.elim
  case box T x =>
    rw [holds_bif] at H
    split at H
    · rename_i hpl
      refine eg_new hn H fun r a w ho => ?_
      have hx := ho x (by simp [Op.operands])
      refine ⟨.cells (a.eval x).cells T, .pointer (some ⟨w.heap.size, 0, none⟩), by simp [execOp, Instr.box, newVar, newRow], fun r' hr' hnw => ⟨⟨_, hnw, rfl⟩, fun G => ⟨w.heap.size, (a.eval x).cells.toList, hnw, relL_mono hr' _ _ (rel_cells hpl hx), by simp⟩⟩⟩
    · exact H.elim
  case buildSlice T n ps =>
    split at H
    · rename_i e s hs
      split at H
      · rename_i R hR
        rw [holds_bif] at H
        split at H
        · rename_i hc
          simp only [Bool.and_eq_true] at hc
          obtain ⟨⟨hc1, hc2⟩, hc3⟩ := hc
          have hc1 := Nat.le_of_ble_eq_true hc1
          have hc3 := Nat.eq_of_beq_eq_true hc3
          split at H
          · rename_i cs hfill
            obtain ⟨R', hR', hsz, hT⟩ := sliceOf_under hτ hs
            rw [hR] at hR'; cases hR'
            refine eg_new hn H fun r a w ho => ?_
            have hm := hτ e R hR
            obtain ⟨i, z, hi, his, _, hz, hzs, _, hrz⟩ := hm.info
            have hzc : relL r R.zero z.cells.toList := relL_mono (fun _ _ e => by cases e) _ _ hrz
            have hpl' : ((ps.toList.map fun q => (q.1, ev q.2)).all fun q => q.2.plain) = true := by simpa [List.all_map] using hc2
            have hcells : relL r (List.replicate n R.zero).flatten (if n * s = 0 then #[] else (madeCells z.cells (n * s))).toList := by
              split
              · rename_i h0
                have : (List.replicate n R.zero).flatten = [] := by
                  apply List.eq_nil_of_length_eq_zero; simp [hc3, h0]
                rw [this]; exact relL_nil
              · rename_i h0
                have hpos : 0 < z.cells.size := by
                  rw [hzs, hsz]; rcases Nat.eq_zero_or_pos s with h | h
                  · subst h; simp at h0
                  · exact h
                rw [← hsz, ← hzs, madeCells_flatten z.cells hpos]
                exact flatten_replicate_rel hzc n
            obtain ⟨ov, ho1, ho2⟩ := fill_sound (r := r) _ ((ps.map fun q => (q.1, a.eval q.2)).toList) _ cs (if n * s = 0 then #[] else (madeCells z.cells (n * s))) hfill hpl' (by simp) (fun j i x hj => by
              simp only [List.getElem?_map, Option.map_eq_some_iff] at hj
              obtain ⟨q, hq, he⟩ := hj
              simp only [Prod.mk.injEq] at he
              obtain ⟨rfl, rfl⟩ := he
              refine ⟨a.eval q.2, by simp [hq], ho q.2 ?_⟩
              simp only [Op.operands, List.mem_map]
              exact ⟨q, List.mem_of_getElem? hq, rfl⟩) hcells
            refine ⟨.cells ov e, .slice (some ⟨w.heap.size, 0, none⟩) n n, ?_, fun r' hr' hnw => ⟨⟨_, rfl, Nat.le_refl _, .inr ⟨_, hnw, by simp⟩⟩, fun G => ⟨w.heap.size, ov.toList, hnw, relL_mono hr' _ _ ho2, by simp⟩⟩⟩
            refine run_value2 ?_
            unfold Instr.buildSlice
            simp only [Sem.run_bind, run_underlying hT, Result.andThen_ok, run_sizeOf hm, hsz]
            rw [if_neg (by omega)]
            by_cases h0 : n * s = 0
            · simp only [h0, if_true] at ho1 ⊢
              simp only [Sem.run_pure, Result.andThen_ok, Array.range_zero', Array.map_empty, ho1]
              simp [newRow]
            · simp only [h0, if_false] at ho1 ⊢
              simp only [madeCells] at ho1
              simp only [Sem.run_bind, zeroValue, typeInfo, run_program, hi, hz, Sem.run_pure, Result.andThen_ok, ho1]
              simp [newRow]
          · exact H.elim
        · exact H.elim
      · exact H.elim
    · exact H.elim
  case makeSlice T l c =>
    split at H
    · rename_i e s hs
      split at H
      · rename_i k R ka a0 la kb b0 lb hk hR hl hc
        obtain ⟨⟨h0, h1, h2⟩, H⟩ := H
        obtain ⟨R', hR', hsz, hT⟩ := sliceOf_under hτ hs
        rw [hR] at hR'; cases hR'
        obtain ⟨R', hR', hw, hag, hby, hz0⟩ := hκ e k hk
        rw [hR] at hR'; cases hR'
        have hm := hτ e R hR
        obtain ⟨i, z, hi, his, hib, hz, hzs, _, hrz⟩ := hm.info
        refine eg_new hn H fun r a w ho => ?_
        have e1 := rel_num hl (ho l (by simp [Op.operands]))
        have e2 := rel_num hc (ho c (by simp [Op.operands]))
        have hb63 : b0 ≤ 9223372036854775807 := by
          have : (1 : Int) ≤ R.bytes := by omega
          have h3 : b0 ≤ (R.bytes : Int) * b0 := by
            have := Int.mul_le_mul_of_nonneg_right this (show 0 ≤ b0 by omega); simpa using this
          omega
        have hrun := run_make (P := P) w T e i z hT hi hz ka kb a0 b0 h0 h1 (by rw [hib]; exact h2) hb63
        refine ⟨_, _, run_value2 (z := .slice (some ⟨w.heap.size, 0, none⟩) a0.toNat b0.toNat) (by simp only [e1, e2]; exact hrun), fun r' hr' hnw => ⟨⟨_, rfl, by omega, .inr ⟨_, hnw, by simp⟩⟩, fun G => ?_⟩⟩
        have hrowL : relL r' ((U.enc k).enc (U.enc k).dflt) z.cells.toList := hz0 r' _ (relL_mono (fun _ _ e => by cases e) _ _ hrz)
        refine .inr ⟨w.heap.size, _, hnw, ?_, ?_, ?_, rfl⟩
        · intro j x hj
          have hx : x = (U.enc k).dflt := by
            rw [List.getElem?_replicate] at hj; split at hj
            · cases hj; rfl
            · cases hj
          have hjl : j < a0.toNat := by
            rw [List.getElem?_replicate] at hj; split at hj
            · assumption
            · cases hj
          subst hx
          have hpos := (U.enc k).pos
          have hzw : z.cells.size = (U.enc k).w := by rw [hzs, hw]
          rw [his, ← hw, ← hzw, madeCells_flatten z.cells (by omega)]
          have hsplit : ((List.replicate b0.toNat z.cells.toList).flatten.drop (0 + j * z.cells.size)).take z.cells.size = z.cells.toList := by
            obtain ⟨n, hn'⟩ : ∃ n, b0.toNat = j + (n + 1) := ⟨b0.toNat - j - 1, by omega⟩
            rw [hn', ← List.replicate_append_replicate, List.flatten_append, List.replicate_succ, List.flatten_cons, Nat.zero_add]
            have hjl' : ((List.replicate j z.cells.toList).flatten).length = j * z.cells.size := by simp
            rw [← hjl', List.drop_left]
            simp
          rw [hsplit]; exact hrowL
        · simp only [size_madeCells, List.length_replicate, his, hw]; congr 1; omega
        · simp only [List.length_replicate, maxLen]; omega
      · exact H.elim
    · exact H.elim
  case makeMap T rr =>
    split at H
    · rename_i kk k hmap
      refine eg_new hn H fun r a w ho => ⟨.map #[] 0, .map (some w.heap.size), by simp [execOp, Instr.makeMap], fun r' hr' hnw => ⟨⟨_, hnw, rfl⟩, fun G => ⟨w.heap.size, #[], 0, hnw, by simp [relM], rfl⟩⟩⟩
    · exact H.elim
  case store T p x =>
    split at H
    · rename_i R id hR hid
      split at H
      · rename_i B hB
        obtain ⟨B', hK, hall⟩ := writeAt_sound (hτ T R hR) H hid
        intro β r a w ho hs hnw
        obtain ⟨w', hrun, hs'⟩ := hall β r w h _ _ (ho p (by simp [Op.operands])) (ho x (by simp [Op.operands])) hB hs
        exact ⟨.und, _, [id], undef, w', r, hK, .inr ⟨by simp [execOp, hrun], rfl⟩, Nm.le.refl r, fun _ _ h => h, trivial, hs', fun id' B hg hne => by rw [Heap.get_set_ne (by simpa using hne)]; exact hg⟩
      · exact H.elim
    · exact H.elim
  case mapUpdate T m ky x => exact put T m ky x _ (by simp [Op.operands]) (fun a o ho => by simp [execOp, ho]) H
  case insert T m ky x => exact put T m ky x _ (by simp [Op.operands]) (fun a o ho => by simp [execOp, ho]) H
  case call c =>
    obtain ⟨callee, args, argTypes⟩ := c
    cases callee <;> simp only at H <;> try exact H.elim
    rename_i b
    split at H
    · rename_i m ky T T2 hargs hT
      obtain ⟨args⟩ := args
      obtain ⟨argTypes⟩ := argTypes
      simp only at hargs hT; subst hargs; subst hT
      split at H
      · rename_i kk kd id kk'' n l hmap hm hky
        split at H
        · rename_i kk' k' es hB
          rw [holds_bif] at H
          split at H
          · rename_i hc
            simp only [Bool.and_eq_true, decide_eq_true_eq] at hc
            obtain ⟨rfl, rfl⟩ := hc
            intro β r a w ho hs hnw
            have hmm := ho m (by simp [Op.operands, Call.operands]); rw [hm] at hmm
            obtain ⟨q, hq, hmm⟩ := hmm
            have hkv := rel_num hky (ho ky (by simp [Op.operands, Call.operands]))
            obtain ⟨tk, te, hTT, hkt, _⟩ := mapOf_sound hτ hmap
            obtain ⟨H1, hd, hw, _⟩ := hs.at hB
            obtain ⟨b, ents, clock, hb, hrm, rfl⟩ := hd
            rw [hq] at hb; cases hb
            have hblk := Hp.inW_one.1 hw
            have hlt := (Array.getElem?_eq_some_iff.1 hblk).1
            have hget : (getObj b).run P w = .ok (.map ents clock) w := by simp [getObj, Sem.run, hblk]
            have hset : ∀ o, (setObj b o).run P w = .ok () { w with heap := w.heap.setIfInBounds b o } := fun o => by simp [setObj, Sem.run, hblk]
            have fin : ∀ (ents' : Array MapEntry), relM (U.enc k') kk r (mdel es n) ents'.toList → (Builtin.delete_ #[T, T2] type #[.map (some b), .int kk n]).run P w = .ok (.tuple #[]) { w with heap := w.heap.setIfInBounds b (.map ents' clock) } →
                ∃ v h' t z w' r', (K v h' t).holds M ∧ ((execOp a.eval ⟨dst, .call ⟨.builtin .delete, ⟨[m, ky]⟩, ⟨[T, T2]⟩⟩, type, pos, after, guard⟩).run P w = .ok (.value z) w' ∨ ((execOp a.eval ⟨dst, .call ⟨.builtin .delete, ⟨[m, ky]⟩, ⟨[T, T2]⟩⟩, type, pos, after, guard⟩).run P w = .ok .skip w' ∧ z = undef)) ∧
                  r.le r' ∧ (∀ i, i ≠ nw → r i = none → r' i = none) ∧ rel r' v z ∧ Sat β r' h' w' ∧ (∀ id B, h.get id = some B → id ∉ t → h'.get id = some B) := by
              intro ents' hrel hrun
              refine ⟨.tup [], _, [id], .tuple #[], { w with heap := w.heap.setIfInBounds b (.map ents' clock) }, r, H, .inl ?_, Nm.le.refl r, fun _ _ h => h, ⟨[], relL_nil, rfl⟩, ?_, fun id' B hg hne => by rw [Heap.get_set_ne (by simpa using hne)]; exact hg⟩
              · simp [execOp, resolve, invoke, builtin, hmm, hkv, hrun]
              · refine hs.write hB (b := b) (.map ents' clock) ?_ ⟨b, ents', clock, hq, hrel, rfl⟩ ?_ ?_ rfl rfl rfl
                · rintro H ⟨b', e', c', hb', _, rfl⟩; rw [hq] at hb'; cases hb'; exact ⟨_, rfl⟩
                · simp [hlt]
                · intro x hx; simp [Ne.symm hx]
            cases hmg : mget es n with
            | none =>
              have hfind := (relM_find n es ents.toList 0 hrm).1 hmg
              refine fin ents (by rw [mdel_none hmg]; exact hrm) ?_
              simp [Builtin.delete_, run_underlying hTT, hget, run_checkKey_int hkt _ 9999, Instr.findKey, run_underlying hkt, hfind, hset]
            | some z0 =>
              obtain ⟨_, e0, _, _, _, hv0, _⟩ := (relM_find n es ents.toList 0 hrm).2 z0 hmg
              obtain ⟨j, e, h1, h2, h3, _, h5⟩ := (relM_put (n := n) hv0 es ents.toList 0 hrm).2 z0 hmg
              refine fin (ents.eraseIdxIfInBounds j) (by simpa using h5) ?_
              simp only [Nat.zero_add] at h1
              simp [Builtin.delete_, run_underlying hTT, hget, run_checkKey_int hkt _ 9999, Instr.findKey, run_underlying hkt, h1, hset]
          · exact H.elim
        · exact H.elim
      · exact H.elim
    · rename_i sx x T T' hargs hT
      obtain ⟨args⟩ := args
      obtain ⟨argTypes⟩ := argTypes
      simp only at hargs hT; subst hargs; subst hT
      rw [holds_bif] at H
      split at H
      · rename_i hTT
        have hTT := Nat.eq_of_beq_eq_true hTT
        subst hTT
        split at H
        · rename_i e sz hs
          split at H
          · rename_i k R hk hR
            obtain ⟨R', hR', hsz, hT⟩ := sliceOf_under hτ hs
            rw [hR] at hR'; cases hR'
            obtain ⟨R', hR', hw, hag, hby, hz0⟩ := hκ e k hk
            rw [hR] at hR'; cases hR'
            have hm := hτ e R hR
            obtain ⟨i, z, hi, his, hib, hz, hzs, _, hrz⟩ := hm.info
            have hwi : (U.enc k).w = i.size := by rw [hw, his]
            obtain ⟨ys, rd, H, hrd, hsrc⟩ := evalSrc_sound H
            have hsz' : sz = (U.enc k).w := by rw [hw, hsz]
            -- a base with no room at all
            have bare : ∀ (hsx : ∀ (r : Nm) u, rel r (ev sx) u → ∃ a, u = .slice a 0 0), (Out.need (ys.length * R.bytes ≤ 140737488355328) (.all Nat fun sp => K (.sl false nw 0 sz ys.length (ys.length + sp)) ((nw, .arr e k ys sp) :: h) []) : Out U).holds M →
                Eg P ⟨dst, .call ⟨.builtin .append, ⟨[sx, x]⟩, ⟨[T, T]⟩⟩, type, pos, after, guard⟩ ev h nw (fun v h' t => (K v h' t).holds M) := by
              rintro hsx ⟨hb, H⟩ β r a w ho hs hnw
              obtain ⟨ba, hba⟩ := hsx r _ (ho sx (by simp [Op.operands, Call.operands]))
              obtain ⟨news, n1, n2, n3, n4, n5⟩ := hsrc β r w _ (ho x (by simp [Op.operands, Call.operands])) hs
              obtain ⟨v', w', hrun, happ⟩ := run_append_any (P := P) w T type e i z hT hi hz (by rw [hzs, his]) (a.eval x) ys.length news n1 (by rw [← hwi]; exact n2) (by rw [← hwi]; exact n3 w rfl) (by rw [← hwi]; exact n3 w.drew rfl) n4 ba 0 0 [] (by simp) (Nat.le_refl _) (Nat.zero_le _) none (.inl rfl) (by
                  have : ys.length ≤ ys.length * R.bytes := Nat.le_mul_of_pos_right _ (by omega)
                  simp only [maxLen]; omega) (by rw [Nat.zero_add, hib]; exact hb)
              rw [Nat.zero_add, ← hwi, List.nil_append] at happ
              obtain ⟨sp, r', g1, g2, g3, g4⟩ := append_end (β := β) (r := r) (nw := nw) hnw happ n5
              refine ⟨_, _, [], v', w', r', H sp, .inl (by simp [execOp, resolve, invoke, builtin, hba, hrun]), g1, g2, by rw [hsz']; exact g3, ?_, fun id' B hg _ => by rw [Heap.get_cons_ne (fun e => by subst e; rw [hn] at hg; cases hg)]; exact hg⟩
              rcases g4 with ⟨rfl, rfl, rfl, q1, q2, q3, q4⟩ | ⟨b, o', rfl, hden, hwh⟩
              · exact (hs.sameHeap q1 q2 q3 q4).empty nw e k
              · rcases hwh with ⟨hg, _⟩ | ⟨rfl, rfl⟩
                · cases hg
                · exact hs.drew.new hnw (by simpa using hden)
            split at H
            · rename_i hsx
              exact bare (fun r u hu => by rw [hsx] at hu; simp only [rel] at hu; exact ⟨_, hu⟩) H
            · rename_i id w0 hsx
              exact bare (fun r u hu => by rw [hsx] at hu; obtain ⟨a, hu, _⟩ := hu; exact ⟨a, hu⟩) H
            · rename_i kn id st w0 len cap _ hsx
              split at H
              · rename_i T2 k2 xs sp0 hB
                split at H
                · rename_i hkk _
                  subst hkk
                  rw [holds_bif] at H
                  split at H
                  · rename_i hc
                    simp only [Bool.and_eq_true] at hc
                    obtain ⟨⟨hc1, hc2⟩, hc3⟩ := hc
                    have hc1 := Nat.eq_of_beq_eq_true hc1
                    have hc2 := Nat.eq_of_beq_eq_true hc2
                    subst hc1; subst hc2
                    obtain ⟨⟨h0, h1, h2, hb⟩, H⟩ := H
                    subst h0; subst h1; subst h2
                    intro β r a w ho hs hnw
                    have hu := ho sx (by simp [Op.operands, Call.operands]); rw [hsx] at hu
                    obtain ⟨ba, hba, _, hbb⟩ := hu
                    obtain ⟨news, n1, n2, n3, n4, n5⟩ := hsrc β r w _ (ho x (by simp [Op.operands, Call.operands])) hs
                    obtain ⟨H1, hd, hwin, _⟩ := hs.at hB
                    have hbase : ∃ g xsv, xsv.length = xs.length * i.size ∧ (xs.length + sp0 = 0 ∨ ∃ b c, ba = some ⟨b, 0, none⟩ ∧ g = some b ∧ w.heap[b]? = some (.cells c T2 (0, 0)) ∧ c.size = (xs.length + sp0) * i.size ∧ c.toList.take (xs.length * i.size) = xsv) ∧
                        (∀ j y, xs[j]? = some y → relL r ((U.enc k2).enc y) ((xsv.drop (j * (U.enc k2).w)).take (U.enc k2).w)) ∧ xs.length + sp0 ≤ maxLen ∧ (∀ b, g = some b → ∀ H1, (Blk.arr T2 k2 xs sp0 : Blk U).den β.G r id H1 → ∃ o, H1 = Hp.one b o) := by
                      by_cases hcz : xs.length + sp0 = 0
                      · have : xs = [] := List.eq_nil_of_length_eq_zero (by omega)
                        subst this
                        exact ⟨none, [], by simp, .inl hcz, fun j y hj => by simp at hj, by omega, fun b e => by cases e⟩
                      rcases hd with ⟨hz0', _⟩ | ⟨b, c, hb', hrow, hcs, hmx, rfl⟩
                      · have : xs = [] := List.eq_nil_of_length_eq_zero (by omega)
                        subst this
                        exact ⟨none, [], by simp, .inl hz0', fun j y hj => by simp at hj, by omega, fun b e => by cases e⟩
                      · rcases hbb with hbb | ⟨y, hy, rfl⟩
                        · have : xs = [] := List.eq_nil_of_length_eq_zero (by omega)
                          subst this
                          exact ⟨none, [], by simp, .inl hbb, fun j y hj => by simp at hj, hmx, fun b e => by cases e⟩
                        · rw [hy] at hb'; cases hb'
                          have hlen : (c.toList.take (xs.length * i.size)).length = xs.length * i.size := by
                            have hcl : c.toList.length = c.size := by simp
                            rw [List.length_take, hcl, hcs, hwi, Nat.add_mul]; omega
                          refine ⟨some b, _, hlen, .inr ⟨b, c, by simp, rfl, Hp.inW_one.1 hwin, by rw [← hwi]; exact hcs, rfl⟩, fun j y hj => ?_, hmx, fun b' e H1 hH => ?_⟩
                          · have := hrow j y hj
                            have hlt : j < xs.length := (List.getElem?_eq_some_iff.1 hj).1
                            have hm2 : (j + 1) * (U.enc k2).w ≤ xs.length * (U.enc k2).w := Nat.mul_le_mul_right _ hlt
                            rw [Nat.succ_mul] at hm2
                            rw [← hwi, List.drop_take, List.take_take, show min (U.enc k2).w (xs.length * (U.enc k2).w - j * (U.enc k2).w) = (U.enc k2).w by omega]
                            simpa using this
                          · cases e
                            rcases hH with ⟨hz1, _⟩ | ⟨b', c', hb'', _, _, _, rfl⟩
                            · exact absurd hz1 hcz
                            · rw [hy] at hb''; cases hb''; exact ⟨_, rfl⟩
                    obtain ⟨g, xsv, x1, x2, x3, x4, x5⟩ := hbase
                    obtain ⟨v', w', hrun, happ⟩ := run_append_any (P := P) w T type T2 i z hT hi hz (by rw [hzs, his]) (a.eval x) ys.length news n1 (by rw [← hwi]; exact n2) (by rw [← hwi]; exact n3 w rfl) (by rw [← hwi]; exact n3 w.drew rfl) n4 ba xs.length (xs.length + sp0) xsv x1 (by omega) x4 g x2 (by
                        have : xs.length + ys.length ≤ (xs.length + ys.length) * R.bytes := Nat.le_mul_of_pos_right _ (by omega)
                        simp only [maxLen]; omega) (by rw [hib]; exact hb)
                    rw [← hwi, show xs.length + ys.length = (xs ++ ys).length by simp] at happ
                    have hrows : ∀ j y, (xs ++ ys)[j]? = some y → relL r ((U.enc k2).enc y) (((xsv ++ news).drop (j * (U.enc k2).w)).take (U.enc k2).w) := by
                      intro j y hj
                      rw [← hwi] at x1
                      rw [List.getElem?_append] at hj
                      split at hj
                      · rename_i hlt
                        have hm2 : (j + 1) * (U.enc k2).w ≤ xs.length * (U.enc k2).w := Nat.mul_le_mul_right _ hlt
                        rw [Nat.succ_mul] at hm2
                        rw [List.drop_append_of_le_length (by omega), List.take_append_of_le_length (by simp; omega)]
                        exact x3 j y hj
                      · rename_i hge
                        have := n5 _ y hj
                        have e1 : j * (U.enc k2).w = xsv.length + (j - xs.length) * (U.enc k2).w := by
                          rw [x1, ← Nat.add_mul]; congr 1; omega
                        rw [e1, List.drop_append]
                        have e2 : xsv.drop (xsv.length + (j - xs.length) * (U.enc k2).w) = [] := List.drop_eq_nil_of_le (by omega)
                        rw [e2, List.nil_append, show xsv.length + (j - xs.length) * (U.enc k2).w - xsv.length = (j - xs.length) * (U.enc k2).w by omega]
                        exact this
                    obtain ⟨sp, r', g1, g2, g3, g4⟩ := append_end (β := β) (r := r) (nw := nw) hnw happ hrows
                    have hidnw : id ≠ nw := fun e => by subst e; rw [hn] at hB; cases hB
                    refine ⟨_, _, [id], v', w', r', H sp, .inl (by simp [execOp, resolve, invoke, builtin, hba, hrun]), g1, g2, by rw [hsz']; simpa using g3, ?_, fun id' B hg hne => ?_⟩
                    · rcases g4 with ⟨q0, rfl, rfl, q1, q2, q3, q4⟩ | ⟨b, o', rfl, hden, hwh⟩
                      · simp only [castK, q0]; exact ((hs.del hB).sameHeap q1 q2 q3 q4).empty nw T2 k2
                      · rcases hwh with ⟨rfl, hh1, hh2, q2, q3, q4⟩ | ⟨rfl, rfl⟩
                        · exact hs.rename hnw hB o' (x5 b rfl) hden hh1 hh2 q2 q3 q4
                        · exact (hs.del hB).drew.new hnw (by simpa [castK] using hden)
                    · rw [Heap.get_cons_ne (fun e => by subst e; rw [hn] at hg; cases hg), Heap.get_del_ne (by simpa using hne)]; exact hg
                  · exact H.elim
                · exact H.elim
              · exact H.elim
            · exact H.elim
          · exact H.elim
        · exact H.elim
      · exact H.elim
    · exact H.elim

end
end Sx
end Go.Proofs.Ytemcdjdglcceiaa
