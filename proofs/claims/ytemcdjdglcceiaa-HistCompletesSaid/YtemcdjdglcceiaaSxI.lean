/-
  The operations that make memory or write it: an evaluator, and its soundness.
-/
import Derived.Test.YtemcdjdglcceiaaSxH
namespace Go.Proofs.Ytemcdjdglcceiaa
namespace Sx
open Go

section
variable {U : Uni} {P : Program} {τ : Tab}

theorem Heap.get_set_ne {id j : Nat} {B : Blk U} (h : j ≠ id) : ∀ hp : Heap U, (hp.set id B).get j = hp.get j
  | [] => rfl
  | (i, C) :: hp => by
    unfold Heap.set
    cases hi : Nat.beq i id with
    | true =>
      have : i = id := Nat.eq_of_beq_eq_true hi
      subst this
      have hij : Nat.beq i j = false := by cases e : Nat.beq i j with | true => exact absurd (Nat.eq_of_beq_eq_true e).symm h | false => rfl
      simp [Heap.get, hij]
    | false => simp only [cond_false, Heap.get]; rw [Heap.get_set_ne h hp]
theorem Heap.get_del_ne {id j : Nat} (h : j ≠ id) : ∀ hp : Heap U, (hp.del id).get j = hp.get j
  | [] => rfl
  | (i, C) :: hp => by
    unfold Heap.del
    cases hi : Nat.beq i id with
    | true =>
      have : i = id := Nat.eq_of_beq_eq_true hi
      subst this
      have hij : Nat.beq i j = false := by cases e : Nat.beq i j with | true => exact absurd (Nat.eq_of_beq_eq_true e).symm h | false => rfl
      simp [Heap.get, hij]
    | false => simp only [cond_false, Heap.get]; rw [Heap.get_del_ne h hp]
theorem Heap.get_cons_ne {id j : Nat} {B : Blk U} (h : j ≠ id) (hp : Heap U) : Heap.get ((id, B) :: hp) j = hp.get j := by
  have hij : Nat.beq id j = false := by cases e : Nat.beq id j with | true => exact absurd (Nat.eq_of_beq_eq_true e).symm h | false => rfl
  simp [Heap.get, hij]

/-! ## one cell -/
def AV.one : AV → Bool
  | .agg _ => false
  | .tup _ => false
  | .und => false
  | .raw _ => false
  | .may .. => false
  | _ => true
theorem rel_one {r : Nm} {x : AV} {v : Value} (h : x.one = true) (e : rel r x v) : v.oneCell' = true := by
  cases x <;> simp only [AV.one] at h <;> (try (simp at h; done)) <;> simp only [rel] at e
  all_goals first
    | (subst e; rfl)
    | (obtain ⟨a, _, rfl⟩ := e; rfl)
    | (obtain ⟨a, rfl, _⟩ := e; rfl)
    | (obtain ⟨a, b, _, _, rfl⟩ := e; rfl)
theorem relL_one {r : Nm} : ∀ {xs : List AV} {vs : List Value}, xs.all AV.one = true → relL r xs vs → ∀ v ∈ vs, v.oneCell' = true
  | [], _, _, e, v, hv => by simp only [relL] at e; subst e; simp at hv
  | x :: xs, _, h, e, v, hv => by
    simp only [relL] at e; obtain ⟨u, us, rfl, k, l⟩ := e
    simp only [List.all_cons, Bool.and_eq_true] at h
    rcases List.mem_cons.1 hv with rfl | hv
    · exact rel_one h.1 k
    · exact relL_one h.2 l v hv

theorem setRangeV_eq : ∀ (ns cs : List Value) (off : Nat), off + ns.length ≤ cs.length → setRangeV cs off ns = cs.take off ++ ns ++ cs.drop (off + ns.length)
  | [], cs, off, _ => by simp [setRangeV]
  | n :: ns, cs, off, h => by
    simp only [List.length_cons] at h
    simp only [setRangeV]
    rw [setRangeV_eq ns _ (off + 1) (by simp; omega)]
    have h1 : (cs.set off n).take (off + 1) = cs.take off ++ [n] := by
      rw [List.take_succ_eq_append_getElem (by simp; omega)]
      simp [List.take_set_of_le (Nat.le_refl _)]
    have h2 : (cs.set off n).drop (off + 1 + ns.length) = cs.drop (off + (n :: ns).length) := by
      rw [List.drop_set_of_lt (by omega)]
      simp only [List.length_cons]; congr 1; omega
    rw [h1, h2]; simp

/-! ## writing -/
def writeAt (R : TyRow) (B : Blk U) (p x : AV) (K : Blk U → Out U) : Out U :=
  bif x.plain && (cellsAV x).all AV.one && Nat.beq (cellsAV x).length R.size then
    (match p, B with
    | .ptr _ off, .cells T cs => bif Nat.ble (off + R.size) cs.length then K (.cells T (setRange cs off (cellsAV x))) else .bad 100
    | .ptrR _ i w c, .cells T cs => bif Nat.ble (i * w + c + R.size) cs.length then K (.cells T (setRange cs (i * w + c) (cellsAV x))) else .bad 101
    | .ptrR _ i w c, .arr T k xs sp => bif Nat.beq w (U.enc k).w && Nat.ble (c + R.size) w then .need (i < xs.length)
        (match (U.enc k).dec (setRange ((U.enc k).enc (xs.getD i (U.enc k).dflt)) c (cellsAV x)) with | some y => K (.arr T k (xs.set i y) sp) | none => .bad 102) else .bad 103
    | _, _ => .bad 104)
  else .bad 105

theorem run_storeVar {t : Nat} {R : TyRow} (hm : R.met P t) {w : World} {b o : Nat} {c : Array Value} {E : Nat} (hb : w.heap[b]? = some (.cells c E (0, 0))) {v : Value}
    (hsz : v.cells.size = R.size) (hone : ∀ u ∈ v.cells.toList, u.oneCell' = true) (hfit : o + v.cells.size ≤ c.size) :
    (storeVar t ⟨b, o, none⟩ v).run P w = .ok () (w.setRow b (setRangeV c.toList o v.cells.toList).toArray) := by
  unfold storeVar
  simp only [Sem.run_bind, run_sizeOf hm, Result.andThen_ok, hsz, ne_eq, not_true_eq_false, if_false]
  have := run_storeCells_at P b o E v.cells.toList 0 c w hb (by simpa using hfit) hone
  simp only [Nat.add_zero] at this
  rw [this, setRangeV_eq _ _ _ (by simpa using hfit)]

theorem writeAt_sound {M : Goal U} {t : Nat} {R : TyRow} (hm : R.met P t) {B : Blk U} {p x : AV} {K : Blk U → Out U} (h : (writeAt R B p x K).holds M) {id : Nat} (hid : p.id? = some id) :
    ∃ B', (K B').holds M ∧ ∀ (β : Base) (r : Nm) (w : World) (hp : Heap U) (u v : Value), rel r p u → rel r x v → hp.get id = some B → Sat β r hp w →
      ∃ w', (Instr.storeAt t u v).run P w = .ok () w' ∧ Sat β r (hp.set id B') w' := by
  unfold writeAt at h
  rw [holds_bif] at h
  split at h
  · rename_i hc
    simp only [Bool.and_eq_true] at hc
    obtain ⟨⟨hpl, hone⟩, hlen⟩ := hc
    have hlen := Nat.eq_of_beq_eq_true hlen
    -- a block of cells
    have cellsCase : ∀ (T : Nat) (cs : List AV) (off : Nat), off + R.size ≤ cs.length → ∀ (β : Base) (r : Nm) (w : World) (hp : Heap U) (v : Value) (y : Nat × Nat), r id = some y → rel r x v → hp.get id = some (.cells T cs) → Sat β r hp w →
        ∃ w', (Instr.storeAt t (.pointer (some ⟨y.1, y.2 + off, none⟩)) v).run P w = .ok () w' ∧ Sat β r (hp.set id (.cells T (setRange cs off (cellsAV x)))) w' := by
      intro T cs off hoff β r w hp v y hy hv hg hs
      have hcv := rel_cells hpl hv
      have hl1 := relL_length hcv
      simp only [Array.length_toList] at hl1
      obtain ⟨H1, hd, hw, _⟩ := hs.at hg
      obtain ⟨b, vs, hb, hrl, rfl⟩ := hd
      rw [hy] at hb; cases hb
      have hblk := Hp.inW_one.1 hw
      have hl2 := relL_length hrl
      have hrun := run_storeVar (P := P) hm (o := 0 + off) hblk (v := v) (by omega) (relL_one hone hcv) (by simp; omega)
      refine ⟨_, by simp only [Instr.storeAt, Instr.sureAddr, Sem.run_bind, Sem.run_pure, Result.andThen_ok]; exact hrun, ?_⟩
      refine hs.write hg (b := b) (.cells (setRangeV vs (0 + off) v.cells.toList).toArray T (0, 0)) ?_ ?_ (setRow_heap w b _ _ T (0, 0) hblk) (fun x hx => setRow_other w b x _ hx) rfl rfl rfl
      · rintro H ⟨b', vs', hb', _, rfl⟩; rw [hy] at hb'; cases hb'; exact ⟨_, rfl⟩
      · exact ⟨b, _, hy, by simpa using relL_setRange hcv hrl off, rfl⟩
    split at h
    · rename_i i off T cs
      rw [holds_bif] at h
      split at h
      · rename_i hle
        simp only [AV.id?, Option.some.injEq] at hid; subst hid
        refine ⟨_, h, fun β r w hp u v hu hv hg hs => ?_⟩
        obtain ⟨y, hy, rfl⟩ := hu
        exact cellsCase T cs off (Nat.le_of_ble_eq_true hle) β r w hp v y hy hv hg hs
      · exact h.elim
    · rename_i j i wd c T cs
      rw [holds_bif] at h
      split at h
      · rename_i hle
        simp only [AV.id?, Option.some.injEq] at hid; subst hid
        refine ⟨_, h, fun β r w hp u v hu hv hg hs => ?_⟩
        obtain ⟨y, hy, rfl⟩ := hu
        exact cellsCase T cs (i * wd + c) (Nat.le_of_ble_eq_true hle) β r w hp v y hy hv hg hs
      · exact h.elim
    · rename_i j i wd c T k xs sp
      rw [holds_bif] at h
      split at h
      · rename_i hw
        simp only [Bool.and_eq_true] at hw
        obtain ⟨hw1, hw2⟩ := hw
        have hw1 := Nat.eq_of_beq_eq_true hw1
        have hw2 := Nat.le_of_ble_eq_true hw2
        subst hw1
        obtain ⟨hi, h⟩ := h
        split at h
        · rename_i y hy
          simp only [AV.id?, Option.some.injEq] at hid; subst hid
          refine ⟨_, h, fun β r w hp u v hu hv hg hs => ?_⟩
          obtain ⟨q, hq, rfl⟩ := hu
          have hcv := rel_cells hpl hv
          have hl1 := relL_length hcv
          simp only [Array.length_toList] at hl1
          obtain ⟨H1, hd, hwin, _⟩ := hs.at hg
          rcases hd with ⟨hz, _⟩ | ⟨b, ca, hb, hrow, hsz, hmx, rfl⟩
          · omega
          rw [hq] at hb; cases hb
          have hblk := Hp.inW_one.1 hwin
          have hfit : i * (U.enc k).w + (U.enc k).w ≤ ca.size := by
            rw [hsz, ← Nat.succ_mul]; exact Nat.mul_le_mul_right _ (by omega)
          have hrun := run_storeVar (P := P) hm (o := 0 + (i * (U.enc k).w + c)) hblk (v := v) (by omega) (relL_one hone hcv) (by omega)
          refine ⟨_, by simp only [Instr.storeAt, Instr.sureAddr, Sem.run_bind, Sem.run_pure, Result.andThen_ok]; exact hrun, ?_⟩
          refine hs.write hg (b := b) (.cells (setRangeV ca.toList (0 + (i * (U.enc k).w + c)) v.cells.toList).toArray T (0, 0)) ?_ ?_ (setRow_heap w b _ _ T (0, 0) hblk) (fun x hx => setRow_other w b x _ hx) rfl rfl rfl
          · rintro H (⟨hz, _⟩ | ⟨b', ca', hb', _, _, _, rfl⟩)
            · omega
            · rw [hq] at hb'; cases hb'; exact ⟨_, rfl⟩
          · refine .inr ⟨b, _, hq, ?_, ?_, by simpa using hmx, rfl⟩
            · intro m z hm'
              have hlenV : v.cells.toList.length = R.size := by simp; omega
              have hset := setRangeV_eq v.cells.toList ca.toList (0 + (i * (U.enc k).w + c)) (by simp; omega)
              simp only [Nat.zero_add] at hset ⊢
              rw [List.getElem?_set] at hm'
              split at hm'
              · rename_i him; subst him
                simp only [hi, if_true, Option.some.injEq] at hm'; subst hm'
                have hx0 : xs[i]? = some (xs.getD i (U.enc k).dflt) := by simp [List.getD, List.getElem?_eq_getElem hi]
                have hold := hrow i _ hx0
                simp only [Nat.zero_add] at hold
                have hnew := relL_setRange hcv hold c
                have hdec := (U.enc k).back _ _ hy r _ hnew
                have he : setRangeV ((ca.toList.drop (i * (U.enc k).w)).take (U.enc k).w) c v.cells.toList = ((setRangeV ca.toList (i * (U.enc k).w + c) v.cells.toList).drop (i * (U.enc k).w)).take (U.enc k).w := by
                  have hcw : (List.take (U.enc k).w (List.drop (i * (U.enc k).w) ca.toList)).length = (U.enc k).w := by simp; omega
                  rw [setRangeV_eq _ _ c (by rw [hcw]; omega), hset]
                  apply List.ext_getElem?
                  intro n
                  simp only [List.getElem?_append, List.getElem?_take, List.getElem?_drop, List.length_take, List.length_drop, List.length_append, hlenV, Array.length_toList]
                  by_cases hn : n < (U.enc k).w
                  · simp only [hn, if_true]
                    by_cases h1 : n < c
                    · have a1 : n < min c (min (U.enc k).w (ca.size - i * (U.enc k).w)) := by omega
                      have a2 : i * (U.enc k).w + n < min (i * (U.enc k).w + c) ca.size := by omega
                      have a3 : i * (U.enc k).w + n < i * (U.enc k).w + c := by omega
                      simp [a1, a2, a3, h1, hn, show n < min c (min (U.enc k).w (ca.size - i * (U.enc k).w)) + R.size by omega, show i * (U.enc k).w + n < min (i * (U.enc k).w + c) ca.size + R.size by omega]
                    · by_cases h2 : n < c + R.size
                      · have a1 : ¬ n < min c (min (U.enc k).w (ca.size - i * (U.enc k).w)) := by omega
                        have a2 : ¬ i * (U.enc k).w + n < min (i * (U.enc k).w + c) ca.size := by omega
                        have e1 : n - min c (min (U.enc k).w (ca.size - i * (U.enc k).w)) = i * (U.enc k).w + n - min (i * (U.enc k).w + c) ca.size := by omega
                        simp [a1, a2, e1, show n < min c (min (U.enc k).w (ca.size - i * (U.enc k).w)) + R.size by omega, show i * (U.enc k).w + n < min (i * (U.enc k).w + c) ca.size + R.size by omega]
                      · have e1 : i * (U.enc k).w + (c + R.size + (n - (min c (min (U.enc k).w (ca.size - i * (U.enc k).w)) + R.size))) = i * (U.enc k).w + c + R.size + (i * (U.enc k).w + n - (min (i * (U.enc k).w + c) ca.size + R.size)) := by omega
                        have e2 : c + R.size + (n - (min c (min (U.enc k).w (ca.size - i * (U.enc k).w)) + R.size)) < (U.enc k).w := by omega
                        simp [e1, e2, show ¬ n < min c (min (U.enc k).w (ca.size - i * (U.enc k).w)) + R.size by omega, show ¬ i * (U.enc k).w + n < min (i * (U.enc k).w + c) ca.size + R.size by omega]
                  · simp only [hn, if_false]
                    have : ¬ n < min c (min (U.enc k).w (ca.size - i * (U.enc k).w)) + R.size := by omega
                    simp only [this, if_false]
                    have : ¬ (c + R.size + (n - (min c (min (U.enc k).w (ca.size - i * (U.enc k).w)) + R.size)) < (U.enc k).w) := by omega
                    simp [this]
                rw [he] at hdec
                exact hdec
              · rename_i him
                have hold := hrow m z hm'
                simp only [Nat.zero_add] at hold
                have hmlt : m < xs.length := (List.getElem?_eq_some_iff.1 hm').1
                have he : (ca.toList.drop (m * (U.enc k).w)).take (U.enc k).w = ((setRangeV ca.toList (i * (U.enc k).w + c) v.cells.toList).drop (m * (U.enc k).w)).take (U.enc k).w := by
                  rw [hset]
                  apply List.ext_getElem?
                  intro n
                  simp only [List.getElem?_append, List.getElem?_take, List.getElem?_drop, List.length_take, List.length_append, hlenV, Array.length_toList]
                  by_cases hn : n < (U.enc k).w
                  · simp only [hn, if_true]
                    have hmm : m * (U.enc k).w + (U.enc k).w ≤ i * (U.enc k).w ∨ i * (U.enc k).w + (U.enc k).w ≤ m * (U.enc k).w := by
                      rcases Nat.lt_or_ge m i with h1 | h1
                      · left; rw [← Nat.succ_mul]; exact Nat.mul_le_mul_right _ h1
                      · right; rw [← Nat.succ_mul]; exact Nat.mul_le_mul_right _ (by omega)
                    rcases hmm with h1 | h1
                    · have a2 : m * (U.enc k).w + n < min (i * (U.enc k).w + c) ca.size := by omega
                      have a3 : m * (U.enc k).w + n < i * (U.enc k).w + c := by omega
                      simp [a2, a3, show m * (U.enc k).w + n < min (i * (U.enc k).w + c) ca.size + R.size by omega]
                    · have a2 : ¬ m * (U.enc k).w + n < min (i * (U.enc k).w + c) ca.size + R.size := by omega
                      have e1 : i * (U.enc k).w + c + R.size + (m * (U.enc k).w + n - (min (i * (U.enc k).w + c) ca.size + R.size)) = m * (U.enc k).w + n := by omega
                      simp only [a2, if_false, e1]
                  · simp only [hn, if_false]
                rw [← he]; exact hold
            · have := setRangeV_eq v.cells.toList ca.toList (0 + (i * (U.enc k).w + c)) (by simp; omega)
              rw [this]; simp; omega
        · exact h.elim
      · exact h.elim
    · exact h.elim
  · exact h.elim

end
end Sx
end Go.Proofs.Ytemcdjdglcceiaa
