/-
  The operations that leave memory alone: one evaluator for all, and that the model tells the same.
-/
import Derived.Test.YtemcdjdglcceiaaSxD
namespace Go.Proofs.Ytemcdjdglcceiaa
namespace Sx
open Go

section
variable {U : Uni} {P : Program} {τ : Tab}

def takeRow (agg : Bool) (size : Nat) (cs : List AV) (off : Nat) : Option AV :=
  bif agg then (bif Nat.ble (off + size) cs.length then some (.agg ((cs.drop off).take size)) else none) else cs[off]?

theorem run_loadVar {t : Nat} {R : TyRow} (hm : R.met P t) {w : World} {b o : Nat} {c : Array Value} {E : Nat} {fz : Nat × Nat} (hb : w.heap[b]? = some (.cells c E fz))
    {r : Nm} {cs : List AV} {L : List Value} (hL : relL r cs L) (hc : ∀ j v, L[j]? = some v → c[o + j]? = some v) {off : Nat} {x : AV} (h : takeRow R.kind.agg R.size cs off = some x) :
    ∃ v, (loadVar t ⟨b, o + off, none⟩).run P w = .ok v w ∧ rel r x v := by
  have hcell : ∀ j v, L[j]? = some v → w.cell? ⟨b, o + j, none⟩ = some v := fun j v hj => by rw [cell_of_row w b (o + j) c E fz hb]; exact hc j v hj
  unfold takeRow at h
  unfold loadVar
  simp only [Sem.run_bind, run_isAgg hm, Result.andThen_ok]
  cases ha : R.kind.agg with
  | true =>
    rw [ha] at h; simp only [cond_true] at h
    cases hbl : Nat.ble (off + R.size) cs.length with
    | false => rw [hbl] at h; simp at h
    | true =>
      rw [hbl] at h; simp only [cond_true, Option.some.injEq] at h; subst h
      have hle : off + R.size ≤ cs.length := Nat.le_of_ble_eq_true hbl
      have hlen : ((L.drop off).take R.size).length = R.size := by
        have := relL_length hL; simp; omega
      have hrun := run_loadCells_list (P := P) w ⟨b, o + off, none⟩ ((L.drop off).take R.size) (fun j v hj => by
        rw [Addr.add_lit, Nat.add_assoc]
        refine hcell _ _ ?_
        rw [List.getElem?_take] at hj
        split at hj
        · rwa [List.getElem?_drop] at hj
        · cases hj)
      rw [hlen] at hrun
      exact ⟨.agg ((L.drop off).take R.size).toArray, by simp [run_sizeOf hm, hrun], ⟨_, relL_take (relL_drop hL off) R.size, rfl⟩⟩
  | false =>
    rw [ha] at h; simp only [cond_false] at h
    obtain ⟨u, hu, hru⟩ := relL_get hL h
    exact ⟨u, by simp [hcell _ _ hu], hru⟩

/-- What a place of a block holds. -/
def readAt (R : TyRow) (B : Blk U) (p : AV) (K : AV → Out U) : Out U :=
  match p, B with
  | .ptr _ off, .cells _ cs => (match takeRow R.kind.agg R.size cs off with | some v => K v | none => .bad 20)
  | .ptrR _ i w c, .cells _ cs => (match takeRow R.kind.agg R.size cs (i * w + c) with | some v => K v | none => .bad 21)
  | .ptrR _ i w c, .arr _ k xs _ => bif Nat.beq w (U.enc k).w then .need (i < xs.length) (match takeRow R.kind.agg R.size ((U.enc k).enc (xs.getD i (U.enc k).dflt)) c with | some v => K v | none => .bad 22) else .bad 23
  | .ptrR _ i w c, .ro k xs => bif Nat.beq w (U.enc k).w then .need (i < xs.length) (match takeRow R.kind.agg R.size ((U.enc k).enc (xs.getD i (U.enc k).dflt)) c with | some v => K v | none => .bad 24) else .bad 25
  | _, _ => .bad 26

def AV.id? : AV → Option Nat
  | .ptr id _ => some id
  | .ptrR id .. => some id
  | .mp id => some id
  | _ => none

theorem readAt_sound {M : Goal U} {t : Nat} {R : TyRow} (hm : R.met P t) {B : Blk U} {p : AV} {K : AV → Out U} (h : (readAt R B p K).holds M) {id : Nat} (hid : p.id? = some id) :
    ∃ v, (K v).holds M ∧ ∀ (β : Base) (r : Nm) (w : World) (H1 : Hp) (u : Value), rel r p u → B.den β.G r id H1 → H1.inW w → β.G.inW w → ∃ z, (Instr.loadAt t u).run P w = .ok z w ∧ rel r v z := by
  have arrs : ∀ (k : U.K) (xs : List (U.El k)) (i w' c : Nat) (v : AV), w' = (U.enc k).w → i < xs.length → takeRow R.kind.agg R.size ((U.enc k).enc (xs.getD i (U.enc k).dflt)) c = some v →
      ∀ (r : Nm) (w : World) (b o : Nat) (ca : Array Value) (T : Nat) (fz : Nat × Nat), w.heap[b]? = some (.cells ca T fz) →
      (∀ i x, xs[i]? = some x → relL r ((U.enc k).enc x) ((ca.toList.drop (o + i * (U.enc k).w)).take (U.enc k).w)) → ∃ z, (loadVar t ⟨b, o + (i * w' + c), none⟩).run P w = .ok z w ∧ rel r v z := by
    intro k xs i w' c v hw hi htk r w b o ca T fz hb hrow
    subst hw
    have hx : xs[i]? = some (xs.getD i (U.enc k).dflt) := by simp [List.getD, List.getElem?_eq_getElem hi]
    have hl := hrow i _ hx
    have := run_loadVar (P := P) hm (o := o + i * (U.enc k).w) hb hl (fun j v hj => by
      rw [List.getElem?_take] at hj
      split at hj
      · rw [List.getElem?_drop] at hj; simpa using hj
      · cases hj) htk
    rwa [Nat.add_assoc] at this
  unfold readAt at h
  split at h
  · split at h
    · rename_i i off T cs v htk
      simp only [AV.id?, Option.some.injEq] at hid; subst hid
      refine ⟨v, h, fun β r w H1 u hu hB hw _ => ?_⟩
      obtain ⟨x, hx, rfl⟩ := hu
      obtain ⟨b, vs, hb, hrl, rfl⟩ := hB
      rw [hx] at hb; cases hb
      simp only [Instr.loadAt, Instr.sureAddr]
      have := run_loadVar (P := P) hm (o := 0) (Hp.inW_one.1 hw) hrl (fun j v hj => by simpa using hj) htk
      simpa using this
    · exact h.elim
  · split at h
    · rename_i i ii wd c T cs v htk
      simp only [AV.id?, Option.some.injEq] at hid; subst hid
      refine ⟨v, h, fun β r w H1 u hu hB hw _ => ?_⟩
      obtain ⟨x, hx, rfl⟩ := hu
      obtain ⟨b, vs, hb, hrl, rfl⟩ := hB
      rw [hx] at hb; cases hb
      simp only [Instr.loadAt, Instr.sureAddr]
      have := run_loadVar (P := P) hm (o := 0) (Hp.inW_one.1 hw) hrl (fun j v hj => by simpa using hj) htk
      simpa using this
    · exact h.elim
  · rename_i i ii wd c T k xs sp
    rw [holds_bif] at h
    split at h
    · rename_i hwd
      have hwd := Nat.eq_of_beq_eq_true hwd
      obtain ⟨hlt, h⟩ := h
      split at h
      · rename_i v htk
        simp only [AV.id?, Option.some.injEq] at hid; subst hid
        refine ⟨v, h, fun β r w H1 u hu hB hw _ => ?_⟩
        obtain ⟨x, hx, rfl⟩ := hu
        rcases hB with ⟨hz, _⟩ | ⟨b, ca, hb, hrow, _, _, rfl⟩
        · omega
        rw [hx] at hb; cases hb
        simp only [Instr.loadAt, Instr.sureAddr]
        simpa using arrs k xs ii wd c v hwd hlt htk r w b 0 ca T (0, 0) (Hp.inW_one.1 hw) hrow
      · exact h.elim
    · exact h.elim
  · rename_i i ii wd c k xs
    rw [holds_bif] at h
    split at h
    · rename_i hwd
      have hwd := Nat.eq_of_beq_eq_true hwd
      obtain ⟨hlt, h⟩ := h
      split at h
      · rename_i v htk
        simp only [AV.id?, Option.some.injEq] at hid; subst hid
        refine ⟨v, h, fun β r w H1 u hu hB hw hG => ?_⟩
        obtain ⟨x, hx, rfl⟩ := hu
        obtain ⟨hall, rfl⟩ := hB
        obtain ⟨b, o, ca, T, fz, hb, hg, hrl⟩ := hall ii (xs.getD ii (U.enc k).dflt) (by simp [List.getD, List.getElem?_eq_getElem hlt])
        rw [hx] at hb; cases hb
        simp only [Instr.loadAt, Instr.sureAddr]
        subst hwd
        have := run_loadVar (P := P) hm (o := o + ii * (U.enc k).w) (hG b _ hg) hrl (fun j v hj => by
          rw [List.getElem?_take] at hj
          split at hj
          · rw [List.getElem?_drop] at hj; simpa using hj
          · cases hj) htk
        simpa [Nat.add_assoc] using this
      · exact h.elim
    · exact h.elim
  · exact h.elim

/-! ## what is built of parts -/
def setRange : List AV → Nat → List AV → List AV
  | cs, _, [] => cs
  | cs, off, c :: r => setRange (cs.set off c) (off + 1) r

def setRangeV : List Value → Nat → List Value → List Value
  | cs, _, [] => cs
  | cs, off, c :: r => setRangeV (cs.set off c) (off + 1) r

theorem relL_setRange {r : Nm} : ∀ {ns : List AV} {nv : List Value}, relL r ns nv → ∀ {cs : List AV} {vs : List Value}, relL r cs vs → ∀ off, relL r (setRange cs off ns) (setRangeV vs off nv)
  | [], _, e, _, _, h, off => by simp only [relL] at e; subst e; exact h
  | c :: ns, _, e, _, _, h, off => by
    simp only [relL] at e; obtain ⟨v, us, rfl, k, l⟩ := e
    exact relL_setRange l (relL_set k h off) (off + 1)

theorem setRange_length : ∀ (ns cs : List AV) (off : Nat), (setRange cs off ns).length = cs.length
  | [], _, _ => rfl
  | c :: ns, cs, off => by simp [setRange, setRange_length ns]

theorem foldl_setRangeV : ∀ (nv : List Value) (cells : Array Value) (off k : Nat),
    ((nv.zipIdx k).foldl (fun cs (x : Value × Nat) => cs.setIfInBounds (off + x.2) x.1) cells) = (setRangeV cells.toList (off + k) nv).toArray
  | [], cells, off, k => by simp [setRangeV]
  | c :: nv, cells, off, k => by
    simp only [List.zipIdx_cons, List.foldl_cons, setRangeV]
    rw [foldl_setRangeV nv _ off (k + 1)]
    simp [Nat.add_assoc]

def fillAV (place : Nat → Option (Nat × Nat)) (cells : List AV) : List (Nat × AV) → Option (List AV)
  | [] => some cells
  | (i, v) :: rest =>
    match place i with
    | none => none
    | some (off, size) => bif Nat.beq (cellsAV v).length size && Nat.ble (off + size) cells.length then fillAV place (setRange cells off (cellsAV v)) rest else none

/-- Is it one cell, or a struct of cells that are known? -/
def AV.plain : AV → Bool
  | .raw _ => false
  | .und => false
  | .tup _ => false
  | .may .. => false
  | _ => true

theorem rel_cells {r : Nm} {x : AV} {v : Value} (h : x.plain = true) (e : rel r x v) : relL r (cellsAV x) v.cells.toList := by
  cases x <;> simp only [AV.plain] at h <;> simp only [cellsAV] <;> try (simp at h; done)
  all_goals (have e' := e; simp only [rel] at e)
  all_goals first
    | (subst e; exact relL_cons.2 ⟨e', relL_nil⟩)
    | (obtain ⟨a, _, rfl⟩ := e; exact relL_cons.2 ⟨e', relL_nil⟩)
    | (obtain ⟨a, rfl, _⟩ := e; exact relL_cons.2 ⟨e', relL_nil⟩)
    | (obtain ⟨a, b, _, _, rfl⟩ := e; exact relL_cons.2 ⟨e', relL_nil⟩)
    | (obtain ⟨vs, hv, rfl⟩ := e; simpa [Value.cells] using hv)

theorem fill_sound {r : Nm} {place : Nat → Option (Nat × Nat)} : ∀ (parts : List (Nat × AV)) (pv : List (Nat × Value)) (cells out : List AV) (cv : Array Value),
    fillAV place cells parts = some out → (parts.all fun q => q.2.plain) = true → pv.length = parts.length →
    (∀ (j i : Nat) (x : AV), parts[j]? = some (i, x) → ∃ v : Value, pv[j]? = some (i, v) ∧ rel r x v) → relL r cells cv.toList → ∃ ov, Instr.fill place cv pv = some ov ∧ relL r out ov.toList
  | [], pv, cells, out, cv, h, _, hl, _, hc => by
    simp only [fillAV, Option.some.injEq] at h; subst h
    have : pv = [] := List.length_eq_zero_iff.1 (by simpa using hl)
    subst this; exact ⟨cv, rfl, hc⟩
  | (i, x) :: rest, [], _, _, _, _, _, hl, _, _ => by simp at hl
  | (i, x) :: rest, (i', v) :: pv, cells, out, cv, h, hp, hl, hall, hc => by
    obtain ⟨v', hv', hrv⟩ := hall 0 i x rfl
    simp at hv'; obtain ⟨rfl, rfl⟩ := hv'
    simp only [List.all_cons, Bool.and_eq_true] at hp
    simp only [fillAV] at h
    cases hpl : place i' with
    | none => rw [hpl] at h; simp at h
    | some q =>
      obtain ⟨off, size⟩ := q
      rw [hpl] at h; simp only at h
      cases hb : (Nat.beq (cellsAV x).length size && Nat.ble (off + size) cells.length) with
      | false => rw [hb] at h; simp at h
      | true =>
        rw [hb] at h; simp only [cond_true] at h
        simp only [Bool.and_eq_true] at hb
        have h1 := Nat.eq_of_beq_eq_true hb.1
        have h2 := Nat.le_of_ble_eq_true hb.2
        have hcx := rel_cells hp.1 hrv
        have hlx := relL_length hcx
        have hlc := relL_length hc
        simp only [Array.length_toList] at hlx hlc
        have hnew : relL r (setRange cells off (cellsAV x)) (setRangeV cv.toList off v.cells.toList) := relL_setRange hcx hc off
        have hfold := foldl_setRangeV v.cells.toList cv off 0
        obtain ⟨ov, ho, hro⟩ := fill_sound rest pv _ out ((setRangeV cv.toList off v.cells.toList).toArray) h hp.2 (by simpa using hl) (fun j i x hj => hall (j + 1) i x hj) (by simpa using hnew)
        refine ⟨ov, ?_, hro⟩
        simp only [Instr.fill, hpl]
        rw [if_neg (by simp; omega)]
        rw [← ho]
        congr 1
        rw [← Array.foldl_toList, Array.toList_zipIdx]
        simpa using hfold

end
end Sx
end Go.Proofs.Ytemcdjdglcceiaa
