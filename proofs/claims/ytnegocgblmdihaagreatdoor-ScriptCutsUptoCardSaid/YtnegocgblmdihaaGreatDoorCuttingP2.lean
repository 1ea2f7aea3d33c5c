/-
  A pool: addresses, reading, lengths, slices among blocks that are plain data; the evaluator of operations that only read, with these.
-/
import Derived.Test.YtnegocgblmdihaaGreatDoorCuttingP1
import Derived.Laws.BytesString
namespace Go.Proofs.YtnegocgblmdihaaGreatDoor
namespace Sx
open Go

section
variable {U : Uni} {P : Program} {τ : Tab}

/-- The leaves of a type. -/
inductive LK where
  | int (k : IntKind) | bool | ptr | sl
def leavesOf (τ : Tab) : Nat → Nat → Option (List LK)
  | 0, _ => none
  | n + 1, T => match τ T with
    | none => none
    | some R => (match R.kind with
      | .int k => some [.int k]
      | .bool => some [.bool]
      | .ptr _ => some [.ptr]
      | .slice _ => some [.sl]
      | .struct fs => fs.foldr (fun f acc => match leavesOf τ n f.2, acc with | some a, some b => some (a ++ b) | _, _ => none) (some [])
      | _ => none)

def exL : List LK → (List PD → Out U) → Out U
  | [], K => K []
  | .int k :: ks, K => .ex Int fun n => exL ks fun ds => K (.int k n :: ds)
  | .bool :: ks, K => .ex Bool fun b => exL ks fun ds => K (.bool b :: ds)
  | .ptr :: ks, K => .ex (Option (Nat × Nat)) fun o => exL ks fun ds => K (.ptr o :: ds)
  | .sl :: ks, K => .ex (Option (Nat × Nat)) fun o => .ex Nat fun l => .ex Nat fun c => exL ks fun ds => K (.sl o l c :: ds)
theorem exL_holds {M : Goal U} : ∀ {ks : List LK} {K : List PD → Out U}, (exL ks K).holds M → ∃ ds, ds.length = ks.length ∧ (K ds).holds M
  | [], _, h => ⟨[], rfl, h⟩
  | .int _ :: _, _, ⟨_, h⟩ => let ⟨ds, hl, hk⟩ := exL_holds h; ⟨_ :: ds, by simp [hl], hk⟩
  | .bool :: _, _, ⟨_, h⟩ => let ⟨ds, hl, hk⟩ := exL_holds h; ⟨_ :: ds, by simp [hl], hk⟩
  | .ptr :: _, _, ⟨_, h⟩ => let ⟨ds, hl, hk⟩ := exL_holds h; ⟨_ :: ds, by simp [hl], hk⟩
  | .sl :: _, _, ⟨_, _, _, h⟩ => let ⟨ds, hl, hk⟩ := exL_holds h; ⟨_ :: ds, by simp [hl], hk⟩

def Heap.poolId : Heap U → Option Nat
  | [] => none
  | (i, .pool _) :: _ => some i
  | _ :: h => Heap.poolId h
def Heap.poolIds : Heap U → List Nat
  | [] => []
  | (i, .pool _) :: h => i :: Heap.poolIds h
  | _ :: h => Heap.poolIds h

def shiftA (o : Option (Nat × Nat)) (k : Nat) : Option (Nat × Nat) := o.map fun q => (q.1, q.2 + k)
@[simp] theorem shiftA_some {b off k : Nat} : shiftA (some (b, off)) k = some (b, off + k) := rfl
@[simp] theorem shiftA_none {k : Nat} : shiftA none k = none := rfl

def pload1 (τ : Tab) (T : Nat) (o : Option (Nat × Nat)) (h : Heap U) (oid : Option Nat) (K : AV → Option Nat → Out U) : Out U :=
  match τ T, leavesOf τ 6 T, oid with
  | some R, some ks, some id => (match h.get id with
    | some (.pool p) => bif Nat.beq ks.length R.size && (R.kind.agg || Nat.beq R.size 1) then
        exL ks fun ds => .need (p.at o ds) (K (bif R.kind.agg then .agg (ds.map PD.av) else (ds.map PD.av).headD .und) (some id)) else .bad 501
    | _ => .bad 502)
  | _, _, _ => .bad 503
def Heap.rpoolId : Heap U → Option Nat
  | [] => none
  | (i, .rpool _) :: _ => some i
  | _ :: h => Heap.rpoolId h
def rload (τ : Tab) (T : Nat) (o : Option (Nat × Nat)) (h : Heap U) (id : Nat) (K : AV → Option Nat → Out U) : Out U :=
  match τ T, leavesOf τ 6 T, h.get id with
  | some R, some ks, some (.rpool f) => bif Nat.beq ks.length R.size && (R.kind.agg || Nat.beq R.size 1) then
        exL ks fun ds => .need (f.at o ds) (K (bif R.kind.agg then .agg (ds.map PD.aw) else (ds.map PD.aw).headD .und) (some id)) else .bad 515
  | _, _, _ => .bad 516
/-- With two pools it may be either; what is known of foreign memory goes first. -/
def pload (τ : Tab) (T : Nat) (o : Option (Nat × Nat)) (h : Heap U) (K : AV → Option Nat → Out U) : Out U :=
  match h.rpoolId with
  | some id => rload τ T o h id K
  | none => (match h.poolIds with
    | [] => .bad 500
    | [id] => pload1 τ T o h (some id) K
    | id :: id' :: _ => .ex Bool fun b => .ite b (pload1 τ T o h (some id) K) (pload1 τ T o h (some id') K))
theorem pload_cases {M : Goal U} {T : Nat} {o : Option (Nat × Nat)} {h : Heap U} {K : AV → Option Nat → Out U} (H : (pload τ T o h K).holds M) : (∃ oid, (pload1 τ T o h oid K).holds M) ∨ ∃ id, (rload τ T o h id K).holds M := by
  unfold pload at H
  split at H
  · exact .inr ⟨_, H⟩
  · refine .inl ?_
    split at H
    · exact H.elim
    · exact ⟨_, H⟩
    · obtain ⟨b, h1, h2⟩ := H
      cases b with
      | true => exact ⟨_, h1 rfl⟩
      | false => exact ⟨_, h2 rfl⟩

theorem pool_run {t : Nat} {R : TyRow} (hm : R.met P t) {p : Pool} {o : Option (Nat × Nat)} {ds : List PD} (hat : p.at o ds) (hl : ds.length = R.size) (hc : R.kind.agg = true ∨ R.size = 1) {w : World} (hw : p.hp.inW w) (r : Nm) :
    ∃ v, (Instr.loadAt t (.pointer (addrOf o))).run P w = .ok v w ∧ rel r (bif R.kind.agg then .agg (ds.map PD.av) else (ds.map PD.av).headD .und) v := by
  obtain ⟨b, off, T, cs, rfl, hb, hle, hat⟩ := hat
  have hblk : w.heap[b]? = some (.cells (cs.map PD.val).toArray T (0, 0)) := hw b _ (by simp [Pool.hp, hb, Pool.obj])
  have htk : takeRow R.kind.agg R.size (ds.map PD.av) 0 = some (bif R.kind.agg then .agg (ds.map PD.av) else (ds.map PD.av).headD .und) := by
    unfold takeRow
    cases ha : R.kind.agg with
    | true =>
      have : Nat.ble (0 + R.size) (ds.map PD.av).length = true := by rw [Nat.ble_eq]; simp [hl]
      rw [this]; simp [← hl, List.take_of_length_le]
    | false =>
      have h1 : R.size = 1 := by rcases hc with hc | hc; · rw [ha] at hc; cases hc
                                 · exact hc
      match ds, hl with
      | [d], _ => rfl
      | [], e => simp at e; omega
      | _ :: _ :: _, e => simp at e; omega
  have := run_loadVar (P := P) hm (o := off) hblk (PD.relL_av r ds) (fun j v hj => by
    have hj' : j < ds.length := by have := (List.getElem?_eq_some_iff.1 hj).1; simpa using this
    rw [← hat] at hj
    simp only [List.getElem?_map, List.getElem?_take, hj', if_true, List.getElem?_drop] at hj
    simpa using hj) htk
  simpa [addrOf, Instr.loadAt, Instr.sureAddr] using this

theorem rpool_run {t : Nat} {R : TyRow} (hm : R.met P t) {f : RPool} {o : Option (Nat × Nat)} {ds : List PD} (hat : f.at o ds) (hl : ds.length = R.size) (hc : R.kind.agg = true ∨ R.size = 1) {G : Hp} (hf : f.inG G) {w : World} (hw : G.inW w) (r : Nm) :
    ∃ v, (Instr.loadAt t (.pointer (addrOf o))).run P w = .ok v w ∧ rel r (bif R.kind.agg then .agg (ds.map PD.aw) else (ds.map PD.aw).headD .und) v := by
  obtain ⟨b, off, rfl, hat⟩ := hat
  by_cases h0 : ds = []
  · subst h0
    cases ha : R.kind.agg with
    | false =>
      rcases hc with hc | hc
      · rw [ha] at hc; cases hc
      · rw [← hl] at hc; cases hc
    | true =>
      refine ⟨.agg #[], ?_, ⟨[], relL_nil, rfl⟩⟩
      have hz : R.size = 0 := by rw [← hl]; rfl
      have hrun := run_loadCells_list (P := P) w ⟨b, off, none⟩ [] (fun j v hj => by cases hj)
      have hrun : (loadCells ⟨b, off, none⟩ 0).run P w = .ok #[] w := by simpa using hrun
      simp [addrOf, Instr.loadAt, Instr.sureAddr, loadVar, Sem.run_bind, run_isAgg hm, ha, run_sizeOf hm, hz, hrun]
  · obtain ⟨d, hd⟩ : ∃ d, ds[0]? = some d := by
      cases ds with
      | nil => exact absurd rfl h0
      | cons d _ => exact ⟨d, rfl⟩
    obtain ⟨c, T, fz, _, hb, _⟩ := hf b _ _ (hat 0 d hd)
    have hblk : w.heap[b]? = some (.cells c T fz) := hw b _ hb
    have each : ∀ j d, ds[j]? = some d → ∃ v, c[off + j]? = some v ∧ d.is v := fun j d hj => by
      obtain ⟨c', T', fz', v, hb', hc', hi⟩ := hf b _ _ (hat j d hj)
      rw [hb] at hb'; cases hb'
      exact ⟨v, hc', hi⟩
    have hvl : ((c.toList.drop off).take ds.length).length = ds.length := by
      rw [List.length_take, List.length_drop]
      have hlast : 0 < ds.length := by cases ds with | nil => exact absurd rfl h0 | cons _ _ => simp
      obtain ⟨v, hv, _⟩ := each (ds.length - 1) _ (List.getElem?_eq_getElem (by omega))
      have := (Array.getElem?_eq_some_iff.1 hv).1
      have hcs : c.toList.length = c.size := Array.length_toList
      omega
    have hrel : relL r (ds.map PD.aw) ((c.toList.drop off).take ds.length) := PD.relL_aw hvl fun j d hj => by
      obtain ⟨v, hv, hi⟩ := each j d hj
      refine ⟨v, ?_, hi⟩
      have hlt := (List.getElem?_eq_some_iff.1 hj).1
      rw [List.getElem?_take, if_pos hlt, List.getElem?_drop, Array.getElem?_toList]; exact hv
    have htk : takeRow R.kind.agg R.size (ds.map PD.aw) 0 = some (bif R.kind.agg then .agg (ds.map PD.aw) else (ds.map PD.aw).headD .und) := by
      unfold takeRow
      cases ha : R.kind.agg with
      | true =>
        have : Nat.ble (0 + R.size) (ds.map PD.aw).length = true := by rw [Nat.ble_eq]; simp [hl]
        rw [this]; simp [← hl, List.take_of_length_le]
      | false =>
        have h1 : R.size = 1 := by rcases hc with hc | hc; · rw [ha] at hc; cases hc
                                   · exact hc
        match ds, hl with
        | [d], _ => rfl
        | [], e => simp at e; omega
        | _ :: _ :: _, e => simp at e; omega
    have := run_loadVar (P := P) hm (o := off) hblk hrel (fun j v hj => by
      rw [List.getElem?_take] at hj
      split at hj
      · rw [List.getElem?_drop, Array.getElem?_toList] at hj; exact hj
      · cases hj) htk
    simpa [addrOf, Instr.loadAt, Instr.sureAddr] using this

def pfield (τ : Tab) (T f : Nat) (o : Option (Nat × Nat)) (K : AV → Option Nat → Out U) : Out U :=
  match structOf τ T f with
  | some (off, ft) => (match τ ft with
    | some R => bif Nat.beq R.size 0 then .bad 504 else .need (o.isSome = true) (K (.rp (shiftA o off)) none)
    | none => .bad 505)
  | none => .bad 506
theorem pfield_run (hτ : τ.met P) {T f off ft : Nat} (hs : structOf τ T f = some (off, ft)) {R : TyRow} (hR : τ ft = some R) (hz : Nat.beq R.size 0 = false) {o : Option (Nat × Nat)} (ho : o.isSome = true) (w : World) :
    (Instr.fieldAt T (.pointer (addrOf o)) f).run P w = .ok (.pointer (addrOf (shiftA o off))) w := by
  have hne : R.size ≠ 0 := fun e => by rw [e] at hz; simp at hz
  obtain ⟨fields, hk, fl, hfl, rfl, rfl⟩ := structOf_sound hτ hs
  have hsz := run_sizeOf (P := P) (hτ _ R hR) w
  obtain ⟨⟨b, i⟩, rfl⟩ := Option.isSome_iff_exists.1 ho
  simp [addrOf, shiftA, Instr.fieldAt, run_underlying hk, hfl, Instr.sureAddr, fieldPlace, hsz, hne, Addr.add_lit]

def pindex (τ : Tab) (T : Nat) (o : Option (Nat × Nat)) (len : Nat) (ix : AV) (K : AV → Option Nat → Out U) : Out U :=
  match sliceOf τ T, ix.num with
  | some (_, s), some (_, i, _) => .need (0 ≤ i ∧ i < (len : Int) ∧ o.isSome = true) (K (.rp (shiftA o (i.toNat * s))) none)
  | _, _ => .bad 507
def pindexW (τ : Tab) (T : Nat) (o : Option (Nat × Nat)) (len cap : Nat) (ix : AV) (K : AV → Option Nat → Out U) : Out U :=
  match sliceOf τ T, ix.num with
  | some (_, s), some (_, i, _) => .need (0 ≤ i ∧ i < (len : Int) ∧ o.isSome = true ∧ len ≤ cap) (K (.rp (shiftA o (i.toNat * s))) none)
  | _, _ => .bad 507
theorem pindex_run (hτ : τ.met P) {T e s : Nat} (hs : sliceOf τ T = some (e, s)) {o : Option (Nat × Nat)} {len cap : Nat} {k : IntKind} {i : Int} (h : 0 ≤ i ∧ i < (len : Int) ∧ o.isSome = true) (w : World) :
    (Instr.indexAt T (.slice (addrOf o) len cap) (.int k i)).run P w = .ok (.pointer (addrOf (shiftA o (i.toNat * s)))) w := by
  obtain ⟨hk, hsz⟩ := sliceOf_sound hτ hs
  obtain ⟨h0, h1, h2⟩ := h
  obtain ⟨⟨b, j⟩, rfl⟩ := Option.isSome_iff_exists.1 h2
  simp [addrOf, shiftA, Instr.indexAt, asIntOf, run_underlying hk, hsz, h0, h1, Addr.add_lit]

def pslice (τ : Tab) (T : Nat) (o : Option (Nat × Nat)) (len cap : Nat) (lo : Option AV) (K : AV → Option Nat → Out U) : Out U :=
  match sliceOf τ T, lo with
  | some _, none => .need (len ≤ cap) (K (.rs o len cap) none)
  | some (_, s), some l => (match l.num with
    | some (_, i, _) => .need (0 ≤ i ∧ i ≤ (len : Int) ∧ len ≤ cap) (K (.rs (if cap = i.toNat then o else shiftA o (i.toNat * s)) (len - i.toNat) (cap - i.toNat)) none)
    | none => .bad 508)
  | _, _ => .bad 509
theorem pslice_run (hτ : τ.met P) {T e s : Nat} (hs : sliceOf τ T = some (e, s)) {o : Option (Nat × Nat)} {len cap : Nat} {k : IntKind} {i : Int} (h : 0 ≤ i ∧ i ≤ (len : Int) ∧ len ≤ cap) (w : World) :
    (Instr.sliceAt T (.slice (addrOf o) len cap) (some (.int k i)) none none).run P w = .ok (.slice (addrOf (if cap = i.toNat then o else shiftA o (i.toNat * s))) (len - i.toNat) (cap - i.toNat)) w := by
  obtain ⟨hk, hsz⟩ := sliceOf_sound hτ hs
  obtain ⟨h0, h1, h2⟩ := h
  have hb : (Instr.sliceBounds true len cap (some (.int k i)) none none).run P w = .ok (i.toNat, len, cap) w := by
    simp [Instr.sliceBounds, Instr.sliceBound, asIntOf, h0, h1]
  simp only [Instr.sliceAt, Sem.run_bind, run_underlying hk, Result.andThen_ok, Instr.slice, hb, hsz, Sem.run_pure]
  by_cases hc : cap = i.toNat
  · simp [hc]
  · simp only [hc, if_false]
    cases o with
    | none => simp [addrOf]
    | some q => simp [addrOf, shiftA, Addr.add_lit]
theorem pslice_run0 (hτ : τ.met P) {T e s : Nat} (hs : sliceOf τ T = some (e, s)) {o : Option (Nat × Nat)} {len cap : Nat} (h : len ≤ cap) (w : World) :
    (Instr.sliceAt T (.slice (addrOf o) len cap) none none none).run P w = .ok (.slice (addrOf o) len cap) w := by
  obtain ⟨hk, hsz⟩ := sliceOf_sound hτ hs
  have hb : (Instr.sliceBounds true len cap none none none).run P w = .ok (0, len, cap) w := by
    simp [Instr.sliceBounds]
  simp only [Instr.sliceAt, Sem.run_bind, run_underlying hk, Result.andThen_ok, Instr.slice, hb, hsz, Sem.run_pure]
  by_cases hc : cap = 0
  · simp [hc]
  · simp only [hc, if_false]
    cases o with
    | none => simp [addrOf]
    | some q => simp [addrOf, Addr.add_lit]

def psliceH (τ : Tab) (T : Nat) (o : Option (Nat × Nat)) (cap : Nat) (hi : AV) (K : AV → Option Nat → Out U) : Out U :=
  match sliceOf τ T, hi.num with
  | some _, some (_, i, _) => .need (0 ≤ i ∧ i ≤ (cap : Int)) (K (.rs o i.toNat cap) none)
  | _, _ => .bad 514
theorem psliceH_run (hτ : τ.met P) {T e s : Nat} (hs : sliceOf τ T = some (e, s)) {o : Option (Nat × Nat)} {len cap : Nat} {k : IntKind} {i : Int} (h : 0 ≤ i ∧ i ≤ (cap : Int)) (w : World) :
    (Instr.sliceAt T (.slice (addrOf o) len cap) none (some (.int k i)) none).run P w = .ok (.slice (addrOf o) i.toNat cap) w := by
  obtain ⟨hk, hsz⟩ := sliceOf_sound hτ hs
  obtain ⟨h0, h1⟩ := h
  have hb : (Instr.sliceBounds true len cap none (some (.int k i)) none).run P w = .ok (0, i.toNat, cap) w := by
    simp [Instr.sliceBounds, Instr.sliceBound, asIntOf, h0, h1]
  simp only [Instr.sliceAt, Sem.run_bind, run_underlying hk, Result.andThen_ok, Instr.slice, hb, hsz, Sem.run_pure]
  by_cases hc : cap = 0
  · simp [hc]
  · simp only [hc, if_false]
    cases o with
    | none => simp [addrOf]
    | some q => simp [addrOf, Addr.add_lit]

def ptrOf (τ : Tab) (T : Nat) : Bool := match τ T with | some R => (match R.kind with | .ptr _ => true | _ => false) | none => false
theorem ptr_both (hτ : τ.met P) {T : Nat} (h : ptrOf τ T = true) (o : Option (Nat × Nat)) (w : World) (p q : Operand) :
    ((do eqGuard .eql T p q (.pointer (addrOf o)) (.pointer none); binOp .eql T (.pointer (addrOf o)) (.pointer none) : Sem Value).run P w = .ok (.bool o.isNone) w ∧
     (do eqGuard .neq T p q (.pointer (addrOf o)) (.pointer none); binOp .neq T (.pointer (addrOf o)) (.pointer none) : Sem Value).run P w = .ok (.bool (!o.isNone)) w) ∧
    ((do eqGuard .eql T p q (.pointer none) (.pointer (addrOf o)); binOp .eql T (.pointer none) (.pointer (addrOf o)) : Sem Value).run P w = .ok (.bool o.isNone) w ∧
     (do eqGuard .neq T p q (.pointer none) (.pointer (addrOf o)); binOp .neq T (.pointer none) (.pointer (addrOf o)) : Sem Value).run P w = .ok (.bool (!o.isNone)) w) := by
  unfold ptrOf at h
  split at h
  · rename_i R hR
    split at h
    · rename_i e hK
      have hk := (hτ T R hR).kind
      rw [hK] at hk; simp only [TK.met] at hk
      constructor
      · refine run_both rfl rfl (by cases o <;> rfl) (by cases o <;> rfl) ?_
        generalize 9999 = n
        cases o <;> simp [Op.equalIn, run_underlying hk, addrOf]
      · refine run_both rfl rfl (by cases o <;> rfl) (by cases o <;> rfl) ?_
        generalize 9999 = n
        cases o <;> simp [Op.equalIn, run_underlying hk, addrOf]
    · cases h
  · cases h

/-! ## strings of bytes -/
def isBytes (τ : Tab) (s d : Nat) : Bool := match τ s, τ d with
  | some R, some D => (match R.kind, D.kind with
    | .slice e, .str => (match τ e with | some E => (match E.kind with | .int k => decide (k = .u8) | _ => false) | none => false)
    | _, _ => false)
  | _, _ => false
theorem isBytes_sound (hτ : τ.met P) {s d : Nat} (h : isBytes τ s d = true) : ∃ e, P.underlying s = some (.slice e) ∧ P.underlying e = some (.int .u8) ∧ P.underlying d = some .string := by
  unfold isBytes at h
  split at h
  · rename_i R D hR hD
    split at h
    · rename_i e hk hkd
      split at h
      · rename_i E hE
        split at h
        · rename_i k hke
          have hk0 : k = .u8 := of_decide_eq_true h
          subst hk0
          have h1 := (hτ s R hR).kind; rw [hk] at h1
          have h2 := (hτ d D hD).kind; rw [hkd] at h2
          have h3 := (hτ e E hE).kind; rw [hke] at h3
          exact ⟨e, h1, h3, h2⟩
        · cases h
      · cases h
    · cases h
  · cases h
def strOf (ns : List Int) : ByteArray := ns.foldl (fun r n => r.push (UInt8.ofNat n.toNat)) ByteArray.empty
def numOf (l : List AV) : Int := match l with | [.int _ n] => n | _ => 0
def pstr (k : U.K) (xs : List (U.El k)) (st w len id : Nat) (K : AV → Option Nat → Out U) : Out U :=
  .need (st + len ≤ xs.length ∧ w = 1 ∧ ∀ x ∈ xs, (U.enc k).enc x = [.int .u8 (numOf ((U.enc k).enc x))])
    (K (.raw (.string (strOf (((xs.drop st).take len).map fun x => numOf ((U.enc k).enc x))))) (some id))
theorem pstr_run {s d e : Nat} (h1 : P.underlying s = some (.slice e)) (h2 : P.underlying e = some (.int .u8)) (h3 : P.underlying d = some .string) {k : U.K} {xs : List (U.El k)} {st len cap id : Nat} {kn : Bool}
    (hn : st + len ≤ xs.length ∧ ∀ x ∈ xs, (U.enc k).enc x = [.int .u8 (numOf ((U.enc k).enc x))]) {r : Nm} {u : Value} (hu : rel r (.sl kn id st 1 len cap) u) {w : World}
    (hx : ∀ i x, xs[i]? = some x → ∃ b o c T fz, r id = some (b, o) ∧ w.heap[b]? = some (.cells c T fz) ∧ relL r ((U.enc k).enc x) ((c.toList.drop (o + i * (U.enc k).w)).take (U.enc k).w)) :
    (convert s d u).run P w = .ok (.string (strOf (((xs.drop st).take len).map fun x => numOf ((U.enc k).enc x)))) w := by
  obtain ⟨a, rfl, hle, hc⟩ := hu
  rw [run_convert_bytes_string w s d e a len cap h1 h2 h3]
  have hlen : (((xs.drop st).take len).map fun x => numOf ((U.enc k).enc x)).length = len := by simp; omega
  cases a with
  | none =>
    have h0 : len = 0 := by
      rcases hc with h | ⟨x, _, h⟩
      · omega
      · cases h
    subst h0
    simp [Conv.bytesToString, strOf]
  | some a =>
    refine run_bytesToString w a len cap _ ?_
    have key := run_loadCells_list (P := P) w a ((((xs.drop st).take len).map fun x => numOf ((U.enc k).enc x)).map (Value.int .u8)) (fun j v hj => by
      rw [List.getElem?_map, Option.map_eq_some_iff] at hj
      obtain ⟨n, hj, rfl⟩ := hj
      rw [List.getElem?_map, Option.map_eq_some_iff] at hj
      obtain ⟨x, hj, rfl⟩ := hj
      rw [List.getElem?_take] at hj
      split at hj
      · rename_i hlt
        rw [List.getElem?_drop] at hj
        obtain ⟨b, o, c, T, fz, g1, g2, g3⟩ := hx _ x hj
        have hw : (U.enc k).w = 1 := by rw [← (U.enc k).len x, hn.2 x (List.mem_of_getElem? hj)]; rfl
        rw [hn.2 x (List.mem_of_getElem? hj), hw] at g3
        rcases hc with h | ⟨y, hy, h⟩
        · omega
        · rw [g1] at hy; cases hy
          cases h
          rw [Addr.add_lit, cell_of_row w b _ c T fz g2]
          simp only [relL] at g3
          obtain ⟨v, us, e1, e2, e3⟩ := g3
          subst e3
          have e2 : v = .int .u8 (numOf ((U.enc k).enc x)) := e2
          subst e2
          have h0 := congrArg (fun l => l[0]?) e1
          simp only [List.getElem?_take, List.getElem?_drop, Nat.add_zero, List.getElem?_cons_zero] at h0
          rw [if_pos (by decide)] at h0
          rw [← Array.getElem?_toList, ← h0]
          congr 1; omega
      · cases hj)
    rw [List.length_map, hlen] at key
    exact key

def evalL (τ : Tab) (κ : Kinds U) (op : Op) (ev : Operand → AV) (h : Heap U) (K : AV → Option Nat → Out U) : Out U :=
  match op with
  | .nilCheck x => (match ev x with | .rp o => .need (o.isSome = true) (K (.rp o) none) | _ => evalL0 τ κ (.nilCheck x) ev h K)
  | .binOp b T x y yt => (match b, ev x, ev y with
    | .eql, .rp o, .nilP => bif ptrOf τ T then K (.bool o.isNone) none else .bad 510
    | .neq, .rp o, .nilP => bif ptrOf τ T then K (.bool (!o.isNone)) none else .bad 511
    | .eql, .raw (.string a), .raw (.string b) => K (.bool (a.toList == b.toList)) none
    | .eql, .nilP, .rp o => bif ptrOf τ T then K (.bool o.isNone) none else .bad 512
    | .neq, .nilP, .rp o => bif ptrOf τ T then K (.bool (!o.isNone)) none else .bad 513
    | _, _, _ => evalL0 τ κ (.binOp b T x y yt) ev h K)
  | .fieldAddr T x f => (match ev x with | .rp o => pfield τ T f o K | _ => evalL0 τ κ (.fieldAddr T x f) ev h K)
  | .indexAddr T x ix => (match ev x with | .rs o len _ => pindex τ T o len (ev ix) K | .rw o len cap => pindexW τ T o len cap (ev ix) K | _ => evalL0 τ κ (.indexAddr T x ix) ev h K)
  | .slice T x lo hi mx => (match ev x, lo, hi, mx with | .rs o len cap, lo, none, none => pslice τ T o len cap (lo.map ev) K | .rs o _ cap, none, some y, none => psliceH τ T o cap (ev y) K | _, _, _, _ => evalL0 τ κ (.slice T x lo hi mx) ev h K)
  | .load T x => (match ev x with | .rp o => pload τ T o h K | _ => evalL0 τ κ (.load T x) ev h K)
  | .convert s d x => bif isBytes τ s d then (match ev x with
      | .nilS => K (.raw (.string ByteArray.empty)) none
      | .sl _ id st w len _ => (match h.get id with
        | some (.ro k xs) => pstr k xs st w len id K
        | some (.arr _ k xs _) => pstr k xs st w len id K
        | _ => .bad 517)
      | _ => .bad 518) else evalL0 τ κ (.convert s d x) ev h K
  | .call c => (match c.callee, c.args.toList, c.argTypes[0]? with
    | .builtin .len, [x], some T => (match ev x, sliceOf τ T with | .rs _ len _, some _ => K (.int .i64 (len : Int)) none | .rw _ len _, some _ => K (.int .i64 (len : Int)) none | _, _ => evalL0 τ κ (.call c) ev h K)
    | _, _, _ => evalL0 τ κ (.call c) ev h K)
  | op => evalL0 τ κ op ev h K

set_option maxHeartbeats 1000000 in
theorem evalL_sound (hτ : τ.met P) {κ : Kinds U} (hκ : κ.met τ) {M : Goal U} {dst : Option Tmp} {op : Op} {type : Nat} {pos : String} {after : Array Edge} {guard : Option (Nat × Bool)} {ev : Operand → AV} {h : Heap U} {K : AV → Option Nat → Out U}
    (H : (evalL τ κ op ev h K).holds M) : LzOut P M ⟨dst, op, type, pos, after, guard⟩ ev h K := by
  cases op
  case nilCheck x =>
    simp only [evalL] at H
    split at H
    · rename_i o hx
      obtain ⟨hs, H⟩ := H
      refine lz_none H fun r a w ho => ?_
      have e := ho x (by simp [Op.operands])
      rw [hx] at e
      refine ⟨a.eval x, ?_, e⟩
      simp only [rel] at e
      obtain ⟨q, rfl⟩ := Option.isSome_iff_exists.1 hs
      simp [execOp, e, addrOf]
    · exact evalL0_sound hτ hκ H
  case binOp b T x y yt =>
    simp only [evalL] at H
    split at H
    · rename_i o hx hy
      rw [holds_bif] at H
      split at H
      · rename_i hp
        refine lz_none H fun r a w ho => ⟨.bool o.isNone, run_value ?_, rfl⟩
        have e1 := ho x (by simp [Op.operands]); have e2 := ho y (by simp [Op.operands])
        rw [hx] at e1; rw [hy] at e2; simp only [rel] at e1 e2
        simp only [e1, e2]
        exact (ptr_both hτ hp o w x y).1.1
      · exact H.elim
    · rename_i o hx hy
      rw [holds_bif] at H
      split at H
      · rename_i hp
        refine lz_none H fun r a w ho => ⟨.bool (!o.isNone), run_value ?_, rfl⟩
        have e1 := ho x (by simp [Op.operands]); have e2 := ho y (by simp [Op.operands])
        rw [hx] at e1; rw [hy] at e2; simp only [rel] at e1 e2
        simp only [e1, e2]
        exact (ptr_both hτ hp o w x y).1.2
      · exact H.elim
    · rename_i a b hx hy
      refine lz_none H fun r ac w ho => ⟨.bool (a.toList == b.toList), run_value ?_, rfl⟩
      have e1 := ho x (by simp [Op.operands]); have e2 := ho y (by simp [Op.operands])
      rw [hx] at e1; rw [hy] at e2; simp only [rel] at e1 e2
      simp only [e1, e2]
      simp [eqGuard, binOp, Op.stringOp]
    · rename_i o hx hy
      rw [holds_bif] at H
      split at H
      · rename_i hp
        refine lz_none H fun r a w ho => ⟨.bool o.isNone, run_value ?_, rfl⟩
        have e1 := ho x (by simp [Op.operands]); have e2 := ho y (by simp [Op.operands])
        rw [hx] at e1; rw [hy] at e2; simp only [rel] at e1 e2
        simp only [e1, e2]
        exact (ptr_both hτ hp o w x y).2.1
      · exact H.elim
    · rename_i o hx hy
      rw [holds_bif] at H
      split at H
      · rename_i hp
        refine lz_none H fun r a w ho => ⟨.bool (!o.isNone), run_value ?_, rfl⟩
        have e1 := ho x (by simp [Op.operands]); have e2 := ho y (by simp [Op.operands])
        rw [hx] at e1; rw [hy] at e2; simp only [rel] at e1 e2
        simp only [e1, e2]
        exact (ptr_both hτ hp o w x y).2.2
      · exact H.elim
    · exact evalL0_sound hτ hκ H
  case fieldAddr T x f =>
    simp only [evalL] at H
    split at H
    · rename_i o hx
      unfold pfield at H
      split at H
      · rename_i off ft hs
        split at H
        · rename_i R hR
          rw [holds_bif] at H
          split at H
          · exact H.elim
          · rename_i hz
            obtain ⟨hs1, H⟩ := H
            refine lz_none H fun r a w ho => ⟨.pointer (addrOf (shiftA o off)), run_value ?_, rfl⟩
            have e := ho x (by simp [Op.operands])
            rw [hx] at e; simp only [rel] at e
            simp only [e]
            exact pfield_run hτ hs hR (by cases e' : Nat.beq R.size 0 with | true => exact absurd e' hz | false => rfl) hs1 w
        · exact H.elim
      · exact H.elim
    · exact evalL0_sound hτ hκ H
  case indexAddr T x ix =>
    simp only [evalL] at H
    split at H
    · rename_i o len cap hx
      unfold pindex at H
      split at H
      · rename_i e s k i l hs hi
        obtain ⟨hn, H⟩ := H
        refine lz_none H fun r a w ho => ⟨_, run_value ?_, rfl⟩
        have e1 := ho x (by simp [Op.operands])
        rw [hx] at e1; simp only [rel] at e1
        have e2 := rel_num hi (ho ix (by simp [Op.operands]))
        simp only [e1, e2]
        exact pindex_run hτ hs hn w
      · exact H.elim
    · rename_i o len cap hx
      unfold pindexW at H
      split at H
      · rename_i e s k i l hs hi
        obtain ⟨⟨n0, n1, n2, n3⟩, H⟩ := H
        refine lz_none H fun r a w ho => ⟨_, run_value ?_, rfl⟩
        have e1 := ho x (by simp [Op.operands])
        rw [hx] at e1; simp only [rel] at e1
        obtain ⟨ad, e1, e3⟩ := e1
        have e3 := e3.resolve_left (by omega)
        subst e3
        have e2 := rel_num hi (ho ix (by simp [Op.operands]))
        simp only [e1, e2]
        exact pindex_run hτ hs ⟨n0, n1, n2⟩ w
      · exact H.elim
    · exact evalL0_sound hτ hκ H
  case slice T x lo hi mx =>
    simp only [evalL] at H
    split at H
    · rename_i lo _ _ _ _ o len cap hx
      unfold pslice at H
      split at H
      · rename_i q hs hlo
        obtain ⟨hn, H⟩ := H
        have hlo' : lo = none := by cases lo with | none => rfl | some _ => cases hlo
        subst hlo'
        refine lz_none H fun r a w ho => ⟨.slice (addrOf o) len cap, run_value ?_, rfl⟩
        have e1 := ho x (by simp [Op.operands])
        rw [hx] at e1; simp only [rel] at e1
        simp only [e1]
        exact pslice_run0 (e := q.1) (s := q.2) hτ hs hn w
      · rename_i e s l hs hlo
        split at H
        · rename_i k i ll hi
          obtain ⟨hn, H⟩ := H
          obtain ⟨y, rfl⟩ : ∃ y, lo = some y := by cases lo with | none => cases hlo | some y => exact ⟨y, rfl⟩
          simp only [Option.map_some, Option.some.injEq] at hlo; subst hlo
          refine lz_none H fun r a w ho => ⟨_, run_value ?_, rfl⟩
          have e1 := ho x (by simp [Op.operands])
          rw [hx] at e1; simp only [rel] at e1
          have e2 := rel_num hi (ho y (by simp [Op.operands]))
          simp only [e1, Option.map_some, e2, Option.map_none]
          exact pslice_run hτ hs hn w
        · exact H.elim
      · exact H.elim
    · rename_i o len cap y hx
      unfold psliceH at H
      split at H
      · rename_i q k i ll hs hi
        obtain ⟨hn, H⟩ := H
        refine lz_none H fun r a w ho => ⟨_, run_value ?_, rfl⟩
        have e1 := ho x (by simp [Op.operands])
        rw [hx] at e1; simp only [rel] at e1
        have e2 := rel_num hi (ho y (by simp [Op.operands]))
        simp only [e1, Option.map_none, Option.map_some, e2]
        exact psliceH_run (e := q.1) (s := q.2) hτ hs hn w
      · exact H.elim
    · exact evalL0_sound hτ hκ H
  case load T x =>
    simp only [evalL] at H
    split at H
    · rename_i o hx
      rcases pload_cases H with ⟨oid, H⟩ | ⟨rid, H⟩
      rotate_left
      · unfold rload at H
        split at H
        · rename_i R ks f hR hks hg
          rw [holds_bif] at H
          split at H
          · rename_i hc
            simp only [Bool.and_eq_true, Bool.or_eq_true] at hc
            obtain ⟨ds, hl, hat, H⟩ := exL_holds H
            refine ⟨_, some rid, H, ?_, fun id' e => by cases e; rw [hg]; simp⟩
            intro β r a w ho hrd
            obtain ⟨H1, hd, _, hG⟩ := hrd rid (.rpool f) (by simp [rdOf, hg])
            have e := ho x (by simp [Op.operands])
            rw [hx] at e; simp only [rel] at e
            obtain ⟨z, hz, hr⟩ := rpool_run (hτ T R hR) hat (by rw [hl]; exact Nat.eq_of_beq_eq_true hc.1) (hc.2.imp (fun h => h) Nat.eq_of_beq_eq_true) hd.1 hG r
            exact ⟨z, run_value (by simp only [e]; exact hz), hr⟩
          · exact H.elim
        · exact H.elim
      unfold pload1 at H
      split at H
      · rename_i R ks id hR hks
        split at H
        · rename_i p hg
          rw [holds_bif] at H
          split at H
          · rename_i hc
            simp only [Bool.and_eq_true, Bool.or_eq_true] at hc
            obtain ⟨ds, hl, hat, H⟩ := exL_holds H
            refine ⟨_, some id, H, ?_, fun id' e => by cases e; rw [hg]; simp⟩
            intro β r a w ho hrd
            obtain ⟨H1, hd, hw, hG⟩ := hrd id (.pool p) (by simp [rdOf, hg])
            have hd : H1 = p.hp := hd
            subst hd
            have e := ho x (by simp [Op.operands])
            rw [hx] at e; simp only [rel] at e
            obtain ⟨z, hz, hr⟩ := pool_run (hτ T R hR) hat (by rw [hl]; exact Nat.eq_of_beq_eq_true hc.1) (hc.2.imp (fun h => h) Nat.eq_of_beq_eq_true) hw r
            exact ⟨z, run_value (by simp only [e]; exact hz), hr⟩
          · exact H.elim
        · exact H.elim
      · exact H.elim
    · exact evalL0_sound hτ hκ H
  case convert s d x =>
    simp only [evalL] at H
    rw [holds_bif] at H
    split at H
    · rename_i hb
      obtain ⟨e, h1, h2, h3⟩ := isBytes_sound hτ hb
      split at H
      · rename_i hx
        refine lz_none H fun r a w ho => ⟨.string ByteArray.empty, run_value ?_, rfl⟩
        have e1 := ho x (by simp [Op.operands])
        rw [hx] at e1; simp only [rel] at e1
        simp only [e1]
        rw [run_convert_bytes_string w s d e none 0 0 h1 h2 h3]
        simp [Conv.bytesToString]
      · rename_i kn id st wd len cap hx
        split at H
        · rename_i k xs hg
          obtain ⟨⟨n1, rfl, n2⟩, H⟩ := H
          refine ⟨_, some id, H, ?_, fun id' e => by cases e; rw [hg]; simp⟩
          intro β r a w ho hrd
          obtain ⟨H1, hd, hw, hG⟩ := hrd id (.ro k xs) (by simp [rdOf, hg])
          have e1 := ho x (by simp [Op.operands])
          rw [hx] at e1
          exact ⟨_, run_value (pstr_run h1 h2 h3 ⟨n1, n2⟩ e1 (fun i y hy => by
            obtain ⟨b, o, c, T, fz, g1, g2, g3⟩ := hd.1 i y hy
            exact ⟨b, o, c, T, fz, g1, hG b _ g2, g3⟩)), rfl⟩
        · rename_i T k xs sp hg
          obtain ⟨⟨n1, rfl, n2⟩, H⟩ := H
          refine ⟨_, some id, H, ?_, fun id' e => by cases e; rw [hg]; simp⟩
          intro β r a w ho hrd
          obtain ⟨H1, hd, hw, hG⟩ := hrd id (.arr T k xs sp) (by simp [rdOf, hg])
          have e1 := ho x (by simp [Op.operands])
          rw [hx] at e1
          refine ⟨_, run_value (pstr_run h1 h2 h3 ⟨n1, n2⟩ e1 (fun i y hy => ?_)), rfl⟩
          rcases hd with ⟨h0, _⟩ | ⟨b, c, g1, g2, _, _, rfl⟩
          · have := (List.getElem?_eq_some_iff.1 hy).1; omega
          · exact ⟨b, 0, c, T, (0, 0), g1, Hp.inW_one.1 hw, g2 i y hy⟩
        · exact H.elim
      · exact H.elim
    · exact evalL0_sound hτ hκ H
  case call c =>
    simp only [evalL] at H
    split at H
    · rename_i x T hc hx hT
      split at H
      · rename_i o len cap q hv hs
        obtain ⟨callee, args, argTypes⟩ := c
        obtain ⟨args⟩ := args
        simp only at hc hx hT; subst hc; subst hx
        refine lz_none H fun r a w ho => ?_
        have e := ho x (by simp [Op.operands, Call.operands])
        rw [hv] at e; simp only [rel] at e
        have hk := (sliceOf_sound (e := q.1) (s := q.2) hτ hs).1
        refine ⟨.int .i64 (len : Int), ?_, rfl⟩
        simp [execOp, resolve, invoke, builtin, e, Builtin.len_, hT, run_underlying hk, goInt]
      · rename_i o len cap q hv hs
        obtain ⟨callee, args, argTypes⟩ := c
        obtain ⟨args⟩ := args
        simp only at hc hx hT; subst hc; subst hx
        refine lz_none H fun r a w ho => ?_
        have e := ho x (by simp [Op.operands, Call.operands])
        rw [hv] at e; simp only [rel] at e
        obtain ⟨ad, e, _⟩ := e
        have hk := (sliceOf_sound (e := q.1) (s := q.2) hτ hs).1
        refine ⟨.int .i64 (len : Int), ?_, rfl⟩
        simp [execOp, resolve, invoke, builtin, e, Builtin.len_, hT, run_underlying hk, goInt]
      · exact evalL0_sound hτ hκ H
    · exact evalL0_sound hτ hκ H
  all_goals exact evalL0_sound hτ hκ (by simpa only [evalL] using H)

end
end Sx
end Go.Proofs.YtnegocgblmdihaaGreatDoor

/-
  The operations that make memory or write it: an evaluator, and its soundness.
-/
namespace Go.Proofs.YtnegocgblmdihaaGreatDoor
namespace Sx
open Go

section
variable {U : Uni} {P : Program} {τ : Tab}

theorem Heap.get_set_ne {id j : Nat} {B : Blk U} (h : j ≠ id) : ∀ hp : Heap U, (hp.set id B).get j = hp.get j
  | [] => rfl
  | (i, C) :: hp => by
    unfold Heap.set
    cases hi : Nat.beq i id with
    | true =>
      have : i = id := Nat.eq_of_beq_eq_true hi
      subst this
      have hij : Nat.beq i j = false := by cases e : Nat.beq i j with | true => exact absurd (Nat.eq_of_beq_eq_true e).symm h | false => rfl
      simp [Heap.get, hij]
    | false => simp only [cond_false, Heap.get]; rw [Heap.get_set_ne h hp]
theorem Heap.get_del_ne {id j : Nat} (h : j ≠ id) : ∀ hp : Heap U, (hp.del id).get j = hp.get j
  | [] => rfl
  | (i, C) :: hp => by
    unfold Heap.del
    cases hi : Nat.beq i id with
    | true =>
      have : i = id := Nat.eq_of_beq_eq_true hi
      subst this
      have hij : Nat.beq i j = false := by cases e : Nat.beq i j with | true => exact absurd (Nat.eq_of_beq_eq_true e).symm h | false => rfl
      simp [Heap.get, hij]
    | false => simp only [cond_false, Heap.get]; rw [Heap.get_del_ne h hp]
theorem Heap.get_set_self {id : Nat} {C : Blk U} : ∀ {hp : Heap U}, hp.get id = some C → ∀ B : Blk U, (hp.set id B).get id = some B
  | [], h, _ => by cases h
  | (i, D) :: hp, h, B => by
    unfold Heap.get at h
    unfold Heap.set
    cases hi : Nat.beq i id with
    | true => simp [Heap.get, hi]
    | false => rw [hi] at h; simp only [cond_false] at h ⊢; simp only [Heap.get, hi, cond_false]; exact Heap.get_set_self h B
theorem Heap.get_cons_ne {id j : Nat} {B : Blk U} (h : j ≠ id) (hp : Heap U) : Heap.get ((id, B) :: hp) j = hp.get j := by
  have hij : Nat.beq id j = false := by cases e : Nat.beq id j with | true => exact absurd (Nat.eq_of_beq_eq_true e).symm h | false => rfl
  simp [Heap.get, hij]

/-! ## one cell -/
def AV.one : AV → Bool
  | .agg _ => false
  | .tup _ => false
  | .und => false
  | .raw _ => false
  | .may .. => false
  | _ => true
theorem rel_one {r : Nm} {x : AV} {v : Value} (h : x.one = true) (e : rel r x v) : v.oneCell' = true := by
  cases x <;> simp only [AV.one] at h <;> (try (simp at h; done)) <;> simp only [rel] at e
  all_goals first
    | (subst e; rfl)
    | (obtain ⟨a, _, rfl⟩ := e; rfl)
    | (obtain ⟨a, rfl, _⟩ := e; rfl)
    | (obtain ⟨a, b, _, _, rfl⟩ := e; rfl)
theorem relL_one {r : Nm} : ∀ {xs : List AV} {vs : List Value}, xs.all AV.one = true → relL r xs vs → ∀ v ∈ vs, v.oneCell' = true
  | [], _, _, e, v, hv => by simp only [relL] at e; subst e; simp at hv
  | x :: xs, _, h, e, v, hv => by
    simp only [relL] at e; obtain ⟨u, us, rfl, k, l⟩ := e
    simp only [List.all_cons, Bool.and_eq_true] at h
    rcases List.mem_cons.1 hv with rfl | hv
    · exact rel_one h.1 k
    · exact relL_one h.2 l v hv

theorem setRangeV_eq : ∀ (ns cs : List Value) (off : Nat), off + ns.length ≤ cs.length → setRangeV cs off ns = cs.take off ++ ns ++ cs.drop (off + ns.length)
  | [], cs, off, _ => by simp [setRangeV]
  | n :: ns, cs, off, h => by
    simp only [List.length_cons] at h
    simp only [setRangeV]
    rw [setRangeV_eq ns _ (off + 1) (by simp; omega)]
    have h1 : (cs.set off n).take (off + 1) = cs.take off ++ [n] := by
      rw [List.take_succ_eq_append_getElem (by simp; omega)]
      simp [List.take_set_of_le (Nat.le_refl _)]
    have h2 : (cs.set off n).drop (off + 1 + ns.length) = cs.drop (off + (n :: ns).length) := by
      rw [List.drop_set_of_lt (by omega)]
      simp only [List.length_cons]; congr 1; omega
    rw [h1, h2]; simp

/-! ## writing -/
def writeAt (R : TyRow) (B : Blk U) (p x : AV) (K : Blk U → Out U) : Out U :=
  bif x.plain && (cellsAV x).all AV.one && Nat.beq (cellsAV x).length R.size then
    (match p, B with
    | .ptr _ off, .cells T cs => bif Nat.ble (off + R.size) cs.length then K (.cells T (setRange cs off (cellsAV x))) else .bad 100
    | .ptrR _ i w c, .cells T cs => bif Nat.ble (i * w + c + R.size) cs.length then K (.cells T (setRange cs (i * w + c) (cellsAV x))) else .bad 101
    | .ptrR _ i w c, .arr T k xs sp => bif Nat.beq w (U.enc k).w && Nat.ble (c + R.size) w then .needd (i < xs.length)
        (match (U.enc k).dec (setRange ((U.enc k).enc (xs.getD i (U.enc k).dflt)) c (cellsAV x)) with | some y => K (.arr T k (xs.set i y) sp) | none => .bad 102) else .bad 103
    | _, _ => .bad 104)
  else .bad 105

theorem run_storeVar {t : Nat} {R : TyRow} (hm : R.met P t) {w : World} {b o : Nat} {c : Array Value} {E : Nat} (hb : w.heap[b]? = some (.cells c E (0, 0))) {v : Value}
    (hsz : v.cells.size = R.size) (hone : ∀ u ∈ v.cells.toList, u.oneCell' = true) (hfit : o + v.cells.size ≤ c.size) :
    (storeVar t ⟨b, o, none⟩ v).run P w = .ok () (w.setRow b (setRangeV c.toList o v.cells.toList).toArray) := by
  unfold storeVar
  simp only [Sem.run_bind, run_sizeOf hm, Result.andThen_ok, hsz, ne_eq, not_true_eq_false, if_false]
  have := run_storeCells_at P b o E v.cells.toList 0 c w hb (by simpa using hfit) hone
  simp only [Nat.add_zero] at this
  rw [this, setRangeV_eq _ _ _ (by simpa using hfit)]

theorem writeAt_sound {M : Goal U} {t : Nat} {R : TyRow} (hm : R.met P t) {B : Blk U} {p x : AV} {K : Blk U → Out U} (h : (writeAt R B p x K).holds M) {id : Nat} (hid : p.id? = some id) :
    ∃ B', (K B').holds M ∧ ∀ (β : Base) (r : Nm) (w : World) (hp : Heap U) (u v : Value), rel r p u → rel r x v → hp.get id = some B → Sat β r hp w →
      ∃ w', (Instr.storeAt t u v).run P w = .ok () w' ∧ Sat β r (hp.set id B') w' := by
  unfold writeAt at h
  rw [holds_bif] at h
  split at h
  · rename_i hc
    simp only [Bool.and_eq_true] at hc
    obtain ⟨⟨hpl, hone⟩, hlen⟩ := hc
    have hlen := Nat.eq_of_beq_eq_true hlen
    -- a block of cells
    have cellsCase : ∀ (T : Nat) (cs : List AV) (off : Nat), off + R.size ≤ cs.length → ∀ (β : Base) (r : Nm) (w : World) (hp : Heap U) (v : Value) (y : Nat × Nat), r id = some y → rel r x v → hp.get id = some (.cells T cs) → Sat β r hp w →
        ∃ w', (Instr.storeAt t (.pointer (some ⟨y.1, y.2 + off, none⟩)) v).run P w = .ok () w' ∧ Sat β r (hp.set id (.cells T (setRange cs off (cellsAV x)))) w' := by
      intro T cs off hoff β r w hp v y hy hv hg hs
      have hcv := rel_cells hpl hv
      have hl1 := relL_length hcv
      simp only [Array.length_toList] at hl1
      obtain ⟨H1, hd, hw, _⟩ := hs.at hg
      obtain ⟨b, vs, hb, hrl, rfl⟩ := hd
      rw [hy] at hb; cases hb
      have hblk := Hp.inW_one.1 hw
      have hl2 := relL_length hrl
      have hrun := run_storeVar (P := P) hm (o := 0 + off) hblk (v := v) (by omega) (relL_one hone hcv) (by simp; omega)
      refine ⟨_, by simp only [Instr.storeAt, Instr.sureAddr, Sem.run_bind, Sem.run_pure, Result.andThen_ok]; exact hrun, ?_⟩
      refine hs.write hg (b := b) (.cells (setRangeV vs (0 + off) v.cells.toList).toArray T (0, 0)) ?_ ?_ (setRow_heap w b _ _ T (0, 0) hblk) (fun x hx => setRow_other w b x _ hx) rfl rfl rfl
      · rintro H ⟨b', vs', hb', _, rfl⟩; rw [hy] at hb'; cases hb'; exact ⟨_, rfl⟩
      · exact ⟨b, _, hy, by simpa using relL_setRange hcv hrl off, rfl⟩
    split at h
    · rename_i i off T cs
      rw [holds_bif] at h
      split at h
      · rename_i hle
        simp only [AV.id?, Option.some.injEq] at hid; subst hid
        refine ⟨_, h, fun β r w hp u v hu hv hg hs => ?_⟩
        obtain ⟨y, hy, rfl⟩ := hu
        exact cellsCase T cs off (Nat.le_of_ble_eq_true hle) β r w hp v y hy hv hg hs
      · exact h.elim
    · rename_i j i wd c T cs
      rw [holds_bif] at h
      split at h
      · rename_i hle
        simp only [AV.id?, Option.some.injEq] at hid; subst hid
        refine ⟨_, h, fun β r w hp u v hu hv hg hs => ?_⟩
        obtain ⟨y, hy, rfl⟩ := hu
        exact cellsCase T cs (i * wd + c) (Nat.le_of_ble_eq_true hle) β r w hp v y hy hv hg hs
      · exact h.elim
    · rename_i j i wd c T k xs sp
      rw [holds_bif] at h
      split at h
      · rename_i hw
        simp only [Bool.and_eq_true] at hw
        obtain ⟨hw1, hw2⟩ := hw
        have hw1 := Nat.eq_of_beq_eq_true hw1
        have hw2 := Nat.le_of_ble_eq_true hw2
        subst hw1
        obtain ⟨hi, h⟩ := h
        split at h
        · rename_i y hy
          simp only [AV.id?, Option.some.injEq] at hid; subst hid
          refine ⟨_, h, fun β r w hp u v hu hv hg hs => ?_⟩
          obtain ⟨q, hq, rfl⟩ := hu
          have hcv := rel_cells hpl hv
          have hl1 := relL_length hcv
          simp only [Array.length_toList] at hl1
          obtain ⟨H1, hd, hwin, _⟩ := hs.at hg
          rcases hd with ⟨hz, _⟩ | ⟨b, ca, hb, hrow, hsz, hmx, rfl⟩
          · omega
          rw [hq] at hb; cases hb
          have hblk := Hp.inW_one.1 hwin
          have hfit : i * (U.enc k).w + (U.enc k).w ≤ ca.size := by
            rw [hsz, ← Nat.succ_mul]; exact Nat.mul_le_mul_right _ (by omega)
          have hrun := run_storeVar (P := P) hm (o := 0 + (i * (U.enc k).w + c)) hblk (v := v) (by omega) (relL_one hone hcv) (by omega)
          refine ⟨_, by simp only [Instr.storeAt, Instr.sureAddr, Sem.run_bind, Sem.run_pure, Result.andThen_ok]; exact hrun, ?_⟩
          refine hs.write hg (b := b) (.cells (setRangeV ca.toList (0 + (i * (U.enc k).w + c)) v.cells.toList).toArray T (0, 0)) ?_ ?_ (setRow_heap w b _ _ T (0, 0) hblk) (fun x hx => setRow_other w b x _ hx) rfl rfl rfl
          · rintro H (⟨hz, _⟩ | ⟨b', ca', hb', _, _, _, rfl⟩)
            · omega
            · rw [hq] at hb'; cases hb'; exact ⟨_, rfl⟩
          · refine .inr ⟨b, _, hq, ?_, ?_, by simpa using hmx, rfl⟩
            · intro m z hm'
              have hlenV : v.cells.toList.length = R.size := by simp; omega
              have hset := setRangeV_eq v.cells.toList ca.toList (0 + (i * (U.enc k).w + c)) (by simp; omega)
              simp only [Nat.zero_add] at hset ⊢
              rw [List.getElem?_set] at hm'
              split at hm'
              · rename_i him; subst him
                simp only [hi, if_true, Option.some.injEq] at hm'; subst hm'
                have hx0 : xs[i]? = some (xs.getD i (U.enc k).dflt) := by simp [List.getD, List.getElem?_eq_getElem hi]
                have hold := hrow i _ hx0
                simp only [Nat.zero_add] at hold
                have hnew := relL_setRange hcv hold c
                have hdec := (U.enc k).back _ _ hy r _ hnew
                have he : setRangeV ((ca.toList.drop (i * (U.enc k).w)).take (U.enc k).w) c v.cells.toList = ((setRangeV ca.toList (i * (U.enc k).w + c) v.cells.toList).drop (i * (U.enc k).w)).take (U.enc k).w := by
                  have hcw : (List.take (U.enc k).w (List.drop (i * (U.enc k).w) ca.toList)).length = (U.enc k).w := by simp; omega
                  rw [setRangeV_eq _ _ c (by rw [hcw]; omega), hset]
                  apply List.ext_getElem?
                  intro n
                  simp only [List.getElem?_append, List.getElem?_take, List.getElem?_drop, List.length_take, List.length_drop, List.length_append, hlenV, Array.length_toList]
                  by_cases hn : n < (U.enc k).w
                  · simp only [hn, if_true]
                    by_cases h1 : n < c
                    · have a1 : n < min c (min (U.enc k).w (ca.size - i * (U.enc k).w)) := by omega
                      have a2 : i * (U.enc k).w + n < min (i * (U.enc k).w + c) ca.size := by omega
                      have a3 : i * (U.enc k).w + n < i * (U.enc k).w + c := by omega
                      simp [a1, a2, a3, h1, hn, show n < min c (min (U.enc k).w (ca.size - i * (U.enc k).w)) + R.size by omega, show i * (U.enc k).w + n < min (i * (U.enc k).w + c) ca.size + R.size by omega]
                    · by_cases h2 : n < c + R.size
                      · have a1 : ¬ n < min c (min (U.enc k).w (ca.size - i * (U.enc k).w)) := by omega
                        have a2 : ¬ i * (U.enc k).w + n < min (i * (U.enc k).w + c) ca.size := by omega
                        have e1 : n - min c (min (U.enc k).w (ca.size - i * (U.enc k).w)) = i * (U.enc k).w + n - min (i * (U.enc k).w + c) ca.size := by omega
                        simp [a1, a2, e1, show n < min c (min (U.enc k).w (ca.size - i * (U.enc k).w)) + R.size by omega, show i * (U.enc k).w + n < min (i * (U.enc k).w + c) ca.size + R.size by omega]
                      · have e1 : i * (U.enc k).w + (c + R.size + (n - (min c (min (U.enc k).w (ca.size - i * (U.enc k).w)) + R.size))) = i * (U.enc k).w + c + R.size + (i * (U.enc k).w + n - (min (i * (U.enc k).w + c) ca.size + R.size)) := by omega
                        have e2 : c + R.size + (n - (min c (min (U.enc k).w (ca.size - i * (U.enc k).w)) + R.size)) < (U.enc k).w := by omega
                        simp [e1, e2, show ¬ n < min c (min (U.enc k).w (ca.size - i * (U.enc k).w)) + R.size by omega, show ¬ i * (U.enc k).w + n < min (i * (U.enc k).w + c) ca.size + R.size by omega]
                  · simp only [hn, if_false]
                    have : ¬ n < min c (min (U.enc k).w (ca.size - i * (U.enc k).w)) + R.size := by omega
                    simp only [this, if_false]
                    have : ¬ (c + R.size + (n - (min c (min (U.enc k).w (ca.size - i * (U.enc k).w)) + R.size)) < (U.enc k).w) := by omega
                    simp [this]
                rw [he] at hdec
                exact hdec
              · rename_i him
                have hold := hrow m z hm'
                simp only [Nat.zero_add] at hold
                have hmlt : m < xs.length := (List.getElem?_eq_some_iff.1 hm').1
                have he : (ca.toList.drop (m * (U.enc k).w)).take (U.enc k).w = ((setRangeV ca.toList (i * (U.enc k).w + c) v.cells.toList).drop (m * (U.enc k).w)).take (U.enc k).w := by
                  rw [hset]
                  apply List.ext_getElem?
                  intro n
                  simp only [List.getElem?_append, List.getElem?_take, List.getElem?_drop, List.length_take, List.length_append, hlenV, Array.length_toList]
                  by_cases hn : n < (U.enc k).w
                  · simp only [hn, if_true]
                    have hmm : m * (U.enc k).w + (U.enc k).w ≤ i * (U.enc k).w ∨ i * (U.enc k).w + (U.enc k).w ≤ m * (U.enc k).w := by
                      rcases Nat.lt_or_ge m i with h1 | h1
                      · left; rw [← Nat.succ_mul]; exact Nat.mul_le_mul_right _ h1
                      · right; rw [← Nat.succ_mul]; exact Nat.mul_le_mul_right _ (by omega)
                    rcases hmm with h1 | h1
                    · have a2 : m * (U.enc k).w + n < min (i * (U.enc k).w + c) ca.size := by omega
                      have a3 : m * (U.enc k).w + n < i * (U.enc k).w + c := by omega
                      simp [a2, a3, show m * (U.enc k).w + n < min (i * (U.enc k).w + c) ca.size + R.size by omega]
                    · have a2 : ¬ m * (U.enc k).w + n < min (i * (U.enc k).w + c) ca.size + R.size := by omega
                      have e1 : i * (U.enc k).w + c + R.size + (m * (U.enc k).w + n - (min (i * (U.enc k).w + c) ca.size + R.size)) = m * (U.enc k).w + n := by omega
                      simp only [a2, if_false, e1]
                  · simp only [hn, if_false]
                rw [← he]; exact hold
            · have := setRangeV_eq v.cells.toList ca.toList (0 + (i * (U.enc k).w + c)) (by simp; omega)
              rw [this]; simp; omega
        · exact h.elim
      · exact h.elim
    · exact h.elim
  · exact h.elim

end
end Sx
end Go.Proofs.YtnegocgblmdihaaGreatDoor

/-
  The builtin append over blocks of ours: what it leaves.
-/
namespace Go.Proofs.YtnegocgblmdihaaGreatDoor
namespace Sx
open Go

section
variable {U : Uni} {P : Program} {τ : Tab}

/-- What an append leaves in memory. -/
structure Appended (w w' : World) (e size : Nat) (v' : Value) (N : Nat) (xs : List Value) (g : Option Nat) : Prop where
  os : w'.os = w.os
  output : w'.output = w.output
  tape : w'.tape = w.tape
  val : ∃ a cap, v' = .slice a N cap ∧ N ≤ cap ∧ cap ≤ maxLen ∧ ((cap = 0 ∧ w'.heap = w.heap) ∨
    ∃ b c, a = some ⟨b, 0, none⟩ ∧ w'.heap[b]? = some (.cells c e (0, 0)) ∧ c.size = cap * size ∧ c.toList.take (N * size) = xs ∧
      ((g = some b ∧ ∀ k, k ≠ b → w'.heap[k]? = w.heap[k]?) ∨ ∃ d, w' = (World.drew w).alloc (.cells d e) ∧ b = w.heap.size ∧ c = d))

theorem run_append_any (w : World) (t ty e : Nat) (i : TypeInfo) (z : Value) (ht : P.underlying t = some (.slice e)) (hi : P.info? e = some i) (hz : i.zero = some z) (hzs : z.cells.size = i.size)
    (x : Value) (m : Nat) (news : List Value) (hlen : ∀ w, (Builtin.lenOf x).run P w = .ok m w) (hl : news.length = m * i.size)
    (hf : (Builtin.firstCells i.size m x).run P w = .ok news.toArray w) (hfd : (Builtin.firstCells i.size m x).run P w.drew = .ok news.toArray w.drew) (h1 : ∀ u ∈ news, u.oneCell' = true)
    (base : Option Addr) (n cap : Nat) (xs : List Value) (hx : xs.length = n * i.size) (hnc : n ≤ cap) (hcm : cap ≤ maxLen) (g : Option Nat)
    (hb : cap = 0 ∨ ∃ b c, base = some ⟨b, 0, none⟩ ∧ g = some b ∧ w.heap[b]? = some (.cells c e (0, 0)) ∧ c.size = cap * i.size ∧ c.toList.take (n * i.size) = xs)
    (h63 : n + m ≤ maxLen) (hbytes : (n + m) * i.bytes ≤ 140737488355328) :
    ∃ v' w', (Builtin.append_ #[t, t] ty #[.slice base n cap, x]).run P w = .ok v' w' ∧ Appended w w' e i.size v' (n + m) (xs ++ news) g := by
  have hsmall : n + m ≤ 9223372036854775807 := by simp only [maxLen] at h63; omega
  have hlenN : (xs ++ news).length = (n + m) * i.size := by rw [List.length_append, hx, hl, Nat.add_mul]
  have h63' : ¬ (9223372036854775807 < ((n : Int) + (m : Int))) := by omega
  have grown : ∀ d : Array Value, d = xs.toArray ++ news.toArray ++ Builtin.zeroCells z.cells (grownCap w (n + m) cap e - (n + m)) →
      Appended w (w.drew.alloc (.cells d e)) e i.size (.slice (some ⟨w.heap.size, 0, none⟩) (n + m) (grownCap w (n + m) cap e)) (n + m) (xs ++ news) g := by
    intro d hd
    have hge := grownCap_ge w (n + m) cap e
    refine ⟨rfl, rfl, rfl, _, _, rfl, hge, grownCap_le_maxLen w (n + m) cap e h63, .inr ⟨_, d, rfl, heap_alloc_new w.drew _, ?_, ?_, .inr ⟨d, rfl, rfl, rfl⟩⟩⟩
    · subst hd
      simp only [Array.size_append, List.size_toArray, size_zeroCells, hzs, hx, hl, ← Nat.add_mul]
      congr 1; omega
    · subst hd
      simp only [Array.toList_append, List.append_assoc]
      rw [← List.append_assoc, ← hlenN]
      exact List.take_left
  by_cases hroom : n + m ≤ cap
  · rcases hb with hz0 | ⟨b, c, rfl, rfl, hg, hcs, htake⟩
    · -- nothing at all
      have hn0 : n = 0 := by omega
      have hm0 : m = 0 := by omega
      subst hn0; subst hm0; subst hz0
      have hx0 : xs = [] := List.eq_nil_of_length_eq_zero (by simpa using hx)
      have hn1 : news = [] := List.eq_nil_of_length_eq_zero (by simpa using hl)
      subst hx0; subst hn1
      refine ⟨.slice base 0 0, w, ?_, ⟨rfl, rfl, rfl, base, 0, rfl, Nat.le_refl _, Nat.zero_le _, .inl ⟨rfl, rfl⟩⟩⟩
      cases base <;> simp [Builtin.append_, run_underlying ht, sizeOf, typeInfo, hi, hlen, hf, storeCells]
    · have hfit : n * i.size + news.length ≤ c.size := by rw [hl, hcs, ← Nat.add_mul]; exact Nat.mul_le_mul_right _ hroom
      have hst := run_storeCells_at P b (n * i.size) e news 0 c w hg (by simpa using hfit) h1
      simp only [Nat.add_zero] at hst
      refine ⟨.slice (some ⟨b, 0, none⟩) (n + m) cap, w.setRow b (c.toList.take (n * i.size) ++ news ++ c.toList.drop (n * i.size + news.length)).toArray, ?_, ⟨rfl, rfl, rfl, _, cap, rfl, hroom, hcm, .inr ⟨b, _, rfl, setRow_heap w b c _ e _ hg, ?_, ?_, .inl ⟨rfl, fun k hk => setRow_other w b k _ hk⟩⟩⟩⟩
      · simp [Builtin.append_, run_underlying ht, sizeOf, typeInfo, hi, hlen, hroom, hf, Addr.add_lit, hst]
      · simp only [List.size_toArray, List.length_append, List.length_take, List.length_drop, Array.length_toList]; omega
      · rw [htake, ← hlenN]; exact List.take_left
  · have h48 : ¬ (281474976710656 < Builtin.nextslicecap (n + m) cap * i.bytes) := by
      have := growslice_fits (need := n + m) (old := cap) (bytes := i.bytes) (by omega) hbytes; omega
    have hold : (Builtin.firstCells i.size n (.slice base n cap)).run P w.drew = .ok xs.toArray w.drew := by
      rcases hb with hz0 | ⟨b, c, rfl, rfl, hg, hcs, htake⟩
      · have hn0 : n = 0 := by omega
        subst hn0
        have hx0 : xs = [] := List.eq_nil_of_length_eq_zero (by simpa using hx)
        subst hx0
        cases base <;> simp [Builtin.firstCells, loadCells, loadCellsFrom]
      · refine run_firstCells_some (P := P) w.drew i.size n ⟨b, 0, none⟩ n cap xs hx (fun j u hj => ?_)
        rw [Addr.add_lit, Nat.zero_add, World.cell?_drew, cell_of_row w b j c e (0, 0) hg]
        rw [← htake, List.getElem?_take] at hj
        split at hj
        · simpa using hj
        · cases hj
    refine ⟨_, _, ?_, grown _ rfl⟩
    simp [Builtin.append_, run_underlying ht, sizeOf, typeInfo, zeroValue, hi, hz, hlen, hroom, h63', h48, Question.forced, hfd, hold, newRow, grownCap]
    congr 2
    apply Array.ext'
    simp [List.append_assoc]

/-! ## the source -/
def castK {k k' : U.K} (h : k = k') (xs : List (U.El k)) : List (U.El k') := h ▸ xs

def chunkDec {α : Type} (E : Enc α) : Nat → List AV → Option (List α)
  | 0, [] => some []
  | 0, _ :: _ => none
  | n + 1, cs => match E.dec (cs.take E.w), chunkDec E n (cs.drop E.w) with
    | some a, some r => bif Nat.ble E.w cs.length then some (a :: r) else none
    | _, _ => none

theorem chunkDec_sound {α : Type} {E : Enc α} {r : Nm} : ∀ {n : Nat} {cs : List AV} {ys : List α} {vs : List Value}, chunkDec E n cs = some ys → relL r cs vs →
    ys.length = n ∧ vs.length = n * E.w ∧ ∀ i y, ys[i]? = some y → relL r (E.enc y) ((vs.drop (i * E.w)).take E.w)
  | 0, [], ys, vs, h, hr => by
    simp only [chunkDec, Option.some.injEq] at h; subst h
    simp only [relL] at hr; subst hr
    exact ⟨rfl, by simp, fun i y hi => by simp at hi⟩
  | 0, _ :: _, _, _, h, _ => by simp [chunkDec] at h
  | n + 1, cs, ys, vs, h, hr => by
    simp only [chunkDec] at h
    split at h
    · rename_i a rr ha hrr
      cases hb : Nat.ble E.w cs.length with
      | false => rw [hb] at h; simp at h
      | true =>
        rw [hb] at h; simp only [cond_true, Option.some.injEq] at h; subst h
        have hle := Nat.le_of_ble_eq_true hb
        have hl := relL_length hr
        obtain ⟨h1, h2, h3⟩ := chunkDec_sound hrr (relL_drop hr E.w)
        refine ⟨by simp [h1], ?_, fun i y hi => ?_⟩
        · simp at h2; rw [Nat.succ_mul]; omega
        · cases i with
          | zero => simp at hi; subst hi; simpa using E.back _ _ ha r _ (relL_take hr E.w)
          | succ i =>
            simp at hi
            have := h3 i y hi
            rw [List.drop_drop] at this
            rwa [Nat.succ_mul, Nat.add_comm]
    · simp at h

def evalSrc (k : U.K) (x : AV) (h : Heap U) (K : List (U.El k) → Option Nat → Out U) : Out U :=
  match x with
  | .nilS => K [] none
  | .sl _ id st w len _ => (match h.get id with
    | some (.cells _ cs) => bif Nat.beq st 0 && Nat.beq w (U.enc k).w then (match chunkDec (U.enc k) len cs with | some ys => K ys (some id) | none => .bad 120) else .bad 121
    | some (.arr _ k2 xs _) => (match U.dk k2 k with
      | .isTrue hk => bif Nat.beq w (U.enc k).w then .needd (st + len ≤ xs.length) (K ((castK hk xs).drop st |>.take len) (some id)) else .bad 122
      | .isFalse _ => .bad 123)
    | some (.ro k2 xs) => (match U.dk k2 k with
      | .isTrue hk => bif Nat.beq w (U.enc k).w then .needd (st + len ≤ xs.length) (K ((castK hk xs).drop st |>.take len) (some id)) else .bad 124
      | .isFalse _ => .bad 125)
    | _ => .bad 126)
  | _ => .bad 127

/-- The rows of a source, as the machine reads them. -/
def SrcOk (P : Program) {α : Type} (E : Enc α) (r : Nm) (ys : List α) (u : Value) (w : World) : Prop :=
  ∃ news : List Value, (∀ w, (Builtin.lenOf u).run P w = .ok ys.length w) ∧ news.length = ys.length * E.w ∧
    (∀ w', w'.heap = w.heap → (Builtin.firstCells E.w ys.length u).run P w' = .ok news.toArray w') ∧ (∀ v ∈ news, v.oneCell' = true) ∧
    ∀ i y, ys[i]? = some y → relL r (E.enc y) ((news.drop (i * E.w)).take E.w)

theorem rows_one {α : Type} {E : Enc α} {r : Nm} {ys : List α} {news : List Value} (hl : news.length = ys.length * E.w)
    (h : ∀ i y, ys[i]? = some y → relL r (E.enc y) ((news.drop (i * E.w)).take E.w)) : ∀ v ∈ news, v.oneCell' = true := by
  intro v hv
  obtain ⟨j, hj, rfl⟩ := List.mem_iff_getElem.1 hv
  have hw := E.pos
  have hi : j / E.w < ys.length := by rw [Nat.div_lt_iff_lt_mul hw]; omega
  have hrow := h (j / E.w) ys[j / E.w] (List.getElem?_eq_getElem hi)
  refine E.one _ r _ hrow _ ?_
  have hm := Nat.mod_lt j hw
  have hd := Nat.div_add_mod j E.w
  rw [Nat.mul_comm] at hd
  refine List.mem_iff_getElem?.2 ⟨j % E.w, ?_⟩
  rw [List.getElem?_take, if_pos hm, List.getElem?_drop, hd, List.getElem?_eq_getElem hj]

theorem src_arr {α : Type} {E : Enc α} {r : Nm} {xs : List α} {st len cap : Nat} {w : World} {b o : Nat} {c : Array Value} {T : Nat} {fz : Nat × Nat} (hb : w.heap[b]? = some (.cells c T fz))
    (hrow : ∀ i x, xs[i]? = some x → relL r (E.enc x) ((c.toList.drop (o + i * E.w)).take E.w)) (hle : st + len ≤ xs.length) :
    SrcOk P E r ((xs.drop st).take len) (.slice (some ⟨b, o + st * E.w, none⟩) len cap) w := by
  have hlen : ((xs.drop st).take len).length = len := by simp; omega
  have hfull : len = 0 ∨ o + (st + len) * E.w ≤ c.size := by
    by_cases h0 : len = 0
    · exact .inl h0
    · right
      have h1 : st + len - 1 < xs.length := by omega
      have h2 := hrow (st + len - 1) xs[st + len - 1] (List.getElem?_eq_getElem h1)
      have h3 := relL_length h2
      rw [E.len, List.length_take, List.length_drop, Array.length_toList] at h3
      have hp := E.pos
      have h4 : (st + len) * E.w = (st + len - 1) * E.w + E.w := by rw [← Nat.succ_mul]; congr 1; omega
      omega
  have hnl : ((c.toList.drop (o + st * E.w)).take (len * E.w)).length = len * E.w := by
    rw [Nat.add_mul] at hfull
    rcases hfull with h0 | h0
    · subst h0; simp
    · simp; omega
  refine ⟨(c.toList.drop (o + st * E.w)).take (len * E.w), fun w => by simp [Builtin.lenOf, hlen], by rw [hlen]; exact hnl, ?_, ?_, ?_⟩
  · intro w' hw'
    rw [hlen]
    refine run_firstCells_some (P := P) w' E.w len ⟨b, o + st * E.w, none⟩ len cap _ hnl (fun j v hj => ?_)
    rw [Addr.add_lit, cell_of_row w' b _ c T fz (by rw [hw']; exact hb)]
    rw [List.getElem?_take] at hj
    split at hj
    · rw [List.getElem?_drop] at hj; simpa using hj
    · cases hj
  · refine rows_one (r := r) (ys := (xs.drop st).take len) (by rw [hlen]; exact hnl) ?_
    intro i y hi
    rw [List.getElem?_take] at hi
    split at hi
    · rename_i hil
      rw [List.getElem?_drop] at hi
      have := hrow (st + i) y hi
      rw [List.drop_take, List.take_take, List.drop_drop]
      have e1 : o + st * E.w + i * E.w = o + (st + i) * E.w := by rw [Nat.add_mul]; omega
      have e2 : min E.w (len * E.w - i * E.w) = E.w := by
        have : (i + 1) * E.w ≤ len * E.w := Nat.mul_le_mul_right _ hil
        rw [Nat.succ_mul] at this; omega
      rw [e1, e2]; exact this
    · cases hi
  · intro i y hi
    rw [List.getElem?_take] at hi
    split at hi
    · rename_i hil
      rw [List.getElem?_drop] at hi
      have := hrow (st + i) y hi
      rw [List.drop_take, List.take_take, List.drop_drop]
      have e1 : o + st * E.w + i * E.w = o + (st + i) * E.w := by rw [Nat.add_mul]; omega
      have e2 : min E.w (len * E.w - i * E.w) = E.w := by
        have : (i + 1) * E.w ≤ len * E.w := Nat.mul_le_mul_right _ hil
        rw [Nat.succ_mul] at this; omega
      rw [e1, e2]; exact this
    · cases hi

theorem src_nil {α : Type} {E : Enc α} {r : Nm} {w : World} (a : Option Addr) (cap : Nat) : SrcOk P E r ([] : List α) (.slice a 0 cap) w := by
  refine ⟨[], fun w => rfl, by simp, fun w' _ => ?_, fun v hv => by simp at hv, fun i y hi => by simp at hi⟩
  cases a <;> simp [Builtin.firstCells, loadCells, loadCellsFrom]

theorem evalSrc_sound {M : Goal U} {k : U.K} {x : AV} {h : Heap U} {K : List (U.El k) → Option Nat → Out U} (H : (evalSrc k x h K).holds M) :
    ∃ ys rd, (K ys rd).holds M ∧ (∀ id, rd = some id → h.get id ≠ none) ∧ ∀ (β : Base) (r : Nm) (w : World) (u : Value), rel r x u → Sat β r h w → SrcOk P (U.enc k) r ys u w := by
  unfold evalSrc at H
  split at H
  · refine ⟨[], none, H, fun _ e => by simp at e, fun β r w u hu _ => ?_⟩
    simp only [rel] at hu; subst hu; exact src_nil none 0
  · rename_i kn id st wd len cap
    split at H
    · rename_i T cs hB
      rw [holds_bif] at H
      split at H
      · rename_i hc
        simp only [Bool.and_eq_true] at hc
        have hst := Nat.eq_of_beq_eq_true hc.1
        have hwd := Nat.eq_of_beq_eq_true hc.2
        subst hst; subst hwd
        split at H
        · rename_i ys hys
          refine ⟨ys, some id, H, fun _ e => by cases e; rw [hB]; simp, fun β r w u hu hs => ?_⟩
          obtain ⟨a, rfl, hlc, ha⟩ := hu
          obtain ⟨H1, hd, hw, _⟩ := hs.at hB
          obtain ⟨b, vs, hb, hrl, rfl⟩ := hd
          obtain ⟨h1, h2, h3⟩ := chunkDec_sound hys hrl
          rcases ha with hz | ⟨y, hy, rfl⟩
          · have hl0 : len = 0 := by omega
            subst hl0
            have : ys = [] := List.eq_nil_of_length_eq_zero h1
            subst this; exact src_nil a cap
          · rw [hy] at hb; cases hb
            refine ⟨vs, fun w => by simp [Builtin.lenOf, h1], by rw [h1]; exact h2, fun w' hw' => ?_, rows_one (by rw [h1]; exact h2) h3, h3⟩
            rw [h1]
            refine run_firstCells_some (P := P) w' _ len _ len cap vs h2 (fun j v hj => ?_)
            rw [Addr.add_lit, cell_of_row w' b _ vs.toArray T (0, 0) (by rw [hw']; exact Hp.inW_one.1 hw)]
            simpa using hj
        · exact H.elim
      · exact H.elim
    · rename_i T k2 xs sp hB
      split at H
      · rename_i hk _
        rw [holds_bif] at H
        split at H
        · rename_i hwd
          have hwd := Nat.eq_of_beq_eq_true hwd
          obtain ⟨hle, H⟩ := H
          subst hk; subst hwd
          refine ⟨_, some id, H, fun _ e => by cases e; rw [hB]; simp, fun β r w u hu hs => ?_⟩
          obtain ⟨a, rfl, hlc, ha⟩ := hu
          obtain ⟨H1, hd, hw, _⟩ := hs.at hB
          by_cases hl0 : len = 0
          · subst hl0; simpa [castK] using src_nil (P := P) (E := U.enc k2) (r := r) (w := w) a cap
          · rcases hd with ⟨hz, _⟩ | ⟨b, c, hb, hrow, _, _, rfl⟩
            · omega
            rcases ha with hz | ⟨y, hy, rfl⟩
            · omega
            rw [hy] at hb; cases hb
            exact src_arr (Hp.inW_one.1 hw) hrow hle
        · exact H.elim
      · exact H.elim
    · rename_i k2 xs hB
      split at H
      · rename_i hk _
        rw [holds_bif] at H
        split at H
        · rename_i hwd
          have hwd := Nat.eq_of_beq_eq_true hwd
          obtain ⟨hle, H⟩ := H
          subst hk; subst hwd
          refine ⟨_, some id, H, fun _ e => by cases e; rw [hB]; simp, fun β r w u hu hs => ?_⟩
          obtain ⟨a, rfl, hlc, ha⟩ := hu
          obtain ⟨H1, hd, hw, hG⟩ := hs.at hB
          by_cases hl0 : len = 0
          · subst hl0; simpa [castK] using src_nil (P := P) (E := U.enc k2) (r := r) (w := w) a cap
          · rcases ha with hz | ⟨y, hy, rfl⟩
            · omega
            obtain ⟨hall, rfl⟩ := hd
            have h0 : 0 < xs.length := by omega
            obtain ⟨b, o, c, T, fz, hb, hg, _⟩ := hall 0 xs[0] (List.getElem?_eq_getElem h0)
            rw [hy] at hb; cases hb
            refine src_arr (hG b _ hg) (fun i x hi => ?_) hle
            obtain ⟨b', o', c', T', fz', hb', hg', hr'⟩ := hall i x hi
            rw [hy] at hb'; cases hb'
            rw [hg] at hg'; cases hg'
            exact hr'
        · exact H.elim
      · exact H.elim
    · exact H.elim
  · exact H.elim

end
end Sx
end Go.Proofs.YtnegocgblmdihaaGreatDoor

/-
  The evaluator of operations that make memory or write it, whole, and its soundness.
-/
namespace Go.Proofs.YtnegocgblmdihaaGreatDoor
namespace Sx
open Go

section
variable {U : Uni} {P : Program} {τ : Tab}

/-! ## maps written -/
def mput {α : Type} : List (Int × α) → Int → α → List (Int × α)
  | [], n, x => [(n, x)]
  | (k, y) :: m, n, x => if n = k then (k, x) :: m else (k, y) :: mput m n x
def mdel {α : Type} : List (Int × α) → Int → List (Int × α)
  | [], _ => []
  | (k, y) :: m, n => if n = k then m else (k, y) :: mdel m n

theorem relM_put {α : Type} {E : Enc α} {kk : IntKind} {r : Nm} {n : Int} {y : α} {v : Value} (hv : relV E.agg r (E.enc y) v) : ∀ (m : List (Int × α)) (es : List MapEntry) (i : Nat), relM E kk r m es →
    (mget m n = none → ∀ clock, relM E kk r (mput m n y) (es ++ [{ key := .int kk n, val := v, born := clock }])) ∧
    (∀ x, mget m n = some x → ∃ j, ∃ e : MapEntry, Instr.findNow (.int kk) (.int kk n) es i = some (some (i + j, e.val)) ∧ es[j]? = some e ∧ e.key = .int kk n ∧
      relM E kk r (mput m n y) (es.modify j fun e => { e with key := .int kk n, val := v }) ∧ relM E kk r (mdel m n) (es.eraseIdx j))
  | [], es, i, h => by
    simp only [relM] at h; subst h
    exact ⟨fun _ c => ⟨_, [], rfl, rfl, hv, rfl⟩, fun x hx => by simp [mget] at hx⟩
  | (k, z) :: m, es, i, h => by
    simp only [relM] at h
    obtain ⟨e, fs, rfl, hk, hz, hr⟩ := h
    obtain ⟨ih1, ih2⟩ := relM_put (n := n) hv m fs (i + 1) hr
    by_cases hnk : n = k
    · subst hnk
      refine ⟨fun hx => by simp [mget] at hx, fun x _ => ⟨0, e, ?_, rfl, hk, ?_, ?_⟩⟩
      · simp [Instr.findNow, hk, Instr.sameNow]
      · simp only [mput, if_true, List.modify_zero_cons]; exact ⟨_, fs, rfl, rfl, hv, hr⟩
      · simp only [mdel, if_true]; exact hr
    · have hne : (n == k) = false := by simpa using hnk
      refine ⟨fun hx c => ?_, fun x hx => ?_⟩
      · simp only [mget, if_neg hnk] at hx
        simp only [mput, if_neg hnk, List.cons_append]
        exact ⟨e, _, rfl, hk, hz, ih1 hx c⟩
      · simp only [mget, if_neg hnk] at hx
        obtain ⟨j, e', h1, h2, h3, h4, h5⟩ := ih2 x hx
        refine ⟨j + 1, e', ?_, by simpa using h2, h3, ?_, ?_⟩
        · simp only [Instr.findNow, hk, Instr.sameNow, if_true, hne, h1]
          rw [show i + 1 + j = i + (j + 1) by omega]
        · simp only [mput, if_neg hnk, List.modify_succ_cons]
          exact ⟨e, _, rfl, hk, hz, h4⟩
        · simp only [mdel, if_neg hnk, List.eraseIdx_cons_succ]
          exact ⟨e, _, rfl, hk, hz, h5⟩
theorem relM_none {α : Type} {E : Enc α} {kk : IntKind} {r : Nm} {n : Int} : ∀ (m : List (Int × α)) (es : List MapEntry), relM E kk r m es → mget m n = none → ∀ x ∈ es, x.key ≠ .int kk n
  | [], es, h, _, x, hx => by simp only [relM] at h; subst h; cases hx
  | (k, z) :: m, es, h, hg, x, hx => by
    simp only [relM] at h
    obtain ⟨e, fs, rfl, hk, hz, hr⟩ := h
    by_cases hnk : n = k
    · simp [mget, hnk] at hg
    · simp only [mget, if_neg hnk] at hg
      rcases List.mem_cons.1 hx with rfl | hx
      · rw [hk]; intro e; cases e; exact hnk rfl
      · exact relM_none m fs hr hg x hx
theorem mdel_none {α : Type} {n : Int} : ∀ {m : List (Int × α)}, mget m n = none → mdel m n = m
  | [], _ => rfl
  | (k, y) :: m, h => by
    by_cases hnk : n = k
    · simp [mget, hnk] at h
    · simp only [mget, if_neg hnk] at h; simp only [mdel, if_neg hnk, mdel_none h]

/-- An element out of a value. -/
def decV {α : Type} (E : Enc α) (x : AV) : Option α :=
  bif E.agg then (match x with | .agg cs => E.dec cs | _ => none) else (bif x.one then E.dec [x] else none)
theorem decV_sound {α : Type} {E : Enc α} {x : AV} {y : α} (h : decV E x = some y) {r : Nm} {v : Value} (hv : rel r x v) : relV E.agg r (E.enc y) v := by
  unfold decV at h
  cases ha : E.agg with
  | true =>
    rw [ha] at h; simp only [cond_true] at h
    split at h
    · obtain ⟨vs, hvs, rfl⟩ := hv; exact ⟨vs, E.back _ _ h r _ hvs, rfl⟩
    · simp at h
  | false =>
    rw [ha] at h; simp only [cond_false] at h
    cases ho : x.one with
    | false => rw [ho] at h; simp at h
    | true => rw [ho] at h; simp only [cond_true] at h; exact E.back _ _ h r _ (relL_cons.2 ⟨hv, relL_nil⟩)

def evalPut (τ : Tab) (κ : Kinds U) (T : Nat) (m ky x : AV) (h : Heap U) (K : AV → Heap U → List Nat → Out U) : Out U :=
  match mapOf τ κ T, m, ky.num with
    | some (kk, _), .mp id, some (kk'', n, _) => (match h.get id with
      | some (.mp kk' k' es) => bif decide (kk = kk') && decide (kk = kk'') then (match decV (U.enc k') x with | some y => K .und (h.set id (.mp kk' k' (mput es n y))) [id] | none => .bad 141) else .bad 142
      | _ => .bad 144)
    | _, _, _ => .bad 145

def rdNe (rd : Option Nat) (id : Nat) : Bool := match rd with | some j => !(Nat.beq j id) | none => true

/-! ## the evaluator -/
def evalE1 (τ : Tab) (κ : Kinds U) (op : Op) (ev : Operand → AV) (h : Heap U) (nw : Nat) (X : List Nat) (K : AV → Heap U → List Nat → Out U) : Out U :=
  match op with
  | .alloc T => (match τ T with | some R => K (.ptr nw 0) ((nw, .cells T R.zero) :: h) X | none => .bad 130)
  | .box T x => bif (ev x).plain then K (.ptr nw 0) ((nw, .cells T (cellsAV (ev x))) :: h) X else .bad 131
  | .buildSlice T n ps => (match sliceOf τ T with
    | some (e, s) => (match τ e with
      | some R => bif Nat.ble (n * s) 16777216 && (ps.toList.all fun q => (ev q.2).plain) && Nat.beq R.zero.length s then
        (match fillAV (fun i => some (i * s, s)) ((List.replicate n R.zero).flatten) (ps.toList.map fun q => (q.1, ev q.2)) with
        | some cs => K (.sl true nw 0 s n n) ((nw, .cells e cs) :: h) X
        | none => .bad 132) else .bad 133
      | none => .bad 134)
    | none => .bad 135)
  | .makeSlice T l c => (match sliceOf τ T with
    | some (e, s) => (match κ e, τ e, (ev l).num, (ev c).num with
      | some k, some R, some (_, a, la), some (_, b, lb) => .needd (0 ≤ a ∧ a ≤ b ∧ (R.bytes : Int) * b ≤ 281474976710656)
          (K (.sl (la && lb) nw 0 s a.toNat b.toNat) ((nw, .arr e k (List.replicate a.toNat (U.enc k).dflt) (b.toNat - a.toNat)) :: h) X)
      | _, _, _, _ => .bad 136)
    | none => .bad 137)
  | .makeMap T r => (match r, mapOf τ κ T with | none, some (kk, k) => K (.mp nw) ((nw, .mp kk k []) :: h) X | _, _ => .bad 138)
  | .store T p x => (match τ T, (ev p).id? with
    | some R, some id => (match h.get id with | some B => writeAt R B (ev p) (ev x) fun B' => K .und (h.set id B') [id] | none => .bad 139)
    | _, _ => .bad 140)
  | .mapUpdate T m ky x => evalPut τ κ T (ev m) (ev ky) (ev x) h K
  | .insert T m ky x => evalPut τ κ T (ev m) (ev ky) (ev x) h K
  | .call { callee := .builtin b, args, argTypes } => (match b, args.toList, argTypes.toList with
    | .delete, [m, ky], [T, _] => (match mapOf τ κ T, ev m, (ev ky).num with
      | some (kk, _), .mp id, some (kk'', n, _) => (match h.get id with
        | some (.mp kk' k' es) => bif decide (kk = kk') && decide (kk = kk'') then K (.tup []) (h.set id (.mp kk' k' (mdel es n))) [id] else .bad 146
        | _ => .bad 147)
      | _, _, _ => .bad 148)
    | .append, [s, x], [T, T'] => bif Nat.beq T T' then (match sliceOf τ T with
      | some (e, sz) => (match κ e, τ e with
        | some k, some R => evalSrc k (ev x) h fun ys rd => (match ev s with
          | .nilS => .needd (ys.length * R.bytes ≤ 140737488355328) (.all Nat fun sp => K (.sl false nw 0 sz ys.length (ys.length + sp)) ((nw, .arr e k ys sp) :: h) X)
          | .sl kn id st w len cap => bif kn && Nat.beq len 0 && Nat.beq cap 0 then .needd (ys.length * R.bytes ≤ 140737488355328) (.all Nat fun sp => K (.sl false nw 0 sz ys.length (ys.length + sp)) ((nw, .arr e k ys sp) :: h) X)
            else (match h.get id with
            | some (.arr T2 k2 xs sp0) => (match U.dk k2 k with
              | .isTrue hk => bif Nat.beq w sz && Nat.beq T2 e && rdNe rd id then
                .same cap (xs.length + sp0) (.needd (st = 0 ∧ len = xs.length ∧ (xs.length + ys.length) * R.bytes ≤ 140737488355328)
                  (.all Nat fun sp => K (.sl false nw 0 sz (xs.length + ys.length) (xs.length + ys.length + sp)) ((nw, .arr e k (castK hk xs ++ ys) sp) :: h.del id) (id :: X))) else .bad 150
              | .isFalse _ => .bad 151)
            | _ => .bad 152)
          | _ => .bad 153)
        | _, _ => .bad 154)
      | none => .bad 155) else .bad 156
    | _, _, _ => .bad 157)
  | _ => .bad 158

/-- A table that asks for speed: no block of the new name is looked for; the name counts as touched. -/
def quickT (τ : Tab) : Bool := [0, 1, 2, 3, 4, 5, 6, 7].any fun i => match τ i with | some R => R.quick | none => false
def evalE0 (τ : Tab) (κ : Kinds U) (op : Op) (ev : Operand → AV) (h : Heap U) (nw : Nat) (K : AV → Heap U → List Nat → Out U) : Out U :=
  bif quickT τ then evalE1 τ κ op ev h nw [nw] K else (match h.get nw with
  | some _ => .bad 110
  | none => evalE1 τ κ op ev h nw [] K)

/-- What such an operation does to a world. -/
def Eg (P : Program) (o : Oper) (ev : Operand → AV) (h : Heap U) (nw : Nat) (R : AV → Heap U → List Nat → Prop) : Prop :=
  ∀ (β : Base) (r : Nm) (a : Act) (w : World), (∀ x ∈ o.op.operands.toList, rel r (ev x) (a.eval x)) → Sat β r h w → r nw = none →
    ∃ v h' t z w' r', R v h' t ∧ ((execOp a.eval o).run P w = .ok (.value z) w' ∨ ((execOp a.eval o).run P w = .ok .skip w' ∧ z = undef)) ∧
      r.le r' ∧ (∀ i, i ≠ nw → r i = none → r' i = none) ∧ rel r' v z ∧ Sat β r' h' w' ∧ (∀ id B, h.get id = some B → id ∉ t → h'.get id = some B)


theorem Sat.rename {β : Base} {r : Nm} {hp : Heap U} {w w' : World} (k : Sat β r hp w) {id nw : Nat} (hnw : r nw = none) {B B' : Blk U} (hg : hp.get id = some B)
    {b : Nat} (o' : Obj) (hone : ∀ H1, B.den β.G r id H1 → ∃ o, H1 = Hp.one b o)
    (hB : B'.den β.G (r.put nw (b, 0)) nw (Hp.one b o')) (hw : w'.heap[b]? = some o') (hs : ∀ x, x ≠ b → w'.heap[x]? = w.heap[x]?)
    (h1 : w'.os = w.os) (h2 : w'.output = w.output) (h3 : w'.tape = w.tape) : Sat β (r.put nw (b, 0)) ((nw, B') :: hp.del id) w' := by
  obtain ⟨a, H, p, c, d⟩ := k
  obtain ⟨H1, H2, q1, q2, q3, q4, _⟩ := Heap.focus p hg
  obtain ⟨o, rfl⟩ := hone H1 q1
  subst q3
  have c' := Hp.join_apart.1 c
  have ap : (Hp.one b o').apart H2 := Hp.one_apart.2 (Hp.one_apart.1 q2)
  have apG : (Hp.one b o').apart β.G := Hp.one_apart.2 (Hp.one_apart.1 c'.1)
  have d' := (Hp.inW_join q2).1 d
  have keep : ∀ {A : Hp}, A.inW w → A b = none → A.inW w' := fun {A} hA hb x o e => by
    rw [hs x (fun hx => by rw [hx, hb] at e; cases e)]; exact hA x o e
  refine ⟨⟨h1.trans a.os, h2.trans a.output, h3.trans a.tape, keep a.G (Hp.one_apart.1 c'.1)⟩, (Hp.one b o').join H2, ⟨_, H2, hB, Heap.den_mono (Nm.le_put hnw) q4, ap, rfl⟩, ?_, ?_⟩
  · exact Hp.join_apart.2 ⟨apG, c'.2⟩
  · exact (Hp.inW_join ap).2 ⟨Hp.inW_one.2 hw, keep d'.2 (Hp.one_apart.1 q2)⟩

/-- An empty row needs no block. -/
theorem Sat.empty {β : Base} {r : Nm} {hp : Heap U} {w : World} (k : Sat β r hp w) (id T : Nat) (kd : U.K) : Sat β r ((id, .arr T kd [] 0) :: hp) w := by
  obtain ⟨a, H, p, c, d⟩ := k
  exact ⟨a, H, ⟨Hp.nil, H, .inl ⟨rfl, rfl⟩, p, Hp.nil_apart H, rfl⟩, c, d⟩

theorem Sat.sameHeap {β : Base} {r : Nm} {hp : Heap U} {w w' : World} (k : Sat β r hp w) (h : w'.heap = w.heap) (h1 : w'.os = w.os) (h2 : w'.output = w.output) (h3 : w'.tape = w.tape) : Sat β r hp w' := by
  obtain ⟨a, H, p, c, d⟩ := k
  exact ⟨⟨h1.trans a.os, h2.trans a.output, h3.trans a.tape, fun x o e => by rw [h]; exact a.G x o e⟩, H, p, c, fun x o e => by rw [h]; exact d x o e⟩

theorem Nm.put_other {r : Nm} {i j : Nat} {x : Nat × Nat} (h : j ≠ i) (k : r j = none) : r.put i x j = none := by
  unfold Nm.put; rw [if_neg h]; exact k

/-- What is new. -/
theorem new_ne {h : Heap U} {nw id : Nat} {X : List Nat} {B : Blk U} (hn : h.get nw = none ∨ nw ∈ X) (hg : h.get id = some B) (hne : id ∉ X) : id ≠ nw := by
  rintro rfl
  rcases hn with hn | hn
  · rw [hn] at hg; cases hg
  · exact hne hn
theorem eg_new {M : Goal U} {o : Oper} {ev : Operand → AV} {h : Heap U} {nw : Nat} {X : List Nat} {K : AV → Heap U → List Nat → Out U} (hn : h.get nw = none ∨ nw ∈ X) {v : AV} {B : Blk U} (hK : (K v ((nw, B) :: h) X).holds M)
    (hrun : ∀ (r : Nm) (a : Act) (w : World), (∀ x ∈ o.op.operands.toList, rel r (ev x) (a.eval x)) → ∃ ob z, (execOp a.eval o).run P w = .ok (.value z) (w.alloc ob) ∧ ∀ r' : Nm, r.le r' → r' nw = some (w.heap.size, 0) → rel r' v z ∧ ∀ G, B.den G r' nw (Hp.one w.heap.size ob)) :
    Eg P o ev h nw (fun v h' t => (K v h' t).holds M) := by
  intro β r a w ho hs hnw
  obtain ⟨ob, z, h1, h2⟩ := hrun r a w ho
  obtain ⟨h3, h4⟩ := h2 (r.put nw (w.heap.size, 0)) (Nm.le_put hnw) (Nm.put_self _ _ _)
  exact ⟨v, _, X, z, w.alloc ob, r.put nw (w.heap.size, 0), hK, .inl h1, Nm.le_put hnw, fun i hi hri => Nm.put_other hi hri, h3, hs.new hnw (h4 β.G),
    fun id B' hg hne => by rw [Heap.get_cons_ne (new_ne hn hg hne)]; exact hg⟩

theorem flatten_replicate_rel {r : Nm} {xs : List AV} {vs : List Value} (h : relL r xs vs) : ∀ n, relL r (List.replicate n xs).flatten (List.replicate n vs).flatten
  | 0 => relL_nil
  | n + 1 => by simp only [List.replicate_succ, List.flatten_cons]; exact relL_append h (flatten_replicate_rel h n)

theorem madeCells_flatten (z : Array Value) (hz : 0 < z.size) : ∀ n, (madeCells z (n * z.size)).toList = (List.replicate n z.toList).flatten := by
  intro n
  apply List.ext_getElem?
  intro j
  have hlen : ((List.replicate n z.toList).flatten).length = n * z.size := by simp
  by_cases hj : j < n * z.size
  · have e1 : (madeCells z (n * z.size)).toList[j]? = some (z[j % z.size]'(Nat.mod_lt j hz)) := by
      simp [madeCells, hj, getElem!_pos z (j % z.size) (Nat.mod_lt j hz)]
    rw [e1]
    clear e1 hlen
    induction n generalizing j with
    | zero => simp at hj
    | succ n ih =>
      simp only [List.replicate_succ, List.flatten_cons, List.getElem?_append, Array.length_toList]
      by_cases h : j < z.size
      · simp [h, Nat.mod_eq_of_lt h]
      · rw [if_neg h, ← ih (j - z.size) (by rw [Nat.succ_mul] at hj; omega)]
        congr 1
        have : j % z.size = (j - z.size) % z.size := by rw [Nat.mod_eq_sub_mod (by omega)]
        simp [this]
  · rw [List.getElem?_eq_none (by simp [size_madeCells]; omega), List.getElem?_eq_none (by rw [hlen]; omega)]

end
end Sx
end Go.Proofs.YtnegocgblmdihaaGreatDoor

/-
  Operations that make memory or write it: soundness of their evaluator.
-/
namespace Go.Proofs.YtnegocgblmdihaaGreatDoor
namespace Sx
open Go

section
variable {U : Uni} {P : Program} {τ : Tab}

theorem sliceOf_under {T e s : Nat} (hτ : τ.met P) (h : sliceOf τ T = some (e, s)) : ∃ R, τ e = some R ∧ R.size = s ∧ P.underlying T = some (.slice e) := by
  have hk := (sliceOf_sound hτ h).1
  unfold sliceOf at h
  split at h
  · split at h
    · split at h
      · rename_i R' hR' e' hk' E hE
        simp only [Option.some.injEq, Prod.mk.injEq] at h; obtain ⟨rfl, rfl⟩ := h
        exact ⟨E, hE, rfl, hk⟩
      · simp at h
    · simp at h
  · simp at h

/-- An append that ends in a row of ours. -/
theorem append_end {β : Base} {r : Nm} {w w' : World} {e : Nat} {k : U.K} {ys : List (U.El k)} {v' : Value} {xsv : List Value} {g : Option Nat} {nw : Nat} (hnw : r nw = none)
    (h : Appended w w' e (U.enc k).w v' ys.length xsv g) (hrow : ∀ i y, ys[i]? = some y → relL r ((U.enc k).enc y) ((xsv.drop (i * (U.enc k).w)).take (U.enc k).w)) :
    ∃ sp r', r.le r' ∧ (∀ i, i ≠ nw → r i = none → r' i = none) ∧ rel r' (.sl false nw 0 (U.enc k).w ys.length (ys.length + sp)) v' ∧
      ((ys = [] ∧ sp = 0 ∧ r' = r ∧ w'.heap = w.heap ∧ w'.os = w.os ∧ w'.output = w.output ∧ w'.tape = w.tape) ∨
       ∃ b o', r' = r.put nw (b, 0) ∧ (Blk.arr e k ys sp : Blk U).den β.G r' nw (Hp.one b o') ∧
        ((g = some b ∧ w'.heap[b]? = some o' ∧ (∀ x, x ≠ b → w'.heap[x]? = w.heap[x]?) ∧ w'.os = w.os ∧ w'.output = w.output ∧ w'.tape = w.tape) ∨ (b = w.heap.size ∧ w' = w.drew.alloc o'))) := by
  obtain ⟨h1, h2, h3, a, cap, rfl, hN, hc, hh⟩ := h
  rcases hh with ⟨hz, hheap⟩ | ⟨b, c, rfl, hb, hcs, htake, hwhere⟩
  · have hy0 : ys = [] := List.eq_nil_of_length_eq_zero (by omega)
    subst hy0
    refine ⟨0, r, Nm.le.refl r, fun _ _ h => h, ⟨a, by subst hz; rfl, Nat.le_refl _, .inl rfl⟩, .inl ⟨rfl, rfl, rfl, hheap, h1, h2, h3⟩⟩
  · obtain ⟨sp, rfl⟩ : ∃ sp, cap = ys.length + sp := ⟨cap - ys.length, by omega⟩
    have hrow' : rowAt (U.enc k) (r.put nw (b, 0)) ys c 0 := by
      intro i y hy
      have hlt : i < ys.length := (List.getElem?_eq_some_iff.1 hy).1
      have := relL_mono (Nm.le_put (x := (b, 0)) hnw) _ _ (hrow i y hy)
      rw [← htake] at this
      rw [List.drop_take, List.take_take] at this
      have hm : (i + 1) * (U.enc k).w ≤ ys.length * (U.enc k).w := Nat.mul_le_mul_right _ hlt
      rw [Nat.succ_mul] at hm
      rw [show min (U.enc k).w (ys.length * (U.enc k).w - i * (U.enc k).w) = (U.enc k).w by omega] at this
      simpa using this
    refine ⟨sp, r.put nw (b, 0), Nm.le_put hnw, fun i hi hri => Nm.put_other hi hri, ⟨_, rfl, hN, .inr ⟨_, Nm.put_self _ _ _, by simp⟩⟩, .inr ⟨b, .cells c e (0, 0), rfl, .inr ⟨b, c, Nm.put_self _ _ _, hrow', hcs, hc, rfl⟩, ?_⟩⟩
    rcases hwhere with ⟨hg, hs⟩ | ⟨d, hw', rfl, rfl⟩
    · exact .inl ⟨hg, hb, hs, h1, h2, h3⟩
    · exact .inr ⟨rfl, hw'⟩

theorem run_value2 {s : Sem Value} {z : Value} {w w' : World} (h : s.run P w = .ok z w') : (do pure (Next.value (← s)) : Sem Next).run P w = .ok (.value z) w' := by
  simp [h]

set_option maxHeartbeats 4000000 in
theorem evalE1_sound (hτ : τ.met P) {κ : Kinds U} (hκ : κ.met τ) {M : Goal U} {dst : Option Tmp} {op : Op} {type : Nat} {pos : String} {after : Array Edge} {guard : Option (Nat × Bool)} {ev : Operand → AV} {h : Heap U} {nw : Nat} {K : AV → Heap U → List Nat → Out U}
    {X : List Nat} (hn : h.get nw = none ∨ nw ∈ X) (H : (evalE1 τ κ op ev h nw X K).holds M) : Eg P ⟨dst, op, type, pos, after, guard⟩ ev h nw (fun v h' t => (K v h' t).holds M) := by
  unfold evalE1 at H
  have put : ∀ (T : Nat) (m ky x : Operand) (op : Op), op.operands.toList = [m, ky, x] → (∀ (a : Act) (o : Oper), o.op = op → execOp a.eval o = (do Instr.mapUpdate T (a.eval m) (a.eval ky) (a.eval x); pure .skip)) →
      (evalPut τ κ T (ev m) (ev ky) (ev x) h K).holds M → Eg P ⟨dst, op, type, pos, after, guard⟩ ev h nw (fun v h' t => (K v h' t).holds M) := by
    intro T m ky x op hops hex H
    unfold evalPut at H
    split at H
    · rename_i kk kd id kk'' n l hmap hm hky
      split at H
      · rename_i kk' k' es hB
        rw [holds_bif] at H
        split at H
        · rename_i hc
          simp only [Bool.and_eq_true, decide_eq_true_eq] at hc
          obtain ⟨rfl, rfl⟩ := hc
          split at H
          · rename_i y hy
            intro β r a w ho hs hnw
            have hmm := ho m (by rw [hops]; simp); rw [hm] at hmm
            obtain ⟨q, hq, hmm⟩ := hmm
            have hkv := rel_num hky (ho ky (by rw [hops]; simp))
            have hxv := decV_sound hy (ho x (by rw [hops]; simp))
            obtain ⟨tk, te, hT, hkt, _⟩ := mapOf_sound hτ hmap
            obtain ⟨H1, hd, hw, _⟩ := hs.at hB
            obtain ⟨b, ents, clock, hb, hrm, hst, rfl⟩ := hd
            rw [hq] at hb; cases hb
            have hblk := Hp.inW_one.1 hw
            have hlt := (Array.getElem?_eq_some_iff.1 hblk).1
            have hget : (getObj b).run P w = .ok (.map ents clock) w := by simp [getObj, Sem.run, hblk]
            have hset : ∀ o, (setObj b o).run P w = .ok () { w with heap := w.heap.setIfInBounds b o } := fun o => by simp [setObj, Sem.run, hblk]
            obtain ⟨f1, f2⟩ := relM_put (n := n) hxv es ents.toList 0 hrm
            have fin : ∀ (ents' : Array MapEntry) (clock' : Nat), relM (U.enc k') kk r (mput es n y) ents'.toList → MapKept.Stamped ents' clock' → (Instr.mapUpdate T (.map (some b)) (.int kk n) (a.eval x)).run P w = .ok () { w with heap := w.heap.setIfInBounds b (.map ents' clock') } →
                ∃ v h' t z w' r', (K v h' t).holds M ∧ ((execOp a.eval ⟨dst, op, type, pos, after, guard⟩).run P w = .ok (.value z) w' ∨ ((execOp a.eval ⟨dst, op, type, pos, after, guard⟩).run P w = .ok .skip w' ∧ z = undef)) ∧
                  r.le r' ∧ (∀ i, i ≠ nw → r i = none → r' i = none) ∧ rel r' v z ∧ Sat β r' h' w' ∧ (∀ id B, h.get id = some B → id ∉ t → h'.get id = some B) := by
              intro ents' clock' hrel hst' hrun
              refine ⟨.und, _, [id], undef, { w with heap := w.heap.setIfInBounds b (.map ents' clock') }, r, H, .inr ⟨?_, rfl⟩, Nm.le.refl r, fun _ _ h => h, trivial, ?_, fun id' B hg hne => by rw [Heap.get_set_ne (by simpa using hne)]; exact hg⟩
              · rw [hex a _ rfl]; simp only [Sem.run_bind, hmm, hkv, hrun, Result.andThen_ok, Sem.run_pure]
              · refine hs.write hB (b := b) (.map ents' clock') ?_ ⟨b, ents', clock', hq, hrel, hst', rfl⟩ ?_ ?_ rfl rfl rfl
                · rintro H ⟨b', e', c', hb', _, _, rfl⟩; rw [hq] at hb'; cases hb'; exact ⟨_, rfl⟩
                · simp [hlt]
                · intro x hx; simp [Ne.symm hx]
            cases hmg : mget es n with
            | none =>
              have hfind := (relM_find n es ents.toList 0 hrm).1 hmg
              refine fin (ents.push { key := .int kk n, val := a.eval x, born := clock }) (clock + 1) (by simpa using f1 hmg clock) (MapKept.stamped_push hst (relM_none es ents.toList hrm hmg)) ?_
              unfold Instr.mapUpdate
              simp only [Sem.run_bind, run_underlying hT, Result.andThen_ok, hget, run_checkKey_int hkt _ 9999, Instr.findKey, run_underlying hkt, hfind, Sem.run_pure, hset]
            | some z0 =>
              obtain ⟨j, e, h1, h2, h3, h4, _⟩ := f2 z0 hmg
              refine fin (ents.modify j fun e => { e with key := .int kk n, val := a.eval x }) clock (by simpa [Array.toList_modify] using h4) (MapKept.stamped_modify hst j _ (fun _ _ => rfl) (fun e' _ he' => by rw [show e' = e from Option.some.inj (he'.symm.trans (by simpa using h2))]; exact h3.symm)) ?_
              have hej : ents[j]? = some e := by simpa using h2
              unfold Instr.mapUpdate
              simp only [Nat.zero_add] at h1
              simp only [Sem.run_bind, run_underlying hT, Result.andThen_ok, hget, run_checkKey_int hkt _ 9999, Instr.findKey, run_underlying hkt, h1, Sem.run_pure, hej, Option.map_some, Option.getD_some, Instr.keyThatStays, h3, Instr.sameBits, beq_self_eq_true, Bool.and_self, if_true, hset]
          · exact H.elim
        · exact H.elim
      · exact H.elim
    · exact H.elim
  cases op <;> (try simp only at H) <;> try exact H.elim
  case alloc T =>
    split at H
    · rename_i R hR
      refine eg_new hn H fun r a w ho => ?_
      have hm := hτ T R hR
      obtain ⟨i, z, hi, _, _, hz, _, _, hrz⟩ := hm.info
      refine ⟨.cells z.cells T, .pointer (some ⟨w.heap.size, 0, none⟩), by simp [execOp, Instr.alloc, zeroValue, typeInfo, hi, hz, newVar, newRow], fun r' hr' hnw => ⟨⟨_, hnw, rfl⟩, fun G => ⟨w.heap.size, z.cells.toList, hnw, ?_, by simp⟩⟩⟩
      exact relL_mono (fun _ _ e => by cases e) _ _ hrz
    · exact H.elim
  case box T x =>
    rw [holds_bif] at H
    split at H
    · rename_i hpl
      refine eg_new hn H fun r a w ho => ?_
      have hx := ho x (by simp [Op.operands])
      refine ⟨.cells (a.eval x).cells T, .pointer (some ⟨w.heap.size, 0, none⟩), by simp [execOp, Instr.box, newVar, newRow], fun r' hr' hnw => ⟨⟨_, hnw, rfl⟩, fun G => ⟨w.heap.size, (a.eval x).cells.toList, hnw, relL_mono hr' _ _ (rel_cells hpl hx), by simp⟩⟩⟩
    · exact H.elim
  case buildSlice T n ps =>
    split at H
    · rename_i e s hs
      split at H
      · rename_i R hR
        rw [holds_bif] at H
        split at H
        · rename_i hc
          simp only [Bool.and_eq_true] at hc
          obtain ⟨⟨hc1, hc2⟩, hc3⟩ := hc
          have hc1 := Nat.le_of_ble_eq_true hc1
          have hc3 := Nat.eq_of_beq_eq_true hc3
          split at H
          · rename_i cs hfill
            obtain ⟨R', hR', hsz, hT⟩ := sliceOf_under hτ hs
            rw [hR] at hR'; cases hR'
            refine eg_new hn H fun r a w ho => ?_
            have hm := hτ e R hR
            obtain ⟨i, z, hi, his, _, hz, hzs, _, hrz⟩ := hm.info
            have hzc : relL r R.zero z.cells.toList := relL_mono (fun _ _ e => by cases e) _ _ hrz
            have hpl' : ((ps.toList.map fun q => (q.1, ev q.2)).all fun q => q.2.plain) = true := by simpa [List.all_map] using hc2
            have hcells : relL r (List.replicate n R.zero).flatten (if n * s = 0 then #[] else (madeCells z.cells (n * s))).toList := by
              split
              · rename_i h0
                have : (List.replicate n R.zero).flatten = [] := by
                  apply List.eq_nil_of_length_eq_zero; simp [hc3, h0]
                rw [this]; exact relL_nil
              · rename_i h0
                have hpos : 0 < z.cells.size := by
                  rw [hzs, hsz]; rcases Nat.eq_zero_or_pos s with h | h
                  · subst h; simp at h0
                  · exact h
                rw [← hsz, ← hzs, madeCells_flatten z.cells hpos]
                exact flatten_replicate_rel hzc n
            obtain ⟨ov, ho1, ho2⟩ := fill_sound (r := r) _ ((ps.map fun q => (q.1, a.eval q.2)).toList) _ cs (if n * s = 0 then #[] else (madeCells z.cells (n * s))) hfill hpl' (by simp) (fun j i x hj => by
              simp only [List.getElem?_map, Option.map_eq_some_iff] at hj
              obtain ⟨q, hq, he⟩ := hj
              simp only [Prod.mk.injEq] at he
              obtain ⟨rfl, rfl⟩ := he
              refine ⟨a.eval q.2, by simp [hq], ho q.2 ?_⟩
              simp only [Op.operands, List.mem_map]
              exact ⟨q, List.mem_of_getElem? hq, rfl⟩) hcells
            refine ⟨.cells ov e, .slice (some ⟨w.heap.size, 0, none⟩) n n, ?_, fun r' hr' hnw => ⟨⟨_, rfl, Nat.le_refl _, .inr ⟨_, hnw, by simp⟩⟩, fun G => ⟨w.heap.size, ov.toList, hnw, relL_mono hr' _ _ ho2, by simp⟩⟩⟩
            refine run_value2 ?_
            unfold Instr.buildSlice
            simp only [Sem.run_bind, run_underlying hT, Result.andThen_ok, run_sizeOf hm, hsz]
            rw [if_neg (by omega)]
            by_cases h0 : n * s = 0
            · simp only [h0, if_true] at ho1 ⊢
              simp only [Sem.run_pure, Result.andThen_ok, Array.range_zero', Array.map_empty, ho1]
              simp [newRow]
            · simp only [h0, if_false] at ho1 ⊢
              simp only [madeCells] at ho1
              simp only [Sem.run_bind, zeroValue, typeInfo, run_program, hi, hz, Sem.run_pure, Result.andThen_ok, ho1]
              simp [newRow]
          · exact H.elim
        · exact H.elim
      · exact H.elim
    · exact H.elim
  case makeSlice T l c =>
    split at H
    · rename_i e s hs
      split at H
      · rename_i k R ka a0 la kb b0 lb hk hR hl hc
        obtain ⟨⟨h0, h1, h2⟩, H⟩ := H
        obtain ⟨R', hR', hsz, hT⟩ := sliceOf_under hτ hs
        rw [hR] at hR'; cases hR'
        obtain ⟨R', hR', hw, hag, hby, hz0⟩ := hκ e k hk
        rw [hR] at hR'; cases hR'
        have hm := hτ e R hR
        obtain ⟨i, z, hi, his, hib, hz, hzs, _, hrz⟩ := hm.info
        refine eg_new hn H fun r a w ho => ?_
        have e1 := rel_num hl (ho l (by simp [Op.operands]))
        have e2 := rel_num hc (ho c (by simp [Op.operands]))
        have hb63 : b0 ≤ 9223372036854775807 := by
          have : (1 : Int) ≤ R.bytes := by omega
          have h3 : b0 ≤ (R.bytes : Int) * b0 := by
            have := Int.mul_le_mul_of_nonneg_right this (show 0 ≤ b0 by omega); simpa using this
          omega
        have hrun := run_make (P := P) w T e i z hT hi hz ka kb a0 b0 h0 h1 (by rw [hib]; exact h2) hb63
        refine ⟨_, _, run_value2 (z := .slice (some ⟨w.heap.size, 0, none⟩) a0.toNat b0.toNat) (by simp only [e1, e2]; exact hrun), fun r' hr' hnw => ⟨⟨_, rfl, by omega, .inr ⟨_, hnw, by simp⟩⟩, fun G => ?_⟩⟩
        have hrowL : relL r' ((U.enc k).enc (U.enc k).dflt) z.cells.toList := hz0 r' _ (relL_mono (fun _ _ e => by cases e) _ _ hrz)
        refine .inr ⟨w.heap.size, _, hnw, ?_, ?_, ?_, rfl⟩
        · intro j x hj
          have hx : x = (U.enc k).dflt := by
            rw [List.getElem?_replicate] at hj; split at hj
            · cases hj; rfl
            · cases hj
          have hjl : j < a0.toNat := by
            rw [List.getElem?_replicate] at hj; split at hj
            · assumption
            · cases hj
          subst hx
          have hpos := (U.enc k).pos
          have hzw : z.cells.size = (U.enc k).w := by rw [hzs, hw]
          rw [his, ← hw, ← hzw, madeCells_flatten z.cells (by omega)]
          have hsplit : ((List.replicate b0.toNat z.cells.toList).flatten.drop (0 + j * z.cells.size)).take z.cells.size = z.cells.toList := by
            obtain ⟨n, hn'⟩ : ∃ n, b0.toNat = j + (n + 1) := ⟨b0.toNat - j - 1, by omega⟩
            rw [hn', ← List.replicate_append_replicate, List.flatten_append, List.replicate_succ, List.flatten_cons, Nat.zero_add]
            have hjl' : ((List.replicate j z.cells.toList).flatten).length = j * z.cells.size := by simp
            rw [← hjl', List.drop_left]
            simp
          rw [hsplit]; exact hrowL
        · simp only [size_madeCells, List.length_replicate, his, hw]; congr 1; omega
        · simp only [List.length_replicate, maxLen]; omega
      · exact H.elim
    · exact H.elim
  case makeMap T rr =>
    split at H
    · rename_i kk k hmap
      refine eg_new hn H fun r a w ho => ⟨.map #[] 0, .map (some w.heap.size), by simp [execOp, Instr.makeMap], fun r' hr' hnw => ⟨⟨_, hnw, rfl⟩, fun G => ⟨w.heap.size, #[], 0, hnw, by simp [relM], MapKept.stamped_empty 0, rfl⟩⟩⟩
    · exact H.elim
  case store T p x =>
    split at H
    · rename_i R id hR hid
      split at H
      · rename_i B hB
        obtain ⟨B', hK, hall⟩ := writeAt_sound (hτ T R hR) H hid
        intro β r a w ho hs hnw
        obtain ⟨w', hrun, hs'⟩ := hall β r w h _ _ (ho p (by simp [Op.operands])) (ho x (by simp [Op.operands])) hB hs
        exact ⟨.und, _, [id], undef, w', r, hK, .inr ⟨by simp [execOp, hrun], rfl⟩, Nm.le.refl r, fun _ _ h => h, trivial, hs', fun id' B hg hne => by rw [Heap.get_set_ne (by simpa using hne)]; exact hg⟩
      · exact H.elim
    · exact H.elim
  case mapUpdate T m ky x => exact put T m ky x _ (by simp [Op.operands]) (fun a o ho => by simp [execOp, ho]) H
  case insert T m ky x => exact put T m ky x _ (by simp [Op.operands]) (fun a o ho => by simp [execOp, ho]) H
  case call c =>
    obtain ⟨callee, args, argTypes⟩ := c
    cases callee <;> simp only at H <;> try exact H.elim
    rename_i b
    split at H
    · rename_i m ky T T2 hargs hT
      obtain ⟨args⟩ := args
      obtain ⟨argTypes⟩ := argTypes
      simp only at hargs hT; subst hargs; subst hT
      split at H
      · rename_i kk kd id kk'' n l hmap hm hky
        split at H
        · rename_i kk' k' es hB
          rw [holds_bif] at H
          split at H
          · rename_i hc
            simp only [Bool.and_eq_true, decide_eq_true_eq] at hc
            obtain ⟨rfl, rfl⟩ := hc
            intro β r a w ho hs hnw
            have hmm := ho m (by simp [Op.operands, Call.operands]); rw [hm] at hmm
            obtain ⟨q, hq, hmm⟩ := hmm
            have hkv := rel_num hky (ho ky (by simp [Op.operands, Call.operands]))
            obtain ⟨tk, te, hTT, hkt, _⟩ := mapOf_sound hτ hmap
            obtain ⟨H1, hd, hw, _⟩ := hs.at hB
            obtain ⟨b, ents, clock, hb, hrm, hst, rfl⟩ := hd
            rw [hq] at hb; cases hb
            have hblk := Hp.inW_one.1 hw
            have hlt := (Array.getElem?_eq_some_iff.1 hblk).1
            have hget : (getObj b).run P w = .ok (.map ents clock) w := by simp [getObj, Sem.run, hblk]
            have hset : ∀ o, (setObj b o).run P w = .ok () { w with heap := w.heap.setIfInBounds b o } := fun o => by simp [setObj, Sem.run, hblk]
            have fin : ∀ (ents' : Array MapEntry), relM (U.enc k') kk r (mdel es n) ents'.toList → MapKept.Stamped ents' clock → (Builtin.delete_ #[T, T2] type #[.map (some b), .int kk n]).run P w = .ok (.tuple #[]) { w with heap := w.heap.setIfInBounds b (.map ents' clock) } →
                ∃ v h' t z w' r', (K v h' t).holds M ∧ ((execOp a.eval ⟨dst, .call ⟨.builtin .delete, ⟨[m, ky]⟩, ⟨[T, T2]⟩⟩, type, pos, after, guard⟩).run P w = .ok (.value z) w' ∨ ((execOp a.eval ⟨dst, .call ⟨.builtin .delete, ⟨[m, ky]⟩, ⟨[T, T2]⟩⟩, type, pos, after, guard⟩).run P w = .ok .skip w' ∧ z = undef)) ∧
                  r.le r' ∧ (∀ i, i ≠ nw → r i = none → r' i = none) ∧ rel r' v z ∧ Sat β r' h' w' ∧ (∀ id B, h.get id = some B → id ∉ t → h'.get id = some B) := by
              intro ents' hrel hst' hrun
              refine ⟨.tup [], _, [id], .tuple #[], { w with heap := w.heap.setIfInBounds b (.map ents' clock) }, r, H, .inl ?_, Nm.le.refl r, fun _ _ h => h, ⟨[], relL_nil, rfl⟩, ?_, fun id' B hg hne => by rw [Heap.get_set_ne (by simpa using hne)]; exact hg⟩
              · simp [execOp, resolve, invoke, builtin, hmm, hkv, hrun]
              · refine hs.write hB (b := b) (.map ents' clock) ?_ ⟨b, ents', clock, hq, hrel, hst', rfl⟩ ?_ ?_ rfl rfl rfl
                · rintro H ⟨b', e', c', hb', _, _, rfl⟩; rw [hq] at hb'; cases hb'; exact ⟨_, rfl⟩
                · simp [hlt]
                · intro x hx; simp [Ne.symm hx]
            cases hmg : mget es n with
            | none =>
              have hfind := (relM_find n es ents.toList 0 hrm).1 hmg
              refine fin ents (by rw [mdel_none hmg]; exact hrm) hst ?_
              simp [Builtin.delete_, run_underlying hTT, hget, run_checkKey_int hkt _ 9999, Instr.findKey, run_underlying hkt, hfind, hset]
            | some z0 =>
              obtain ⟨_, e0, _, _, _, hv0, _⟩ := (relM_find n es ents.toList 0 hrm).2 z0 hmg
              obtain ⟨j, e, h1, h2, h3, _, h5⟩ := (relM_put (n := n) hv0 es ents.toList 0 hrm).2 z0 hmg
              refine fin (ents.eraseIdxIfInBounds j) (by simpa using h5) (MapKept.stamped_erase hst j) ?_
              simp only [Nat.zero_add] at h1
              simp [Builtin.delete_, run_underlying hTT, hget, run_checkKey_int hkt _ 9999, Instr.findKey, run_underlying hkt, h1, hset]
          · exact H.elim
        · exact H.elim
      · exact H.elim
    · rename_i sx x T T' hargs hT
      obtain ⟨args⟩ := args
      obtain ⟨argTypes⟩ := argTypes
      simp only at hargs hT; subst hargs; subst hT
      rw [holds_bif] at H
      split at H
      · rename_i hTT
        have hTT := Nat.eq_of_beq_eq_true hTT
        subst hTT
        split at H
        · rename_i e sz hs
          split at H
          · rename_i k R hk hR
            obtain ⟨R', hR', hsz, hT⟩ := sliceOf_under hτ hs
            rw [hR] at hR'; cases hR'
            obtain ⟨R', hR', hw, hag, hby, hz0⟩ := hκ e k hk
            rw [hR] at hR'; cases hR'
            have hm := hτ e R hR
            obtain ⟨i, z, hi, his, hib, hz, hzs, _, hrz⟩ := hm.info
            have hwi : (U.enc k).w = i.size := by rw [hw, his]
            obtain ⟨ys, rd, H, hrd, hsrc⟩ := evalSrc_sound H
            have hsz' : sz = (U.enc k).w := by rw [hw, hsz]
            -- a base with no room at all
            have bare : ∀ (hsx : ∀ (r : Nm) u, rel r (ev sx) u → ∃ a, u = .slice a 0 0), (Out.needd (ys.length * R.bytes ≤ 140737488355328) (.all Nat fun sp => K (.sl false nw 0 sz ys.length (ys.length + sp)) ((nw, .arr e k ys sp) :: h) X) : Out U).holds M →
                Eg P ⟨dst, .call ⟨.builtin .append, ⟨[sx, x]⟩, ⟨[T, T]⟩⟩, type, pos, after, guard⟩ ev h nw (fun v h' t => (K v h' t).holds M) := by
              rintro hsx ⟨hb, H⟩ β r a w ho hs hnw
              obtain ⟨ba, hba⟩ := hsx r _ (ho sx (by simp [Op.operands, Call.operands]))
              obtain ⟨news, n1, n2, n3, n4, n5⟩ := hsrc β r w _ (ho x (by simp [Op.operands, Call.operands])) hs
              obtain ⟨v', w', hrun, happ⟩ := run_append_any (P := P) w T type e i z hT hi hz (by rw [hzs, his]) (a.eval x) ys.length news n1 (by rw [← hwi]; exact n2) (by rw [← hwi]; exact n3 w rfl) (by rw [← hwi]; exact n3 w.drew rfl) n4 ba 0 0 [] (by simp) (Nat.le_refl _) (Nat.zero_le _) none (.inl rfl) (by
                  have : ys.length ≤ ys.length * R.bytes := Nat.le_mul_of_pos_right _ (by omega)
                  simp only [maxLen]; omega) (by rw [Nat.zero_add, hib]; exact hb)
              rw [Nat.zero_add, ← hwi, List.nil_append] at happ
              obtain ⟨sp, r', g1, g2, g3, g4⟩ := append_end (β := β) (r := r) (nw := nw) hnw happ n5
              refine ⟨_, _, X, v', w', r', H sp, .inl (by simp [execOp, resolve, invoke, builtin, hba, hrun]), g1, g2, by rw [hsz']; exact g3, ?_, fun id' B hg hne => by rw [Heap.get_cons_ne (new_ne hn hg hne)]; exact hg⟩
              rcases g4 with ⟨rfl, rfl, rfl, q1, q2, q3, q4⟩ | ⟨b, o', rfl, hden, hwh⟩
              · exact (hs.sameHeap q1 q2 q3 q4).empty nw e k
              · rcases hwh with ⟨hg, _⟩ | ⟨rfl, rfl⟩
                · cases hg
                · exact hs.drew.new hnw (by simpa using hden)
            split at H
            · rename_i hsx
              exact bare (fun r u hu => by rw [hsx] at hu; simp only [rel] at hu; exact ⟨_, hu⟩) H
            · rename_i kn id st w0 len cap hsx
              rw [holds_bif] at H
              split at H
              · rename_i hb0
                simp only [Bool.and_eq_true] at hb0
                obtain ⟨⟨_, hb1⟩, hb2⟩ := hb0
                have hb1 := Nat.eq_of_beq_eq_true hb1
                have hb2 := Nat.eq_of_beq_eq_true hb2
                subst hb1; subst hb2
                exact bare (fun r u hu => by rw [hsx] at hu; obtain ⟨a, hu, _⟩ := hu; exact ⟨a, hu⟩) H
              split at H
              · rename_i T2 k2 xs sp0 hB
                split at H
                · rename_i hkk _
                  subst hkk
                  rw [holds_bif] at H
                  split at H
                  · rename_i hc
                    simp only [Bool.and_eq_true] at hc
                    obtain ⟨⟨hc1, hc2⟩, hc3⟩ := hc
                    have hc1 := Nat.eq_of_beq_eq_true hc1
                    have hc2 := Nat.eq_of_beq_eq_true hc2
                    subst hc1; subst hc2
                    obtain ⟨h2, ⟨h0, h1, hb⟩, H⟩ := H
                    subst h0; subst h1; subst h2
                    intro β r a w ho hs hnw
                    have hu := ho sx (by simp [Op.operands, Call.operands]); rw [hsx] at hu
                    obtain ⟨ba, hba, _, hbb⟩ := hu
                    obtain ⟨news, n1, n2, n3, n4, n5⟩ := hsrc β r w _ (ho x (by simp [Op.operands, Call.operands])) hs
                    obtain ⟨H1, hd, hwin, _⟩ := hs.at hB
                    have hbase : ∃ g xsv, xsv.length = xs.length * i.size ∧ (xs.length + sp0 = 0 ∨ ∃ b c, ba = some ⟨b, 0, none⟩ ∧ g = some b ∧ w.heap[b]? = some (.cells c T2 (0, 0)) ∧ c.size = (xs.length + sp0) * i.size ∧ c.toList.take (xs.length * i.size) = xsv) ∧
                        (∀ j y, xs[j]? = some y → relL r ((U.enc k2).enc y) ((xsv.drop (j * (U.enc k2).w)).take (U.enc k2).w)) ∧ xs.length + sp0 ≤ maxLen ∧ (∀ b, g = some b → ∀ H1, (Blk.arr T2 k2 xs sp0 : Blk U).den β.G r id H1 → ∃ o, H1 = Hp.one b o) := by
                      by_cases hcz : xs.length + sp0 = 0
                      · have : xs = [] := List.eq_nil_of_length_eq_zero (by omega)
                        subst this
                        exact ⟨none, [], by simp, .inl hcz, fun j y hj => by simp at hj, by omega, fun b e => by cases e⟩
                      rcases hd with ⟨hz0', _⟩ | ⟨b, c, hb', hrow, hcs, hmx, rfl⟩
                      · have : xs = [] := List.eq_nil_of_length_eq_zero (by omega)
                        subst this
                        exact ⟨none, [], by simp, .inl hz0', fun j y hj => by simp at hj, by omega, fun b e => by cases e⟩
                      · rcases hbb with hbb | ⟨y, hy, rfl⟩
                        · have : xs = [] := List.eq_nil_of_length_eq_zero (by omega)
                          subst this
                          exact ⟨none, [], by simp, .inl hbb, fun j y hj => by simp at hj, hmx, fun b e => by cases e⟩
                        · rw [hy] at hb'; cases hb'
                          have hlen : (c.toList.take (xs.length * i.size)).length = xs.length * i.size := by
                            have hcl : c.toList.length = c.size := by simp
                            rw [List.length_take, hcl, hcs, hwi, Nat.add_mul]; omega
                          refine ⟨some b, _, hlen, .inr ⟨b, c, by simp, rfl, Hp.inW_one.1 hwin, by rw [← hwi]; exact hcs, rfl⟩, fun j y hj => ?_, hmx, fun b' e H1 hH => ?_⟩
                          · have := hrow j y hj
                            have hlt : j < xs.length := (List.getElem?_eq_some_iff.1 hj).1
                            have hm2 : (j + 1) * (U.enc k2).w ≤ xs.length * (U.enc k2).w := Nat.mul_le_mul_right _ hlt
                            rw [Nat.succ_mul] at hm2
                            rw [← hwi, List.drop_take, List.take_take, show min (U.enc k2).w (xs.length * (U.enc k2).w - j * (U.enc k2).w) = (U.enc k2).w by omega]
                            simpa using this
                          · cases e
                            rcases hH with ⟨hz1, _⟩ | ⟨b', c', hb'', _, _, _, rfl⟩
                            · exact absurd hz1 hcz
                            · rw [hy] at hb''; cases hb''; exact ⟨_, rfl⟩
                    obtain ⟨g, xsv, x1, x2, x3, x4, x5⟩ := hbase
                    obtain ⟨v', w', hrun, happ⟩ := run_append_any (P := P) w T type T2 i z hT hi hz (by rw [hzs, his]) (a.eval x) ys.length news n1 (by rw [← hwi]; exact n2) (by rw [← hwi]; exact n3 w rfl) (by rw [← hwi]; exact n3 w.drew rfl) n4 ba xs.length (xs.length + sp0) xsv x1 (by omega) x4 g x2 (by
                        have : xs.length + ys.length ≤ (xs.length + ys.length) * R.bytes := Nat.le_mul_of_pos_right _ (by omega)
                        simp only [maxLen]; omega) (by rw [hib]; exact hb)
                    rw [← hwi, show xs.length + ys.length = (xs ++ ys).length by simp] at happ
                    have hrows : ∀ j y, (xs ++ ys)[j]? = some y → relL r ((U.enc k2).enc y) (((xsv ++ news).drop (j * (U.enc k2).w)).take (U.enc k2).w) := by
                      intro j y hj
                      rw [← hwi] at x1
                      rw [List.getElem?_append] at hj
                      split at hj
                      · rename_i hlt
                        have hm2 : (j + 1) * (U.enc k2).w ≤ xs.length * (U.enc k2).w := Nat.mul_le_mul_right _ hlt
                        rw [Nat.succ_mul] at hm2
                        rw [List.drop_append_of_le_length (by omega), List.take_append_of_le_length (by simp; omega)]
                        exact x3 j y hj
                      · rename_i hge
                        have := n5 _ y hj
                        have e1 : j * (U.enc k2).w = xsv.length + (j - xs.length) * (U.enc k2).w := by
                          rw [x1, ← Nat.add_mul]; congr 1; omega
                        rw [e1, List.drop_append]
                        have e2 : xsv.drop (xsv.length + (j - xs.length) * (U.enc k2).w) = [] := List.drop_eq_nil_of_le (by omega)
                        rw [e2, List.nil_append, show xsv.length + (j - xs.length) * (U.enc k2).w - xsv.length = (j - xs.length) * (U.enc k2).w by omega]
                        exact this
                    obtain ⟨sp, r', g1, g2, g3, g4⟩ := append_end (β := β) (r := r) (nw := nw) hnw happ hrows
                    refine ⟨_, _, id :: X, v', w', r', H sp, .inl (by simp [execOp, resolve, invoke, builtin, hba, hrun]), g1, g2, by rw [hsz']; simpa using g3, ?_, fun id' B hg hne => ?_⟩
                    · rcases g4 with ⟨q0, rfl, rfl, q1, q2, q3, q4⟩ | ⟨b, o', rfl, hden, hwh⟩
                      · simp only [castK, q0]; exact ((hs.del hB).sameHeap q1 q2 q3 q4).empty nw T2 k2
                      · rcases hwh with ⟨rfl, hh1, hh2, q2, q3, q4⟩ | ⟨rfl, rfl⟩
                        · exact hs.rename hnw hB o' (x5 b rfl) hden hh1 hh2 q2 q3 q4
                        · exact (hs.del hB).drew.new hnw (by simpa [castK] using hden)
                    · have hne := not_or.1 (fun hm => hne (List.mem_cons.2 hm))
                      rw [Heap.get_cons_ne (new_ne hn hg hne.2), Heap.get_del_ne hne.1]; exact hg
                  · exact H.elim
                · exact H.elim
              · exact H.elim
            · exact H.elim
          · exact H.elim
        · exact H.elim
      · exact H.elim
    · exact H.elim
theorem evalE0_sound (hτ : τ.met P) {κ : Kinds U} (hκ : κ.met τ) {M : Goal U} {dst : Option Tmp} {op : Op} {type : Nat} {pos : String} {after : Array Edge} {guard : Option (Nat × Bool)} {ev : Operand → AV} {h : Heap U} {nw : Nat} {K : AV → Heap U → List Nat → Out U}
    (H : (evalE0 τ κ op ev h nw K).holds M) : Eg P ⟨dst, op, type, pos, after, guard⟩ ev h nw (fun v h' t => (K v h' t).holds M) := by
  unfold evalE0 at H
  rw [holds_bif] at H
  split at H
  · exact evalE1_sound hτ hκ (.inr (List.mem_singleton.2 rfl)) H
  · cases hn : h.get nw with
    | some B => rw [hn] at H; exact H.elim
    | none => rw [hn] at H; exact evalE1_sound hτ hκ (.inl hn) H

end
end Sx
end Go.Proofs.YtnegocgblmdihaaGreatDoor

/-
  The builtin append over blocks of which all cells are known.
-/
namespace Go.Proofs.YtnegocgblmdihaaGreatDoor
namespace Sx
open Go

section
variable {P : Program}

theorem zeroCells_made (z : Array Value) (n : Nat) : Builtin.zeroCells z n = madeCells z (n * z.size) := by
  simp [Builtin.zeroCells, madeCells]
theorem zeroCells_list (z : Array Value) (hz : 0 < z.size) (n : Nat) : (Builtin.zeroCells z n).toList = (List.replicate n z.toList).flatten := by
  rw [zeroCells_made, madeCells_flatten z hz]

theorem run_append_pd (w : World) (t ty e : Nat) (i : TypeInfo) (z : Value) (ht : P.underlying t = some (.slice e)) (hi : P.info? e = some i) (hz : i.zero = some z)
    (x : Value) (m : Nat) (news : List Value) (hlen : ∀ w, (Builtin.lenOf x).run P w = .ok m w) (hl : news.length = m * i.size)
    (hf : ∀ w', w'.heap = w.heap → (Builtin.firstCells i.size m x).run P w' = .ok news.toArray w') (h1 : ∀ u ∈ news, u.oneCell' = true)
    (base : Option Addr) (n cap : Nat) (xs : List Value) (hold : ∀ w', w'.heap = w.heap → (Builtin.firstCells i.size n (.slice base n cap)).run P w' = .ok xs.toArray w')
    (h63 : n + m ≤ maxLen) (hbytes : (n + m) * i.bytes ≤ 140737488355328) :
    (¬ n + m ≤ cap → n ≤ cap → (Builtin.append_ #[t, t] ty #[.slice base n cap, x]).run P w = .ok (.slice (some ⟨w.heap.size, 0, none⟩) (n + m) (grownCap w (n + m) cap e))
        (w.drew.alloc (.cells (xs.toArray ++ news.toArray ++ Builtin.zeroCells z.cells (grownCap w (n + m) cap e - (n + m))) e))) ∧
    (n + m ≤ cap → m = 0 → (Builtin.append_ #[t, t] ty #[.slice base n cap, x]).run P w = .ok (.slice base n cap) w) ∧
    (n + m ≤ cap → ∀ b off c T', base = some ⟨b, off, none⟩ → w.heap[b]? = some (.cells c T' (0, 0)) → off + n * i.size + news.length ≤ c.size →
        (Builtin.append_ #[t, t] ty #[.slice base n cap, x]).run P w = .ok (.slice base (n + m) cap) (w.setRow b (c.toList.take (off + n * i.size) ++ news ++ c.toList.drop (off + n * i.size + news.length)).toArray)) := by
  have h63' : ¬ (9223372036854775807 < ((n : Int) + (m : Int))) := by simp only [maxLen] at h63; omega
  refine ⟨fun hroom hnc => ?_, fun hroom hm => ?_, fun hroom b off c T' hb hg hfit => ?_⟩
  · have h48 : ¬ (281474976710656 < Builtin.nextslicecap (n + m) cap * i.bytes) := by
      have := growslice_fits (need := n + m) (old := cap) (bytes := i.bytes) (by omega) hbytes; omega
    have hfd := hf w.drew rfl
    have holdd := hold w.drew rfl
    simp [Builtin.append_, run_underlying ht, sizeOf, typeInfo, zeroValue, hi, hz, hlen, hroom, h63', h48, Question.forced, hfd, holdd, newRow, grownCap]
    congr 2
    apply Array.ext'
    simp [List.append_assoc]
  · subst hm
    have hn0 : news = [] := List.eq_nil_of_length_eq_zero (by simpa using hl)
    subst hn0
    have hf := hf w rfl
    have hroom : n ≤ cap := by simpa using hroom
    cases base <;> simp [Builtin.append_, run_underlying ht, sizeOf, typeInfo, hi, hlen, hf, hroom, storeCells]
  · subst hb
    have hst := run_storeCells_at P b (off + n * i.size) T' news 0 c w hg (by simpa using hfit) h1
    simp only [Nat.add_zero] at hst
    have hf := hf w rfl
    simp [Builtin.append_, run_underlying ht, sizeOf, typeInfo, hi, hlen, hroom, hf, Addr.add_lit, hst]

end
end Sx
end Go.Proofs.YtnegocgblmdihaaGreatDoor

/-
  A pool: storing, new blocks; the evaluator of operations that make memory or write it, with these.
-/
namespace Go.Proofs.YtnegocgblmdihaaGreatDoor
namespace Sx
open Go

section
variable {U : Uni} {P : Program} {τ : Tab}

/-- One block holds all that another one holds: the same; or a pool with more in it. -/
def Blk.leq (B B' : Blk U) : Prop := B = B' ∨ ∃ p p' : Pool, B = .pool p ∧ B' = .pool p' ∧ ∀ b q, p b = some q → p' b = some q
theorem Blk.leq.refl (B : Blk U) : B.leq B := .inl rfl
theorem Blk.leq.trans {A B C : Blk U} (h : A.leq B) (k : B.leq C) : A.leq C := by
  rcases h with rfl | ⟨p, p', rfl, rfl, h⟩
  · exact k
  · rcases k with rfl | ⟨q, q', e, rfl, k⟩
    · exact .inr ⟨p, p', rfl, rfl, h⟩
    · cases e; exact .inr ⟨p, q', rfl, rfl, fun b x e => k b x (h b x e)⟩
def Heap.atLeast (h : Heap U) (id : Nat) (B : Blk U) : Prop := ∃ B', h.get id = some B' ∧ B.leq B'
def Kept (h h' : Heap U) (T : List Nat) : Prop := ∀ id B, h.get id = some B → id ∉ T → h'.atLeast id B
theorem Kept.of {h h' : Heap U} {T : List Nat} (k : ∀ id B, h.get id = some B → id ∉ T → h'.get id = some B) : Kept h h' T := fun id B e hn => ⟨B, k id B e hn, .inl rfl⟩
theorem Kept.comp {h h' h'' : Heap U} {T T' T'' : List Nat} (k : Kept h h' T) (l : Kept h' h'' T') (ht : ∀ i, i ∈ T → i ∈ T'') (ht' : ∀ i, i ∈ T' → i ∈ T'') : Kept h h'' T'' := fun id B e hn =>
  let ⟨B', g1, g2⟩ := k id B e (fun hh => hn (ht id hh)); let ⟨B'', g3, g4⟩ := l id B' g1 (fun hh => hn (ht' id hh)); ⟨B'', g3, g2.trans g4⟩
theorem Sat.atLe {β : Base} {r : Nm} {hp : Heap U} {w : World} (k : Sat β r hp w) {id : Nat} {B : Blk U} (hg : hp.atLeast id B) : ∃ H1, B.den β.G r id H1 ∧ H1.inW w ∧ β.G.inW w := by
  obtain ⟨B', hg, hle⟩ := hg
  obtain ⟨H1, h1, h2, h3⟩ := k.at hg
  rcases hle with rfl | ⟨p, p', rfl, rfl, hle⟩
  · exact ⟨H1, h1, h2, h3⟩
  · have h1 : H1 = p'.hp := h1
    subst h1
    refine ⟨p.hp, rfl, fun x o e => h2 x o ?_, h3⟩
    unfold Pool.hp at e ⊢
    cases hx : p x with
    | none => rw [hx] at e; cases e
    | some q => rw [hx] at e; rw [hle x q hx]; exact e

/-- What an operation does to a world, with pools that may grow. -/
def EgK (P : Program) (o : Oper) (ev : Operand → AV) (h : Heap U) (nw : Nat) (R : AV → Heap U → List Nat → Prop) : Prop :=
  ∀ (β : Base) (r : Nm) (a : Act) (w : World), (∀ x ∈ o.op.operands.toList, rel r (ev x) (a.eval x)) → Sat β r h w → r nw = none →
    ∃ v h' t z w' r', R v h' t ∧ ((execOp a.eval o).run P w = .ok (.value z) w' ∨ ((execOp a.eval o).run P w = .ok .skip w' ∧ z = undef)) ∧
      r.le r' ∧ (∀ i, i ≠ nw → r i = none → r' i = none) ∧ rel r' v z ∧ Sat β r' h' w' ∧ Kept h h' t
theorem Eg.k {o : Oper} {ev : Operand → AV} {h : Heap U} {nw : Nat} {R : AV → Heap U → List Nat → Prop} (H : Eg P o ev h nw R) : EgK P o ev h nw R := fun β r a w ho hs hn =>
  let ⟨v, h', t, z, w', r', h1, h2, h3, h4, h5, h6, h7⟩ := H β r a w ho hs hn; ⟨v, h', t, z, w', r', h1, h2, h3, h4, h5, h6, .of h7⟩

def pdOf : AV → Option PD
  | .int k n => some (.int k n)
  | .lit k n => some (.int k n)
  | .tt => some (.bool true)
  | .ff => some (.bool false)
  | .bool b => some (.bool b)
  | .nilP => some (.ptr none)
  | .rp o => some (.ptr o)
  | .nilS => some (.sl none 0 0)
  | .rs o l c => some (.sl o l c)
  | _ => none
def pdsOf : List AV → Option (List PD)
  | [] => some []
  | x :: xs => match pdOf x, pdsOf xs with | some d, some ds => some (d :: ds) | _, _ => none
theorem pdOf_val {r : Nm} {x : AV} {d : PD} (h : pdOf x = some d) {v : Value} (e : rel r x v) : v = d.val := by
  cases x <;> simp only [pdOf] at h <;> (try (cases h; done)) <;> cases h <;> simpa [rel, PD.val, addrOf] using e
theorem pdsOf_val {r : Nm} : ∀ {xs : List AV} {ds : List PD}, pdsOf xs = some ds → ∀ {vs : List Value}, relL r xs vs → vs = ds.map PD.val
  | [], ds, h, vs, e => by simp only [pdsOf, Option.some.injEq] at h; subst h; simpa [relL] using e
  | x :: xs, ds, h, vs, e => by
    simp only [pdsOf] at h
    split at h
    · rename_i d ds' hd hds
      cases h
      simp only [relL] at e; obtain ⟨v, us, rfl, k, l⟩ := e
      rw [pdOf_val hd k, pdsOf_val hds l]; rfl
    · cases h

/-- The pool of a heap. -/
def poolOf (h : Heap U) : Option (Nat × Pool) := match h.poolId with
  | some id => (match h.get id with | some (.pool p) => some (id, p) | _ => none)
  | none => none
theorem poolOf_get {h : Heap U} {id : Nat} {p : Pool} (e : poolOf h = some (id, p)) : h.get id = some (.pool p) := by
  unfold poolOf at e; split at e
  · split at e
    · cases e; assumption
    · cases e
  · cases e

/-- A pool's block written anew. -/
theorem Sat.poolSet {β : Base} {r : Nm} {hp : Heap U} {w w' : World} (k : Sat β r hp w) {id : Nat} {p p' : Pool} (hg : hp.get id = some (.pool p)) {b : Nat} {q q' : Nat × List PD}
    (hb : p b = some q) (hb' : p' b = some q') (hs' : ∀ x, x ≠ b → p' x = p x) (hw : w'.heap[b]? = some (Pool.obj q')) (hs : ∀ x, x ≠ b → w'.heap[x]? = w.heap[x]?)
    (h1 : w'.os = w.os) (h2 : w'.output = w.output) (h3 : w'.tape = w.tape) : Sat β r (hp.set id (.pool p')) w' := by
  obtain ⟨a, H, d, c, e⟩ := k
  obtain ⟨H1, H2, q1, q2, rfl, _, q5⟩ := Heap.focus d hg
  have q1 : H1 = p.hp := q1
  subst q1
  have c' := Hp.join_apart.1 c
  have e' := (Hp.inW_join q2).1 e
  have same : ∀ x, p'.hp x = none ↔ p.hp x = none := fun x => by
    rw [Pool.hp_none, Pool.hp_none]
    by_cases hx : x = b
    · subst hx; rw [hb, hb']; simp
    · rw [hs' x hx]
  have ap : p'.hp.apart H2 := fun x => (q2 x).imp (fun h => (same x).2 h) (fun h => h)
  have apG : p'.hp.apart β.G := fun x => (c'.1 x).imp (fun h => (same x).2 h) (fun h => h)
  have keep : ∀ {A : Hp}, A.inW w → A.apart p.hp → A.inW w' := fun {A} hA hap x o ex => by
    rw [hs x (fun hx => by
      subst hx
      rcases hap x with h | h
      · rw [h] at ex; cases ex
      · rw [Pool.hp_none, hb] at h; cases h)]
    exact hA x o ex
  refine ⟨⟨h1.trans a.os, h2.trans a.output, h3.trans a.tape, keep a.G c'.1.symm⟩, p'.hp.join H2, q5 r _ _ (Nm.le.refl r) rfl ap, Hp.join_apart.2 ⟨apG, c'.2⟩, (Hp.inW_join ap).2 ⟨fun x o ex => ?_, keep e'.2 q2.symm⟩⟩
  by_cases hx : x = b
  · subst hx
    unfold Pool.hp at ex; rw [hb'] at ex; simp at ex; subst ex; exact hw
  · rw [hs x hx]
    refine e'.1 x o ?_
    unfold Pool.hp at ex ⊢; rw [← hs' x hx]; exact ex

/-- A new block of a pool. -/
theorem Sat.poolNew {β : Base} {r : Nm} {hp : Heap U} {w : World} (k : Sat β r hp w) {id : Nat} {p : Pool} (hg : hp.get id = some (.pool p)) (T : Nat) (ds : List PD) :
    p w.heap.size = none ∧ Sat β r (hp.set id (.pool (p.put w.heap.size T ds))) (w.alloc (Pool.obj (T, ds))) := by
  obtain ⟨a, H, d, c, e⟩ := k
  obtain ⟨H1, H2, q1, q2, rfl, _, q5⟩ := Heap.focus d hg
  have q1 : H1 = p.hp := q1
  subst q1
  have c' := Hp.join_apart.1 c
  have e' := (Hp.inW_join q2).1 e
  have hn : ∀ {A : Hp}, A.inW w → A w.heap.size = none := fun {A} hA => by
    cases ex : A w.heap.size with
    | none => rfl
    | some o' => exact absurd (Hp.lt hA ex) (Nat.lt_irrefl _)
  have hpn : p w.heap.size = none := Pool.hp_none.1 (hn e'.1)
  refine ⟨hpn, ?_⟩
  have hput := Pool.hp_put (T := T) (ds := ds) hpn
  have apo : (Hp.one w.heap.size (Pool.obj (T, ds))).apart p.hp := Hp.one_apart.2 (hn e'.1)
  have ap : (p.put w.heap.size T ds).hp.apart H2 := by rw [hput]; exact Hp.join_apart.2 ⟨Hp.one_apart.2 (hn e'.2), q2⟩
  refine ⟨⟨a.os, a.output, a.tape, heap_old a.G⟩, _, q5 r _ _ (Nm.le.refl r) rfl ap, ?_, (Hp.inW_join ap).2 ⟨?_, heap_old e'.2⟩⟩
  · rw [hput]; exact Hp.join_apart.2 ⟨Hp.join_apart.2 ⟨Hp.one_apart.2 (hn a.G), c'.1⟩, c'.2⟩
  · rw [hput]; exact (Hp.inW_join apo).2 ⟨Hp.inW_one.2 (heap_alloc_new w _), heap_old e'.1⟩

/-- A new block of a pool, by an operation. -/
theorem eg_pool {M : Goal U} {o : Oper} {ev : Operand → AV} {h : Heap U} {nw : Nat} {K : AV → Heap U → List Nat → Out U} {id : Nat} {p : Pool} (hg : h.get id = some (.pool p)) {T : Nat} {ds : List PD} {V : Nat → AV}
    (hK : ∀ n, p n = none → (K (V n) (h.set id (.pool (p.put n T ds))) []).holds M)
    (hrun : ∀ (r : Nm) (a : Act) (w : World), (∀ x ∈ o.op.operands.toList, rel r (ev x) (a.eval x)) → ∃ z, (execOp a.eval o).run P w = .ok (.value z) (w.alloc (Pool.obj (T, ds))) ∧ rel r (V w.heap.size) z) :
    EgK P o ev h nw (fun v h' t => (K v h' t).holds M) := by
  intro β r a w ho hs hnw
  obtain ⟨z, h1, h2⟩ := hrun r a w ho
  obtain ⟨h3, h4⟩ := hs.poolNew hg T ds
  refine ⟨V w.heap.size, _, [], z, _, r, hK _ h3, .inl h1, Nm.le.refl r, fun _ _ e => e, h2, h4, fun id' B e hn => ?_⟩
  by_cases hid : id' = id
  · subst hid
    rw [hg] at e; cases e
    refine ⟨_, Heap.get_set_self hg _, .inr ⟨_, _, rfl, rfl, fun b q hb => ?_⟩⟩
    unfold Pool.put
    rw [if_neg (fun e => by subst e; rw [h3] at hb; cases hb)]; exact hb
  · exact ⟨B, by rw [Heap.get_set_ne hid]; exact e, .inl rfl⟩

/-! ## append in a pool -/
theorem Pool.set_nil (p : Pool) (o : Option (Nat × Nat)) : p.set o [] = p := by
  cases o with
  | none => rfl
  | some q =>
    obtain ⟨b, off⟩ := q
    funext x
    show (if x = b then (p b).map (fun q => (q.1, setAt q.2 off [])) else p x) = p x
    split
    · rename_i e
      subst e
      cases p x with
      | none => rfl
      | some q => simp [setAt]
    · rfl
theorem Heap.set_same {id : Nat} {B : Blk U} : ∀ {h : Heap U}, h.get id = some B → h.set id B = h
  | [], e => by cases e
  | (i, A) :: h, e => by
    unfold Heap.get at e
    cases hi : Nat.beq i id with
    | true => rw [hi] at e; cases e; simp [Heap.set, hi]
    | false => rw [hi] at e; simp [Heap.set, hi, Heap.set_same (h := h) e]
def psrc (p : Pool) (sz : Nat) (x : AV) (K : List PD → Nat → Out U) : Out U :=
  match x with
  | .nilS => K [] 0
  | .rs o len _ => .ex (List PD) fun ds => .need (ds.length = len * sz ∧ (len = 0 ∨ p.at o ds)) (K ds len)
  | _ => .bad 531
def pdst (p : Pool) (sz : Nat) (x : AV) (K : Option (Nat × Nat) → Nat → Nat → List PD → Out U) : Out U :=
  match x with
  | .nilS => K none 0 0 []
  | .rs o len cap => .ex (List PD) fun ds => .need (ds.length = len * sz ∧ (len = 0 ∨ p.at o ds)) (K o len cap ds)
  | _ => .bad 532
theorem psrc_sound {M : Goal U} {p : Pool} {sz : Nat} {x : AV} {K : List PD → Nat → Out U} (H : (psrc p sz x K).holds M) :
    ∃ ds len, (K ds len).holds M ∧ ds.length = len * sz ∧ ∀ (r : Nm) u, rel r x u → ∃ o cap, u = .slice (addrOf o) len cap ∧ (len = 0 ∨ p.at o ds) := by
  unfold psrc at H
  split at H
  · exact ⟨[], 0, H, by simp, fun r u hu => ⟨none, 0, hu, .inl rfl⟩⟩
  · rename_i o len cap
    obtain ⟨ds, ⟨h1, h2⟩, H⟩ := H
    exact ⟨ds, len, H, h1, fun r u hu => ⟨o, cap, hu, h2⟩⟩
  · exact H.elim
theorem pdst_sound {M : Goal U} {p : Pool} {sz : Nat} {x : AV} {K : Option (Nat × Nat) → Nat → Nat → List PD → Out U} (H : (pdst p sz x K).holds M) :
    ∃ o len cap ds, (K o len cap ds).holds M ∧ ds.length = len * sz ∧ (len = 0 ∨ p.at o ds) ∧ ∀ (r : Nm) u, rel r x u → u = .slice (addrOf o) len cap := by
  unfold pdst at H
  split at H
  · exact ⟨none, 0, 0, [], H, by simp, .inl rfl, fun r u hu => hu⟩
  · rename_i o len cap
    obtain ⟨ds, ⟨h1, h2⟩, H⟩ := H
    exact ⟨o, len, cap, ds, H, h1, h2, fun r u hu => hu⟩
  · exact H.elim
theorem pool_cells {p : Pool} {o : Option (Nat × Nat)} {ds : List PD} {len sz : Nat} (cap : Nat) (hd : ds.length = len * sz) (h : len = 0 ∨ p.at o ds) {w : World} (hw : p.hp.inW w) :
    ∀ w' : World, w'.heap = w.heap → (Builtin.firstCells sz len (.slice (addrOf o) len cap)).run P w' = .ok (ds.map PD.val).toArray w' := by
  intro w' hh
  rcases h with h | ⟨b, off, T, cs, rfl, hb, hle, hat⟩
  · subst h
    have : ds = [] := List.eq_nil_of_length_eq_zero (by simpa using hd)
    subst this
    cases o <;> simp [addrOf, Builtin.firstCells, loadCells, loadCellsFrom]
  · have hblk : w'.heap[b]? = some (.cells (cs.map PD.val).toArray T (0, 0)) := by rw [hh]; exact hw b _ (by simp [Pool.hp, hb, Pool.obj])
    show (Builtin.firstCells sz len (.slice (some ⟨b, off, none⟩) len cap)).run P w' = _
    refine run_firstCells_some (P := P) w' sz len ⟨b, off, none⟩ len cap _ (by simpa using hd) (fun j v hj => ?_)
    rw [Addr.add_lit, cell_of_row w' b _ _ T (0, 0) hblk]
    have hj' : j < ds.length := by have := (List.getElem?_eq_some_iff.1 hj).1; simpa using this
    rw [← hat] at hj
    simp only [List.getElem?_map, List.getElem?_take, hj', if_true, List.getElem?_drop] at hj
    simpa using hj
def papp (R : TyRow) (e sz : Nat) (s x : AV) (h : Heap U) (K : AV → Heap U → List Nat → Out U) : Out U :=
  match poolOf h, pdsOf R.zero with
  | some (id, p), some zs => psrc p sz x fun ds m => pdst p sz s fun o len cap old =>
     .need (len ≤ cap ∧ len + m ≤ 4294967296 ∧ (len + m) * R.bytes ≤ 140737488355328)
     (.ite (decide (len + m ≤ cap))
        (.need (m = 0 ∨ p.has (shiftA o (len * sz)) (m * sz)) (K (.rs o (len + m) cap) (h.set id (.pool (p.set (shiftA o (len * sz)) ds))) [id]))
        (.all Nat fun n => .all Nat fun sp => .asm (p n = none) (K (.rs (some (n, 0)) (len + m) (len + m + sp)) (h.set id (.pool (p.put n e (old ++ ds ++ (List.replicate sp zs).flatten)))) [])))
  | _, _ => .bad 533
def pbuild (R : TyRow) (e s n : Nat) (ps : List (Nat × AV)) (h : Heap U) (K : AV → Heap U → List Nat → Out U) : Out U :=
  bif Nat.ble (n * s) 16777216 && (ps.all fun q => q.2.plain) && Nat.beq R.zero.length s then
    (match fillAV (fun i => some (i * s, s)) ((List.replicate n R.zero).flatten) ps with
    | some cs => (match poolOf h, pdsOf cs with
      | some (id, p), some ds => .all Nat fun k => .asm (p k = none) (K (.rs (some (k, 0)) n n) (h.set id (.pool (p.put k e ds))) [])
      | _, _ => .bad 534)
    | none => .bad 535) else .bad 536

/-- What an append leaves, in one: in its own block, or in a new one. -/
structure App (p : Pool) (e sz : Nat) (zs : List PD) (o : Option (Nat × Nat)) (len cap m : Nat) (old ds : List PD) (p' : Pool) (o' : Option (Nat × Nat)) (cap' : Nat) : Prop where
  inn : len + m ≤ cap → p' = p.set (shiftA o (len * sz)) ds ∧ o' = o ∧ cap' = cap
  out : ¬ len + m ≤ cap → ∃ n sp, p n = none ∧ p' = p.put n e (old ++ ds ++ (List.replicate sp zs).flatten) ∧ o' = some (n, 0) ∧ cap' = len + m + sp
def pappA (R : TyRow) (e sz : Nat) (s x : AV) (h : Heap U) (K : AV → Heap U → List Nat → Out U) : Out U :=
  match poolOf h, pdsOf R.zero with
  | some (id, p), some zs => psrc p sz x fun ds m => pdst p sz s fun o len cap old =>
     .need (len ≤ cap ∧ len + m ≤ 4294967296 ∧ (len + m) * R.bytes ≤ 140737488355328 ∧ (len + m ≤ cap → m = 0 ∨ p.has (shiftA o (len * sz)) (m * sz)))
     (.all Pool fun p' => .all (Option (Nat × Nat)) fun o' => .all Nat fun cap' => .asm (App p e sz zs o len cap m old ds p' o' cap') (K (.rs o' (len + m) cap') (h.set id (.pool p')) [id]))
  | _, _ => .bad 533
theorem psrc_mono {M : Goal U} {p : Pool} {sz : Nat} {x : AV} {K K' : List PD → Nat → Out U} (h : ∀ ds m, (K ds m).holds M → (K' ds m).holds M) (H : (psrc p sz x K).holds M) : (psrc p sz x K').holds M := by
  unfold psrc at H ⊢
  split at H
  · exact h _ _ H
  · obtain ⟨ds, h1, H⟩ := H; exact ⟨ds, h1, h _ _ H⟩
  · exact H.elim
theorem pdst_mono {M : Goal U} {p : Pool} {sz : Nat} {x : AV} {K K' : Option (Nat × Nat) → Nat → Nat → List PD → Out U} (h : ∀ o l c ds, (K o l c ds).holds M → (K' o l c ds).holds M) (H : (pdst p sz x K).holds M) : (pdst p sz x K').holds M := by
  unfold pdst at H ⊢
  split at H
  · exact h _ _ _ _ H
  · obtain ⟨ds, h1, H⟩ := H; exact ⟨ds, h1, h _ _ _ _ H⟩
  · exact H.elim
theorem pappA_papp {M : Goal U} {R : TyRow} {e sz : Nat} {s x : AV} {h : Heap U} {K : AV → Heap U → List Nat → Out U} (H : (pappA R e sz s x h K).holds M) : ∃ id, (papp R e sz s x h fun v h' t => .need (∀ i ∈ t, i = id) (K v h' [id])).holds M := by
  unfold pappA at H
  split at H
  · rename_i id p zs hp hzs
    refine ⟨id, ?_⟩
    unfold papp
    rw [hp, hzs]
    refine psrc_mono (fun ds m H => pdst_mono (fun o len cap old H => ?_) H) H
    obtain ⟨⟨b0, b1, b2, b3⟩, H⟩ := H
    refine ⟨⟨b0, b1, b2⟩, fun hc => ⟨b3 (of_decide_eq_true hc), fun i hi => by simpa using hi, H _ _ _ ⟨fun _ => ⟨rfl, rfl, rfl⟩, fun hn => absurd (of_decide_eq_true hc) hn⟩⟩, fun hc n sp hn => ⟨fun i hi => (List.not_mem_nil hi).elim, H _ _ _ ⟨fun hh => absurd hh (of_decide_eq_false hc), fun _ => ⟨n, sp, hn, rfl, rfl, rfl⟩⟩⟩⟩
  · exact H.elim
def poolT (τ : Tab) (T : Nat) : Bool := match τ T with | some R => R.pool | none => false
def evalE (τ : Tab) (κ : Kinds U) (op : Op) (ev : Operand → AV) (h : Heap U) (nw : Nat) (K : AV → Heap U → List Nat → Out U) : Out U :=
  match op with
  | .alloc T => (match τ T with
    | some R => bif R.pool then (match poolOf h, pdsOf R.zero with
      | some (id, p), some ds => .all Nat fun n => .asm (p n = none) (K (.rp (some (n, 0))) (h.set id (.pool (p.put n T ds))) [])
      | _, _ => .bad 521) else evalE0 τ κ (.alloc T) ev h nw K
    | none => .bad 522)
  | .box T x => (match τ T with
    | some R => bif R.pool then (match poolOf h, pdsOf (cellsAV (ev x)) with
      | some (id, p), some ds => bif (ev x).plain then .all Nat fun n => .asm (p n = none) (K (.rp (some (n, 0))) (h.set id (.pool (p.put n T ds))) []) else .bad 523
      | _, _ => .bad 524) else evalE0 τ κ (.box T x) ev h nw K
    | none => evalE0 τ κ (.box T x) ev h nw K)
  | .makeSlice T l c => (match sliceOf τ T with
    | some (e, s) => (match τ e with
      | some R => bif R.pool then (match poolOf h, pdsOf R.zero, (ev l).num, (ev c).num with
        | some (id, p), some [d], some (_, a, _), some (_, b, _) => bif Nat.beq R.size 1 then .need (0 ≤ a ∧ a ≤ b ∧ b ≤ 4294967296 ∧ R.bytes ≤ 64)
            (.all Nat fun n => .asm (p n = none) (K (.rs (some (n, 0)) a.toNat b.toNat) (h.set id (.pool (p.put n e (List.replicate b.toNat d)))) [])) else .bad 525
        | _, _, _, _ => .bad 526) else evalE0 τ κ (.makeSlice T l c) ev h nw K
      | none => .bad 527)
    | none => .bad 528)
  | .store T q x => (match ev q with
    | .rp o => (match τ T, poolOf h, pdsOf (cellsAV (ev x)) with
      | some R, some (id, p), some ds => bif (ev x).plain && Nat.beq ds.length R.size then .need (p.has o ds.length) (K .und (h.set id (.pool (p.set o ds))) [id]) else .bad 529
      | _, _, _ => .bad 530)
    | _ => evalE0 τ κ (.store T q x) ev h nw K)
  | .buildSlice T n ps => (match sliceOf τ T with
    | some (e, s) => (match τ e with
      | some R => bif R.pool || poolT τ T then pbuild R e s n (ps.toList.map fun q => (q.1, ev q.2)) h K else evalE0 τ κ (.buildSlice T n ps) ev h nw K
      | none => .bad 537)
    | none => .bad 538)
  | .call c => (match c.callee, c.args.toList, c.argTypes.toList with
    | .builtin .append, [s, x], [T, T'] => (match sliceOf τ T with
      | some (e, sz) => (match τ e with
        | some R => bif R.pool && Nat.beq T T' then papp R e sz (ev s) (ev x) h K else bif poolT τ T && Nat.beq T T' then pappA R e sz (ev s) (ev x) h K else evalE0 τ κ (.call c) ev h nw K
        | none => evalE0 τ κ (.call c) ev h nw K)
      | none => evalE0 τ κ (.call c) ev h nw K)
    | _, _, _ => evalE0 τ κ (.call c) ev h nw K)
  | op => evalE0 τ κ op ev h nw K

theorem setAt_map {cs ds : List PD} {off : Nat} (h : off + ds.length ≤ cs.length) : setRangeV (cs.map PD.val) off (ds.map PD.val) = (setAt cs off ds).map PD.val := by
  rw [setRangeV_eq _ _ _ (by simpa using h)]
  simp [setAt, List.map_take, List.map_drop]

set_option maxHeartbeats 1000000 in
theorem papp_sound (hτ : τ.met P) {M : Goal U} {dst : Option Tmp} {type : Nat} {pos : String} {after : Array Edge} {guard : Option (Nat × Bool)} {ev : Operand → AV} {h : Heap U} {nw : Nat} {K : AV → Heap U → List Nat → Out U}
    {T e sz : Nat} {sx x : Operand} {R : TyRow} (hs : sliceOf τ T = some (e, sz)) (hR : τ e = some R) (H : (papp R e sz (ev sx) (ev x) h K).holds M) :
    EgK P ⟨dst, .call ⟨.builtin .append, #[sx, x], #[T, T]⟩, type, pos, after, guard⟩ ev h nw (fun v h' t => (K v h' t).holds M) := by
  unfold papp at H
  split at H
  · rename_i id p zs hp hzs
    obtain ⟨ds, m, H, d1, d2⟩ := psrc_sound H
    obtain ⟨o, len, cap, old, H, o1, o2, o3⟩ := pdst_sound H
    obtain ⟨⟨b0, b1, b2⟩, H⟩ := H
    obtain ⟨R', hR', hsz, hT⟩ := sliceOf_under hτ hs
    rw [hR] at hR'; cases hR'
    have hm := hτ e R hR
    obtain ⟨i, z, hi, his, hib, hz, hzsz, _, hrz⟩ := hm.info
    have hzv := pdsOf_val hzs hrz
    intro β r a w ho hsat hnw
    obtain ⟨os, caps, hsrc, hos⟩ := d2 r _ (ho x (by simp [Op.operands, Call.operands]))
    have hdst := o3 r _ (ho sx (by simp [Op.operands, Call.operands]))
    obtain ⟨H1, hd, hw, _⟩ := hsat.at (poolOf_get hp)
    have hd : H1 = p.hp := hd
    subst hd
    have ei : i.size = sz := by rw [his, hsz]
    have hmax : len + m ≤ maxLen := by simp only [maxLen]; omega
    obtain ⟨r1, r2, r3⟩ := run_append_pd (P := P) w T type e i z hT hi hz (a.eval x) m (ds.map PD.val) (fun w => by rw [hsrc]; rfl) (by rw [List.length_map, ei]; exact d1)
      (by rw [hsrc, ei]; exact pool_cells caps d1 hos hw) (fun u hu => by obtain ⟨d, _, rfl⟩ := List.mem_map.1 hu; exact PD.one d)
      (addrOf o) len cap (old.map PD.val) (by rw [ei]; exact pool_cells cap o1 o2 hw) hmax (by rw [hib]; exact b2)
    have hexec : ∀ v w', (Builtin.append_ #[T, T] type #[.slice (addrOf o) len cap, a.eval x]).run P w = .ok v w' →
        (execOp a.eval ⟨dst, .call ⟨.builtin .append, #[sx, x], #[T, T]⟩, type, pos, after, guard⟩).run P w = .ok (.value v) w' := fun v w' hv => by
      simp [execOp, resolve, invoke, builtin, hdst, hv]
    obtain ⟨H1, H2⟩ := H
    by_cases hroom : len + m ≤ cap
    · obtain ⟨hhas, H1⟩ := H1 (decide_eq_true hroom)
      by_cases hm0 : m = 0
      · have hds0 : ds = [] := List.eq_nil_of_length_eq_zero (by rw [d1, hm0]; simp)
        subst hds0
        rw [Pool.set_nil, Heap.set_same (poolOf_get hp)] at H1
        subst hm0
        exact ⟨_, h, [id], _, w, r, H1, .inl (hexec _ _ (r2 hroom rfl)), Nm.le.refl r, fun _ _ h => h, rfl, hsat, .of fun _ _ e _ => e⟩
      · obtain ⟨b, off, T', cs, hob, hb, hle⟩ := hhas.resolve_left hm0
        cases o with
        | none => cases hob
        | some q =>
          obtain ⟨bq, oq⟩ := q
          simp only [shiftA_some, Option.some.injEq, Prod.mk.injEq] at hob
          obtain ⟨rfl, rfl⟩ := hob
          have hblk : w.heap[bq]? = some (.cells (cs.map PD.val).toArray T' (0, 0)) := hw bq _ (by simp [Pool.hp, hb, Pool.obj])
          have hfit : oq + len * i.size + (ds.map PD.val).length ≤ ((cs.map PD.val).toArray).size := by rw [ei, List.length_map, d1]; simpa using hle
          have hr := r3 hroom bq oq _ T' rfl hblk hfit
          have hset : (List.take (oq + len * i.size) ((cs.map PD.val).toArray).toList ++ ds.map PD.val ++ List.drop (oq + len * i.size + (ds.map PD.val).length) ((cs.map PD.val).toArray).toList).toArray = ((setAt cs (oq + len * sz) ds).map PD.val).toArray := by
            rw [ei]; simp [setAt, List.map_take, List.map_drop]
          rw [hset] at hr
          refine ⟨_, _, [id], _, _, r, H1, .inl (hexec _ _ hr), Nm.le.refl r, fun _ _ h => h, rfl, ?_, .of fun id' B hg hne => by rw [Heap.get_set_ne (by simpa using hne)]; exact hg⟩
          exact hsat.poolSet (poolOf_get hp) hb (q' := (T', setAt cs (oq + len * sz) ds)) (by simp [Pool.set, hb]) (fun y hy => by simp [Pool.set, hy]) (by rw [setRow_heap w bq _ _ T' (0, 0) hblk]; rfl) (fun y hy => setRow_other w bq y _ hy) rfl rfl rfl
    · have hr := r1 hroom b0
      have hge := grownCap_ge w (len + m) cap e
      have hpos : 0 < z.cells.size ∨ z.cells.size = 0 := by omega
      have hob : (.cells ((old.map PD.val).toArray ++ (ds.map PD.val).toArray ++ Builtin.zeroCells z.cells (grownCap w (len + m) cap e - (len + m))) e : Obj) = Pool.obj (e, old ++ ds ++ (List.replicate (grownCap w (len + m) cap e - (len + m)) zs).flatten) := by
        unfold Pool.obj
        congr 1
        apply Array.ext'
        rcases hpos with h0 | h0
        · rw [Array.toList_append, Array.toList_append, zeroCells_list _ h0, hzv]
          simp [List.map_flatten, List.map_replicate]
        · have hz0 : z.cells = #[] := Array.eq_empty_of_size_eq_zero h0
          have hzs0 : zs = [] := by
            have : zs.map PD.val = [] := by rw [← hzv, hz0]
            simpa using this
          rw [Array.toList_append, Array.toList_append, hz0, hzs0]
          simp [Builtin.zeroCells]
      rw [hob] at hr
      obtain ⟨hfree, hsat'⟩ := (hsat.drew).poolNew (poolOf_get hp) e (old ++ ds ++ (List.replicate (grownCap w (len + m) cap e - (len + m)) zs).flatten)
      have hsz0 : w.drew.heap.size = w.heap.size := rfl
      have hcap : len + m + (grownCap w (len + m) cap e - (len + m)) = grownCap w (len + m) cap e := by omega
      have H2 := H2 (decide_eq_false hroom) w.heap.size (grownCap w (len + m) cap e - (len + m)) hfree
      refine ⟨_, _, [], _, _, r, H2, .inl (hexec _ _ hr), Nm.le.refl r, fun _ _ h => h, by rw [hcap]; rfl, hsat', fun id' B e' hn => ?_⟩
      by_cases hid : id' = id
      · subst hid
        rw [poolOf_get hp] at e'; cases e'
        refine ⟨_, Heap.get_set_self (poolOf_get hp) _, .inr ⟨_, _, rfl, rfl, fun b q hb => ?_⟩⟩
        unfold Pool.put
        rw [if_neg (fun e => by subst e; rw [show p w.heap.size = none from hfree] at hb; cases hb)]; exact hb
      · exact ⟨B, by rw [Heap.get_set_ne hid]; exact e', .inl rfl⟩
  · exact H.elim

set_option maxHeartbeats 1000000 in
theorem evalE_sound (hτ : τ.met P) {κ : Kinds U} (hκ : κ.met τ) {M : Goal U} {dst : Option Tmp} {op : Op} {type : Nat} {pos : String} {after : Array Edge} {guard : Option (Nat × Bool)} {ev : Operand → AV} {h : Heap U} {nw : Nat} {K : AV → Heap U → List Nat → Out U}
    (H : (evalE τ κ op ev h nw K).holds M) : EgK P ⟨dst, op, type, pos, after, guard⟩ ev h nw (fun v h' t => (K v h' t).holds M) := by
  cases op
  case alloc T =>
    simp only [evalE] at H
    split at H
    · rename_i R hR
      rw [holds_bif] at H
      split at H
      · split at H
        · rename_i id p ds hp hds
          refine eg_pool (poolOf_get hp) (V := fun n => .rp (some (n, 0))) (fun n hn => H n hn) fun r a w ho => ?_
          have hm := hτ T R hR
          obtain ⟨i, z, hi, _, _, hz, _, _, hrz⟩ := hm.info
          have hzv := pdsOf_val hds hrz
          refine ⟨.pointer (some ⟨w.heap.size, 0, none⟩), ?_, rfl⟩
          have : z.cells = (ds.map PD.val).toArray := by rw [← hzv]
          simp [execOp, Instr.alloc, zeroValue, typeInfo, hi, hz, newVar, newRow, this, Pool.obj]
        · exact H.elim
      · exact (evalE0_sound hτ hκ H).k
    · exact H.elim
  case box T x =>
    simp only [evalE] at H
    split at H
    · rename_i R hR
      rw [holds_bif] at H
      split at H
      · split at H
        · rename_i id p ds hp hds
          rw [holds_bif] at H
          split at H
          · rename_i hpl
            refine eg_pool (poolOf_get hp) (V := fun n => .rp (some (n, 0))) (fun n hn => H n hn) fun r a w ho => ?_
            have hxv := pdsOf_val hds (rel_cells hpl (ho x (by simp [Op.operands])))
            refine ⟨.pointer (some ⟨w.heap.size, 0, none⟩), ?_, rfl⟩
            have : (a.eval x).cells = (ds.map PD.val).toArray := by rw [← hxv]
            simp [execOp, Instr.box, newVar, newRow, this, Pool.obj]
          · exact H.elim
        · exact H.elim
      · exact (evalE0_sound hτ hκ H).k
    · exact (evalE0_sound hτ hκ H).k
  case makeSlice T l c =>
    simp only [evalE] at H
    split at H
    · rename_i e s hs
      split at H
      · rename_i R hR
        rw [holds_bif] at H
        split at H
        · split at H
          · rename_i id p d ka a0 la kb b0 lb hp hds hl hc
            rw [holds_bif] at H
            split at H
            · rename_i h1
              have h1 := Nat.eq_of_beq_eq_true h1
              obtain ⟨⟨g0, g1, g2, g3⟩, H⟩ := H
              refine eg_pool (poolOf_get hp) (V := fun n => .rs (some (n, 0)) a0.toNat b0.toNat) (fun n hn => H n hn) fun r a w ho => ?_
              obtain ⟨R', hR', hsz, hT⟩ := sliceOf_under hτ hs
              rw [hR] at hR'; cases hR'
              have hm := hτ e R hR
              obtain ⟨i, z, hi, his, hib, hz, hzs, _, hrz⟩ := hm.info
              have hzv := pdsOf_val hds hrz
              have e1 := rel_num hl (ho l (by simp [Op.operands]))
              have e2 := rel_num hc (ho c (by simp [Op.operands]))
              have hb63 : b0 ≤ 9223372036854775807 := by omega
              have hby : (R.bytes : Int) * b0 ≤ 281474976710656 := by
                have h16 : (R.bytes : Int) ≤ 64 := by omega
                have : (R.bytes : Int) * b0 ≤ 64 * b0 := Int.mul_le_mul_of_nonneg_right h16 (by omega)
                omega
              have hrun := run_make (P := P) w T e i z hT hi hz ka kb a0 b0 g0 g1 (by rw [hib]; exact hby) hb63
              have hcl : madeCells z.cells (b0.toNat * i.size) = ((List.replicate b0.toNat d).map PD.val).toArray := by
                have hzs1 : z.cells.size = 1 := by rw [hzs, h1]
                apply Array.ext'
                rw [his, h1, ← hzs1, madeCells_flatten z.cells (by omega), hzv]
                simp
              rw [hcl] at hrun
              refine ⟨_, run_value2 (z := .slice (some ⟨w.heap.size, 0, none⟩) a0.toNat b0.toNat) (by simp only [e1, e2]; exact hrun), rfl⟩
            · exact H.elim
          · exact H.elim
        · exact (evalE0_sound hτ hκ H).k
      · exact H.elim
    · exact H.elim
  case store T q x =>
    simp only [evalE] at H
    split at H
    · rename_i o hq
      split at H
      · rename_i R id p ds hR hp hds
        rw [holds_bif] at H
        split at H
        · rename_i hc
          simp only [Bool.and_eq_true] at hc
          have hlen := Nat.eq_of_beq_eq_true hc.2
          obtain ⟨⟨b, off, T', cs, rfl, hb, hle⟩, H⟩ := H
          intro β r a w ho hs hnw
          have e1 := ho q (by simp [Op.operands])
          rw [hq] at e1; simp only [rel] at e1
          have hxv := pdsOf_val hds (rel_cells hc.1 (ho x (by simp [Op.operands])))
          have hm := hτ T R hR
          obtain ⟨H1, hd, hw, _⟩ := hs.at (poolOf_get hp)
          have hd : H1 = p.hp := hd
          subst hd
          have hblk : w.heap[b]? = some (.cells (cs.map PD.val).toArray T' (0, 0)) := hw b _ (by simp [Pool.hp, hb, Pool.obj])
          have hsize : (a.eval x).cells.size = ds.length := by rw [← Array.length_toList, hxv]; simp
          have hrun := run_storeVar (P := P) hm (o := off) hblk (v := a.eval x) (by rw [hsize, hlen]) (by rw [hxv]; intro u hu; obtain ⟨d, _, rfl⟩ := List.mem_map.1 hu; exact PD.one d) (by rw [hsize]; simpa using hle)
          have hset : (setRangeV (cs.map PD.val).toArray.toList off (a.eval x).cells.toList).toArray = ((setAt cs off ds).map PD.val).toArray := by rw [hxv]; simp [setAt_map hle]
          rw [hset] at hrun
          refine ⟨.und, _, [id], undef, w.setRow b ((setAt cs off ds).map PD.val).toArray, r, H, .inr ⟨?_, rfl⟩, Nm.le.refl r, fun _ _ h => h, trivial, ?_, .of fun id' B hg hne => by rw [Heap.get_set_ne (by simpa using hne)]; exact hg⟩
          · simp only [execOp, e1, addrOf, Option.map_some, Instr.storeAt, Instr.sureAddr, Sem.run_bind, Sem.run_pure, Result.andThen_ok, hrun]
          · exact hs.poolSet (poolOf_get hp) hb (q' := (T', setAt cs off ds)) (by simp [Pool.set, hb]) (fun y hy => by simp [Pool.set, hy]) (by rw [setRow_heap w b _ _ T' (0, 0) hblk]; rfl) (fun y hy => setRow_other w b y _ hy) rfl rfl rfl
        · exact H.elim
      · exact H.elim
    · exact (evalE0_sound hτ hκ H).k
  case buildSlice T n ps =>
    simp only [evalE] at H
    split at H
    · rename_i e s hs
      split at H
      · rename_i R hR
        rw [holds_bif] at H
        split at H
        · unfold pbuild at H
          rw [holds_bif] at H
          split at H
          · rename_i hc
            simp only [Bool.and_eq_true] at hc
            obtain ⟨⟨hc1, hc2⟩, hc3⟩ := hc
            have hc1 := Nat.le_of_ble_eq_true hc1
            have hc3 := Nat.eq_of_beq_eq_true hc3
            split at H
            · rename_i cs hfill
              split at H
              · rename_i id p ds hp hds
                obtain ⟨R', hR', hsz, hT⟩ := sliceOf_under hτ hs
                rw [hR] at hR'; cases hR'
                refine eg_pool (poolOf_get hp) (V := fun k => .rs (some (k, 0)) n n) (fun k hk => H k hk) fun r a w ho => ?_
                have hm := hτ e R hR
                obtain ⟨i, z, hi, his, _, hz, hzs, _, hrz⟩ := hm.info
                have hzc : relL r R.zero z.cells.toList := relL_mono (fun _ _ e => by cases e) _ _ hrz
                have hcells : relL r (List.replicate n R.zero).flatten (if n * s = 0 then #[] else (madeCells z.cells (n * s))).toList := by
                  split
                  · rename_i h0
                    have : (List.replicate n R.zero).flatten = [] := by
                      apply List.eq_nil_of_length_eq_zero; simp [hc3, h0]
                    rw [this]; exact relL_nil
                  · rename_i h0
                    have hpos : 0 < z.cells.size := by
                      rw [hzs, hsz]; rcases Nat.eq_zero_or_pos s with h | h
                      · subst h; simp at h0
                      · exact h
                    rw [← hsz, ← hzs, madeCells_flatten z.cells hpos]
                    exact flatten_replicate_rel hzc n
                obtain ⟨ov, ho1, ho2⟩ := fill_sound (r := r) _ ((ps.map fun q => (q.1, a.eval q.2)).toList) _ cs (if n * s = 0 then #[] else (madeCells z.cells (n * s))) hfill hc2 (by simp) (fun j i x hj => by
                  simp only [List.getElem?_map, Option.map_eq_some_iff] at hj
                  obtain ⟨q, hq, he⟩ := hj
                  simp only [Prod.mk.injEq] at he
                  obtain ⟨rfl, rfl⟩ := he
                  refine ⟨a.eval q.2, by simp [hq], ho q.2 ?_⟩
                  simp only [Op.operands, List.mem_map]
                  exact ⟨q, List.mem_of_getElem? hq, rfl⟩) hcells
                have hov := pdsOf_val hds ho2
                refine ⟨.slice (some ⟨w.heap.size, 0, none⟩) n n, ?_, rfl⟩
                have hob : Pool.obj (e, ds) = .cells ov e := by unfold Pool.obj; rw [← hov]
                rw [hob]
                refine run_value2 ?_
                unfold Instr.buildSlice
                simp only [Sem.run_bind, run_underlying hT, Result.andThen_ok, run_sizeOf hm, hsz]
                rw [if_neg (by omega)]
                by_cases h0 : n * s = 0
                · simp only [h0, if_true] at ho1 ⊢
                  simp only [Sem.run_pure, Result.andThen_ok, Array.range_zero', Array.map_empty, ho1]
                  simp [newRow]
                · simp only [h0, if_false] at ho1 ⊢
                  simp only [madeCells] at ho1
                  simp only [Sem.run_bind, zeroValue, typeInfo, run_program, hi, hz, Sem.run_pure, Result.andThen_ok, ho1]
                  simp [newRow]
              · exact H.elim
            · exact H.elim
          · exact H.elim
        · exact (evalE0_sound hτ hκ H).k
      · exact H.elim
    · exact H.elim
  case call c =>
    simp only [evalE] at H
    split at H
    · rename_i sx x T T' hcal hargs htys
      split at H
      · rename_i e sz hs
        split at H
        · rename_i R hR
          rw [holds_bif] at H
          split at H
          · rename_i hc
            simp only [Bool.and_eq_true] at hc
            have hTT := Nat.eq_of_beq_eq_true hc.2
            subst hTT
            obtain ⟨callee, args, tys⟩ := c
            simp only at hcal hargs htys
            subst hcal
            have hargs : args = #[sx, x] := Array.ext' hargs
            have htys : tys = #[T, T] := Array.ext' htys
            subst hargs; subst htys
            exact papp_sound hτ hs hR H
          · rw [holds_bif] at H
            split at H
            · rename_i hc
              simp only [Bool.and_eq_true] at hc
              have hTT := Nat.eq_of_beq_eq_true hc.2
              subst hTT
              obtain ⟨callee, args, tys⟩ := c
              simp only at hcal hargs htys
              subst hcal
              have hargs : args = #[sx, x] := Array.ext' hargs
              have htys : tys = #[T, T] := Array.ext' htys
              subst hargs; subst htys
              obtain ⟨id, H⟩ := pappA_papp H
              intro β r a w ho hsat hnw
              obtain ⟨v, h', t, z, w', r', k1, k2, k3, k4, k5, k6, k7⟩ := papp_sound hτ hs hR H β r a w ho hsat hnw
              exact ⟨v, h', [id], z, w', r', k1.2, k2, k3, k4, k5, k6, fun i B e hn => k7 i B e fun hi => hn (by rw [k1.1 i hi]; exact List.mem_singleton.2 rfl)⟩
            · exact (evalE0_sound hτ hκ H).k
        · exact (evalE0_sound hτ hκ H).k
      · exact (evalE0_sound hτ hκ H).k
    · exact (evalE0_sound hτ hκ H).k
  all_goals exact (evalE0_sound hτ hκ (by simpa only [evalE] using H)).k

end
end Sx
end Go.Proofs.YtnegocgblmdihaaGreatDoor

/-
  One operation of any kind; operations in the order of the text.
-/
namespace Go.Proofs.YtnegocgblmdihaaGreatDoor
namespace Sx
open Go

section
variable {U : Uni} {P : Program} {τ : Tab}

def envGet : List (Nat × AV) → Nat → AV
  | [], _ => .und
  | (i, v) :: e, t => bif Nat.beq i t then v else envGet e t
def evO (env : List (Nat × AV)) : Operand → AV
  | .tmp t => envGet env t
  | .const v => constAV v
  | .global g => .raw (.pointer (some ⟨g, 0, none⟩))
  | .func f => .fn f [] []
def envPut (env : List (Nat × AV)) (dst : Option Nat) (v : AV) : List (Nat × AV) := match dst with | some d => (d, v) :: env | none => env

/-- What stood at a loop's head, by its words of now. -/
def backEnv (e0 e : List (Nat × AV)) : List (Nat × AV) := e0.map fun q => (q.1, envGet e q.1)
theorem envGet_back : ∀ (e0 e : List (Nat × AV)) (t : Nat), envGet (backEnv e0 e) t = envGet e t ∨ envGet (backEnv e0 e) t = .und
  | [], _, _ => .inr rfl
  | (i, v) :: e0, e, t => by
    show (bif Nat.beq i t then envGet e i else envGet (backEnv e0 e) t) = _ ∨ (bif Nat.beq i t then envGet e i else envGet (backEnv e0 e) t) = _
    cases h : Nat.beq i t with
    | true => rw [Nat.eq_of_beq_eq_true h]; exact .inl rfl
    | false => exact envGet_back e0 e t
def EnvOk (r : Nm) (env : List (Nat × AV)) (a : Act) : Prop := ∀ t, rel r (envGet env t) (a.tmps.getD t undef)

theorem EnvOk.back {r : Nm} {e0 e : List (Nat × AV)} {a : Act} (h : EnvOk r e a) : EnvOk r (backEnv e0 e) a := fun t => by
  rcases envGet_back e0 e t with k | k
  · rw [k]; exact h t
  · rw [k]; exact trivial
theorem evO_ok {r : Nm} {env : List (Nat × AV)} {a : Act} (h : EnvOk r env a) (x : Operand) : rel r (evO env x) (a.eval x) := by
  cases x with
  | tmp t => exact h t
  | const v => exact rel_constAV r v
  | global g => rfl
  | func f => exact ⟨[], [], relL_nil, relL_nil, rfl⟩
theorem EnvOk.mono {r s : Nm} (k : r.le s) {env : List (Nat × AV)} {a : Act} (h : EnvOk r env a) : EnvOk s env a := fun t => rel_mono k _ _ (h t)
theorem envGet_put {env : List (Nat × AV)} {d t : Nat} {v : AV} : envGet (envPut env (some d) v) t = if t = d then v else envGet env t := by
  show (bif Nat.beq d t then v else envGet env t) = _
  by_cases h : t = d
  · subst h; simp
  · have : Nat.beq d t = false := by cases e : Nat.beq d t with | true => exact absurd (Nat.eq_of_beq_eq_true e).symm h | false => rfl
    simp [this, h]
theorem getD_put (a : Act) (d t : Nat) (z : Value) : (a.put (some d) z).tmps.getD t undef = if t = d ∧ d < a.tmps.size then z else a.tmps.getD t undef := by
  simp only [Act.put, Array.getD_eq_getD_getElem?, Array.getElem?_setIfInBounds]
  by_cases h : d = t
  · subst h
    by_cases h2 : d < a.tmps.size <;> simp [h2]
  · have : ¬ t = d := fun e => h e.symm
    simp [h, this]
theorem EnvOk.put {r : Nm} {env : List (Nat × AV)} {a : Act} (h : EnvOk r env a) {dst : Option Nat} {v : AV} {z : Value} (hv : rel r v z) (hd : ∀ d, dst = some d → d < a.tmps.size) : EnvOk r (envPut env dst v) (a.put dst z) := by
  cases dst with
  | none => exact h
  | some d =>
    intro t
    rw [envGet_put, getD_put]
    by_cases ht : t = d
    · subst ht; simp only [true_and, if_true]; rw [if_pos (hd _ rfl)]; exact hv
    · rw [if_neg ht, if_neg (fun e => ht e.1)]; exact h t
theorem put_size (a : Act) (dst : Option Nat) (z : Value) : (a.put dst z).tmps.size = a.tmps.size := by cases dst <;> simp [Act.put]
theorem put_defers (a : Act) (dst : Option Nat) (z : Value) : (a.put dst z).defers = a.defers := by cases dst <;> rfl

def Fresh (r : Nm) (nx : Nat) : Prop := ∀ i, nx ≤ i → r i = none

/-- What a call does, seen from outside. -/
def CallsSx (P : Program) (f : Nat) (args : List AV) (h : Heap U) (nx : Nat) (R : AV → Heap U → Nat → List Nat → Prop) : Prop :=
  (∃ fn, P.funcs[f]? = some fn ∧ (fn.name == "runtime.NumGoroutine") = false ∧ fn.body.isNone = false) ∧
  ∀ (β : Base) (r : Nm) (vs : List Value) (w : World), relL r args vs → Sat β r h w → Fresh r nx →
    Calls P f vs.toArray w (fun e w' => ∃ v h' nx' T z r', e = .returned z ∧ R v h' nx' T ∧ r.le r' ∧ Fresh r' nx' ∧ rel r' v z ∧ Sat β r' h' w' ∧ Kept h h' T)

abbrev CallF (U : Uni) := Nat → List AV → Heap U → Nat → (AV → Heap U → Nat → List Nat → Out U) → Out U
def CallF.ok (P : Program) (M : Goal U) (C : CallF U) : Prop := ∀ f args h nx K, (C f args h nx K).holds M → CallsSx P f args h nx (fun v h' nx' T => (K v h' nx' T).holds M)

def isLz : Op → Bool
  | .move _ | .assign _ | .pick .. | .nilCheck _ | .binOp .. | .unOp .. | .convert .. | .field .. | .index .. | .extract .. | .fieldAddr .. | .indexAddr .. | .slice .. | .load .. | .makeFunc .. | .makeInterface .. | .build .. | .lookup .. => true
  | .call { callee := .builtin b, .. } => (match b with | .len | .min | .max => true | _ => false)
  | _ => false

/-- A method of a type, by its name. -/
def methIn (m : String) : List (String × Nat) → Option Nat
  | [] => none
  | q :: l => bif q.1 == m then some q.2 else methIn m l
def methOf (τ : Tab) (T : Nat) (m : String) : Option Nat := match τ T with | some R => methIn m R.meths | none => none
theorem methIn_mem {m : String} {g : Nat} : ∀ {l : List (String × Nat)}, methIn m l = some g → (m, g) ∈ l
  | [], h => by cases h
  | q :: l, h => by
    unfold methIn at h
    cases e : q.1 == m with
    | true =>
      rw [e] at h; simp only [cond_true, Option.some.injEq] at h
      have : q.1 = m := by simpa using e
      rw [← this, ← h]; exact List.mem_cons_self ..
    | false => rw [e] at h; exact List.mem_cons_of_mem _ (methIn_mem h)
theorem methOf_run (hτ : τ.met P) {T g : Nat} {m : String} (h : methOf τ T m = some g) (v : Value) (w : World) : (Go.method (P.types.size + Made.depth) T v m).run P w = .ok (g, v) w := by
  unfold methOf at h
  split at h
  · rename_i R hR
    exact (hτ T R hR).meths (m, g) (methIn_mem h) v w
  · cases h

def stepAny (τ : Tab) (κ : Kinds U) (C : CallF U) (op : Op) (env : List (Nat × AV)) (h : Heap U) (nx : Nat) (K : AV → Heap U → Nat → List Nat → Option Nat → Out U) : Out U :=
  bif isLz op then evalL τ κ op (evO env) h (fun v rd => K v h nx [] rd)
  else (match op with
    | .call { callee := .value f, args, .. } => (match evO env f with
      | .fn g fs cs => C g (fs ++ args.toList.map (evO env) ++ cs) h nx (fun v h' nx' T => K v h' nx' T none)
      | _ => .bad 200)
    | .call { callee := .invoke recv m, args, .. } => (match evO env recv with
      | .ifc T x => (match methOf τ T m with
        | some g => C g (x :: args.toList.map (evO env)) h nx (fun v h' nx' T => K v h' nx' T none)
        | none => .bad 201)
      | _ => .bad 202)
    | op => evalE τ κ op (evO env) h nx (fun v h' T => K v h' (nx + 1) T none))

/-- What an operation of any kind does. -/
def OpWp (P : Program) (o : Oper) (ev : Operand → AV) (h : Heap U) (nx : Nat) (R : AV → Heap U → Nat → List Nat → Prop) : Prop :=
  ∀ (β : Base) (r : Nm) (a : Act) (w : World), (∀ x ∈ o.op.operands.toList, rel r (ev x) (a.eval x)) → Sat β r h w → Fresh r nx →
    ∀ (next : Act → World → Prop) (Q : Exit → Act → World → Prop),
      (∀ v h' nx' T z w' r', R v h' nx' T → r.le r' → Fresh r' nx' → rel r' v z → Sat β r' h' w' → Kept h h' T → next (a.put o.dst z) w') → o.wp P a w next Q

theorem Kept.refl (h : Heap U) (T : List Nat) : Kept h h T := .of fun _ _ e _ => e

theorem stepAny_sound (hτ : τ.met P) {κ : Kinds U} (hκ : κ.met τ) {M : Goal U} {C : CallF U} (hC : C.ok P M) {o : Oper} {env : List (Nat × AV)} {h : Heap U} {nx : Nat} {K : AV → Heap U → Nat → List Nat → Option Nat → Out U}
    (H : (stepAny τ κ C o.op env h nx K).holds M) : OpWp P o (evO env) h nx (fun v h' nx' T => ∃ rd, (K v h' nx' T rd).holds M) := by
  obtain ⟨dst, op, type, pos, after, guard⟩ := o
  unfold stepAny at H
  rw [holds_bif] at H
  split at H
  · obtain ⟨v, rd, hK, hlz, hrd⟩ := evalL_sound (dst := dst) (type := type) (pos := pos) (after := after) (guard := guard) hτ hκ H
    intro β r a w ho hs hf next Q hn
    obtain ⟨z, hz, hr⟩ := hlz β r a w ho (fun id B e => by
      unfold rdOf at e
      split at e
      · split at e
        · rename_i hB; cases e; exact hs.at hB
        · cases e
      · cases e)
    unfold Oper.wp; rw [hz, Oper.upon_value]
    exact hn v h nx [] z w r ⟨rd, hK⟩ (Nm.le.refl r) hf hr hs (Kept.refl h [])
  · rename_i hl
    have eag : (evalE τ κ op (evO env) h nx (fun v h' T => K v h' (nx + 1) T none)).holds M → OpWp P ⟨dst, op, type, pos, after, guard⟩ (evO env) h nx (fun v h' nx' T => ∃ rd, (K v h' nx' T rd).holds M) := by
      intro H β r a w ho hs hf next Q hn
      obtain ⟨v, h', T, z, w', r', hK, hrun, g1, g2, g3, g4, g5⟩ := evalE_sound hτ hκ H β r a w ho hs (hf nx (Nat.le_refl _))
      have fin : next (a.put dst z) w' := hn v h' (nx + 1) T z w' r' ⟨none, hK⟩ g1 (fun i hi => g2 i (by omega) (hf i (by omega))) g3 g4 g5
      rcases hrun with hrun | ⟨hrun, rfl⟩
      · unfold Oper.wp; rw [hrun, Oper.upon_value]; exact fin
      · unfold Oper.wp; rw [hrun, Oper.upon_skip]; exact fin
    split at H
    · rename_i f args at' heq
      simp only at heq; subst heq
      split at H
      · rename_i g fs cs hfv
        obtain ⟨⟨fn, hfn, hnm, hbd⟩, hcalls⟩ := hC _ _ _ _ _ H
        intro β r a w ho hs hf next Q hn
        have hfx := ho f (by simp [Op.operands, Call.operands]); rw [hfv] at hfx
        obtain ⟨us, vs, hus, hvs, hfx⟩ := hfx
        have hargs : relL r (args.toList.map (evO env)) (args.toList.map a.eval) := by
          have : ∀ l : List Operand, (∀ x ∈ l, rel r (evO env x) (a.eval x)) → relL r (l.map (evO env)) (l.map a.eval) := by
            intro l
            induction l with
            | nil => intro _; exact relL_nil
            | cons x l ih => intro hh; exact relL_cons.2 ⟨hh x (by simp), ih fun y hy => hh y (by simp [hy])⟩
          exact this _ (fun x hx => ho x (by simp [Op.operands, Call.operands] at hx ⊢; simp [hx]))
        have hc := hcalls β r _ w (relL_append (relL_append hus hargs) hvs) hs hf
        have hrun : (execOp a.eval ⟨dst, .call ⟨.value f, args, at'⟩, type, pos, after, guard⟩).run P w = .ok (.enter g (us ++ args.toList.map a.eval ++ vs).toArray) w := by
          have e1 : (us.toArray ++ args.map a.eval ++ vs.toArray) = (us ++ args.toList.map a.eval ++ vs).toArray := by
            apply Array.ext'; simp
          have hcf : ∀ X, (callFunc g X).run P w = .ok (.enter g X) w := by
            intro X
            unfold callFunc
            simp only [Sem.run_bind, run_program, Result.andThen_ok, hfn, hnm, hbd, Bool.false_eq_true, if_false, Sem.run_pure]
          show (do let d ← resolve a.eval _ type; invoke d.target d.args : Sem Next).run P w = _
          simp only [resolve, hfx, Deferred.ofValue, Sem.run_bind, Sem.run_pure, Result.andThen_ok, invoke]
          rw [e1]; exact hcf _
        unfold Oper.wp; rw [hrun, Oper.upon_enter]
        refine hc.mono fun e w' hh => ?_
        obtain ⟨v, h', nx', T, z, r', rfl, hK, g1, g2, g3, g4, g5⟩ := hh
        exact hn v h' nx' T z w' r' ⟨none, hK⟩ g1 g2 g3 g4 g5
      · exact H.elim
    · rename_i recv m args at' heq
      simp only at heq; subst heq
      split at H
      · rename_i T x hrv
        split at H
        · rename_i g hg
          obtain ⟨⟨fn, hfn, hnm, hbd⟩, hcalls⟩ := hC _ _ _ _ _ H
          intro β r a w ho hs hf next Q hn
          have hfx := ho recv (by simp [Op.operands, Call.operands]); rw [hrv] at hfx
          obtain ⟨u, hu, hfx⟩ := hfx
          have hargs : relL r (args.toList.map (evO env)) (args.toList.map a.eval) := by
            have : ∀ l : List Operand, (∀ x ∈ l, rel r (evO env x) (a.eval x)) → relL r (l.map (evO env)) (l.map a.eval) := by
              intro l
              induction l with
              | nil => intro _; exact relL_nil
              | cons x l ih => intro hh; exact relL_cons.2 ⟨hh x (by simp), ih fun y hy => hh y (by simp [hy])⟩
            exact this _ (fun x hx => ho x (by simp [Op.operands, Call.operands] at hx ⊢; simp [hx]))
          have hc := hcalls β r (u :: args.toList.map a.eval) w (relL_cons.2 ⟨hu, hargs⟩) hs hf
          have hrun : (execOp a.eval ⟨dst, .call ⟨.invoke recv m, args, at'⟩, type, pos, after, guard⟩).run P w = .ok (.enter g (u :: args.toList.map a.eval).toArray) w := by
            have hcf : ∀ X, (callFunc g X).run P w = .ok (.enter g X) w := by
              intro X
              unfold callFunc
              simp only [Sem.run_bind, run_program, Result.andThen_ok, hfn, hnm, hbd, Bool.false_eq_true, if_false, Sem.run_pure]
            have e0 : (#[Value.iface T u] ++ args.map a.eval)[0]? = some (.iface T u) := by
              rw [Array.getElem?_append_left (by simp)]; rfl
            have e1 : #[u] ++ (#[Value.iface T u] ++ args.map a.eval).extract 1 (#[Value.iface T u] ++ args.map a.eval).size = (u :: args.toList.map a.eval).toArray := by
              apply Array.ext'; simp
              exact List.take_of_length_le (by simp)
            show (do let d ← resolve a.eval _ type; invoke d.target d.args : Sem Next).run P w = _
            simp only [resolve, hfx, Sem.run_bind, Sem.run_pure, Result.andThen_ok, invoke, e0, callMethod, run_program, methOf_run hτ hg, e1]
            exact hcf _
          unfold Oper.wp; rw [hrun, Oper.upon_enter]
          refine hc.mono fun e w' hh => ?_
          obtain ⟨v, h', nx', T, z, r', rfl, hK, g1, g2, g3, g4, g5⟩ := hh
          exact hn v h' nx' T z w' r' ⟨none, hK⟩ g1 g2 g3 g4 g5
        · exact H.elim
      · exact H.elim
    · exact eag H

/-! ## guards -/
inductive Want where
  | yes | no | ask (d : Nat) (b : Bool) | bad

def want? (ops : Array Oper) (env : List (Nat × AV)) (o : Oper) : Want :=
  match o.guard with
  | none => .yes
  | some (j, wt) => (match (ops[j]?).bind (·.dst) with
    | none => .no
    | some d => (match envGet env d with
      | .tt => bif wt then .yes else .no
      | .ff => bif wt then .no else .yes
      | .bool b => .ask d b
      | .raw (.tuple _) => .no
      | _ => .bad))

theorem want?_sound {ops : Array Oper} {env : List (Nat × AV)} {o : Oper} {r : Nm} {a : Act} (he : ∀ j wt d, o.guard = some (j, wt) → (ops[j]?).bind (·.dst) = some d → rel r (envGet env d) (a.tmps.getD d undef) ∧ d < a.tmps.size) :
    (want? ops env o = .yes → Region.wanted o (yielded ops a.tmps) = true) ∧ (want? ops env o = .no → Region.wanted o (yielded ops a.tmps) = false) := by
  unfold want? Region.wanted
  cases hg : o.guard with
  | none => exact ⟨fun _ => rfl, fun h => by cases h⟩
  | some q =>
    obtain ⟨j, wt⟩ := q
    simp only
    cases hd : (ops[j]?).bind (·.dst) with
    | none => exact ⟨fun h => (by cases h), fun _ => (by simp [yielded, hd])⟩
    | some d =>
      obtain ⟨h1, h2⟩ := he j wt d hg hd
      have hget : a.tmps[d]? = some (a.tmps.getD d undef) := by simp [Array.getD, h2]
      have hy : yielded ops a.tmps j = (match a.tmps.getD d undef with | .bool b => some b | _ => none) := by
        unfold yielded
        rw [hd]; simp only [Option.bind_some]; rw [hget]
        cases a.tmps.getD d undef <;> rfl
      simp only
      split
      · rename_i hx; rw [hx] at h1; simp only [rel] at h1; rw [hy, h1]; cases wt <;> simp
      · rename_i hx; rw [hx] at h1; simp only [rel] at h1; rw [hy, h1]; cases wt <;> simp
      · exact ⟨fun h => (by cases h), fun h => (by cases h)⟩
      · rename_i hx; rw [hx] at h1; simp only [rel] at h1; rw [hy, h1]; exact ⟨fun h => (by cases h), fun _ => (by simp)⟩
      · exact ⟨fun h => (by cases h), fun h => (by cases h)⟩

end
end Sx
end Go.Proofs.YtnegocgblmdihaaGreatDoor

/-
  Regions: in the order of the text, and in whatever order is drawn.
-/
namespace Go.Proofs.YtnegocgblmdihaaGreatDoor
namespace Sx
open Go

section
variable {U : Uni} {P : Program} {τ : Tab}

def elemN (l : List Nat) (i : Nat) : Bool := l.any (Nat.beq i ·)
theorem elemN_iff {l : List Nat} {i : Nat} : elemN l i = true ↔ i ∈ l := by
  unfold elemN; rw [List.any_eq_true]
  constructor
  · rintro ⟨x, hx, e⟩; rw [Nat.eq_of_beq_eq_true e]; exact hx
  · intro h; exact ⟨i, h, by simp⟩

/-- A frame and a world, as known. -/
structure SatS (β : Base) (r : Nm) (s : St U) (a : Act) (w : World) : Prop where
  sat : Sat β r s.heap w
  fresh : Fresh r s.nx
  env : EnvOk r s.env a
  size : a.tmps.size = s.nt
  defers : a.defers = []

/-- What was there is there still, but for what was touched. -/
structure Fr (s s' : St U) : Prop where
  tl : ∀ i, i ∈ s.tl → i ∈ s'.tl
  kept : Kept s.heap s'.heap s'.tl
  nt : s'.nt = s.nt
theorem Fr.refl (s : St U) : Fr s s := ⟨fun _ h => h, Kept.refl _ _, rfl⟩
theorem Fr.trans {s t u : St U} (h : Fr s t) (k : Fr t u) : Fr s u :=
  ⟨fun i hi => k.tl i (h.tl i hi), h.kept.comp k.kept (fun i hi => k.tl i hi) (fun _ hi => hi), k.nt.trans h.nt⟩
theorem Fr.step {s : St U} {env : List (Nat × AV)} {h' : Heap U} {nx : Nat} {T : List Nat} (k : Kept s.heap h' T) : Fr s { s with env := env, heap := h', nx := nx, tl := T ++ s.tl } :=
  ⟨fun i hi => List.mem_append.2 (.inr hi), fun id B e hn => k id B e (fun hh => hn (List.mem_append.2 (.inl hh))), rfl⟩

def exOf : EX → Exit
  | .nx => .normal
  | .rt => .ret
  | .ex id => .exit id

def WP (P : Program) (c : Code) (s : St U) (R : EX → St U → Prop) : Prop :=
  ∀ (β : Base) (r : Nm) (a : Act) (w : World), SatS β r s a w → ∀ Q : Exit → Act → World → Prop,
    (∀ e s' r' a' w', R e s' → r.le r' → SatS β r' s' a' w' → Fr s s' → Q (exOf e) a' w') → c.wp P Q a w

def dstOk (nt : Nat) (o : Oper) : Bool := match o.dst with | some d => Nat.blt d nt | none => true
def dstsOk (nt : Nat) (ops : Array Oper) : Bool := ops.toList.all (dstOk nt)
theorem dstsOk_lt {nt : Nat} {ops : Array Oper} (h : dstsOk nt ops = true) {i : Nat} {o : Oper} (ho : ops[i]? = some o) {d : Nat} (hd : o.dst = some d) : d < nt := by
  have hm : o ∈ ops.toList := by rw [Array.mem_toList_iff]; exact Array.mem_of_getElem? ho
  have := List.all_eq_true.1 h o hm
  simp only [dstOk, hd] at this
  exact Nat.le_of_ble_eq_true this

/-! ## in the order of the text -/
def seqOps (τ : Tab) (κ : Kinds U) (C : CallF U) (ops : Array Oper) : List Oper → St U → (St U → Out U) → Out U
  | [], s, K => K s
  | o :: rest, s, K =>
    let skip (s : St U) : Out U := seqOps τ κ C ops rest { s with env := envPut s.env o.dst (.raw undef) } K
    let go (s : St U) : Out U := stepAny τ κ C o.op s.env s.heap s.nx (fun v h' nx' T _ => seqOps τ κ C ops rest { s with env := envPut s.env o.dst v, heap := h', nx := nx', tl := T ++ s.tl } K)
    match want? ops s.env o with
    | .yes => go s
    | .no => skip s
    | .ask d b => (match o.guard with
      | some (_, true) => .ite b (go { s with env := (d, .tt) :: s.env }) (skip { s with env := (d, .ff) :: s.env })
      | some (_, false) => .ite b (skip { s with env := (d, .tt) :: s.env }) (go { s with env := (d, .ff) :: s.env })
      | none => .bad 210)
    | .bad => .bad 211

theorem EnvOk.refine {r : Nm} {env : List (Nat × AV)} {a : Act} (h : EnvOk r env a) {d : Nat} {x : AV} (hx : ∀ z, rel r (envGet env d) z → rel r x z) : EnvOk r ((d, x) :: env) a := by
  intro t
  show rel r (envGet (envPut env (some d) x) t) _
  rw [envGet_put]
  by_cases ht : t = d
  · subst ht; simp only [if_true]; exact hx _ (h t)
  · rw [if_neg ht]; exact h t

theorem want_ask {ops : Array Oper} {env : List (Nat × AV)} {o : Oper} {d : Nat} {b : Bool} (h : want? ops env o = .ask d b) :
    envGet env d = .bool b ∧ ∃ j wt, o.guard = some (j, wt) ∧ (ops[j]?).bind (·.dst) = some d := by
  unfold want? at h
  cases hg : o.guard with
  | none => rw [hg] at h; cases h
  | some q =>
    obtain ⟨j, wt⟩ := q
    rw [hg] at h; simp only at h
    cases hd : (ops[j]?).bind (·.dst) with
    | none => rw [hd] at h; cases h
    | some d' =>
      rw [hd] at h; simp only at h
      split at h <;> try (cases wt <;> (cases h; done))
      rename_i b' hb
      cases h
      exact ⟨hb, j, wt, rfl, hd⟩

theorem guard_slot {ops : Array Oper} {nt : Nat} (hd : dstsOk nt ops = true) {r : Nm} {env : List (Nat × AV)} {a : Act} (he : EnvOk r env a) (hs : a.tmps.size = nt) {o : Oper} :
    ∀ j wt d, o.guard = some (j, wt) → (ops[j]?).bind (·.dst) = some d → rel r (envGet env d) (a.tmps.getD d undef) ∧ d < a.tmps.size := by
  intro j wt d _ hb
  refine ⟨he d, ?_⟩
  cases ho : ops[j]? with
  | none => rw [ho] at hb; simp at hb
  | some p => rw [ho] at hb; simp at hb; rw [hs]; exact dstsOk_lt hd ho hb

theorem seqOps_sound (hτ : τ.met P) {κ : Kinds U} (hκ : κ.met τ) {M : Goal U} {C : CallF U} (hC : C.ok P M) {ops : Array Oper} {Q : Exit → Act → World → Prop} {K : St U → Out U} {β : Base} :
    ∀ (l : List Oper), (∀ o ∈ l, o ∈ ops.toList) → ∀ (s : St U) (r : Nm) (a : Act) (w : World), dstsOk s.nt ops = true → (seqOps τ κ C ops l s K).holds M → SatS β r s a w →
      (∀ s' r' a' w', (K s').holds M → r.le r' → SatS β r' s' a' w' → Fr s s' → Q .normal a' w') → wpList P ops Q l a w
  | [], _, s, r, a, w, _, H, hs, hQ => hQ s r a w H (Nm.le.refl r) hs (Fr.refl s)
  | o :: rest, hin, s, r, a, w, hd, H, hs, hQ => by
    have hoin := hin o (by simp)
    obtain ⟨i0, hi0⟩ := List.mem_iff_getElem?.1 hoin
    have hio : ops[i0]? = some o := by simpa using hi0
    have hdlt : ∀ d, o.dst = some d → d < s.nt := fun d e => dstsOk_lt hd hio e
    have goCase : ∀ (s1 : St U), s1.nt = s.nt → s1.heap = s.heap → s1.tl = s.tl → s1.nx = s.nx → SatS β r s1 a w → Region.wanted o (yielded ops a.tmps) = true →
        (stepAny τ κ C o.op s1.env s1.heap s1.nx (fun v h' nx' T _ => seqOps τ κ C ops rest { s1 with env := envPut s1.env o.dst v, heap := h', nx := nx', tl := T ++ s1.tl } K)).holds M → wpList P ops Q (o :: rest) a w := by
      intro s1 e1 e2 e3 e4 hs1 hw H
      simp only [wpList, hw, if_true]
      left
      have hop := stepAny_sound hτ hκ hC H
      refine hop β r a w (fun x _ => evO_ok hs1.env x) hs1.sat hs1.fresh _ _ ?_
      rintro v h' nx' T z w' r' ⟨_, hK⟩ g1 g2 g3 g4 g5
      have hsat : SatS β r' { s1 with env := envPut s1.env o.dst v, heap := h', nx := nx', tl := T ++ s1.tl } (a.put o.dst z) w' :=
        ⟨g4, g2, (hs1.env.mono g1).put g3 (fun d e => by rw [hs1.size, e1]; exact hdlt d e), by rw [put_size]; exact hs1.size, by rw [put_defers]; exact hs1.defers⟩
      refine seqOps_sound hτ hκ hC rest (fun p hp => hin p (by simp [hp])) _ r' _ w' (by show dstsOk s1.nt ops = true; rw [e1]; exact hd) hK hsat ?_
      intro s' r'' a' w'' hK' l1 hs' hf
      refine hQ s' r'' a' w'' hK' (g1.trans l1) hs' ?_
      have hf0 : Fr s { s1 with env := envPut s1.env o.dst v, heap := h', nx := nx', tl := T ++ s1.tl } :=
        ⟨fun i hi => List.mem_append.2 (.inr (by rw [e3]; exact hi)), fun id B e hn => g5 id B (by rw [e2]; exact e) (fun hh => hn (List.mem_append.2 (.inl hh))), e1⟩
      exact hf0.trans hf
    have skipCase : ∀ (s1 : St U), s1.nt = s.nt → s1.heap = s.heap → s1.tl = s.tl → s1.nx = s.nx → SatS β r s1 a w → Region.wanted o (yielded ops a.tmps) = false →
        (seqOps τ κ C ops rest { s1 with env := envPut s1.env o.dst (.raw undef) } K).holds M → wpList P ops Q (o :: rest) a w := by
      intro s1 e1 e2 e3 e4 hs1 hw H
      simp only [wpList, hw, Bool.false_eq_true, if_false]
      have hsat : SatS β r { s1 with env := envPut s1.env o.dst (.raw undef) } (a.put o.dst undef) w :=
        ⟨hs1.sat, hs1.fresh, hs1.env.put rfl (fun d e => by rw [hs1.size, e1]; exact hdlt d e), by rw [put_size]; exact hs1.size, by rw [put_defers]; exact hs1.defers⟩
      refine seqOps_sound hτ hκ hC rest (fun p hp => hin p (by simp [hp])) _ r _ w (by show dstsOk s1.nt ops = true; rw [e1]; exact hd) H hsat ?_
      intro s' r'' a' w'' hK' l1 hs' hf
      refine hQ s' r'' a' w'' hK' l1 hs' ?_
      have hf0 : Fr s { s1 with env := envPut s1.env o.dst (.raw undef) } := ⟨fun i hi => by show i ∈ s1.tl; rw [e3]; exact hi, fun id B e _ => ⟨B, by show s1.heap.get id = some B; rw [e2]; exact e, .inl rfl⟩, e1⟩
      exact hf0.trans hf
    have hwant := want?_sound (guard_slot hd hs.env hs.size (o := o))
    simp only [seqOps] at H
    split at H
    · rename_i hw
      exact goCase s rfl rfl rfl rfl hs (hwant.1 hw) H
    · rename_i hw
      exact skipCase s rfl rfl rfl rfl hs (hwant.2 hw) H
    · rename_i d b hw
      obtain ⟨hb, j, wt, hg, hjd⟩ := want_ask hw
      have ref : ∀ c : Bool, b = c → SatS β r { s with env := (d, bif c then .tt else .ff) :: s.env } a w ∧ Region.wanted o (yielded ops a.tmps) = (c == wt) := by
        intro c hc
        have hs1 : SatS β r { s with env := (d, bif c then .tt else .ff) :: s.env } a w := ⟨hs.sat, hs.fresh, hs.env.refine (fun z hz => by rw [hb] at hz; simp only [rel] at hz; subst hc; subst hz; cases b <;> simp [rel]), hs.size, hs.defers⟩
        refine ⟨hs1, ?_⟩
        obtain ⟨h1, h2⟩ := guard_slot hd hs1.env hs1.size j wt d hg hjd
        have hget : envGet ((d, bif c then AV.tt else AV.ff) :: s.env) d = bif c then AV.tt else AV.ff := by
          show envGet (envPut s.env (some d) _) d = _; rw [envGet_put]; simp
        have hw2 := want?_sound (ops := ops) (o := o) (guard_slot hd hs1.env hs1.size)
        unfold want? at hw2
        simp only [hg, hjd, hget] at hw2
        cases c <;> cases wt <;> simp at hw2 ⊢ <;> exact hw2
      split at H
      · rename_i j' hg'
        rw [hg] at hg'; cases hg'
        cases hbb : b with
        | true =>
          obtain ⟨h1, h2⟩ := ref true hbb
          exact goCase { s with env := (d, .tt) :: s.env } rfl rfl rfl rfl h1 (by simpa using h2) (H.1 hbb)
        | false =>
          obtain ⟨h1, h2⟩ := ref false hbb
          exact skipCase { s with env := (d, .ff) :: s.env } rfl rfl rfl rfl h1 (by simpa using h2) (H.2 hbb)
      · rename_i j' hg'
        rw [hg] at hg'; cases hg'
        cases hbb : b with
        | true =>
          obtain ⟨h1, h2⟩ := ref true hbb
          exact skipCase { s with env := (d, .tt) :: s.env } rfl rfl rfl rfl h1 (by simpa using h2) (H.1 hbb)
        | false =>
          obtain ⟨h1, h2⟩ := ref false hbb
          exact goCase { s with env := (d, .ff) :: s.env } rfl rfl rfl rfl h1 (by simpa using h2) (H.2 hbb)
      · exact H.elim
    · exact H.elim

theorem region_text (hτ : τ.met P) {κ : Kinds U} (hκ : κ.met τ) {M : Goal U} {C : CallF U} (hC : C.ok P M) {id : Nat} {ops : Array Oper} {s : St U} {K : St U → Out U}
    (hd : dstsOk s.nt ops = true) (H : (seqOps τ κ C ops ops.toList s K).holds M) : WP P (.region id ops false) s (fun e s' => e = .nx ∧ (K s').holds M) := by
  intro β r a w hs Q hQ
  refine wp_region ?_
  have := wpOps_eq_wpList (P := P) (ops := ops) (Q := Q) ops.toList 0 (fun j => by simp)
  rw [List.range_eq_range']
  have e : ops.toList.length = ops.size := by simp
  rw [e] at this
  rw [this]
  exact seqOps_sound hτ hκ hC ops.toList (fun _ h => h) s r a w hd H hs (fun s' r' a' w' hK l hs' hf => hQ .nx s' r' a' w' ⟨rfl, hK⟩ l hs' hf)

end
end Sx
end Go.Proofs.YtnegocgblmdihaaGreatDoor

/-
  A region whose order is drawn: what only reads is taken as soon as it may be; what writes in each order that the edges leave.
-/
namespace Go.Proofs.YtnegocgblmdihaaGreatDoor
namespace Sx
open Go

section
variable {U : Uni} {P : Program} {τ : Tab}

structure RS (U : Uni) where
  env : List (Nat × AV)
  heap : Heap U
  nx : Nat
  tl : List Nat
  done : List Nat
  rds : List (Nat × Nat)

def edgeOn (o : Oper) (i : Nat) : Bool := o.after.toList.any fun e => Region.binds .any e && Nat.beq e.on i
def readyB (done : List Nat) (o : Oper) : Bool := o.after.toList.all fun e => !(Region.binds .any e) || elemN done e.on
def looksB (ops : Array Oper) (o : Oper) (d : Nat) : Bool := elemN (o.looksAt ops) d
def dstIs (o : Oper) (d : Nat) : Bool := match o.dst with | some x => Nat.beq x d | none => false

def ancB (ops : Array Oper) : Nat → Nat → Nat → Bool
  | 0, _, _ => false
  | n + 1, i, j => (match ops[i]? with
    | some o => edgeOn o j || o.after.toList.any fun e => Region.binds .any e && ancB ops n e.on j
    | none => false)

/-- Loads that are not taken as soon as they may be, but in each order. -/
def slowTys : List Nat := []
def appB : Op → Bool
  | .call c => (match c.callee with | .builtin .append => true | _ => false)
  | _ => false
def slowB (ops : Array Oper) (i : Nat) : Op → Bool
  | .load T _ => elemN slowTys T && ops.toList.zipIdx.any fun q => appB q.1.op && !(ancB ops ops.size q.2 i)
  | _ => false
/-- Reads alone, and what it tells is no other one's, and whoever asks for it waits for it. -/
def lazyB (ops : Array Oper) (i : Nat) (o : Oper) : Bool :=
  isLz o.op && (match (bif slowB ops i o.op then none else o.dst) with
    | none => false
    | some d => ops.toList.zipIdx.all fun q => Nat.beq q.2 i || (!(dstIs q.1 d) && (!(looksB ops q.1 d) || edgeOn q.1 i)))

/-- Whoever asks for what this one writes waits for it, or comes ahead of it. -/
def eagerB (ops : Array Oper) (i : Nat) (o : Oper) : Bool :=
  match o.dst with
  | none => true
  | some d => ops.toList.zipIdx.all fun q => Nat.beq q.2 i || !(looksB ops q.1 d) || edgeOn q.1 i || ancB ops ops.size i q.2

def firstLazy (ops : Array Oper) (done : List Nat) : List (Oper × Nat) → Option (Oper × Nat)
  | [] => none
  | (o, i) :: l => bif !(elemN done i) && readyB done o && lazyB ops i o then some (o, i) else firstLazy ops done l

def readyAll (done : List Nat) (l : List (Oper × Nat)) : List (Oper × Nat) := l.filter fun q => !(elemN done q.2) && readyB done q.1

/-- No block that is lent. -/
def noRo : Heap U → Bool
  | [] => true
  | (_, .ro _ _) :: _ => false
  | (_, .rpool _) :: _ => false
  | _ :: h => noRo h
/-- What only makes a block of nothing. -/
def allocB (τ : Tab) : Op → Bool
  | .alloc T => (match τ T with | some R => !R.pool | none => false)
  | .makeMap _ none => true
  | .makeSlice T _ _ => (match sliceOf τ T with | some (e, _) => (match τ e with | some R => !R.pool | none => false) | none => false)
  | _ => false
/-- And nothing stands against it. -/
def mkOk (τ : Tab) (κ : Kinds U) (op : Op) (ev : Operand → AV) : Bool :=
  match op with
  | .makeSlice T l c => (match sliceOf τ T with
    | some (e, _) => (match κ e, τ e, (ev l).num, (ev c).num with
      | some _, some R, some (_, a, true), some (_, b, true) => decide (0 ≤ a ∧ a ≤ b ∧ (R.bytes : Int) * b ≤ 281474976710656)
      | _, _, _, _ => false)
    | none => false)
  | _ => true
/-- Such a one, where whoever waits for it waits for all that write. -/
def floatB (τ : Tab) (ops : Array Oper) (f : Nat) (o : Oper) : Bool :=
  allocB τ o.op && o.guard.isNone &&
  (match o.dst with
    | some d => ops.toList.zipIdx.all fun q => Nat.beq q.2 f || (!(dstIs q.1 d) && (!(looksB ops q.1 d) || edgeOn q.1 f))
    | none => false) &&
  (ops.toList.zipIdx.all fun p => !(ancB ops ops.size p.2 f) || (ops.toList.zipIdx.all fun k => Nat.beq k.2 f || lazyB ops k.2 k.1 || ancB ops ops.size k.2 f || ancB ops ops.size p.2 k.2)) &&
  (ops.toList.zipIdx.all fun q => Nat.beq q.2 f || ancB ops ops.size f q.2 || (match q.1.dst with | some d => !(looksB ops o d) | none => true))
def firstFl (τ : Tab) (ops : Array Oper) : List (Oper × Nat) → Option Nat
  | [] => none
  | (o, i) :: l => bif floatB τ ops i o then some i else firstFl τ ops l
def notFl (f : Nat) (q : Oper × Nat) : Bool := !(Nat.beq q.2 f)
def dropFl (l es : List (Oper × Nat)) : List (Oper × Nat) := match es with | [] => l | _ => es
def isFl (τ : Tab) (ops : Array Oper) (i : Nat) : Bool := match firstFl τ ops ops.toList.zipIdx with | some f => Nat.beq f i | none => false
/-- Those of which one is taken next: not what floats, as long as there is another one. -/
def hold (τ : Tab) (κ : Kinds U) (ops : Array Oper) (fz : Bool) (env : List (Nat × AV)) (l : List (Oper × Nat)) : List (Oper × Nat) :=
  bif Nat.ble l.length 1 then l else (match firstFl τ ops ops.toList.zipIdx with
    | none => l
    | some f => (match ops[f]? with
      | some o => bif fz && mkOk τ κ o.op (evO env) then dropFl l (l.filter (notFl f)) else l
      | none => l))

def bothAll : List (Out U) → Out U
  | [] => .bad 220
  | [o] => o
  | o :: os => .both o (bothAll os)

def putRd (i : Nat) (rd : Option Nat) (rds : List (Nat × Nat)) : List (Nat × Nat) := match rd with | some id => (i, id) :: rds | none => rds

def stable (ops : Array Oper) (i : Nat) (T : List Nat) (rds : List (Nat × Nat)) : Bool := rds.all fun q => ancB ops ops.size i q.1 || !(elemN T q.2)

def explore (τ : Tab) (κ : Kinds U) (C : CallF U) (ops : Array Oper) (fz : Bool) : Nat → RS U → (RS U → Out U) → Out U
  | 0, _, _ => .bad 221
  | n + 1, s, K =>
    match firstLazy ops s.done ops.toList.zipIdx with
    | some (o, i) => (match want? ops s.env o with
      | .yes => evalL τ κ o.op (evO s.env) s.heap (fun v rd => explore τ κ C ops fz n { s with env := envPut s.env o.dst v, done := i :: s.done, rds := putRd i rd s.rds } K)
      | .no => explore τ κ C ops fz n { s with env := envPut s.env o.dst (.raw undef), done := i :: s.done } K
      | .ask d b => .ite b (explore τ κ C ops fz n { s with env := (d, .tt) :: s.env } K) (explore τ κ C ops fz n { s with env := (d, .ff) :: s.env } K)
      | .bad => .bad 222)
    | none => (match hold τ κ ops fz s.env (readyAll s.done ops.toList.zipIdx) with
      | [] => bif Nat.beq s.done.length ops.size then K s else .bad 223
      | es => bothAll (es.map fun q => (bif isFl τ ops q.2 && fz && !(noRo s.heap) then .bad 228 else match want? ops s.env q.1 with
        | .yes => bif eagerB ops q.2 q.1 then stepAny τ κ C q.1.op s.env s.heap s.nx (fun v h' nx' T _ => bif stable ops q.2 T s.rds then explore τ κ C ops fz n { s with env := envPut s.env q.1.dst v, heap := h', nx := nx', tl := T ++ s.tl, done := q.2 :: s.done } K else .bad 224) else .bad 225
        | .no => bif eagerB ops q.2 q.1 then explore τ κ C ops fz n { s with env := envPut s.env q.1.dst (.raw undef), done := q.2 :: s.done } K else .bad 226
        | .ask d b => .ite b (explore τ κ C ops fz n { s with env := (d, .tt) :: s.env } K) (explore τ κ C ops fz n { s with env := (d, .ff) :: s.env } K)
        | .bad => .bad 227)))

/-- The same, the parts of the state by themselves: what hangs on the region alone is asked once. -/
def exploreD (τ : Tab) (κ : Kinds U) (C : CallF U) (ops : Array Oper) (fz : Bool) : Nat → List Nat → List (Nat × AV) → Heap U → Nat → List Nat → List (Nat × Nat) → (RS U → Out U) → Out U
  | 0, _, _, _, _, _, _, _ => .bad 221
  | n + 1, done, env, heap, nx, tl, rds, K =>
    match firstLazy ops done ops.toList.zipIdx with
    | some (o, i) => (match want? ops env o with
      | .yes => evalL τ κ o.op (evO env) heap (fun v rd => exploreD τ κ C ops fz n (i :: done) (envPut env o.dst v) heap nx tl (putRd i rd rds) K)
      | .no => exploreD τ κ C ops fz n (i :: done) (envPut env o.dst (.raw undef)) heap nx tl rds K
      | .ask d b => .ite b (exploreD τ κ C ops fz n done ((d, .tt) :: env) heap nx tl rds K) (exploreD τ κ C ops fz n done ((d, .ff) :: env) heap nx tl rds K)
      | .bad => .bad 222)
    | none => (match hold τ κ ops fz env (readyAll done ops.toList.zipIdx) with
      | [] => bif Nat.beq done.length ops.size then K ⟨env, heap, nx, tl, done, rds⟩ else .bad 223
      | es => bothAll (es.map fun q => (bif isFl τ ops q.2 && fz && !(noRo heap) then .bad 228 else match want? ops env q.1 with
        | .yes => bif eagerB ops q.2 q.1 then stepAny τ κ C q.1.op env heap nx (fun v h' nx' T _ => bif stable ops q.2 T rds then exploreD τ κ C ops fz n (q.2 :: done) (envPut env q.1.dst v) h' nx' (T ++ tl) rds K else .bad 224) else .bad 225
        | .no => bif eagerB ops q.2 q.1 then exploreD τ κ C ops fz n (q.2 :: done) (envPut env q.1.dst (.raw undef)) heap nx tl rds K else .bad 226
        | .ask d b => .ite b (exploreD τ κ C ops fz n done ((d, .tt) :: env) heap nx tl rds K) (exploreD τ κ C ops fz n done ((d, .ff) :: env) heap nx tl rds K)
        | .bad => .bad 227)))
theorem exploreD_eq (τ : Tab) (κ : Kinds U) (C : CallF U) (ops : Array Oper) (fz : Bool) : ∀ (n : Nat) (s : RS U) (K : RS U → Out U), explore τ κ C ops fz n s K = exploreD τ κ C ops fz n s.done s.env s.heap s.nx s.tl s.rds K
  | 0, _, _ => rfl
  | n + 1, s, K => by
    unfold explore exploreD
    simp only [exploreD_eq τ κ C ops fz n]

theorem bothAll_holds {M : Goal U} : ∀ {l : List (Out U)} {o : Out U}, (bothAll l).holds M → o ∈ l → o.holds M
  | [x], o, h, ho => by simp at ho; subst ho; exact h
  | x :: y :: l, o, h, ho => by
    obtain ⟨h1, h2⟩ := h
    rcases List.mem_cons.1 ho with rfl | ho
    · exact h1
    · exact bothAll_holds h2 ho

theorem firstLazy_some {ops : Array Oper} {done : List Nat} : ∀ {l : List (Oper × Nat)} {o : Oper} {i : Nat}, firstLazy ops done l = some (o, i) →
    (o, i) ∈ l ∧ i ∉ done ∧ readyB done o = true ∧ lazyB ops i o = true
  | [], _, _, h => by simp [firstLazy] at h
  | (p, j) :: l, o, i, h => by
    unfold firstLazy at h
    cases hc : (!(elemN done j) && readyB done p && lazyB ops j p) with
    | true =>
      rw [hc] at h; simp at h; obtain ⟨h1, h2⟩ := h
      subst h1; subst h2
      simp only [Bool.and_eq_true, Bool.not_eq_true'] at hc
      exact ⟨by simp, fun hm => by rw [elemN_iff.2 hm] at hc; simp at hc, hc.1.2, hc.2⟩
    | false =>
      rw [hc] at h; simp at h
      obtain ⟨h1, h2⟩ := firstLazy_some h
      exact ⟨by simp [h1], h2⟩
theorem firstLazy_none {ops : Array Oper} {done : List Nat} : ∀ {l : List (Oper × Nat)}, firstLazy ops done l = none → ∀ o i, (o, i) ∈ l → i ∉ done → readyB done o = true → lazyB ops i o = false
  | [], _, _, _, h, _, _ => by simp at h
  | (p, j) :: l, h, o, i, hm, hn, hr => by
    unfold firstLazy at h
    cases hc : (!(elemN done j) && readyB done p && lazyB ops j p) with
    | true => rw [hc] at h; simp at h
    | false =>
      rw [hc] at h; simp at h
      rcases List.mem_cons.1 hm with e | hm
      · have e1 : o = p := congrArg Prod.fst e
        have e2 : i = j := congrArg Prod.snd e
        rw [← e1, ← e2] at hc
        have : elemN done i = false := by cases e : elemN done i with | true => exact absurd (elemN_iff.1 e) hn | false => rfl
        rw [this, hr] at hc; simpa using hc
      · exact firstLazy_none h o i hm hn hr

theorem firstFl_some {τ : Tab} {ops : Array Oper} {f : Nat} : ∀ {l : List (Oper × Nat)}, firstFl τ ops l = some f → ∃ o, (o, f) ∈ l ∧ floatB τ ops f o = true
  | [], h => by cases h
  | (o, i) :: l, h => by
    unfold firstFl at h
    cases e : floatB τ ops i o with
    | true => rw [e] at h; simp at h; subst h; exact ⟨o, by simp, e⟩
    | false => rw [e] at h; simp at h; obtain ⟨o', h1, h2⟩ := firstFl_some h; exact ⟨o', List.mem_cons_of_mem _ h1, h2⟩
theorem dropFl_cases (l es : List (Oper × Nat)) : (es = [] ∧ dropFl l es = l) ∨ (es ≠ [] ∧ dropFl l es = es) := by
  cases es with
  | nil => exact .inl ⟨rfl, rfl⟩
  | cons q es => exact .inr ⟨by simp, rfl⟩
theorem hold_cases (τ : Tab) (κ : Kinds U) (ops : Array Oper) (fz : Bool) (env : List (Nat × AV)) (l : List (Oper × Nat)) : hold τ κ ops fz env l = l ∨
    ∃ f o, fz = true ∧ firstFl τ ops ops.toList.zipIdx = some f ∧ ops[f]? = some o ∧ mkOk τ κ o.op (evO env) = true ∧ l.filter (notFl f) ≠ [] ∧ hold τ κ ops fz env l = l.filter (notFl f) := by
  unfold hold
  cases h : Nat.ble l.length 1 with
  | true => exact .inl rfl
  | false =>
    simp only [cond_false]
    cases hf : firstFl τ ops ops.toList.zipIdx with
    | none => exact .inl rfl
    | some f =>
      simp only
      cases ho : ops[f]? with
      | none => exact .inl rfl
      | some o =>
        simp only
        cases hc : (fz && mkOk τ κ o.op (evO env)) with
        | false => exact .inl rfl
        | true =>
          simp only [Bool.and_eq_true] at hc
          simp only [cond_true]
          rcases dropFl_cases l (l.filter (notFl f)) with ⟨_, e⟩ | ⟨hn, e⟩
          · exact .inl e
          · exact .inr ⟨f, o, hc.1, rfl, ho, hc.2, hn, e⟩
theorem hold_nil {τ : Tab} {κ : Kinds U} {ops : Array Oper} {fz : Bool} {env : List (Nat × AV)} {l : List (Oper × Nat)} (h : hold τ κ ops fz env l = []) : l = [] := by
  rcases hold_cases τ κ ops fz env l with e | ⟨f, o, _, _, _, _, hn, e⟩
  · rw [e] at h; exact h
  · rw [e] at h; exact absurd h hn
theorem notFl_ne {f : Nat} {q : Oper × Nat} : notFl f q = true ↔ q.2 ≠ f := by
  unfold notFl
  cases hb : Nat.beq q.2 f with
  | true => simp [Nat.eq_of_beq_eq_true hb]
  | false => simp only [Bool.not_false, true_iff]; intro e; rw [e] at hb; simp at hb
/-- What is held back is what floats, and another one is there. -/
theorem hold_mem {τ : Tab} {κ : Kinds U} {ops : Array Oper} {fz : Bool} {env : List (Nat × AV)} {l : List (Oper × Nat)} {q : Oper × Nat} (h : q ∈ l) (hq : ops[q.2]? = some q.1) :
    q ∈ hold τ κ ops fz env l ∨ (fz = true ∧ firstFl τ ops ops.toList.zipIdx = some q.2 ∧ mkOk τ κ q.1.op (evO env) = true) := by
  rcases hold_cases τ κ ops fz env l with e | ⟨f, o, hz, hf, ho, hok, _, e⟩
  · rw [e]; exact .inl h
  · rw [e]
    by_cases he : q.2 = f
    · rw [he, ho] at hq; cases hq
      exact .inr ⟨hz, by rw [he]; exact hf, hok⟩
    · exact .inl (List.mem_filter.2 ⟨h, notFl_ne.2 he⟩)
theorem hold_sub {τ : Tab} {κ : Kinds U} {ops : Array Oper} {fz : Bool} {env : List (Nat × AV)} {l : List (Oper × Nat)} {q : Oper × Nat} (h : q ∈ hold τ κ ops fz env l) : q ∈ l := by
  rcases hold_cases τ κ ops fz env l with e | ⟨f, o, _, _, _, _, _, e⟩
  · rwa [e] at h
  · rw [e] at h; exact (List.mem_filter.1 h).1
theorem den_noRo {G G' : Hp} {r : Nm} : ∀ {h : Heap U} {H : Hp}, noRo h = true → h.den G r H → h.den G' r H
  | [], _, _, e => e
  | (id, B) :: h, H, hn, ⟨H1, H2, a, b, c, d⟩ => by
    have hn' : noRo h = true := by cases B <;> first | exact hn | (exact Bool.noConfusion hn)
    refine ⟨H1, H2, ?_, den_noRo hn' b, c, d⟩
    cases B <;> first | exact a | (exact Bool.noConfusion hn)
/-- What floats, done in the machine ahead: which one, its block, what lies there. -/
abbrev Fl := Option (Nat × Nat × Obj)
def baseFl (β : Base) : Fl → Base
  | none => β
  | some x => { β with G := β.G.join (Hp.one x.2.1 x.2.2) }
/-- What such a one does, wherever it is done. -/
def FlDo (P : Program) (op : Op) (ev : Operand → AV) (nw : Nat) (v : AV) (B : Blk U) : Prop :=
  ∀ (a : Act) (o : Oper) (w : World), o.op = op → (∃ r, ∀ x ∈ op.operands.toList, rel r (ev x) (a.eval x)) → ∃ ob z, (execOp a.eval o).run P w = .ok (.value z) (w.alloc ob) ∧ ∀ r' : Nm, r' nw = some (w.heap.size, 0) → rel r' v z ∧ ∀ G, B.den G r' nw (Hp.one w.heap.size ob)
theorem evalE0_split {κ : Kinds U} {M : Goal U} {op : Op} {ev : Operand → AV} {h : Heap U} {nw : Nat} {K : AV → Heap U → List Nat → Out U} (H : (evalE0 τ κ op ev h nw K).holds M) :
    ∃ X, (h.get nw = none ∨ nw ∈ X) ∧ (evalE1 τ κ op ev h nw X K).holds M := by
  unfold evalE0 at H
  rw [holds_bif] at H
  split at H
  · exact ⟨[nw], .inr (List.mem_singleton.2 rfl), H⟩
  · cases hn : h.get nw with
    | some B => rw [hn] at H; exact H.elim
    | none => rw [hn] at H; exact ⟨[], .inl rfl, H⟩
theorem alloc_shape {op : Op} (ha : allocB τ op = true) : (∃ T R, op = .alloc T ∧ τ T = some R ∧ R.pool = false) ∨ (∃ T, op = .makeMap T none) ∨ ∃ T l c e s R, op = .makeSlice T l c ∧ sliceOf τ T = some (e, s) ∧ τ e = some R ∧ R.pool = false := by
  cases op with
  | alloc T =>
    simp only [allocB] at ha
    cases hR : τ T with
    | none => rw [hR] at ha; cases ha
    | some R =>
      rw [hR] at ha
      exact .inl ⟨T, R, rfl, hR, by simpa using ha⟩
  | makeMap T rr =>
    cases rr with
    | some _ => cases ha
    | none => exact .inr (.inl ⟨T, rfl⟩)
  | makeSlice T l c =>
    simp only [allocB] at ha
    cases hs : sliceOf τ T with
    | none => rw [hs] at ha; cases ha
    | some q =>
      obtain ⟨e, s⟩ := q
      rw [hs] at ha; simp only at ha
      cases hR : τ e with
      | none => rw [hR] at ha; cases ha
      | some R =>
        rw [hR] at ha
        exact .inr (.inr ⟨T, l, c, e, s, R, rfl, hs, hR, by simpa using ha⟩)
  | _ => exact Bool.noConfusion ha
theorem evalE_alloc {κ : Kinds U} {T : Nat} {R : TyRow} {ev : Operand → AV} {h : Heap U} {nw : Nat} {K : AV → Heap U → List Nat → Out U} (hR : τ T = some R) (hp : R.pool = false) : evalE τ κ (.alloc T) ev h nw K = evalE0 τ κ (.alloc T) ev h nw K := by
  simp only [evalE, hR, hp, cond_false]
theorem evalE_makeMap {κ : Kinds U} {T : Nat} {ev : Operand → AV} {h : Heap U} {nw : Nat} {K : AV → Heap U → List Nat → Out U} : evalE τ κ (.makeMap T none) ev h nw K = evalE0 τ κ (.makeMap T none) ev h nw K := rfl
theorem evalE_makeSlice {κ : Kinds U} {T e s : Nat} {l c : Operand} {R : TyRow} {ev : Operand → AV} {h : Heap U} {nw : Nat} {K : AV → Heap U → List Nat → Out U} (hs : sliceOf τ T = some (e, s)) (hR : τ e = some R) (hp : R.pool = false) : evalE τ κ (.makeSlice T l c) ev h nw K = evalE0 τ κ (.makeSlice T l c) ev h nw K := by
  simp only [evalE, hs, hR, hp, cond_false]
theorem makeSlice_do (hτ : τ.met P) {κ : Kinds U} (hκ : κ.met τ) {T e s : Nat} {l c : Operand} {ev : Operand → AV} {k : U.K} {R : TyRow} {ka kb : IntKind} {a0 b0 : Int} {la lb : Bool} (hs : sliceOf τ T = some (e, s)) (hk : κ e = some k) (hR : τ e = some R) (hl : (ev l).num = some (ka, a0, la)) (hc : (ev c).num = some (kb, b0, lb))
    (h0 : 0 ≤ a0) (h1 : a0 ≤ b0) (h2 : (R.bytes : Int) * b0 ≤ 281474976710656) (nw : Nat) : FlDo P (.makeSlice T l c) ev nw (.sl (la && lb) nw 0 s a0.toNat b0.toNat) (.arr e k (List.replicate a0.toNat (U.enc k).dflt) (b0.toNat - a0.toNat)) := by
  rintro a o w ho ⟨r, hr⟩
  obtain ⟨dst, op, type, pos, after, guard⟩ := o
  have ho : op = .makeSlice T l c := ho
  subst ho
  obtain ⟨R', hR', hsz, hT⟩ := sliceOf_under hτ hs
  rw [hR] at hR'; cases hR'
  obtain ⟨R', hR', hw, hag, hby, hz0⟩ := hκ e k hk
  rw [hR] at hR'; cases hR'
  have hm := hτ e R hR
  obtain ⟨i, z, hi, his, hib, hz, hzs, _, hrz⟩ := hm.info
  have e1 := rel_num hl (hr l (by simp [Op.operands]))
  have e2 := rel_num hc (hr c (by simp [Op.operands]))
  have hb63 : b0 ≤ 9223372036854775807 := by
    have : (1 : Int) ≤ R.bytes := by omega
    have h3 : b0 ≤ (R.bytes : Int) * b0 := by
      have := Int.mul_le_mul_of_nonneg_right this (show 0 ≤ b0 by omega); simpa using this
    omega
  have hrun := run_make (P := P) w T e i z hT hi hz ka kb a0 b0 h0 h1 (by rw [hib]; exact h2) hb63
  refine ⟨_, _, run_value2 (z := .slice (some ⟨w.heap.size, 0, none⟩) a0.toNat b0.toNat) (by simp only [e1, e2]; exact hrun), fun r' hnw => ⟨⟨_, rfl, by omega, .inr ⟨_, hnw, by simp⟩⟩, fun G => ?_⟩⟩
  have hrowL : relL r' ((U.enc k).enc (U.enc k).dflt) z.cells.toList := hz0 r' _ (relL_mono (fun _ _ e => by cases e) _ _ hrz)
  refine .inr ⟨w.heap.size, _, hnw, ?_, ?_, ?_, rfl⟩
  · intro j x hj
    have hx : x = (U.enc k).dflt := by
      rw [List.getElem?_replicate] at hj; split at hj
      · cases hj; rfl
      · cases hj
    have hjl : j < a0.toNat := by
      rw [List.getElem?_replicate] at hj; split at hj
      · assumption
      · cases hj
    subst hx
    have hpos := (U.enc k).pos
    have hzw : z.cells.size = (U.enc k).w := by rw [hzs, hw]
    rw [his, ← hw, ← hzw, madeCells_flatten z.cells (by omega)]
    have hsplit : ((List.replicate b0.toNat z.cells.toList).flatten.drop (0 + j * z.cells.size)).take z.cells.size = z.cells.toList := by
      obtain ⟨n, hn'⟩ : ∃ n, b0.toNat = j + (n + 1) := ⟨b0.toNat - j - 1, by omega⟩
      rw [hn', ← List.replicate_append_replicate, List.flatten_append, List.replicate_succ, List.flatten_cons, Nat.zero_add]
      have hjl' : ((List.replicate j z.cells.toList).flatten).length = j * z.cells.size := by simp
      rw [← hjl', List.drop_left]
      simp
    rw [hsplit]; exact hrowL
  · simp only [size_madeCells, List.length_replicate, his, hw]; congr 1; omega
  · simp only [List.length_replicate, maxLen]; omega
theorem alloc_do (hτ : τ.met P) {T : Nat} {R : TyRow} (hR : τ T = some R) (ev : Operand → AV) (nw : Nat) : FlDo P (.alloc T) ev nw (.ptr nw 0) (.cells T R.zero : Blk U) := by
  intro a o w ho _
  obtain ⟨i, z, hi, _, _, hz, _, _, hrz⟩ := (hτ T R hR).info
  refine ⟨.cells z.cells T (0, 0), .pointer (some ⟨w.heap.size, 0, none⟩), by simp [execOp, ho, Instr.alloc, zeroValue, typeInfo, hi, hz, newVar, newRow], fun r' hnw => ⟨⟨_, hnw, rfl⟩, fun G => ⟨w.heap.size, z.cells.toList, hnw, ?_, by simp⟩⟩⟩
  exact relL_mono (fun _ _ e => by cases e) _ _ hrz
theorem makeMap_do {T : Nat} {kk : IntKind} {k : U.K} (ev : Operand → AV) (nw : Nat) : FlDo P (.makeMap T none) ev nw (.mp nw) (.mp kk k [] : Blk U) := fun a o w ho _ =>
  ⟨.map #[] 0, .map (some w.heap.size), by simp [execOp, ho, Instr.makeMap], fun r' hnw => ⟨⟨_, hnw, rfl⟩, fun G => ⟨w.heap.size, #[], 0, hnw, by simp [relM], MapKept.stamped_empty 0, rfl⟩⟩⟩
theorem float_eval (hτ : τ.met P) {κ : Kinds U} (hκ : κ.met τ) {M : Goal U} {op : Op} (ha : allocB τ op = true) {ev : Operand → AV} {h : Heap U} {nw : Nat} {K : AV → Heap U → List Nat → Out U} (H : (evalE τ κ op ev h nw K).holds M) :
    ∃ v B X, (K v ((nw, B) :: h) X).holds M ∧ (h.get nw = none ∨ nw ∈ X) ∧ FlDo P op ev nw v B := by
  rcases alloc_shape ha with ⟨T, R, rfl, hR, hp⟩ | ⟨T, rfl⟩ | ⟨T, l, c, e, s, R, rfl, hs, hR, hp⟩
  · rw [evalE_alloc hR hp] at H
    obtain ⟨X, hn, H⟩ := evalE0_split H
    unfold evalE1 at H
    simp only [hR] at H
    exact ⟨_, _, X, H, hn, alloc_do hτ hR _ _⟩
  · rw [evalE_makeMap] at H
    obtain ⟨X, hn, H⟩ := evalE0_split H
    unfold evalE1 at H
    simp only at H
    split at H
    · exact ⟨_, _, X, H, hn, makeMap_do _ _⟩
    · exact H.elim
  · rw [evalE_makeSlice hs hR hp] at H
    obtain ⟨X, hn, H⟩ := evalE0_split H
    unfold evalE1 at H
    simp only [hs] at H
    split at H
    · rename_i k R2 ka a0 la kb b0 lb hk hR2 hl hc
      rw [hR] at hR2; cases hR2
      obtain ⟨⟨h0, h1, h2⟩, H⟩ := H
      exact ⟨_, _, X, H, hn, makeSlice_do hτ hκ hs hk hR hl hc h0 h1 h2 _⟩
    · exact H.elim
theorem alloc_run (hτ : τ.met P) {κ : Kinds U} (hκ : κ.met τ) {o : Oper} (ha : allocB τ o.op = true) {ev : Operand → AV} (hok : mkOk τ κ o.op ev = true) {r : Nm} (a : Act) (w : World) (hops : ∀ x ∈ o.op.operands.toList, rel r (ev x) (a.eval x)) : ∃ ob z, (execOp a.eval o).run P w = .ok (.value z) (w.alloc ob) := by
  rcases alloc_shape ha with ⟨T, R, ho, hR, hp⟩ | ⟨T, ho⟩ | ⟨T, l, c, e, s, R, ho, hs, hR, hp⟩
  · obtain ⟨ob, z, h, _⟩ := alloc_do (U := U) hτ hR ev 0 a o w ho ⟨r, by rw [← ho]; exact hops⟩
    exact ⟨ob, z, h⟩
  · exact ⟨.map #[] 0, .map (some w.heap.size), by simp [execOp, ho, Instr.makeMap]⟩
  · rw [ho] at hok
    simp only [mkOk, hs] at hok
    split at hok
    · rename_i k R2 ka a0 kb b0 hk hR2 hl hc
      rw [hR] at hR2; cases hR2
      obtain ⟨h0, h1, h2⟩ := of_decide_eq_true hok
      obtain ⟨ob, z, h, _⟩ := makeSlice_do hτ hκ hs hk hR hl hc h0 h1 h2 0 a o w ho ⟨r, by rw [← ho]; exact hops⟩
      exact ⟨ob, z, h⟩
    · cases hok
theorem alloc_inj {w : World} {o o' : Obj} (h : w.alloc o = w.alloc o') : o = o' := by
  have h1 := heap_alloc_new w o
  have h2 := heap_alloc_new w o'
  rw [h] at h1
  exact Option.some.inj (h1.symm.trans h2)

theorem mem_zipIdx {ops : Array Oper} {o : Oper} {i : Nat} : (o, i) ∈ ops.toList.zipIdx ↔ ops[i]? = some o := by
  rw [List.mem_zipIdx_iff_getElem?]; simp

/-- What waits to be done tells what is known of it already. -/
def Pend (P : Program) (ops : Array Oper) (s : RS U) (i : Nat) (o : Oper) : Prop :=
  (want? ops s.env o = .yes ∧ ∃ v rd, (∀ id B, rd = some (id, B) → s.heap.atLeast id B ∧ (i, id) ∈ s.rds) ∧ Lz P o (evO s.env) v rd ∧ ∀ d, o.dst = some d → ∀ r z, rel r v z → rel r (envGet s.env d) z) ∨
  (want? ops s.env o = .no ∧ ∀ d, o.dst = some d → envGet s.env d = .raw undef)

structure FlOk (P : Program) (τ : Tab) (ops : Array Oper) (fz : Bool) (β : Base) (done : List Nat) (env : List (Nat × AV)) (L : Array Bool) (a : Act) (f b : Nat) (ob : Obj) : Prop where
  z : fz = true
  no : f ∉ done
  yes : L.getD f false = true
  fl : firstFl τ ops ops.toList.zipIdx = some f
  free : β.G b = none
  ex : ∃ (o : Oper) (d : Nat) (a0 : Act) (w0 : World), ops[f]? = some o ∧ o.dst = some d ∧ w0.heap.size = b ∧ (execOp a0.eval o).run P w0 = .ok (.value (a.tmps.getD d undef)) (w0.alloc ob) ∧ ∃ r, ∀ x ∈ o.op.operands.toList, rel r (evO env x) (a0.eval x)
structure Inv (P : Program) (τ : Tab) (ops : Array Oper) (fz : Bool) (nt : Nat) (β : Base) (r : Nm) (s : RS U) (L : Array Bool) (a : Act) (w : World) (fl : Fl) : Prop where
  size : L.size = ops.size
  sub : ∀ i, L.getD i false = true → i ∈ s.done ∨ ∃ x, fl = some (i, x)
  eag : ∀ i o, ops[i]? = some o → i ∈ s.done → lazyB ops i o = false → L.getD i false = true
  down : ∀ i o, ops[i]? = some o → L.getD i false = true → ∀ e ∈ o.after.toList, Region.binds .any e = true → L.getD e.on false = true
  ddown : ∀ i o, ops[i]? = some o → i ∈ s.done → ∀ e ∈ o.after.toList, Region.binds .any e = true → e.on ∈ s.done
  nodup : s.done.Nodup ∧ ∀ i ∈ s.done, i < ops.size
  sat : Sat (baseFl β fl) r s.heap w
  fresh : Fresh r s.nx
  slots : ∀ t, (∀ i o, ops[i]? = some o → i ∈ s.done → L.getD i false = false → o.dst ≠ some t) → (∀ f x o, fl = some (f, x) → ops[f]? = some o → o.dst ≠ some t) → rel r (envGet s.env t) (a.tmps.getD t undef)
  pend : ∀ i o, ops[i]? = some o → i ∈ s.done → L.getD i false = false → Pend P ops s i o
  asize : a.tmps.size = nt
  defers : a.defers = []
  flo : ∀ f b ob, fl = some (f, b, ob) → FlOk P τ ops fz β s.done s.env L a f b ob

theorem Lz.weaken {o : Oper} {ev ev' : Operand → AV} {v : AV} {rd : Option (Nat × Blk U)} (h : Lz P o ev v rd) (k : ∀ x ∈ o.op.operands.toList, ∀ r z, rel r (ev' x) z → rel r (ev x) z) : Lz P o ev' v rd :=
  fun β r a w ho hr => h β r a w (fun x hx => k x hx r _ (ho x hx)) hr

theorem looks_tmp {ops : Array Oper} {o : Oper} {t : Nat} (h : Operand.tmp t ∈ o.op.operands.toList) : t ∈ o.looksAt ops := by
  unfold Oper.looksAt
  refine List.mem_append.2 (.inl (List.mem_filterMap.2 ⟨_, h, rfl⟩))
theorem looks_guard {ops : Array Oper} {o : Oper} {j d : Nat} {wt : Bool} (h : o.guard = some (j, wt)) (hd : (ops[j]?).bind (·.dst) = some d) : d ∈ o.looksAt ops := by
  unfold Oper.looksAt
  refine List.mem_append.2 (.inr ?_)
  rw [h]; simp only [hd]; simp

theorem evO_put {env : List (Nat × AV)} {d : Nat} {v : AV} {x : Operand} (h : x ≠ .tmp d) : evO (envPut env (some d) v) x = evO env x := by
  cases x with
  | tmp t => show envGet _ t = envGet _ t; rw [envGet_put, if_neg (fun e => h (by rw [e]))]
  | _ => rfl
theorem want_put {ops : Array Oper} {env : List (Nat × AV)} {o : Oper} {d : Nat} {v : AV} (h : d ∉ o.looksAt ops) : want? ops (envPut env (some d) v) o = want? ops env o := by
  unfold want?
  cases hg : o.guard with
  | none => rfl
  | some q =>
    obtain ⟨j, wt⟩ := q
    simp only
    cases hd : (ops[j]?).bind (·.dst) with
    | none => rfl
    | some d' =>
      simp only
      rw [envGet_put, if_neg (fun e => h (by have := looks_guard hg hd; rw [e] at this; exact this))]

/-- What is pending stays so where neither its words nor its block turn. -/
theorem Pend.keep {ops : Array Oper} {s s' : RS U} {i : Nat} {o : Oper} (h : Pend P ops s i o) {d : Nat} {v : AV} (he : s'.env = envPut s.env (some d) v) (hl : d ∉ o.looksAt ops) (hd : o.dst ≠ some d)
    (hh : ∀ id B, s.heap.get id = some B → (i, id) ∈ s.rds → s'.heap.atLeast id B) (hr : ∀ q ∈ s.rds, q ∈ s'.rds) : Pend P ops s' i o := by
  have hev : ∀ x ∈ o.op.operands.toList, evO s'.env x = evO s.env x := fun x hx => by
    rw [he]; exact evO_put (fun e => hl (looks_tmp (e ▸ hx)))
  rcases h with ⟨h1, v', rd, h2, h3, h4⟩ | ⟨h1, h2⟩
  · refine .inl ⟨by rw [he, want_put hl]; exact h1, v', rd, fun id B e => ?_, h3.weaken (fun x hx r z hz => by rw [hev x hx] at hz; exact hz), fun d' e r z hz => ?_⟩
    · obtain ⟨⟨B', g1, gl⟩, g2⟩ := h2 id B e; obtain ⟨B'', k1, k2⟩ := hh id B' g1 g2; exact ⟨⟨B'', k1, gl.trans k2⟩, hr _ g2⟩
    · rw [he, envGet_put, if_neg (fun e' => hd (by rw [e, e']))]; exact h4 d' e r z hz
  · refine .inr ⟨by rw [he, want_put hl]; exact h1, fun d' e => ?_⟩
    rw [he, envGet_put, if_neg (fun e' => hd (by rw [e, e']))]; exact h2 d' e
theorem Pend.keepN {ops : Array Oper} {s s' : RS U} {i : Nat} {o : Oper} (h : Pend P ops s i o) (he : s'.env = s.env)
    (hh : ∀ id B, s.heap.get id = some B → (i, id) ∈ s.rds → s'.heap.atLeast id B) (hr : ∀ q ∈ s.rds, q ∈ s'.rds) : Pend P ops s' i o := by
  rcases h with ⟨h1, v', rd, h2, h3, h4⟩ | ⟨h1, h2⟩
  · exact .inl ⟨by rw [he]; exact h1, v', rd, fun id B e => let ⟨⟨B', g1, gl⟩, g2⟩ := h2 id B e; let ⟨B'', k1, k2⟩ := hh id B' g1 g2; ⟨⟨B'', k1, gl.trans k2⟩, hr _ g2⟩, by rw [he]; exact h3, by rw [he]; exact h4⟩
  · exact .inr ⟨by rw [he]; exact h1, by rw [he]; exact h2⟩

theorem lazy_dst {ops : Array Oper} {i : Nat} {o : Oper} (h : lazyB ops i o = true) : isLz o.op = true ∧ ∃ d, o.dst = some d ∧ ∀ j p, ops[j]? = some p → j ≠ i → p.dst ≠ some d ∧ (d ∈ p.looksAt ops → edgeOn p i = true) := by
  unfold lazyB at h
  simp only [Bool.and_eq_true] at h
  obtain ⟨h1, h2⟩ := h
  cases hsl : slowB ops i o.op with
  | true => rw [hsl] at h2; simp at h2
  | false =>
  rw [hsl] at h2; simp only [cond_false] at h2
  cases hd : o.dst with
  | none => rw [hd] at h2; simp at h2
  | some d =>
    rw [hd] at h2; simp only at h2
    refine ⟨h1, d, rfl, fun j p hp hj => ?_⟩
    have := List.all_eq_true.1 h2 (p, j) (mem_zipIdx.2 hp)
    simp only [Bool.or_eq_true, Bool.and_eq_true, Bool.not_eq_true'] at this
    rcases this with h | ⟨ha, hb⟩
    · exact absurd (Nat.eq_of_beq_eq_true h) hj
    · refine ⟨fun e => ?_, fun hm => ?_⟩
      · simp [dstIs, e] at ha
      · rcases hb with hb | hb
        · have : looksB ops p d = true := elemN_iff.2 hm
          rw [this] at hb; cases hb
        · exact hb
theorem edge_mem {o : Oper} {i : Nat} (h : edgeOn o i = true) : ∃ e ∈ o.after.toList, Region.binds .any e = true ∧ e.on = i := by
  unfold edgeOn at h
  obtain ⟨e, he, hb⟩ := List.any_eq_true.1 h
  simp only [Bool.and_eq_true] at hb
  exact ⟨e, he, hb.1, Nat.eq_of_beq_eq_true hb.2⟩
theorem anc_listed {ops : Array Oper} {L : Array Bool} (down : ∀ i o, ops[i]? = some o → L.getD i false = true → ∀ e ∈ o.after.toList, Region.binds .any e = true → L.getD e.on false = true) :
    ∀ (n i j : Nat), ancB ops n i j = true → (∀ o, ops[i]? = some o → ∀ e ∈ o.after.toList, Region.binds .any e = true → L.getD e.on false = true) → L.getD j false = true
  | 0, _, _, h, _ => by simp [ancB] at h
  | n + 1, i, j, h, hr => by
    unfold ancB at h
    cases ho : ops[i]? with
    | none => rw [ho] at h; simp at h
    | some o =>
      rw [ho] at h; simp only [Bool.or_eq_true] at h
      rcases h with h | h
      · obtain ⟨e, he, hb, rfl⟩ := edge_mem h; exact hr o ho e he hb
      · obtain ⟨e, he, hb⟩ := List.any_eq_true.1 h
        simp only [Bool.and_eq_true] at hb
        have hl := hr o ho e he hb.1
        exact anc_listed down n e.on j hb.2 (fun o' ho' e' he' hb' => down e.on o' ho' hl e' he' hb')


theorem alloc_lz {τ : Tab} {op : Op} (h : allocB τ op = true) : isLz op = false := by
  cases op <;> simp only [allocB] at h <;> first | rfl | cases h
theorem fl_op {τ : Tab} {ops : Array Oper} {f : Nat} (h : firstFl τ ops ops.toList.zipIdx = some f) {o : Oper} (ho : ops[f]? = some o) : floatB τ ops f o = true := by
  obtain ⟨o', h1, h2⟩ := firstFl_some h
  have := mem_zipIdx.1 h1
  rw [ho] at this; cases this; exact h2
theorem fl_lazy {τ : Tab} {ops : Array Oper} {f : Nat} (h : firstFl τ ops ops.toList.zipIdx = some f) {o : Oper} (ho : ops[f]? = some o) : lazyB ops f o = false := by
  have h2 := fl_op h ho
  unfold floatB at h2
  simp only [Bool.and_eq_true] at h2
  unfold lazyB
  rw [alloc_lz h2.1.1.1.1]; rfl
theorem fl_dst {τ : Tab} {ops : Array Oper} {f : Nat} (h : firstFl τ ops ops.toList.zipIdx = some f) {o : Oper} (ho : ops[f]? = some o) : allocB τ o.op = true ∧ o.guard = none ∧ ∃ d, o.dst = some d ∧ ∀ j p, ops[j]? = some p → j ≠ f → p.dst ≠ some d ∧ (d ∈ p.looksAt ops → edgeOn p f = true) := by
  have h2 := fl_op h ho
  unfold floatB at h2
  simp only [Bool.and_eq_true] at h2
  obtain ⟨⟨⟨⟨h3, h4⟩, h5⟩, _⟩, _⟩ := h2
  refine ⟨h3, by simpa using h4, ?_⟩
  cases hd : o.dst with
  | none => rw [hd] at h5; cases h5
  | some d =>
    rw [hd] at h5; simp only at h5
    refine ⟨d, rfl, fun j p hp hj => ?_⟩
    have := List.all_eq_true.1 h5 (p, j) (mem_zipIdx.2 hp)
    simp only [Bool.or_eq_true, Bool.and_eq_true, Bool.not_eq_true'] at this
    rcases this with h | ⟨ha, hb⟩
    · exact absurd (Nat.eq_of_beq_eq_true h) hj
    · refine ⟨fun e => ?_, fun hm => ?_⟩
      · simp [dstIs, e] at ha
      · rcases hb with hb | hb
        · have : looksB ops p d = true := elemN_iff.2 hm
          rw [this] at hb; cases hb
        · exact hb
/-- Who waits for what floats waits for all that write. -/
theorem fl_anc {τ : Tab} {ops : Array Oper} {f : Nat} (h : firstFl τ ops ops.toList.zipIdx = some f) {j k : Nat} {p q : Oper} (hp : ops[j]? = some p) (hj : ancB ops ops.size j f = true) (hq : ops[k]? = some q) (hk : k ≠ f) (hl : lazyB ops k q = false) (hn : ancB ops ops.size k f = false) : ancB ops ops.size j k = true := by
  obtain ⟨o, ho, _⟩ := firstFl_some h
  have h2 := fl_op h (mem_zipIdx.1 ho)
  unfold floatB at h2
  simp only [Bool.and_eq_true] at h2
  have h3 := List.all_eq_true.1 h2.1.2 (p, j) (mem_zipIdx.2 hp)
  simp only [hj, Bool.not_true, Bool.false_or] at h3
  have h4 := List.all_eq_true.1 h3 (q, k) (mem_zipIdx.2 hq)
  simp only [hl, hn, Bool.or_false, Bool.or_eq_true] at h4
  rcases h4 with h4 | h4
  · exact absurd (Nat.eq_of_beq_eq_true h4) hk
  · exact h4

/-- Whoever is ready has all behind it done. -/
theorem anc_done {ops : Array Oper} {done : List Nat} (ddown : ∀ i o, ops[i]? = some o → i ∈ done → ∀ e ∈ o.after.toList, Region.binds .any e = true → e.on ∈ done) :
    ∀ (n : Nat) (i j : Nat), ancB ops n i j = true → (∀ o, ops[i]? = some o → ∀ e ∈ o.after.toList, Region.binds .any e = true → e.on ∈ done) → j ∈ done
  | 0, _, _, h, _ => by simp [ancB] at h
  | n + 1, i, j, h, hr => by
    unfold ancB at h
    cases ho : ops[i]? with
    | none => rw [ho] at h; simp at h
    | some o =>
      rw [ho] at h; simp only [Bool.or_eq_true] at h
      rcases h with h | h
      · obtain ⟨e, he, hb, rfl⟩ := edge_mem h; exact hr o ho e he hb
      · obtain ⟨e, he, hb⟩ := List.any_eq_true.1 h
        simp only [Bool.and_eq_true] at hb
        have hl := hr o ho e he hb.1
        exact anc_done ddown n e.on j hb.2 (fun o' ho' e' he' hb' => ddown e.on o' ho' hl e' he' hb')
/-- What floats, and was done ahead, is ready here. -/
theorem Inv.flReady {ops : Array Oper} {fz : Bool} {nt : Nat} {β : Base} {r : Nm} {s : RS U} {L : Array Bool} {a : Act} {w : World} {f b : Nat} {ob : Obj} (h : Inv P τ ops fz nt β r s L a w (some (f, b, ob))) (hlt : ∀ i o, ops[i]? = some o → ∀ e ∈ o.after.toList, Region.binds .any e = true → e.on < i) {o : Oper} (ho : ops[f]? = some o) :
    ∀ e ∈ o.after.toList, Region.binds .any e = true → e.on ∈ s.done := by
  intro e he hb
  have k := h.flo f b ob rfl
  rcases h.sub e.on (h.down f o ho k.yes e he hb) with k' | ⟨x, k'⟩
  · exact k'
  · cases k'; have := hlt _ o ho e he hb; omega

/-- What others write is not asked by what floats. -/
theorem Inv.flPut {ops : Array Oper} {fz : Bool} {nt : Nat} {β : Base} {r : Nm} {s : RS U} {L : Array Bool} {a : Act} {w : World} {f b : Nat} {ob : Obj} (h : Inv P τ ops fz nt β r s L a w (some (f, b, ob))) (hlt : ∀ i o, ops[i]? = some o → ∀ e ∈ o.after.toList, Region.binds .any e = true → e.on < i)
    {i : Nat} {o : Oper} (ho : ops[i]? = some o) (hi : i ∉ s.done) (hif : i ≠ f) (v : AV) {of : Oper} (hof : ops[f]? = some of) : ∀ x ∈ of.op.operands.toList, evO (envPut s.env o.dst v) x = evO s.env x := by
  intro x hx
  cases hd : o.dst with
  | none => rfl
  | some d =>
    refine evO_put (fun e => ?_)
    subst e
    have h2 := fl_op (h.flo f b ob rfl).fl hof
    unfold floatB at h2
    simp only [Bool.and_eq_true] at h2
    have h3 := List.all_eq_true.1 h2.2 (o, i) (mem_zipIdx.2 ho)
    simp only [hd, Bool.or_eq_true] at h3
    rcases h3 with (h3 | h3) | h3
    · exact hif (Nat.eq_of_beq_eq_true h3)
    · exact hi (anc_done h.ddown ops.size f i h3 (fun o' ho' => h.flReady hlt ho'))
    · have : looksB ops of d = true := elemN_iff.2 (looks_tmp hx)
      rw [this] at h3; cases h3
/-- The world and the frame of an invariant where all is done. -/
theorem Inv.setEnv {ops : Array Oper} {fz : Bool} {nt : Nat} {β : Base} {r : Nm} {s : RS U} {L : Array Bool} {a : Act} {w : World} {fl : Fl} (h : Inv P τ ops fz nt β r s L a w fl) {d : Nat} {b : Bool} (hb : envGet s.env d = .bool b) {x : AV} (hx : ∀ r z, rel r x z ↔ rel r (.bool b) z) :
    Inv P τ ops fz nt β r { s with env := (d, x) :: s.env } L a w fl := by
  have hget : ∀ t, envGet ((d, x) :: s.env) t = if t = d then x else envGet s.env t := fun t => envGet_put (env := s.env) (d := d) (t := t) (v := x)
  have hev : ∀ q r z, rel r (evO ((d, x) :: s.env) q) z → rel r (evO s.env q) z := by
    intro q r z hz
    cases q with
    | tmp t =>
      have hz' : rel r (envGet ((d, x) :: s.env) t) z := hz
      show rel r (envGet s.env t) z
      rw [hget] at hz'
      by_cases e : t = d
      · rw [if_pos e] at hz'; rw [e, hb]; exact (hx r z).1 hz'
      · rw [if_neg e] at hz'; exact hz'
    | _ => exact hz
  have hslot : ∀ r z t, rel r (envGet s.env t) z → rel r (envGet ((d, x) :: s.env) t) z := by
    intro r z t hz
    rw [hget]
    by_cases e : t = d
    · rw [if_pos e]; rw [e, hb] at hz; exact (hx r z).2 hz
    · rw [if_neg e]; exact hz
  refine ⟨h.size, h.sub, h.eag, h.down, h.ddown, h.nodup, h.sat, h.fresh, fun t ht hf => hslot _ _ _ (h.slots t ht hf), fun i o ho hi hL => ?_, h.asize, h.defers, fun f b ob hf => ?_⟩
  rotate_left
  · obtain ⟨k0, k1, k2, k3, k4, o, d, a0, w0, k5, k6, k7, k8, r0, k9⟩ := h.flo f b ob hf
    refine ⟨k0, k1, k2, k3, k4, o, d, a0, w0, k5, k6, k7, k8, r0, fun q hq => ?_⟩
    have hz := k9 q hq
    cases q with
    | tmp t => exact hslot _ _ t hz
    | _ => exact hz
  have hwant : want? ops s.env o = .yes ∨ want? ops s.env o = .no → want? ops ((d, x) :: s.env) o = want? ops s.env o := by
    intro hw
    unfold want? at hw ⊢
    cases hg : o.guard with
    | none => rfl
    | some q =>
      obtain ⟨j, wt⟩ := q
      rw [hg] at hw; simp only at hw ⊢
      cases hd : (ops[j]?).bind (·.dst) with
      | none => rfl
      | some d' =>
        rw [hd] at hw; simp only at hw ⊢
        rw [hget]
        by_cases e : d' = d
        · subst e; rw [hb] at hw; simp at hw
        · rw [if_neg e]
  rcases h.pend i o ho hi hL with ⟨h1, v, rd, h2, h3, h4⟩ | ⟨h1, h2⟩
  · exact .inl ⟨by rw [hwant (.inl h1)]; exact h1, v, rd, h2, h3.weaken (fun q _ r z hz => hev q r z hz), fun d' e r z hz => hslot r z d' (h4 d' e r z hz)⟩
  · refine .inr ⟨by rw [hwant (.inr h1)]; exact h1, fun d' e => ?_⟩
    show envGet ((d, x) :: s.env) d' = _
    rw [hget]
    by_cases e' : d' = d
    · subst e'; have := h2 d' e; rw [hb] at this; cases this
    · rw [if_neg e']; exact h2 d' e

/-- One that only reads, taken ahead. -/
theorem Inv.ahead {ops : Array Oper} {fz : Bool} {nt : Nat} {β : Base} {r : Nm} {s : RS U} {L : Array Bool} {a : Act} {w : World} {fl : Fl} (h : Inv P τ ops fz nt β r s L a w fl) (hlt : ∀ i o, ops[i]? = some o → ∀ e ∈ o.after.toList, Region.binds .any e = true → e.on < i) {i : Nat} {o : Oper} (ho : ops[i]? = some o) (hn : i ∉ s.done) (hr : readyB s.done o = true) (hl : lazyB ops i o = true)
    {v : AV} {rds : List (Nat × Nat)} (hrds : ∀ q ∈ s.rds, q ∈ rds) (hp : Pend P ops { s with env := envPut s.env o.dst v, done := i :: s.done, rds := rds } i o) :
    Inv P τ ops fz nt β r { s with env := envPut s.env o.dst v, done := i :: s.done, rds := rds } L a w fl := by
  obtain ⟨hlz, d, hd, huniq⟩ := lazy_dst hl
  have hready : ∀ e ∈ o.after.toList, Region.binds .any e = true → e.on ∈ s.done := by
    intro e he hb
    have := List.all_eq_true.1 hr e he
    rw [hb] at this; simp at this
    exact elemN_iff.1 this
  have hLi : L.getD i false = false := by
    cases e : L.getD i false with
    | false => rfl
    | true =>
      rcases h.sub i e with h1 | ⟨⟨b, ob⟩, h1⟩
      · exact absurd h1 hn
      · exact absurd hl (by rw [fl_lazy (h.flo i b ob h1).fl ho]; simp)
  refine ⟨h.size, fun j hj => (h.sub j hj).imp (List.mem_cons_of_mem _) id, ?_, h.down, ?_, ?_, h.sat, h.fresh, ?_, ?_, h.asize, h.defers, fun f b ob hf => ?_⟩
  · intro j p hp' hj hlz'
    rcases List.mem_cons.1 hj with rfl | hj
    · rw [ho] at hp'; cases hp'; rw [hl] at hlz'; cases hlz'
    · exact h.eag j p hp' hj hlz'
  · intro j p hp' hj e he hb
    rcases List.mem_cons.1 hj with rfl | hj
    · rw [ho] at hp'; cases hp'; exact List.mem_cons_of_mem _ (hready e he hb)
    · exact List.mem_cons_of_mem _ (h.ddown j p hp' hj e he hb)
  · refine ⟨List.nodup_cons.2 ⟨hn, h.nodup.1⟩, fun j hj => ?_⟩
    rcases List.mem_cons.1 hj with rfl | hj
    · exact (Array.getElem?_eq_some_iff.1 ho).1
    · exact h.nodup.2 j hj
  · intro t ht hft
    have htd : t ≠ d := fun e => ht i o ho (List.mem_cons_self ..) hLi (by rw [hd, e])
    show rel r (envGet (envPut s.env o.dst v) t) _
    rw [hd, envGet_put, if_neg htd]
    exact h.slots t (fun j p hp' hj hLj => ht j p hp' (List.mem_cons_of_mem _ hj) hLj) hft
  · intro j p hp' hj hLj
    rcases List.mem_cons.1 hj with rfl | hj
    · rw [ho] at hp'; cases hp'; exact hp
    · have hji : j ≠ i := fun e => hn (e ▸ hj)
      obtain ⟨u1, u2⟩ := huniq j p hp' hji
      refine (h.pend j p hp' hj hLj).keep (d := d) (v := v) (by show envPut s.env o.dst v = _; rw [hd]) (fun hm => ?_) u1 (fun id B e _ => ⟨B, e, .inl rfl⟩) hrds
      obtain ⟨e, he, hb, hon⟩ := edge_mem (u2 hm)
      have := h.ddown j p hp' hj e he hb
      rw [hon] at this; exact hn this
  · subst hf
    obtain ⟨k0, k1, k2, k3, k4, of, d', a0, w0, k5, k6, k7, k8, r0, k9⟩ := h.flo f b ob rfl
    have hif : i ≠ f := fun e => by rw [← e] at k2; rw [hLi] at k2; cases k2
    refine ⟨k0, fun hm => ?_, k2, k3, k4, of, d', a0, w0, k5, k6, k7, k8, r0, fun x hx => by rw [h.flPut hlt ho hn hif v k5 x hx]; exact k9 x hx⟩
    rcases List.mem_cons.1 hm with e | hm
    · rw [e] at k2; rw [hLi] at k2; cases k2
    · exact k1 hm

end
end Sx
end Go.Proofs.YtnegocgblmdihaaGreatDoor

