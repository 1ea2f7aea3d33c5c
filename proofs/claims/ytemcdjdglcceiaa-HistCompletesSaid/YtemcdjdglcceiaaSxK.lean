/-
  The evaluator of operations that make memory or write it, whole, and its soundness.
-/
import Derived.Test.YtemcdjdglcceiaaSxJ
namespace Go.Proofs.Ytemcdjdglcceiaa
namespace Sx
open Go

section
variable {U : Uni} {P : Program} {τ : Tab}

/-! ## maps written -/
def mput {α : Type} : List (Int × α) → Int → α → List (Int × α)
  | [], n, x => [(n, x)]
  | (k, y) :: m, n, x => if n = k then (k, x) :: m else (k, y) :: mput m n x
def mdel {α : Type} : List (Int × α) → Int → List (Int × α)
  | [], _ => []
  | (k, y) :: m, n => if n = k then m else (k, y) :: mdel m n

theorem relM_put {α : Type} {E : Enc α} {kk : IntKind} {r : Nm} {n : Int} {y : α} {v : Value} (hv : relV E.agg r (E.enc y) v) : ∀ (m : List (Int × α)) (es : List MapEntry) (i : Nat), relM E kk r m es →
    (mget m n = none → ∀ clock, relM E kk r (mput m n y) (es ++ [{ key := .int kk n, val := v, born := clock }])) ∧
    (∀ x, mget m n = some x → ∃ j, ∃ e : MapEntry, Instr.findNow (.int kk) (.int kk n) es i = some (some (i + j, e.val)) ∧ es[j]? = some e ∧ e.key = .int kk n ∧
      relM E kk r (mput m n y) (es.modify j fun e => { e with key := .int kk n, val := v }) ∧ relM E kk r (mdel m n) (es.eraseIdx j))
  | [], es, i, h => by
    simp only [relM] at h; subst h
    exact ⟨fun _ c => ⟨_, [], rfl, rfl, hv, rfl⟩, fun x hx => by simp [mget] at hx⟩
  | (k, z) :: m, es, i, h => by
    simp only [relM] at h
    obtain ⟨e, fs, rfl, hk, hz, hr⟩ := h
    obtain ⟨ih1, ih2⟩ := relM_put (n := n) hv m fs (i + 1) hr
    by_cases hnk : n = k
    · subst hnk
      refine ⟨fun hx => by simp [mget] at hx, fun x _ => ⟨0, e, ?_, rfl, hk, ?_, ?_⟩⟩
      · simp [Instr.findNow, hk, Instr.sameNow]
      · simp only [mput, if_true, List.modify_zero_cons]; exact ⟨_, fs, rfl, rfl, hv, hr⟩
      · simp only [mdel, if_true]; exact hr
    · have hne : (n == k) = false := by simpa using hnk
      refine ⟨fun hx c => ?_, fun x hx => ?_⟩
      · simp only [mget, if_neg hnk] at hx
        simp only [mput, if_neg hnk, List.cons_append]
        exact ⟨e, _, rfl, hk, hz, ih1 hx c⟩
      · simp only [mget, if_neg hnk] at hx
        obtain ⟨j, e', h1, h2, h3, h4, h5⟩ := ih2 x hx
        refine ⟨j + 1, e', ?_, by simpa using h2, h3, ?_, ?_⟩
        · simp only [Instr.findNow, hk, Instr.sameNow, if_true, hne, h1]
          rw [show i + 1 + j = i + (j + 1) by omega]
        · simp only [mput, if_neg hnk, List.modify_succ_cons]
          exact ⟨e, _, rfl, hk, hz, h4⟩
        · simp only [mdel, if_neg hnk, List.eraseIdx_cons_succ]
          exact ⟨e, _, rfl, hk, hz, h5⟩
theorem mdel_none {α : Type} {n : Int} : ∀ {m : List (Int × α)}, mget m n = none → mdel m n = m
  | [], _ => rfl
  | (k, y) :: m, h => by
    by_cases hnk : n = k
    · simp [mget, hnk] at h
    · simp only [mget, if_neg hnk] at h; simp only [mdel, if_neg hnk, mdel_none h]

/-- An element out of a value. -/
def decV {α : Type} (E : Enc α) (x : AV) : Option α :=
  bif E.agg then (match x with | .agg cs => E.dec cs | _ => none) else (bif x.one then E.dec [x] else none)
theorem decV_sound {α : Type} {E : Enc α} {x : AV} {y : α} (h : decV E x = some y) {r : Nm} {v : Value} (hv : rel r x v) : relV E.agg r (E.enc y) v := by
  unfold decV at h
  cases ha : E.agg with
  | true =>
    rw [ha] at h; simp only [cond_true] at h
    split at h
    · obtain ⟨vs, hvs, rfl⟩ := hv; exact ⟨vs, E.back _ _ h r _ hvs, rfl⟩
    · simp at h
  | false =>
    rw [ha] at h; simp only [cond_false] at h
    cases ho : x.one with
    | false => rw [ho] at h; simp at h
    | true => rw [ho] at h; simp only [cond_true] at h; exact E.back _ _ h r _ (relL_cons.2 ⟨hv, relL_nil⟩)

def evalPut (τ : Tab) (κ : Kinds U) (T : Nat) (m ky x : AV) (h : Heap U) (K : AV → Heap U → List Nat → Out U) : Out U :=
  match mapOf τ κ T, m, ky.num with
    | some (kk, _), .mp id, some (kk'', n, _) => (match h.get id with
      | some (.mp kk' k' es) => bif decide (kk = kk') && decide (kk = kk'') then (match decV (U.enc k') x with | some y => K .und (h.set id (.mp kk' k' (mput es n y))) [id] | none => .bad 141) else .bad 142
      | _ => .bad 144)
    | _, _, _ => .bad 145

def rdNe (rd : Option Nat) (id : Nat) : Bool := match rd with | some j => !(Nat.beq j id) | none => true

/-! ## the evaluator -/
def evalE (τ : Tab) (κ : Kinds U) (op : Op) (ev : Operand → AV) (h : Heap U) (nw : Nat) (K : AV → Heap U → List Nat → Out U) : Out U :=
  match h.get nw with
  | some _ => .bad 110
  | none =>
  match op with
  | .alloc T => (match τ T with | some R => K (.ptr nw 0) ((nw, .cells T R.zero) :: h) [] | none => .bad 130)
  | .box T x => bif (ev x).plain then K (.ptr nw 0) ((nw, .cells T (cellsAV (ev x))) :: h) [] else .bad 131
  | .buildSlice T n ps => (match sliceOf τ T with
    | some (e, s) => (match τ e with
      | some R => bif Nat.ble (n * s) 16777216 && (ps.toList.all fun q => (ev q.2).plain) && Nat.beq R.zero.length s then
        (match fillAV (fun i => some (i * s, s)) ((List.replicate n R.zero).flatten) (ps.toList.map fun q => (q.1, ev q.2)) with
        | some cs => K (.sl true nw 0 s n n) ((nw, .cells e cs) :: h) []
        | none => .bad 132) else .bad 133
      | none => .bad 134)
    | none => .bad 135)
  | .makeSlice T l c => (match sliceOf τ T with
    | some (e, s) => (match κ e, τ e, (ev l).num, (ev c).num with
      | some k, some R, some (_, a, la), some (_, b, lb) => .need (0 ≤ a ∧ a ≤ b ∧ (R.bytes : Int) * b ≤ 281474976710656)
          (K (.sl (la && lb) nw 0 s a.toNat b.toNat) ((nw, .arr e k (List.replicate a.toNat (U.enc k).dflt) (b.toNat - a.toNat)) :: h) [])
      | _, _, _, _ => .bad 136)
    | none => .bad 137)
  | .makeMap T r => (match r, mapOf τ κ T with | none, some (kk, k) => K (.mp nw) ((nw, .mp kk k []) :: h) [] | _, _ => .bad 138)
  | .store T p x => (match τ T, (ev p).id? with
    | some R, some id => (match h.get id with | some B => writeAt R B (ev p) (ev x) fun B' => K .und (h.set id B') [id] | none => .bad 139)
    | _, _ => .bad 140)
  | .mapUpdate T m ky x => evalPut τ κ T (ev m) (ev ky) (ev x) h K
  | .insert T m ky x => evalPut τ κ T (ev m) (ev ky) (ev x) h K
  | .call { callee := .builtin b, args, argTypes } => (match b, args.toList, argTypes.toList with
    | .delete, [m, ky], [T, _] => (match mapOf τ κ T, ev m, (ev ky).num with
      | some (kk, _), .mp id, some (kk'', n, _) => (match h.get id with
        | some (.mp kk' k' es) => bif decide (kk = kk') && decide (kk = kk'') then K (.tup []) (h.set id (.mp kk' k' (mdel es n))) [id] else .bad 146
        | _ => .bad 147)
      | _, _, _ => .bad 148)
    | .append, [s, x], [T, T'] => bif Nat.beq T T' then (match sliceOf τ T with
      | some (e, sz) => (match κ e, τ e with
        | some k, some R => evalSrc k (ev x) h fun ys rd => (match ev s with
          | .nilS => .need (ys.length * R.bytes ≤ 140737488355328) (.all Nat fun sp => K (.sl false nw 0 sz ys.length (ys.length + sp)) ((nw, .arr e k ys sp) :: h) [])
          | .sl true _ 0 _ 0 0 => .need (ys.length * R.bytes ≤ 140737488355328) (.all Nat fun sp => K (.sl false nw 0 sz ys.length (ys.length + sp)) ((nw, .arr e k ys sp) :: h) [])
          | .sl _ id st w len cap => (match h.get id with
            | some (.arr T2 k2 xs sp0) => (match U.dk k2 k with
              | .isTrue hk => bif Nat.beq w sz && Nat.beq T2 e && rdNe rd id then
                .need (st = 0 ∧ len = xs.length ∧ cap = xs.length + sp0 ∧ (xs.length + ys.length) * R.bytes ≤ 140737488355328)
                  (.all Nat fun sp => K (.sl false nw 0 sz (xs.length + ys.length) (xs.length + ys.length + sp)) ((nw, .arr e k (castK hk xs ++ ys) sp) :: h.del id) [id]) else .bad 150
              | .isFalse _ => .bad 151)
            | _ => .bad 152)
          | _ => .bad 153)
        | _, _ => .bad 154)
      | none => .bad 155) else .bad 156
    | _, _, _ => .bad 157)
  | _ => .bad 158

/-- What such an operation does to a world. -/
def Eg (P : Program) (o : Oper) (ev : Operand → AV) (h : Heap U) (nw : Nat) (R : AV → Heap U → List Nat → Prop) : Prop :=
  ∀ (β : Base) (r : Nm) (a : Act) (w : World), (∀ x ∈ o.op.operands.toList, rel r (ev x) (a.eval x)) → Sat β r h w → r nw = none →
    ∃ v h' t z w' r', R v h' t ∧ ((execOp a.eval o).run P w = .ok (.value z) w' ∨ ((execOp a.eval o).run P w = .ok .skip w' ∧ z = undef)) ∧
      r.le r' ∧ (∀ i, i ≠ nw → r i = none → r' i = none) ∧ rel r' v z ∧ Sat β r' h' w' ∧ (∀ id B, h.get id = some B → id ∉ t → h'.get id = some B)


theorem Sat.rename {β : Base} {r : Nm} {hp : Heap U} {w w' : World} (k : Sat β r hp w) {id nw : Nat} (hnw : r nw = none) {B B' : Blk U} (hg : hp.get id = some B)
    {b : Nat} (o' : Obj) (hone : ∀ H1, B.den β.G r id H1 → ∃ o, H1 = Hp.one b o)
    (hB : B'.den β.G (r.put nw (b, 0)) nw (Hp.one b o')) (hw : w'.heap[b]? = some o') (hs : ∀ x, x ≠ b → w'.heap[x]? = w.heap[x]?)
    (h1 : w'.os = w.os) (h2 : w'.output = w.output) (h3 : w'.tape = w.tape) : Sat β (r.put nw (b, 0)) ((nw, B') :: hp.del id) w' := by
  obtain ⟨a, H, p, c, d⟩ := k
  obtain ⟨H1, H2, q1, q2, q3, q4, _⟩ := Heap.focus p hg
  obtain ⟨o, rfl⟩ := hone H1 q1
  subst q3
  have c' := Hp.join_apart.1 c
  have ap : (Hp.one b o').apart H2 := Hp.one_apart.2 (Hp.one_apart.1 q2)
  have apG : (Hp.one b o').apart β.G := Hp.one_apart.2 (Hp.one_apart.1 c'.1)
  have d' := (Hp.inW_join q2).1 d
  have keep : ∀ {A : Hp}, A.inW w → A b = none → A.inW w' := fun {A} hA hb x o e => by
    rw [hs x (fun hx => by rw [hx, hb] at e; cases e)]; exact hA x o e
  refine ⟨⟨h1.trans a.os, h2.trans a.output, h3.trans a.tape, keep a.G (Hp.one_apart.1 c'.1)⟩, (Hp.one b o').join H2, ⟨_, H2, hB, Heap.den_mono (Nm.le_put hnw) q4, ap, rfl⟩, ?_, ?_⟩
  · exact Hp.join_apart.2 ⟨apG, c'.2⟩
  · exact (Hp.inW_join ap).2 ⟨Hp.inW_one.2 hw, keep d'.2 (Hp.one_apart.1 q2)⟩

/-- An empty row needs no block. -/
theorem Sat.empty {β : Base} {r : Nm} {hp : Heap U} {w : World} (k : Sat β r hp w) (id T : Nat) (kd : U.K) : Sat β r ((id, .arr T kd [] 0) :: hp) w := by
  obtain ⟨a, H, p, c, d⟩ := k
  exact ⟨a, H, ⟨Hp.nil, H, .inl ⟨rfl, rfl⟩, p, Hp.nil_apart H, rfl⟩, c, d⟩

theorem Sat.sameHeap {β : Base} {r : Nm} {hp : Heap U} {w w' : World} (k : Sat β r hp w) (h : w'.heap = w.heap) (h1 : w'.os = w.os) (h2 : w'.output = w.output) (h3 : w'.tape = w.tape) : Sat β r hp w' := by
  obtain ⟨a, H, p, c, d⟩ := k
  exact ⟨⟨h1.trans a.os, h2.trans a.output, h3.trans a.tape, fun x o e => by rw [h]; exact a.G x o e⟩, H, p, c, fun x o e => by rw [h]; exact d x o e⟩

theorem Nm.put_other {r : Nm} {i j : Nat} {x : Nat × Nat} (h : j ≠ i) (k : r j = none) : r.put i x j = none := by
  unfold Nm.put; rw [if_neg h]; exact k

/-- What is new. -/
theorem eg_new {M : Goal U} {o : Oper} {ev : Operand → AV} {h : Heap U} {nw : Nat} {K : AV → Heap U → List Nat → Out U} (hn : h.get nw = none) {v : AV} {B : Blk U} (hK : (K v ((nw, B) :: h) []).holds M)
    (hrun : ∀ (r : Nm) (a : Act) (w : World), (∀ x ∈ o.op.operands.toList, rel r (ev x) (a.eval x)) → ∃ ob z, (execOp a.eval o).run P w = .ok (.value z) (w.alloc ob) ∧ ∀ r' : Nm, r.le r' → r' nw = some (w.heap.size, 0) → rel r' v z ∧ ∀ G, B.den G r' nw (Hp.one w.heap.size ob)) :
    Eg P o ev h nw (fun v h' t => (K v h' t).holds M) := by
  intro β r a w ho hs hnw
  obtain ⟨ob, z, h1, h2⟩ := hrun r a w ho
  obtain ⟨h3, h4⟩ := h2 (r.put nw (w.heap.size, 0)) (Nm.le_put hnw) (Nm.put_self _ _ _)
  exact ⟨v, _, [], z, w.alloc ob, r.put nw (w.heap.size, 0), hK, .inl h1, Nm.le_put hnw, fun i hi hri => Nm.put_other hi hri, h3, hs.new hnw (h4 β.G),
    fun id B' hg _ => by rw [Heap.get_cons_ne (fun e => by subst e; rw [hn] at hg; cases hg)]; exact hg⟩

theorem flatten_replicate_rel {r : Nm} {xs : List AV} {vs : List Value} (h : relL r xs vs) : ∀ n, relL r (List.replicate n xs).flatten (List.replicate n vs).flatten
  | 0 => relL_nil
  | n + 1 => by simp only [List.replicate_succ, List.flatten_cons]; exact relL_append h (flatten_replicate_rel h n)

theorem madeCells_flatten (z : Array Value) (hz : 0 < z.size) : ∀ n, (madeCells z (n * z.size)).toList = (List.replicate n z.toList).flatten := by
  intro n
  apply List.ext_getElem?
  intro j
  have hlen : ((List.replicate n z.toList).flatten).length = n * z.size := by simp
  by_cases hj : j < n * z.size
  · have e1 : (madeCells z (n * z.size)).toList[j]? = some (z[j % z.size]'(Nat.mod_lt j hz)) := by
      simp [madeCells, hj, getElem!_pos z (j % z.size) (Nat.mod_lt j hz)]
    rw [e1]
    clear e1 hlen
    induction n generalizing j with
    | zero => simp at hj
    | succ n ih =>
      simp only [List.replicate_succ, List.flatten_cons, List.getElem?_append, Array.length_toList]
      by_cases h : j < z.size
      · simp [h, Nat.mod_eq_of_lt h]
      · rw [if_neg h, ← ih (j - z.size) (by rw [Nat.succ_mul] at hj; omega)]
        congr 1
        have : j % z.size = (j - z.size) % z.size := by rw [Nat.mod_eq_sub_mod (by omega)]
        simp [this]
  · rw [List.getElem?_eq_none (by simp [size_madeCells]; omega), List.getElem?_eq_none (by rw [hlen]; omega)]

end
end Sx
end Go.Proofs.Ytemcdjdglcceiaa
