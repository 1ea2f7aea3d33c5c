/-
  Rows in a pool: rows of operations, and rows of these.
-/
import Derived.Test.YtnegocgblmdihaaGreatDoorCuttingP4
namespace Go.Proofs.YtnegocgblmdihaaGreatDoor
namespace Sx
open Go
set_option linter.unusedSimpArgs false
set_option linter.unusedVariables false

abbrev Rwp := Option (Nat × Nat) × Nat × Nat
abbrev w0 : Rwp := (none, 0, 0)
def rwd (w : Rwp) : List PD := [.sl w.1 w.2.1 w.2.2]
def flatO (o : Opr) : List PD := [.int .i64 o.act, .int .i64 o.key, .int .i64 o.value, .int .i64 o.weight]

section
variable {α : Type} {e w : Nat} {fl : α → List PD}
theorem flat_len (hw : ∀ a, (fl a).length = w) (l : List α) : (l.flatMap fl).length = l.length * w := by
  induction l with
  | nil => simp
  | cons a l ih => rw [List.flatMap_cons, List.length_append, ih, hw, List.length_cons, Nat.add_mul, Nat.one_mul, Nat.add_comm]
theorem flat_drop (hw : ∀ a, (fl a).length = w) (l : List α) (i : Nat) : (l.flatMap fl).drop (i * w) = (l.drop i).flatMap fl := by
  induction l generalizing i with
  | nil => simp
  | cons a l ih =>
    cases i with
    | zero => simp
    | succ i => rw [List.flatMap_cons, List.drop_append, hw, List.drop_of_length_le (by rw [hw, Nat.add_mul]; omega), show (i + 1) * w - w = i * w by rw [Nat.add_mul]; omega, ih, List.nil_append]; rfl
/-- A row lies there. -/
structure RowG (e w : Nat) (fl : α → List PD) (p : Pool) (h : Rwp) (l : List α) : Prop where
  len : h.2.1 = l.length
  le : l.length ≤ h.2.2
  ex : h.2.2 = 0 ∨ ∃ n cs, h.1 = some (n, 0) ∧ p n = some (e, cs) ∧ cs.length = h.2.2 * w ∧ cs.take (l.length * w) = l.flatMap fl
theorem RowG.nil (p : Pool) : RowG e w fl p w0 [] := ⟨rfl, Nat.le_refl _, .inl rfl⟩
def own (h : Rwp) : Option Nat := if h.2.2 = 0 then none else h.1.map Prod.fst
theorem RowG.same {p q : Pool} {h : Rwp} {l : List α} (k : RowG e w fl p h l) (f : ∀ n cs, own h = some n → p n = some (e, cs) → q n = some (e, cs)) : RowG e w fl q h l := by
  refine ⟨k.len, k.le, ?_⟩
  rcases k.ex with h0 | ⟨n, cs, h1, h2, h3, h4⟩
  · exact .inl h0
  · by_cases hc : h.2.2 = 0
    · exact .inl hc
    · exact .inr ⟨n, cs, h1, f n cs (by unfold own; rw [if_neg hc, h1]; rfl) h2, h3, h4⟩
theorem RowG.own_at {p : Pool} {h : Rwp} {l : List α} (k : RowG e w fl p h l) {n : Nat} (ho : own h = some n) : ∃ cs, p n = some (e, cs) := by
  unfold own at ho
  split at ho
  · cases ho
  · rename_i hc
    rcases k.ex with h0 | ⟨m, cs, h1, h2, _⟩
    · exact absurd h0 hc
    · rw [h1] at ho; cases ho; exact ⟨cs, h2⟩
theorem RowG.all (hw : ∀ a, (fl a).length = w) {p : Pool} {h : Rwp} {l : List α} (k : RowG e w fl p h l) : l.length = 0 ∨ p.at h.1 (l.flatMap fl) := by
  rcases k.ex with h0 | ⟨n, cs, h1, h2, h3, h4⟩
  · have := k.le; exact .inl (by omega)
  · refine .inr ⟨n, 0, e, cs, h1, h2, ?_, ?_⟩
    · rw [flat_len hw, h3, Nat.zero_add]; exact Nat.mul_le_mul_right _ k.le
    · rw [flat_len hw, List.drop_zero]; exact h4
theorem RowG.whole (hw : ∀ a, (fl a).length = w) {p : Pool} {o : Option (Nat × Nat)} {len cap : Nat} {l : List α} (k : RowG e w fl p (o, len, cap) l) : (l.flatMap fl).length = len * w ∧ (len = 0 ∨ p.at o (l.flatMap fl)) := by
  have hl : len = l.length := k.len
  subst hl
  exact ⟨flat_len hw l, k.all hw⟩
theorem RowG.room {p : Pool} {o : Option (Nat × Nat)} {len cap : Nat} {l : List α} (k : RowG e w fl p (o, len, cap) l) (m : Nat) (hc : len + m ≤ cap) : m = 0 ∨ p.has (shiftA o (len * w)) (m * w) := by
  rcases k.ex with h0 | ⟨n, cs, h1, h2, h3, h4⟩
  · have h0 : cap = 0 := h0; exact .inl (by omega)
  · have h1 : o = some (n, 0) := h1
    have h3 : cs.length = cap * w := h3
    refine .inr ⟨n, len * w, e, cs, by rw [h1]; simp, h2, ?_⟩
    rw [h3, ← Nat.add_mul]; exact Nat.mul_le_mul_right _ hc
/-- A datum of it, as it is seen. -/
theorem RowG.sees (hw : ∀ a, (fl a).length = w) {p : Pool} {h : Rwp} {l : List α} (k : RowG e w fl p h l) {i : Nat} {a : α} (hi : l[i]? = some a) : p.see.at (shiftA h.1 (i * w)) (fl a) := by
  have hlt := (List.getElem?_eq_some_iff.1 hi).1
  rcases k.ex with h0 | ⟨n, cs, h1, h2, h3, h4⟩
  · have := k.le; omega
  · refine ⟨n, i * w, by rw [h1]; simp, fun j d hj => ⟨_, h2, ?_⟩⟩
    have hjw : j < w := by have := (List.getElem?_eq_some_iff.1 hj).1; rwa [hw] at this
    have e1 : (l.flatMap fl)[i * w + j]? = some d := by
      have h5 := flat_drop hw l i
      rw [← List.getElem?_drop, h5, List.drop_eq_getElem_cons hlt, List.flatMap_cons, List.getElem?_append_left (by rw [hw]; exact hjw)]
      have : l[i] = a := by rw [List.getElem?_eq_getElem hlt] at hi; exact Option.some.inj hi
      rw [this]; exact hj
    rw [← h4, List.getElem?_take] at e1
    split at e1
    · exact e1
    · cases e1

theorem row_newG (hw : ∀ a, (fl a).length = w) {p : Pool} {n : Nat} (l : List α) (sp : Nat) (zs : List PD) (hz : zs.length = w) : RowG e w fl (p.put n e (l.flatMap fl ++ (List.replicate sp zs).flatten)) (some (n, 0), l.length, l.length + sp) l := by
  refine ⟨rfl, Nat.le_add_right _ _, .inr ⟨n, _, rfl, by unfold Pool.put; rw [if_pos rfl], ?_, ?_⟩⟩
  · show _ = (l.length + sp) * w
    rw [List.length_append, flat_len hw, Nat.add_mul]; simp [hz]
  · rw [List.take_append_of_le_length (by rw [flat_len hw]; exact Nat.le_refl _), ← flat_len hw, List.take_length]
/-- A row of its own, and a row behind it. -/
theorem App.rowG (hw : ∀ a, (fl a).length = w) {p : Pool} {zs : List PD} {o : Option (Nat × Nat)} {len cap m : Nat} {l l2 : List α} {p' : Pool} {o' : Option (Nat × Nat)} {cap' : Nat}
    (h : App p e w zs o len cap m (l.flatMap fl) (l2.flatMap fl) p' o' cap') (hz : zs.length = w) (hr : RowG e w fl p (o, len, cap) l) (hm : m = l2.length) :
    RowG e w fl p' (o', len + m, cap') (l ++ l2) ∧ (∀ x, own (o, len, cap) ≠ some x → p x ≠ none → p' x = p x) ∧ (∀ x, own (o', len + m, cap') = some x → own (o, len, cap) = some x ∨ p x = none) := by
  subst hm
  have hl : len = l.length := hr.len
  have hle : l.length ≤ cap := hr.le
  subst hl
  by_cases hc : l.length + l2.length ≤ cap
  · obtain ⟨e1, e2, e3⟩ := h.inn hc
    subst e1; subst e2; subst e3
    rcases hr.ex with h0 | ⟨n, cs, h1, h2, h3, h4⟩
    · have h0 : cap' = 0 := h0
      have n1 : l = [] := List.eq_nil_of_length_eq_zero (by omega)
      have n2 : l2 = [] := List.eq_nil_of_length_eq_zero (by omega)
      subst n1; subst n2
      have hp : p.set (shiftA o' (([] : List α).length * w)) (([] : List α).flatMap fl) = p := Pool.set_nil _ _
      refine ⟨⟨rfl, Nat.zero_le _, .inl h0⟩, fun x _ _ => ?_, fun x hx => .inl hx⟩
      rw [hp]
    · have h1 : o' = some (n, 0) := h1
      have h3 : cs.length = cap' * w := h3
      have h4 : cs.take (l.length * w) = l.flatMap fl := h4
      subst h1
      have hset : p.set (shiftA (some (n, 0)) (l.length * w)) (l2.flatMap fl) = p.set (some (n, l.length * w)) (l2.flatMap fl) := by rw [shiftA_some, Nat.zero_add]
      rw [hset]
      have hp : p.set (some (n, l.length * w)) (l2.flatMap fl) n = some (e, setAt cs (l.length * w) (l2.flatMap fl)) := by
        show (if n = n then (p n).map (fun q => (q.1, setAt q.2 (l.length * w) (l2.flatMap fl))) else p n) = _
        rw [if_pos rfl, h2]; rfl
      have f2 := flat_len hw l2
      have f1 := flat_len hw l
      have hmul : l.length * w + l2.length * w ≤ cap' * w := by rw [← Nat.add_mul]; exact Nat.mul_le_mul_right _ hc
      refine ⟨⟨by simp, by show (l ++ l2).length ≤ cap'; rw [List.length_append]; exact hc, .inr ⟨n, _, rfl, hp, ?_, ?_⟩⟩, fun x hx _ => ?_, fun x hx => ?_⟩
      · show (setAt cs _ _).length = cap' * w
        unfold setAt; simp only [List.length_append, List.length_take, List.length_drop, f2]; omega
      · rw [List.flatMap_append, List.length_append, Nat.add_mul, ← h4]
        unfold setAt
        have e0 : (List.take (l.length * w) cs).length = l.length * w := by rw [List.length_take]; omega
        rw [List.take_append_of_le_length (by rw [List.length_append, e0, f2]; exact Nat.le_refl _), List.take_of_length_le (by rw [List.length_append, e0, f2]; exact Nat.le_refl _)]
      · show (if x = n then _ else p x) = p x
        by_cases hcap : cap' = 0
        · have n2 : l2 = [] := List.eq_nil_of_length_eq_zero (by omega)
          subst n2
          by_cases e0 : x = n
          · rw [if_pos e0, e0]
            rw [h2]; show some (e, setAt cs _ []) = _
            unfold setAt; simp
          · rw [if_neg e0]
        · rw [if_neg]
          intro e0
          refine hx ?_
          unfold own; rw [if_neg hcap, e0]; rfl
      · refine .inl ?_
        unfold own at hx ⊢
        exact hx
  · obtain ⟨n, sp, hn, e1, e2, e3⟩ := h.out hc
    subst e1; subst e2; subst e3
    have hrow := row_newG (e := e) hw (p := p) (n := n) (l ++ l2) sp zs hz
    rw [List.flatMap_append, List.length_append] at hrow
    refine ⟨hrow, fun x _ hx => ?_, fun x hx => ?_⟩
    · unfold Pool.put
      rw [if_neg (fun e => hx (by rw [e]; exact hn))]
    · unfold own at hx
      split at hx
      · cases hx
      · cases hx; exact .inr hn
end

/-! ## rows of operations, and rows of these -/
theorem flatO_len (o : Opr) : (flatO o).length = 4 := rfl
theorem rwd_len (h : Rwp) : (rwd h).length = 1 := rfl
abbrev RowO (p : Pool) (h : Rwp) (l : List Opr) : Prop := RowG 49 4 flatO p h l
abbrev RowH (p : Pool) (h : Rwp) (l : List Rwp) : Prop := RowG 47 1 rwd p h l
def Pool.Le (p q : Pool) : Prop := ∀ b x, p b = some x → q b = some x
theorem Pool.Le.refl (p : Pool) : p.Le p := fun _ _ h => h
theorem Pool.Le.trans {p q r : Pool} (h : p.Le q) (k : q.Le r) : p.Le r := fun b x e => k b x (h b x e)
/-- Rows of operations lie there. -/
structure RowsLie (p : Pool) (h : Rwp) (hs : List Rwp) (rows : List (List Opr)) : Prop where
  head : RowH p h hs
  len : hs.length = rows.length
  row : ∀ (i : Nat) (x : Rwp) (r : List Opr), hs[i]? = some x → rows[i]? = some r → RowO p x r
theorem RowsLie.nil (p : Pool) : RowsLie p w0 [] [] := ⟨RowG.nil p, rfl, fun i x r h => by cases h⟩
theorem RowsLie.le {p q : Pool} {h : Rwp} {hs : List Rwp} {rows : List (List Opr)} (k : RowsLie p h hs rows) (l : p.Le q) : RowsLie q h hs rows :=
  ⟨k.head.same fun n cs _ e => l n _ e, k.len, fun i x r h1 h2 => (k.row i x r h1 h2).same fun n cs _ e => l n _ e⟩
/-- Rows of operations, as they are seen. -/
def SeesR (f : RPool) (o : Option (Nat × Nat)) (rows : List (List Opr)) : Prop :=
  ∀ (i : Nat) (r : List Opr), rows[i]? = some r → ∃ o' c', f.at (shiftA o i) [.sl o' r.length c'] ∧ r.length ≤ c' ∧ r.length ≤ maxLen ∧ ∀ (k : Nat) (x : Opr), r[k]? = some x → f.at (shiftA o' (k * 4)) (flatO x)
theorem RPool.at_mono {f g : RPool} (h : ∀ b o d, f b o d → g b o d) {o : Option (Nat × Nat)} {ds : List PD} (k : f.at o ds) : g.at o ds := by
  obtain ⟨b, off, e, h1⟩ := k
  exact ⟨b, off, e, fun j d hj => h _ _ _ (h1 j d hj)⟩
theorem SeesR.mono {f g : RPool} (h : ∀ b o d, f b o d → g b o d) {o : Option (Nat × Nat)} {rows : List (List Opr)} (k : SeesR f o rows) : SeesR g o rows := fun i r hi =>
  let ⟨o', c', h1, l1, l2, h2⟩ := k i r hi; ⟨o', c', RPool.at_mono h h1, l1, l2, fun k x hx => RPool.at_mono h (h2 k x hx)⟩
theorem RowsLie.sees {p : Pool} {h : Rwp} {hs : List Rwp} {rows : List (List Opr)} (k : RowsLie p h hs rows) (hm : ∀ r ∈ rows, r.length ≤ maxLen) : SeesR p.see h.1 rows := fun i r hi => by
  have hlt : i < hs.length := by rw [k.len]; exact (List.getElem?_eq_some_iff.1 hi).1
  have hx : hs[i]? = some hs[i] := List.getElem?_eq_getElem hlt
  have hrow := k.row i _ r hx hi
  have h1 := k.head.sees rwd_len hx
  rw [Nat.mul_one] at h1
  refine ⟨(hs[i]).1, (hs[i]).2.2, ?_, hrow.le, hm r (List.mem_of_getElem? hi), fun j x hj => hrow.sees flatO_len hj⟩
  have : rwd hs[i] = [.sl (hs[i]).1 r.length (hs[i]).2.2] := by unfold rwd; rw [← hrow.len]
  rwa [this] at h1
end Sx
end Go.Proofs.YtnegocgblmdihaaGreatDoor

/-
  Rows of rows compared: the runs of the machine.
-/
namespace Go.Proofs.YtnegocgblmdihaaGreatDoor
namespace Sx
open Go
set_option maxRecDepth 100000
set_option linter.unusedVariables false

noncomputable def cfgQ0 : Cfg Tryz.prog V := ⟨tab, kinds, fun _ => none, fun _ => none, fun _ _ => none⟩

structure PgP where
  g : RPool
  oa : Option (Nat × Nat)
  ob : Option (Nat × Nat)
  A : List (List Opr)
  B : List (List Opr)
  ca : Nat
  cb : Nat
  hA : SeesR g oa A
  hB : SeesR g ob B
  hl : A.length = B.length
  h1 : A.length ≤ ca
  h2 : B.length ≤ cb
  hm : A.length ≤ maxLen
abbrev TP : List Nat := [0, 1, 2, 3, 4, 5, 6, 7, 8]
def PgI (P : PgP) (i : Nat) : St V := ⟨[(5, .int .i64 (i : Int)), (4, .ff), (0, .rw P.oa P.A.length P.ca), (1, .rw P.ob P.B.length P.cb)], [(0, .rpool P.g)], 3, 53, TP⟩
def PgR (P : PgP) (_ : Unit) : St V := ⟨[(4, .ff)], [(0, .rpool P.g)], 3, 53, TP⟩
structure PhP where
  P : PgP
  i : Nat
  a : List Opr
  b : List Opr
  ha : P.A[i]? = some a
  hb : P.B[i]? = some b
  hl : a.length = b.length
def PhI (Q : PhP) (k : Nat) : St V := ⟨[(6, .int .i64 (k : Int)), (5, .int .i64 (Q.i : Int)), (4, .ff), (0, .rw Q.P.oa Q.P.A.length Q.P.ca), (1, .rw Q.P.ob Q.P.B.length Q.P.cb)], [(0, .rpool Q.P.g)], 3, 53, TP⟩
def PhZ (Q : PhP) : St V := PhI Q 0
def PhE (Q : PhP) (_ : Unit) : St V := PhI Q Q.a.length
def PhR (Q : PhP) (_ : Unit) : St V := PgR Q.P ()
def PhC (Q : PhP) (_ : Unit) : Prop := Q.a = Q.b
def PhD (Q : PhP) (_ : Unit) : Prop := Q.a ≠ Q.b
abbrev TPh : List Nat := [6, 5, 4, 0, 1]
def LPh : LoopS V := trimLoop (trimSt TPh [0]) (loopG 3 PhZ PhC PhE PhD PhR)
noncomputable def cfgQ1 : Cfg Tryz.prog V := ⟨tab, kinds, fun _ => none, fun _ => none, fun f id => match f, id with | 11, 2 => some LPh | _, _ => none⟩
def PgZ (P : PgP) : St V := PgI P 0
def PgE (P : PgP) (_ : Unit) : St V := PgI P P.A.length
def PgC (P : PgP) (_ : Unit) : Prop := P.A = P.B
def PgD (P : PgP) (_ : Unit) : Prop := P.A ≠ P.B
abbrev TPg : List Nat := [5, 4, 0, 1]
def LPg : LoopS V := trimLoop (trimSt TPg [0]) (loopG 3 PgZ PgC PgE PgD PgR)
noncomputable def cfgQ2 : Cfg Tryz.prog V := ⟨tab, kinds, fun _ => none, fun _ => none, fun f id => match f, id with | 11, 0 => some LPg | _, _ => none⟩
theorem bH (Q : PhP) (k : Nat) : runCode cfgQ0 60 11 (loopOf Tryz.f11 2) (PhI Q k) (stopT (trimSt TPh [0])) = Out.need ((0 : Int) ≤ (↑Q.2 : Int) ∧ (↑Q.2 : Int) < (↑Q.P.A.length : Int) ∧ Q.P.oa.isSome = true ∧ Q.P.A.length ≤ Q.P.6) (Out.ex (Option (Nat × Nat)) fun y => Out.ex Nat fun y_1 => Out.ex Nat fun y_2 => Out.need (Q.P.g.at (shiftA Q.P.oa (Q.2 * (1 : Nat))) [PD.sl y y_1 y_2]) (Out.ite (decide ((↑k : Int) < (↑y_1 : Int))) (Out.need ((0 : Int) ≤ (↑Q.2 : Int) ∧ (↑Q.2 : Int) < (↑Q.P.A.length : Int) ∧ Q.P.oa.isSome = true ∧ Q.P.A.length ≤ Q.P.6) (Out.ex (Option (Nat × Nat)) fun y => Out.ex Nat fun y_3 => Out.ex Nat fun y_4 => Out.need (Q.P.g.at (shiftA Q.P.oa (Q.2 * (1 : Nat))) [PD.sl y y_3 y_4]) (Out.need ((0 : Int) ≤ (↑k : Int) ∧ (↑k : Int) < (↑y_3 : Int) ∧ y.isSome = true ∧ y_3 ≤ y_4) (Out.ex Int fun y_5 => Out.ex Int fun y_6 => Out.ex Int fun y_7 => Out.ex Int fun y_8 => Out.need (Q.P.g.at (shiftA y (k * (4 : Nat))) [PD.int .i64 y_5, PD.int .i64 y_6, PD.int .i64 y_7, PD.int .i64 y_8]) (Out.need ((0 : Int) ≤ (↑Q.2 : Int) ∧ (↑Q.2 : Int) < (↑Q.P.B.length : Int) ∧ Q.P.ob.isSome = true ∧ Q.P.B.length ≤ Q.P.7) (Out.ex (Option (Nat × Nat)) fun y => Out.ex Nat fun y_9 => Out.ex Nat fun y_10 => Out.need (Q.P.g.at (shiftA Q.P.ob (Q.2 * (1 : Nat))) [PD.sl y y_9 y_10]) (Out.need ((0 : Int) ≤ (↑k : Int) ∧ (↑k : Int) < (↑y_9 : Int) ∧ y.isSome = true ∧ y_9 ≤ y_10) (Out.ex Int fun y_11 => Out.ex Int fun y_12 => Out.ex Int fun y_13 => Out.ex Int fun y_14 => Out.need (Q.P.g.at (shiftA y (k * (4 : Nat))) [PD.int .i64 y_11, PD.int .i64 y_12, PD.int .i64 y_13, PD.int .i64 y_14]) (Out.ite (!(y_5 == y_11 && (y_6 == y_12 && (y_7 == y_13 && (y_8 == y_14 && true))))) (Out.stop EX.rt {env := [((6 : Nat), .int .i64 (↑k : Int)), ((5 : Nat), .int .i64 (↑Q.2 : Int)), ((4 : Nat), .ff), ((0 : Nat), AV.rw Q.P.oa Q.P.A.length Q.P.6), ((1 : Nat), AV.rw Q.P.ob Q.P.B.length Q.P.7)], heap := [((0 : Nat), Blk.rpool Q.P.g)], nx := (3 : Nat), nt := (53 : Nat), tl := [(0 : Nat), (1 : Nat), (2 : Nat), (3 : Nat), (4 : Nat), (5 : Nat), (6 : Nat), (7 : Nat), (8 : Nat)] : St V }) (Out.stop EX.nx {env := [((6 : Nat), .int .i64 (IntKind.i64.wrap ((↑k : Int) + (1 : Int)))), ((5 : Nat), .int .i64 (↑Q.2 : Int)), ((4 : Nat), .ff), ((0 : Nat), AV.rw Q.P.oa Q.P.A.length Q.P.6), ((1 : Nat), AV.rw Q.P.ob Q.P.B.length Q.P.7)], heap := [((0 : Nat), Blk.rpool Q.P.g)], nx := (3 : Nat), nt := (53 : Nat), tl := [(0 : Nat), (1 : Nat), (2 : Nat), (3 : Nat), (4 : Nat), (5 : Nat), (6 : Nat), (7 : Nat), (8 : Nat)] : St V })))))))))) (Out.stop (EX.ex (2 : Nat)) {env := [((6 : Nat), .int .i64 (↑k : Int)), ((5 : Nat), .int .i64 (↑Q.2 : Int)), ((4 : Nat), .ff), ((0 : Nat), AV.rw Q.P.oa Q.P.A.length Q.P.6), ((1 : Nat), AV.rw Q.P.ob Q.P.B.length Q.P.7)], heap := [((0 : Nat), Blk.rpool Q.P.g)], nx := (3 : Nat), nt := (53 : Nat), tl := [(0 : Nat), (1 : Nat), (2 : Nat), (3 : Nat), (4 : Nat), (5 : Nat), (6 : Nat), (7 : Nat), (8 : Nat)] : St V }))) := by kernel_rfl

theorem bG (P : PgP) (i : Nat) : runCode cfgQ1 60 11 (loopOf Tryz.f11 0) (PgI P i) (stopT (trimSt TPg [0])) = Out.ite (decide ((↑i : Int) < (↑P.A.length : Int))) (Out.need ((0 : Int) ≤ (↑i : Int) ∧ (↑i : Int) < (↑P.A.length : Int) ∧ P.oa.isSome = true ∧ P.A.length ≤ P.6) (Out.ex (Option (Nat × Nat)) fun y => Out.ex Nat fun y_1 => Out.ex Nat fun y_2 => Out.need (P.g.at (shiftA P.oa (i * (1 : Nat))) [PD.sl y y_1 y_2]) (Out.need ((0 : Int) ≤ (↑i : Int) ∧ (↑i : Int) < (↑P.B.length : Int) ∧ P.ob.isSome = true ∧ P.B.length ≤ P.7) (Out.ex (Option (Nat × Nat)) fun y => Out.ex Nat fun y_3 => Out.ex Nat fun y_4 => Out.need (P.g.at (shiftA P.ob (i * (1 : Nat))) [PD.sl y y_3 y_4]) (Out.ite ((↑y_1 : Int) != (↑y_3 : Int)) (Out.stop EX.rt {env := [((5 : Nat), .int .i64 (↑i : Int)), ((4 : Nat), .ff), ((0 : Nat), AV.rw P.oa P.A.length P.6), ((1 : Nat), AV.rw P.ob P.B.length P.7)], heap := [((0 : Nat), Blk.rpool P.g)], nx := (3 : Nat), nt := (53 : Nat), tl := [(0 : Nat), (1 : Nat), (2 : Nat), (3 : Nat), (4 : Nat), (5 : Nat), (6 : Nat), (7 : Nat), (8 : Nat)] : St V }) (Out.need (LoopFor Tryz.prog (11 : Nat) (2 : Nat) (loopOf Tryz.f11 (2 : Nat)) LPh) (Out.ex (PhP → Prop) fun y => Out.need ((3 : Nat) ≤ (3 : Nat) ∧ SImp (3 : Nat) {env := [((6 : Nat), .lit .i64 (0 : Int)), ((5 : Nat), .int .i64 (↑i : Int)), ((4 : Nat), .ff), ((0 : Nat), AV.rw P.oa P.A.length P.6), ((1 : Nat), AV.rw P.ob P.B.length P.7)], heap := [((0 : Nat), Blk.rpool P.g)], nx := (3 : Nat), nt := (53 : Nat), tl := [(0 : Nat), (1 : Nat), (2 : Nat), (3 : Nat), (4 : Nat), (5 : Nat), (6 : Nat), (7 : Nat), (8 : Nat)] : St V } PhZ y) (Out.all PhP fun y_5 => Out.asm (y y_5) ((Out.all Unit fun y => Out.asm (PhC y_5 y) (Out.stop EX.nx {env := [((5 : Nat), .int .i64 (IntKind.i64.wrap ((↑y_5.2 : Int) + (1 : Int)))), ((4 : Nat), .ff), ((0 : Nat), AV.rw y_5.P.oa y_5.P.A.length y_5.P.6), ((1 : Nat), AV.rw y_5.P.ob y_5.P.B.length y_5.P.7)], heap := [((0 : Nat), Blk.rpool y_5.P.g)], nx := (3 : Nat), nt := (53 : Nat), tl := [(0 : Nat), (1 : Nat), (2 : Nat), (3 : Nat), (4 : Nat), (5 : Nat), (6 : Nat), (7 : Nat), (8 : Nat)] : St V })).both (Out.all Unit fun y => Out.asm (PhD y_5 y) (Out.stop EX.rt {env := [((5 : Nat), .und), ((4 : Nat), .ff), ((0 : Nat), .und), ((1 : Nat), .und)], heap := [((0 : Nat), Blk.rpool y_5.P.g)], nx := (3 : Nat), nt := (53 : Nat), tl := [(0 : Nat), (1 : Nat), (2 : Nat), (3 : Nat), (4 : Nat), (5 : Nat), (6 : Nat), (7 : Nat), (8 : Nat)] : St V }))))))))))) (Out.stop (EX.ex (0 : Nat)) {env := [((5 : Nat), .int .i64 (↑i : Int)), ((4 : Nat), .ff), ((0 : Nat), AV.rw P.oa P.A.length P.6), ((1 : Nat), AV.rw P.ob P.B.length P.7)], heap := [((0 : Nat), Blk.rpool P.g)], nx := (3 : Nat), nt := (53 : Nat), tl := [(0 : Nat), (1 : Nat), (2 : Nat), (3 : Nat), (4 : Nat), (5 : Nat), (6 : Nat), (7 : Nat), (8 : Nat)] : St V }) := by kernel_rfl

theorem t11 (g : RPool) (oa ob : Option (Nat × Nat)) (la ca lb cb : Nat) : runF cfgQ2 60 11 Tryz.f11 [.rw oa la ca, .rw ob lb cb] [(0, .rpool g)] 3 = Out.ite ((↑la : Int) != (↑lb : Int)) (Out.fin .ff [((0 : Nat), Blk.rpool g)] (3 : Nat)) (Out.need (LoopFor Tryz.prog (11 : Nat) (0 : Nat) (loopOf Tryz.f11 (0 : Nat)) LPg) (Out.ex (PgP → Prop) fun y => Out.need ((3 : Nat) ≤ (3 : Nat) ∧ SImp (3 : Nat) {env := [((5 : Nat), .lit .i64 (0 : Int)), ((4 : Nat), .ff), ((0 : Nat), AV.rw oa la ca), ((1 : Nat), AV.rw ob lb cb)], heap := [((0 : Nat), Blk.rpool g)], nx := (3 : Nat), nt := (53 : Nat), tl := [] : St V } PgZ y) (Out.all PgP fun y_1 => Out.asm (y y_1) ((Out.all Unit fun y => Out.asm (PgC y_1 y) (Out.fin .tt [((0 : Nat), Blk.rpool y_1.g)] (3 : Nat))).both (Out.all Unit fun y => Out.asm (PgD y_1 y) (Out.fin .ff [((0 : Nat), Blk.rpool y_1.g)] (3 : Nat))))))) := by kernel_rfl

end Sx
end Go.Proofs.YtnegocgblmdihaaGreatDoor

/-
  Rows of rows of operations compared: the document's Programs, by its contract.
-/
namespace Go.Proofs.YtnegocgblmdihaaGreatDoor
namespace Sx
open Go
set_option linter.unusedSimpArgs false
set_option linter.unusedVariables false

theorem cfgQ0_ok : cfgQ0.ok := ⟨tab_met, kinds_met, mixed_met, fun g fn h => (by cases h), fun g H h => (by cases h)⟩
theorem cfgQ1_ok : cfgQ1.ok := ⟨tab_met, kinds_met, mixed_met, fun g fn h => (by cases h), fun g H h => (by cases h)⟩
theorem cfgQ2_ok : cfgQ2.ok := ⟨tab_met, kinds_met, mixed_met, fun g fn h => (by cases h), fun g H h => (by cases h)⟩
theorem wrap_full {x : Int} (h0 : 0 ≤ x) (h1 : x ≤ 9223372036854775807) : IntKind.i64.wrap x = x := by
  simp [IntKind.wrap, IntKind.bits, IntKind.signed]; omega
theorem at_some {f : RPool} {o : Option (Nat × Nat)} {k : Nat} {ds : List PD} (h : f.at (shiftA o k) ds) : o.isSome = true := by
  obtain ⟨b, off, e, _⟩ := h
  cases o with
  | none => cases e
  | some q => rfl
theorem opr_eq {x y : Opr} : (x.act == y.act && (x.key == y.key && (x.value == y.value && (x.weight == y.weight && true)))) = true ↔ x = y := by
  obtain ⟨a, b, c, d⟩ := x
  obtain ⟨a', b', c', d'⟩ := y
  simp [and_assoc]
theorem take_more {α : Type} {a b : List α} {k : Nat} {x y : α} (ha : a[k]? = some x) (hb : b[k]? = some y) (h : a.take k = b.take k) (e : x = y) : a.take (k + 1) = b.take (k + 1) := by
  have h1 := (List.getElem?_eq_some_iff.1 ha)
  have h2 := (List.getElem?_eq_some_iff.1 hb)
  obtain ⟨l1, e1⟩ := h1
  obtain ⟨l2, e2⟩ := h2
  rw [List.take_succ_eq_append_getElem l1, List.take_succ_eq_append_getElem l2, h, e1, e2, e]
theorem lph_ok : LoopOk Tryz.prog 2 (loopOf Tryz.f11 2) LPh := by
  refine trimLoop_ok (trim_ok _ _) (loopT_ok (C := cfgQ0) cfgQ0_ok (f := 11) (n := 60) (trim_ok TPh [0]) 3 PhI (fun Q k => k ≤ Q.a.length ∧ Q.a.take k = Q.b.take k) (fun _ => 0) (fun Q k => Q.a.length - k)
    PhC PhE PhD PhR (fun Q => ⟨Nat.zero_le _, rfl⟩) ?_)
  rintro Q k ⟨hk, ht⟩
  rw [bH]
  obtain ⟨o1, c1, g1, l1, m1, e1⟩ := Q.P.hA Q.i Q.a Q.ha
  obtain ⟨o2, c2, g2, l2, m2, e2⟩ := Q.P.hB Q.i Q.b Q.hb
  have i1 := (List.getElem?_eq_some_iff.1 Q.ha).1
  have i2 := (List.getElem?_eq_some_iff.1 Q.hb).1
  have hl := Q.hl
  have g1' : Q.P.g.at (shiftA Q.P.oa (Q.i * 1)) [.sl o1 Q.a.length c1] := by rw [Nat.mul_one]; exact g1
  have g2' : Q.P.g.at (shiftA Q.P.ob (Q.i * 1)) [.sl o2 Q.b.length c2] := by rw [Nat.mul_one]; exact g2
  refine ⟨⟨by omega, by omega, at_some g1, Q.P.h1⟩, o1, Q.a.length, c1, g1', fun h => ?_, fun h => ⟨rfl, ?_⟩⟩
  · have h := of_decide_eq_true h
    have hlt : k < Q.a.length := by omega
    have hx : Q.a[k]? = some Q.a[k] := List.getElem?_eq_getElem hlt
    have hy : Q.b[k]? = some Q.b[k] := List.getElem?_eq_getElem (by omega)
    have s1 := e1 k _ hx
    have s2 := e2 k _ hy
    generalize Q.a[k] = x at hx s1
    generalize Q.b[k] = y at hy s2
    refine ⟨⟨by omega, by omega, at_some g1, Q.P.h1⟩, o1, Q.a.length, c1, g1', ⟨by omega, by omega, at_some s1, l1⟩, x.act, x.key, x.value, x.weight, s1, ⟨by omega, by omega, at_some g2, Q.P.h2⟩, o2, Q.b.length, c2, g2', ⟨by omega, by omega, at_some s2, l2⟩, y.act, y.key, y.value, y.weight, s2, fun hne => ?_, fun heq => ?_⟩
    · have hne : x ≠ y := fun e => by rw [opr_eq.2 e] at hne; cases hne
      refine SImp.of_wk (ren := []) () ?_ (fun e => hne ?_)
      · exact ⟨⟨AV.sub_same _, trivial⟩, ⟨.same _, trivial⟩, rfl, tl_ok rfl, ⟨.inl (in_ok rfl), trivial⟩, ⟨Nat.le_of_ble_eq_true rfl, rfl⟩⟩
      · have e : Q.a = Q.b := e
        rw [e, hy] at hx; exact (Option.some.inj hx).symm
    · have heq : x = y := opr_eq.1 (by rw [Bool.not_eq_false'] at heq; exact heq)
      have hw : IntKind.wrap .i64 ((k : Int) + 1) = ((k + 1 : Nat) : Int) := by simp only [maxLen] at m1; rw [wrap_full (by omega) (by omega)]; omega
      refine SImp.of_wk (ren := []) (k + 1) ?_ ⟨⟨hlt, take_more hx hy ht heq⟩, by show Q.a.length - (k + 1) < Q.a.length - k; omega⟩
      exact ⟨⟨AV.sub_int hw, AV.sub_same _, AV.sub_same _, AV.sub_same _, AV.sub_same _, trivial⟩, ⟨.same _, trivial⟩, rfl, tl_ok rfl, ⟨.inl (in_ok rfl), trivial⟩, ⟨Nat.le_of_ble_eq_true rfl, rfl⟩⟩
  · have h := of_decide_eq_false h
    have he : k = Q.a.length := by omega
    subst he
    refine SImp.of_wk (ren := []) () ?_ (by show Q.a = Q.b; rwa [List.take_of_length_le (Nat.le_refl _), List.take_of_length_le (by omega)] at ht)
    exact ⟨⟨AV.sub_same _, AV.sub_same _, AV.sub_same _, AV.sub_same _, AV.sub_same _, trivial⟩, ⟨.same _, trivial⟩, rfl, tl_ok rfl, ⟨.inl (in_ok rfl), trivial⟩, ⟨Nat.le_of_ble_eq_true rfl, rfl⟩⟩
theorem lpg_ok : LoopOk Tryz.prog 0 (loopOf Tryz.f11 0) LPg := by
  refine trimLoop_ok (trim_ok _ _) (loopT_ok (C := cfgQ1) cfgQ1_ok (f := 11) (n := 60) (trim_ok TPg [0]) 3 PgI (fun P i => i ≤ P.A.length ∧ P.A.take i = P.B.take i) (fun _ => 0) (fun P i => P.A.length - i)
    PgC PgE PgD PgR (fun P => ⟨Nat.zero_le _, rfl⟩) ?_)
  rintro P i ⟨hi, ht⟩
  rw [bG]
  have hl := P.hl
  have hm := P.hm
  refine ⟨fun h => ?_, fun h => ⟨rfl, ?_⟩⟩
  · have h := of_decide_eq_true h
    have hlt : i < P.A.length := by omega
    have ha : P.A[i]? = some P.A[i] := List.getElem?_eq_getElem hlt
    have hb : P.B[i]? = some P.B[i] := List.getElem?_eq_getElem (by omega)
    generalize P.A[i] = a at ha
    generalize P.B[i] = b at hb
    obtain ⟨o1, c1, g1, l1, m1, e1⟩ := P.hA i a ha
    obtain ⟨o2, c2, g2, l2, m2, e2⟩ := P.hB i b hb
    refine ⟨⟨by omega, by omega, at_some g1, P.h1⟩, o1, a.length, c1, by rw [Nat.mul_one]; exact g1, ⟨by omega, by omega, at_some g2, P.h2⟩, o2, b.length, c2, by rw [Nat.mul_one]; exact g2, fun hne => ?_, fun heq => ?_⟩
    · refine SImp.of_wk (ren := []) () ?_ (fun e => ?_)
      · exact ⟨⟨AV.sub_same _, trivial⟩, ⟨.same _, trivial⟩, rfl, tl_ok rfl, ⟨.inl (in_ok rfl), trivial⟩, ⟨Nat.le_of_ble_eq_true rfl, rfl⟩⟩
      · have e : P.A = P.B := e
        rw [e, hb] at ha
        rw [Option.some.inj ha] at hne; simp at hne
    · have heq : a.length = b.length := by simp at heq; omega
      let Q : PhP := ⟨P, i, a, b, ha, hb, heq⟩
      refine ⟨lph_ok, fun q => q = Q, ⟨Nat.le_refl _, SImp.of_wk (ren := []) Q ?_ rfl⟩, ?_⟩
      · exact ⟨⟨AV.sub_lit', AV.sub_same _, AV.sub_same _, AV.sub_same _, AV.sub_same _, trivial⟩, ⟨.same _, trivial⟩, rfl, tl_ok rfl, ⟨.inl (in_ok rfl), trivial⟩, ⟨Nat.le_of_ble_eq_true rfl, rfl⟩⟩
      · rintro _ rfl
        refine ⟨fun _ e => ?_, fun _ e => ?_⟩
        · have hw : IntKind.wrap .i64 ((i : Int) + 1) = ((i + 1 : Nat) : Int) := by simp only [maxLen] at hm; rw [wrap_full (by omega) (by omega)]; omega
          refine SImp.of_wk (ren := []) (i + 1) ?_ ⟨⟨hlt, take_more ha hb ht e⟩, by show P.A.length - (i + 1) < P.A.length - i; omega⟩
          exact ⟨⟨AV.sub_int hw, AV.sub_same _, AV.sub_same _, AV.sub_same _, trivial⟩, ⟨.same _, trivial⟩, rfl, tl_ok rfl, ⟨.inl (in_ok rfl), trivial⟩, ⟨Nat.le_of_ble_eq_true rfl, rfl⟩⟩
        · refine SImp.of_wk (ren := []) () ?_ (fun e' => e ?_)
          · exact ⟨⟨AV.sub_same _, trivial⟩, ⟨.same _, trivial⟩, rfl, tl_ok rfl, ⟨.inl (in_ok rfl), trivial⟩, ⟨Nat.le_of_ble_eq_true rfl, rfl⟩⟩
          · have e' : P.A = P.B := e'
            rw [e', hb] at ha; exact (Option.some.inj ha).symm
  · have h := of_decide_eq_false h
    have he : i = P.A.length := by omega
    subst he
    refine SImp.of_wk (ren := []) () ?_ (by show P.A = P.B; rwa [List.take_of_length_le (Nat.le_refl _), List.take_of_length_le (by omega)] at ht)
    exact ⟨⟨AV.sub_same _, AV.sub_same _, AV.sub_same _, AV.sub_same _, trivial⟩, ⟨.same _, trivial⟩, rfl, tl_ok rfl, ⟨.inl (in_ok rfl), trivial⟩, ⟨Nat.le_of_ble_eq_true rfl, rfl⟩⟩

/-- Rows of rows are seen there. -/
def RowsAt (g : RPool) (o : Option (Nat × Nat)) (len cap : Nat) (rows : List (List Opr)) : Prop := SeesR g o rows ∧ len = rows.length ∧ rows.length ≤ cap ∧ rows.length ≤ maxLen
def runProgs : RunSee V := fun g ar K => match ar with
  | [.val (.rw oa la ca), .val (.rw ob lb cb)] => .ex (List (List Opr) × List (List Opr)) fun q => .need (RowsAt g oa la ca q.1 ∧ RowsAt g ob lb cb q.2) (K (.bool (decide (q.1 = q.2))) [])
  | _ => .bad 610
theorem hProgs0 : HookOk Tryz.prog 11 (hookSee [.val, .val] runProgs) := by
  refine see_hook (C := cfgQ2) cfgQ2_ok (n := 60) (fn := Tryz.f11) ⟨by kernel_rfl, by kernel_rfl⟩ (by kernel_rfl) ?_
  intro M g ar K0 H
  unfold runProgs at H
  split at H
  · rename_i oa la ca ob lb cb
    obtain ⟨⟨A, B⟩, ⟨⟨a1, rfl, a3, a4⟩, ⟨b1, rfl, b3, b4⟩⟩, H⟩ := H
    refine ⟨show 2 ≤ _ by decide +kernel, ?_⟩
    show (runF cfgQ2 60 11 Tryz.f11 [.rw oa A.length ca, .rw ob B.length cb] [(0, .rpool g)] 3).holds _
    rw [t11]
    refine ⟨fun h => ⟨_, _, H, endSee (AV.sub_ff (decide_eq_false fun e => ?_)) rfl⟩, fun h => ?_⟩
    · have e : A = B := e
      rw [e] at h; simp at h
    · have hl : A.length = B.length := by simp at h; omega
      let P : PgP := ⟨g, oa, ob, A, B, ca, cb, a1, b1, hl, a3, b3, a4⟩
      refine ⟨lpg_ok, fun p => p = P, ⟨Nat.le_refl _, SImp.of_wk (ren := []) P ?_ rfl⟩, ?_⟩
      · exact ⟨⟨AV.sub_lit', AV.sub_same _, AV.sub_same _, AV.sub_same _, trivial⟩, ⟨.same _, trivial⟩, rfl, tl_ok rfl, ⟨.inl (in_ok rfl), trivial⟩, ⟨Nat.le_of_ble_eq_true rfl, rfl⟩⟩
      · rintro _ rfl
        exact ⟨fun _ e => ⟨_, _, H, endSee (AV.sub_tt (decide_eq_true e)) rfl⟩, fun _ e => ⟨_, _, H, endSee (AV.sub_ff (decide_eq_false e)) rfl⟩⟩
  · exact H.elim
/-- A row of a pool as a row that is only read. -/
def weak : AV → AV
  | .rs o l c => .rw o l c
  | x => x
theorem weak_rel {r : Nm} {x : AV} {v : Value} (h : rel r x v) : rel r (weak x) v := by
  cases x with
  | rs o l c => exact ⟨addrOf o, h, .inr rfl⟩
  | _ => exact h
theorem weak_relL {r : Nm} : ∀ {xs : List AV} {vs : List Value}, relL r xs vs → relL r (xs.map weak) vs
  | [], _, h => h
  | x :: xs, _, ⟨v, us, e, h, k⟩ => ⟨v, us, e, weak_rel h, weak_relL k⟩
def hookWeak {U : Uni} (H : HookS U) : HookS U := fun args h nx K => H (args.map weak) h nx K
theorem hookWeak_ok {U : Uni} {P : Program} {f : Nat} {H : HookS U} (hH : HookOk P f H) : HookOk P f (hookWeak H) := by
  intro M args h nx K hh
  obtain ⟨h1, h2⟩ := hH M (args.map weak) h nx K hh
  exact ⟨h1, fun β r vs w hr hs hf => h2 β r vs w (weak_relL hr) hs hf⟩
theorem hProgs : HookOk Tryz.prog 11 (hookWeak (hookSee [.val, .val] runProgs)) := hookWeak_ok hProgs0
end Sx
end Go.Proofs.YtnegocgblmdihaaGreatDoor

/-
  Scripts written by the document: the runs of the machine.
-/
namespace Go.Proofs.YtnegocgblmdihaaGreatDoor
namespace Sx
open Go
set_option maxRecDepth 100000
set_option linter.unusedVariables false

noncomputable def hooksB : Nat → Option (HookS V) := fun g => match g with | 19 => some (hookFree (U := V) [.int .i64] runByte) | _ => none
noncomputable def cfgB0 : Cfg Tryz.prog V := ⟨tab, kinds, fun _ => none, hooksB, fun _ _ => none⟩
def confArg (c : Conf) : AV := .agg [.int .i64 c.c0, .int .i64 c.c1, .int .i64 c.c2, .int .i64 c.c3, .int .i64 c.c4, .int .i64 c.c5]

structure BcP where
  g : RPool
  c : Conf
  o : Option (Nat × Nat)
  ca : Nat
  rows : List (List Opr)
  l : List Int
  lc : Nat
  h : RowsAt g o rows.length ca rows
  hc : okC c = true
  h8 : rows.length ≤ 8
  hl : l.length ≤ 1048576
abbrev TB : List Nat := [0, 1, 2, 3, 4, 5, 6, 7, 8, 9, 10, 11, 12, 13, 14, 15, 16, 17, 18, 19, 20, 21, 22, 23, 24, 25, 26, 27, 28, 29, 30]
/-- What is written behind so many rows. -/
def outR (P : BcP) (i : Nat) : List Int := encC P.c ++ (P.rows.length : Int) :: encRows (P.rows.take i)
def BcO (P : BcP) (x : Nat × Nat) : St V := ⟨[(10, .int .i64 (x.1 : Int)), (9, .sl false 6 0 1 (outR P x.1).length ((outR P x.1).length + x.2)), (7, .lit .i64 0), (6, .nilS), (1, .rw P.o P.rows.length P.ca), (2, .sl false 3 0 1 P.l.length P.lc)], [(6, .arr 5 Kd.byte (outR P x.1) x.2), (0, .rpool P.g), (3, .ro Kd.int P.l)], 7, 170, TB⟩
structure BiP where
  P : BcP
  i : Nat
  row : List Opr
  hrow : P.rows[i]? = some row
  h32 : row.length ≤ 32
  hR : (outR P i).length ≤ 4096
def outI (Q : BiP) (k : Nat) : List Int := outR Q.P Q.i ++ (Q.row.length : Int) :: (Q.row.take k).flatMap encO
def BcI (Q : BiP) (x : Nat × Nat) : St V := ⟨[(11, .int .i64 (x.1 : Int)), (10, .int .i64 (Q.i : Int)), (9, .sl false 9 0 1 (outI Q x.1).length ((outI Q x.1).length + x.2)), (7, .lit .i64 0), (6, .nilS), (1, .rw Q.P.o Q.P.rows.length Q.P.ca), (2, .sl false 3 0 1 Q.P.l.length Q.P.lc)], [(9, .arr 5 Kd.byte (outI Q x.1) x.2), (0, .rpool Q.P.g), (3, .ro Kd.int Q.P.l)], 10, 170, TB⟩
def outP (P : BcP) (t : Nat) : List Int := outR P P.rows.length ++ P.l.take t
def BcQ (P : BcP) (x : Nat × Nat) : St V := ⟨[(13, .int .i64 (x.1 : Int)), (9, .sl false 7 0 1 (outP P x.1).length ((outP P x.1).length + x.2)), (7, .lit .i64 0), (6, .nilS), (2, .sl false 3 0 1 P.l.length P.lc)], [(7, .arr 5 Kd.byte (outP P x.1) x.2), (0, .rpool P.g), (3, .ro Kd.int P.l)], 8, 170, TB⟩
def BcR (P : BcP) (_ : Unit) : St V := ⟨[(7, .lit .i64 1), (6, .nilS)], [(0, .rpool P.g), (3, .ro Kd.int P.l)], 7, 170, TB⟩
def BiR (Q : BiP) (_ : Unit) : St V := ⟨[(7, .lit .i64 1), (6, .nilS)], [(0, .rpool Q.P.g), (3, .ro Kd.int Q.P.l)], 10, 170, TB⟩
def BiZ0 (Q : BiP) (sp : Nat) : St V := BcI Q (0, sp)
structure BiP' extends BiP where
  sp : Nat
structure BcP' extends BcP where
  sp : Nat
def BiI (Q : BiP') (x : Nat × Nat) : St V := BcI Q.toBiP x
def BiZ (Q : BiP') : St V := BcI Q.toBiP (0, Q.sp)
def BiE (Q : BiP') (sp : Nat) : St V := BcI Q.toBiP (Q.row.length, sp)
def BiC (Q : BiP') (_ : Nat) : Prop := Q.row.all okO = true
def BiD (Q : BiP') (_ : Unit) : Prop := Q.row.all okO = false
def BiF (Q : BiP') (u : Unit) : St V := BiR Q.toBiP u
abbrev TBi : List Nat := [11, 10, 9, 7, 6, 1, 2]
def LBi : LoopS V := trimLoop (trimSt TBi [0, 3, 8]) (loopG 9 BiZ BiC BiE BiD BiF)
noncomputable def cfgB1 : Cfg Tryz.prog V := ⟨tab, kinds, fun _ => none, hooksB, fun f id => match f, id with | 10, 2 => some LBi | _, _ => none⟩
def BoI (P : BcP') (x : Nat × Nat) : St V := BcO P.toBcP x
def BoZ (P : BcP') : St V := BcO P.toBcP (0, P.sp)
def BoE (P : BcP') (sp : Nat) : St V := BcO P.toBcP (P.rows.length, sp)
def BoC (P : BcP') (_ : Nat) : Prop := P.rows.all okRow = true
def BoD (P : BcP') (_ : Unit) : Prop := P.rows.all okRow = false
def BoF (P : BcP') (u : Unit) : St V := BcR P.toBcP u
abbrev TBo : List Nat := [10, 9, 7, 6, 1, 2]
def LBo : LoopS V := trimLoop (trimSt TBo [0, 3, 5]) (loopG 6 BoZ BoC BoE BoD BoF)
structure BqP extends BcP where
  sp : Nat
  hR : (outR toBcP rows.length).length ≤ 4096
def BqI (P : BqP) (x : Nat × Nat) : St V := BcQ P.toBcP x
def BqZ (P : BqP) : St V := BcQ P.toBcP (0, P.sp)
def BqE (P : BqP) (sp : Nat) : St V := BcQ P.toBcP (P.l.length, sp)
def BqC (P : BqP) (_ : Nat) : Prop := P.l.all isB = true
def BqD (P : BqP) (_ : Unit) : Prop := P.l.all isB = false
def BqF (P : BqP) (u : Unit) : St V := BcR P.toBcP u
abbrev TBq : List Nat := [13, 9, 7, 6, 2]
def LBq : LoopS V := trimLoop (trimSt TBq [0, 3, 6]) (loopG 7 BqZ BqC BqE BqD BqF)
noncomputable def cfgB2 : Cfg Tryz.prog V := ⟨tab, kinds, fun _ => none, hooksB, fun f id => match f, id with | 10, 0 => some LBo | 10, 4 => some LBq | _, _ => none⟩
theorem dI (Q : BiP') (k sp : Nat) : runCode cfgB0 60 10 (loopOf Tryz.f10 2) (BiI Q (k, sp)) (stopT (trimSt TBi [0, 3, 5, 6, 7, 8, 9, 10, 11, 12, 13, 14, 15, 16, 17, 18])) = Out.need ((0 : Int) ≤ (↑Q.toBiP.2 : Int) ∧ (↑Q.toBiP.2 : Int) < (↑Q.P.rows.length : Int) ∧ Q.P.o.isSome = true ∧ Q.P.rows.length ≤ Q.P.4) (Out.ex (Option (Nat × Nat)) fun y => Out.ex Nat fun y_1 => Out.ex Nat fun y_2 => Out.need (Q.P.g.at (shiftA Q.P.o (Q.toBiP.2 * (1 : Nat))) [PD.sl y y_1 y_2]) (Out.ite (decide ((↑k : Int) < (↑y_1 : Int))) (Out.need ((0 : Int) ≤ (↑Q.toBiP.2 : Int) ∧ (↑Q.toBiP.2 : Int) < (↑Q.P.rows.length : Int) ∧ Q.P.o.isSome = true ∧ Q.P.rows.length ≤ Q.P.4) (Out.ex (Option (Nat × Nat)) fun y => Out.ex Nat fun y_3 => Out.ex Nat fun y_4 => Out.need (Q.P.g.at (shiftA Q.P.o (Q.toBiP.2 * (1 : Nat))) [PD.sl y y_3 y_4]) (Out.need ((0 : Int) ≤ (↑k : Int) ∧ (↑k : Int) < (↑y_3 : Int) ∧ y.isSome = true ∧ y_3 ≤ y_4) (Out.ex Int fun y_5 => Out.ex Int fun y_6 => Out.ex Int fun y_7 => Out.ex Int fun y_8 => Out.need (Q.P.g.at (shiftA y (k * (4 : Nat))) [PD.int .i64 y_5, PD.int .i64 y_6, PD.int .i64 y_7, PD.int .i64 y_8]) (Out.ite (decide (y_5 < (0 : Int))) (Out.stop EX.rt {env := [((11 : Nat), .int .i64 (↑k : Int)), ((10 : Nat), .int .i64 (↑Q.toBiP.2 : Int)), ((9 : Nat), .sl false (9 : Nat) (0 : Nat) (1 : Nat) (outI Q.toBiP k).length ((outI Q.toBiP k).length + sp)), ((7 : Nat), .lit .i64 (1 : Int)), ((6 : Nat), .nilS), ((1 : Nat), AV.rw Q.P.o Q.P.rows.length Q.P.4), ((2 : Nat), .sl false (3 : Nat) (0 : Nat) (1 : Nat) Q.P.l.length Q.P.7)], heap := [((10 : Nat), .cells (49 : Nat) [.int .i64 y_5, .int .i64 y_6, .int .i64 y_7, .int .i64 y_8]), ((9 : Nat), .arr (5 : Nat) Kd.byte (outI Q.toBiP k) sp), ((0 : Nat), Blk.rpool Q.P.g), ((3 : Nat), .ro Kd.int Q.P.l)], nx := (12 : Nat), nt := (170 : Nat), tl := [(10 : Nat), (0 : Nat), (1 : Nat), (2 : Nat), (3 : Nat), (4 : Nat), (5 : Nat), (6 : Nat), (7 : Nat), (8 : Nat), (9 : Nat), (10 : Nat), (11 : Nat), (12 : Nat), (13 : Nat), (14 : Nat), (15 : Nat), (16 : Nat), (17 : Nat), (18 : Nat), (19 : Nat), (20 : Nat), (21 : Nat), (22 : Nat), (23 : Nat), (24 : Nat), (25 : Nat), (26 : Nat), (27 : Nat), (28 : Nat), (29 : Nat), (30 : Nat)] : St V }) (Out.ite (decide (y_5 > (4 : Int))) (Out.stop EX.rt {env := [((11 : Nat), .int .i64 (↑k : Int)), ((10 : Nat), .int .i64 (↑Q.toBiP.2 : Int)), ((9 : Nat), .sl false (9 : Nat) (0 : Nat) (1 : Nat) (outI Q.toBiP k).length ((outI Q.toBiP k).length + sp)), ((7 : Nat), .lit .i64 (1 : Int)), ((6 : Nat), .nilS), ((1 : Nat), AV.rw Q.P.o Q.P.rows.length Q.P.4), ((2 : Nat), .sl false (3 : Nat) (0 : Nat) (1 : Nat) Q.P.l.length Q.P.7)], heap := [((10 : Nat), .cells (49 : Nat) [.int .i64 y_5, .int .i64 y_6, .int .i64 y_7, .int .i64 y_8]), ((9 : Nat), .arr (5 : Nat) Kd.byte (outI Q.toBiP k) sp), ((0 : Nat), Blk.rpool Q.P.g), ((3 : Nat), .ro Kd.int Q.P.l)], nx := (12 : Nat), nt := (170 : Nat), tl := [(10 : Nat), (0 : Nat), (1 : Nat), (2 : Nat), (3 : Nat), (4 : Nat), (5 : Nat), (6 : Nat), (7 : Nat), (8 : Nat), (9 : Nat), (10 : Nat), (11 : Nat), (12 : Nat), (13 : Nat), (14 : Nat), (15 : Nat), (16 : Nat), (17 : Nat), (18 : Nat), (19 : Nat), (20 : Nat), (21 : Nat), (22 : Nat), (23 : Nat), (24 : Nat), (25 : Nat), (26 : Nat), (27 : Nat), (28 : Nat), (29 : Nat), (30 : Nat)] : St V }) (Out.ite (!isB y_6) (Out.stop EX.rt {env := [((11 : Nat), .int .i64 (↑k : Int)), ((10 : Nat), .int .i64 (↑Q.toBiP.2 : Int)), ((9 : Nat), .sl false (9 : Nat) (0 : Nat) (1 : Nat) (outI Q.toBiP k).length ((outI Q.toBiP k).length + sp)), ((7 : Nat), .lit .i64 (1 : Int)), ((6 : Nat), .nilS), ((1 : Nat), AV.rw Q.P.o Q.P.rows.length Q.P.4), ((2 : Nat), .sl false (3 : Nat) (0 : Nat) (1 : Nat) Q.P.l.length Q.P.7)], heap := [((10 : Nat), .cells (49 : Nat) [.int .i64 y_5, .int .i64 y_6, .int .i64 y_7, .int .i64 y_8]), ((9 : Nat), .arr (5 : Nat) Kd.byte (outI Q.toBiP k) sp), ((0 : Nat), Blk.rpool Q.P.g), ((3 : Nat), .ro Kd.int Q.P.l)], nx := (12 : Nat), nt := (170 : Nat), tl := [(10 : Nat), (0 : Nat), (1 : Nat), (2 : Nat), (3 : Nat), (4 : Nat), (5 : Nat), (6 : Nat), (7 : Nat), (8 : Nat), (9 : Nat), (10 : Nat), (11 : Nat), (12 : Nat), (13 : Nat), (14 : Nat), (15 : Nat), (16 : Nat), (17 : Nat), (18 : Nat), (19 : Nat), (20 : Nat), (21 : Nat), (22 : Nat), (23 : Nat), (24 : Nat), (25 : Nat), (26 : Nat), (27 : Nat), (28 : Nat), (29 : Nat), (30 : Nat)] : St V }) (Out.ite (!isB y_7) (Out.stop EX.rt {env := [((11 : Nat), .int .i64 (↑k : Int)), ((10 : Nat), .int .i64 (↑Q.toBiP.2 : Int)), ((9 : Nat), .sl false (9 : Nat) (0 : Nat) (1 : Nat) (outI Q.toBiP k).length ((outI Q.toBiP k).length + sp)), ((7 : Nat), .lit .i64 (1 : Int)), ((6 : Nat), .nilS), ((1 : Nat), AV.rw Q.P.o Q.P.rows.length Q.P.4), ((2 : Nat), .sl false (3 : Nat) (0 : Nat) (1 : Nat) Q.P.l.length Q.P.7)], heap := [((10 : Nat), .cells (49 : Nat) [.int .i64 y_5, .int .i64 y_6, .int .i64 y_7, .int .i64 y_8]), ((9 : Nat), .arr (5 : Nat) Kd.byte (outI Q.toBiP k) sp), ((0 : Nat), Blk.rpool Q.P.g), ((3 : Nat), .ro Kd.int Q.P.l)], nx := (12 : Nat), nt := (170 : Nat), tl := [(10 : Nat), (0 : Nat), (1 : Nat), (2 : Nat), (3 : Nat), (4 : Nat), (5 : Nat), (6 : Nat), (7 : Nat), (8 : Nat), (9 : Nat), (10 : Nat), (11 : Nat), (12 : Nat), (13 : Nat), (14 : Nat), (15 : Nat), (16 : Nat), (17 : Nat), (18 : Nat), (19 : Nat), (20 : Nat), (21 : Nat), (22 : Nat), (23 : Nat), (24 : Nat), (25 : Nat), (26 : Nat), (27 : Nat), (28 : Nat), (29 : Nat), (30 : Nat)] : St V }) (Out.ite (!isB y_8) (Out.stop EX.rt {env := [((11 : Nat), .int .i64 (↑k : Int)), ((10 : Nat), .int .i64 (↑Q.toBiP.2 : Int)), ((9 : Nat), .sl false (9 : Nat) (0 : Nat) (1 : Nat) (outI Q.toBiP k).length ((outI Q.toBiP k).length + sp)), ((7 : Nat), .lit .i64 (1 : Int)), ((6 : Nat), .nilS), ((1 : Nat), AV.rw Q.P.o Q.P.rows.length Q.P.4), ((2 : Nat), .sl false (3 : Nat) (0 : Nat) (1 : Nat) Q.P.l.length Q.P.7)], heap := [((10 : Nat), .cells (49 : Nat) [.int .i64 y_5, .int .i64 y_6, .int .i64 y_7, .int .i64 y_8]), ((9 : Nat), .arr (5 : Nat) Kd.byte (outI Q.toBiP k) sp), ((0 : Nat), Blk.rpool Q.P.g), ((3 : Nat), .ro Kd.int Q.P.l)], nx := (12 : Nat), nt := (170 : Nat), tl := [(10 : Nat), (0 : Nat), (1 : Nat), (2 : Nat), (3 : Nat), (4 : Nat), (5 : Nat), (6 : Nat), (7 : Nat), (8 : Nat), (9 : Nat), (10 : Nat), (11 : Nat), (12 : Nat), (13 : Nat), (14 : Nat), (15 : Nat), (16 : Nat), (17 : Nat), (18 : Nat), (19 : Nat), (20 : Nat), (21 : Nat), (22 : Nat), (23 : Nat), (24 : Nat), (25 : Nat), (26 : Nat), (27 : Nat), (28 : Nat), (29 : Nat), (30 : Nat)] : St V }) (Out.same ((outI Q.toBiP k).length + sp) ((outI Q.toBiP k).length + sp) (Out.needd ((0 : Nat) = (0 : Nat) ∧ (outI Q.toBiP k).length = (outI Q.toBiP k).length ∧ ((outI Q.toBiP k).length + (4 : Nat)) * (1 : Nat) ≤ (140737488355328 : Nat)) (Out.all Nat fun y => Out.stop EX.nx {env := [((11 : Nat), .int .i64 (IntKind.i64.wrap ((↑k : Int) + (1 : Int)))), ((10 : Nat), .int .i64 (↑Q.toBiP.2 : Int)), ((9 : Nat), .sl false (13 : Nat) (0 : Nat) (1 : Nat) ((outI Q.toBiP k).length + (4 : Nat)) ((outI Q.toBiP k).length + (4 : Nat) + y)), ((7 : Nat), .lit .i64 (0 : Int)), ((6 : Nat), .nilS), ((1 : Nat), AV.rw Q.P.o Q.P.rows.length Q.P.4), ((2 : Nat), .sl false (3 : Nat) (0 : Nat) (1 : Nat) Q.P.l.length Q.P.7)], heap := [((13 : Nat), .arr (5 : Nat) Kd.byte (outI Q.toBiP k ++ [IntKind.u8.wrap y_5, IntKind.u8.wrap y_6, IntKind.u8.wrap y_7, IntKind.u8.wrap y_8]) y), ((12 : Nat), .cells (5 : Nat) [.int IntKind.u8 (IntKind.u8.wrap y_5), .int IntKind.u8 (IntKind.u8.wrap y_6), .int IntKind.u8 (IntKind.u8.wrap y_7), .int IntKind.u8 (IntKind.u8.wrap y_8)]), ((10 : Nat), .cells (49 : Nat) [.int .i64 y_5, .int .i64 y_6, .int .i64 y_7, .int .i64 y_8]), ((0 : Nat), Blk.rpool Q.P.g), ((3 : Nat), .ro Kd.int Q.P.l)], nx := (14 : Nat), nt := (170 : Nat), tl := [(9 : Nat), (10 : Nat), (0 : Nat), (1 : Nat), (2 : Nat), (3 : Nat), (4 : Nat), (5 : Nat), (6 : Nat), (7 : Nat), (8 : Nat), (9 : Nat), (10 : Nat), (11 : Nat), (12 : Nat), (13 : Nat), (14 : Nat), (15 : Nat), (16 : Nat), (17 : Nat), (18 : Nat), (19 : Nat), (20 : Nat), (21 : Nat), (22 : Nat), (23 : Nat), (24 : Nat), (25 : Nat), (26 : Nat), (27 : Nat), (28 : Nat), (29 : Nat), (30 : Nat)] : St V })))))))))))) (Out.stop (EX.ex (2 : Nat)) {env := [((11 : Nat), .int .i64 (↑k : Int)), ((10 : Nat), .int .i64 (↑Q.toBiP.2 : Int)), ((9 : Nat), .sl false (9 : Nat) (0 : Nat) (1 : Nat) (outI Q.toBiP k).length ((outI Q.toBiP k).length + sp)), ((7 : Nat), .lit .i64 (0 : Int)), ((6 : Nat), .nilS), ((1 : Nat), AV.rw Q.P.o Q.P.rows.length Q.P.4), ((2 : Nat), .sl false (3 : Nat) (0 : Nat) (1 : Nat) Q.P.l.length Q.P.7)], heap := [((9 : Nat), .arr (5 : Nat) Kd.byte (outI Q.toBiP k) sp), ((0 : Nat), Blk.rpool Q.P.g), ((3 : Nat), .ro Kd.int Q.P.l)], nx := (10 : Nat), nt := (170 : Nat), tl := [(0 : Nat), (1 : Nat), (2 : Nat), (3 : Nat), (4 : Nat), (5 : Nat), (6 : Nat), (7 : Nat), (8 : Nat), (9 : Nat), (10 : Nat), (11 : Nat), (12 : Nat), (13 : Nat), (14 : Nat), (15 : Nat), (16 : Nat), (17 : Nat), (18 : Nat), (19 : Nat), (20 : Nat), (21 : Nat), (22 : Nat), (23 : Nat), (24 : Nat), (25 : Nat), (26 : Nat), (27 : Nat), (28 : Nat), (29 : Nat), (30 : Nat)] : St V }))) := by kernel_rfl

theorem dO (P : BcP') (i sp : Nat) : runCode cfgB1 60 10 (loopOf Tryz.f10 0) (BoI P (i, sp)) (stopT (trimSt TBo [0, 3, 5, 6, 7, 8, 9, 10, 11, 12, 13, 14, 15, 16, 17, 18])) = Out.ite (decide ((↑i : Int) < (↑P.rows.length : Int))) (Out.need ((0 : Int) ≤ (↑i : Int) ∧ (↑i : Int) < (↑P.rows.length : Int) ∧ P.o.isSome = true ∧ P.rows.length ≤ P.toBcP.4) (Out.ex (Option (Nat × Nat)) fun y => Out.ex Nat fun y_1 => Out.ex Nat fun y_2 => Out.need (P.g.at (shiftA P.o (i * (1 : Nat))) [PD.sl y y_1 y_2]) (Out.ite (decide ((↑y_1 : Int) > (32 : Int))) (Out.stop EX.rt {env := [((10 : Nat), .int .i64 (↑i : Int)), ((9 : Nat), .sl false (6 : Nat) (0 : Nat) (1 : Nat) (outR P.toBcP i).length ((outR P.toBcP i).length + sp)), ((7 : Nat), .lit .i64 (1 : Int)), ((6 : Nat), .nilS), ((1 : Nat), AV.rw P.o P.rows.length P.toBcP.4), ((2 : Nat), .sl false (3 : Nat) (0 : Nat) (1 : Nat) P.l.length P.toBcP.7)], heap := [((6 : Nat), .arr (5 : Nat) Kd.byte (outR P.toBcP i) sp), ((0 : Nat), Blk.rpool P.g), ((3 : Nat), .ro Kd.int P.l)], nx := (7 : Nat), nt := (170 : Nat), tl := [(0 : Nat), (1 : Nat), (2 : Nat), (3 : Nat), (4 : Nat), (5 : Nat), (6 : Nat), (7 : Nat), (8 : Nat), (9 : Nat), (10 : Nat), (11 : Nat), (12 : Nat), (13 : Nat), (14 : Nat), (15 : Nat), (16 : Nat), (17 : Nat), (18 : Nat), (19 : Nat), (20 : Nat), (21 : Nat), (22 : Nat), (23 : Nat), (24 : Nat), (25 : Nat), (26 : Nat), (27 : Nat), (28 : Nat), (29 : Nat), (30 : Nat)] : St V }) (Out.need ((0 : Int) ≤ (↑i : Int) ∧ (↑i : Int) < (↑P.rows.length : Int) ∧ P.o.isSome = true ∧ P.rows.length ≤ P.toBcP.4) (Out.ex (Option (Nat × Nat)) fun y => Out.ex Nat fun y_3 => Out.ex Nat fun y_4 => Out.need (P.g.at (shiftA P.o (i * (1 : Nat))) [PD.sl y y_3 y_4]) (Out.same ((outR P.toBcP i).length + sp) ((outR P.toBcP i).length + sp) (Out.needd ((0 : Nat) = (0 : Nat) ∧ (outR P.toBcP i).length = (outR P.toBcP i).length ∧ ((outR P.toBcP i).length + (1 : Nat)) * (1 : Nat) ≤ (140737488355328 : Nat)) (Out.all Nat fun y => Out.need (LoopFor Tryz.prog (10 : Nat) (2 : Nat) (loopOf Tryz.f10 (2 : Nat)) LBi) (Out.ex (BiP' → Prop) fun y_5 => Out.need ((9 : Nat) ≤ (9 : Nat) ∧ SImp (9 : Nat) {env := [((11 : Nat), .lit .i64 (0 : Int)), ((10 : Nat), .int .i64 (↑i : Int)), ((9 : Nat), .sl false (8 : Nat) (0 : Nat) (1 : Nat) ((outR P.toBcP i).length + (1 : Nat)) ((outR P.toBcP i).length + (1 : Nat) + y)), ((7 : Nat), .lit .i64 (0 : Int)), ((6 : Nat), .nilS), ((1 : Nat), AV.rw P.o P.rows.length P.toBcP.4), ((2 : Nat), .sl false (3 : Nat) (0 : Nat) (1 : Nat) P.l.length P.toBcP.7)], heap := [((8 : Nat), .arr (5 : Nat) Kd.byte (outR P.toBcP i ++ [IntKind.u8.wrap (↑y_3 : Int)]) y), ((0 : Nat), Blk.rpool P.g), ((3 : Nat), .ro Kd.int P.l)], nx := (9 : Nat), nt := (170 : Nat), tl := [(7 : Nat), (6 : Nat), (0 : Nat), (1 : Nat), (2 : Nat), (3 : Nat), (4 : Nat), (5 : Nat), (6 : Nat), (7 : Nat), (8 : Nat), (9 : Nat), (10 : Nat), (11 : Nat), (12 : Nat), (13 : Nat), (14 : Nat), (15 : Nat), (16 : Nat), (17 : Nat), (18 : Nat), (19 : Nat), (20 : Nat), (21 : Nat), (22 : Nat), (23 : Nat), (24 : Nat), (25 : Nat), (26 : Nat), (27 : Nat), (28 : Nat), (29 : Nat), (30 : Nat)] : St V } BiZ y_5) (Out.all BiP' fun y => Out.asm (y_5 y) ((Out.all Nat fun y_6 => Out.asm (BiC y y_6) (Out.stop EX.nx {env := [((10 : Nat), .int .i64 (IntKind.i64.wrap ((↑y.toBiP.2 : Int) + (1 : Int)))), ((9 : Nat), .sl false (9 : Nat) (0 : Nat) (1 : Nat) (outI y.toBiP (y.row.length, y_6).fst).length ((outI y.toBiP (y.row.length, y_6).fst).length + y_6)), ((7 : Nat), .lit .i64 (0 : Int)), ((6 : Nat), .nilS), ((1 : Nat), AV.rw y.P.o y.P.rows.length y.P.4), ((2 : Nat), .sl false (3 : Nat) (0 : Nat) (1 : Nat) y.P.l.length y.P.7)], heap := [((9 : Nat), .arr (5 : Nat) Kd.byte (outI y.toBiP (y.row.length, y_6).fst) y_6), ((0 : Nat), Blk.rpool y.P.g), ((3 : Nat), .ro Kd.int y.P.l)], nx := (10 : Nat), nt := (170 : Nat), tl := [(0 : Nat), (1 : Nat), (2 : Nat), (3 : Nat), (4 : Nat), (5 : Nat), (6 : Nat), (7 : Nat), (8 : Nat), (9 : Nat), (10 : Nat), (11 : Nat), (12 : Nat), (13 : Nat), (14 : Nat), (15 : Nat), (16 : Nat), (17 : Nat), (18 : Nat), (19 : Nat), (20 : Nat), (21 : Nat), (22 : Nat), (23 : Nat), (24 : Nat), (25 : Nat), (26 : Nat), (27 : Nat), (28 : Nat), (29 : Nat), (30 : Nat)] : St V })).both (Out.all Unit fun y_6 => Out.asm (BiD y y_6) (Out.stop EX.rt {env := [((10 : Nat), .und), ((9 : Nat), .und), ((7 : Nat), .lit .i64 (1 : Int)), ((6 : Nat), .nilS), ((1 : Nat), .und), ((2 : Nat), .und)], heap := [((0 : Nat), Blk.rpool y.P.g), ((3 : Nat), .ro Kd.int y.P.l)], nx := (10 : Nat), nt := (170 : Nat), tl := [(0 : Nat), (1 : Nat), (2 : Nat), (3 : Nat), (4 : Nat), (5 : Nat), (6 : Nat), (7 : Nat), (8 : Nat), (9 : Nat), (10 : Nat), (11 : Nat), (12 : Nat), (13 : Nat), (14 : Nat), (15 : Nat), (16 : Nat), (17 : Nat), (18 : Nat), (19 : Nat), (20 : Nat), (21 : Nat), (22 : Nat), (23 : Nat), (24 : Nat), (25 : Nat), (26 : Nat), (27 : Nat), (28 : Nat), (29 : Nat), (30 : Nat)] : St V }))))))))))))) (Out.stop (EX.ex (0 : Nat)) {env := [((10 : Nat), .int .i64 (↑i : Int)), ((9 : Nat), .sl false (6 : Nat) (0 : Nat) (1 : Nat) (outR P.toBcP i).length ((outR P.toBcP i).length + sp)), ((7 : Nat), .lit .i64 (0 : Int)), ((6 : Nat), .nilS), ((1 : Nat), AV.rw P.o P.rows.length P.toBcP.4), ((2 : Nat), .sl false (3 : Nat) (0 : Nat) (1 : Nat) P.l.length P.toBcP.7)], heap := [((6 : Nat), .arr (5 : Nat) Kd.byte (outR P.toBcP i) sp), ((0 : Nat), Blk.rpool P.g), ((3 : Nat), .ro Kd.int P.l)], nx := (7 : Nat), nt := (170 : Nat), tl := [(0 : Nat), (1 : Nat), (2 : Nat), (3 : Nat), (4 : Nat), (5 : Nat), (6 : Nat), (7 : Nat), (8 : Nat), (9 : Nat), (10 : Nat), (11 : Nat), (12 : Nat), (13 : Nat), (14 : Nat), (15 : Nat), (16 : Nat), (17 : Nat), (18 : Nat), (19 : Nat), (20 : Nat), (21 : Nat), (22 : Nat), (23 : Nat), (24 : Nat), (25 : Nat), (26 : Nat), (27 : Nat), (28 : Nat), (29 : Nat), (30 : Nat)] : St V }) := by kernel_rfl

theorem dQ (P : BqP) (t sp : Nat) : runCode cfgB0 60 10 (loopOf Tryz.f10 4) (BqI P (t, sp)) (stopT (trimSt TBq [0, 3, 5, 6, 7, 8, 9, 10, 11, 12, 13, 14, 15, 16, 17, 18])) = Out.ite (decide ((↑t : Int) < (↑P.l.length : Int))) (Out.needd ((0 : Int) ≤ (↑t : Int) ∧ (↑t : Int) < (↑P.l.length : Int)) (Out.needd ((0 : Nat) + t < P.l.length) (Out.ite (!isB (P.l.getD ((0 : Nat) + t) (V.enc Kd.int).dflt)) (Out.stop EX.rt {env := [((13 : Nat), .int .i64 (↑t : Int)), ((9 : Nat), .sl false (7 : Nat) (0 : Nat) (1 : Nat) (outP P.toBcP t).length ((outP P.toBcP t).length + sp)), ((7 : Nat), .lit .i64 (1 : Int)), ((6 : Nat), .nilS), ((2 : Nat), .sl false (3 : Nat) (0 : Nat) (1 : Nat) P.l.length P.toBcP.7)], heap := [((7 : Nat), .arr (5 : Nat) Kd.byte (outP P.toBcP t) sp), ((0 : Nat), Blk.rpool P.g), ((3 : Nat), .ro Kd.int P.l)], nx := (8 : Nat), nt := (170 : Nat), tl := [(0 : Nat), (1 : Nat), (2 : Nat), (3 : Nat), (4 : Nat), (5 : Nat), (6 : Nat), (7 : Nat), (8 : Nat), (9 : Nat), (10 : Nat), (11 : Nat), (12 : Nat), (13 : Nat), (14 : Nat), (15 : Nat), (16 : Nat), (17 : Nat), (18 : Nat), (19 : Nat), (20 : Nat), (21 : Nat), (22 : Nat), (23 : Nat), (24 : Nat), (25 : Nat), (26 : Nat), (27 : Nat), (28 : Nat), (29 : Nat), (30 : Nat)] : St V }) (Out.needd ((0 : Int) ≤ (↑t : Int) ∧ (↑t : Int) < (↑P.l.length : Int)) (Out.needd ((0 : Nat) + t < P.l.length) (Out.same ((outP P.toBcP t).length + sp) ((outP P.toBcP t).length + sp) (Out.needd ((0 : Nat) = (0 : Nat) ∧ (outP P.toBcP t).length = (outP P.toBcP t).length ∧ ((outP P.toBcP t).length + (1 : Nat)) * (1 : Nat) ≤ (140737488355328 : Nat)) (Out.all Nat fun y => Out.stop EX.nx {env := [((13 : Nat), .int .i64 (IntKind.i64.wrap ((↑t : Int) + (1 : Int)))), ((9 : Nat), .sl false (9 : Nat) (0 : Nat) (1 : Nat) ((outP P.toBcP t).length + (1 : Nat)) ((outP P.toBcP t).length + (1 : Nat) + y)), ((7 : Nat), .lit .i64 (0 : Int)), ((6 : Nat), .nilS), ((2 : Nat), .sl false (3 : Nat) (0 : Nat) (1 : Nat) P.l.length P.toBcP.7)], heap := [((9 : Nat), .arr (5 : Nat) Kd.byte (outP P.toBcP t ++ [IntKind.u8.wrap (P.l.getD ((0 : Nat) + t) (V.enc Kd.int).dflt)]) y), ((8 : Nat), .cells (5 : Nat) [.int IntKind.u8 (IntKind.u8.wrap (P.l.getD ((0 : Nat) + t) (V.enc Kd.int).dflt))]), ((0 : Nat), Blk.rpool P.g), ((3 : Nat), .ro Kd.int P.l)], nx := (10 : Nat), nt := (170 : Nat), tl := [(7 : Nat), (0 : Nat), (1 : Nat), (2 : Nat), (3 : Nat), (4 : Nat), (5 : Nat), (6 : Nat), (7 : Nat), (8 : Nat), (9 : Nat), (10 : Nat), (11 : Nat), (12 : Nat), (13 : Nat), (14 : Nat), (15 : Nat), (16 : Nat), (17 : Nat), (18 : Nat), (19 : Nat), (20 : Nat), (21 : Nat), (22 : Nat), (23 : Nat), (24 : Nat), (25 : Nat), (26 : Nat), (27 : Nat), (28 : Nat), (29 : Nat), (30 : Nat)] : St V })))))))) (Out.stop (EX.ex (4 : Nat)) {env := [((13 : Nat), .int .i64 (↑t : Int)), ((9 : Nat), .sl false (7 : Nat) (0 : Nat) (1 : Nat) (outP P.toBcP t).length ((outP P.toBcP t).length + sp)), ((7 : Nat), .lit .i64 (0 : Int)), ((6 : Nat), .nilS), ((2 : Nat), .sl false (3 : Nat) (0 : Nat) (1 : Nat) P.l.length P.toBcP.7)], heap := [((7 : Nat), .arr (5 : Nat) Kd.byte (outP P.toBcP t) sp), ((0 : Nat), Blk.rpool P.g), ((3 : Nat), .ro Kd.int P.l)], nx := (8 : Nat), nt := (170 : Nat), tl := [(0 : Nat), (1 : Nat), (2 : Nat), (3 : Nat), (4 : Nat), (5 : Nat), (6 : Nat), (7 : Nat), (8 : Nat), (9 : Nat), (10 : Nat), (11 : Nat), (12 : Nat), (13 : Nat), (14 : Nat), (15 : Nat), (16 : Nat), (17 : Nat), (18 : Nat), (19 : Nat), (20 : Nat), (21 : Nat), (22 : Nat), (23 : Nat), (24 : Nat), (25 : Nat), (26 : Nat), (27 : Nat), (28 : Nat), (29 : Nat), (30 : Nat)] : St V }) := by kernel_rfl

theorem t10 (g : RPool) (c : Conf) (o : Option (Nat × Nat)) (la ca : Nat) (l : List Int) (lc : Nat) : runF cfgB2 60 10 Tryz.f10 [confArg c, .rw o la ca, .sl false 3 0 1 l.length lc] [(0, .rpool g), (3, .ro Kd.int l)] 4 = Out.ite (isB c.c0) (Out.ite (isB c.c1) (Out.ite (isB c.c2) (Out.ite (isB c.c3) (Out.ite (isB c.c4) (Out.ite (isB c.c5) (Out.ite (!decide ((↑la : Int) ≤ (8 : Int))) (Out.fin (.tup [.nilS, .lit .i64 (1 : Int)]) [((4 : Nat), .cells (24 : Nat) [.int .i64 c.c0, .int .i64 c.c1, .int .i64 c.c2, .int .i64 c.c3, .int .i64 c.c4, .int .i64 c.c5]), ((0 : Nat), Blk.rpool g), ((3 : Nat), .ro Kd.int l)] (5 : Nat)) (Out.need (LoopFor Tryz.prog (10 : Nat) (0 : Nat) (loopOf Tryz.f10 (0 : Nat)) LBo) (Out.ex (BcP' → Prop) fun y => Out.need ((6 : Nat) ≤ (6 : Nat) ∧ SImp (6 : Nat) {env := [((10 : Nat), .lit .i64 (0 : Int)), ((9 : Nat), .sl true (5 : Nat) (0 : Nat) (1 : Nat) (7 : Nat) (7 : Nat)), ((7 : Nat), .lit .i64 (0 : Int)), ((6 : Nat), .nilS), ((1 : Nat), AV.rw o la ca), ((2 : Nat), .sl false (3 : Nat) (0 : Nat) (1 : Nat) l.length lc)], heap := [((5 : Nat), .cells (5 : Nat) [.int IntKind.u8 (IntKind.u8.wrap c.c0), .int IntKind.u8 (IntKind.u8.wrap c.c1), .int IntKind.u8 (IntKind.u8.wrap c.c2), .int IntKind.u8 (IntKind.u8.wrap c.c3), .int IntKind.u8 (IntKind.u8.wrap c.c4), .int IntKind.u8 (IntKind.u8.wrap c.c5), .int IntKind.u8 (IntKind.u8.wrap (↑la : Int))]), ((0 : Nat), Blk.rpool g), ((3 : Nat), .ro Kd.int l)], nx := (6 : Nat), nt := (170 : Nat), tl := [(4 : Nat)] : St V } BoZ y) (Out.all BcP' fun y_1 => Out.asm (y y_1) ((Out.all Nat fun y => Out.asm (BoC y_1 y) (Out.need (LoopFor Tryz.prog (10 : Nat) (4 : Nat) (loopOf Tryz.f10 (4 : Nat)) LBq) (Out.ex (BqP → Prop) fun y_2 => Out.need ((7 : Nat) ≤ (7 : Nat) ∧ SImp (7 : Nat) {env := [((13 : Nat), .lit .i64 (0 : Int)), ((9 : Nat), .sl false (6 : Nat) (0 : Nat) (1 : Nat) (outR y_1.toBcP (y_1.rows.length, y).fst).length ((outR y_1.toBcP (y_1.rows.length, y).fst).length + y)), ((7 : Nat), .lit .i64 (0 : Int)), ((6 : Nat), .nilS), ((2 : Nat), .sl false (3 : Nat) (0 : Nat) (1 : Nat) y_1.l.length y_1.toBcP.7)], heap := [((6 : Nat), .arr (5 : Nat) Kd.byte (outR y_1.toBcP (y_1.rows.length, y).fst) y), ((0 : Nat), Blk.rpool y_1.g), ((3 : Nat), .ro Kd.int y_1.l)], nx := (7 : Nat), nt := (170 : Nat), tl := [(0 : Nat), (1 : Nat), (2 : Nat), (3 : Nat), (4 : Nat), (5 : Nat), (6 : Nat), (7 : Nat), (8 : Nat), (9 : Nat), (10 : Nat), (11 : Nat), (12 : Nat), (13 : Nat), (14 : Nat), (15 : Nat), (16 : Nat), (17 : Nat), (18 : Nat), (19 : Nat), (20 : Nat), (21 : Nat), (22 : Nat), (23 : Nat), (24 : Nat), (25 : Nat), (26 : Nat), (27 : Nat), (28 : Nat), (29 : Nat), (30 : Nat)] : St V } BqZ y_2) (Out.all BqP fun y => Out.asm (y_2 y) ((Out.all Nat fun y_3 => Out.asm (BqC y y_3) (Out.fin (.tup [.sl false (7 : Nat) (0 : Nat) (1 : Nat) (outP y.toBcP (y.l.length, y_3).fst).length ((outP y.toBcP (y.l.length, y_3).fst).length + y_3), .lit .i64 (0 : Int)]) [((7 : Nat), .arr (5 : Nat) Kd.byte (outP y.toBcP (y.l.length, y_3).fst) y_3), ((0 : Nat), Blk.rpool y.g), ((3 : Nat), .ro Kd.int y.l)] (8 : Nat))).both (Out.all Unit fun y_3 => Out.asm (BqD y y_3) (Out.fin (.tup [.nilS, .lit .i64 (1 : Int)]) [((0 : Nat), Blk.rpool y.g), ((3 : Nat), .ro Kd.int y.l)] (7 : Nat)))))))).both (Out.all Unit fun y => Out.asm (BoD y_1 y) (Out.fin (.tup [.nilS, .lit .i64 (1 : Int)]) [((0 : Nat), Blk.rpool y_1.g), ((3 : Nat), .ro Kd.int y_1.l)] (7 : Nat)))))))) (Out.fin (.tup [.nilS, .lit .i64 (1 : Int)]) [((4 : Nat), .cells (24 : Nat) [.int .i64 c.c0, .int .i64 c.c1, .int .i64 c.c2, .int .i64 c.c3, .int .i64 c.c4, .int .i64 c.c5]), ((0 : Nat), Blk.rpool g), ((3 : Nat), .ro Kd.int l)] (5 : Nat))) (Out.fin (.tup [.nilS, .lit .i64 (1 : Int)]) [((4 : Nat), .cells (24 : Nat) [.int .i64 c.c0, .int .i64 c.c1, .int .i64 c.c2, .int .i64 c.c3, .int .i64 c.c4, .int .i64 c.c5]), ((0 : Nat), Blk.rpool g), ((3 : Nat), .ro Kd.int l)] (5 : Nat))) (Out.fin (.tup [.nilS, .lit .i64 (1 : Int)]) [((4 : Nat), .cells (24 : Nat) [.int .i64 c.c0, .int .i64 c.c1, .int .i64 c.c2, .int .i64 c.c3, .int .i64 c.c4, .int .i64 c.c5]), ((0 : Nat), Blk.rpool g), ((3 : Nat), .ro Kd.int l)] (5 : Nat))) (Out.fin (.tup [.nilS, .lit .i64 (1 : Int)]) [((4 : Nat), .cells (24 : Nat) [.int .i64 c.c0, .int .i64 c.c1, .int .i64 c.c2, .int .i64 c.c3, .int .i64 c.c4, .int .i64 c.c5]), ((0 : Nat), Blk.rpool g), ((3 : Nat), .ro Kd.int l)] (5 : Nat))) (Out.fin (.tup [.nilS, .lit .i64 (1 : Int)]) [((4 : Nat), .cells (24 : Nat) [.int .i64 c.c0, .int .i64 c.c1, .int .i64 c.c2, .int .i64 c.c3, .int .i64 c.c4, .int .i64 c.c5]), ((0 : Nat), Blk.rpool g), ((3 : Nat), .ro Kd.int l)] (5 : Nat))) (Out.fin (.tup [.nilS, .lit .i64 (1 : Int)]) [((4 : Nat), .cells (24 : Nat) [.int .i64 c.c0, .int .i64 c.c1, .int .i64 c.c2, .int .i64 c.c3, .int .i64 c.c4, .int .i64 c.c5]), ((0 : Nat), Blk.rpool g), ((3 : Nat), .ro Kd.int l)] (5 : Nat)) := by kernel_rfl

end Sx
end Go.Proofs.YtnegocgblmdihaaGreatDoor

/-
  Scripts written by the document: its Encode, by its contract.
-/
namespace Go.Proofs.YtnegocgblmdihaaGreatDoor
namespace Sx
open Go
set_option linter.unusedSimpArgs false
set_option linter.unusedVariables false

theorem hooksB_ok : ∀ g H, hooksB g = some H → HookOk Tryz.prog g H := by
  intro g H h
  unfold hooksB at h
  split at h
  · cases h; exact hByte
  · cases h
theorem cfgB0_ok : cfgB0.ok := ⟨tab_met, kinds_met, mixed_met, fun g fn h => (by cases h), hooksB_ok⟩
theorem cfgB1_ok : cfgB1.ok := ⟨tab_met, kinds_met, mixed_met, fun g fn h => (by cases h), hooksB_ok⟩
theorem cfgB2_ok : cfgB2.ok := ⟨tab_met, kinds_met, mixed_met, fun g fn h => (by cases h), hooksB_ok⟩
theorem u8_ok {x : Int} (h0 : 0 ≤ x) (h1 : x ≤ 255) : IntKind.u8.wrap x = x := by
  simp [IntKind.wrap, IntKind.bits, IntKind.signed]; omega
theorem all_take {α : Type} {f : α → Bool} {l : List α} {k : Nat} {x : α} (h : (l.take k).all f = true) (hx : l[k]? = some x) (hf : f x = true) : (l.take (k + 1)).all f = true := by
  obtain ⟨h1, h2⟩ := List.getElem?_eq_some_iff.1 hx
  rw [List.take_succ_eq_append_getElem h1, List.all_append, h, h2]
  simp [hf]
theorem all_no {α : Type} {f : α → Bool} {l : List α} {k : Nat} {x : α} (hx : l[k]? = some x) (hf : f x = false) : l.all f = false := by
  rw [List.all_eq_false]
  exact ⟨x, List.mem_of_getElem? hx, by rw [hf]; simp⟩
theorem outI_succ {Q : BiP} {k : Nat} {x : Opr} (hx : Q.row[k]? = some x) (ho : okO x = true) :
    outI Q k ++ [IntKind.u8.wrap x.act, IntKind.u8.wrap x.key, IntKind.u8.wrap x.value, IntKind.u8.wrap x.weight] = outI Q (k + 1) := by
  obtain ⟨h1, h2⟩ := List.getElem?_eq_some_iff.1 hx
  have h := okO_iff.1 ho
  rw [u8_ok h.1.1 (by omega), u8_ok h.2.1.1 h.2.1.2, u8_ok h.2.2.1.1 h.2.2.1.2, u8_ok h.2.2.2.1 h.2.2.2.2]
  unfold outI
  rw [List.take_succ_eq_append_getElem h1, h2, List.flatMap_append, List.append_assoc]
  simp [encO]
theorem ldi_ok : LoopOk Tryz.prog 2 (loopOf Tryz.f10 2) LBi := by
  refine trimLoop_ok (trim_ok _ _) (loopT_ok (C := cfgB0) cfgB0_ok (f := 10) (n := 60) (trim_ok TBi [0, 3, 5, 6, 7, 8, 9, 10, 11, 12, 13, 14, 15, 16, 17, 18]) 9 BiI (fun Q x => x.1 ≤ Q.row.length ∧ (Q.row.take x.1).all okO = true) (fun Q => (0, Q.sp)) (fun Q x => Q.row.length - x.1)
    BiC BiE BiD BiF (fun Q => ⟨Nat.zero_le _, rfl⟩) ?_)
  rintro Q ⟨k, sp⟩ ⟨hk, hall⟩
  rw [dI]
  obtain ⟨hS, _, hle, hm⟩ := Q.P.h
  obtain ⟨o1, c1, g1, l1, m1, e1⟩ := hS Q.i Q.row Q.hrow
  have i1 := (List.getElem?_eq_some_iff.1 Q.hrow).1
  have h32 := Q.h32
  have hR := Q.hR
  have hk : k ≤ Q.row.length := hk
  have g1' : Q.P.g.at (shiftA Q.P.o (Q.i * 1)) [.sl o1 Q.row.length c1] := by rw [Nat.mul_one]; exact g1
  have hlen : (outI Q.toBiP k).length ≤ 8192 := by
    unfold outI
    have := flat_length (Q.row.take k)
    rw [List.length_append, List.length_cons, this, List.length_take]; omega
  refine ⟨⟨by omega, by omega, at_some g1, hle⟩, o1, Q.row.length, c1, g1', fun h => ?_, fun h => ⟨rfl, ?_⟩⟩
  · have h := of_decide_eq_true h
    have hlt : k < Q.row.length := by omega
    have hx : Q.row[k]? = some Q.row[k] := List.getElem?_eq_getElem hlt
    have s1 := e1 k _ hx
    generalize Q.row[k] = x at hx s1
    have bad : ∀ s' : St V, okO x = false → Wk 9 [] s' (BiR Q.toBiP ()) → SImp 9 s' (BiF Q) (BiD Q) := fun s' hx' hwk => SImp.of_wk () hwk (all_no hx hx')
    have hw : IntKind.wrap .i64 ((k : Int) + 1) = ((k + 1 : Nat) : Int) := wrap_nat (by omega)
    refine ⟨⟨by omega, by omega, at_some g1, hle⟩, o1, Q.row.length, c1, g1', ⟨by omega, by omega, at_some s1, l1⟩, x.act, x.key, x.value, x.weight, s1, fun ha => bad _ ?_ ?_, fun ha => ⟨fun hb => bad _ ?_ ?_, fun hb => ⟨fun hc => bad _ ?_ ?_, fun hc => ⟨fun hd => bad _ ?_ ?_, fun hd => ⟨fun he => bad _ ?_ ?_, fun he => ⟨rfl, ⟨rfl, rfl, by omega⟩, fun y => ?_⟩⟩⟩⟩⟩⟩
    · unfold okO; rw [decide_eq_false (by have := of_decide_eq_true ha; omega)]; simp
    · exact ⟨⟨AV.sub_same _, AV.sub_same _, trivial⟩, ⟨.same _, .same _, trivial⟩, rfl, tl_ok rfl, (by repeat (first | exact trivial | refine ⟨.inl (in_ok rfl), ?_⟩)), ⟨Nat.le_of_ble_eq_true rfl, rfl⟩⟩
    · unfold okO; rw [decide_eq_false (p := x.act ≤ 4) (by have := of_decide_eq_true hb; omega)]; simp
    · exact ⟨⟨AV.sub_same _, AV.sub_same _, trivial⟩, ⟨.same _, .same _, trivial⟩, rfl, tl_ok rfl, (by repeat (first | exact trivial | refine ⟨.inl (in_ok rfl), ?_⟩)), ⟨Nat.le_of_ble_eq_true rfl, rfl⟩⟩
    · unfold okO; rw [Bool.not_eq_true'] at hc; rw [hc]; simp
    · exact ⟨⟨AV.sub_same _, AV.sub_same _, trivial⟩, ⟨.same _, .same _, trivial⟩, rfl, tl_ok rfl, (by repeat (first | exact trivial | refine ⟨.inl (in_ok rfl), ?_⟩)), ⟨Nat.le_of_ble_eq_true rfl, rfl⟩⟩
    · unfold okO; rw [Bool.not_eq_true'] at hd; rw [hd]; simp
    · exact ⟨⟨AV.sub_same _, AV.sub_same _, trivial⟩, ⟨.same _, .same _, trivial⟩, rfl, tl_ok rfl, (by repeat (first | exact trivial | refine ⟨.inl (in_ok rfl), ?_⟩)), ⟨Nat.le_of_ble_eq_true rfl, rfl⟩⟩
    · unfold okO; rw [Bool.not_eq_true'] at he; rw [he]; simp
    · exact ⟨⟨AV.sub_same _, AV.sub_same _, trivial⟩, ⟨.same _, .same _, trivial⟩, rfl, tl_ok rfl, (by repeat (first | exact trivial | refine ⟨.inl (in_ok rfl), ?_⟩)), ⟨Nat.le_of_ble_eq_true rfl, rfl⟩⟩
    · have ho : okO x = true := by
        rw [Bool.not_eq_false'] at hc hd he
        have ha := of_decide_eq_false ha
        have hb := of_decide_eq_false hb
        unfold okO
        rw [hc, hd, he, decide_eq_true (show 0 ≤ x.act by omega), decide_eq_true (show x.act ≤ 4 by omega)]; rfl
      have hs := outI_succ (Q := Q.toBiP) hx ho
      have hln : (outI Q.toBiP k).length + 4 = (outI Q.toBiP (k + 1)).length := by rw [← hs]; simp
      refine SImp.of_wk (ren := [(9, 13)]) (k + 1, y) ?_ ⟨⟨hlt, all_take hall hx ho⟩, by show Q.row.length - (k + 1) < Q.row.length - k; omega⟩
      exact ⟨⟨AV.sub_int hw, AV.sub_same _, AV.sub_sl hln (by rw [hln]), AV.sub_same _, AV.sub_same _, AV.sub_same _, AV.sub_same _, trivial⟩, ⟨BSub.arr hs rfl, .same _, .same _, trivial⟩, rfl, tl_ok rfl, (by repeat (first | exact trivial | refine ⟨.inl (in_ok rfl), ?_⟩)), ⟨Nat.le_of_ble_eq_true rfl, rfl⟩⟩
  · have h := of_decide_eq_false h
    have he : k = Q.row.length := by omega
    subst he
    refine SImp.of_wk (ren := [(9, 9)]) sp ?_ (by show Q.row.all okO = true; rwa [List.take_of_length_le (Nat.le_refl _)] at hall)
    exact ⟨⟨AV.sub_same _, AV.sub_same _, AV.sub_same _, AV.sub_same _, AV.sub_same _, AV.sub_same _, AV.sub_same _, trivial⟩, ⟨.same _, .same _, .same _, trivial⟩, rfl, tl_ok rfl, (by repeat (first | exact trivial | refine ⟨.inl (in_ok rfl), ?_⟩)), ⟨Nat.le_of_ble_eq_true rfl, rfl⟩⟩
theorem encRows_le : ∀ {rs : List (List Opr)}, rs.all okRow = true → (encRows rs).length ≤ 129 * rs.length
  | [], _ => by simp [encRows]
  | r :: rs, h => by
    simp only [List.all_cons, Bool.and_eq_true] at h
    have ih := encRows_le h.2
    have h1 : r.length ≤ 32 := by
      have := h.1
      simp only [okRow, Bool.and_eq_true, decide_eq_true_eq] at this
      exact this.1
    unfold encRows at ih ⊢
    have e : (encRow r).length = 1 + 4 * r.length := by unfold encRow; rw [List.length_cons, flat_length]; omega
    rw [List.flatMap_cons, List.length_append, List.length_cons, e]; omega
theorem outR_length (P : BcP) (i : Nat) : (outR P i).length = 7 + (encRows (P.rows.take i)).length := by
  unfold outR encC
  rw [List.length_append, List.length_cons]; simp; omega
theorem outR_succ {P : BcP} {i : Nat} {row : List Opr} (h : P.rows[i]? = some row) : outR P i ++ (row.length : Int) :: row.flatMap encO = outR P (i + 1) := by
  obtain ⟨h1, h2⟩ := List.getElem?_eq_some_iff.1 h
  unfold outR encRows
  rw [List.take_succ_eq_append_getElem h1, h2, List.flatMap_append, List.append_assoc, List.cons_append]
  simp [encRow]
abbrev H20 : List Nat := [0, 3, 5, 6, 7, 8, 9, 10, 11, 12, 13, 14, 15, 16, 17, 18]
theorem ldo_ok : LoopOk Tryz.prog 0 (loopOf Tryz.f10 0) LBo := by
  refine trimLoop_ok (trim_ok _ _) (loopT_ok (C := cfgB1) cfgB1_ok (f := 10) (n := 60) (trim_ok TBo H20) 6 BoI (fun P x => x.1 ≤ P.rows.length ∧ (P.rows.take x.1).all okRow = true) (fun P => (0, P.sp)) (fun P x => P.rows.length - x.1)
    BoC BoE BoD BoF (fun P => ⟨Nat.zero_le _, rfl⟩) ?_)
  rintro P ⟨i, sp⟩ ⟨hi, hall⟩
  rw [dO]
  obtain ⟨hS, _, hle, hm⟩ := P.h
  have h8 := P.h8
  have hi : i ≤ P.rows.length := hi
  have hR : (outR P.toBcP i).length ≤ 4096 := by
    have hall : (P.rows.take i).all okRow = true := hall
    have := encRows_le hall
    rw [List.length_take] at this
    rw [outR_length]; omega
  refine ⟨fun h => ?_, fun h => ⟨rfl, ?_⟩⟩
  · have h := of_decide_eq_true h
    have hlt : i < P.rows.length := by omega
    have hx : P.rows[i]? = some P.rows[i] := List.getElem?_eq_getElem hlt
    generalize P.rows[i] = row at hx
    obtain ⟨o1, c1, g1, l1, m1, e1⟩ := hS i row hx
    have g1' : P.g.at (shiftA P.o (i * 1)) [.sl o1 row.length c1] := by rw [Nat.mul_one]; exact g1
    refine ⟨⟨by omega, by omega, at_some g1, hle⟩, o1, row.length, c1, g1', fun hb => ?_, fun hb => ⟨⟨by omega, by omega, at_some g1, hle⟩, o1, row.length, c1, g1', rfl, ⟨rfl, rfl, by omega⟩, fun y => ?_⟩⟩
    · refine SImp.of_wk (ren := []) () ?_ (all_no hx ?_)
      · exact ⟨⟨AV.sub_same _, AV.sub_same _, trivial⟩, ⟨.same _, .same _, trivial⟩, rfl, tl_ok rfl, (by repeat (first | exact trivial | refine ⟨.inl (in_ok rfl), ?_⟩)), ⟨Nat.le_of_ble_eq_true rfl, rfl⟩⟩
      · unfold okRow; rw [decide_eq_false (by have := of_decide_eq_true hb; omega)]; rfl
    · have h32 : row.length ≤ 32 := by have := of_decide_eq_false hb; omega
      let Q : BiP' := ⟨⟨P.toBcP, i, row, hx, h32, hR⟩, y⟩
      have e0 : outR P.toBcP i ++ [IntKind.u8.wrap (row.length : Int)] = outI Q.toBiP 0 := by
        rw [u8_ok (by omega) (by omega)]; show _ = outR P.toBcP i ++ (row.length : Int) :: (row.take 0).flatMap encO; simp
      have el : (outR P.toBcP i).length + 1 = (outI Q.toBiP 0).length := by rw [← e0]; simp
      refine ⟨ldi_ok, fun q => q = Q, ⟨Nat.le_refl _, SImp.of_wk (ren := [(9, 8)]) Q ?_ rfl⟩, ?_⟩
      · exact ⟨⟨AV.sub_lit', AV.sub_same _, AV.sub_sl el (by rw [el]), AV.sub_same _, AV.sub_same _, AV.sub_same _, AV.sub_same _, trivial⟩, ⟨BSub.arr e0 rfl, .same _, .same _, trivial⟩, rfl, tl_ok rfl, (by repeat (first | exact trivial | refine ⟨.inl (in_ok rfl), ?_⟩)), ⟨Nat.le_of_ble_eq_true rfl, rfl⟩⟩
      · rintro _ rfl
        refine ⟨fun y' hok => ?_, fun _ hno => ?_⟩
        · have hok : row.all okO = true := hok
          have hw : IntKind.wrap .i64 ((i : Int) + 1) = ((i + 1 : Nat) : Int) := wrap_nat (by omega)
          have e1 : outI Q.toBiP row.length = outR P.toBcP (i + 1) := by
            rw [← outR_succ hx]; show outR P.toBcP i ++ (row.length : Int) :: (row.take row.length).flatMap encO = _; rw [List.take_length]
          have hrow : okRow row = true := by unfold okRow; rw [hok, decide_eq_true h32]; rfl
          refine SImp.of_wk (ren := [(6, 9)]) (i + 1, y') ?_ ⟨⟨hlt, all_take hall hx hrow⟩, by show P.rows.length - (i + 1) < P.rows.length - i; omega⟩
          exact ⟨⟨AV.sub_int hw, AV.sub_sl (by show (outI Q.toBiP row.length).length = (outR P.toBcP (i + 1)).length; rw [e1]) (by show (outI Q.toBiP row.length).length + y' = (outR P.toBcP (i + 1)).length + y'; rw [e1]), AV.sub_same _, AV.sub_same _, AV.sub_same _, AV.sub_same _, trivial⟩, ⟨BSub.arr e1 rfl, .same _, .same _, trivial⟩, rfl, tl_ok rfl, (by repeat (first | exact trivial | refine ⟨.inl (in_ok rfl), ?_⟩)), ⟨Nat.le_of_ble_eq_true rfl, rfl⟩⟩
        · have hno : row.all okO = false := hno
          refine SImp.of_wk (ren := []) () ?_ (all_no hx ?_)
          · exact ⟨⟨AV.sub_same _, AV.sub_same _, trivial⟩, ⟨.same _, .same _, trivial⟩, rfl, tl_ok rfl, (by repeat (first | exact trivial | refine ⟨.inl (in_ok rfl), ?_⟩)), ⟨Nat.le_of_ble_eq_true rfl, rfl⟩⟩
          · unfold okRow; rw [hno, Bool.and_false]
  · have h := of_decide_eq_false h
    have he : i = P.rows.length := by omega
    subst he
    refine SImp.of_wk (ren := [(6, 6)]) sp ?_ (by show P.rows.all okRow = true; rwa [List.take_of_length_le (Nat.le_refl _)] at hall)
    exact ⟨⟨AV.sub_same _, AV.sub_same _, AV.sub_same _, AV.sub_same _, AV.sub_same _, AV.sub_same _, trivial⟩, ⟨.same _, .same _, .same _, trivial⟩, rfl, tl_ok rfl, (by repeat (first | exact trivial | refine ⟨.inl (in_ok rfl), ?_⟩)), ⟨Nat.le_of_ble_eq_true rfl, rfl⟩⟩
theorem ldq_ok : LoopOk Tryz.prog 4 (loopOf Tryz.f10 4) LBq := by
  refine trimLoop_ok (trim_ok _ _) (loopT_ok (C := cfgB0) cfgB0_ok (f := 10) (n := 60) (trim_ok TBq H20) 7 BqI (fun P x => x.1 ≤ P.l.length ∧ (P.l.take x.1).all isB = true) (fun P => (0, P.sp)) (fun P x => P.l.length - x.1)
    BqC BqE BqD BqF (fun P => ⟨Nat.zero_le _, rfl⟩) ?_)
  rintro P ⟨t, sp⟩ ⟨ht, hall⟩
  rw [dQ]
  have hl := P.hl
  have hR := P.hR
  have ht : t ≤ P.l.length := ht
  have hlen : (outP P.toBcP t).length ≤ 2097152 := by unfold outP; rw [List.length_append, List.length_take]; omega
  refine ⟨fun h => ?_, fun h => ⟨rfl, ?_⟩⟩
  · have h := of_decide_eq_true h
    have hlt : t < P.l.length := by omega
    have hx : P.l[t]? = some (P.l.getD (0 + t) (V.enc Kd.int).dflt) := by
      rw [Nat.zero_add, List.getD_eq_getElem?_getD, List.getElem?_eq_getElem hlt]; rfl
    generalize P.l.getD (0 + t) (V.enc Kd.int).dflt = x at hx
    refine ⟨by omega, by omega, fun hb => ?_, fun hb => ⟨by omega, by omega, rfl, ⟨rfl, rfl, by omega⟩, fun y => ?_⟩⟩
    · rw [Bool.not_eq_true'] at hb
      refine SImp.of_wk (ren := []) () ?_ (all_no hx hb)
      exact ⟨⟨AV.sub_same _, AV.sub_same _, trivial⟩, ⟨.same _, .same _, trivial⟩, rfl, tl_ok rfl, (by repeat (first | exact trivial | refine ⟨.inl (in_ok rfl), ?_⟩)), ⟨Nat.le_of_ble_eq_true rfl, rfl⟩⟩
    · rw [Bool.not_eq_false'] at hb
      have hw : IntKind.wrap .i64 ((t : Int) + 1) = ((t + 1 : Nat) : Int) := wrap_nat (by omega)
      have hx' := isB_iff.1 hb
      have hs : outP P.toBcP t ++ [IntKind.u8.wrap x] = outP P.toBcP (t + 1) := by
        obtain ⟨h1, h2⟩ := List.getElem?_eq_some_iff.1 hx
        rw [u8_ok hx'.1 hx'.2]
        unfold outP
        rw [List.take_succ_eq_append_getElem h1, h2, List.append_assoc]
      have hln : (outP P.toBcP t).length + 1 = (outP P.toBcP (t + 1)).length := by rw [← hs]; simp
      refine SImp.of_wk (ren := [(7, 9)]) (t + 1, y) ?_ ⟨⟨hlt, all_take hall hx hb⟩, by show P.l.length - (t + 1) < P.l.length - t; omega⟩
      exact ⟨⟨AV.sub_int hw, AV.sub_sl hln (by rw [hln]), AV.sub_same _, AV.sub_same _, AV.sub_same _, trivial⟩, ⟨BSub.arr hs rfl, .same _, .same _, trivial⟩, rfl, tl_ok rfl, (by repeat (first | exact trivial | refine ⟨.inl (in_ok rfl), ?_⟩)), ⟨Nat.le_of_ble_eq_true rfl, rfl⟩⟩
  · have h := of_decide_eq_false h
    have he : t = P.l.length := by omega
    subst he
    refine SImp.of_wk (ren := [(7, 7)]) sp ?_ (by show P.l.all isB = true; rwa [List.take_of_length_le (Nat.le_refl _)] at hall)
    exact ⟨⟨AV.sub_same _, AV.sub_same _, AV.sub_same _, AV.sub_same _, AV.sub_same _, trivial⟩, ⟨.same _, .same _, .same _, trivial⟩, rfl, tl_ok rfl, (by repeat (first | exact trivial | refine ⟨.inl (in_ok rfl), ?_⟩)), ⟨Nat.le_of_ble_eq_true rfl, rfl⟩⟩

/-! ## the contract -/
def encOut (c : Conf) (rows : List (List Opr)) (l : List Int) : List Int := bif okAll c rows l then encAll c rows l else []
def encErr (c : Conf) (rows : List (List Opr)) (l : List Int) : Int := bif okAll c rows l then 0 else 1
def runEnc : RunSee V := fun g ar K => match ar with
  | [.val (.agg [.int .i64 c0, .int .i64 c1, .int .i64 c2, .int .i64 c3, .int .i64 c4, .int .i64 c5]), .val (.rw o la ca), .rows .int l lc] =>
    .ex (List (List Opr)) fun rows => .need (RowsAt g o la ca rows ∧ l.length ≤ 1048576 ∧ (encRows rows).length ≤ 16777216)
      (.all (List Int × Int) fun y => .all Nat fun sp => .asm (y = (encOut ⟨c0, c1, c2, c3, c4, c5⟩ rows l, encErr ⟨c0, c1, c2, c3, c4, c5⟩ rows l)) (K (.tup [.sl false 1 0 1 y.1.length (y.1.length + sp), .int .i64 y.2]) [.arr 5 Kd.byte y.1 sp]))
  | _ => .bad 620
theorem enc_end {M : Goal V} {n' : Nat} {h' : Heap V} {c : Conf} {rows : List (List Opr)} {l : List Int} {K0 : AV → List (Blk V) → Out V}
    (H : ∀ sp, (K0 (.tup [.sl false 1 0 1 (encOut c rows l).length ((encOut c rows l).length + sp), .int .i64 (encErr c rows l)]) [.arr 5 Kd.byte (encOut c rows l) sp]).holds M) (hno : okAll c rows l = false) (h99 : h'.get 99 = none) :
    ∃ v E, (K0 v E).holds M ∧ EndSee n' (.tup [.nilS, .lit .i64 1]) h' v E := by
  have e0 : encOut c rows l = [] := by unfold encOut; rw [hno]; rfl
  have e1 : encErr c rows l = 1 := by unfold encErr; rw [hno]; rfl
  have H := H 0
  rw [e0, e1] at H
  refine ⟨_, _, H, _, HImp.refl _ _, ⟨⟨fun _ => 99, ⟨?_, trivial⟩, ?_⟩, rfl, rfl⟩⟩
  · show BSub (h'.get 99) _
    rw [h99]; exact .none _ _
  · exact AV.sub_tup (AV.subL_cons AV.sub_nilS (AV.subL_cons AV.sub_lit' AV.subL_nil))
theorem hEnc20 : HookOk Tryz.prog 10 (hookSee [.val, .val, .rows Kd.int] runEnc) := by
  refine see_hook (C := cfgB2) cfgB2_ok (n := 60) (fn := Tryz.f10) ⟨by kernel_rfl, by kernel_rfl⟩ (by kernel_rfl) ?_
  intro M g ar K0 H
  unfold runEnc at H
  split at H
  · rename_i c0 c1 c2 c3 c4 c5 o la ca l lc
    obtain ⟨rows, ⟨⟨hS, rfl, hle, hm⟩, hl, _⟩, H⟩ := H
    replace H := fun sp => H (_, _) sp rfl
    generalize hc : (⟨c0, c1, c2, c3, c4, c5⟩ : Conf) = c at H
    obtain rfl : c0 = c.c0 := by rw [← hc]
    obtain rfl : c1 = c.c1 := by rw [← hc]
    obtain rfl : c2 = c.c2 := by rw [← hc]
    obtain rfl : c3 = c.c3 := by rw [← hc]
    obtain rfl : c4 = c.c4 := by rw [← hc]
    obtain rfl : c5 = c.c5 := by rw [← hc]
    clear hc
    refine ⟨show 3 ≤ _ by decide +kernel, ?_⟩
    show (runF cfgB2 60 10 Tryz.f10 [confArg c, .rw o rows.length ca, .sl false 3 0 1 l.length lc] [(0, .rpool g), (3, .ro Kd.int l)] 4).holds _
    rw [t10]
    have hno : okC c = false → okAll c rows l = false := fun h => by unfold okAll; rw [h]; rfl
    refine ⟨fun b0 => ⟨fun b1 => ⟨fun b2 => ⟨fun b3 => ⟨fun b4 => ⟨fun b5 => ⟨fun b8 => ?_, fun b8 => ?_⟩, fun b => ?_⟩, fun b => ?_⟩, fun b => ?_⟩, fun b => ?_⟩, fun b => ?_⟩, fun b => ?_⟩
    · refine enc_end H ?_ rfl
      unfold okAll
      rw [Bool.not_eq_true'] at b8
      have b8 := of_decide_eq_false b8
      rw [decide_eq_false (show ¬ rows.length ≤ 8 by omega)]; simp
    · rw [Bool.not_eq_false'] at b8
      have b8 := of_decide_eq_true b8
      have hok : okC c = true := by unfold okC; rw [b0, b1, b2, b3, b4, b5]; rfl
      have hcb := okC_iff.1 hok
      have h8 : rows.length ≤ 8 := by omega
      let P : BcP := ⟨g, c, o, ca, rows, l, lc, ⟨hS, rfl, hle, hm⟩, hok, h8, hl⟩
      have eo : [IntKind.u8.wrap c.c0, IntKind.u8.wrap c.c1, IntKind.u8.wrap c.c2, IntKind.u8.wrap c.c3, IntKind.u8.wrap c.c4, IntKind.u8.wrap c.c5, IntKind.u8.wrap (rows.length : Int)] = outR P 0 := by
        have k0 := isB_iff.1 b0; have k1 := isB_iff.1 b1; have k2 := isB_iff.1 b2; have k3 := isB_iff.1 b3; have k4 := isB_iff.1 b4; have k5 := isB_iff.1 b5
        rw [u8_ok k0.1 k0.2, u8_ok k1.1 k1.2, u8_ok k2.1 k2.2, u8_ok k3.1 k3.2, u8_ok k4.1 k4.2, u8_ok k5.1 k5.2, u8_ok (by omega) (by omega)]
        rfl
      have hrows : BSub (some (.cells 5 [.int .u8 (IntKind.u8.wrap c.c0), .int .u8 (IntKind.u8.wrap c.c1), .int .u8 (IntKind.u8.wrap c.c2), .int .u8 (IntKind.u8.wrap c.c3), .int .u8 (IntKind.u8.wrap c.c4), .int .u8 (IntKind.u8.wrap c.c5), .int .u8 (IntKind.u8.wrap (rows.length : Int))]) : Option (Blk V)) (.arr 5 Kd.byte (outR P 0) 0) := by
        rw [← eo]
        exact BSub.rows (U := V) 5 Kd.byte _ _ 7 rfl (by decide)
      refine ⟨ldo_ok, fun q => q = ⟨P, 0⟩, ⟨Nat.le_refl _, SImp.of_wk (ren := [(6, 5)]) ⟨P, 0⟩ ?_ rfl⟩, ?_⟩
      · exact ⟨⟨AV.sub_lit', AV.sub_sl (by show 7 = (outR P 0).length; rw [← eo]; rfl) (by show 7 = (outR P 0).length + 0; rw [← eo]; rfl), AV.sub_same _, AV.sub_same _, AV.sub_same _, AV.sub_same _, trivial⟩, ⟨hrows, .same _, .same _, trivial⟩, rfl, tl_ok rfl, (by repeat (first | exact trivial | refine ⟨.inl (in_ok rfl), ?_⟩)), ⟨Nat.le_of_ble_eq_true rfl, rfl⟩⟩
      · rintro _ rfl
        refine ⟨fun sp hr => ?_, fun _ hr => ?_⟩
        · have hr : rows.all okRow = true := hr
          have hR : (outR P rows.length).length ≤ 4096 := by
            have := encRows_le hr
            rw [outR_length]; show 7 + (encRows (rows.take rows.length)).length ≤ 4096
            rw [List.take_length]; omega
          have e0 : outP P 0 = outR P rows.length := by unfold outP; show outR P rows.length ++ l.take 0 = _; simp
          refine ⟨ldq_ok, fun q => q = ⟨P, sp, hR⟩, ⟨Nat.le_refl _, SImp.of_wk (ren := [(7, 6)]) ⟨P, sp, hR⟩ ?_ rfl⟩, ?_⟩
          · exact ⟨⟨AV.sub_lit', AV.sub_sl (by show (outR P rows.length).length = (outP P 0).length; rw [e0]) (by show (outR P rows.length).length + sp = (outP P 0).length + sp; rw [e0]), AV.sub_same _, AV.sub_same _, AV.sub_same _, trivial⟩, ⟨BSub.arr e0.symm rfl, .same _, .same _, trivial⟩, rfl, tl_ok rfl, (by repeat (first | exact trivial | refine ⟨.inl (in_ok rfl), ?_⟩)), ⟨Nat.le_of_ble_eq_true rfl, rfl⟩⟩
          · rintro _ rfl
            refine ⟨fun sp' hq => ?_, fun _ hq => ?_⟩
            · have hq : l.all isB = true := hq
              have hall : okAll c rows l = true := by unfold okAll; rw [hok, hr, hq, decide_eq_true h8]; rfl
              have e1 : outP P l.length = encOut c rows l := by
                unfold encOut; rw [hall]; unfold outP outR encAll
                show encC c ++ (rows.length : Int) :: encRows (rows.take rows.length) ++ l.take l.length = encC c ++ (rows.length : Int) :: (encRows rows ++ l)
                rw [List.take_length, List.take_length, List.append_assoc, List.cons_append]
              have e2 : encErr c rows l = 0 := by unfold encErr; rw [hall]; rfl
              have H := H sp'
              rw [e2, ← e1] at H
              exact ⟨_, _, H, _, HImp.refl _ _, ⟨⟨fun _ => 7, ⟨.same _, trivial⟩, AV.sub_tup (AV.subL_cons (AV.sub_same _) (AV.subL_cons AV.sub_lit' AV.subL_nil))⟩, rfl, rfl⟩⟩
            · have hq : l.all isB = false := hq
              exact enc_end H (by unfold okAll; rw [hq, Bool.and_false]) rfl
        · have hr : rows.all okRow = false := hr
          exact enc_end H (by unfold okAll; rw [hr, Bool.and_false]; rfl) rfl
    all_goals refine enc_end H (hno ?_) rfl
    all_goals unfold okC; simp [*]
  · exact H.elim
theorem hEnc2 : HookOk Tryz.prog 10 (hookWeak (hookSee [.val, .val, .rows Kd.int] runEnc)) := hookWeak_ok hEnc20
end Sx
end Go.Proofs.YtnegocgblmdihaaGreatDoor

/-
  A writer packed at its first call, and unpacked behind its last one.
-/
namespace Go.Proofs.YtnegocgblmdihaaGreatDoor
namespace Sx
open Go
set_option linter.unusedSimpArgs false
set_option linter.unusedVariables false

def packW (id : Nat) : GhostS V := fun h nx K => match h.get id with
  | some (.obj _) => K h nx []
  | some (.cells T [.nilS, .ff]) => bif Nat.beq T 55 && (h.get 999).isNone && !(Nat.beq id 999) then K ((id, .obj (oW ⟨[], false⟩)) :: h.del id) nx [id] else .bad 631
  | _ => .bad 630
theorem get_del_none {U : Uni} {id j : Nat} {h : Heap U} (hne : j ≠ id) (e : h.get j = none) : (h.del id).get j = none := by rw [Heap.get_del_ne hne]; exact e
theorem packW_ok (id : Nat) : GhostOk (packW id) := by
  intro M h nx K H β r w hs hf
  unfold packW at H
  split at H
  · exact ⟨h, nx, [], r, H, Nm.le.refl r, hf, hs, Kept.refl _ _⟩
  · rename_i T hg
    rw [holds_bif] at H
    split at H
    · rename_i hc
      simp only [Bool.and_eq_true, Bool.not_eq_true'] at hc
      obtain ⟨⟨hT, hn⟩, hne⟩ := hc
      have hT := Nat.eq_of_beq_eq_true hT
      subst hT
      have hn : h.get 999 = none := by simpa using hn
      have hne : id ≠ 999 := fun e => by subst e; simp at hne
      have hp : HImp nx h _ := pack (ren := [(0, id), (1, 999)]) laid_V (x := oW ⟨[], false⟩) (n := 2) (m := id) (h := h) (n' := nx) (hp := [(1, .arr 5 Kd.byte [] 0)]) ⟨wBlk ⟨[], false⟩ 0, rfl, rfl, 0, rfl⟩ rfl rfl ?_ rfl
      · have hd : delAll (mkF 0 [(0, id), (1, 999)] nx) h ((0, .cells 55 [.sl false 1 0 1 0 (0 + 0), .bool false]) :: [(1, .arr 5 Kd.byte [] 0)]) = h.del id := by
          show (h.del id).del 999 = h.del id
          have : ∀ (l : Heap V), l.get 999 = none → l.del 999 = l := by
            intro l
            induction l with
            | nil => intro _; rfl
            | cons q l ih =>
              obtain ⟨j, C⟩ := q
              intro e
              change (bif Nat.beq j 999 then some C else Heap.get l 999) = none at e
              show (bif Nat.beq j 999 then l else (j, C) :: Heap.del l 999) = _
              cases hh : Nat.beq j 999 with
              | true => rw [hh] at e; cases e
              | false => rw [hh] at e; show (j, C) :: Heap.del l 999 = _; rw [ih e]
          exact this _ (get_del_none (by omega) hn)
        have hp : HImp nx h ((id, .obj (oW ⟨[], false⟩)) :: h.del id) := by rw [← hd]; exact hp
        obtain ⟨hm, A, hd, hap, hin⟩ := hs
        obtain ⟨B1, B2, p1, p2, rfl⟩ := hp _ _ _ hf hd
        refine ⟨_, _, _, r, H, Nm.le.refl r, hf, ⟨hm, B1, p1, (Hp.join_apart.1 hap).1, ((Hp.inW_join p2).1 hin).1⟩, Kept.of fun i B e hn' => ?_⟩
        simp only [List.mem_cons, List.not_mem_nil, or_false] at hn'
        rw [Heap.get_cons_ne hn', Heap.get_del_ne hn']
        exact e
      · refine ⟨?_, ?_, trivial⟩
        · show BSub (h.get id) _
          rw [hg]
          exact BSub.cells 55 _ _ (AV.subL_cons AV.sub_nilS (AV.subL_cons (AV.sub_ff rfl) AV.subL_nil))
        · show BSub ((h.del id).get 999) _
          rw [get_del_none (by omega) hn]; exact .none _ _
    · exact H.elim
  · exact H.elim
def wOpen (s : Wr) (id nx sp : Nat) : Heap V := [(id, .cells 55 [.sl false (nx + 1) 0 1 s.out.length (s.out.length + sp), .bool s.bad]), (nx + 1, .arr 5 Kd.byte s.out sp)]
def openW (id : Nat) : GhostS V := fun h nx K => match h.get id with
  | some (.obj (.inr s)) => bif Nat.blt id nx then .all Nat fun sp => K (h.del id ++ wOpen s id nx sp) (nx + 2) [id] else .bad 632
  | _ => K h nx []
theorem openW_ok (id : Nat) : GhostOk (openW id) := by
  intro M h nx K H β r w hs hf
  unfold openW at H
  split at H
  · rename_i s hg
    rw [holds_bif] at H
    split at H
    · rename_i hid
      rw [Nat.blt_eq] at hid
      obtain ⟨hp, n, r', ht, g1, g2, g3⟩ := unpack_ghost laid_V hg hid hs hf
      obtain ⟨rfl, sp, rfl⟩ := tmV_wr ht
      refine ⟨_, _, _, r', H sp, g1, g2, g3, Kept.of fun i B e hn => ?_⟩
      have hne : i ≠ id := fun hh => hn (by simp [hh])
      have hdel : (h.del id).get i = some B := by rw [Heap.get_del_ne hne]; exact e
      have app : ∀ (a b : Heap V), a.get i = some B → Heap.get (a ++ b) i = some B := by
        intro a b
        induction a with
        | nil => intro e; cases e
        | cons q a ih =>
          obtain ⟨j, C⟩ := q
          intro e
          show (bif Nat.beq j i then some C else Heap.get (a ++ b) i) = some B
          change (bif Nat.beq j i then some C else Heap.get a i) = some B at e
          cases hh : Nat.beq j i with
          | true => rw [hh] at e; exact e
          | false => rw [hh] at e; exact ih e
      exact app _ _ hdel
    · exact H.elim
  · exact ⟨h, nx, [], r, H, Nm.le.refl r, hf, hs, Kept.refl _ _⟩
abbrev hkPut : HookS V := hookObj 2 [.int .i64, .rows Kd.int] (onW runPut)
/-- put, of a writer under a known name; the last call is the one with the row of a known name. -/
def hookPut (id lid : Nat) : HookS V := fun args h nx K => match args with
  | [_, _, .sl _ j _ _ _ _] => bif Nat.beq j lid then hookThen (hookAfter (packW id) hkPut) (openW id) args h nx K else hookAfter (packW id) hkPut args h nx K
  | _ => hookAfter (packW id) hkPut args h nx K
theorem hookPut_ok (id lid : Nat) : HookOk Tryz.prog 18 (hookPut id lid) := by
  have h1 : HookOk Tryz.prog 18 (hookAfter (packW id) hkPut) := hookAfter_ok ⟨Tryz.f18, by kernel_rfl, by kernel_rfl, by kernel_rfl⟩ (packW_ok id) hPut
  have h2 : HookOk Tryz.prog 18 (hookThen (hookAfter (packW id) hkPut) (openW id)) := hookThen_ok (openW_ok id) h1
  intro M args h nx K H
  unfold hookPut at H
  split at H
  · rename_i a b kn j s w l c
    cases hb : Nat.beq j lid with
    | true => rw [hb] at H; exact h2 M _ h nx K H
    | false => rw [hb] at H; exact h1 M _ h nx K H
  · exact h1 M _ h nx K H
end Sx
end Go.Proofs.YtnegocgblmdihaaGreatDoor

/-
  Scripts written: the runs of the machine.
-/
namespace Go.Proofs.YtnegocgblmdihaaGreatDoor
namespace Sx
open Go
set_option maxRecDepth 100000
set_option linter.unusedVariables false

noncomputable def hooksE : Nat → Option (HookS V) := fun g => match g with | 18 => some (hookPut 5 3) | _ => none
noncomputable def cfgE0 : Cfg Tryz.prog V := ⟨tab, kinds, fun _ => none, hooksE, fun _ _ => none⟩

structure GcP where
  g : RPool
  c : Conf
  o : Option (Nat × Nat)
  ca : Nat
  rows : List (List Opr)
  l : List Int
  lc : Nat
  h : RowsAt g o rows.length ca rows
  hl : l.length ≤ 1048576
  hr : (encRows rows).length ≤ 16777216
def wC (c : Conf) (n : Nat) : Wr := putW (putW ⟨[], false⟩ 255 (encC c)) 8 [(n : Int)]
def wOps (s : Wr) (row : List Opr) : Wr := row.foldl (fun s x => putW (putW s 4 [x.act]) 255 [x.key, x.value, x.weight]) s
def wRow (s : Wr) (row : List Opr) : Wr := wOps (putW s 32 [(row.length : Int)]) row
def wRows (s : Wr) (rows : List (List Opr)) : Wr := rows.foldl wRow s
def wR (P : GcP) (i : Nat) : Wr := wRows (wC P.c P.rows.length) (P.rows.take i)
abbrev TE : List Nat := [0, 1, 2, 3, 4, 5, 6, 7, 8, 9, 10, 11, 12, 13, 14, 15, 16, 17, 18, 19, 20, 21, 22, 23, 24, 25, 26, 27, 28, 29, 30]
def GoI (P : GcP) (i : Nat) : St V := ⟨[(37, .int .i64 (i : Int)), (36, .int .i64 (P.rows.length : Int)), (35, .rw P.o P.rows.length P.ca), (8, .ptr 5 0), (7, .lit .i64 0), (6, .nilS), (2, .sl false 3 0 1 P.l.length P.lc)], [(5, .obj (oW (wR P i))), (0, .rpool P.g), (3, .ro Kd.int P.l)], 8, 79, TE⟩
structure GiP where
  P : GcP
  i : Nat
  row : List Opr
  o : Option (Nat × Nat)
  cp : Nat
  hrow : P.rows[i]? = some row
  hat : ∀ (k : Nat) (x : Opr), row[k]? = some x → P.g.at (shiftA o (k * 4)) (flatO x)
  l1 : row.length ≤ cp
def wI (Q : GiP) (k : Nat) : Wr := wOps (putW (wR Q.P Q.i) 32 [(Q.row.length : Int)]) (Q.row.take k)
def GiI (Q : GiP) (k : Nat) : St V := ⟨[(48, .int .i64 (k : Int)), (47, .int .i64 (Q.row.length : Int)), (46, .rw Q.o Q.row.length Q.cp), (37, .int .i64 (Q.i : Int)), (36, .int .i64 (Q.P.rows.length : Int)), (35, .rw Q.P.o Q.P.rows.length Q.P.ca), (8, .ptr 5 0), (7, .lit .i64 0), (6, .nilS), (2, .sl false 3 0 1 Q.P.l.length Q.P.lc)], [(5, .obj (oW (wI Q k))), (0, .rpool Q.P.g), (3, .ro Kd.int Q.P.l)], 9, 79, TE⟩
def GiZ (Q : GiP) : St V := GiI Q 0
def GiE (Q : GiP) (_ : Unit) : St V := GiI Q Q.row.length
def GiT (_ : GiP) (_ : Unit) : Prop := True
abbrev TEi9 : List Nat := [48, 47, 46, 37, 36, 35, 8, 7, 6, 2]
def LEi : LoopS V := trimLoop (trimSt TEi9 [0, 3, 5]) (loopH 9 GiZ GiT GiE)
noncomputable def cfgE9 : Cfg Tryz.prog V := ⟨tab, kinds, fun _ => none, hooksE, fun f id => match f, id with | 9, 2 => some LEi | _, _ => none⟩
def GoZ (P : GcP) : St V := GoI P 0
def GoE (P : GcP) (_ : Unit) : St V := GoI P P.rows.length
def GoT (_ : GcP) (_ : Unit) : Prop := True
abbrev TEo9 : List Nat := [37, 36, 35, 8, 7, 6, 2]
def LEo : LoopS V := trimLoop (trimSt TEo9 [0, 3, 5]) (loopH 8 GoZ GoT GoE)
noncomputable def cfgE10 : Cfg Tryz.prog V := ⟨tab, kinds, fun _ => none, hooksE, fun f id => match f, id with | 9, 0 => some LEo | _, _ => none⟩
theorem eI (Q : GiP) (k : Nat) : runCode cfgE0 60 9 (loopOf Tryz.f9 2) (GiI Q k) (stopT (trimSt TEi9 [0, 3, 5])) = Out.ite (decide ((↑k : Int) < (↑Q.row.length : Int))) (Out.need ((0 : Int) ≤ (↑k : Int) ∧ (↑k : Int) < (↑Q.row.length : Int) ∧ Q.o.isSome = true ∧ Q.row.length ≤ Q.5) (Out.ex Int fun y => Out.ex Int fun y_1 => Out.ex Int fun y_2 => Out.ex Int fun y_3 => Out.need (Q.P.g.at (shiftA Q.o (k * (4 : Nat))) [PD.int .i64 y, PD.int .i64 y_1, PD.int .i64 y_2, PD.int .i64 y_3]) (Out.need ((wI Q k).out.length + (1 : Nat) ≤ (1073741824 : Nat)) (Out.need ((putW (wI Q k) (4 : Int) [y]).out.length + (3 : Nat) ≤ (1073741824 : Nat)) (Out.stop EX.nx {env := [((48 : Nat), .int .i64 (IntKind.i64.wrap ((↑k : Int) + (1 : Int)))), ((47 : Nat), .int .i64 (↑Q.row.length : Int)), ((46 : Nat), AV.rw Q.o Q.row.length Q.5), ((37 : Nat), .int .i64 (↑Q.2 : Int)), ((36 : Nat), .int .i64 (↑Q.P.rows.length : Int)), ((35 : Nat), AV.rw Q.P.o Q.P.rows.length Q.P.4), ((8 : Nat), .ptr (5 : Nat) (0 : Nat)), ((7 : Nat), .lit .i64 (0 : Int)), ((6 : Nat), .nilS), ((2 : Nat), .sl false (3 : Nat) (0 : Nat) (1 : Nat) Q.P.l.length Q.P.7)], heap := [((5 : Nat), .obj (oW (putW (putW (wI Q k) (4 : Int) [y]) (255 : Int) [y_1, y_2, y_3]))), ((0 : Nat), Blk.rpool Q.P.g), ((3 : Nat), .ro Kd.int Q.P.l)], nx := (13 : Nat), nt := (79 : Nat), tl := [(12 : Nat), (11 : Nat), (9 : Nat), (5 : Nat), (5 : Nat), (9 : Nat), (0 : Nat), (1 : Nat), (2 : Nat), (3 : Nat), (4 : Nat), (5 : Nat), (6 : Nat), (7 : Nat), (8 : Nat), (9 : Nat), (10 : Nat), (11 : Nat), (12 : Nat), (13 : Nat), (14 : Nat), (15 : Nat), (16 : Nat), (17 : Nat), (18 : Nat), (19 : Nat), (20 : Nat), (21 : Nat), (22 : Nat), (23 : Nat), (24 : Nat), (25 : Nat), (26 : Nat), (27 : Nat), (28 : Nat), (29 : Nat), (30 : Nat)] : St V }))))) (Out.stop (EX.ex (2 : Nat)) {env := [((48 : Nat), .int .i64 (↑k : Int)), ((47 : Nat), .int .i64 (↑Q.row.length : Int)), ((46 : Nat), AV.rw Q.o Q.row.length Q.5), ((37 : Nat), .int .i64 (↑Q.2 : Int)), ((36 : Nat), .int .i64 (↑Q.P.rows.length : Int)), ((35 : Nat), AV.rw Q.P.o Q.P.rows.length Q.P.4), ((8 : Nat), .ptr (5 : Nat) (0 : Nat)), ((7 : Nat), .lit .i64 (0 : Int)), ((6 : Nat), .nilS), ((2 : Nat), .sl false (3 : Nat) (0 : Nat) (1 : Nat) Q.P.l.length Q.P.7)], heap := [((5 : Nat), .obj (oW (wI Q k))), ((0 : Nat), Blk.rpool Q.P.g), ((3 : Nat), .ro Kd.int Q.P.l)], nx := (9 : Nat), nt := (79 : Nat), tl := [(0 : Nat), (1 : Nat), (2 : Nat), (3 : Nat), (4 : Nat), (5 : Nat), (6 : Nat), (7 : Nat), (8 : Nat), (9 : Nat), (10 : Nat), (11 : Nat), (12 : Nat), (13 : Nat), (14 : Nat), (15 : Nat), (16 : Nat), (17 : Nat), (18 : Nat), (19 : Nat), (20 : Nat), (21 : Nat), (22 : Nat), (23 : Nat), (24 : Nat), (25 : Nat), (26 : Nat), (27 : Nat), (28 : Nat), (29 : Nat), (30 : Nat)] : St V }) := by kernel_rfl

theorem eO (P : GcP) (i : Nat) : runCode cfgE9 60 9 (loopOf Tryz.f9 0) (GoI P i) (stopT (trimSt TEo9 [0, 3, 5])) = Out.ite (decide ((↑i : Int) < (↑P.rows.length : Int))) (Out.need ((0 : Int) ≤ (↑i : Int) ∧ (↑i : Int) < (↑P.rows.length : Int) ∧ P.o.isSome = true ∧ P.rows.length ≤ P.4) (Out.ex (Option (Nat × Nat)) fun y => Out.ex Nat fun y_1 => Out.ex Nat fun y_2 => Out.need (P.g.at (shiftA P.o (i * (1 : Nat))) [PD.sl y y_1 y_2]) (Out.need ((wR P i).out.length + (1 : Nat) ≤ (1073741824 : Nat)) (Out.need (LoopFor Tryz.prog (9 : Nat) (2 : Nat) (loopOf Tryz.f9 (2 : Nat)) LEi) (Out.ex (GiP → Prop) fun y_3 => Out.need ((9 : Nat) ≤ (9 : Nat) ∧ SImp (9 : Nat) {env := [((48 : Nat), .lit .i64 (0 : Int)), ((47 : Nat), .int .i64 (↑y_1 : Int)), ((46 : Nat), AV.rw y y_1 y_2), ((37 : Nat), .int .i64 (↑i : Int)), ((36 : Nat), .int .i64 (↑P.rows.length : Int)), ((35 : Nat), AV.rw P.o P.rows.length P.4), ((8 : Nat), .ptr (5 : Nat) (0 : Nat)), ((7 : Nat), .lit .i64 (0 : Int)), ((6 : Nat), .nilS), ((2 : Nat), .sl false (3 : Nat) (0 : Nat) (1 : Nat) P.l.length P.7)], heap := [((5 : Nat), .obj (oW (putW (wR P i) (32 : Int) [(↑y_1 : Int)]))), ((0 : Nat), Blk.rpool P.g), ((3 : Nat), .ro Kd.int P.l)], nx := (9 : Nat), nt := (79 : Nat), tl := [(8 : Nat), (5 : Nat), (0 : Nat), (1 : Nat), (2 : Nat), (3 : Nat), (4 : Nat), (5 : Nat), (6 : Nat), (7 : Nat), (8 : Nat), (9 : Nat), (10 : Nat), (11 : Nat), (12 : Nat), (13 : Nat), (14 : Nat), (15 : Nat), (16 : Nat), (17 : Nat), (18 : Nat), (19 : Nat), (20 : Nat), (21 : Nat), (22 : Nat), (23 : Nat), (24 : Nat), (25 : Nat), (26 : Nat), (27 : Nat), (28 : Nat), (29 : Nat), (30 : Nat)] : St V } GiZ y_3) (Out.all GiP fun y => Out.asm (y_3 y) (Out.all Unit fun y_4 => Out.asm (GiT y y_4) (Out.stop EX.nx {env := [((37 : Nat), .int .i64 (IntKind.i64.wrap ((↑y.2 : Int) + (1 : Int)))), ((36 : Nat), .int .i64 (↑y.P.rows.length : Int)), ((35 : Nat), AV.rw y.P.o y.P.rows.length y.P.4), ((8 : Nat), .ptr (5 : Nat) (0 : Nat)), ((7 : Nat), .lit .i64 (0 : Int)), ((6 : Nat), .nilS), ((2 : Nat), .sl false (3 : Nat) (0 : Nat) (1 : Nat) y.P.l.length y.P.7)], heap := [((5 : Nat), .obj (oW (wI y y.row.length))), ((0 : Nat), Blk.rpool y.P.g), ((3 : Nat), .ro Kd.int y.P.l)], nx := (9 : Nat), nt := (79 : Nat), tl := [(0 : Nat), (1 : Nat), (2 : Nat), (3 : Nat), (4 : Nat), (5 : Nat), (6 : Nat), (7 : Nat), (8 : Nat), (9 : Nat), (10 : Nat), (11 : Nat), (12 : Nat), (13 : Nat), (14 : Nat), (15 : Nat), (16 : Nat), (17 : Nat), (18 : Nat), (19 : Nat), (20 : Nat), (21 : Nat), (22 : Nat), (23 : Nat), (24 : Nat), (25 : Nat), (26 : Nat), (27 : Nat), (28 : Nat), (29 : Nat), (30 : Nat)] : St V })))))))) (Out.stop (EX.ex (0 : Nat)) {env := [((37 : Nat), .int .i64 (↑i : Int)), ((36 : Nat), .int .i64 (↑P.rows.length : Int)), ((35 : Nat), AV.rw P.o P.rows.length P.4), ((8 : Nat), .ptr (5 : Nat) (0 : Nat)), ((7 : Nat), .lit .i64 (0 : Int)), ((6 : Nat), .nilS), ((2 : Nat), .sl false (3 : Nat) (0 : Nat) (1 : Nat) P.l.length P.7)], heap := [((5 : Nat), .obj (oW (wR P i))), ((0 : Nat), Blk.rpool P.g), ((3 : Nat), .ro Kd.int P.l)], nx := (8 : Nat), nt := (79 : Nat), tl := [(0 : Nat), (1 : Nat), (2 : Nat), (3 : Nat), (4 : Nat), (5 : Nat), (6 : Nat), (7 : Nat), (8 : Nat), (9 : Nat), (10 : Nat), (11 : Nat), (12 : Nat), (13 : Nat), (14 : Nat), (15 : Nat), (16 : Nat), (17 : Nat), (18 : Nat), (19 : Nat), (20 : Nat), (21 : Nat), (22 : Nat), (23 : Nat), (24 : Nat), (25 : Nat), (26 : Nat), (27 : Nat), (28 : Nat), (29 : Nat), (30 : Nat)] : St V }) := by kernel_rfl

theorem t9 (g : RPool) (c : Conf) (o : Option (Nat × Nat)) (la ca : Nat) (l : List Int) (lc : Nat) : runF cfgE10 60 9 Tryz.f9 [confArg c, .rw o la ca, .sl false 3 0 1 l.length lc] [(0, .rpool g), (3, .ro Kd.int l)] 4 = Out.need ((6 : Nat) ≤ (1073741824 : Nat)) (Out.need ((7 : Nat) ≤ (1073741824 : Nat)) (Out.need (LoopFor Tryz.prog (9 : Nat) (0 : Nat) (loopOf Tryz.f9 (0 : Nat)) LEo) (Out.ex (GcP → Prop) fun y => Out.need ((8 : Nat) ≤ (8 : Nat) ∧ SImp (8 : Nat) {env := [((37 : Nat), .lit .i64 (0 : Int)), ((36 : Nat), .int .i64 (↑la : Int)), ((35 : Nat), AV.rw o la ca), ((8 : Nat), .ptr (5 : Nat) (0 : Nat)), ((7 : Nat), .lit .i64 (0 : Int)), ((6 : Nat), .nilS), ((2 : Nat), .sl false (3 : Nat) (0 : Nat) (1 : Nat) l.length lc)], heap := [((5 : Nat), .obj (oW (putW (putW {out := [], bad := false : Wr } (255 : Int) [c.c0, c.c1, c.c2, c.c3, c.c4, c.c5]) (8 : Int) [(↑la : Int)]))), ((0 : Nat), Blk.rpool g), ((3 : Nat), .ro Kd.int l)], nx := (8 : Nat), nt := (79 : Nat), tl := [(7 : Nat), (6 : Nat), (4 : Nat), (5 : Nat), (5 : Nat), (5 : Nat)] : St V } GoZ y) (Out.all GcP fun y_1 => Out.asm (y y_1) (Out.all Unit fun y => Out.asm (GoT y_1 y) (Out.need ((0 : Nat) + y_1.l.length ≤ y_1.l.length) (Out.need ((wR y_1 y_1.rows.length).out.length + (List.take y_1.l.length (List.drop (0 : Nat) y_1.l)).length ≤ (1073741824 : Nat)) (Out.all Nat fun y => Out.ite (putW (wR y_1 y_1.rows.length) (255 : Int) (List.take y_1.l.length (List.drop (0 : Nat) y_1.l))).bad (Out.fin (.tup [.nilS, .lit .i64 (1 : Int)]) [((0 : Nat), Blk.rpool y_1.g), ((3 : Nat), .ro Kd.int y_1.l), ((5 : Nat), .cells (55 : Nat) [.sl false (9 : Nat) (0 : Nat) (1 : Nat) (putW (wR y_1 y_1.rows.length) (255 : Int) (List.take y_1.l.length (List.drop (0 : Nat) y_1.l))).out.length ((putW (wR y_1 y_1.rows.length) (255 : Int) (List.take y_1.l.length (List.drop (0 : Nat) y_1.l))).out.length + y), .bool (putW (wR y_1 y_1.rows.length) (255 : Int) (List.take y_1.l.length (List.drop (0 : Nat) y_1.l))).bad]), ((9 : Nat), .arr (5 : Nat) Kd.byte (putW (wR y_1 y_1.rows.length) (255 : Int) (List.take y_1.l.length (List.drop (0 : Nat) y_1.l))).out y)] (10 : Nat)) (Out.fin (.tup [.sl false (9 : Nat) (0 : Nat) (1 : Nat) (putW (wR y_1 y_1.rows.length) (255 : Int) (List.take y_1.l.length (List.drop (0 : Nat) y_1.l))).out.length ((putW (wR y_1 y_1.rows.length) (255 : Int) (List.take y_1.l.length (List.drop (0 : Nat) y_1.l))).out.length + y), .lit .i64 (0 : Int)]) [((0 : Nat), Blk.rpool y_1.g), ((3 : Nat), .ro Kd.int y_1.l), ((5 : Nat), .cells (55 : Nat) [.sl false (9 : Nat) (0 : Nat) (1 : Nat) (putW (wR y_1 y_1.rows.length) (255 : Int) (List.take y_1.l.length (List.drop (0 : Nat) y_1.l))).out.length ((putW (wR y_1 y_1.rows.length) (255 : Int) (List.take y_1.l.length (List.drop (0 : Nat) y_1.l))).out.length + y), .bool (putW (wR y_1 y_1.rows.length) (255 : Int) (List.take y_1.l.length (List.drop (0 : Nat) y_1.l))).bad]), ((9 : Nat), .arr (5 : Nat) Kd.byte (putW (wR y_1 y_1.rows.length) (255 : Int) (List.take y_1.l.length (List.drop (0 : Nat) y_1.l))).out y)] (10 : Nat)))))))))) := by kernel_rfl

end Sx
end Go.Proofs.YtnegocgblmdihaaGreatDoor

/-
  Scripts written: the program's Encode, by the same contract as the document's.
-/
namespace Go.Proofs.YtnegocgblmdihaaGreatDoor
namespace Sx
open Go
set_option linter.unusedSimpArgs false
set_option linter.unusedVariables false

theorem hooksE_ok : ∀ g H, hooksE g = some H → HookOk Tryz.prog g H := by
  intro g H h
  unfold hooksE at h
  split at h
  · cases h; exact hookPut_ok 5 3
  · cases h
theorem cfgE0_ok : cfgE0.ok := ⟨tab_met, kinds_met, mixed_met, fun g fn h => (by cases h), hooksE_ok⟩
theorem cfgE9_ok : cfgE9.ok := ⟨tab_met, kinds_met, mixed_met, fun g fn h => (by cases h), hooksE_ok⟩
theorem cfgE10_ok : cfgE10.ok := ⟨tab_met, kinds_met, mixed_met, fun g fn h => (by cases h), hooksE_ok⟩

/-! ## what is written, in plain words -/
theorem out_not {x m : Int} : isOut m x = !(decide (0 ≤ x) && decide (x ≤ m)) := by
  unfold isOut
  by_cases h0 : x < 0
  · rw [decide_eq_true h0, decide_eq_false (show ¬ 0 ≤ x by omega)]; rfl
  · by_cases h1 : x > m
    · rw [decide_eq_true h1, decide_eq_false (show ¬ x ≤ m by omega), Bool.or_true, Bool.and_false]; rfl
    · rw [decide_eq_false h0, decide_eq_false h1, decide_eq_true (show 0 ≤ x by omega), decide_eq_true (show x ≤ m by omega)]; rfl
theorem putW_out (s : Wr) (m : Int) (l : List Int) : (putW s m l).out = s.out ++ l.map u8 := rfl
theorem putW_bad (s : Wr) (m : Int) (l : List Int) : (putW s m l).bad = (s.bad || l.any (isOut m)) := rfl
def opW (s : Wr) (x : Opr) : Wr := putW (putW s 4 [x.act]) 255 [x.key, x.value, x.weight]
theorem opW_out (s : Wr) (x : Opr) : (opW s x).out = s.out ++ (encO x).map u8 := by
  unfold opW; rw [putW_out, putW_out, List.append_assoc]; rfl
theorem opW_bad (s : Wr) (x : Opr) : (opW s x).bad = (s.bad || !okO x) := by
  unfold opW; rw [putW_bad, putW_bad]
  simp only [List.any_cons, List.any_nil, Bool.or_false, out_not]
  unfold okO isB
  cases s.bad <;> cases (decide (0 ≤ x.act) && decide (x.act ≤ 4)) <;> cases (decide (0 ≤ x.key) && decide (x.key ≤ 255)) <;> cases (decide (0 ≤ x.value) && decide (x.value ≤ 255)) <;> cases (decide (0 ≤ x.weight) && decide (x.weight ≤ 255)) <;> rfl
theorem wOps_eq (s : Wr) (row : List Opr) : wOps s row = row.foldl opW s := rfl
theorem wOps_out : ∀ (row : List Opr) (s : Wr), (wOps s row).out = s.out ++ (row.flatMap encO).map u8
  | [], s => by simp [wOps]
  | x :: row, s => by
    have ih := wOps_out row (opW s x)
    rw [wOps_eq] at ih ⊢
    rw [List.foldl_cons, ih, opW_out, List.flatMap_cons, List.map_append, List.append_assoc]
theorem wOps_bad : ∀ (row : List Opr) (s : Wr), (wOps s row).bad = (s.bad || !row.all okO)
  | [], s => by simp [wOps]
  | x :: row, s => by
    have ih := wOps_bad row (opW s x)
    rw [wOps_eq] at ih ⊢
    rw [List.foldl_cons, ih, opW_bad, List.all_cons]
    cases s.bad <;> cases okO x <;> cases row.all okO <;> rfl
theorem wRow_out (s : Wr) (row : List Opr) : (wRow s row).out = s.out ++ (encRow row).map u8 := by
  unfold wRow; rw [wOps_out, putW_out, List.append_assoc]; rfl
theorem wRow_bad (s : Wr) (row : List Opr) : (wRow s row).bad = (s.bad || !okRow row) := by
  unfold wRow; rw [wOps_bad, putW_bad]
  simp only [List.any_cons, List.any_nil, Bool.or_false, out_not]
  unfold okRow
  rw [decide_eq_true (show (0 : Int) ≤ (row.length : Int) by omega), Bool.true_and, show decide ((row.length : Int) ≤ 32) = decide (row.length ≤ 32) by rw [decide_eq_decide]; omega]
  cases s.bad <;> cases decide (row.length ≤ 32) <;> cases row.all okO <;> rfl
theorem wRows_out : ∀ (rows : List (List Opr)) (s : Wr), (wRows s rows).out = s.out ++ (encRows rows).map u8
  | [], s => by simp [wRows, encRows]
  | r :: rows, s => by
    have ih := wRows_out rows (wRow s r)
    unfold wRows at ih ⊢
    unfold encRows at ih ⊢
    rw [List.foldl_cons, ih, wRow_out, List.flatMap_cons, List.map_append, List.append_assoc]
theorem wRows_bad : ∀ (rows : List (List Opr)) (s : Wr), (wRows s rows).bad = (s.bad || !rows.all okRow)
  | [], s => by simp [wRows]
  | r :: rows, s => by
    have ih := wRows_bad rows (wRow s r)
    unfold wRows at ih ⊢
    rw [List.foldl_cons, ih, wRow_bad, List.all_cons]
    cases s.bad <;> cases okRow r <;> cases rows.all okRow <;> rfl
theorem wC_bad (c : Conf) (n : Nat) : (wC c n).bad = !(okC c && decide (n ≤ 8)) := by
  unfold wC; rw [putW_bad, putW_bad]
  unfold encC okC isB
  simp only [List.any_cons, List.any_nil, Bool.or_false, out_not]
  rw [decide_eq_true (show (0 : Int) ≤ (n : Int) by omega), Bool.true_and, show decide ((n : Int) ≤ 8) = decide (n ≤ 8) by rw [decide_eq_decide]; omega]
  cases (decide (0 ≤ c.c0) && decide (c.c0 ≤ 255)) <;> cases (decide (0 ≤ c.c1) && decide (c.c1 ≤ 255)) <;> cases (decide (0 ≤ c.c2) && decide (c.c2 ≤ 255)) <;> cases (decide (0 ≤ c.c3) && decide (c.c3 ≤ 255)) <;> cases (decide (0 ≤ c.c4) && decide (c.c4 ≤ 255)) <;> cases (decide (0 ≤ c.c5) && decide (c.c5 ≤ 255)) <;> cases decide (n ≤ 8) <;> rfl
/-- All that is written. -/
def wAll (c : Conf) (rows : List (List Opr)) (l : List Int) : Wr := putW (wRows (wC c rows.length) rows) 255 l
theorem isB_all (l : List Int) : l.any (isOut 255) = !l.all isB := by
  induction l with
  | nil => rfl
  | cons x l ih =>
    rw [List.any_cons, List.all_cons, ih, out_not]
    unfold isB
    cases (decide (0 ≤ x) && decide (x ≤ 255)) <;> simp
theorem wAll_bad (c : Conf) (rows : List (List Opr)) (l : List Int) : (wAll c rows l).bad = !okAll c rows l := by
  unfold wAll okAll; rw [putW_bad, wRows_bad, wC_bad, isB_all]
  cases okC c <;> cases decide (rows.length ≤ 8) <;> cases rows.all okRow <;> cases l.all isB <;> rfl
theorem wAll_out (c : Conf) (rows : List (List Opr)) (l : List Int) : (wAll c rows l).out = (encAll c rows l).map u8 := by
  unfold wAll encAll; rw [putW_out, wRows_out]
  unfold wC
  rw [putW_out, putW_out]
  simp [List.append_assoc]
theorem u8_same {l : List Int} (h : Bytes l) : l.map u8 = l := by
  conv => rhs; rw [← List.map_id l]
  refine List.map_congr_left fun x hx => ?_
  exact u8_ok (h x hx).1 (h x hx).2
theorem wAll_ok {c : Conf} {rows : List (List Opr)} {l : List Int} (h : okAll c rows l = true) : (wAll c rows l).out = encAll c rows l := by
  rw [wAll_out, u8_same (enc_bytes h)]

/-! ## the loops -/
theorem wI_succ {Q : GiP} {k : Nat} {x : Opr} (hx : Q.row[k]? = some x) : opW (wI Q k) x = wI Q (k + 1) := by
  obtain ⟨h1, h2⟩ := List.getElem?_eq_some_iff.1 hx
  unfold wI
  rw [wOps_eq, wOps_eq, List.take_succ_eq_append_getElem h1, h2, List.foldl_append]; rfl
theorem encRows_take (rows : List (List Opr)) (i : Nat) : (encRows (rows.take i)).length ≤ (encRows rows).length := by
  conv => rhs; rw [← List.take_append_drop i rows]
  unfold encRows
  rw [List.flatMap_append, List.length_append]; omega
theorem encRows_next {rows : List (List Opr)} {i : Nat} {row : List Opr} (h : rows[i]? = some row) : encRows (rows.take (i + 1)) = encRows (rows.take i) ++ encRow row := by
  obtain ⟨h1, h2⟩ := List.getElem?_eq_some_iff.1 h
  unfold encRows
  rw [List.take_succ_eq_append_getElem h1, h2, List.flatMap_append]; simp
theorem wR_length (P : GcP) (i : Nat) : (wR P i).out.length = 7 + (encRows (P.rows.take i)).length := by
  unfold wR wC
  rw [wRows_out, putW_out, putW_out]
  simp [encC]; omega
theorem lei9_ok : LoopOk Tryz.prog 2 (loopOf Tryz.f9 2) LEi := by
  refine trimLoop_ok (trim_ok _ _) (loopTH_ok (C := cfgE0) cfgE0_ok (f := 9) (n := 60) (trim_ok TEi9 [0, 3, 5]) 9 GiI (fun Q k => k ≤ Q.row.length) (fun _ => 0) (fun Q k => Q.row.length - k)
    GiT GiE (fun Q => Nat.zero_le _) ?_)
  intro Q k hk
  rw [eI]
  have i1 := (List.getElem?_eq_some_iff.1 Q.hrow).1
  have hr := Q.P.hr
  have hlen : (wI Q k).out.length + 4 * (Q.row.length - k) ≤ 16777216 + 7 ∧ Q.row.length ≤ 16777216 := by
    have e1 : (wI Q k).out.length = 7 + (encRows (Q.P.rows.take Q.i)).length + 1 + 4 * k := by
      unfold wI
      rw [wOps_out, putW_out]
      simp only [List.length_append, List.length_map, flat_length, List.length_take, wR_length, List.length_cons, List.length_nil]
      omega
    have e2 := encRows_take Q.P.rows (Q.i + 1)
    rw [encRows_next Q.hrow, List.length_append] at e2
    have e3 : (encRow Q.row).length = 1 + 4 * Q.row.length := by unfold encRow; rw [List.length_cons, flat_length]; omega
    omega
  refine ⟨fun h => ?_, fun h => ⟨rfl, ?_⟩⟩
  · have h := of_decide_eq_true h
    have hlt : k < Q.row.length := by omega
    have hx : Q.row[k]? = some Q.row[k] := List.getElem?_eq_getElem hlt
    have s1 := Q.hat k _ hx
    generalize Q.row[k] = x at hx s1
    have hw : IntKind.wrap .i64 ((k : Int) + 1) = ((k + 1 : Nat) : Int) := by
      exact wrap_nat (by omega)
    have hs := wI_succ hx
    refine ⟨⟨by omega, by omega, at_some s1, Q.l1⟩, x.act, x.key, x.value, x.weight, s1, by omega, by rw [putW_out, List.length_append]; simp; omega, ?_⟩
    refine SImp.of_wk (ren := []) (k + 1) ?_ ⟨hlt, by show Q.row.length - (k + 1) < Q.row.length - k; omega⟩
    exact ⟨⟨AV.sub_int hw, AV.sub_same _, AV.sub_same _, AV.sub_same _, AV.sub_same _, AV.sub_same _, AV.sub_same _, AV.sub_same _, AV.sub_same _, AV.sub_same _, trivial⟩, ⟨BSub.of_eq (by rw [← hs]; rfl), .same _, .same _, trivial⟩, rfl, tl_ok rfl, (by repeat (first | exact trivial | refine ⟨.inl (in_ok rfl), ?_⟩)), ⟨Nat.le_of_ble_eq_true rfl, rfl⟩⟩
  · have h := of_decide_eq_false h
    have he : k = Q.row.length := by omega
    subst he
    refine SImp.of_wk (ren := []) () ?_ trivial
    exact ⟨⟨AV.sub_same _, AV.sub_same _, AV.sub_same _, AV.sub_same _, AV.sub_same _, AV.sub_same _, AV.sub_same _, AV.sub_same _, AV.sub_same _, AV.sub_same _, trivial⟩, ⟨.same _, .same _, .same _, trivial⟩, rfl, tl_ok rfl, (by repeat (first | exact trivial | refine ⟨.inl (in_ok rfl), ?_⟩)), ⟨Nat.le_of_ble_eq_true rfl, rfl⟩⟩
theorem leo9_ok : LoopOk Tryz.prog 0 (loopOf Tryz.f9 0) LEo := by
  refine trimLoop_ok (trim_ok _ _) (loopTH_ok (C := cfgE9) cfgE9_ok (f := 9) (n := 60) (trim_ok TEo9 [0, 3, 5]) 8 GoI (fun P i => i ≤ P.rows.length) (fun _ => 0) (fun P i => P.rows.length - i)
    GoT GoE (fun P => Nat.zero_le _) ?_)
  intro P i hi
  rw [eO]
  obtain ⟨hS, _, hle, hm⟩ := P.h
  have hr := P.hr
  refine ⟨fun h => ?_, fun h => ⟨rfl, ?_⟩⟩
  · have h := of_decide_eq_true h
    have hlt : i < P.rows.length := by omega
    have hx : P.rows[i]? = some P.rows[i] := List.getElem?_eq_getElem hlt
    generalize P.rows[i] = row at hx
    obtain ⟨o1, c1, g1, l1, m1, e1⟩ := hS i row hx
    have g1' : P.g.at (shiftA P.o (i * 1)) [.sl o1 row.length c1] := by rw [Nat.mul_one]; exact g1
    have hlen : (wR P i).out.length + 1 ≤ 1073741824 := by
      have := encRows_take P.rows i
      rw [wR_length]; omega
    let Q : GiP := ⟨P, i, row, o1, c1, hx, e1, l1⟩
    refine ⟨⟨by omega, by omega, at_some g1, hle⟩, o1, row.length, c1, g1', hlen, lei9_ok, fun q => q = Q, ⟨Nat.le_refl _, SImp.of_wk (ren := []) Q ?_ rfl⟩, ?_⟩
    · exact ⟨⟨AV.sub_lit', AV.sub_same _, AV.sub_same _, AV.sub_same _, AV.sub_same _, AV.sub_same _, AV.sub_same _, AV.sub_same _, AV.sub_same _, AV.sub_same _, trivial⟩, ⟨.same _, .same _, .same _, trivial⟩, rfl, tl_ok rfl, (by repeat (first | exact trivial | refine ⟨.inl (in_ok rfl), ?_⟩)), ⟨Nat.le_of_ble_eq_true rfl, rfl⟩⟩
    · rintro _ rfl _ _
      have hw : IntKind.wrap .i64 ((i : Int) + 1) = ((i + 1 : Nat) : Int) := by simp only [maxLen] at hm; rw [wrap_full (by omega) (by omega)]; omega
      have hs : wI Q row.length = wR P (i + 1) := by
        obtain ⟨h1, h2⟩ := List.getElem?_eq_some_iff.1 hx
        show wOps (putW (wR P i) 32 [(row.length : Int)]) (row.take row.length) = _
        rw [List.take_length]
        unfold wR wRows
        rw [List.take_succ_eq_append_getElem h1, h2, List.foldl_append]; rfl
      refine SImp.of_wk (ren := []) (i + 1) ?_ ⟨hlt, by show P.rows.length - (i + 1) < P.rows.length - i; omega⟩
      exact ⟨⟨AV.sub_int hw, AV.sub_same _, AV.sub_same _, AV.sub_same _, AV.sub_same _, AV.sub_same _, AV.sub_same _, trivial⟩, ⟨BSub.of_eq (by rw [← hs]; rfl), .same _, .same _, trivial⟩, rfl, tl_ok rfl, (by repeat (first | exact trivial | refine ⟨.inl (in_ok rfl), ?_⟩)), ⟨Nat.le_of_ble_eq_true rfl, rfl⟩⟩
  · have h := of_decide_eq_false h
    have he : i = P.rows.length := by omega
    subst he
    refine SImp.of_wk (ren := []) () ?_ trivial
    exact ⟨⟨AV.sub_same _, AV.sub_same _, AV.sub_same _, AV.sub_same _, AV.sub_same _, AV.sub_same _, AV.sub_same _, trivial⟩, ⟨.same _, .same _, .same _, trivial⟩, rfl, tl_ok rfl, (by repeat (first | exact trivial | refine ⟨.inl (in_ok rfl), ?_⟩)), ⟨Nat.le_of_ble_eq_true rfl, rfl⟩⟩
theorem hEnc0 : HookOk Tryz.prog 9 (hookSee [.val, .val, .rows Kd.int] runEnc) := by
  refine see_hook (C := cfgE10) cfgE10_ok (n := 60) (fn := Tryz.f9) ⟨by kernel_rfl, by kernel_rfl⟩ (by kernel_rfl) ?_
  intro M g ar K0 H
  unfold runEnc at H
  split at H
  · rename_i c0 c1 c2 c3 c4 c5 o la ca l lc
    obtain ⟨rows, ⟨⟨hS, rfl, hle, hm⟩, hl, hr⟩, H⟩ := H
    replace H := fun sp => H (_, _) sp rfl
    generalize hc : (⟨c0, c1, c2, c3, c4, c5⟩ : Conf) = c at H
    obtain rfl : c0 = c.c0 := by rw [← hc]
    obtain rfl : c1 = c.c1 := by rw [← hc]
    obtain rfl : c2 = c.c2 := by rw [← hc]
    obtain rfl : c3 = c.c3 := by rw [← hc]
    obtain rfl : c4 = c.c4 := by rw [← hc]
    obtain rfl : c5 = c.c5 := by rw [← hc]
    clear hc
    refine ⟨show 3 ≤ _ by decide +kernel, ?_⟩
    show (runF cfgE10 60 9 Tryz.f9 [confArg c, .rw o rows.length ca, .sl false 3 0 1 l.length lc] [(0, .rpool g), (3, .ro Kd.int l)] 4).holds _
    rw [t9]
    let P : GcP := ⟨g, c, o, ca, rows, l, lc, ⟨hS, rfl, hle, hm⟩, hl, hr⟩
    refine ⟨by decide, by decide, leo9_ok, fun q => q = P, ⟨Nat.le_refl _, SImp.of_wk (ren := []) P ?_ rfl⟩, ?_⟩
    · exact ⟨⟨AV.sub_lit', AV.sub_same _, AV.sub_same _, AV.sub_same _, AV.sub_same _, AV.sub_same _, AV.sub_same _, trivial⟩, ⟨.same _, .same _, .same _, trivial⟩, rfl, tl_ok rfl, (by repeat (first | exact trivial | refine ⟨.inl (in_ok rfl), ?_⟩)), ⟨Nat.le_of_ble_eq_true rfl, rfl⟩⟩
    · rintro _ rfl _ _
      have eW : putW (wR P P.rows.length) 255 ((P.l.drop 0).take P.l.length) = wAll c rows l := by
        show putW (wRows (wC c rows.length) (rows.take rows.length)) 255 ((l.drop 0).take l.length) = _
        rw [List.drop_zero, List.take_length, List.take_length]; rfl
      have hlen : (wR P P.rows.length).out.length ≤ 16777216 + 7 := by
        rw [wR_length]; show 7 + (encRows (rows.take rows.length)).length ≤ _
        rw [List.take_length]; omega
      simp only [eW]
      refine ⟨by omega, ?_, fun sp => ⟨fun hb => ?_, fun hb => ?_⟩⟩
      · show (wR P P.rows.length).out.length + ((l.drop 0).take l.length).length ≤ _
        rw [List.drop_zero, List.take_length]; omega
      · have hno : okAll c rows l = false := by
          have hb : (wAll c rows l).bad = true := hb
          rw [wAll_bad] at hb; simpa using hb
        exact enc_end H hno rfl
      · have hok : okAll c rows l = true := by
          have hb : (wAll c rows l).bad = false := hb
          rw [wAll_bad] at hb; simpa using hb
        have e1 : encOut c rows l = (wAll c rows l).out := by unfold encOut; rw [hok, wAll_ok hok]; rfl
        have e2 : encErr c rows l = 0 := by unfold encErr; rw [hok]; rfl
        have H := H sp
        rw [e2, e1] at H
        exact ⟨_, _, H, _, HImp.refl _ _, ⟨⟨fun _ => 9, ⟨.same _, trivial⟩, AV.sub_tup (AV.subL_cons (AV.sub_same _) (AV.subL_cons AV.sub_lit' AV.subL_nil))⟩, rfl, rfl⟩⟩
  · exact H.elim
theorem hEnc : HookOk Tryz.prog 9 (hookWeak (hookSee [.val, .val, .rows Kd.int] runEnc)) := hookWeak_ok hEnc0
end Sx
end Go.Proofs.YtnegocgblmdihaaGreatDoor

/-
  Bytes read: the runs of the machine.
-/
namespace Go.Proofs.YtnegocgblmdihaaGreatDoor
namespace Sx
open Go
set_option maxRecDepth 100000
set_option linter.unusedVariables false

noncomputable def hooksD : Nat → Option (HookS V) := fun g => match g with | 16 => some (hookRd (U := V) Kd.byte runNext) | 17 => some (hookRd (U := V) Kd.byte runNext2) | _ => none
noncomputable def cfgD0 : Cfg Tryz.prog V := ⟨tabP, kinds, fun _ => none, hooksD, fun _ _ => none⟩

structure DcP where
  bs : List Int
  c : Nat
  p0 : Pool
  hb : Bytes bs
  hl : bs.length ≤ 1073741824
/-- The reader's cell behind so many bytes. -/
def rdC (P : DcP) (k : Nat) : Blk V := .cells 22 [.sl false 1 (min k P.bs.length) 1 (P.bs.length - k) (P.c - min k P.bs.length)]
def cfC (P : DcP) : Blk V := .cells 24 [.int .i64 (bAt P.bs 0), .int .i64 (bAt P.bs 1), .int .i64 (bAt P.bs 2), .int .i64 (bAt P.bs 3), .int .i64 (bAt P.bs 4), .int .i64 (bAt P.bs 5)]
abbrev TD : List Nat := [0, 1, 2, 3, 4, 5, 6, 7, 8, 9, 10, 11, 12, 13, 14, 15, 16, 17, 18, 19, 20, 21, 22, 23, 24, 25, 26, 27, 28, 29, 30]
def rsA (w : Rwp) : AV := .rs w.1 w.2.1 w.2.2
def DcO (P : DcP) (x : Nat × Pool × Rwp) : St V := ⟨[(33, .int .i64 (x.1 : Int)), (32, .int .i64 (nP P.bs : Int)), (5, .fn 16 [] [.ptr 2 0]), (4, .nilS), (3, rsA x.2.2), (2, .ptr 3 0), (1, .ptr 2 0)], [(3, cfC P), (2, rdC P (posP P.bs x.1)), (0, .pool x.2.1), (1, .ro Kd.byte P.bs)], 11, 79, TD⟩
structure DiP where
  P : DcP
  i : Nat
  pO : Pool
  wO : Rwp
def DcI (Q : DiP) (x : Nat × Pool × Rwp) : St V := ⟨[(38, .int .i64 (x.1 : Int)), (37, .int .i64 (lenAt Q.P.bs (posP Q.P.bs Q.i) : Int)), (8, rsA x.2.2), (33, .int .i64 (Q.i : Int)), (32, .int .i64 (nP Q.P.bs : Int)), (5, .fn 16 [] [.ptr 2 0]), (4, .nilS), (3, rsA Q.wO), (2, .ptr 3 0), (1, .ptr 2 0)], [(3, cfC Q.P), (2, rdC Q.P (posP Q.P.bs Q.i + 1 + 4 * x.1)), (0, .pool x.2.1), (1, .ro Kd.byte Q.P.bs)], 11, 79, TD⟩
def DiZ (Q : DiP) : St V := DcI Q (0, Q.pO, w0)
def DiE (Q : DiP) (y : Pool × Rwp) : St V := DcI Q (lenAt Q.P.bs (posP Q.P.bs Q.i), y.1, y.2)
def DiC (Q : DiP) (y : Pool × Rwp) : Prop := RowO y.1 y.2 (rowAtP Q.P.bs Q.i) ∧ Q.pO.Le y.1
abbrev TDi : List Nat := [38, 37, 8, 33, 32, 5, 4, 3, 2, 1]
def LI : LoopS V := trimLoop (trimSt TDi [0, 1, 2, 3]) (loopH 11 DiZ DiC DiE)
noncomputable def cfgD1 : Cfg Tryz.prog V := ⟨tabP, kinds, fun _ => none, hooksD, fun f id => match f, id with | 7, 4 => some LI | _, _ => none⟩
def DcZ (P : DcP) : St V := DcO P (0, P.p0, w0)
def DcE (P : DcP) (y : Pool × Rwp) : St V := DcO P (nP P.bs, y.1, y.2)
def DcC (P : DcP) (y : Pool × Rwp) : Prop := P.p0.Le y.1 ∧ ∃ hs, RowsLie y.1 y.2 hs (rowsOf P.bs)
abbrev TDo : List Nat := [33, 32, 5, 4, 3, 2, 1]
def LO : LoopS V := trimLoop (trimSt TDo [0, 1, 2, 3]) (loopH 11 DcZ DcC DcE)

structure DpP where
  P : DcP
  K : Nat
  p : Pool
  w : Rwp
def pkT (Q : DpP) (t : Nat) : List Int := (Q.P.bs.drop Q.K).take t
def DpI (Q : DpP) (x : Nat × Nat) : St V := ⟨[(5, .fn 16 [] [.ptr 2 0]), (4, .sl false 11 0 1 (pkT Q x.1).length ((pkT Q x.1).length + x.2)), (3, rsA Q.w), (2, .ptr 3 0), (1, .ptr 2 0)], [(11, .arr 3 Kd.int (pkT Q x.1) x.2), (3, cfC Q.P), (2, rdC Q.P (Q.K + x.1)), (0, .pool Q.p), (1, .ro Kd.byte Q.P.bs)], 12, 79, TD⟩
def DpZ (Q : DpP) : St V := DpI Q (0, 0)
def DpE (Q : DpP) (sp : Nat) : St V := DpI Q (Q.P.bs.length - Q.K, sp)
def DpC (_ : DpP) (_ : Nat) : Prop := True
abbrev TDp : List Nat := [5, 4, 3, 2, 1]
def LP : LoopS V := trimLoop (trimSt TDp [0, 1, 2, 3]) (loopH 11 DpZ DpC DpE)
noncomputable def cfgD2 : Cfg Tryz.prog V := ⟨tabP, kinds, fun _ => none, hooksD, fun f id => match f, id with | 7, 2 => some LO | 7, 8 => some LP | _, _ => none⟩
theorem bP (Q : DpP) (t sp : Nat) : runCode cfgD0 60 7 (loopOf Tryz.f7 8) (DpI Q (t, sp)) (stopT (trimSt TDp [0, 1, 2, 3, 11, 12, 13, 14, 15])) = Out.ite (decide ((↑(Q.P.bs.length - (Q.2 + t)) : Int) > (0 : Int))) (Out.ex (Nat × Nat) fun y => Out.need (min (Q.2 + t) Q.P.bs.length = min y.1 Q.P.bs.length ∧ Q.P.bs.length - (Q.2 + t) = Q.P.bs.length - y.1 ∧ Q.P.2 - min (Q.2 + t) Q.P.bs.length = y.2 - min y.1 Q.P.bs.length ∧ Bytes Q.P.bs) (Out.need (y.2 - min (y.1 + (1 : Nat)) Q.P.bs.length ≤ Q.P.2 - min (Q.2 + t) Q.P.bs.length) (Out.same ((pkT Q t).length + sp) ((pkT Q t).length + sp) (Out.needd ((0 : Nat) = (0 : Nat) ∧ (pkT Q t).length = (pkT Q t).length ∧ ((pkT Q t).length + (1 : Nat)) * (8 : Nat) ≤ (140737488355328 : Nat)) (Out.all Nat fun y_1 => Out.stop EX.nx {env := [((5 : Nat), .fn (16 : Nat) [] [.ptr (2 : Nat) (0 : Nat)]), ((4 : Nat), .sl false (13 : Nat) (0 : Nat) (1 : Nat) ((pkT Q t).length + (1 : Nat)) ((pkT Q t).length + (1 : Nat) + y_1)), ((3 : Nat), AV.rs Q.w.fst Q.w.snd.1 Q.w.snd.2), ((2 : Nat), .ptr (3 : Nat) (0 : Nat)), ((1 : Nat), .ptr (2 : Nat) (0 : Nat))], heap := [((13 : Nat), .arr (3 : Nat) Kd.int (pkT Q t ++ [bAt Q.P.bs y.1]) y_1), ((12 : Nat), .cells (3 : Nat) [.int .i64 (bAt Q.P.bs y.1)]), ((3 : Nat), .cells (24 : Nat) [.int .i64 (bAt Q.P.bs (0 : Nat)), .int .i64 (bAt Q.P.bs (1 : Nat)), .int .i64 (bAt Q.P.bs (2 : Nat)), .int .i64 (bAt Q.P.bs (3 : Nat)), .int .i64 (bAt Q.P.bs (4 : Nat)), .int .i64 (bAt Q.P.bs (5 : Nat))]), ((2 : Nat), .cells (22 : Nat) [.sl false (1 : Nat) (min (y.1 + (1 : Nat)) Q.P.bs.length) (1 : Nat) (Q.P.bs.length - (y.1 + (1 : Nat))) (y.2 - min (y.1 + (1 : Nat)) Q.P.bs.length)]), ((0 : Nat), Blk.pool Q.p), ((1 : Nat), .ro Kd.byte Q.P.bs)], nx := (14 : Nat), nt := (79 : Nat), tl := [(11 : Nat), (2 : Nat), (0 : Nat), (1 : Nat), (2 : Nat), (3 : Nat), (4 : Nat), (5 : Nat), (6 : Nat), (7 : Nat), (8 : Nat), (9 : Nat), (10 : Nat), (11 : Nat), (12 : Nat), (13 : Nat), (14 : Nat), (15 : Nat), (16 : Nat), (17 : Nat), (18 : Nat), (19 : Nat), (20 : Nat), (21 : Nat), (22 : Nat), (23 : Nat), (24 : Nat), (25 : Nat), (26 : Nat), (27 : Nat), (28 : Nat), (29 : Nat), (30 : Nat)] : St V }))))) (Out.stop (EX.ex (8 : Nat)) {env := [((5 : Nat), .fn (16 : Nat) [] [.ptr (2 : Nat) (0 : Nat)]), ((4 : Nat), .sl false (11 : Nat) (0 : Nat) (1 : Nat) (pkT Q t).length ((pkT Q t).length + sp)), ((3 : Nat), AV.rs Q.w.fst Q.w.snd.1 Q.w.snd.2), ((2 : Nat), .ptr (3 : Nat) (0 : Nat)), ((1 : Nat), .ptr (2 : Nat) (0 : Nat))], heap := [((11 : Nat), .arr (3 : Nat) Kd.int (pkT Q t) sp), ((3 : Nat), .cells (24 : Nat) [.int .i64 (bAt Q.P.bs (0 : Nat)), .int .i64 (bAt Q.P.bs (1 : Nat)), .int .i64 (bAt Q.P.bs (2 : Nat)), .int .i64 (bAt Q.P.bs (3 : Nat)), .int .i64 (bAt Q.P.bs (4 : Nat)), .int .i64 (bAt Q.P.bs (5 : Nat))]), ((2 : Nat), .cells (22 : Nat) [.sl false (1 : Nat) (min (Q.2 + t) Q.P.bs.length) (1 : Nat) (Q.P.bs.length - (Q.2 + t)) (Q.P.2 - min (Q.2 + t) Q.P.bs.length)]), ((0 : Nat), Blk.pool Q.p), ((1 : Nat), .ro Kd.byte Q.P.bs)], nx := (12 : Nat), nt := (79 : Nat), tl := [(0 : Nat), (1 : Nat), (2 : Nat), (3 : Nat), (4 : Nat), (5 : Nat), (6 : Nat), (7 : Nat), (8 : Nat), (9 : Nat), (10 : Nat), (11 : Nat), (12 : Nat), (13 : Nat), (14 : Nat), (15 : Nat), (16 : Nat), (17 : Nat), (18 : Nat), (19 : Nat), (20 : Nat), (21 : Nat), (22 : Nat), (23 : Nat), (24 : Nat), (25 : Nat), (26 : Nat), (27 : Nat), (28 : Nat), (29 : Nat), (30 : Nat)] : St V }) := by kernel_rfl

theorem t7 (p : Pool) (bs : List Int) (c : Nat) : runF cfgD2 60 7 Tryz.f7 [.sl false 1 0 1 bs.length c] [(0, .pool p), (1, .ro Kd.byte bs)] 2 = Out.needd ((0 : Int) ≤ (0 : Int) ∧ (0 : Int) < (6 : Int)) (Out.ex (Nat × Nat) fun y => Out.need ((0 : Nat) = min y.1 bs.length ∧ bs.length = bs.length - y.1 ∧ c = y.2 - min y.1 bs.length ∧ Bytes bs) (Out.need (y.2 - min (y.1 + (1 : Nat)) bs.length ≤ c) (Out.needd ((0 : Int) ≤ (1 : Int) ∧ (1 : Int) < (6 : Int)) (Out.ex (Nat × Nat) fun y_1 => Out.need (min (y.1 + (1 : Nat)) bs.length = min y_1.1 bs.length ∧ bs.length - (y.1 + (1 : Nat)) = bs.length - y_1.1 ∧ y.2 - min (y.1 + (1 : Nat)) bs.length = y_1.2 - min y_1.1 bs.length ∧ Bytes bs) (Out.need (y_1.2 - min (y_1.1 + (1 : Nat)) bs.length ≤ y.2 - min (y.1 + (1 : Nat)) bs.length) (Out.needd ((0 : Int) ≤ (2 : Int) ∧ (2 : Int) < (6 : Int)) (Out.ex (Nat × Nat) fun y_2 => Out.need (min (y_1.1 + (1 : Nat)) bs.length = min y_2.1 bs.length ∧ bs.length - (y_1.1 + (1 : Nat)) = bs.length - y_2.1 ∧ y_1.2 - min (y_1.1 + (1 : Nat)) bs.length = y_2.2 - min y_2.1 bs.length ∧ Bytes bs) (Out.need (y_2.2 - min (y_2.1 + (1 : Nat)) bs.length ≤ y_1.2 - min (y_1.1 + (1 : Nat)) bs.length) (Out.needd ((0 : Int) ≤ (3 : Int) ∧ (3 : Int) < (6 : Int)) (Out.ex (Nat × Nat) fun y_3 => Out.need (min (y_2.1 + (1 : Nat)) bs.length = min y_3.1 bs.length ∧ bs.length - (y_2.1 + (1 : Nat)) = bs.length - y_3.1 ∧ y_2.2 - min (y_2.1 + (1 : Nat)) bs.length = y_3.2 - min y_3.1 bs.length ∧ Bytes bs) (Out.need (y_3.2 - min (y_3.1 + (1 : Nat)) bs.length ≤ y_2.2 - min (y_2.1 + (1 : Nat)) bs.length) (Out.needd ((0 : Int) ≤ (4 : Int) ∧ (4 : Int) < (6 : Int)) (Out.ex (Nat × Nat) fun y_4 => Out.need (min (y_3.1 + (1 : Nat)) bs.length = min y_4.1 bs.length ∧ bs.length - (y_3.1 + (1 : Nat)) = bs.length - y_4.1 ∧ y_3.2 - min (y_3.1 + (1 : Nat)) bs.length = y_4.2 - min y_4.1 bs.length ∧ Bytes bs) (Out.need (y_4.2 - min (y_4.1 + (1 : Nat)) bs.length ≤ y_3.2 - min (y_3.1 + (1 : Nat)) bs.length) (Out.needd ((0 : Int) ≤ (5 : Int) ∧ (5 : Int) < (6 : Int)) (Out.ex (Nat × Nat) fun y_5 => Out.need (min (y_4.1 + (1 : Nat)) bs.length = min y_5.1 bs.length ∧ bs.length - (y_4.1 + (1 : Nat)) = bs.length - y_5.1 ∧ y_4.2 - min (y_4.1 + (1 : Nat)) bs.length = y_5.2 - min y_5.1 bs.length ∧ Bytes bs) (Out.need (y_5.2 - min (y_5.1 + (1 : Nat)) bs.length ≤ y_4.2 - min (y_4.1 + (1 : Nat)) bs.length) (Out.ex (Nat × Nat) fun y_6 => Out.need (min (y_5.1 + (1 : Nat)) bs.length = min y_6.1 bs.length ∧ bs.length - (y_5.1 + (1 : Nat)) = bs.length - y_6.1 ∧ y_5.2 - min (y_5.1 + (1 : Nat)) bs.length = y_6.2 - min y_6.1 bs.length ∧ Bytes bs) (Out.need (y_6.2 - min (y_6.1 + (1 : Nat)) bs.length ≤ y_5.2 - min (y_5.1 + (1 : Nat)) bs.length) (Out.need (LoopFor Tryz.prog (7 : Nat) (2 : Nat) (loopOf Tryz.f7 (2 : Nat)) LO) (Out.ex (DcP → Prop) fun y_7 => Out.need ((11 : Nat) ≤ (11 : Nat) ∧ SImp (11 : Nat) {env := [((33 : Nat), .lit .i64 (0 : Int)), ((32 : Nat), .int .i64 ((bAt bs y_6.1).tmod (9 : Int))), ((5 : Nat), .fn (16 : Nat) [] [.ptr (2 : Nat) (0 : Nat)]), ((4 : Nat), .nilS), ((3 : Nat), .nilS), ((2 : Nat), .ptr (3 : Nat) (0 : Nat)), ((1 : Nat), .ptr (2 : Nat) (0 : Nat))], heap := [((3 : Nat), .cells (24 : Nat) [.int .i64 (bAt bs y.1), .int .i64 (bAt bs y_1.1), .int .i64 (bAt bs y_2.1), .int .i64 (bAt bs y_3.1), .int .i64 (bAt bs y_4.1), .int .i64 (bAt bs y_5.1)]), ((2 : Nat), .cells (22 : Nat) [.sl false (1 : Nat) (min (y_6.1 + (1 : Nat)) bs.length) (1 : Nat) (bs.length - (y_6.1 + (1 : Nat))) (y_6.2 - min (y_6.1 + (1 : Nat)) bs.length)]), ((0 : Nat), Blk.pool p), ((1 : Nat), .ro Kd.byte bs)], nx := (11 : Nat), nt := (79 : Nat), tl := [(4 : Nat), (2 : Nat), (3 : Nat), (2 : Nat), (3 : Nat), (2 : Nat), (3 : Nat), (2 : Nat), (3 : Nat), (2 : Nat), (3 : Nat), (2 : Nat), (3 : Nat), (2 : Nat)] : St V } DcZ y_7) (Out.all DcP fun y => Out.asm (y_7 y) (Out.all (Pool × Rwp) fun y_8 => Out.asm (DcC y y_8) (Out.need (LoopFor Tryz.prog (7 : Nat) (8 : Nat) (loopOf Tryz.f7 (8 : Nat)) LP) (Out.ex (DpP → Prop) fun y_9 => Out.need ((11 : Nat) ≤ (11 : Nat) ∧ SImp (11 : Nat) {env := [((5 : Nat), .fn (16 : Nat) [] [.ptr (2 : Nat) (0 : Nat)]), ((4 : Nat), .nilS), ((3 : Nat), AV.rs (nP y.bs, y_8.fst, y_8.snd).snd.snd.fst (nP y.bs, y_8.fst, y_8.snd).snd.snd.snd.fst (nP y.bs, y_8.fst, y_8.snd).snd.snd.snd.snd), ((2 : Nat), .ptr (3 : Nat) (0 : Nat)), ((1 : Nat), .ptr (2 : Nat) (0 : Nat))], heap := [((3 : Nat), .cells (24 : Nat) [.int .i64 (bAt y.bs (0 : Nat)), .int .i64 (bAt y.bs (1 : Nat)), .int .i64 (bAt y.bs (2 : Nat)), .int .i64 (bAt y.bs (3 : Nat)), .int .i64 (bAt y.bs (4 : Nat)), .int .i64 (bAt y.bs (5 : Nat))]), ((2 : Nat), .cells (22 : Nat) [.sl false (1 : Nat) (min (posP y.bs (nP y.bs, y_8.fst, y_8.snd).fst) y.bs.length) (1 : Nat) (y.bs.length - posP y.bs (nP y.bs, y_8.fst, y_8.snd).fst) (y.2 - min (posP y.bs (nP y.bs, y_8.fst, y_8.snd).fst) y.bs.length)]), ((0 : Nat), Blk.pool (nP y.bs, y_8.fst, y_8.snd).snd.fst), ((1 : Nat), .ro Kd.byte y.bs)], nx := (11 : Nat), nt := (79 : Nat), tl := [(0 : Nat), (1 : Nat), (2 : Nat), (3 : Nat), (4 : Nat), (5 : Nat), (6 : Nat), (7 : Nat), (8 : Nat), (9 : Nat), (10 : Nat), (11 : Nat), (12 : Nat), (13 : Nat), (14 : Nat), (15 : Nat), (16 : Nat), (17 : Nat), (18 : Nat), (19 : Nat), (20 : Nat), (21 : Nat), (22 : Nat), (23 : Nat), (24 : Nat), (25 : Nat), (26 : Nat), (27 : Nat), (28 : Nat), (29 : Nat), (30 : Nat)] : St V } DpZ y_9) (Out.all DpP fun y => Out.asm (y_9 y) (Out.all Nat fun y_10 => Out.asm (DpC y y_10) (Out.fin (.tup [.agg [.int .i64 (bAt y.P.bs (0 : Nat)), .int .i64 (bAt y.P.bs (1 : Nat)), .int .i64 (bAt y.P.bs (2 : Nat)), .int .i64 (bAt y.P.bs (3 : Nat)), .int .i64 (bAt y.P.bs (4 : Nat)), .int .i64 (bAt y.P.bs (5 : Nat))], AV.rs y.w.fst y.w.snd.1 y.w.snd.2, .sl false (11 : Nat) (0 : Nat) (1 : Nat) (pkT y (y.P.bs.length - y.2, y_10).fst).length ((pkT y (y.P.bs.length - y.2, y_10).fst).length + y_10)]) [((11 : Nat), .arr (3 : Nat) Kd.int (pkT y (y.P.bs.length - y.2, y_10).fst) y_10), ((3 : Nat), .cells (24 : Nat) [.int .i64 (bAt y.P.bs (0 : Nat)), .int .i64 (bAt y.P.bs (1 : Nat)), .int .i64 (bAt y.P.bs (2 : Nat)), .int .i64 (bAt y.P.bs (3 : Nat)), .int .i64 (bAt y.P.bs (4 : Nat)), .int .i64 (bAt y.P.bs (5 : Nat))]), ((2 : Nat), .cells (22 : Nat) [.sl false (1 : Nat) (min (y.2 + (y.P.bs.length - y.2, y_10).fst) y.P.bs.length) (1 : Nat) (y.P.bs.length - (y.2 + (y.P.bs.length - y.2, y_10).fst)) (y.P.2 - min (y.2 + (y.P.bs.length - y.2, y_10).fst) y.P.bs.length)]), ((0 : Nat), Blk.pool y.p), ((1 : Nat), .ro Kd.byte y.P.bs)] (13 : Nat))))))))))))))))))))))))))))) := by kernel_rfl

theorem bI (Q : DiP) (j : Nat) (p : Pool) (w : Rwp) : runCode cfgD0 60 7 (loopOf Tryz.f7 4) (DcI Q (j, p, w)) (stopT (trimSt [38, 37, 8, 33, 32, 5, 4, 3, 2, 1] [0, 1, 2, 3])) = Out.ite (decide ((↑j : Int) < (↑(lenAt Q.P.bs (posP Q.P.bs Q.2)) : Int))) (Out.ex (Nat × Nat) fun y => Out.need (min (posP Q.P.bs Q.2 + (1 : Nat) + (4 : Nat) * j) Q.P.bs.length = min y.1 Q.P.bs.length ∧ Q.P.bs.length - (posP Q.P.bs Q.2 + (1 : Nat) + (4 : Nat) * j) = Q.P.bs.length - y.1 ∧ Q.P.2 - min (posP Q.P.bs Q.2 + (1 : Nat) + (4 : Nat) * j) Q.P.bs.length = y.2 - min y.1 Q.P.bs.length ∧ Bytes Q.P.bs) (Out.need (y.2 - min (y.1 + (1 : Nat)) Q.P.bs.length ≤ Q.P.2 - min (posP Q.P.bs Q.2 + (1 : Nat) + (4 : Nat) * j) Q.P.bs.length) (Out.needd ((0 : Int) ≤ (0 : Int) ∧ (0 : Int) < (3 : Int)) (Out.ex (Nat × Nat) fun y_1 => Out.need (min (y.1 + (1 : Nat)) Q.P.bs.length = min y_1.1 Q.P.bs.length ∧ Q.P.bs.length - (y.1 + (1 : Nat)) = Q.P.bs.length - y_1.1 ∧ y.2 - min (y.1 + (1 : Nat)) Q.P.bs.length = y_1.2 - min y_1.1 Q.P.bs.length ∧ Bytes Q.P.bs) (Out.need (y_1.2 - min (y_1.1 + (1 : Nat)) Q.P.bs.length ≤ y.2 - min (y.1 + (1 : Nat)) Q.P.bs.length) (Out.needd ((0 : Int) ≤ (1 : Int) ∧ (1 : Int) < (3 : Int)) (Out.ex (Nat × Nat) fun y_2 => Out.need (min (y_1.1 + (1 : Nat)) Q.P.bs.length = min y_2.1 Q.P.bs.length ∧ Q.P.bs.length - (y_1.1 + (1 : Nat)) = Q.P.bs.length - y_2.1 ∧ y_1.2 - min (y_1.1 + (1 : Nat)) Q.P.bs.length = y_2.2 - min y_2.1 Q.P.bs.length ∧ Bytes Q.P.bs) (Out.need (y_2.2 - min (y_2.1 + (1 : Nat)) Q.P.bs.length ≤ y_1.2 - min (y_1.1 + (1 : Nat)) Q.P.bs.length) (Out.needd ((0 : Int) ≤ (2 : Int) ∧ (2 : Int) < (3 : Int)) (Out.ex (Nat × Nat) fun y_3 => Out.need (min (y_2.1 + (1 : Nat)) Q.P.bs.length = min y_3.1 Q.P.bs.length ∧ Q.P.bs.length - (y_2.1 + (1 : Nat)) = Q.P.bs.length - y_3.1 ∧ y_2.2 - min (y_2.1 + (1 : Nat)) Q.P.bs.length = y_3.2 - min y_3.1 Q.P.bs.length ∧ Bytes Q.P.bs) (Out.need (y_3.2 - min (y_3.1 + (1 : Nat)) Q.P.bs.length ≤ y_2.2 - min (y_2.1 + (1 : Nat)) Q.P.bs.length) (Out.all Nat fun y_4 => Out.asm ((j, p, w).snd.fst y_4 = none) (Out.ex (List PD) fun y_5 => Out.need (y_5.length = (4 : Nat) ∧ ((1 : Nat) = (0 : Nat) ∨ ((j, p, w).snd.fst.put y_4 (49 : Nat) [PD.int .i64 ((bAt Q.P.bs y.1).tmod (5 : Int)), PD.int .i64 (bAt Q.P.bs y_1.1), PD.int .i64 (bAt Q.P.bs y_2.1), PD.int .i64 (bAt Q.P.bs y_3.1)]).at (some (y_4, (0 : Nat))) y_5)) (Out.ex (List PD) fun y_6 => Out.need (y_6.length = (j, p, w).snd.snd.snd.fst * (4 : Nat) ∧ ((j, p, w).snd.snd.snd.fst = (0 : Nat) ∨ ((j, p, w).snd.fst.put y_4 (49 : Nat) [PD.int .i64 ((bAt Q.P.bs y.1).tmod (5 : Int)), PD.int .i64 (bAt Q.P.bs y_1.1), PD.int .i64 (bAt Q.P.bs y_2.1), PD.int .i64 (bAt Q.P.bs y_3.1)]).at (j, p, w).snd.snd.fst y_6)) (Out.need ((j, p, w).snd.snd.snd.fst ≤ (j, p, w).snd.snd.snd.snd ∧ (j, p, w).snd.snd.snd.fst + (1 : Nat) ≤ (4294967296 : Nat) ∧ ((j, p, w).snd.snd.snd.fst + (1 : Nat)) * (32 : Nat) ≤ (140737488355328 : Nat) ∧ ((j, p, w).snd.snd.snd.fst + (1 : Nat) ≤ (j, p, w).snd.snd.snd.snd → (1 : Nat) = (0 : Nat) ∨ ((j, p, w).snd.fst.put y_4 (49 : Nat) [PD.int .i64 ((bAt Q.P.bs y.1).tmod (5 : Int)), PD.int .i64 (bAt Q.P.bs y_1.1), PD.int .i64 (bAt Q.P.bs y_2.1), PD.int .i64 (bAt Q.P.bs y_3.1)]).has (shiftA (j, p, w).snd.snd.fst ((j, p, w).snd.snd.snd.fst * (4 : Nat))) (4 : Nat))) (Out.all Pool fun y_7 => Out.all (Option (Nat × Nat)) fun y_8 => Out.all Nat fun y_9 => Out.asm (App ((j, p, w).snd.fst.put y_4 (49 : Nat) [PD.int .i64 ((bAt Q.P.bs y.1).tmod (5 : Int)), PD.int .i64 (bAt Q.P.bs y_1.1), PD.int .i64 (bAt Q.P.bs y_2.1), PD.int .i64 (bAt Q.P.bs y_3.1)]) (49 : Nat) (4 : Nat) [PD.int .i64 (0 : Int), PD.int .i64 (0 : Int), PD.int .i64 (0 : Int), PD.int .i64 (0 : Int)] (j, p, w).snd.snd.fst (j, p, w).snd.snd.snd.fst (j, p, w).snd.snd.snd.snd (1 : Nat) y_6 y_5 y_7 y_8 y_9) (Out.stop EX.nx {env := [((38 : Nat), .int .i64 (IntKind.i64.wrap ((↑j : Int) + (1 : Int)))), ((37 : Nat), .int .i64 (↑(lenAt Q.P.bs (posP Q.P.bs Q.2)) : Int)), ((8 : Nat), AV.rs y_8 ((j, p, w).snd.snd.snd.fst + (1 : Nat)) y_9), ((33 : Nat), .int .i64 (↑Q.2 : Int)), ((32 : Nat), .int .i64 (↑(nP Q.P.bs) : Int)), ((5 : Nat), .fn (16 : Nat) [] [.ptr (2 : Nat) (0 : Nat)]), ((4 : Nat), .nilS), ((3 : Nat), AV.rs Q.wO.fst Q.wO.snd.1 Q.wO.snd.2), ((2 : Nat), .ptr (3 : Nat) (0 : Nat)), ((1 : Nat), .ptr (2 : Nat) (0 : Nat))], heap := [((3 : Nat), .cells (24 : Nat) [.int .i64 (bAt Q.P.bs (0 : Nat)), .int .i64 (bAt Q.P.bs (1 : Nat)), .int .i64 (bAt Q.P.bs (2 : Nat)), .int .i64 (bAt Q.P.bs (3 : Nat)), .int .i64 (bAt Q.P.bs (4 : Nat)), .int .i64 (bAt Q.P.bs (5 : Nat))]), ((2 : Nat), .cells (22 : Nat) [.sl false (1 : Nat) (min (y_3.1 + (1 : Nat)) Q.P.bs.length) (1 : Nat) (Q.P.bs.length - (y_3.1 + (1 : Nat))) (y_3.2 - min (y_3.1 + (1 : Nat)) Q.P.bs.length)]), ((0 : Nat), Blk.pool y_7), ((1 : Nat), .ro Kd.byte Q.P.bs)], nx := (19 : Nat), nt := (79 : Nat), tl := [(13 : Nat), (11 : Nat), (0 : Nat), (11 : Nat), (2 : Nat), (11 : Nat), (2 : Nat), (11 : Nat), (2 : Nat), (11 : Nat), (2 : Nat), (0 : Nat), (1 : Nat), (2 : Nat), (3 : Nat), (4 : Nat), (5 : Nat), (6 : Nat), (7 : Nat), (8 : Nat), (9 : Nat), (10 : Nat), (11 : Nat), (12 : Nat), (13 : Nat), (14 : Nat), (15 : Nat), (16 : Nat), (17 : Nat), (18 : Nat), (19 : Nat), (20 : Nat), (21 : Nat), (22 : Nat), (23 : Nat), (24 : Nat), (25 : Nat), (26 : Nat), (27 : Nat), (28 : Nat), (29 : Nat), (30 : Nat)] : St V }))))))))))))))))) (Out.stop (EX.ex (4 : Nat)) {env := [((38 : Nat), .int .i64 (↑j : Int)), ((37 : Nat), .int .i64 (↑(lenAt Q.P.bs (posP Q.P.bs Q.2)) : Int)), ((8 : Nat), AV.rs (j, p, w).snd.snd.fst (j, p, w).snd.snd.snd.fst (j, p, w).snd.snd.snd.snd), ((33 : Nat), .int .i64 (↑Q.2 : Int)), ((32 : Nat), .int .i64 (↑(nP Q.P.bs) : Int)), ((5 : Nat), .fn (16 : Nat) [] [.ptr (2 : Nat) (0 : Nat)]), ((4 : Nat), .nilS), ((3 : Nat), AV.rs Q.wO.fst Q.wO.snd.1 Q.wO.snd.2), ((2 : Nat), .ptr (3 : Nat) (0 : Nat)), ((1 : Nat), .ptr (2 : Nat) (0 : Nat))], heap := [((3 : Nat), .cells (24 : Nat) [.int .i64 (bAt Q.P.bs (0 : Nat)), .int .i64 (bAt Q.P.bs (1 : Nat)), .int .i64 (bAt Q.P.bs (2 : Nat)), .int .i64 (bAt Q.P.bs (3 : Nat)), .int .i64 (bAt Q.P.bs (4 : Nat)), .int .i64 (bAt Q.P.bs (5 : Nat))]), ((2 : Nat), .cells (22 : Nat) [.sl false (1 : Nat) (min (posP Q.P.bs Q.2 + (1 : Nat) + (4 : Nat) * j) Q.P.bs.length) (1 : Nat) (Q.P.bs.length - (posP Q.P.bs Q.2 + (1 : Nat) + (4 : Nat) * j)) (Q.P.2 - min (posP Q.P.bs Q.2 + (1 : Nat) + (4 : Nat) * j) Q.P.bs.length)]), ((0 : Nat), Blk.pool (j, p, w).snd.fst), ((1 : Nat), .ro Kd.byte Q.P.bs)], nx := (11 : Nat), nt := (79 : Nat), tl := [(0 : Nat), (1 : Nat), (2 : Nat), (3 : Nat), (4 : Nat), (5 : Nat), (6 : Nat), (7 : Nat), (8 : Nat), (9 : Nat), (10 : Nat), (11 : Nat), (12 : Nat), (13 : Nat), (14 : Nat), (15 : Nat), (16 : Nat), (17 : Nat), (18 : Nat), (19 : Nat), (20 : Nat), (21 : Nat), (22 : Nat), (23 : Nat), (24 : Nat), (25 : Nat), (26 : Nat), (27 : Nat), (28 : Nat), (29 : Nat), (30 : Nat)] : St V }) := by kernel_rfl

theorem bO (P : DcP) (i : Nat) (p : Pool) (w : Rwp) : runCode cfgD1 60 7 (loopOf Tryz.f7 2) (DcO P (i, p, w)) (stopT (trimSt TDo [0, 1, 2, 3])) = Out.ite (decide ((↑i : Int) < (↑(nP P.bs) : Int))) (Out.ex (Nat × Nat) fun y => Out.need (min (posP P.bs i) P.bs.length = min y.1 P.bs.length ∧ P.bs.length - posP P.bs i = P.bs.length - y.1 ∧ P.2 - min (posP P.bs i) P.bs.length = y.2 - min y.1 P.bs.length ∧ Bytes P.bs) (Out.need (y.2 - min (y.1 + (1 : Nat)) P.bs.length ≤ P.2 - min (posP P.bs i) P.bs.length) (Out.need (LoopFor Tryz.prog (7 : Nat) (4 : Nat) (loopOf Tryz.f7 (4 : Nat)) LI) (Out.ex (DiP → Prop) fun y_1 => Out.need ((11 : Nat) ≤ (11 : Nat) ∧ SImp (11 : Nat) {env := [((38 : Nat), .lit .i64 (0 : Int)), ((37 : Nat), .int .i64 ((bAt P.bs y.1).tmod (33 : Int))), ((8 : Nat), .nilS), ((33 : Nat), .int .i64 (↑i : Int)), ((32 : Nat), .int .i64 (↑(nP P.bs) : Int)), ((5 : Nat), .fn (16 : Nat) [] [.ptr (2 : Nat) (0 : Nat)]), ((4 : Nat), .nilS), ((3 : Nat), AV.rs (i, p, w).snd.snd.fst (i, p, w).snd.snd.snd.fst (i, p, w).snd.snd.snd.snd), ((2 : Nat), .ptr (3 : Nat) (0 : Nat)), ((1 : Nat), .ptr (2 : Nat) (0 : Nat))], heap := [((3 : Nat), .cells (24 : Nat) [.int .i64 (bAt P.bs (0 : Nat)), .int .i64 (bAt P.bs (1 : Nat)), .int .i64 (bAt P.bs (2 : Nat)), .int .i64 (bAt P.bs (3 : Nat)), .int .i64 (bAt P.bs (4 : Nat)), .int .i64 (bAt P.bs (5 : Nat))]), ((2 : Nat), .cells (22 : Nat) [.sl false (1 : Nat) (min (y.1 + (1 : Nat)) P.bs.length) (1 : Nat) (P.bs.length - (y.1 + (1 : Nat))) (y.2 - min (y.1 + (1 : Nat)) P.bs.length)]), ((0 : Nat), Blk.pool (i, p, w).snd.fst), ((1 : Nat), .ro Kd.byte P.bs)], nx := (11 : Nat), nt := (79 : Nat), tl := [(2 : Nat), (0 : Nat), (1 : Nat), (2 : Nat), (3 : Nat), (4 : Nat), (5 : Nat), (6 : Nat), (7 : Nat), (8 : Nat), (9 : Nat), (10 : Nat), (11 : Nat), (12 : Nat), (13 : Nat), (14 : Nat), (15 : Nat), (16 : Nat), (17 : Nat), (18 : Nat), (19 : Nat), (20 : Nat), (21 : Nat), (22 : Nat), (23 : Nat), (24 : Nat), (25 : Nat), (26 : Nat), (27 : Nat), (28 : Nat), (29 : Nat), (30 : Nat)] : St V } DiZ y_1) (Out.all DiP fun y => Out.asm (y_1 y) (Out.all (Pool × Rwp) fun y_2 => Out.asm (DiC y y_2) (Out.all Nat fun y_3 => Out.asm ((lenAt y.P.bs (posP y.P.bs y.2), y_2.fst, y_2.snd).snd.fst y_3 = none) (Out.ex (List PD) fun y_4 => Out.need (y_4.length = (1 : Nat) ∧ ((1 : Nat) = (0 : Nat) ∨ ((lenAt y.P.bs (posP y.P.bs y.2), y_2.fst, y_2.snd).snd.fst.put y_3 (47 : Nat) [PD.sl (lenAt y.P.bs (posP y.P.bs y.2), y_2.fst, y_2.snd).snd.snd.fst (lenAt y.P.bs (posP y.P.bs y.2), y_2.fst, y_2.snd).snd.snd.snd.fst (lenAt y.P.bs (posP y.P.bs y.2), y_2.fst, y_2.snd).snd.snd.snd.snd]).at (some (y_3, (0 : Nat))) y_4)) (Out.ex (List PD) fun y_5 => Out.need (y_5.length = y.wO.snd.1 * (1 : Nat) ∧ (y.wO.snd.1 = (0 : Nat) ∨ ((lenAt y.P.bs (posP y.P.bs y.2), y_2.fst, y_2.snd).snd.fst.put y_3 (47 : Nat) [PD.sl (lenAt y.P.bs (posP y.P.bs y.2), y_2.fst, y_2.snd).snd.snd.fst (lenAt y.P.bs (posP y.P.bs y.2), y_2.fst, y_2.snd).snd.snd.snd.fst (lenAt y.P.bs (posP y.P.bs y.2), y_2.fst, y_2.snd).snd.snd.snd.snd]).at y.wO.fst y_5)) (Out.need (y.wO.snd.1 ≤ y.wO.snd.2 ∧ y.wO.snd.1 + (1 : Nat) ≤ (4294967296 : Nat) ∧ (y.wO.snd.1 + (1 : Nat)) * (24 : Nat) ≤ (140737488355328 : Nat)) (Out.ite (decide (y.wO.snd.1 + (1 : Nat) ≤ y.wO.snd.2)) (Out.need ((1 : Nat) = (0 : Nat) ∨ ((lenAt y.P.bs (posP y.P.bs y.2), y_2.fst, y_2.snd).snd.fst.put y_3 (47 : Nat) [PD.sl (lenAt y.P.bs (posP y.P.bs y.2), y_2.fst, y_2.snd).snd.snd.fst (lenAt y.P.bs (posP y.P.bs y.2), y_2.fst, y_2.snd).snd.snd.snd.fst (lenAt y.P.bs (posP y.P.bs y.2), y_2.fst, y_2.snd).snd.snd.snd.snd]).has (shiftA y.wO.fst (y.wO.snd.1 * (1 : Nat))) (1 : Nat)) (Out.stop EX.nx {env := [((33 : Nat), .int .i64 (IntKind.i64.wrap ((↑y.2 : Int) + (1 : Int)))), ((32 : Nat), .int .i64 (↑(nP y.P.bs) : Int)), ((5 : Nat), .fn (16 : Nat) [] [.ptr (2 : Nat) (0 : Nat)]), ((4 : Nat), .nilS), ((3 : Nat), AV.rs y.wO.fst (y.wO.snd.1 + (1 : Nat)) y.wO.snd.2), ((2 : Nat), .ptr (3 : Nat) (0 : Nat)), ((1 : Nat), .ptr (2 : Nat) (0 : Nat))], heap := [((3 : Nat), .cells (24 : Nat) [.int .i64 (bAt y.P.bs (0 : Nat)), .int .i64 (bAt y.P.bs (1 : Nat)), .int .i64 (bAt y.P.bs (2 : Nat)), .int .i64 (bAt y.P.bs (3 : Nat)), .int .i64 (bAt y.P.bs (4 : Nat)), .int .i64 (bAt y.P.bs (5 : Nat))]), ((2 : Nat), .cells (22 : Nat) [.sl false (1 : Nat) (min (posP y.P.bs y.2 + (1 : Nat) + (4 : Nat) * (lenAt y.P.bs (posP y.P.bs y.2), y_2.fst, y_2.snd).fst) y.P.bs.length) (1 : Nat) (y.P.bs.length - (posP y.P.bs y.2 + (1 : Nat) + (4 : Nat) * (lenAt y.P.bs (posP y.P.bs y.2), y_2.fst, y_2.snd).fst)) (y.P.2 - min (posP y.P.bs y.2 + (1 : Nat) + (4 : Nat) * (lenAt y.P.bs (posP y.P.bs y.2), y_2.fst, y_2.snd).fst) y.P.bs.length)]), ((0 : Nat), Blk.pool (((lenAt y.P.bs (posP y.P.bs y.2), y_2.fst, y_2.snd).snd.fst.put y_3 (47 : Nat) [PD.sl (lenAt y.P.bs (posP y.P.bs y.2), y_2.fst, y_2.snd).snd.snd.fst (lenAt y.P.bs (posP y.P.bs y.2), y_2.fst, y_2.snd).snd.snd.snd.fst (lenAt y.P.bs (posP y.P.bs y.2), y_2.fst, y_2.snd).snd.snd.snd.snd]).set (shiftA y.wO.fst (y.wO.snd.1 * (1 : Nat))) y_4)), ((1 : Nat), .ro Kd.byte y.P.bs)], nx := (13 : Nat), nt := (79 : Nat), tl := [(0 : Nat), (0 : Nat), (1 : Nat), (2 : Nat), (3 : Nat), (4 : Nat), (5 : Nat), (6 : Nat), (7 : Nat), (8 : Nat), (9 : Nat), (10 : Nat), (11 : Nat), (12 : Nat), (13 : Nat), (14 : Nat), (15 : Nat), (16 : Nat), (17 : Nat), (18 : Nat), (19 : Nat), (20 : Nat), (21 : Nat), (22 : Nat), (23 : Nat), (24 : Nat), (25 : Nat), (26 : Nat), (27 : Nat), (28 : Nat), (29 : Nat), (30 : Nat)] : St V })) (Out.all Nat fun y_6 => Out.all Nat fun y_7 => Out.asm ((lenAt y.P.bs (posP y.P.bs y.2), y_2.fst, y_2.snd).snd.fst.put y_3 (47 : Nat) [PD.sl (lenAt y.P.bs (posP y.P.bs y.2), y_2.fst, y_2.snd).snd.snd.fst (lenAt y.P.bs (posP y.P.bs y.2), y_2.fst, y_2.snd).snd.snd.snd.fst (lenAt y.P.bs (posP y.P.bs y.2), y_2.fst, y_2.snd).snd.snd.snd.snd] y_6 = none) (Out.stop EX.nx {env := [((33 : Nat), .int .i64 (IntKind.i64.wrap ((↑y.2 : Int) + (1 : Int)))), ((32 : Nat), .int .i64 (↑(nP y.P.bs) : Int)), ((5 : Nat), .fn (16 : Nat) [] [.ptr (2 : Nat) (0 : Nat)]), ((4 : Nat), .nilS), ((3 : Nat), AV.rs (some (y_6, (0 : Nat))) (y.wO.snd.1 + (1 : Nat)) (y.wO.snd.1 + (1 : Nat) + y_7)), ((2 : Nat), .ptr (3 : Nat) (0 : Nat)), ((1 : Nat), .ptr (2 : Nat) (0 : Nat))], heap := [((3 : Nat), .cells (24 : Nat) [.int .i64 (bAt y.P.bs (0 : Nat)), .int .i64 (bAt y.P.bs (1 : Nat)), .int .i64 (bAt y.P.bs (2 : Nat)), .int .i64 (bAt y.P.bs (3 : Nat)), .int .i64 (bAt y.P.bs (4 : Nat)), .int .i64 (bAt y.P.bs (5 : Nat))]), ((2 : Nat), .cells (22 : Nat) [.sl false (1 : Nat) (min (posP y.P.bs y.2 + (1 : Nat) + (4 : Nat) * (lenAt y.P.bs (posP y.P.bs y.2), y_2.fst, y_2.snd).fst) y.P.bs.length) (1 : Nat) (y.P.bs.length - (posP y.P.bs y.2 + (1 : Nat) + (4 : Nat) * (lenAt y.P.bs (posP y.P.bs y.2), y_2.fst, y_2.snd).fst)) (y.P.2 - min (posP y.P.bs y.2 + (1 : Nat) + (4 : Nat) * (lenAt y.P.bs (posP y.P.bs y.2), y_2.fst, y_2.snd).fst) y.P.bs.length)]), ((0 : Nat), Blk.pool (((lenAt y.P.bs (posP y.P.bs y.2), y_2.fst, y_2.snd).snd.fst.put y_3 (47 : Nat) [PD.sl (lenAt y.P.bs (posP y.P.bs y.2), y_2.fst, y_2.snd).snd.snd.fst (lenAt y.P.bs (posP y.P.bs y.2), y_2.fst, y_2.snd).snd.snd.snd.fst (lenAt y.P.bs (posP y.P.bs y.2), y_2.fst, y_2.snd).snd.snd.snd.snd]).put y_6 (47 : Nat) (y_5 ++ y_4 ++ (List.replicate y_7 [PD.sl none (0 : Nat) (0 : Nat)]).flatten))), ((1 : Nat), .ro Kd.byte y.P.bs)], nx := (13 : Nat), nt := (79 : Nat), tl := [(0 : Nat), (1 : Nat), (2 : Nat), (3 : Nat), (4 : Nat), (5 : Nat), (6 : Nat), (7 : Nat), (8 : Nat), (9 : Nat), (10 : Nat), (11 : Nat), (12 : Nat), (13 : Nat), (14 : Nat), (15 : Nat), (16 : Nat), (17 : Nat), (18 : Nat), (19 : Nat), (20 : Nat), (21 : Nat), (22 : Nat), (23 : Nat), (24 : Nat), (25 : Nat), (26 : Nat), (27 : Nat), (28 : Nat), (29 : Nat), (30 : Nat)] : St V }))))))))))))) (Out.stop (EX.ex (2 : Nat)) {env := [((33 : Nat), .int .i64 (↑i : Int)), ((32 : Nat), .int .i64 (↑(nP P.bs) : Int)), ((5 : Nat), .fn (16 : Nat) [] [.ptr (2 : Nat) (0 : Nat)]), ((4 : Nat), .nilS), ((3 : Nat), AV.rs (i, p, w).snd.snd.fst (i, p, w).snd.snd.snd.fst (i, p, w).snd.snd.snd.snd), ((2 : Nat), .ptr (3 : Nat) (0 : Nat)), ((1 : Nat), .ptr (2 : Nat) (0 : Nat))], heap := [((3 : Nat), .cells (24 : Nat) [.int .i64 (bAt P.bs (0 : Nat)), .int .i64 (bAt P.bs (1 : Nat)), .int .i64 (bAt P.bs (2 : Nat)), .int .i64 (bAt P.bs (3 : Nat)), .int .i64 (bAt P.bs (4 : Nat)), .int .i64 (bAt P.bs (5 : Nat))]), ((2 : Nat), .cells (22 : Nat) [.sl false (1 : Nat) (min (posP P.bs i) P.bs.length) (1 : Nat) (P.bs.length - posP P.bs i) (P.2 - min (posP P.bs i) P.bs.length)]), ((0 : Nat), Blk.pool (i, p, w).snd.fst), ((1 : Nat), .ro Kd.byte P.bs)], nx := (11 : Nat), nt := (79 : Nat), tl := [(0 : Nat), (1 : Nat), (2 : Nat), (3 : Nat), (4 : Nat), (5 : Nat), (6 : Nat), (7 : Nat), (8 : Nat), (9 : Nat), (10 : Nat), (11 : Nat), (12 : Nat), (13 : Nat), (14 : Nat), (15 : Nat), (16 : Nat), (17 : Nat), (18 : Nat), (19 : Nat), (20 : Nat), (21 : Nat), (22 : Nat), (23 : Nat), (24 : Nat), (25 : Nat), (26 : Nat), (27 : Nat), (28 : Nat), (29 : Nat), (30 : Nat)] : St V }) := by kernel_rfl

end Sx
end Go.Proofs.YtnegocgblmdihaaGreatDoor

/-
  Bytes read: the program's Decode, by its contract.
-/
namespace Go.Proofs.YtnegocgblmdihaaGreatDoor
namespace Sx
open Go
set_option linter.unusedSimpArgs false
set_option linter.unusedVariables false

theorem hooksD_ok : ∀ g H, hooksD g = some H → HookOk Tryz.prog g H := by
  intro g H h
  unfold hooksD at h
  split at h
  · cases h; exact hNext
  · cases h; exact hNext2
  · cases h
theorem cfgD0_ok : cfgD0.ok := ⟨tabP_met, kindsP_met, mixed_met, fun g fn h => (by cases h), hooksD_ok⟩
theorem cfgD1_ok : cfgD1.ok := ⟨tabP_met, kindsP_met, mixed_met, fun g fn h => (by cases h), hooksD_ok⟩
theorem cfgD2_ok : cfgD2.ok := ⟨tabP_met, kindsP_met, mixed_met, fun g fn h => (by cases h), hooksD_ok⟩
theorem sub_nilRs : AV.nilS.sub (rsA w0) := fun _ _ h => h
theorem put_self (p : Pool) (n T : Nat) (ds : List PD) : p.put n T ds n = some (T, ds) := by unfold Pool.put; rw [if_pos rfl]
theorem put_le {p : Pool} {n T : Nat} {ds : List PD} (h : p n = none) : p.Le (p.put n T ds) := fun b x e => by
  unfold Pool.put; rw [if_neg (fun hh => by subst hh; rw [h] at e; cases e)]; exact e
theorem put_at (p : Pool) (n T : Nat) (ds : List PD) : (p.put n T ds).at (some (n, 0)) ds := ⟨n, 0, T, ds, rfl, put_self p n T ds, by simp, by simp⟩
theorem tmod_byte {x : Int} (h : 0 ≤ x) (m : Int) : x.tmod m = x % m := Int.tmod_eq_emod_of_nonneg h

/-! ## what is put behind a row of operations, and behind a row of rows -/
theorem ops_step {pO p : Pool} {o : Option (Nat × Nat)} {len cap n : Nat} {l : List Opr} {x : Opr} {p' : Pool} {o' : Option (Nat × Nat)} {cap' : Nat} {zs : List PD}
    (hrow : RowO p (o, len, cap) l) (hle : pO.Le p) (hfr : ∀ n, own (o, len, cap) = some n → pO n = none) (hn : p n = none)
    (h : App (p.put n 49 (flatO x)) 49 4 zs o len cap 1 (l.flatMap flatO) ([x].flatMap flatO) p' o' cap') (hz : zs.length = 4) :
    RowO p' (o', len + 1, cap') (l ++ [x]) ∧ pO.Le p' ∧ ∀ n, own (o', len + 1, cap') = some n → pO n = none := by
  have hrow1 : RowO (p.put n 49 (flatO x)) (o, len, cap) l := hrow.same fun m cs _ e => put_le hn m _ e
  obtain ⟨h1, h2, h3⟩ := h.rowG flatO_len hz hrow1 rfl
  refine ⟨h1, fun b q e => ?_, fun m hm => ?_⟩
  · have e1 := put_le (T := 49) (ds := flatO x) hn b q (hle b q e)
    rw [h2 b (fun hh => by rw [hfr b hh] at e; cases e) (by rw [e1]; simp)]; exact e1
  · rcases h3 m hm with k | k
    · exact hfr m k
    · cases e : pO m with
      | none => rfl
      | some q => have := put_le (T := 49) (ds := flatO x) hn m q (hle m q e); rw [k] at this; cases this
theorem rows_step {p0 p p2 : Pool} {o : Option (Nat × Nat)} {len cap n : Nat} {hs : List Rwp} {rows : List (List Opr)} {row : List Opr} {w2 : Rwp} {p' : Pool} {o' : Option (Nat × Nat)} {cap' : Nat} {zs : List PD}
    (hl : RowsLie p (o, len, cap) hs rows) (hle : p0.Le p) (hfr : ∀ n, own (o, len, cap) = some n → p0 n = none) (h2 : p.Le p2) (hrow : RowO p2 w2 row) (hn : p2 n = none)
    (h : App (p2.put n 47 ([w2].flatMap rwd)) 47 1 zs o len cap 1 (hs.flatMap rwd) ([w2].flatMap rwd) p' o' cap') (hz : zs.length = 1) :
    RowsLie p' (o', len + 1, cap') (hs ++ [w2]) (rows ++ [row]) ∧ p0.Le p' ∧ ∀ n, own (o', len + 1, cap') = some n → p0 n = none := by
  have l3 : p2.Le (p2.put n 47 ([w2].flatMap rwd)) := put_le hn
  have hhead : RowH (p2.put n 47 ([w2].flatMap rwd)) (o, len, cap) hs := hl.head.same fun m cs _ e => l3 m _ (h2 m _ e)
  obtain ⟨k1, k2, k3⟩ := h.rowG rwd_len hz hhead rfl
  have keep : ∀ {x : Rwp} {r : List Opr}, RowO (p2.put n 47 ([w2].flatMap rwd)) x r → RowO p' x r := fun {x r} hx => hx.same fun m cs _ e => by
    rw [k2 m (fun hh => by obtain ⟨cs', e'⟩ := hhead.own_at hh; rw [e] at e'; cases e') (by rw [e]; simp)]; exact e
  refine ⟨⟨k1, by simp [hl.len], fun i x r h4 h5 => ?_⟩, fun b q e => ?_, fun m hm => ?_⟩
  · rcases Nat.lt_or_ge i hs.length with hi | hi
    · rw [List.getElem?_append_left hi] at h4
      rw [List.getElem?_append_left (by rw [← hl.len]; exact hi)] at h5
      exact keep ((hl.row i x r h4 h5).same fun m cs _ e => l3 m _ (h2 m _ e))
    · rw [List.getElem?_append_right hi] at h4
      rw [List.getElem?_append_right (by rw [← hl.len]; exact hi), ← hl.len] at h5
      have h0 : i - hs.length = 0 := by have := (List.getElem?_eq_some_iff.1 h4).1; simp at this; omega
      rw [h0] at h4 h5
      cases h4; cases h5
      exact keep (hrow.same fun m cs _ e => l3 m _ e)
  · have e1 := l3 b q (h2 b q (hle b q e))
    rw [k2 b (fun hh => by rw [hfr b hh] at e; cases e) (by rw [e1]; simp)]; exact e1
  · rcases k3 m hm with k | k
    · exact hfr m k
    · cases e : p0 m with
      | none => rfl
      | some q => have := l3 m q (h2 m q (hle m q e)); rw [k] at this; cases this

/-! ## the loops -/
abbrev mI (Q : DiP) : Nat := lenAt Q.P.bs (posP Q.P.bs Q.i)
theorem mI_le (Q : DiP) : mI Q ≤ 32 := by show (bAt _ _ % 33).toNat ≤ 32; omega
theorem li_ok : LoopOk Tryz.prog 4 (loopOf Tryz.f7 4) LI := by
  refine trimLoop_ok (trim_ok _ _) (loopTH_ok (C := cfgD0) cfgD0_ok (f := 7) (n := 60) (trim_ok TDi [0, 1, 2, 3]) 11 DcI
    (fun Q x => x.1 ≤ mI Q ∧ RowO x.2.1 x.2.2 (opsAt Q.P.bs (posP Q.P.bs Q.i + 1) x.1) ∧ Q.pO.Le x.2.1 ∧ ∀ n, own x.2.2 = some n → Q.pO n = none) (fun Q => (0, Q.pO, w0)) (fun Q x => mI Q - x.1)
    DiC DiE (fun Q => ⟨Nat.zero_le _, RowG.nil _, Pool.Le.refl _, fun n h => by cases h⟩) ?_)
  rintro Q ⟨j, p, o, len, cap⟩ ⟨hj, hrow, hle, hfr⟩
  rw [bI]
  have hm := mI_le Q
  have hb := Q.P.hb
  have hj : j ≤ mI Q := hj
  have hlen : len = j := by have := hrow.len; rw [opsAt_length] at this; exact this
  subst hlen
  have hcap : len ≤ cap := by have := hrow.le; rw [opsAt_length] at this; exact this
  by_cases hlt : len < mI Q
  · have hw : IntKind.wrap .i64 ((len : Int) + 1) = ((len + 1 : Nat) : Int) := wrap_nat (by omega)
    refine ⟨fun _ => ?_, fun h => absurd hlt (by have := of_decide_eq_false h; show ¬ len < lenAt Q.P.bs (posP Q.P.bs Q.i); omega)⟩
    have e5 := tmod_byte (bAt_in hb (posP Q.P.bs Q.i + 1 + 4 * len)).1 5
    refine ⟨(posP Q.P.bs Q.i + 1 + 4 * len, Q.P.c), ⟨rfl, rfl, rfl, hb⟩, by omega, by decide, (posP Q.P.bs Q.i + 1 + 4 * len + 1, Q.P.c), ⟨rfl, rfl, rfl, hb⟩, by omega, by decide, (posP Q.P.bs Q.i + 1 + 4 * len + 2, Q.P.c), ⟨rfl, rfl, rfl, hb⟩, by omega, by decide,
      (posP Q.P.bs Q.i + 1 + 4 * len + 3, Q.P.c), ⟨rfl, rfl, rfl, hb⟩, by omega, fun n hn => ?_⟩
    simp only [e5]
    have hn : p n = none := hn
    have hrow1 : RowO (p.put n 49 (flatO (opAt Q.P.bs (posP Q.P.bs Q.i + 1 + 4 * len)))) (o, len, cap) (opsAt Q.P.bs (posP Q.P.bs Q.i + 1) len) := hrow.same fun m cs _ e => put_le hn m _ e
    obtain ⟨w1, w2⟩ := hrow1.whole flatO_len
    refine ⟨[opAt Q.P.bs (posP Q.P.bs Q.i + 1 + 4 * len)].flatMap flatO, ⟨rfl, .inr (put_at p n 49 _)⟩, (opsAt Q.P.bs (posP Q.P.bs Q.i + 1) len).flatMap flatO, ⟨w1, w2⟩, ⟨hcap, by show len + 1 ≤ _; omega, by show (len + 1) * 32 ≤ _; omega, fun hc => (hrow1.room 1 hc)⟩, fun p' o' cap' happ => ?_⟩
    obtain ⟨r1, r2, r3⟩ := ops_step (x := opAt Q.P.bs (posP Q.P.bs Q.i + 1 + 4 * len)) (p' := p') (o' := o') (cap' := cap') (zs := [.int .i64 0, .int .i64 0, .int .i64 0, .int .i64 0]) hrow hle hfr hn happ rfl
    refine SImp.of_wk (ren := []) (len + 1, p', (o', len + 1, cap')) ?_ ⟨⟨hlt, by rw [opsAt_succ]; exact r1, r2, r3⟩, by show mI Q - (len + 1) < mI Q - len; omega⟩
    refine ⟨⟨AV.sub_int hw, AV.sub_same _, AV.sub_same _, AV.sub_same _, AV.sub_same _, AV.sub_same _, AV.sub_same _, AV.sub_same _, AV.sub_same _, AV.sub_same _, trivial⟩, ⟨.same _, BSub.of_eq ?_, .same _, .same _, trivial⟩, rfl, tl_ok rfl, ⟨.inl (in_ok rfl), .inl (in_ok rfl), .inl (in_ok rfl), .inl (in_ok rfl), trivial⟩, ⟨Nat.le_of_ble_eq_true rfl, rfl⟩⟩
    show some (rdC Q.P (posP Q.P.bs Q.i + 1 + 4 * len + 3 + 1)) = some (rdC Q.P (posP Q.P.bs Q.i + 1 + 4 * (len + 1)))
    rw [show posP Q.P.bs Q.i + 1 + 4 * len + 3 + 1 = posP Q.P.bs Q.i + 1 + 4 * (len + 1) by omega]
  · refine ⟨fun h => absurd (of_decide_eq_true h) (by show ¬ (len : Int) < (mI Q : Int); omega), fun _ => ⟨rfl, ?_⟩⟩
    have he : len = mI Q := by omega
    subst he
    refine SImp.of_wk (ren := []) (p, (o, mI Q, cap)) ?_ ⟨hrow, hle⟩
    exact ⟨⟨AV.sub_same _, AV.sub_same _, AV.sub_same _, AV.sub_same _, AV.sub_same _, AV.sub_same _, AV.sub_same _, AV.sub_same _, AV.sub_same _, AV.sub_same _, trivial⟩, ⟨.same _, .same _, .same _, .same _, trivial⟩, rfl, tl_ok rfl, ⟨.inl (in_ok rfl), .inl (in_ok rfl), .inl (in_ok rfl), .inl (in_ok rfl), trivial⟩, ⟨Nat.le_of_ble_eq_true rfl, rfl⟩⟩
theorem lo_ok : LoopOk Tryz.prog 2 (loopOf Tryz.f7 2) LO := by
  refine trimLoop_ok (trim_ok _ _) (loopTH_ok (C := cfgD1) cfgD1_ok (f := 7) (n := 60) (trim_ok TDo [0, 1, 2, 3]) 11 DcO
    (fun P x => x.1 ≤ nP P.bs ∧ P.p0.Le x.2.1 ∧ (∃ hs, RowsLie x.2.1 x.2.2 hs (rowsTo P.bs x.1)) ∧ ∀ n, own x.2.2 = some n → P.p0 n = none) (fun P => (0, P.p0, w0)) (fun P x => nP P.bs - x.1)
    DcC DcE (fun P => ⟨Nat.zero_le _, Pool.Le.refl _, ⟨[], RowsLie.nil _⟩, fun n h => by cases h⟩) ?_)
  rintro P ⟨i, p, o, len, cap⟩ ⟨hi, hle, ⟨hs, hl⟩, hfr⟩
  rw [bO]
  have hb := P.hb
  have hi : i ≤ nP P.bs := hi
  have hn8 : nP P.bs ≤ 8 := by show (bAt _ _ % 9).toNat ≤ 8; omega
  have hlen : len = i := by have := hl.head.len; rw [hl.len, rowsTo_length] at this; exact this
  subst hlen
  have hcap : len ≤ cap := by have := hl.head.le; rw [hl.len, rowsTo_length] at this; exact this
  by_cases hlt : len < nP P.bs
  · have hw : IntKind.wrap .i64 ((len : Int) + 1) = ((len + 1 : Nat) : Int) := wrap_nat (by omega)
    refine ⟨fun _ => ?_, fun h => absurd hlt (by have := of_decide_eq_false h; omega)⟩
    have hin := bAt_in hb (posP P.bs len)
    have e33 : (bAt P.bs (posP P.bs len)).tmod 33 = (lenAt P.bs (posP P.bs len) : Int) := by
      rw [tmod_byte hin.1]; unfold lenAt; omega
    refine ⟨(posP P.bs len, P.c), ⟨rfl, rfl, rfl, hb⟩, by omega, li_ok, fun Q => Q = ⟨P, len, p, (o, len, cap)⟩, ⟨Nat.le_refl _, SImp.of_wk (ren := []) ⟨P, len, p, (o, len, cap)⟩ ?_ rfl⟩, ?_⟩
    · exact ⟨⟨AV.sub_lit', AV.sub_int e33, sub_nilRs, AV.sub_same _, AV.sub_same _, AV.sub_same _, AV.sub_same _, AV.sub_same _, AV.sub_same _, AV.sub_same _, trivial⟩, ⟨.same _, .same _, .same _, .same _, trivial⟩, rfl, tl_ok rfl, ⟨.inl (in_ok rfl), .inl (in_ok rfl), .inl (in_ok rfl), .inl (in_ok rfl), trivial⟩, ⟨Nat.le_of_ble_eq_true rfl, rfl⟩⟩
    · rintro _ rfl ⟨p2, w2⟩ ⟨hrow, h2⟩ n hn
      have hn : p2 n = none := hn
      have hrow : RowO p2 w2 (rowAtP P.bs len) := hrow
      have h2 : p.Le p2 := h2
      have l3 : p2.Le (p2.put n 47 ([w2].flatMap rwd)) := put_le hn
      have hhead : RowH (p2.put n 47 ([w2].flatMap rwd)) (o, len, cap) hs := hl.head.same fun m cs _ e => l3 m _ (h2 m _ e)
      obtain ⟨g1, g2⟩ := hhead.whole rwd_len
      have fin : ∀ (p' : Pool) (o' : Option (Nat × Nat)) (cap' : Nat) (s' : St V), App (p2.put n 47 ([w2].flatMap rwd)) 47 1 [.sl none 0 0] o len cap 1 (hs.flatMap rwd) ([w2].flatMap rwd) p' o' cap' → Wk 11 [] s' (DcO P (len + 1, p', (o', len + 1, cap'))) →
          SImp 11 s' (DcO P) (fun x => (x.1 ≤ nP P.bs ∧ P.p0.Le x.2.1 ∧ (∃ hs, RowsLie x.2.1 x.2.2 hs (rowsTo P.bs x.1)) ∧ ∀ n, own x.2.2 = some n → P.p0 n = none) ∧ nP P.bs - x.1 < nP P.bs - len) := fun p' o' cap' s' happ hwk => by
        obtain ⟨r1, r2, r3⟩ := rows_step hl hle hfr h2 hrow hn happ rfl
        exact SImp.of_wk _ hwk ⟨⟨hlt, r2, ⟨_, by rw [rowsTo_succ]; exact r1⟩, r3⟩, by show nP P.bs - (len + 1) < _; omega⟩
      refine ⟨[w2].flatMap rwd, ⟨rfl, .inr (put_at p2 n 47 _)⟩, hs.flatMap rwd, ⟨g1, g2⟩, ⟨hcap, by show len + 1 ≤ _; omega, by show (len + 1) * 24 ≤ _; omega⟩, fun hc => ⟨hhead.room 1 (of_decide_eq_true hc), ?_⟩, fun hc m sp hm => ?_⟩
      · have hc : len + 1 ≤ cap := of_decide_eq_true hc
        refine fin _ o cap _ ⟨fun _ => ⟨rfl, rfl, rfl⟩, fun hh => absurd hc hh⟩ ?_
        exact ⟨⟨AV.sub_int hw, AV.sub_same _, AV.sub_same _, AV.sub_same _, AV.sub_same _, AV.sub_same _, AV.sub_same _, trivial⟩, ⟨.same _, .same _, .same _, .same _, trivial⟩, rfl, tl_ok rfl, ⟨.inl (in_ok rfl), .inl (in_ok rfl), .inl (in_ok rfl), .inl (in_ok rfl), trivial⟩, ⟨Nat.le_of_ble_eq_true rfl, rfl⟩⟩
      · have hc : ¬ len + 1 ≤ cap := of_decide_eq_false hc
        refine fin _ (some (m, 0)) (len + 1 + sp) _ ⟨fun hh => absurd hh hc, fun _ => ⟨m, sp, hm, rfl, rfl, rfl⟩⟩ ?_
        exact ⟨⟨AV.sub_int hw, AV.sub_same _, AV.sub_same _, AV.sub_same _, AV.sub_same _, AV.sub_same _, AV.sub_same _, trivial⟩, ⟨.same _, .same _, .same _, .same _, trivial⟩, rfl, tl_ok rfl, ⟨.inl (in_ok rfl), .inl (in_ok rfl), .inl (in_ok rfl), .inl (in_ok rfl), trivial⟩, ⟨Nat.le_of_ble_eq_true rfl, rfl⟩⟩
  · refine ⟨fun h => absurd (of_decide_eq_true h) (by omega), fun _ => ⟨rfl, ?_⟩⟩
    have he : len = nP P.bs := by omega
    subst he
    refine SImp.of_wk (ren := []) (p, (o, nP P.bs, cap)) ?_ ⟨hle, hs, hl⟩
    exact ⟨⟨AV.sub_same _, AV.sub_same _, AV.sub_same _, AV.sub_same _, AV.sub_same _, AV.sub_same _, AV.sub_same _, trivial⟩, ⟨.same _, .same _, .same _, .same _, trivial⟩, rfl, tl_ok rfl, ⟨.inl (in_ok rfl), .inl (in_ok rfl), .inl (in_ok rfl), .inl (in_ok rfl), trivial⟩, ⟨Nat.le_of_ble_eq_true rfl, rfl⟩⟩

theorem pkT_length (Q : DpP) {t : Nat} (h : t ≤ Q.P.bs.length - Q.K) : (pkT Q t).length = t := by
  unfold pkT; rw [List.length_take, List.length_drop]; omega
theorem pkT_succ (Q : DpP) {t : Nat} (h : t < Q.P.bs.length - Q.K) : pkT Q t ++ [bAt Q.P.bs (Q.K + t)] = pkT Q (t + 1) := by
  unfold pkT
  rw [List.take_succ_eq_append_getElem (by rw [List.length_drop]; exact h)]
  congr 2
  rw [List.getElem_drop]
  unfold bAt
  rw [List.getD_eq_getElem?_getD, List.getElem?_eq_getElem (by omega)]; rfl
theorem lp_ok : LoopOk Tryz.prog 8 (loopOf Tryz.f7 8) LP := by
  refine trimLoop_ok (trim_ok _ _) (loopTH_ok (C := cfgD0) cfgD0_ok (f := 7) (n := 60) (trim_ok TDp [0, 1, 2, 3, 11, 12, 13, 14, 15]) 11 DpI
    (fun Q x => x.1 ≤ Q.P.bs.length - Q.K) (fun Q => (0, 0)) (fun Q x => Q.P.bs.length - Q.K - x.1) DpC DpE (fun Q => Nat.zero_le _) ?_)
  rintro Q ⟨t, sp⟩ ht
  rw [bP]
  have ht : t ≤ Q.P.bs.length - Q.K := ht
  have hl := Q.P.hl
  have hpl := pkT_length Q ht
  by_cases hlt : t < Q.P.bs.length - Q.K
  · refine ⟨fun _ => ⟨(Q.K + t, Q.P.c), ⟨rfl, rfl, rfl, Q.P.hb⟩, by omega, rfl, ⟨rfl, rfl, by rw [hpl]; omega⟩, fun y => ?_⟩, fun h => absurd hlt (by have := of_decide_eq_false h; omega)⟩
    have hs := pkT_succ Q hlt
    have hlen : (pkT Q t).length + 1 = (pkT Q (t + 1)).length := by rw [← hs]; simp
    refine SImp.of_wk (ren := [(11, 13)]) (t + 1, y) ?_ ⟨hlt, by show Q.P.bs.length - Q.K - (t + 1) < _; omega⟩
    refine ⟨⟨AV.sub_same _, AV.sub_sl hlen (by rw [hlen]), AV.sub_same _, AV.sub_same _, AV.sub_same _, trivial⟩, ⟨BSub.arr hs rfl, .same _, BSub.of_eq ?_, .same _, .same _, trivial⟩, rfl, tl_ok rfl, ⟨.inl (in_ok rfl), .inl (in_ok rfl), .inl (in_ok rfl), .inl (in_ok rfl), .inl (in_ok rfl), .inl (in_ok rfl), trivial⟩, ⟨Nat.le_of_ble_eq_true rfl, rfl⟩⟩
    rfl
  · refine ⟨fun h => absurd (of_decide_eq_true h) (by omega), fun _ => ⟨rfl, ?_⟩⟩
    have he : t = Q.P.bs.length - Q.K := by omega
    subst he
    refine SImp.of_wk (ren := [(11, 11)]) sp ?_ trivial
    exact ⟨⟨AV.sub_same _, AV.sub_same _, AV.sub_same _, AV.sub_same _, AV.sub_same _, trivial⟩, ⟨.same _, .same _, .same _, .same _, .same _, trivial⟩, rfl, tl_ok rfl, ⟨.inl (in_ok rfl), .inl (in_ok rfl), .inl (in_ok rfl), .inl (in_ok rfl), .inl (in_ok rfl), trivial⟩, ⟨Nat.le_of_ble_eq_true rfl, rfl⟩⟩

/-! ## the contract -/
def confA (c : Conf) : AV := .agg [.int .i64 c.c0, .int .i64 c.c1, .int .i64 c.c2, .int .i64 c.c3, .int .i64 c.c4, .int .i64 c.c5]
def runDec : RunPool V := fun p ar K => match ar with
  | [.rows .byte bs c] => .need (Bytes bs ∧ bs.length ≤ 1073741824) (.all (Pool × Rwp) fun y => .all Nat fun sp => .asm (p.Le y.1 ∧ ∃ hs, RowsLie y.1 y.2 hs (rowsOf bs))
      (K (.tup [confA (confOf bs), rsA y.2, .sl false 1 0 1 (picksOf bs).length ((picksOf bs).length + sp)]) y.1 [.arr 3 Kd.int (picksOf bs) sp]))
  | _ => .bad 605
theorem hDec : HookOk Tryz.prog 7 (hookPool [.rows Kd.byte] runDec) := by
  refine pool_hook (C := cfgD2) cfgD2_ok (n := 60) (fn := Tryz.f7) ⟨by kernel_rfl, by kernel_rfl⟩ (by kernel_rfl) ?_
  intro M p ar K0 H
  unfold runDec at H
  split at H
  · rename_i bs c
    obtain ⟨⟨hb, hl⟩, H⟩ := H
    refine ⟨show 1 ≤ _ by decide +kernel, ?_⟩
    show (runF cfgD2 60 7 Tryz.f7 [.sl false 1 0 1 bs.length c] [(0, .pool p), (1, .ro Kd.byte bs)] 2).holds _
    rw [t7]
    let P : DcP := ⟨bs, c, p, hb, hl⟩
    have hin := bAt_in hb 6
    have e9 : (bAt bs 6).tmod 9 = (nP bs : Int) := by rw [tmod_byte hin.1]; unfold nP; omega
    refine ⟨by decide, (0, c), ⟨by omega, by omega, by show c = c - min 0 _; omega, hb⟩, by omega, by decide, (1, c), ⟨rfl, rfl, rfl, hb⟩, by omega, by decide, (2, c), ⟨rfl, rfl, rfl, hb⟩, by omega, by decide, (3, c), ⟨rfl, rfl, rfl, hb⟩, by omega,
      by decide, (4, c), ⟨rfl, rfl, rfl, hb⟩, by omega, by decide, (5, c), ⟨rfl, rfl, rfl, hb⟩, by omega, (6, c), ⟨rfl, rfl, rfl, hb⟩, by omega, lo_ok, fun q => q = P, ⟨Nat.le_refl _, SImp.of_wk (ren := []) P ?_ rfl⟩, ?_⟩
    · exact ⟨⟨AV.sub_lit', AV.sub_int e9, AV.sub_same _, AV.sub_same _, sub_nilRs, AV.sub_same _, AV.sub_same _, trivial⟩, ⟨.same _, .same _, .same _, .same _, trivial⟩, rfl, tl_ok rfl, ⟨.inl (in_ok rfl), .inl (in_ok rfl), .inl (in_ok rfl), .inr rfl, trivial⟩, ⟨Nat.le_of_ble_eq_true rfl, rfl⟩⟩
    · rintro _ rfl ⟨p', w'⟩ ⟨hle, hs, hlie⟩
      let Q : DpP := ⟨P, posP bs (nP bs), p', w'⟩
      refine ⟨lp_ok, fun q => q = Q, ⟨Nat.le_refl _, SImp.of_wk (ren := [(11, 99)]) Q ?_ rfl⟩, ?_⟩
      · exact ⟨⟨AV.sub_same _, AV.sub_nilS, AV.sub_same _, AV.sub_same _, AV.sub_same _, trivial⟩, ⟨.none _ _, .same _, .same _, .same _, .same _, trivial⟩, rfl, tl_ok rfl, ⟨.inl (in_ok rfl), .inl (in_ok rfl), .inl (in_ok rfl), .inl (in_ok rfl), trivial⟩, ⟨Nat.le_of_ble_eq_true rfl, rfl⟩⟩
      · rintro _ rfl sp _
        have e : pkT Q (Q.P.bs.length - Q.K) = picksOf bs := by
          show (bs.drop (posP bs (nP bs))).take (bs.length - posP bs (nP bs)) = bs.drop (posP bs (nP bs))
          exact List.take_of_length_le (by rw [List.length_drop]; exact Nat.le_refl _)
        refine ⟨_, p', _, H (p', w') sp ⟨hle, hs, hlie⟩, ⟨_, HImp.refl _ _, rfl, ⟨⟨fun _ => 11, ⟨BSub.arr e rfl, trivial⟩, ?_⟩, rfl, rfl⟩⟩⟩
        exact AV.sub_tup (AV.subL_cons (AV.sub_same _) (AV.subL_cons (AV.sub_same _) (AV.subL_cons (AV.sub_sl (by show (pkT Q (Q.P.bs.length - Q.K)).length = _; rw [e]) (by show (pkT Q (Q.P.bs.length - Q.K)).length + sp = _; rw [e])) AV.subL_nil)))
  · exact H.elim
end Sx
end Go.Proofs.YtnegocgblmdihaaGreatDoor

/-
  Bytes read by the document: the runs of the machine.
-/
namespace Go.Proofs.YtnegocgblmdihaaGreatDoor
namespace Sx
open Go
set_option maxRecDepth 100000
set_option linter.unusedVariables false


/-- The document's reader behind so many bytes. -/
def rdC2 (P : DcP) (k : Nat) : Blk V := .cells 52 [.sl false 1 0 1 P.bs.length P.c, .int .i64 ((min k P.bs.length : Nat) : Int)]
def zrC : Blk V := .cells 24 [.lit .i64 0, .lit .i64 0, .lit .i64 0, .lit .i64 0, .lit .i64 0, .lit .i64 0]
def EcO (P : DcP) (x : Nat × Pool × Rwp) : St V := ⟨[(9, .int .i64 (x.1 : Int)), (8, .int .i64 (nP P.bs : Int)), (7, rsA x.2.2), (6, .ptr 4 0), (5, .ptr 3 0), (4, .nilS), (3, .nilS), (2, .ptr 2 0), (0, .sl false 1 0 1 P.bs.length P.c)], [(4, cfC P), (3, rdC2 P (posP P.bs x.1)), (2, zrC), (0, .pool x.2.1), (1, .ro Kd.byte P.bs)], 11, 88, TD⟩
def EcI (Q : DiP) (x : Nat × Pool × Rwp) : St V := ⟨[(12, .int .i64 (x.1 : Int)), (11, .int .i64 (lenAt Q.P.bs (posP Q.P.bs Q.i) : Int)), (10, rsA x.2.2), (9, .int .i64 (Q.i : Int)), (8, .int .i64 (nP Q.P.bs : Int)), (7, rsA Q.wO), (6, .ptr 4 0), (5, .ptr 3 0), (4, .nilS), (3, .nilS), (2, .ptr 2 0), (0, .sl false 1 0 1 Q.P.bs.length Q.P.c)], [(4, cfC Q.P), (3, rdC2 Q.P (posP Q.P.bs Q.i + 1 + 4 * x.1)), (2, zrC), (0, .pool x.2.1), (1, .ro Kd.byte Q.P.bs)], 11, 88, TD⟩
def EiZ (Q : DiP) : St V := EcI Q (0, Q.pO, w0)
def EiE (Q : DiP) (y : Pool × Rwp) : St V := EcI Q (lenAt Q.P.bs (posP Q.P.bs Q.i), y.1, y.2)
abbrev TEi : List Nat := [12, 11, 10, 9, 8, 7, 6, 5, 4, 3, 2, 0]
abbrev HE : List Nat := [0, 1, 2, 3, 4]
def LEI : LoopS V := trimLoop (trimSt TEi HE) (loopH 11 EiZ DiC EiE)
noncomputable def cfgE1 : Cfg Tryz.prog V := ⟨tabP, kinds, fun _ => none, hooksD, fun f id => match f, id with | 8, 2 => some LEI | _, _ => none⟩
def EcZ (P : DcP) : St V := EcO P (0, P.p0, w0)
def EcE (P : DcP) (y : Pool × Rwp) : St V := EcO P (nP P.bs, y.1, y.2)
abbrev TEo : List Nat := [9, 8, 7, 6, 5, 4, 3, 2, 0]
def LEO : LoopS V := trimLoop (trimSt TEo HE) (loopH 11 EcZ DcC EcE)
def EpI (Q : DpP) (x : Nat × Nat) : St V := ⟨[(14, .sl false 11 0 1 (pkT Q x.1).length ((pkT Q x.1).length + x.2)), (7, rsA Q.w), (6, .ptr 4 0), (5, .ptr 3 0), (4, .nilS), (3, .nilS), (2, .ptr 2 0), (0, .sl false 1 0 1 Q.P.bs.length Q.P.c)], [(11, .arr 3 Kd.int (pkT Q x.1) x.2), (4, cfC Q.P), (3, rdC2 Q.P (Q.K + x.1)), (2, zrC), (0, .pool Q.p), (1, .ro Kd.byte Q.P.bs)], 12, 88, TD⟩
def EpZ (Q : DpP) : St V := EpI Q (0, 0)
def EpE (Q : DpP) (sp : Nat) : St V := EpI Q (Q.P.bs.length - Q.K, sp)
abbrev TEp : List Nat := [14, 7, 6, 5, 4, 3, 2, 0]
def LEP : LoopS V := trimLoop (trimSt TEp HE) (loopH 11 EpZ DpC EpE)
noncomputable def cfgE2 : Cfg Tryz.prog V := ⟨tabP, kinds, fun _ => none, hooksD, fun f id => match f, id with | 8, 0 => some LEO | 8, 4 => some LEP | _, _ => none⟩
theorem cI (Q : DiP) (j : Nat) (p : Pool) (w : Rwp) : runCode cfgD0 60 8 (loopOf Tryz.f8 2) (EcI Q (j, p, w)) (stopT (trimSt TEi HE)) = Out.ite (decide ((↑j : Int) < (↑(lenAt Q.P.bs (posP Q.P.bs Q.2)) : Int))) (Out.ex Nat fun y => Out.need ((0 : Nat) = (0 : Nat) ∧ Q.P.bs.length = Q.P.bs.length ∧ (↑(min (posP Q.P.bs Q.2 + (1 : Nat) + (4 : Nat) * j) Q.P.bs.length) : Int) = (↑(min y Q.P.bs.length) : Int) ∧ Bytes Q.P.bs ∧ Q.P.bs.length ≤ (1073741824 : Nat)) (Out.need (Q.P.2 ≤ Q.P.2) (Out.ex Nat fun y_1 => Out.need ((0 : Nat) = (0 : Nat) ∧ Q.P.bs.length = Q.P.bs.length ∧ (↑(min (y + (1 : Nat)) Q.P.bs.length) : Int) = (↑(min y_1 Q.P.bs.length) : Int) ∧ Bytes Q.P.bs ∧ Q.P.bs.length ≤ (1073741824 : Nat)) (Out.need (Q.P.2 ≤ Q.P.2) (Out.ex Nat fun y_2 => Out.need ((0 : Nat) = (0 : Nat) ∧ Q.P.bs.length = Q.P.bs.length ∧ (↑(min (y_1 + (1 : Nat)) Q.P.bs.length) : Int) = (↑(min y_2 Q.P.bs.length) : Int) ∧ Bytes Q.P.bs ∧ Q.P.bs.length ≤ (1073741824 : Nat)) (Out.need (Q.P.2 ≤ Q.P.2) (Out.ex Nat fun y_3 => Out.need ((0 : Nat) = (0 : Nat) ∧ Q.P.bs.length = Q.P.bs.length ∧ (↑(min (y_2 + (1 : Nat)) Q.P.bs.length) : Int) = (↑(min y_3 Q.P.bs.length) : Int) ∧ Bytes Q.P.bs ∧ Q.P.bs.length ≤ (1073741824 : Nat)) (Out.need (Q.P.2 ≤ Q.P.2) (Out.all Nat fun y_4 => Out.asm ((j, p, w).snd.fst y_4 = none) (Out.ex (List PD) fun y_5 => Out.need (y_5.length = (4 : Nat) ∧ ((1 : Nat) = (0 : Nat) ∨ ((j, p, w).snd.fst.put y_4 (49 : Nat) [PD.int .i64 ((bAt Q.P.bs y).tmod (5 : Int)), PD.int .i64 (bAt Q.P.bs y_1), PD.int .i64 (bAt Q.P.bs y_2), PD.int .i64 (bAt Q.P.bs y_3)]).at (some (y_4, (0 : Nat))) y_5)) (Out.ex (List PD) fun y_6 => Out.need (y_6.length = (j, p, w).snd.snd.snd.fst * (4 : Nat) ∧ ((j, p, w).snd.snd.snd.fst = (0 : Nat) ∨ ((j, p, w).snd.fst.put y_4 (49 : Nat) [PD.int .i64 ((bAt Q.P.bs y).tmod (5 : Int)), PD.int .i64 (bAt Q.P.bs y_1), PD.int .i64 (bAt Q.P.bs y_2), PD.int .i64 (bAt Q.P.bs y_3)]).at (j, p, w).snd.snd.fst y_6)) (Out.need ((j, p, w).snd.snd.snd.fst ≤ (j, p, w).snd.snd.snd.snd ∧ (j, p, w).snd.snd.snd.fst + (1 : Nat) ≤ (4294967296 : Nat) ∧ ((j, p, w).snd.snd.snd.fst + (1 : Nat)) * (32 : Nat) ≤ (140737488355328 : Nat) ∧ ((j, p, w).snd.snd.snd.fst + (1 : Nat) ≤ (j, p, w).snd.snd.snd.snd → (1 : Nat) = (0 : Nat) ∨ ((j, p, w).snd.fst.put y_4 (49 : Nat) [PD.int .i64 ((bAt Q.P.bs y).tmod (5 : Int)), PD.int .i64 (bAt Q.P.bs y_1), PD.int .i64 (bAt Q.P.bs y_2), PD.int .i64 (bAt Q.P.bs y_3)]).has (shiftA (j, p, w).snd.snd.fst ((j, p, w).snd.snd.snd.fst * (4 : Nat))) (4 : Nat))) (Out.all Pool fun y_7 => Out.all (Option (Nat × Nat)) fun y_8 => Out.all Nat fun y_9 => Out.asm (App ((j, p, w).snd.fst.put y_4 (49 : Nat) [PD.int .i64 ((bAt Q.P.bs y).tmod (5 : Int)), PD.int .i64 (bAt Q.P.bs y_1), PD.int .i64 (bAt Q.P.bs y_2), PD.int .i64 (bAt Q.P.bs y_3)]) (49 : Nat) (4 : Nat) [PD.int .i64 (0 : Int), PD.int .i64 (0 : Int), PD.int .i64 (0 : Int), PD.int .i64 (0 : Int)] (j, p, w).snd.snd.fst (j, p, w).snd.snd.snd.fst (j, p, w).snd.snd.snd.snd (1 : Nat) y_6 y_5 y_7 y_8 y_9) (Out.stop EX.nx {env := [((12 : Nat), .int .i64 (IntKind.i64.wrap ((↑j : Int) + (1 : Int)))), ((11 : Nat), .int .i64 (↑(lenAt Q.P.bs (posP Q.P.bs Q.2)) : Int)), ((10 : Nat), AV.rs y_8 ((j, p, w).snd.snd.snd.fst + (1 : Nat)) y_9), ((9 : Nat), .int .i64 (↑Q.2 : Int)), ((8 : Nat), .int .i64 (↑(nP Q.P.bs) : Int)), ((7 : Nat), AV.rs Q.wO.fst Q.wO.snd.1 Q.wO.snd.2), ((6 : Nat), .ptr (4 : Nat) (0 : Nat)), ((5 : Nat), .ptr (3 : Nat) (0 : Nat)), ((4 : Nat), .nilS), ((3 : Nat), .nilS), ((2 : Nat), .ptr (2 : Nat) (0 : Nat)), ((0 : Nat), .sl false (1 : Nat) (0 : Nat) (1 : Nat) Q.P.bs.length Q.P.2)], heap := [((4 : Nat), .cells (24 : Nat) [.int .i64 (bAt Q.P.bs (0 : Nat)), .int .i64 (bAt Q.P.bs (1 : Nat)), .int .i64 (bAt Q.P.bs (2 : Nat)), .int .i64 (bAt Q.P.bs (3 : Nat)), .int .i64 (bAt Q.P.bs (4 : Nat)), .int .i64 (bAt Q.P.bs (5 : Nat))]), ((3 : Nat), .cells (52 : Nat) [.sl false (1 : Nat) (0 : Nat) (1 : Nat) Q.P.bs.length Q.P.2, .int .i64 (↑(min (y_3 + (1 : Nat)) Q.P.bs.length) : Int)]), ((2 : Nat), .cells (24 : Nat) [.lit .i64 (0 : Int), .lit .i64 (0 : Int), .lit .i64 (0 : Int), .lit .i64 (0 : Int), .lit .i64 (0 : Int), .lit .i64 (0 : Int)]), ((0 : Nat), Blk.pool y_7), ((1 : Nat), .ro Kd.byte Q.P.bs)], nx := (18 : Nat), nt := (88 : Nat), tl := [(11 : Nat), (0 : Nat), (11 : Nat), (3 : Nat), (11 : Nat), (3 : Nat), (11 : Nat), (3 : Nat), (11 : Nat), (3 : Nat), (0 : Nat), (1 : Nat), (2 : Nat), (3 : Nat), (4 : Nat), (5 : Nat), (6 : Nat), (7 : Nat), (8 : Nat), (9 : Nat), (10 : Nat), (11 : Nat), (12 : Nat), (13 : Nat), (14 : Nat), (15 : Nat), (16 : Nat), (17 : Nat), (18 : Nat), (19 : Nat), (20 : Nat), (21 : Nat), (22 : Nat), (23 : Nat), (24 : Nat), (25 : Nat), (26 : Nat), (27 : Nat), (28 : Nat), (29 : Nat), (30 : Nat)] : St V })))))))))))))) (Out.stop (EX.ex (2 : Nat)) {env := [((12 : Nat), .int .i64 (↑j : Int)), ((11 : Nat), .int .i64 (↑(lenAt Q.P.bs (posP Q.P.bs Q.2)) : Int)), ((10 : Nat), AV.rs (j, p, w).snd.snd.fst (j, p, w).snd.snd.snd.fst (j, p, w).snd.snd.snd.snd), ((9 : Nat), .int .i64 (↑Q.2 : Int)), ((8 : Nat), .int .i64 (↑(nP Q.P.bs) : Int)), ((7 : Nat), AV.rs Q.wO.fst Q.wO.snd.1 Q.wO.snd.2), ((6 : Nat), .ptr (4 : Nat) (0 : Nat)), ((5 : Nat), .ptr (3 : Nat) (0 : Nat)), ((4 : Nat), .nilS), ((3 : Nat), .nilS), ((2 : Nat), .ptr (2 : Nat) (0 : Nat)), ((0 : Nat), .sl false (1 : Nat) (0 : Nat) (1 : Nat) Q.P.bs.length Q.P.2)], heap := [((4 : Nat), .cells (24 : Nat) [.int .i64 (bAt Q.P.bs (0 : Nat)), .int .i64 (bAt Q.P.bs (1 : Nat)), .int .i64 (bAt Q.P.bs (2 : Nat)), .int .i64 (bAt Q.P.bs (3 : Nat)), .int .i64 (bAt Q.P.bs (4 : Nat)), .int .i64 (bAt Q.P.bs (5 : Nat))]), ((3 : Nat), .cells (52 : Nat) [.sl false (1 : Nat) (0 : Nat) (1 : Nat) Q.P.bs.length Q.P.2, .int .i64 (↑(min (posP Q.P.bs Q.2 + (1 : Nat) + (4 : Nat) * j) Q.P.bs.length) : Int)]), ((2 : Nat), .cells (24 : Nat) [.lit .i64 (0 : Int), .lit .i64 (0 : Int), .lit .i64 (0 : Int), .lit .i64 (0 : Int), .lit .i64 (0 : Int), .lit .i64 (0 : Int)]), ((0 : Nat), Blk.pool (j, p, w).snd.fst), ((1 : Nat), .ro Kd.byte Q.P.bs)], nx := (11 : Nat), nt := (88 : Nat), tl := [(0 : Nat), (1 : Nat), (2 : Nat), (3 : Nat), (4 : Nat), (5 : Nat), (6 : Nat), (7 : Nat), (8 : Nat), (9 : Nat), (10 : Nat), (11 : Nat), (12 : Nat), (13 : Nat), (14 : Nat), (15 : Nat), (16 : Nat), (17 : Nat), (18 : Nat), (19 : Nat), (20 : Nat), (21 : Nat), (22 : Nat), (23 : Nat), (24 : Nat), (25 : Nat), (26 : Nat), (27 : Nat), (28 : Nat), (29 : Nat), (30 : Nat)] : St V }) := by kernel_rfl

theorem cO (P : DcP) (i : Nat) (p : Pool) (w : Rwp) : runCode cfgE1 60 8 (loopOf Tryz.f8 0) (EcO P (i, p, w)) (stopT (trimSt TEo HE)) = Out.ite (decide ((↑i : Int) < (↑(nP P.bs) : Int))) (Out.ex Nat fun y => Out.need ((0 : Nat) = (0 : Nat) ∧ P.bs.length = P.bs.length ∧ (↑(min (posP P.bs i) P.bs.length) : Int) = (↑(min y P.bs.length) : Int) ∧ Bytes P.bs ∧ P.bs.length ≤ (1073741824 : Nat)) (Out.need (P.2 ≤ P.2) (Out.need (LoopFor Tryz.prog (8 : Nat) (2 : Nat) (loopOf Tryz.f8 (2 : Nat)) LEI) (Out.ex (DiP → Prop) fun y_1 => Out.need ((11 : Nat) ≤ (11 : Nat) ∧ SImp (11 : Nat) {env := [((12 : Nat), .lit .i64 (0 : Int)), ((11 : Nat), .int .i64 ((bAt P.bs y).tmod (33 : Int))), ((10 : Nat), .nilS), ((9 : Nat), .int .i64 (↑i : Int)), ((8 : Nat), .int .i64 (↑(nP P.bs) : Int)), ((7 : Nat), AV.rs (i, p, w).snd.snd.fst (i, p, w).snd.snd.snd.fst (i, p, w).snd.snd.snd.snd), ((6 : Nat), .ptr (4 : Nat) (0 : Nat)), ((5 : Nat), .ptr (3 : Nat) (0 : Nat)), ((4 : Nat), .nilS), ((3 : Nat), .nilS), ((2 : Nat), .ptr (2 : Nat) (0 : Nat)), ((0 : Nat), .sl false (1 : Nat) (0 : Nat) (1 : Nat) P.bs.length P.2)], heap := [((4 : Nat), .cells (24 : Nat) [.int .i64 (bAt P.bs (0 : Nat)), .int .i64 (bAt P.bs (1 : Nat)), .int .i64 (bAt P.bs (2 : Nat)), .int .i64 (bAt P.bs (3 : Nat)), .int .i64 (bAt P.bs (4 : Nat)), .int .i64 (bAt P.bs (5 : Nat))]), ((3 : Nat), .cells (52 : Nat) [.sl false (1 : Nat) (0 : Nat) (1 : Nat) P.bs.length P.2, .int .i64 (↑(min (y + (1 : Nat)) P.bs.length) : Int)]), ((2 : Nat), .cells (24 : Nat) [.lit .i64 (0 : Int), .lit .i64 (0 : Int), .lit .i64 (0 : Int), .lit .i64 (0 : Int), .lit .i64 (0 : Int), .lit .i64 (0 : Int)]), ((0 : Nat), Blk.pool (i, p, w).snd.fst), ((1 : Nat), .ro Kd.byte P.bs)], nx := (11 : Nat), nt := (88 : Nat), tl := [(3 : Nat), (0 : Nat), (1 : Nat), (2 : Nat), (3 : Nat), (4 : Nat), (5 : Nat), (6 : Nat), (7 : Nat), (8 : Nat), (9 : Nat), (10 : Nat), (11 : Nat), (12 : Nat), (13 : Nat), (14 : Nat), (15 : Nat), (16 : Nat), (17 : Nat), (18 : Nat), (19 : Nat), (20 : Nat), (21 : Nat), (22 : Nat), (23 : Nat), (24 : Nat), (25 : Nat), (26 : Nat), (27 : Nat), (28 : Nat), (29 : Nat), (30 : Nat)] : St V } EiZ y_1) (Out.all DiP fun y => Out.asm (y_1 y) (Out.all (Pool × Rwp) fun y_2 => Out.asm (DiC y y_2) (Out.all Nat fun y_3 => Out.asm ((lenAt y.P.bs (posP y.P.bs y.2), y_2.fst, y_2.snd).snd.fst y_3 = none) (Out.ex (List PD) fun y_4 => Out.need (y_4.length = (1 : Nat) ∧ ((1 : Nat) = (0 : Nat) ∨ ((lenAt y.P.bs (posP y.P.bs y.2), y_2.fst, y_2.snd).snd.fst.put y_3 (47 : Nat) [PD.sl (lenAt y.P.bs (posP y.P.bs y.2), y_2.fst, y_2.snd).snd.snd.fst (lenAt y.P.bs (posP y.P.bs y.2), y_2.fst, y_2.snd).snd.snd.snd.fst (lenAt y.P.bs (posP y.P.bs y.2), y_2.fst, y_2.snd).snd.snd.snd.snd]).at (some (y_3, (0 : Nat))) y_4)) (Out.ex (List PD) fun y_5 => Out.need (y_5.length = y.wO.snd.1 * (1 : Nat) ∧ (y.wO.snd.1 = (0 : Nat) ∨ ((lenAt y.P.bs (posP y.P.bs y.2), y_2.fst, y_2.snd).snd.fst.put y_3 (47 : Nat) [PD.sl (lenAt y.P.bs (posP y.P.bs y.2), y_2.fst, y_2.snd).snd.snd.fst (lenAt y.P.bs (posP y.P.bs y.2), y_2.fst, y_2.snd).snd.snd.snd.fst (lenAt y.P.bs (posP y.P.bs y.2), y_2.fst, y_2.snd).snd.snd.snd.snd]).at y.wO.fst y_5)) (Out.need (y.wO.snd.1 ≤ y.wO.snd.2 ∧ y.wO.snd.1 + (1 : Nat) ≤ (4294967296 : Nat) ∧ (y.wO.snd.1 + (1 : Nat)) * (24 : Nat) ≤ (140737488355328 : Nat)) (Out.ite (decide (y.wO.snd.1 + (1 : Nat) ≤ y.wO.snd.2)) (Out.need ((1 : Nat) = (0 : Nat) ∨ ((lenAt y.P.bs (posP y.P.bs y.2), y_2.fst, y_2.snd).snd.fst.put y_3 (47 : Nat) [PD.sl (lenAt y.P.bs (posP y.P.bs y.2), y_2.fst, y_2.snd).snd.snd.fst (lenAt y.P.bs (posP y.P.bs y.2), y_2.fst, y_2.snd).snd.snd.snd.fst (lenAt y.P.bs (posP y.P.bs y.2), y_2.fst, y_2.snd).snd.snd.snd.snd]).has (shiftA y.wO.fst (y.wO.snd.1 * (1 : Nat))) (1 : Nat)) (Out.stop EX.nx {env := [((9 : Nat), .int .i64 (IntKind.i64.wrap ((↑y.2 : Int) + (1 : Int)))), ((8 : Nat), .int .i64 (↑(nP y.P.bs) : Int)), ((7 : Nat), AV.rs y.wO.fst (y.wO.snd.1 + (1 : Nat)) y.wO.snd.2), ((6 : Nat), .ptr (4 : Nat) (0 : Nat)), ((5 : Nat), .ptr (3 : Nat) (0 : Nat)), ((4 : Nat), .nilS), ((3 : Nat), .nilS), ((2 : Nat), .ptr (2 : Nat) (0 : Nat)), ((0 : Nat), .sl false (1 : Nat) (0 : Nat) (1 : Nat) y.P.bs.length y.P.2)], heap := [((4 : Nat), .cells (24 : Nat) [.int .i64 (bAt y.P.bs (0 : Nat)), .int .i64 (bAt y.P.bs (1 : Nat)), .int .i64 (bAt y.P.bs (2 : Nat)), .int .i64 (bAt y.P.bs (3 : Nat)), .int .i64 (bAt y.P.bs (4 : Nat)), .int .i64 (bAt y.P.bs (5 : Nat))]), ((3 : Nat), .cells (52 : Nat) [.sl false (1 : Nat) (0 : Nat) (1 : Nat) y.P.bs.length y.P.2, .int .i64 (↑(min (posP y.P.bs y.2 + (1 : Nat) + (4 : Nat) * (lenAt y.P.bs (posP y.P.bs y.2), y_2.fst, y_2.snd).fst) y.P.bs.length) : Int)]), ((2 : Nat), .cells (24 : Nat) [.lit .i64 (0 : Int), .lit .i64 (0 : Int), .lit .i64 (0 : Int), .lit .i64 (0 : Int), .lit .i64 (0 : Int), .lit .i64 (0 : Int)]), ((0 : Nat), Blk.pool (((lenAt y.P.bs (posP y.P.bs y.2), y_2.fst, y_2.snd).snd.fst.put y_3 (47 : Nat) [PD.sl (lenAt y.P.bs (posP y.P.bs y.2), y_2.fst, y_2.snd).snd.snd.fst (lenAt y.P.bs (posP y.P.bs y.2), y_2.fst, y_2.snd).snd.snd.snd.fst (lenAt y.P.bs (posP y.P.bs y.2), y_2.fst, y_2.snd).snd.snd.snd.snd]).set (shiftA y.wO.fst (y.wO.snd.1 * (1 : Nat))) y_4)), ((1 : Nat), .ro Kd.byte y.P.bs)], nx := (13 : Nat), nt := (88 : Nat), tl := [(0 : Nat), (0 : Nat), (1 : Nat), (2 : Nat), (3 : Nat), (4 : Nat), (5 : Nat), (6 : Nat), (7 : Nat), (8 : Nat), (9 : Nat), (10 : Nat), (11 : Nat), (12 : Nat), (13 : Nat), (14 : Nat), (15 : Nat), (16 : Nat), (17 : Nat), (18 : Nat), (19 : Nat), (20 : Nat), (21 : Nat), (22 : Nat), (23 : Nat), (24 : Nat), (25 : Nat), (26 : Nat), (27 : Nat), (28 : Nat), (29 : Nat), (30 : Nat)] : St V })) (Out.all Nat fun y_6 => Out.all Nat fun y_7 => Out.asm ((lenAt y.P.bs (posP y.P.bs y.2), y_2.fst, y_2.snd).snd.fst.put y_3 (47 : Nat) [PD.sl (lenAt y.P.bs (posP y.P.bs y.2), y_2.fst, y_2.snd).snd.snd.fst (lenAt y.P.bs (posP y.P.bs y.2), y_2.fst, y_2.snd).snd.snd.snd.fst (lenAt y.P.bs (posP y.P.bs y.2), y_2.fst, y_2.snd).snd.snd.snd.snd] y_6 = none) (Out.stop EX.nx {env := [((9 : Nat), .int .i64 (IntKind.i64.wrap ((↑y.2 : Int) + (1 : Int)))), ((8 : Nat), .int .i64 (↑(nP y.P.bs) : Int)), ((7 : Nat), AV.rs (some (y_6, (0 : Nat))) (y.wO.snd.1 + (1 : Nat)) (y.wO.snd.1 + (1 : Nat) + y_7)), ((6 : Nat), .ptr (4 : Nat) (0 : Nat)), ((5 : Nat), .ptr (3 : Nat) (0 : Nat)), ((4 : Nat), .nilS), ((3 : Nat), .nilS), ((2 : Nat), .ptr (2 : Nat) (0 : Nat)), ((0 : Nat), .sl false (1 : Nat) (0 : Nat) (1 : Nat) y.P.bs.length y.P.2)], heap := [((4 : Nat), .cells (24 : Nat) [.int .i64 (bAt y.P.bs (0 : Nat)), .int .i64 (bAt y.P.bs (1 : Nat)), .int .i64 (bAt y.P.bs (2 : Nat)), .int .i64 (bAt y.P.bs (3 : Nat)), .int .i64 (bAt y.P.bs (4 : Nat)), .int .i64 (bAt y.P.bs (5 : Nat))]), ((3 : Nat), .cells (52 : Nat) [.sl false (1 : Nat) (0 : Nat) (1 : Nat) y.P.bs.length y.P.2, .int .i64 (↑(min (posP y.P.bs y.2 + (1 : Nat) + (4 : Nat) * (lenAt y.P.bs (posP y.P.bs y.2), y_2.fst, y_2.snd).fst) y.P.bs.length) : Int)]), ((2 : Nat), .cells (24 : Nat) [.lit .i64 (0 : Int), .lit .i64 (0 : Int), .lit .i64 (0 : Int), .lit .i64 (0 : Int), .lit .i64 (0 : Int), .lit .i64 (0 : Int)]), ((0 : Nat), Blk.pool (((lenAt y.P.bs (posP y.P.bs y.2), y_2.fst, y_2.snd).snd.fst.put y_3 (47 : Nat) [PD.sl (lenAt y.P.bs (posP y.P.bs y.2), y_2.fst, y_2.snd).snd.snd.fst (lenAt y.P.bs (posP y.P.bs y.2), y_2.fst, y_2.snd).snd.snd.snd.fst (lenAt y.P.bs (posP y.P.bs y.2), y_2.fst, y_2.snd).snd.snd.snd.snd]).put y_6 (47 : Nat) (y_5 ++ y_4 ++ (List.replicate y_7 [PD.sl none (0 : Nat) (0 : Nat)]).flatten))), ((1 : Nat), .ro Kd.byte y.P.bs)], nx := (13 : Nat), nt := (88 : Nat), tl := [(0 : Nat), (1 : Nat), (2 : Nat), (3 : Nat), (4 : Nat), (5 : Nat), (6 : Nat), (7 : Nat), (8 : Nat), (9 : Nat), (10 : Nat), (11 : Nat), (12 : Nat), (13 : Nat), (14 : Nat), (15 : Nat), (16 : Nat), (17 : Nat), (18 : Nat), (19 : Nat), (20 : Nat), (21 : Nat), (22 : Nat), (23 : Nat), (24 : Nat), (25 : Nat), (26 : Nat), (27 : Nat), (28 : Nat), (29 : Nat), (30 : Nat)] : St V }))))))))))))) (Out.stop (EX.ex (0 : Nat)) {env := [((9 : Nat), .int .i64 (↑i : Int)), ((8 : Nat), .int .i64 (↑(nP P.bs) : Int)), ((7 : Nat), AV.rs (i, p, w).snd.snd.fst (i, p, w).snd.snd.snd.fst (i, p, w).snd.snd.snd.snd), ((6 : Nat), .ptr (4 : Nat) (0 : Nat)), ((5 : Nat), .ptr (3 : Nat) (0 : Nat)), ((4 : Nat), .nilS), ((3 : Nat), .nilS), ((2 : Nat), .ptr (2 : Nat) (0 : Nat)), ((0 : Nat), .sl false (1 : Nat) (0 : Nat) (1 : Nat) P.bs.length P.2)], heap := [((4 : Nat), .cells (24 : Nat) [.int .i64 (bAt P.bs (0 : Nat)), .int .i64 (bAt P.bs (1 : Nat)), .int .i64 (bAt P.bs (2 : Nat)), .int .i64 (bAt P.bs (3 : Nat)), .int .i64 (bAt P.bs (4 : Nat)), .int .i64 (bAt P.bs (5 : Nat))]), ((3 : Nat), .cells (52 : Nat) [.sl false (1 : Nat) (0 : Nat) (1 : Nat) P.bs.length P.2, .int .i64 (↑(min (posP P.bs i) P.bs.length) : Int)]), ((2 : Nat), .cells (24 : Nat) [.lit .i64 (0 : Int), .lit .i64 (0 : Int), .lit .i64 (0 : Int), .lit .i64 (0 : Int), .lit .i64 (0 : Int), .lit .i64 (0 : Int)]), ((0 : Nat), Blk.pool (i, p, w).snd.fst), ((1 : Nat), .ro Kd.byte P.bs)], nx := (11 : Nat), nt := (88 : Nat), tl := [(0 : Nat), (1 : Nat), (2 : Nat), (3 : Nat), (4 : Nat), (5 : Nat), (6 : Nat), (7 : Nat), (8 : Nat), (9 : Nat), (10 : Nat), (11 : Nat), (12 : Nat), (13 : Nat), (14 : Nat), (15 : Nat), (16 : Nat), (17 : Nat), (18 : Nat), (19 : Nat), (20 : Nat), (21 : Nat), (22 : Nat), (23 : Nat), (24 : Nat), (25 : Nat), (26 : Nat), (27 : Nat), (28 : Nat), (29 : Nat), (30 : Nat)] : St V }) := by kernel_rfl

theorem cP (Q : DpP) (t sp : Nat) : runCode cfgD0 60 8 (loopOf Tryz.f8 4) (EpI Q (t, sp)) (stopT (trimSt TEp [0, 1, 2, 3, 4, 11, 12, 13, 14, 15])) = Out.ite (decide ((↑(min (Q.2 + t) Q.P.bs.length) : Int) < (↑Q.P.bs.length : Int))) (Out.ex Nat fun y => Out.need ((0 : Nat) = (0 : Nat) ∧ Q.P.bs.length = Q.P.bs.length ∧ (↑(min (Q.2 + t) Q.P.bs.length) : Int) = (↑(min y Q.P.bs.length) : Int) ∧ Bytes Q.P.bs ∧ Q.P.bs.length ≤ (1073741824 : Nat)) (Out.need (Q.P.2 ≤ Q.P.2) (Out.same ((pkT Q t).length + sp) ((pkT Q t).length + sp) (Out.needd ((0 : Nat) = (0 : Nat) ∧ (pkT Q t).length = (pkT Q t).length ∧ ((pkT Q t).length + (1 : Nat)) * (8 : Nat) ≤ (140737488355328 : Nat)) (Out.all Nat fun y_1 => Out.stop EX.nx {env := [((14 : Nat), .sl false (13 : Nat) (0 : Nat) (1 : Nat) ((pkT Q t).length + (1 : Nat)) ((pkT Q t).length + (1 : Nat) + y_1)), ((7 : Nat), AV.rs Q.w.fst Q.w.snd.1 Q.w.snd.2), ((6 : Nat), .ptr (4 : Nat) (0 : Nat)), ((5 : Nat), .ptr (3 : Nat) (0 : Nat)), ((4 : Nat), .nilS), ((3 : Nat), .nilS), ((2 : Nat), .ptr (2 : Nat) (0 : Nat)), ((0 : Nat), .sl false (1 : Nat) (0 : Nat) (1 : Nat) Q.P.bs.length Q.P.2)], heap := [((13 : Nat), .arr (3 : Nat) Kd.int (pkT Q t ++ [bAt Q.P.bs y]) y_1), ((12 : Nat), .cells (3 : Nat) [.int .i64 (bAt Q.P.bs y)]), ((4 : Nat), .cells (24 : Nat) [.int .i64 (bAt Q.P.bs (0 : Nat)), .int .i64 (bAt Q.P.bs (1 : Nat)), .int .i64 (bAt Q.P.bs (2 : Nat)), .int .i64 (bAt Q.P.bs (3 : Nat)), .int .i64 (bAt Q.P.bs (4 : Nat)), .int .i64 (bAt Q.P.bs (5 : Nat))]), ((3 : Nat), .cells (52 : Nat) [.sl false (1 : Nat) (0 : Nat) (1 : Nat) Q.P.bs.length Q.P.2, .int .i64 (↑(min (y + (1 : Nat)) Q.P.bs.length) : Int)]), ((2 : Nat), .cells (24 : Nat) [.lit .i64 (0 : Int), .lit .i64 (0 : Int), .lit .i64 (0 : Int), .lit .i64 (0 : Int), .lit .i64 (0 : Int), .lit .i64 (0 : Int)]), ((0 : Nat), Blk.pool Q.p), ((1 : Nat), .ro Kd.byte Q.P.bs)], nx := (14 : Nat), nt := (88 : Nat), tl := [(11 : Nat), (3 : Nat), (0 : Nat), (1 : Nat), (2 : Nat), (3 : Nat), (4 : Nat), (5 : Nat), (6 : Nat), (7 : Nat), (8 : Nat), (9 : Nat), (10 : Nat), (11 : Nat), (12 : Nat), (13 : Nat), (14 : Nat), (15 : Nat), (16 : Nat), (17 : Nat), (18 : Nat), (19 : Nat), (20 : Nat), (21 : Nat), (22 : Nat), (23 : Nat), (24 : Nat), (25 : Nat), (26 : Nat), (27 : Nat), (28 : Nat), (29 : Nat), (30 : Nat)] : St V }))))) (Out.stop (EX.ex (4 : Nat)) {env := [((14 : Nat), .sl false (11 : Nat) (0 : Nat) (1 : Nat) (pkT Q t).length ((pkT Q t).length + sp)), ((7 : Nat), AV.rs Q.w.fst Q.w.snd.1 Q.w.snd.2), ((6 : Nat), .ptr (4 : Nat) (0 : Nat)), ((5 : Nat), .ptr (3 : Nat) (0 : Nat)), ((4 : Nat), .nilS), ((3 : Nat), .nilS), ((2 : Nat), .ptr (2 : Nat) (0 : Nat)), ((0 : Nat), .sl false (1 : Nat) (0 : Nat) (1 : Nat) Q.P.bs.length Q.P.2)], heap := [((11 : Nat), .arr (3 : Nat) Kd.int (pkT Q t) sp), ((4 : Nat), .cells (24 : Nat) [.int .i64 (bAt Q.P.bs (0 : Nat)), .int .i64 (bAt Q.P.bs (1 : Nat)), .int .i64 (bAt Q.P.bs (2 : Nat)), .int .i64 (bAt Q.P.bs (3 : Nat)), .int .i64 (bAt Q.P.bs (4 : Nat)), .int .i64 (bAt Q.P.bs (5 : Nat))]), ((3 : Nat), .cells (52 : Nat) [.sl false (1 : Nat) (0 : Nat) (1 : Nat) Q.P.bs.length Q.P.2, .int .i64 (↑(min (Q.2 + t) Q.P.bs.length) : Int)]), ((2 : Nat), .cells (24 : Nat) [.lit .i64 (0 : Int), .lit .i64 (0 : Int), .lit .i64 (0 : Int), .lit .i64 (0 : Int), .lit .i64 (0 : Int), .lit .i64 (0 : Int)]), ((0 : Nat), Blk.pool Q.p), ((1 : Nat), .ro Kd.byte Q.P.bs)], nx := (12 : Nat), nt := (88 : Nat), tl := [(0 : Nat), (1 : Nat), (2 : Nat), (3 : Nat), (4 : Nat), (5 : Nat), (6 : Nat), (7 : Nat), (8 : Nat), (9 : Nat), (10 : Nat), (11 : Nat), (12 : Nat), (13 : Nat), (14 : Nat), (15 : Nat), (16 : Nat), (17 : Nat), (18 : Nat), (19 : Nat), (20 : Nat), (21 : Nat), (22 : Nat), (23 : Nat), (24 : Nat), (25 : Nat), (26 : Nat), (27 : Nat), (28 : Nat), (29 : Nat), (30 : Nat)] : St V }) := by kernel_rfl

theorem t8 (p : Pool) (bs : List Int) (c : Nat) : runF cfgE2 60 8 Tryz.f8 [.sl false 1 0 1 bs.length c] [(0, .pool p), (1, .ro Kd.byte bs)] 2 = Out.need ((0 : Nat) = (0 : Nat) ∧ bs.length = bs.length ∧ Bytes bs ∧ bs.length ≤ (1073741824 : Nat)) (Out.need (c ≤ c) (Out.ex Nat fun y => Out.need ((0 : Nat) = (0 : Nat) ∧ bs.length = bs.length ∧ (↑(min (1 : Nat) bs.length) : Int) = (↑(min y bs.length) : Int) ∧ Bytes bs ∧ bs.length ≤ (1073741824 : Nat)) (Out.need (c ≤ c) (Out.ex Nat fun y_1 => Out.need ((0 : Nat) = (0 : Nat) ∧ bs.length = bs.length ∧ (↑(min (y + (1 : Nat)) bs.length) : Int) = (↑(min y_1 bs.length) : Int) ∧ Bytes bs ∧ bs.length ≤ (1073741824 : Nat)) (Out.need (c ≤ c) (Out.ex Nat fun y_2 => Out.need ((0 : Nat) = (0 : Nat) ∧ bs.length = bs.length ∧ (↑(min (y_1 + (1 : Nat)) bs.length) : Int) = (↑(min y_2 bs.length) : Int) ∧ Bytes bs ∧ bs.length ≤ (1073741824 : Nat)) (Out.need (c ≤ c) (Out.ex Nat fun y_3 => Out.need ((0 : Nat) = (0 : Nat) ∧ bs.length = bs.length ∧ (↑(min (y_2 + (1 : Nat)) bs.length) : Int) = (↑(min y_3 bs.length) : Int) ∧ Bytes bs ∧ bs.length ≤ (1073741824 : Nat)) (Out.need (c ≤ c) (Out.ex Nat fun y_4 => Out.need ((0 : Nat) = (0 : Nat) ∧ bs.length = bs.length ∧ (↑(min (y_3 + (1 : Nat)) bs.length) : Int) = (↑(min y_4 bs.length) : Int) ∧ Bytes bs ∧ bs.length ≤ (1073741824 : Nat)) (Out.need (c ≤ c) (Out.ex Nat fun y_5 => Out.need ((0 : Nat) = (0 : Nat) ∧ bs.length = bs.length ∧ (↑(min (y_4 + (1 : Nat)) bs.length) : Int) = (↑(min y_5 bs.length) : Int) ∧ Bytes bs ∧ bs.length ≤ (1073741824 : Nat)) (Out.need (c ≤ c) (Out.need (LoopFor Tryz.prog (8 : Nat) (0 : Nat) (loopOf Tryz.f8 (0 : Nat)) LEO) (Out.ex (DcP → Prop) fun y_6 => Out.need ((11 : Nat) ≤ (11 : Nat) ∧ SImp (11 : Nat) {env := [((9 : Nat), .lit .i64 (0 : Int)), ((8 : Nat), .int .i64 ((bAt bs y_5).tmod (9 : Int))), ((7 : Nat), .nilS), ((6 : Nat), .ptr (4 : Nat) (0 : Nat)), ((5 : Nat), .ptr (3 : Nat) (0 : Nat)), ((4 : Nat), .nilS), ((3 : Nat), .nilS), ((2 : Nat), .ptr (2 : Nat) (0 : Nat)), ((0 : Nat), .sl false (1 : Nat) (0 : Nat) (1 : Nat) bs.length c)], heap := [((4 : Nat), .cells (24 : Nat) [.int .i64 (bAt bs (0 : Nat)), .int .i64 (bAt bs y), .int .i64 (bAt bs y_1), .int .i64 (bAt bs y_2), .int .i64 (bAt bs y_3), .int .i64 (bAt bs y_4)]), ((3 : Nat), .cells (52 : Nat) [.sl false (1 : Nat) (0 : Nat) (1 : Nat) bs.length c, .int .i64 (↑(min (y_5 + (1 : Nat)) bs.length) : Int)]), ((2 : Nat), .cells (24 : Nat) [.lit .i64 (0 : Int), .lit .i64 (0 : Int), .lit .i64 (0 : Int), .lit .i64 (0 : Int), .lit .i64 (0 : Int), .lit .i64 (0 : Int)]), ((0 : Nat), Blk.pool p), ((1 : Nat), .ro Kd.byte bs)], nx := (11 : Nat), nt := (88 : Nat), tl := [(3 : Nat), (4 : Nat), (3 : Nat), (4 : Nat), (3 : Nat), (4 : Nat), (3 : Nat), (4 : Nat), (3 : Nat), (4 : Nat), (3 : Nat), (4 : Nat), (3 : Nat)] : St V } EcZ y_6) (Out.all DcP fun y => Out.asm (y_6 y) (Out.all (Pool × Rwp) fun y_7 => Out.asm (DcC y y_7) (Out.need (LoopFor Tryz.prog (8 : Nat) (4 : Nat) (loopOf Tryz.f8 (4 : Nat)) LEP) (Out.ex (DpP → Prop) fun y_8 => Out.need ((11 : Nat) ≤ (11 : Nat) ∧ SImp (11 : Nat) {env := [((14 : Nat), .nilS), ((7 : Nat), AV.rs (nP y.bs, y_7.fst, y_7.snd).snd.snd.fst (nP y.bs, y_7.fst, y_7.snd).snd.snd.snd.fst (nP y.bs, y_7.fst, y_7.snd).snd.snd.snd.snd), ((6 : Nat), .ptr (4 : Nat) (0 : Nat)), ((5 : Nat), .ptr (3 : Nat) (0 : Nat)), ((4 : Nat), .nilS), ((3 : Nat), .nilS), ((2 : Nat), .ptr (2 : Nat) (0 : Nat)), ((0 : Nat), .sl false (1 : Nat) (0 : Nat) (1 : Nat) y.bs.length y.2)], heap := [((4 : Nat), .cells (24 : Nat) [.int .i64 (bAt y.bs (0 : Nat)), .int .i64 (bAt y.bs (1 : Nat)), .int .i64 (bAt y.bs (2 : Nat)), .int .i64 (bAt y.bs (3 : Nat)), .int .i64 (bAt y.bs (4 : Nat)), .int .i64 (bAt y.bs (5 : Nat))]), ((3 : Nat), .cells (52 : Nat) [.sl false (1 : Nat) (0 : Nat) (1 : Nat) y.bs.length y.2, .int .i64 (↑(min (posP y.bs (nP y.bs, y_7.fst, y_7.snd).fst) y.bs.length) : Int)]), ((2 : Nat), .cells (24 : Nat) [.lit .i64 (0 : Int), .lit .i64 (0 : Int), .lit .i64 (0 : Int), .lit .i64 (0 : Int), .lit .i64 (0 : Int), .lit .i64 (0 : Int)]), ((0 : Nat), Blk.pool (nP y.bs, y_7.fst, y_7.snd).snd.fst), ((1 : Nat), .ro Kd.byte y.bs)], nx := (11 : Nat), nt := (88 : Nat), tl := [(0 : Nat), (1 : Nat), (2 : Nat), (3 : Nat), (4 : Nat), (5 : Nat), (6 : Nat), (7 : Nat), (8 : Nat), (9 : Nat), (10 : Nat), (11 : Nat), (12 : Nat), (13 : Nat), (14 : Nat), (15 : Nat), (16 : Nat), (17 : Nat), (18 : Nat), (19 : Nat), (20 : Nat), (21 : Nat), (22 : Nat), (23 : Nat), (24 : Nat), (25 : Nat), (26 : Nat), (27 : Nat), (28 : Nat), (29 : Nat), (30 : Nat)] : St V } EpZ y_8) (Out.all DpP fun y => Out.asm (y_8 y) (Out.all Nat fun y_9 => Out.asm (DpC y y_9) (Out.fin (.tup [.agg [.int .i64 (bAt y.P.bs (0 : Nat)), .int .i64 (bAt y.P.bs (1 : Nat)), .int .i64 (bAt y.P.bs (2 : Nat)), .int .i64 (bAt y.P.bs (3 : Nat)), .int .i64 (bAt y.P.bs (4 : Nat)), .int .i64 (bAt y.P.bs (5 : Nat))], AV.rs y.w.fst y.w.snd.1 y.w.snd.2, .sl false (11 : Nat) (0 : Nat) (1 : Nat) (pkT y (y.P.bs.length - y.2, y_9).fst).length ((pkT y (y.P.bs.length - y.2, y_9).fst).length + y_9)]) [((11 : Nat), .arr (3 : Nat) Kd.int (pkT y (y.P.bs.length - y.2, y_9).fst) y_9), ((4 : Nat), .cells (24 : Nat) [.int .i64 (bAt y.P.bs (0 : Nat)), .int .i64 (bAt y.P.bs (1 : Nat)), .int .i64 (bAt y.P.bs (2 : Nat)), .int .i64 (bAt y.P.bs (3 : Nat)), .int .i64 (bAt y.P.bs (4 : Nat)), .int .i64 (bAt y.P.bs (5 : Nat))]), ((3 : Nat), .cells (52 : Nat) [.sl false (1 : Nat) (0 : Nat) (1 : Nat) y.P.bs.length y.P.2, .int .i64 (↑(min (y.2 + (y.P.bs.length - y.2, y_9).fst) y.P.bs.length) : Int)]), ((2 : Nat), .cells (24 : Nat) [.int .i64 (bAt y.P.bs (0 : Nat)), .int .i64 (bAt y.P.bs (1 : Nat)), .int .i64 (bAt y.P.bs (2 : Nat)), .int .i64 (bAt y.P.bs (3 : Nat)), .int .i64 (bAt y.P.bs (4 : Nat)), .int .i64 (bAt y.P.bs (5 : Nat))]), ((0 : Nat), Blk.pool y.p), ((1 : Nat), .ro Kd.byte y.P.bs)] (13 : Nat))))))))))))))))))))))) := by kernel_rfl

end Sx
end Go.Proofs.YtnegocgblmdihaaGreatDoor

/-
  Bytes read by the document: its Decode, by the same contract.
-/
namespace Go.Proofs.YtnegocgblmdihaaGreatDoor
namespace Sx
open Go
set_option linter.unusedSimpArgs false
set_option linter.unusedVariables false

theorem cfgE1_ok : cfgE1.ok := ⟨tabP_met, kindsP_met, mixed_met, fun g fn h => (by cases h), hooksD_ok⟩
theorem cfgE2_ok : cfgE2.ok := ⟨tabP_met, kindsP_met, mixed_met, fun g fn h => (by cases h), hooksD_ok⟩

theorem lei_ok : LoopOk Tryz.prog 2 (loopOf Tryz.f8 2) LEI := by
  refine trimLoop_ok (trim_ok _ _) (loopTH_ok (C := cfgD0) cfgD0_ok (f := 8) (n := 60) (trim_ok TEi HE) 11 EcI
    (fun Q x => x.1 ≤ mI Q ∧ RowO x.2.1 x.2.2 (opsAt Q.P.bs (posP Q.P.bs Q.i + 1) x.1) ∧ Q.pO.Le x.2.1 ∧ ∀ n, own x.2.2 = some n → Q.pO n = none) (fun Q => (0, Q.pO, w0)) (fun Q x => mI Q - x.1)
    DiC EiE (fun Q => ⟨Nat.zero_le _, RowG.nil _, Pool.Le.refl _, fun n h => by cases h⟩) ?_)
  rintro Q ⟨j, p, o, len, cap⟩ ⟨hj, hrow, hle, hfr⟩
  rw [cI]
  have hm := mI_le Q
  have hb := Q.P.hb
  have hl := Q.P.hl
  have hj : j ≤ mI Q := hj
  have hlen : len = j := by have := hrow.len; rw [opsAt_length] at this; exact this
  subst hlen
  have hcap : len ≤ cap := by have := hrow.le; rw [opsAt_length] at this; exact this
  by_cases hlt : len < mI Q
  · have hw : IntKind.wrap .i64 ((len : Int) + 1) = ((len + 1 : Nat) : Int) := wrap_nat (by omega)
    refine ⟨fun _ => ?_, fun h => absurd hlt (by have := of_decide_eq_false h; show ¬ len < lenAt Q.P.bs (posP Q.P.bs Q.i); omega)⟩
    have e5 := tmod_byte (bAt_in hb (posP Q.P.bs Q.i + 1 + 4 * len)).1 5
    refine ⟨posP Q.P.bs Q.i + 1 + 4 * len, ⟨rfl, rfl, rfl, hb, hl⟩, Nat.le_refl _, posP Q.P.bs Q.i + 1 + 4 * len + 1, ⟨rfl, rfl, rfl, hb, hl⟩, Nat.le_refl _, posP Q.P.bs Q.i + 1 + 4 * len + 2, ⟨rfl, rfl, rfl, hb, hl⟩, Nat.le_refl _,
      posP Q.P.bs Q.i + 1 + 4 * len + 3, ⟨rfl, rfl, rfl, hb, hl⟩, Nat.le_refl _, fun n hn => ?_⟩
    simp only [e5]
    have hn : p n = none := hn
    have hrow1 : RowO (p.put n 49 (flatO (opAt Q.P.bs (posP Q.P.bs Q.i + 1 + 4 * len)))) (o, len, cap) (opsAt Q.P.bs (posP Q.P.bs Q.i + 1) len) := hrow.same fun m cs _ e => put_le hn m _ e
    obtain ⟨w1, w2⟩ := hrow1.whole flatO_len
    refine ⟨[opAt Q.P.bs (posP Q.P.bs Q.i + 1 + 4 * len)].flatMap flatO, ⟨rfl, .inr (put_at p n 49 _)⟩, (opsAt Q.P.bs (posP Q.P.bs Q.i + 1) len).flatMap flatO, ⟨w1, w2⟩, ⟨hcap, by show len + 1 ≤ _; omega, by show (len + 1) * 32 ≤ _; omega, fun hc => (hrow1.room 1 hc)⟩, fun p' o' cap' happ => ?_⟩
    obtain ⟨r1, r2, r3⟩ := ops_step (x := opAt Q.P.bs (posP Q.P.bs Q.i + 1 + 4 * len)) (p' := p') (o' := o') (cap' := cap') (zs := [.int .i64 0, .int .i64 0, .int .i64 0, .int .i64 0]) hrow hle hfr hn happ rfl
    refine SImp.of_wk (ren := []) (len + 1, p', (o', len + 1, cap')) ?_ ⟨⟨hlt, by rw [opsAt_succ]; exact r1, r2, r3⟩, by show mI Q - (len + 1) < mI Q - len; omega⟩
    refine ⟨⟨AV.sub_int hw, AV.sub_same _, AV.sub_same _, AV.sub_same _, AV.sub_same _, AV.sub_same _, AV.sub_same _, AV.sub_same _, AV.sub_same _, AV.sub_same _, AV.sub_same _, AV.sub_same _, trivial⟩, ⟨.same _, BSub.of_eq ?_, .same _, .same _, .same _, trivial⟩, rfl, tl_ok rfl, ⟨.inl (in_ok rfl), .inl (in_ok rfl), .inl (in_ok rfl), .inl (in_ok rfl), .inl (in_ok rfl), trivial⟩, ⟨Nat.le_of_ble_eq_true rfl, rfl⟩⟩
    show some (rdC2 Q.P (posP Q.P.bs Q.i + 1 + 4 * len + 3 + 1)) = some (rdC2 Q.P (posP Q.P.bs Q.i + 1 + 4 * (len + 1)))
    rw [show posP Q.P.bs Q.i + 1 + 4 * len + 3 + 1 = posP Q.P.bs Q.i + 1 + 4 * (len + 1) by omega]
  · refine ⟨fun h => absurd (of_decide_eq_true h) (by show ¬ (len : Int) < (mI Q : Int); omega), fun _ => ⟨rfl, ?_⟩⟩
    have he : len = mI Q := by omega
    subst he
    refine SImp.of_wk (ren := []) (p, (o, mI Q, cap)) ?_ ⟨hrow, hle⟩
    exact ⟨⟨AV.sub_same _, AV.sub_same _, AV.sub_same _, AV.sub_same _, AV.sub_same _, AV.sub_same _, AV.sub_same _, AV.sub_same _, AV.sub_same _, AV.sub_same _, AV.sub_same _, AV.sub_same _, trivial⟩, ⟨.same _, .same _, .same _, .same _, .same _, trivial⟩, rfl, tl_ok rfl, ⟨.inl (in_ok rfl), .inl (in_ok rfl), .inl (in_ok rfl), .inl (in_ok rfl), .inl (in_ok rfl), trivial⟩, ⟨Nat.le_of_ble_eq_true rfl, rfl⟩⟩
theorem leo_ok : LoopOk Tryz.prog 0 (loopOf Tryz.f8 0) LEO := by
  refine trimLoop_ok (trim_ok _ _) (loopTH_ok (C := cfgE1) cfgE1_ok (f := 8) (n := 60) (trim_ok TEo HE) 11 EcO
    (fun P x => x.1 ≤ nP P.bs ∧ P.p0.Le x.2.1 ∧ (∃ hs, RowsLie x.2.1 x.2.2 hs (rowsTo P.bs x.1)) ∧ ∀ n, own x.2.2 = some n → P.p0 n = none) (fun P => (0, P.p0, w0)) (fun P x => nP P.bs - x.1)
    DcC EcE (fun P => ⟨Nat.zero_le _, Pool.Le.refl _, ⟨[], RowsLie.nil _⟩, fun n h => by cases h⟩) ?_)
  rintro P ⟨i, p, o, len, cap⟩ ⟨hi, hle, ⟨hs, hl⟩, hfr⟩
  rw [cO]
  have hb := P.hb
  have hbl := P.hl
  have hi : i ≤ nP P.bs := hi
  have hn8 : nP P.bs ≤ 8 := by show (bAt _ _ % 9).toNat ≤ 8; omega
  have hlen : len = i := by have := hl.head.len; rw [hl.len, rowsTo_length] at this; exact this
  subst hlen
  have hcap : len ≤ cap := by have := hl.head.le; rw [hl.len, rowsTo_length] at this; exact this
  by_cases hlt : len < nP P.bs
  · have hw : IntKind.wrap .i64 ((len : Int) + 1) = ((len + 1 : Nat) : Int) := wrap_nat (by omega)
    refine ⟨fun _ => ?_, fun h => absurd hlt (by have := of_decide_eq_false h; omega)⟩
    have hin := bAt_in hb (posP P.bs len)
    have e33 : (bAt P.bs (posP P.bs len)).tmod 33 = (lenAt P.bs (posP P.bs len) : Int) := by
      rw [tmod_byte hin.1]; unfold lenAt; omega
    refine ⟨posP P.bs len, ⟨rfl, rfl, rfl, hb, hbl⟩, Nat.le_refl _, lei_ok, fun Q => Q = ⟨P, len, p, (o, len, cap)⟩, ⟨Nat.le_refl _, SImp.of_wk (ren := []) ⟨P, len, p, (o, len, cap)⟩ ?_ rfl⟩, ?_⟩
    · exact ⟨⟨AV.sub_lit', AV.sub_int e33, sub_nilRs, AV.sub_same _, AV.sub_same _, AV.sub_same _, AV.sub_same _, AV.sub_same _, AV.sub_same _, AV.sub_same _, AV.sub_same _, AV.sub_same _, trivial⟩, ⟨.same _, .same _, .same _, .same _, .same _, trivial⟩, rfl, tl_ok rfl, ⟨.inl (in_ok rfl), .inl (in_ok rfl), .inl (in_ok rfl), .inl (in_ok rfl), .inl (in_ok rfl), trivial⟩, ⟨Nat.le_of_ble_eq_true rfl, rfl⟩⟩
    · rintro _ rfl ⟨p2, w2⟩ ⟨hrow, h2⟩ n hn
      have hn : p2 n = none := hn
      have hrow : RowO p2 w2 (rowAtP P.bs len) := hrow
      have h2 : p.Le p2 := h2
      have l3 : p2.Le (p2.put n 47 ([w2].flatMap rwd)) := put_le hn
      have hhead : RowH (p2.put n 47 ([w2].flatMap rwd)) (o, len, cap) hs := hl.head.same fun m cs _ e => l3 m _ (h2 m _ e)
      obtain ⟨g1, g2⟩ := hhead.whole rwd_len
      have fin : ∀ (p' : Pool) (o' : Option (Nat × Nat)) (cap' : Nat) (s' : St V), App (p2.put n 47 ([w2].flatMap rwd)) 47 1 [.sl none 0 0] o len cap 1 (hs.flatMap rwd) ([w2].flatMap rwd) p' o' cap' → Wk 11 [] s' (EcO P (len + 1, p', (o', len + 1, cap'))) →
          SImp 11 s' (EcO P) (fun x => (x.1 ≤ nP P.bs ∧ P.p0.Le x.2.1 ∧ (∃ hs, RowsLie x.2.1 x.2.2 hs (rowsTo P.bs x.1)) ∧ ∀ n, own x.2.2 = some n → P.p0 n = none) ∧ nP P.bs - x.1 < nP P.bs - len) := fun p' o' cap' s' happ hwk => by
        obtain ⟨r1, r2, r3⟩ := rows_step hl hle hfr h2 hrow hn happ rfl
        exact SImp.of_wk _ hwk ⟨⟨hlt, r2, ⟨_, by rw [rowsTo_succ]; exact r1⟩, r3⟩, by show nP P.bs - (len + 1) < _; omega⟩
      refine ⟨[w2].flatMap rwd, ⟨rfl, .inr (put_at p2 n 47 _)⟩, hs.flatMap rwd, ⟨g1, g2⟩, ⟨hcap, by show len + 1 ≤ _; omega, by show (len + 1) * 24 ≤ _; omega⟩, fun hc => ⟨hhead.room 1 (of_decide_eq_true hc), ?_⟩, fun hc m sp hm => ?_⟩
      · have hc : len + 1 ≤ cap := of_decide_eq_true hc
        refine fin _ o cap _ ⟨fun _ => ⟨rfl, rfl, rfl⟩, fun hh => absurd hc hh⟩ ?_
        exact ⟨⟨AV.sub_int hw, AV.sub_same _, AV.sub_same _, AV.sub_same _, AV.sub_same _, AV.sub_same _, AV.sub_same _, AV.sub_same _, AV.sub_same _, trivial⟩, ⟨.same _, .same _, .same _, .same _, .same _, trivial⟩, rfl, tl_ok rfl, ⟨.inl (in_ok rfl), .inl (in_ok rfl), .inl (in_ok rfl), .inl (in_ok rfl), .inl (in_ok rfl), trivial⟩, ⟨Nat.le_of_ble_eq_true rfl, rfl⟩⟩
      · have hc : ¬ len + 1 ≤ cap := of_decide_eq_false hc
        refine fin _ (some (m, 0)) (len + 1 + sp) _ ⟨fun hh => absurd hh hc, fun _ => ⟨m, sp, hm, rfl, rfl, rfl⟩⟩ ?_
        exact ⟨⟨AV.sub_int hw, AV.sub_same _, AV.sub_same _, AV.sub_same _, AV.sub_same _, AV.sub_same _, AV.sub_same _, AV.sub_same _, AV.sub_same _, trivial⟩, ⟨.same _, .same _, .same _, .same _, .same _, trivial⟩, rfl, tl_ok rfl, ⟨.inl (in_ok rfl), .inl (in_ok rfl), .inl (in_ok rfl), .inl (in_ok rfl), .inl (in_ok rfl), trivial⟩, ⟨Nat.le_of_ble_eq_true rfl, rfl⟩⟩
  · refine ⟨fun h => absurd (of_decide_eq_true h) (by omega), fun _ => ⟨rfl, ?_⟩⟩
    have he : len = nP P.bs := by omega
    subst he
    refine SImp.of_wk (ren := []) (p, (o, nP P.bs, cap)) ?_ ⟨hle, hs, hl⟩
    exact ⟨⟨AV.sub_same _, AV.sub_same _, AV.sub_same _, AV.sub_same _, AV.sub_same _, AV.sub_same _, AV.sub_same _, AV.sub_same _, AV.sub_same _, trivial⟩, ⟨.same _, .same _, .same _, .same _, .same _, trivial⟩, rfl, tl_ok rfl, ⟨.inl (in_ok rfl), .inl (in_ok rfl), .inl (in_ok rfl), .inl (in_ok rfl), .inl (in_ok rfl), trivial⟩, ⟨Nat.le_of_ble_eq_true rfl, rfl⟩⟩
theorem lep_ok : LoopOk Tryz.prog 4 (loopOf Tryz.f8 4) LEP := by
  refine trimLoop_ok (trim_ok _ _) (loopTH_ok (C := cfgD0) cfgD0_ok (f := 8) (n := 60) (trim_ok TEp [0, 1, 2, 3, 4, 11, 12, 13, 14, 15]) 11 EpI
    (fun Q x => x.1 ≤ Q.P.bs.length - Q.K) (fun Q => (0, 0)) (fun Q x => Q.P.bs.length - Q.K - x.1) DpC EpE (fun Q => Nat.zero_le _) ?_)
  rintro Q ⟨t, sp⟩ ht
  rw [cP]
  have ht : t ≤ Q.P.bs.length - Q.K := ht
  have hl := Q.P.hl
  have hpl := pkT_length Q ht
  by_cases hlt : t < Q.P.bs.length - Q.K
  · refine ⟨fun _ => ⟨Q.K + t, ⟨rfl, rfl, rfl, Q.P.hb, hl⟩, Nat.le_refl _, rfl, ⟨rfl, rfl, by rw [hpl]; omega⟩, fun y => ?_⟩, fun h => absurd hlt (by have := of_decide_eq_false h; omega)⟩
    have hs := pkT_succ Q hlt
    have hlen : (pkT Q t).length + 1 = (pkT Q (t + 1)).length := by rw [← hs]; simp
    refine SImp.of_wk (ren := [(11, 13)]) (t + 1, y) ?_ ⟨hlt, by show Q.P.bs.length - Q.K - (t + 1) < _; omega⟩
    refine ⟨⟨AV.sub_sl hlen (by rw [hlen]), AV.sub_same _, AV.sub_same _, AV.sub_same _, AV.sub_same _, AV.sub_same _, AV.sub_same _, AV.sub_same _, trivial⟩, ⟨BSub.arr hs rfl, .same _, BSub.of_eq ?_, .same _, .same _, .same _, trivial⟩, rfl, tl_ok rfl, ⟨.inl (in_ok rfl), .inl (in_ok rfl), .inl (in_ok rfl), .inl (in_ok rfl), .inl (in_ok rfl), .inl (in_ok rfl), .inl (in_ok rfl), trivial⟩, ⟨Nat.le_of_ble_eq_true rfl, rfl⟩⟩
    rfl
  · refine ⟨fun h => absurd (of_decide_eq_true h) (by omega), fun _ => ⟨rfl, ?_⟩⟩
    have he : t = Q.P.bs.length - Q.K := by omega
    subst he
    refine SImp.of_wk (ren := [(11, 11)]) sp ?_ trivial
    exact ⟨⟨AV.sub_same _, AV.sub_same _, AV.sub_same _, AV.sub_same _, AV.sub_same _, AV.sub_same _, AV.sub_same _, AV.sub_same _, trivial⟩, ⟨.same _, .same _, .same _, .same _, .same _, .same _, trivial⟩, rfl, tl_ok rfl, ⟨.inl (in_ok rfl), .inl (in_ok rfl), .inl (in_ok rfl), .inl (in_ok rfl), .inl (in_ok rfl), .inl (in_ok rfl), trivial⟩, ⟨Nat.le_of_ble_eq_true rfl, rfl⟩⟩

theorem hDec2 : HookOk Tryz.prog 8 (hookPool [.rows Kd.byte] runDec) := by
  refine pool_hook (C := cfgE2) cfgE2_ok (n := 60) (fn := Tryz.f8) ⟨by kernel_rfl, by kernel_rfl⟩ (by kernel_rfl) ?_
  intro M p ar K0 H
  unfold runDec at H
  split at H
  · rename_i bs c
    obtain ⟨⟨hb, hl⟩, H⟩ := H
    refine ⟨show 1 ≤ _ by decide +kernel, ?_⟩
    show (runF cfgE2 60 8 Tryz.f8 [.sl false 1 0 1 bs.length c] [(0, .pool p), (1, .ro Kd.byte bs)] 2).holds _
    rw [t8]
    let P : DcP := ⟨bs, c, p, hb, hl⟩
    have hin := bAt_in hb 6
    have e9 : (bAt bs 6).tmod 9 = (nP bs : Int) := by rw [tmod_byte hin.1]; unfold nP; omega
    refine ⟨⟨rfl, rfl, hb, hl⟩, Nat.le_refl _, 1, ⟨rfl, rfl, rfl, hb, hl⟩, Nat.le_refl _, 2, ⟨rfl, rfl, rfl, hb, hl⟩, Nat.le_refl _, 3, ⟨rfl, rfl, rfl, hb, hl⟩, Nat.le_refl _, 4, ⟨rfl, rfl, rfl, hb, hl⟩, Nat.le_refl _, 5, ⟨rfl, rfl, rfl, hb, hl⟩, Nat.le_refl _, 6, ⟨rfl, rfl, rfl, hb, hl⟩, Nat.le_refl _,
      leo_ok, fun q => q = P, ⟨Nat.le_refl _, SImp.of_wk (ren := []) P ?_ rfl⟩, ?_⟩
    · exact ⟨⟨AV.sub_lit', AV.sub_int e9, sub_nilRs, AV.sub_same _, AV.sub_same _, AV.sub_same _, AV.sub_same _, AV.sub_same _, AV.sub_same _, trivial⟩, ⟨.same _, .same _, .same _, .same _, .same _, trivial⟩, rfl, tl_ok rfl, ⟨.inl (in_ok rfl), .inl (in_ok rfl), .inl (in_ok rfl), .inl (in_ok rfl), .inr rfl, trivial⟩, ⟨Nat.le_of_ble_eq_true rfl, rfl⟩⟩
    · rintro _ rfl ⟨p', w'⟩ ⟨hle, hs, hlie⟩
      let Q : DpP := ⟨P, posP bs (nP bs), p', w'⟩
      refine ⟨lep_ok, fun q => q = Q, ⟨Nat.le_refl _, SImp.of_wk (ren := [(11, 99)]) Q ?_ rfl⟩, ?_⟩
      · exact ⟨⟨AV.sub_nilS, AV.sub_same _, AV.sub_same _, AV.sub_same _, AV.sub_same _, AV.sub_same _, AV.sub_same _, AV.sub_same _, trivial⟩, ⟨.none _ _, .same _, .same _, .same _, .same _, .same _, trivial⟩, rfl, tl_ok rfl, ⟨.inl (in_ok rfl), .inl (in_ok rfl), .inl (in_ok rfl), .inl (in_ok rfl), .inl (in_ok rfl), trivial⟩, ⟨Nat.le_of_ble_eq_true rfl, rfl⟩⟩
      · rintro _ rfl sp _
        have e : pkT Q (Q.P.bs.length - Q.K) = picksOf bs := by
          show (bs.drop (posP bs (nP bs))).take (bs.length - posP bs (nP bs)) = bs.drop (posP bs (nP bs))
          exact List.take_of_length_le (by rw [List.length_drop]; exact Nat.le_refl _)
        refine ⟨_, p', _, H (p', w') sp ⟨hle, hs, hlie⟩, ⟨_, HImp.refl _ _, rfl, ⟨⟨fun _ => 11, ⟨BSub.arr e rfl, trivial⟩, ?_⟩, rfl, rfl⟩⟩⟩
        exact AV.sub_tup (AV.subL_cons (AV.sub_same _) (AV.subL_cons (AV.sub_same _) (AV.subL_cons (AV.sub_sl (by show (pkT Q (Q.P.bs.length - Q.K)).length = _; rw [e]) (by show (pkT Q (Q.P.bs.length - Q.K)).length + sp = _; rw [e])) AV.subL_nil)))
  · exact H.elim
end Sx
end Go.Proofs.YtnegocgblmdihaaGreatDoor

/-
  Runs on known arguments, quickly: the same as runCode, laid so that the kernel has little to copy.
-/
namespace Go.Proofs.YtnegocgblmdihaaGreatDoor
namespace Sx
open Go
set_option linter.unusedVariables false

def tabQ : Tab := quickTab tab
@[reducible] def RU : Uni := RawU tabQ
def kindsQ : Kinds RU := rawKinds tabQ
theorem quickQ : quickT tabQ = true := by kernel_rfl
theorem tabQ_met : tabQ.met Tryz.prog := quick_met tab_met
theorem kindsQ_met : kindsQ.met tabQ := rawKinds_met tabQ

noncomputable section
/-! ## looking up -/
def getF (e : List (Nat × AV)) (t : Nat) : AV := @List.rec (Nat × AV) (fun _ => AV) .und (fun q _ ih => @Prod.rec Nat AV (fun _ => AV) (fun i v => @Bool.rec (fun _ => AV) ih v (Nat.beq i t)) q) e
theorem getF_eq (t : Nat) : ∀ e : List (Nat × AV), getF e t = envGet e t
  | [] => rfl
  | (i, v) :: e => by
    show @Bool.rec (fun _ => AV) (getF e t) v (Nat.beq i t) = cond (Nat.beq i t) v (envGet e t)
    rw [getF_eq t e]
    cases Nat.beq i t <;> rfl
/-- What is the same each time is kept in a box: the kernel opens it once. -/
structure BoxO where
  run : List (Nat × AV) → AV
def boxO (x : Operand) : BoxO := match x with
  | .tmp t => ⟨fun e => getF e t⟩
  | x => ⟨fun e => evO e x⟩
def evF (e : List (Nat × AV)) (x : Operand) : AV := (boxO x).run e
theorem evF_eq (e : List (Nat × AV)) : evF e = evO e := by
  funext x; cases x <;> first | exact getF_eq _ e | rfl
structure BoxP where
  run : List (Nat × AV) → AV → List (Nat × AV)
def boxP (d : Option Nat) : BoxP := match d with | some d => ⟨fun e v => (d, v) :: e⟩ | none => ⟨fun e _ => e⟩
def putF (e : List (Nat × AV)) (d : Option Nat) (v : AV) : List (Nat × AV) := (boxP d).run e v
theorem putF_eq (e : List (Nat × AV)) (d : Option Nat) (v : AV) : putF e d v = envPut e d v := by cases d <;> rfl
def backF (e0 e : List (Nat × AV)) : List (Nat × AV) := @List.rec (Nat × AV) (fun _ => List (Nat × AV)) [] (fun q _ ih => (q.1, getF e q.1) :: ih) e0
theorem backF_eq (e : List (Nat × AV)) : ∀ e0 : List (Nat × AV), backF e0 e = backEnv e0 e
  | [] => rfl
  | q :: e0 => by
    show (q.1, getF e q.1) :: backF e0 e = (q.1, envGet e q.1) :: backEnv e0 e
    rw [backF_eq e e0, getF_eq]
inductive Grd where
  | free
  | never
  | at (d : Nat) (wt : Bool)
def grdOf (ops : Array Oper) (o : Oper) : Grd := match o.guard with
  | none => .free
  | some (j, wt) => (match (ops[j]?).bind (·.dst) with
    | none => .never
    | some d => .at d wt)
def grdV (v : AV) (d : Nat) (wt : Bool) (yes no bad : Out RU) (ask : Nat → Bool → Out RU) : Out RU := match v with
  | .tt => cond wt yes no
  | .ff => cond wt no yes
  | .bool b => ask d b
  | .raw (.tuple _) => no
  | _ => bad
def wantK (ops : Array Oper) (env : List (Nat × AV)) (o : Oper) (yes no bad : Out RU) (ask : Nat → Bool → Out RU) : Out RU := @Grd.rec (fun _ => Out RU) yes no (fun d wt => grdV (getF env d) d wt yes no bad ask) (grdOf ops o)
theorem wantK_eq (ops : Array Oper) (env : List (Nat × AV)) (o : Oper) (yes no bad : Out RU) (ask : Nat → Bool → Out RU) : wantK ops env o yes no bad ask = (match want? ops env o with | .yes => yes | .no => no | .ask d b => ask d b | .bad => bad) := by
  unfold wantK grdOf want?
  cases o.guard with
  | none => rfl
  | some q =>
    obtain ⟨j, wt⟩ := q
    simp only
    cases (ops[j]?).bind (·.dst) with
    | none => rfl
    | some d =>
      simp only [getF_eq, grdV]
      generalize envGet env d = a
      cases a <;> first | rfl | (cases wt <;> rfl) | (rename_i v; cases v <;> rfl)
def getH (h : Heap RU) (id : Nat) : Option (Blk RU) := @List.rec (Nat × Blk RU) (fun _ => Option (Blk RU)) none (fun q _ ih => @Prod.rec Nat (Blk RU) (fun _ => Option (Blk RU)) (fun i v => @Bool.rec (fun _ => Option (Blk RU)) ih (some v) (Nat.beq i id)) q) h
theorem getH_eq (id : Nat) : ∀ h : Heap RU, getH h id = Heap.get h id
  | [] => rfl
  | (i, v) :: h => by
    show @Bool.rec (fun _ => Option (Blk RU)) (getH h id) (some v) (Nat.beq i id) = cond (Nat.beq i id) (some v) (Heap.get h id)
    rw [getH_eq id h]
    cases Nat.beq i id <;> rfl

def isRoB (B : Blk RU) : Bool := match B with | .ro _ _ => true | .rpool _ => true | _ => false
def noRoF (h : Heap RU) : Bool := @List.rec (Nat × Blk RU) (fun _ => Bool) true (fun q _ ih => @Bool.rec (fun _ => Bool) false (@Prod.rec Nat (Blk RU) (fun _ => Bool) (fun _ B => @Bool.rec (fun _ => Bool) true false (isRoB B)) q) ih) h
theorem noRoF_eq : ∀ h : Heap RU, noRoF h = noRo h
  | [] => rfl
  | (i, B) :: h => by
    show @Bool.rec (fun _ => Bool) false (@Bool.rec (fun _ => Bool) true false (isRoB B)) (noRoF h) = _
    rw [noRoF_eq h]
    cases B <;> (simp only [noRo, isRoB]; first | (cases noRo h <;> rfl) | rfl)
def elemF (l : List Nat) (i : Nat) : Bool := @List.rec Nat (fun _ => Bool) false (fun x _ ih => @Bool.rec (fun _ => Bool) ih true (Nat.beq i x)) l
theorem elemF_eq (i : Nat) : ∀ l : List Nat, elemF l i = elemN l i
  | [] => rfl
  | x :: l => by
    show @Bool.rec (fun _ => Bool) (elemF l i) true (Nat.beq i x) = (Nat.beq i x || elemN l i)
    rw [elemF_eq i l]; cases Nat.beq i x <;> rfl
def stableF (ops : Array Oper) (i : Nat) (T : List Nat) (rds : List (Nat × Nat)) : Bool :=
  @List.rec (Nat × Nat) (fun _ => Bool) true (fun q _ ih => @Prod.rec Nat Nat (fun _ => Bool) (fun a id => @Bool.rec (fun _ => Bool) (@Bool.rec (fun _ => Bool) ih false (elemF T id)) ih (ancB ops ops.size i a)) q) rds
theorem stableF_eq (ops : Array Oper) (i : Nat) (T : List Nat) : ∀ rds : List (Nat × Nat), stableF ops i T rds = stable ops i T rds
  | [] => rfl
  | (a, id) :: rds => by
    show @Bool.rec (fun _ => Bool) (@Bool.rec (fun _ => Bool) (stableF ops i T rds) false (elemF T id)) (stableF ops i T rds) (ancB ops ops.size i a) = ((ancB ops ops.size i a || !(elemN T id)) && stable ops i T rds)
    rw [stableF_eq ops i T rds, elemF_eq]
    cases ancB ops ops.size i a <;> cases elemN T id <;> rfl

/-! ## what leaves memory alone -/
abbrev LzS := (Operand → AV) → Heap RU → (AV → Option Nat → Out RU) → Out RU
def lAny (op : Op) : LzS := fun ev h K => evalL tabQ kindsQ op ev h K
def lMove (x : Operand) : LzS := fun ev _ K => K (ev x) none
def bInt (f : IntKind → Int → Int → Int) (x y : AV) (K : AV → Out RU) : Out RU := match x.num, y.num with
  | some (k, a, la), some (k', b, lb) => cond (decide (k = k')) (K (mkInt (la && lb) k (f k a b))) (.bad 3)
  | _, _ => .bad 5
def bCmp (f : Int → Int → Bool) (x y : AV) (K : AV → Out RU) : Out RU := match x.num, y.num with
  | some (k, a, la), some (k', b, lb) => cond (decide (k = k')) (K (mkBool (la && lb) (f a b))) (.bad 3)
  | _, _ => .bad 5
structure BoxB where
  run : AV → AV → (AV → Out RU) → Out RU
def boxB (b : BinOp) : BoxB := match b with
  | .add => ⟨bInt (fun k a b => k.wrap (a + b))⟩
  | .sub => ⟨bInt (fun k a b => k.wrap (a - b))⟩
  | .mul => ⟨bInt (fun k a b => k.wrap (a * b))⟩
  | .and => ⟨bInt (fun k a b => bitsOp .and k a b)⟩
  | .or => ⟨bInt (fun k a b => bitsOp .or k a b)⟩
  | .xor => ⟨bInt (fun k a b => bitsOp .xor k a b)⟩
  | .andNot => ⟨bInt (fun k a b => bitsOp .andNot k a b)⟩
  | .eql => ⟨bCmp (fun a b => a == b)⟩
  | .neq => ⟨bCmp (fun a b => a != b)⟩
  | .lss => ⟨bCmp (fun a b => decide (a < b))⟩
  | .leq => ⟨bCmp (fun a b => decide (a ≤ b))⟩
  | .gtr => ⟨bCmp (fun a b => decide (a > b))⟩
  | .geq => ⟨bCmp (fun a b => decide (a ≥ b))⟩
  | b => ⟨evalBin b⟩
def binF (b : BinOp) (x y : AV) (K : AV → Out RU) : Out RU := (boxB b).run x y K
theorem binF_eq (b : BinOp) (x y : AV) (K : AV → Out RU) : binF b x y K = evalBin b x y K := by
  cases b <;> first
    | rfl
    | (simp only [binF, boxB, bInt, bCmp, evalBin])
def lBin (b : BinOp) (x y : Operand) : LzS := fun ev _ K => binF b (ev x) (ev y) fun v => K v none
def lEq (neg : Bool) (T : Nat) (x y : Operand) (yt : Nat) : LzS := fun ev h K => match ev x with
  | .rp o => lAny (.binOp (cond neg .neq .eql) T x y yt) ev h K
  | .raw v => lAny (.binOp (cond neg .neq .eql) T x y yt) ev h K
  | .int k n => (match ev y with | .rp o => lAny (.binOp (cond neg .neq .eql) T x y yt) ev h K | v => bCmp (fun a b => cond neg (a != b) (a == b)) (.int k n) v fun v => K v none)
  | .lit k n => (match ev y with | .rp o => lAny (.binOp (cond neg .neq .eql) T x y yt) ev h K | v => bCmp (fun a b => cond neg (a != b) (a == b)) (.lit k n) v fun v => K v none)
  | u => (match ev y with | .rp o => lAny (.binOp (cond neg .neq .eql) T x y yt) ev h K | v => evalEq tabQ neg T x y u v K)
def lNil1 (v : AV) (K : AV → Option Nat → Out RU) : Out RU := match v with
  | .rp o => .need (o.isSome = true) (K (.rp o) none)
  | v => cond v.solid (K v none) (.bad 66)
def lNil (x : Operand) : LzS := fun ev _ K => lNil1 (ev x) K
def faOff (T f : Nat) : Option Nat := match structOf tabQ T f with
  | some (off, ft) => (match tabQ ft with | some R => cond (Nat.beq R.size 0) none (some off) | none => none)
  | none => none
def lFA1 (o : Option Nat) (T f : Nat) (v : AV) (K : AV → Option Nat → Out RU) : Out RU := match v with
  | .rp q => pfield tabQ T f q K
  | .ptr id a => (match o with | some off => K (.ptr id (a + off)) none | none => .bad 73)
  | .ptrR id i w c => (match o with | some off => K (.ptrR id i w (c + off)) none | none => .bad 73)
  | _ => .bad 73
def lFA (T : Nat) (x : Operand) (f : Nat) : LzS := fun ev _ K => lFA1 (faOff T f) T f (ev x) K
def iaSl (s : Nat) (v vi : AV) (K : AV → Option Nat → Out RU) : Out RU := match v, vi.num with
  | .sl _ id st w len _, some (_, i, _) => bif Nat.beq w s then .needd (0 ≤ i ∧ i < (len : Int)) (K (.ptrR id (st + i.toNat) w 0) none) else .bad 30
  | _, _ => .bad 31
def lIA (T : Nat) (x ix : Operand) : LzS := fun ev _ K => match ev x with
  | .rs o len _ => pindex tabQ T o len (ev ix) K
  | .rw o len cap => pindexW tabQ T o len cap (ev ix) K
  | v => (match sliceOf tabQ T with | some q => iaSl q.2 v (ev ix) K | none => evalIndexAddr tabQ T v (ev ix) fun v => K v none)
def ld2 (T : Nat) (p : AV) (id : Nat) (h : Heap RU) (K : AV → Option Nat → Out RU) : Out RU := match tabQ T with
  | some R => (match getH h id with | some B => readAt R B p fun v => K v (some id) | none => .bad 62)
  | none => .bad 63
def lLoad (T : Nat) (x : Operand) : LzS := fun ev h K => match ev x with
  | .rp o => pload tabQ T o h K
  | .ptr id a => ld2 T (.ptr id a) id h K
  | .ptrR id i w c => ld2 T (.ptrR id i w c) id h K
  | .mp id => ld2 T (.mp id) id h K
  | _ => .bad 63
def lExtract (x : Operand) (i : Nat) : LzS := fun ev _ K => match ev x with | .tup vs => onOpt vs[i]? 71 K | _ => .bad 72
def lField (T : Nat) (x : Operand) (f : Nat) : LzS := fun ev _ K => onOpt (evalField tabQ T f (ev x)) 69 K
def lConv (s d : Nat) (x : Operand) : LzS := fun ev h K => bif isBytes tabQ s d then lAny (.convert s d x) ev h K else onOpt (evalConv tabQ s d (ev x)) 68 K
def lUn (o : UnOp) (x : Operand) : LzS := fun ev _ K => onOpt (evalUn o (ev x)) 67 K
def lIdx (T : Nat) (x ix : Operand) : LzS := fun ev _ K => evalIndexS tabQ T (ev x) (ev ix) fun v => K v none
def lSlice (T : Nat) (x : Operand) (lo hi mx : Option Operand) : LzS := fun ev h K => match ev x with
  | .rs o len cap => lAny (.slice T x lo hi mx) ev h K
  | v => evalSlice tabQ T v (lo.map ev) (hi.map ev) (mx.map ev) fun v => K v none
def lMkF (fn : Fn) (fs cs : Array Operand) : LzS := fun ev _ K => match fn with | .func f => K (.fn f (fs.toList.map ev) (cs.toList.map ev)) none | _ => .bad 74
def lMkI (T : Nat) (x : Operand) : LzS := fun ev _ K => match tabQ T with
  | some R => (match R.kind with | .iface => .bad 75 | .other => .bad 75 | _ => K (.ifc T (ev x)) none)
  | none => .bad 76
def lBuild (T : Nat) (ps : Array (Nat × Operand)) : LzS := fun ev _ K => match tabQ T with
    | some R => (match R.kind with
      | .struct fs => bif (ps.toList.all fun q => (ev q.2).plain) then (match fillAV (fun i => match fs[i]? with | some (off, ft) => (match tabQ ft with | some F => some (off, F.size) | none => none) | none => none) R.zero (ps.toList.map fun q => (q.1, ev q.2)) with | some cs => bif fs.all (fun q => (tabQ q.2).isSome) then K (.agg cs) none else .bad 77 | none => .bad 77) else .bad 78
      | .array _ e => (match tabQ e with
        | some E => bif (ps.toList.all fun q => (ev q.2).plain) then (match fillAV (fun i => some (i * E.size, E.size)) R.zero (ps.toList.map fun q => (q.1, ev q.2)) with | some cs => K (.agg cs) none | none => .bad 77) else .bad 78
        | none => .bad 77)
      | _ => .bad 79)
    | none => .bad 80
def lLook (T : Nat) (m k : Operand) (ok : Bool) : LzS := fun ev h K => match ev m with
    | .mp id => (match getH h id with | some B => evalLookup tabQ kindsQ T B (ev k) ok fun v => K v (some id) | none => .bad 81)
    | _ => .bad 82
def lLen1 (T : Nat) (v : AV) (h : Heap RU) (K : AV → Option Nat → Out RU) : Out RU := match v with
  | .rs o len cap => (match sliceOf tabQ T with | some _ => K (.int .i64 (len : Int)) none | none => onOpt (evalLen tabQ T (.rs o len cap)) 85 K)
  | .rw o len cap => (match sliceOf tabQ T with | some _ => K (.int .i64 (len : Int)) none | none => onOpt (evalLen tabQ T (.rw o len cap)) 85 K)
  | .mp id => (match getH h id, tabQ T with
        | some (.mp _ _ m), some R => (match R.kind with | .map _ _ => K (.int .i64 (m.length : Int)) (some id) | _ => .bad 83)
        | _, _ => .bad 84)
  | v => onOpt (evalLen tabQ T v) 85 K
def lLen (T : Nat) (x : Operand) : LzS := fun ev h K => lLen1 T (ev x) h K
def lMin (x y : Operand) : LzS := fun ev _ K => onOpt (evalMin2 (ev x) (ev y)) 86 K
def lMax (x y : Operand) : LzS := fun ev _ K => onOpt (evalMax2 (ev x) (ev y)) 87 K
structure BoxL where
  run : LzS
def lzC (c : Go.Call) : BoxL := match c.callee, c.args.toList, c.argTypes[0]? with
  | .builtin .len, [x], some T => ⟨lLen T x⟩
  | .builtin .min, [x, y], _ => ⟨lMin x y⟩
  | .builtin .max, [x, y], _ => ⟨lMax x y⟩
  | _, _, _ => ⟨lAny (.call c)⟩
def lzB (b : BinOp) (T : Nat) (x y : Operand) (yt : Nat) : BoxL := match b with
  | .eql => ⟨lEq false T x y yt⟩
  | .neq => ⟨lEq true T x y yt⟩
  | b => ⟨lBin b x y⟩
def boxL (op : Op) : BoxL := match op with
  | .move x => ⟨lMove x⟩
  | .assign x => ⟨lMove x⟩
  | .nilCheck x => ⟨lNil x⟩
  | .binOp b T x y yt => lzB b T x y yt
  | .unOp o _ x => ⟨lUn o x⟩
  | .convert s d x => ⟨lConv s d x⟩
  | .field T x f => ⟨lField T x f⟩
  | .index T x ix => ⟨lIdx T x ix⟩
  | .extract x i => ⟨lExtract x i⟩
  | .fieldAddr T x f => ⟨lFA T x f⟩
  | .indexAddr T x ix => ⟨lIA T x ix⟩
  | .slice T x lo hi mx => ⟨lSlice T x lo hi mx⟩
  | .load T x => ⟨lLoad T x⟩
  | .makeFunc fn fs cs => ⟨lMkF fn fs cs⟩
  | .makeInterface T x => ⟨lMkI T x⟩
  | .build T ps => ⟨lBuild T ps⟩
  | .lookup T m k ok => ⟨lLook T m k ok⟩
  | .call c => lzC c
  | op => ⟨lAny op⟩
def lzF (op : Op) : LzS := (boxL op).run
theorem lzF_eq (op : Op) (ev : Operand → AV) (h : Heap RU) (K : AV → Option Nat → Out RU) : lzF op ev h K = evalL tabQ kindsQ op ev h K := by
  cases op
  case binOp b T x y yt =>
    cases b
    case eql =>
      show lEq false T x y yt ev h K = _
      unfold lEq lAny
      simp only [evalL, evalL0]
      generalize ev x = a
      generalize ev y = b
      cases a <;> try rfl
      all_goals cases b <;> first | rfl | (simp [evalEq, AV.num, bCmp, evalBin])
    case neq =>
      show lEq true T x y yt ev h K = _
      unfold lEq lAny
      simp only [evalL, evalL0]
      generalize ev x = a
      generalize ev y = b
      cases a <;> try rfl
      all_goals cases b <;> first | rfl | (simp [evalEq, AV.num, bCmp, evalBin])
    all_goals
      simp only [lzF, boxL, lzB, lBin, evalL, evalL0, binF_eq]
  case convert s d x =>
    show (bif isBytes tabQ s d then lAny (.convert s d x) ev h K else onOpt (evalConv tabQ s d (ev x)) 68 K) = _
    simp only [lAny, evalL, evalL0]
    cases isBytes tabQ s d <;> rfl
  case nilCheck x =>
    show lNil1 (ev x) K = _
    simp only [evalL, evalL0]
    generalize ev x = a
    cases a <;> rfl
  case fieldAddr T x f =>
    show lFA1 (faOff T f) T f (ev x) K = _
    simp only [evalL, evalL0, evalFieldAddr, faOff]
    generalize ev x = a
    cases hs : structOf tabQ T f with
    | none => cases a <;> rfl
    | some q =>
      obtain ⟨off, ft⟩ := q
      simp only
      cases hR : tabQ ft with
      | none => cases a <;> rfl
      | some R =>
        simp only
        cases hz : Nat.beq R.size 0 <;> cases a <;> rfl
  case indexAddr T x ix =>
    show (match ev x with | .rs o len _ => _ | .rw o len cap => _ | v => _) = _
    simp only [evalL, evalL0, evalIndexAddr]
    generalize ev x = a
    cases hs : sliceOf tabQ T with
    | none => cases a <;> rfl
    | some q =>
      simp only [iaSl]
      cases a <;> first | rfl | (cases hn : (ev ix).num <;> rfl)
  case load T x =>
    show (match ev x with | .rp o => _ | .ptr id a => _ | .ptrR id i w c => _ | .mp id => _ | _ => _) = _
    simp only [evalL, evalL0, ld2, getH_eq, evalLoad]
    generalize ev x = a
    cases hR : tabQ T <;> cases a <;> first | rfl | (simp only [AV.id?]; cases Heap.get h _ <;> rfl)
  case extract x i =>
    show (match ev x with | .tup vs => _ | _ => _) = _
    simp only [evalL, evalL0]
    cases ev x <;> rfl
  case slice T x lo hi mx =>
    show (match ev x with | .rs o len cap => _ | v => _) = _
    simp only [lAny, evalL, evalL0]
    generalize ev x = a
    cases a <;> first | rfl | (cases lo <;> cases hi <;> cases mx <;> rfl)
  case makeFunc fn fs cs => rfl
  case makeInterface T x => rfl
  case build T ps => rfl
  case lookup T m k ok =>
    show (match ev m with | .mp id => _ | _ => _) = _
    simp only [evalL, evalL0, getH_eq]
    cases ev m <;> first | rfl | (simp only []; cases Heap.get h _ <;> rfl)
  case call c =>
    show (lzC c).run ev h K = _
    obtain ⟨callee, args, argTypes⟩ := c
    simp only [lzC]
    generalize hq : (match callee, args.toList, argTypes[0]? with
      | .builtin .len, [x], some T => ⟨lLen T x⟩
      | .builtin .min, [x, y], _ => ⟨lMin x y⟩
      | .builtin .max, [x, y], _ => ⟨lMax x y⟩
      | _, _, _ => ⟨lAny (.call ⟨callee, args, argTypes⟩)⟩ : BoxL) = q
    split at hq
    · rename_i x T ha ht
      subst hq
      show lLen1 T (ev x) h K = _
      simp only [evalL, evalL0, lLen1, getH_eq, ha, ht]
      generalize ev x = a
      cases hs : sliceOf tabQ T <;> cases a <;> first
        | rfl
        | (simp only []
           rcases Heap.get h _ with _ | B
           · rfl
           · cases B <;> rcases tabQ T with _ | R <;> first | rfl | (simp only []; cases R.kind <;> rfl))
    · rename_i x y ha
      subst hq
      show lMin x y ev h K = _
      cases ht : argTypes[0]? <;> simp only [evalL, evalL0, lMin, ha, ht]
    · rename_i x y ha
      subst hq
      show lMax x y ev h K = _
      cases ht : argTypes[0]? <;> simp only [evalL, evalL0, lMax, ha, ht]
    · subst hq; rfl
  all_goals rfl

/-! ## what writes -/
abbrev EfS := (Operand → AV) → Heap RU → Nat → (AV → Heap RU → List Nat → Out RU) → Out RU
def eAny (op : Op) : EfS := fun ev h nw K => evalE tabQ kindsQ op ev h nw K
def eAlloc (T : Nat) : EfS := match tabQ T with
  | some R => cond R.pool (eAny (.alloc T)) (fun _ h nw K => K (.ptr nw 0) ((nw, .cells T R.zero) :: h) [nw])
  | none => eAny (.alloc T)
def eBox (T : Nat) (x : Operand) : EfS := match tabQ T with
  | some R => cond R.pool (eAny (.box T x)) (fun ev h nw K => bif (ev x).plain then K (.ptr nw 0) ((nw, .cells T (cellsAV (ev x))) :: h) [nw] else .bad 131)
  | none => eAny (.box T x)
def st2 (T : Nat) (p : AV) (id : Nat) (v : AV) (h : Heap RU) (K : AV → Heap RU → List Nat → Out RU) : Out RU := match tabQ T with
  | some R => (match getH h id with | some B => writeAt R B p v fun B' => K .und (Heap.set h id B') [id] | none => .bad 139)
  | none => .bad 140
def eStore (T : Nat) (p x : Operand) : EfS := fun ev h nw K => match ev p with
  | .rp o => eAny (.store T p x) ev h nw K
  | .ptr id a => st2 T (.ptr id a) id (ev x) h K
  | .ptrR id i w c => st2 T (.ptrR id i w c) id (ev x) h K
  | .mp id => st2 T (.mp id) id (ev x) h K
  | _ => .bad 140
structure BoxE where
  run : EfS
def boxE (op : Op) : BoxE := match op with
  | .alloc T => ⟨eAlloc T⟩
  | .box T x => ⟨eBox T x⟩
  | .store T p x => ⟨eStore T p x⟩
  | op => ⟨eAny op⟩
def eF (op : Op) : EfS := (boxE op).run
theorem evalE0_quick (op : Op) (ev : Operand → AV) (h : Heap RU) (nw : Nat) (K : AV → Heap RU → List Nat → Out RU) : evalE0 tabQ kindsQ op ev h nw K = evalE1 tabQ kindsQ op ev h nw [nw] K := by
  unfold evalE0; rw [quickQ]; rfl
theorem eF_eq (op : Op) (ev : Operand → AV) (h : Heap RU) (nw : Nat) (K : AV → Heap RU → List Nat → Out RU) : eF op ev h nw K = evalE tabQ kindsQ op ev h nw K := by
  cases op <;> try rfl
  case alloc T =>
    show eAlloc T ev h nw K = _
    unfold eAlloc
    cases hR : tabQ T with
    | none => rfl
    | some R =>
      simp only [evalE, hR, evalE0_quick, evalE1]
      cases hp : R.pool
      · rfl
      · simp only [cond_true, eAny, evalE, hR, hp]
  case box T x =>
    show eBox T x ev h nw K = _
    unfold eBox
    cases hR : tabQ T with
    | none => rfl
    | some R =>
      simp only [evalE, hR, evalE0_quick, evalE1]
      cases hp : R.pool
      · rfl
      · simp only [cond_true, eAny, evalE, hR, hp]
  case store T q x =>
    show (match ev q with | .rp o => _ | .ptr id a => _ | .ptrR id i w c => _ | .mp id => _ | _ => _) = _
    simp only [eAny, evalE, evalE0_quick, evalE1, st2, getH_eq]
    generalize ev q = a
    cases hR : tabQ T <;> cases a <;> first | rfl | (simp only [AV.id?]; cases Heap.get h _ <;> rfl)
abbrev StepS := CallF RU → List (Nat × AV) → Heap RU → Nat → (AV → Heap RU → Nat → List Nat → Option Nat → Out RU) → Out RU
def sLz (op : Op) : StepS := fun _ env h nx K => lzF op (evF env) h (fun v rd => K v h nx [] rd)
def sEf (op : Op) : StepS := fun _ env h nx K => eF op (evF env) h nx (fun v h' T => K v h' (nx + 1) T none)
def sVal (f : Operand) (args : List Operand) : StepS := fun C env h nx K => match evF env f with
  | .fn g fs cs => C g (fs ++ args.map (evF env) ++ cs) h nx (fun v h' nx' T => K v h' nx' T none)
  | _ => .bad 200
def sInv (recv : Operand) (m : String) (args : List Operand) : StepS := fun C env h nx K => match evF env recv with
  | .ifc T x => (match methOf tabQ T m with
    | some g => C g (x :: args.map (evF env)) h nx (fun v h' nx' T => K v h' nx' T none)
    | none => .bad 201)
  | _ => .bad 202
structure BoxS where
  run : StepS
def stepC (c : Go.Call) : BoxS := match c.callee with
  | .value f => ⟨sVal f c.args.toList⟩
  | .invoke recv m => ⟨sInv recv m c.args.toList⟩
  | _ => ⟨sEf (.call c)⟩
def boxS (op : Op) : BoxS := cond (isLz op) ⟨sLz op⟩ (match op with
  | .call c => stepC c
  | op => ⟨sEf op⟩)
def stepF (op : Op) : StepS := (boxS op).run
theorem stepF_eq (op : Op) (C : CallF RU) (env : List (Nat × AV)) (h : Heap RU) (nx : Nat) (K : AV → Heap RU → Nat → List Nat → Option Nat → Out RU) : stepF op C env h nx K = stepAny tabQ kindsQ C op env h nx K := by
  unfold stepF boxS stepAny
  cases hl : isLz op with
  | true => simp only [cond_true]; show lzF op (evF env) h _ = _; rw [lzF_eq, evF_eq]
  | false =>
    simp only [cond_false]
    cases op
    case call c =>
      obtain ⟨callee, args, ts⟩ := c
      cases callee
      case value f =>
        show (match evF env f with | .fn g fs cs => _ | _ => _) = _
        simp only [evF_eq]
        cases evO env f <;> rfl
      case invoke recv m =>
        show (match evF env recv with | .ifc T x => _ | _ => _) = _
        simp only [evF_eq]
        cases evO env recv <;> first | rfl | (simp only []; cases methOf tabQ _ m <;> rfl)
      all_goals (simp only [stepC, sEf, eF_eq, evF_eq])
    all_goals (simp only [sEf, eF_eq, evF_eq])

/-! ## regions -/
theorem recB (f t : Out RU) (b : Bool) : @Bool.rec (fun _ => Out RU) f t b = bif b then t else f := by cases b <;> rfl
/-- One step of a region whose order is told beforehand. -/
structure PIt where
  lz : Bool
  n : Nat
  done : List Nat
  o : Oper
  i : Nat
  hold : Option Oper
def planF (ops : Array Oper) : Nat → List Nat → Option (List PIt)
  | 0, _ => none
  | n + 1, done => match firstLazy ops done ops.toList.zipIdx with
    | some (o, i) => (match planF ops n (i :: done) with | some l => some (⟨true, n, done, o, i, none⟩ :: l) | none => none)
    | none => (match readyAll done ops.toList.zipIdx with
      | [] => bif Nat.beq done.length ops.size then some [] else none
      | [q] => (match planF ops n (q.2 :: done) with | some l => some (⟨false, n, done, q.1, q.2, none⟩ :: l) | none => none)
      | q0 :: q1 :: qs => (match firstFl tabQ ops ops.toList.zipIdx with
        | none => none
        | some f => (match ops[f]?, (q0 :: q1 :: qs).filter (notFl f) with
          | some of, [q] => (match planF ops n (q.2 :: done) with | some l => some (⟨false, n, done, q.1, q.2, some of⟩ :: l) | none => none)
          | _, _ => none)))
abbrev Rest := List (Nat × AV) → Heap RU → Nat → List Nat → List (Nat × Nat) → Out RU
def xLz (ops : Array Oper) (it : PIt) (C : CallF RU) (fz : Bool) (K : RS RU → Out RU) (ih : Rest) : Rest := fun env heap nx tl rds =>
  wantK ops env it.o (lzF it.o.op (evF env) heap (fun v rd => ih (putF env it.o.dst v) heap nx tl (putRd it.i rd rds)))
    (ih (putF env it.o.dst (.raw undef)) heap nx tl rds) (.bad 222)
    (fun d b => .ite b (exploreD tabQ kindsQ C ops fz it.n it.done ((d, .tt) :: env) heap nx tl rds K) (exploreD tabQ kindsQ C ops fz it.n it.done ((d, .ff) :: env) heap nx tl rds K))
def xEf (ops : Array Oper) (it : PIt) (C : CallF RU) (fz : Bool) (K : RS RU → Out RU) (ih : Rest) : Rest := fun env heap nx tl rds =>
  @Bool.rec (fun _ => Out RU) (wantK ops env it.o (@Bool.rec (fun _ => Out RU) (.bad 225) (stepF it.o.op C env heap nx (fun v h' nx' T _ => @Bool.rec (fun _ => Out RU) (.bad 224) (ih (putF env it.o.dst v) h' nx' (T ++ tl) rds) (stableF ops it.i T rds))) (eagerB ops it.i it.o))
    (@Bool.rec (fun _ => Out RU) (.bad 226) (ih (putF env it.o.dst (.raw undef)) heap nx tl rds) (eagerB ops it.i it.o)) (.bad 227)
    (fun d b => .ite b (exploreD tabQ kindsQ C ops fz it.n it.done ((d, .tt) :: env) heap nx tl rds K) (exploreD tabQ kindsQ C ops fz it.n it.done ((d, .ff) :: env) heap nx tl rds K))) (.bad 228) (@Bool.rec (fun _ => Bool) false (@Bool.rec (fun _ => Bool) false (@Bool.rec (fun _ => Bool) true false (noRoF heap)) fz) (isFl tabQ ops it.i))
def xHo (of : Oper) (ops : Array Oper) (it : PIt) (C : CallF RU) (fz : Bool) (K : RS RU → Out RU) (ih : Rest) : Rest := fun env heap nx tl rds =>
  @Bool.rec (fun _ => Out RU) (exploreD tabQ kindsQ C ops fz (it.n + 1) it.done env heap nx tl rds K) (xEf ops it C fz K ih env heap nx tl rds) (fz && mkOk tabQ kindsQ of.op (evF env))
structure BoxX where
  run : CallF RU → Bool → (RS RU → Out RU) → Rest → Rest
def boxX (ops : Array Oper) (it : PIt) : BoxX := cond it.lz ⟨xLz ops it⟩ (match it.hold with | none => ⟨xEf ops it⟩ | some of => ⟨xHo of ops it⟩)
def xIt (C : CallF RU) (ops : Array Oper) (fz : Bool) (K : RS RU → Out RU) (it : PIt) (ih : Rest) : Rest := (boxX ops it).run C fz K ih
abbrev Rest4 := List (Nat × AV) → Heap RU → Nat → List Nat → Out RU
def exec (C : CallF RU) (ops : Array Oper) (fz : Bool) (K : RS RU → Out RU) (K4 : Rest4) (l : List PIt) : Rest :=
  @List.rec PIt (fun _ => Rest) (fun env heap nx tl _ => K4 env heap nx tl) (fun it _ ih => xIt C ops fz K it ih) l

theorem hold_one {fz : Bool} {env : List (Nat × AV)} {ops : Array Oper} (q : Oper × Nat) : hold tabQ kindsQ ops fz env [q] = [q] := rfl
theorem exec_eq (C : CallF RU) (ops : Array Oper) (fz : Bool) (K : RS RU → Out RU) (K4 : Rest4) (hK : ∀ e h n t d r, K ⟨e, h, n, t, d, r⟩ = K4 e h n t) : ∀ (n : Nat) (done : List Nat) (l : List PIt), planF ops n done = some l →
    ∀ env heap nx tl rds, exec C ops fz K K4 l env heap nx tl rds = exploreD tabQ kindsQ C ops fz n done env heap nx tl rds K := by
  intro n
  induction n with
  | zero => intro done l h; cases h
  | succ n ih =>
    intro done l h env heap nx tl rds
    have lzstep : ∀ (o : Oper) (i : Nat) (l' : List PIt), planF ops n (i :: done) = some l' → firstLazy ops done ops.toList.zipIdx = some (o, i) →
        exec C ops fz K K4 (⟨true, n, done, o, i, none⟩ :: l') env heap nx tl rds = exploreD tabQ kindsQ C ops fz (n + 1) done env heap nx tl rds K := by
      intro o i l' hp hf
      show xLz ops ⟨true, n, done, o, i, none⟩ C fz K (exec C ops fz K K4 l') env heap nx tl rds = _
      unfold xLz
      rw [wantK_eq, exploreD, hf]
      simp only [putF_eq]
      have e : exec C ops fz K K4 l' = fun env heap nx tl rds => exploreD tabQ kindsQ C ops fz n (i :: done) env heap nx tl rds K := by
        funext env heap nx tl rds; exact ih _ _ hp env heap nx tl rds
      rw [e, lzF_eq, evF_eq]
      cases want? ops env o <;> rfl
    have efstep : ∀ (q : Oper × Nat) (ho : Option Oper) (l' : List PIt), planF ops n (q.2 :: done) = some l' →
        xEf ops ⟨false, n, done, q.1, q.2, ho⟩ C fz K (exec C ops fz K K4 l') env heap nx tl rds = bothAll ([q].map fun q => (bif isFl tabQ ops q.2 && fz && !(noRo heap) then .bad 228 else match want? ops env q.1 with
        | .yes => bif eagerB ops q.2 q.1 then stepAny tabQ kindsQ C q.1.op env heap nx (fun v h' nx' T _ => bif stable ops q.2 T rds then exploreD tabQ kindsQ C ops fz n (q.2 :: done) (envPut env q.1.dst v) h' nx' (T ++ tl) rds K else .bad 224) else .bad 225
        | .no => bif eagerB ops q.2 q.1 then exploreD tabQ kindsQ C ops fz n (q.2 :: done) (envPut env q.1.dst (.raw undef)) heap nx tl rds K else .bad 226
        | .ask d b => .ite b (exploreD tabQ kindsQ C ops fz n done ((d, .tt) :: env) heap nx tl rds K) (exploreD tabQ kindsQ C ops fz n done ((d, .ff) :: env) heap nx tl rds K)
        | .bad => .bad 227)) := by
      intro q ho l' hp
      unfold xEf
      have e : exec C ops fz K K4 l' = fun env heap nx tl rds => exploreD tabQ kindsQ C ops fz n (q.2 :: done) env heap nx tl rds K := by
        funext env heap nx tl rds; exact ih _ _ hp env heap nx tl rds
      rw [e]
      simp only [List.map_cons, List.map_nil, bothAll, stepF_eq, wantK_eq, putF_eq, recB, stableF_eq, noRoF_eq]
      rw [show (@Bool.rec (fun _ => Bool) false (@Bool.rec (fun _ => Bool) false (@Bool.rec (fun _ => Bool) true false (noRo heap)) fz) (isFl tabQ ops q.2)) = (isFl tabQ ops q.2 && fz && !(noRo heap)) by cases isFl tabQ ops q.2 <;> cases fz <;> cases noRo heap <;> rfl]
    rw [planF] at h
    split at h
    · rename_i o i hf
      split at h
      · rename_i l' hp
        cases h
        exact lzstep o i l' hp hf
      · cases h
    · rename_i hf
      split at h
      · rename_i hr
        cases hb : Nat.beq done.length ops.size with
        | false => rw [hb] at h; cases h
        | true =>
          rw [hb] at h; cases h
          rw [exploreD, hf]
          simp only [hr, show hold tabQ kindsQ ops fz env [] = [] from rfl, hb, cond_true]
          exact (hK _ _ _ _ _ _).symm
      · rename_i q hr
        split at h
        · rename_i l' hp
          cases h
          rw [exploreD, hf]
          simp only [hr, hold_one]
          exact efstep q none l' hp
        · cases h
      · rename_i q0 q1 qs hr
        split at h
        · cases h
        · rename_i f hff
          split at h
          · rename_i of q hof hq
            split at h
            · rename_i l' hp
              cases h
              show xHo of ops ⟨false, n, done, q.1, q.2, some of⟩ C fz K (exec C ops fz K K4 l') env heap nx tl rds = _
              unfold xHo
              rw [evF_eq]
              cases hc : (fz && mkOk tabQ kindsQ of.op (evO env)) with
              | false => rfl
              | true =>
                show xEf ops ⟨false, n, done, q.1, q.2, some of⟩ C fz K (exec C ops fz K K4 l') env heap nx tl rds = _
                rw [efstep q (some of) l' hp, exploreD, hf]
                have hh : hold tabQ kindsQ ops fz env (q0 :: q1 :: qs) = [q] := by
                  unfold hold
                  have : Nat.ble (q0 :: q1 :: qs).length 1 = false := rfl
                  rw [this]
                  simp only [cond_false, hff, hof, hc, cond_true, hq]
                  rfl
                simp only [hr]
                rw [hh]
                rfl
            · cases h
          · cases h

def sIt (C : CallF RU) (ops : Array Oper) (nt : Nat) (K : St RU → Out RU) (o : Oper) (rest : List Oper) (ih : Rest4) : Rest4 := fun env heap nx tl =>
  wantK ops env o (stepF o.op C env heap nx (fun v h' nx' T _ => ih (putF env o.dst v) h' nx' (T ++ tl)))
    (ih (putF env o.dst (.raw undef)) heap nx tl) (.bad 211)
    (fun _ _ => seqOps tabQ kindsQ C ops (o :: rest) ⟨env, heap, nx, nt, tl⟩ K)
def seqF (C : CallF RU) (ops : Array Oper) (nt : Nat) (K : St RU → Out RU) (K4 : Rest4) (l : List Oper) : Rest4 :=
  @List.rec Oper (fun _ => Rest4) K4 (fun o rest ih => sIt C ops nt K o rest ih) l
theorem seqF_eq (C : CallF RU) (ops : Array Oper) (nt : Nat) (K : St RU → Out RU) (K4 : Rest4) (hK : ∀ e h n t, K ⟨e, h, n, nt, t⟩ = K4 e h n t) : ∀ (l : List Oper) env heap nx tl, seqF C ops nt K K4 l env heap nx tl = seqOps tabQ kindsQ C ops l ⟨env, heap, nx, nt, tl⟩ K
  | [], env, heap, nx, tl => (hK _ _ _ _).symm
  | o :: rest, env, heap, nx, tl => by
    show sIt C ops nt K o rest (seqF C ops nt K K4 rest) env heap nx tl = _
    have e : seqF C ops nt K K4 rest = fun env heap nx tl => seqOps tabQ kindsQ C ops rest ⟨env, heap, nx, nt, tl⟩ K := by
      funext env heap nx tl; exact seqF_eq C ops nt K K4 hK rest env heap nx tl
    unfold sIt
    rw [e, seqOps]
    simp only [stepF_eq, wantK_eq, putF_eq]
    cases want? ops env o <;> rfl

/-! ## code -/
section
variable {P : Program}
abbrev RunS := Nat → Code → St RU → (EX → St RU → Out RU) → Out RU
abbrev KonS := EX → St RU → Out RU
def forceNat (n : Nat) (F : Nat → Out RU) : Out RU := @Nat.rec (fun _ => Out RU) (F 0) (fun m _ => F (m + 1)) n
theorem forceNat_eq (n : Nat) (F : Nat → Out RU) : forceNat n F = F n := by cases n <;> rfl
def cfgQ (P : Program) (fns : Nat → Option Func) (hooks : Nat → Option (HookS RU)) (loops : Nat → Nat → Option (LoopS RU)) : Cfg P RU := ⟨tabQ, kindsQ, fns, hooks, loops⟩
structure BoxR where
  run : St RU → (AV → Out RU) → Out RU
def boxR (l : List ResultVar) (fn : Func) : BoxR := match l with
  | [.tmp t] => ⟨fun s K => K (getF s.env t)⟩
  | [] => ⟨fun s K => K (.tup [])⟩
  | [.tmp t, .tmp u] => ⟨fun s K => K (.tup [getF s.env t, getF s.env u])⟩
  | _ => ⟨fun s K => resAll tabQ fn s K⟩
def resF (fn : Func) (s : St RU) (K : AV → Out RU) : Out RU := (boxR fn.results.toList fn).run s K
theorem resF_eq (fn : Func) (s : St RU) (K : AV → Out RU) : resF fn s K = resAll tabQ fn s K := by
  unfold resF boxR
  split
  · rename_i t h; simp only [resAll, h, resList, resOne, getF_eq]
  · rename_i h; simp only [resAll, h, resList]
  · rename_i t u h; simp only [resAll, h, resList, resOne, getF_eq]
  · rfl
def retK (fn : Func) (k : AV → Heap RU → Nat → List Nat → Out RU) : KonS := fun e s' => @EX.rec (fun _ => Out RU) (resF fn s' fun v => k v s'.heap s'.nx s'.tl) (resF fn s' fun v => k v s'.heap s'.nx s'.tl) (fun _ => .bad 301) e
def callQ (fns : Nat → Option Func) (hooks : Nat → Option (HookS RU)) (ih : RunS) : CallF RU := fun g args h nx k => match hooks g with
  | some H => H args h nx k
  | none => (match fns g with
    | some fn => (match fn.body with
      | some body => bif Nat.ble args.length fn.ntmps then ih g body ⟨argsEnv 0 args, h, nx, fn.ntmps, []⟩ (retK fn k) else .bad 302
      | none => .bad 303)
    | none => .bad 304)
def kDrawn (C : CallF RU) (ops : Array Oper) (s : St RU) (K : KonS) : Out RU := forceNat s.nt fun nt =>
  bif regOk nt ops then (match planF ops (ops.size + ops.size + 2) [] with
    | some l => exec C ops (noRoF s.heap) (fun x => K .nx ⟨x.env, x.heap, x.nx, nt, x.tl⟩) (fun env heap nx tl => K .nx ⟨env, heap, nx, nt, tl⟩) l s.env s.heap s.nx s.tl []
    | none => exploreD tabQ kindsQ C ops (noRo s.heap) (ops.size + ops.size + 2) [] s.env s.heap s.nx s.tl [] (fun x => K .nx ⟨x.env, x.heap, x.nx, nt, x.tl⟩)) else .bad 305
def kSeqR (C : CallF RU) (ops : Array Oper) (s : St RU) (K : KonS) : Out RU := forceNat s.nt fun nt =>
  bif dstsOk nt ops then seqF C ops nt (K .nx) (fun env heap nx tl => K .nx ⟨env, heap, nx, nt, tl⟩) ops.toList s.env s.heap s.nx s.tl else .bad 306
def kReg (P : Program) (fns : Nat → Option Func) (hooks : Nat → Option (HookS RU)) (loops : Nat → Nat → Option (LoopS RU)) (ih : RunS) (f id : Nat) (ops : Array Oper) (draw : Bool) (s : St RU) (K : KonS) : Out RU := match loops f (1000000 + id) with
  | some L => .need (RegFor P f id (.region id ops draw) L) (L s K)
  | none => cond draw (kDrawn (callQ fns hooks ih) ops s K) (kSeqR (callQ fns hooks ih) ops s K)
def kCond (ih : RunS) (f : Nat) (c : Operand) (t e : Code) (s : St RU) (K : KonS) : Out RU := match evF s.env c with
  | .tt => ih f t s K
  | .ff => ih f e s K
  | .bool b => .ite b (ih f t s K) (ih f e s K)
  | .may neg b => .maybe b (ih f (bif neg then e else t) s K) (ih f (bif neg then t else e) s K)
  | _ => .bad 307
def seqK (ih : RunS) (f : Nat) (b : Code) (K : KonS) : KonS := fun e s' => @EX.rec (fun _ => Out RU) (ih f b s' K) (K .rt s') (fun id => K (.ex id) s') e
def blkK (id : Nat) (K : KonS) : KonS := fun e s' => match e with
  | .nx => K .nx s'
  | .rt => K .rt s'
  | .ex j => bif Nat.beq j id then K .nx s' else K (.ex j) s'
def loopK (ih : RunS) (f : Nat) (body : Code) (s : St RU) (K : KonS) : KonS := fun e s' => match e with
  | .nx => ih f (.loop body) ⟨backF s.env s'.env, s'.heap, s'.nx, s'.nt, s'.tl⟩ K
  | .rt => K .rt s'
  | .ex j => K (.ex j) s'
def kBlock (P : Program) (loops : Nat → Nat → Option (LoopS RU)) (ih : RunS) (f id : Nat) (body : Code) (s : St RU) (K : KonS) : Out RU := match loops f id, body with
  | some L, .loop lb => .need (LoopFor P f id lb L) (L s K)
  | _, body => ih f body s (blkK id K)
structure BoxC where
  run : RunS → Nat → St RU → KonS → Out RU
def boxC (P : Program) (fns : Nat → Option Func) (hooks : Nat → Option (HookS RU)) (loops : Nat → Nat → Option (LoopS RU)) (c : Code) : BoxC := match c with
  | .skip => ⟨fun _ _ s K => K .nx s⟩
  | .region id ops draw => ⟨fun ih f s K => kReg P fns hooks loops ih f id ops draw s K⟩
  | .seq a b => ⟨fun ih f s K => ih f a s (seqK ih f b K)⟩
  | .cond c t e => ⟨fun ih f s K => kCond ih f c t e s K⟩
  | .block id body => ⟨fun ih f s K => kBlock P loops ih f id body s K⟩
  | .loop body => ⟨fun ih f s K => ih f body s (loopK ih f body s K)⟩
  | .exit id => ⟨fun _ _ s K => K (.ex id) s⟩
  | .ret => ⟨fun _ _ s K => K .rt s⟩
  | .label _ => ⟨fun _ _ s K => K .nx s⟩
  | _ => ⟨fun _ _ _ _ => .bad 308⟩
def codeStep (P : Program) (fns : Nat → Option Func) (hooks : Nat → Option (HookS RU)) (loops : Nat → Nat → Option (LoopS RU)) (ih : RunS) : RunS := fun f c s K => (boxC P fns hooks loops c).run ih f s K
def fastCode (P : Program) (fns : Nat → Option Func) (hooks : Nat → Option (HookS RU)) (loops : Nat → Nat → Option (LoopS RU)) (n : Nat) : RunS :=
  @Nat.rec (fun _ => RunS) (fun _ _ _ _ => .bad 300) (fun _ ih => codeStep P fns hooks loops ih) n
theorem fast_eq (fns : Nat → Option Func) (hooks : Nat → Option (HookS RU)) (loops : Nat → Nat → Option (LoopS RU)) : ∀ n, fastCode P fns hooks loops n = runCode (cfgQ P fns hooks loops) n
  | 0 => by funext f c s K; simp only [runCode]; rfl
  | n + 1 => by
    funext f c s K
    show codeStep P fns hooks loops (fastCode P fns hooks loops n) f c s K = _
    rw [fast_eq fns hooks loops n]
    cases c
    case region id ops draw =>
      show kReg P fns hooks loops (runCode (cfgQ P fns hooks loops) n) f id ops draw s K = _
      unfold kReg
      simp only [runCode]
      rw [show (cfgQ P fns hooks loops).loops f (1000000 + id) = loops f (1000000 + id) from rfl]
      cases loops f (1000000 + id) with
      | some L => rfl
      | none =>
        simp only
        cases draw with
        | true =>
          simp only [cond_true]
          unfold kDrawn
          rw [forceNat_eq]
          cases regOk s.nt ops with
          | false => rfl
          | true =>
            simp only [cond_true]
            cases hp : planF ops (ops.size + ops.size + 2) [] with
            | none =>
              refine congrArg (fun C => exploreD tabQ kindsQ C ops (noRo s.heap) (ops.size + ops.size + 2) [] s.env s.heap s.nx s.tl [] (fun x => K .nx ⟨x.env, x.heap, x.nx, s.nt, x.tl⟩)) ?_
              funext g args h nx k
              unfold callQ
              rw [show (cfgQ P fns hooks loops).hooks g = hooks g from rfl]
              cases hooks g with
              | some H => rfl
              | none =>
                simp only
                rw [show (cfgQ P fns hooks loops).fns g = fns g from rfl]
                cases fns g with
                | none => rfl
                | some fn =>
                  simp only
                  cases fn.body with
                  | none => rfl
                  | some body =>
                    simp only
                    refine congrArg (fun K => bif Nat.ble args.length fn.ntmps then runCode (cfgQ P fns hooks loops) n g body ⟨argsEnv 0 args, h, nx, fn.ntmps, []⟩ K else .bad 302) ?_
                    funext e s'; cases e <;> first | exact resF_eq _ _ _ | rfl
            | some l =>
              rw [noRoF_eq]
              refine (exec_eq (callQ fns hooks (runCode (cfgQ P fns hooks loops) n)) ops (noRo s.heap) (fun x => K .nx ⟨x.env, x.heap, x.nx, s.nt, x.tl⟩) (fun env heap nx tl => K .nx ⟨env, heap, nx, s.nt, tl⟩) (fun e h n t d r => rfl) _ _ l hp _ _ _ _ _).trans ?_
              refine congrArg (fun C => exploreD tabQ kindsQ C ops (noRo s.heap) (ops.size + ops.size + 2) [] s.env s.heap s.nx s.tl [] (fun x => K .nx ⟨x.env, x.heap, x.nx, s.nt, x.tl⟩)) ?_
              funext g args h nx k
              unfold callQ
              rw [show (cfgQ P fns hooks loops).hooks g = hooks g from rfl]
              cases hooks g with
              | some H => rfl
              | none =>
                simp only
                rw [show (cfgQ P fns hooks loops).fns g = fns g from rfl]
                cases fns g with
                | none => rfl
                | some fn =>
                  simp only
                  cases fn.body with
                  | none => rfl
                  | some body =>
                    simp only
                    refine congrArg (fun K => bif Nat.ble args.length fn.ntmps then runCode (cfgQ P fns hooks loops) n g body ⟨argsEnv 0 args, h, nx, fn.ntmps, []⟩ K else .bad 302) ?_
                    funext e s'; cases e <;> first | exact resF_eq _ _ _ | rfl
        | false =>
          simp only [cond_false]
          unfold kSeqR
          rw [forceNat_eq]
          cases dstsOk s.nt ops with
          | false => rfl
          | true =>
              simp only [cond_true]
              refine (seqF_eq (callQ fns hooks (runCode (cfgQ P fns hooks loops) n)) ops s.nt (K .nx) (fun env heap nx tl => K .nx ⟨env, heap, nx, s.nt, tl⟩) (fun e h n t => rfl) _ _ _ _ _).trans ?_
              refine congrArg (fun C => seqOps tabQ kindsQ C ops ops.toList s (K .nx)) ?_
              funext g args h nx k
              unfold callQ
              rw [show (cfgQ P fns hooks loops).hooks g = hooks g from rfl]
              cases hooks g with
              | some H => rfl
              | none =>
                simp only
                rw [show (cfgQ P fns hooks loops).fns g = fns g from rfl]
                cases fns g with
                | none => rfl
                | some fn =>
                  simp only
                  cases fn.body with
                  | none => rfl
                  | some body =>
                    simp only
                    refine congrArg (fun K => bif Nat.ble args.length fn.ntmps then runCode (cfgQ P fns hooks loops) n g body ⟨argsEnv 0 args, h, nx, fn.ntmps, []⟩ K else .bad 302) ?_
                    funext e s'; cases e <;> first | exact resF_eq _ _ _ | rfl
    case seq a b =>
      show runCode _ n f a s (seqK _ f b K) = _
      simp only [runCode]
      congr 1
      funext e s'; cases e <;> rfl
    case cond c t e =>
      show kCond _ f c t e s K = _
      simp only [runCode, kCond, evF_eq]
      cases evO s.env c <;> rfl
    case block id body =>
      show kBlock P loops _ f id body s K = _
      simp only [runCode, kBlock]
      have hb : blkK id K = (fun e s' => match e with
          | .nx => K .nx s'
          | .rt => K .rt s'
          | .ex j => bif Nat.beq j id then K .nx s' else K (.ex j) s') := by funext e s'; cases e <;> rfl
      rw [hb, show (cfgQ P fns hooks loops).loops f id = loops f id from rfl]
      cases loops f id <;> cases body <;> rfl
    case loop body =>
      show runCode _ n f body s (loopK _ f body s K) = _
      simp only [runCode]
      congr 1
      funext e s'; cases e <;> first | rfl | (show runCode _ n f _ _ _ = _; rw [backF_eq])
    all_goals (simp only [runCode]; rfl)
end
end
end Sx
end Go.Proofs.YtnegocgblmdihaaGreatDoor

