/-
  Rows of rows of operations among a law's arguments: what the memory below tells of them.
-/
import Derived.Test.YtnegocgblmdihaaGreatDoorCuttingP7
import Derived.Test.YtnegocgblmdihaaGreatDoorRows
namespace Go.Proofs.YtnegocgblmdihaaGreatDoor
namespace Sx
open Go
set_option linter.unusedSimpArgs false
set_option linter.unusedVariables false

/-- All that a world's memory tells. -/
def baseSees (W : World) : RPool := fun b o d => ∃ c T fz v, whole W b = some (.cells c T fz) ∧ c[o]? = some v ∧ d.is v
theorem baseSees_in (W : World) : (baseSees W).inG (whole W) := fun b o d h => h

theorem four_of {α : Type} : ∀ {l : List α}, l.length = 4 → ∃ a b c d, l = [a, b, c, d]
  | [a, b, c, d], _ => ⟨a, b, c, d, rfl⟩
  | [], h => by cases h
  | [_], h => by cases h
  | [_, _], h => by cases h
  | [_, _, _], h => by cases h
  | _ :: _ :: _ :: _ :: _ :: _, h => by simp at h
theorem reads_op : Reads Tryz.prog 49 Opr.lay (fun _ => True) := by
  intro H enc W base spare held fuel cs x hx
  obtain ⟨hl, hf⟩ := trod_fields ty49_met.kind hx
  obtain ⟨_, _, h0⟩ := hf 0 0 3 rfl
  obtain ⟨_, _, h1⟩ := hf 1 1 3 rfl
  obtain ⟨_, _, h2⟩ := hf 2 2 3 rfl
  obtain ⟨_, _, h3⟩ := hf 3 3 3 rfl
  have hc : Tryz.prog.cellsOf 3 = 1 := by kernel_rfl
  have hs : Tryz.prog.cellsOf 49 = 4 := by kernel_rfl
  rw [hc] at h0 h1 h2 h3
  rw [hs] at hl
  obtain ⟨z0, e0, _⟩ := DataW.trod_int Tryz.underlying3 h0
  obtain ⟨z1, e1, _⟩ := DataW.trod_int Tryz.underlying3 h1
  obtain ⟨z2, e2, _⟩ := DataW.trod_int Tryz.underlying3 h2
  obtain ⟨z3, e3, _⟩ := DataW.trod_int Tryz.underlying3 h3
  obtain ⟨a, b, c, d, rfl⟩ := four_of hl
  simp at e0 e1 e2 e3
  subst e0; subst e1; subst e2; subst e3
  exact ⟨⟨z0, z1, z2, z3⟩, relL_cons.2 ⟨rfl, relL_cons.2 ⟨rfl, relL_cons.2 ⟨rfl, relL_cons.2 ⟨rfl, relL_nil⟩⟩⟩⟩, trivial⟩
/-- Cells of the memory, one by one. -/
theorem cells_see {W : World} {a : Addr} {k w : Nat} {cs : List Value} (h : W.cells? 0 (a.add k) w = some cs) : cs.length = w ∧ ∀ j v, cs[j]? = some v → ∃ c T fz, whole W a.block = some (.cells c T fz) ∧ c[a.off + k + j]? = some v := by
  obtain ⟨_, g3, g4⟩ := World.cells?_some h
  refine ⟨g3, fun j v hj => ?_⟩
  have hlt := (List.getElem?_eq_some_iff.1 hj).1
  have hz := g4 j (by omega)
  rw [hj] at hz
  obtain ⟨q0, c, T, fz, q1, q2⟩ := cell_at hz
  rw [addr_add, addr_add] at q1
  rw [addr_off, addr_off] at q2
  exact ⟨c, T, fz, q1, q2⟩
theorem cells_spot {W : World} {a : Addr} {w : Nat} {cs : List Value} (hw : 0 < w) (h : W.cells? 0 a w = some cs) : a.spot = none := by
  obtain ⟨_, g3, g4⟩ := World.cells?_some h
  have g5 := g4 0 hw
  have hlt : 0 < cs.length := by omega
  rw [List.getElem?_eq_getElem hlt] at g5
  exact (cell_at g5).1

/-! ## bulk -/
theorem bulk_one {H : Type} (d : DataW H) : 1 ≤ Rows.uptoBulk d := by
  cases d with
  | lit l => cases l <;> simp [Rows.uptoBulk]
  | nil => simp [Rows.uptoBulk]
  | ptr d => simp [Rows.uptoBulk]
  | slice elems spare => simp [Rows.uptoBulk]
  | agg parts => simp [Rows.uptoBulk]
  | iface t d => simp [Rows.uptoBulk]
  | map entries => simp [Rows.uptoBulk]
  | held h => simp [Rows.uptoBulk]
theorem bulk_length {H : Type} (l : List (DataW H)) : l.length ≤ Rows.uptoBulkAll l := by
  induction l with
  | nil => simp [Rows.uptoBulkAll]
  | cons x r ih => have := bulk_one x; simp only [Rows.uptoBulkAll, List.length_cons]; omega
theorem bulk_rows {H : Type} : ∀ {rows : List (List Opr)} {es : List (DataW H)}, rows.length = es.length → (∀ (i : Nat) (r : List Opr) (d : DataW H), rows[i]? = some r → es[i]? = some d → r.length + 1 ≤ Rows.uptoBulk d) → (encRows rows).length ≤ 4 * Rows.uptoBulkAll es
  | [], [], _, _ => by simp [encRows]
  | [], _ :: _, h, _ => by simp at h
  | _ :: _, [], h, _ => by simp at h
  | r :: rows, d :: es, h, k => by
    have ih := bulk_rows (rows := rows) (es := es) (by simpa using h) fun i r d h1 h2 => k (i + 1) r d h1 h2
    have h0 := k 0 r d rfl rfl
    have e : (encRow r).length = 1 + 4 * r.length := by unfold encRow; rw [List.length_cons, flat_length]; omega
    unfold encRows at ih ⊢
    rw [List.flatMap_cons, List.length_append, e]
    simp only [Rows.uptoBulkAll]
    omega

/-- A slice that is gone through: where its elements lie. -/
theorem open_slice {P : Program} {H : Type} {enc : TypeId × Value → H} {W : World} {t e w fuel : Nat} {cs : List Value} {x : DataW H × List MemPlace} (ht : P.underlying t = some (.slice e)) (hc : P.cellsOf e = w) (hw : 0 < w)
    (h : DataW.trod enc P W 0 (fun _ => true) true fuel t cs = some x) :
    ∃ (o : Option (Nat × Nat)) (len cap : Nat) (es : List (DataW H)), (PD.sl o len cap).is (cs.headD undef) ∧ cs.length = 1 ∧ len ≤ cap ∧ cap ≤ maxLen ∧ es.length = len ∧ Rows.uptoBulkAll es + 1 ≤ Rows.uptoBulk x.1 ∧
      ∀ i, i < len → ∃ b off m y us, o = some (b, off) ∧ DataW.trod enc P W 0 (fun _ => true) true m e us = some y ∧ es[i]? = some y.1 ∧ us.length = w ∧
      ∀ j v, us[j]? = some v → ∃ c T fz, whole W b = some (.cells c T fz) ∧ c[off + i * w + j]? = some v := by
  rcases DataW.trod_slice ht h with ⟨hcs, rfl⟩ | ⟨a, len, cap, elems, rest, n, _, hcs, rfl, _, hlc, hcm, hlen, hel, hrest, _⟩
  · subst hcs
    exact ⟨none, 0, 0, [], ⟨none, rfl, .inl rfl⟩, rfl, Nat.le_refl _, Nat.zero_le _, rfl, by simp [Rows.uptoBulk, Rows.uptoBulkAll], fun i hi => absurd hi (by omega)⟩
  · subst hcs
    rw [hc] at hel
    refine ⟨some (a.block, a.off), len, cap, elems.map (·.1), ⟨_, rfl, ?_⟩, rfl, hlc, hcm, by rw [List.length_map]; exact hlen, by simp only [Rows.uptoBulk]; omega, fun i hi => ?_⟩
    · rcases Nat.eq_zero_or_pos cap with h1 | h1
      · exact .inl h1
      · have a0 : ∀ n, n = 0 → a.add (n * w) = a := fun n h => by subst h; unfold Addr.add; rw [if_pos (Nat.zero_mul _)]
        have hs : a.spot = none := by
          rcases Nat.eq_zero_or_pos len with h0 | h0
          · obtain ⟨r1, r2⟩ := hrest rfl
            rw [hc] at r2
            have h2 := r2 0 (by omega)
            rw [List.getElem?_eq_getElem (by omega)] at h2
            obtain ⟨cs, h3, _⟩ := Option.bind_eq_some_iff.1 h2
            rw [a0 _ (by omega)] at h3
            exact cells_spot hw h3
          · have h2 := hel 0 h0
            rw [List.getElem?_eq_getElem (by omega)] at h2
            obtain ⟨cs, h3, _⟩ := Option.bind_eq_some_iff.1 h2
            rw [a0 _ rfl] at h3
            exact cells_spot hw h3
        obtain ⟨b, o, s⟩ := a
        simp at hs; subst hs
        exact .inr rfl
    · have h1 := hel i hi
      rw [List.getElem?_eq_getElem (by omega)] at h1
      obtain ⟨us, h2, h3⟩ := Option.bind_eq_some_iff.1 h1
      obtain ⟨g1, g2⟩ := cells_see h2
      exact ⟨a.block, a.off, n, _, us, rfl, h3, by rw [List.getElem?_map, List.getElem?_eq_getElem (by omega)]; rfl, g1, g2⟩

/-- Rows of rows of operations. -/
theorem open_rows {H : Type} {enc : TypeId × Value → H} {W : World} {v : Value} {d : DataW H} {ps : List MemPlace} (h : DataW.Trod enc Tryz.prog W 0 (fun _ => true) true 25 v d ps) (hv : ∃ s l q, v = .slice s l q) :
    ∃ (o : Option (Nat × Nat)) (rows : List (List Opr)) (c : Nat), (∀ r : Nm, rel r (.rw o rows.length c) v) ∧ RowsAt (baseSees W) o rows.length c rows ∧ (encRows rows).length ≤ 4 * Rows.uptoBulk d := by
  obtain ⟨s, l, q, rfl⟩ := hv
  obtain ⟨fuel, hf⟩ := h
  obtain ⟨o, len, cap, es, hi, _, hle, hcm, hes, hbk, hel⟩ := open_slice Tryz.underlying25 (w := 1) (by kernel_rfl) (by decide) hf
  have each : ∀ i, i < (List.range len).length → ∃ row : List Opr, (∃ o' c', (baseSees W).at (shiftA o i) [.sl o' row.length c'] ∧ row.length ≤ c' ∧ row.length ≤ maxLen ∧ ∀ k x, row[k]? = some x → (baseSees W).at (shiftA o' (k * 4)) (flatO x)) ∧ ∀ d', es[i]? = some d' → row.length + 1 ≤ Rows.uptoBulk d' := by
    intro i hi
    rw [List.length_range] at hi
    obtain ⟨b, off, m, y, us, rfl, h1, hye, h2, h3⟩ := hel i hi
    obtain ⟨o', len', cap', es', hi', hl1, hle', hcm', hes', hbk', hel'⟩ := open_slice Tryz.underlying47 (w := 4) (by kernel_rfl) (by decide) h1
    have each' : ∀ k, k < (List.range len').length → ∃ x : Opr, (baseSees W).at (shiftA o' (k * 4)) (flatO x) := by
      intro k hk
      rw [List.length_range] at hk
      obtain ⟨b', off', m', y', us', rfl, k1, _, k2, k3⟩ := hel' k hk
      obtain ⟨x, hx, _⟩ := reads_op _ _ _ _ _ _ _ _ _ k1
      refine ⟨x, b', off' + k * 4, rfl, fun j d hj => ?_⟩
      have hx : relL (fun _ => none) [.int .i64 x.act, .int .i64 x.key, .int .i64 x.value, .int .i64 x.weight] us' := hx
      simp only [relL] at hx
      obtain ⟨v0, r0, rfl, e0, v1, r1, rfl, e1, v2, r2, rfl, e2, v3, r3, rfl, e3, rfl⟩ := hx
      have e0 : v0 = .int .i64 x.act := e0
      have e1 : v1 = .int .i64 x.key := e1
      have e2 : v2 = .int .i64 x.value := e2
      have e3 : v3 = .int .i64 x.weight := e3
      subst e0; subst e1; subst e2; subst e3
      have hd : ∃ v, [Value.int .i64 x.act, .int .i64 x.key, .int .i64 x.value, .int .i64 x.weight][j]? = some v ∧ d.is v := by
        match j, hj with
        | 0, hj => cases hj; exact ⟨_, rfl, rfl⟩
        | 1, hj => cases hj; exact ⟨_, rfl, rfl⟩
        | 2, hj => cases hj; exact ⟨_, rfl, rfl⟩
        | 3, hj => cases hj; exact ⟨_, rfl, rfl⟩
        | n + 4, hj => simp [flatO] at hj
      obtain ⟨v, hv, hdv⟩ := hd
      obtain ⟨c, T, fz, q1, q2⟩ := k3 j v hv
      exact ⟨c, T, fz, v, q1, q2, hdv⟩
    obtain ⟨row, r1, r2⟩ := list_pick each'
    rw [List.length_range] at r1
    refine ⟨row, ⟨o', cap', ⟨b, off + i, rfl, fun j d hj => ?_⟩, by omega, by omega, fun k x hx => r2 k x hx⟩, fun d' hd' => ?_⟩
    · match j, hj with
      | 0, hj =>
        cases hj
        match us, h2 with
        | [u], _ =>
          obtain ⟨c, T, fz, q1, q2⟩ := h3 0 u rfl
          rw [r1]
          exact ⟨c, T, fz, u, q1, by rw [Nat.mul_one] at q2; exact q2, hi'⟩
      | n + 1, hj => simp at hj
    · rw [hye] at hd'; cases hd'
      have := bulk_length es'
      omega
  obtain ⟨rows, r1, r2⟩ := list_pick each
  rw [List.length_range] at r1
  refine ⟨o, rows, cap, fun r => ?_, ⟨fun i row hr => (r2 i row hr).1, rfl, by omega, by omega⟩, ?_⟩
  · rw [r1]; exact hi
  · have := bulk_rows (rows := rows) (es := es) (by omega) fun i r d h1 h2 => (r2 i r h1).2 d h2
    have hbk : Rows.uptoBulkAll es + 1 ≤ Rows.uptoBulk d := hbk
    omega

theorem six_of {α : Type} {l : List α} (h : l.length = 6) : ∃ a b c d e f, l = [a, b, c, d, e, f] := by
  match l with
  | [] => simp at h
  | a :: l =>
    have h : l.length = 5 := Nat.succ.inj h
    match l with
    | [] => simp at h
    | b :: l =>
      have h : l.length = 4 := Nat.succ.inj h
      match l with
      | [] => simp at h
      | c :: l =>
        have h : l.length = 3 := Nat.succ.inj h
        match l with
        | [] => simp at h
        | d :: l =>
          have h : l.length = 2 := Nat.succ.inj h
          match l with
          | [] => simp at h
          | e :: l =>
            have h : l.length = 1 := Nat.succ.inj h
            match l with
            | [] => simp at h
            | f :: l =>
              have h : l.length = 0 := Nat.succ.inj h
              match l with
              | [] => exact ⟨a, b, c, d, e, f, rfl⟩
              | _ :: _ => simp at h
/-- A configuration. -/
theorem open_conf {H : Type} {enc : TypeId × Value → H} {W : World} {v : Value} {d : DataW H} {ps : List MemPlace} (h : DataW.Trod enc Tryz.prog W 0 (fun _ => true) true 24 v d ps) (hv : ∃ cs, v = .agg cs) :
    ∃ c : Conf, ∀ r : Nm, rel r (.agg [.int .i64 c.c0, .int .i64 c.c1, .int .i64 c.c2, .int .i64 c.c3, .int .i64 c.c4, .int .i64 c.c5]) v := by
  obtain ⟨cs, rfl⟩ := hv
  obtain ⟨fuel, hx⟩ := h
  obtain ⟨hl, hf⟩ := trod_fields ty24_met.kind hx
  obtain ⟨_, _, h0⟩ := hf 0 0 3 rfl
  obtain ⟨_, _, h1⟩ := hf 1 1 3 rfl
  obtain ⟨_, _, h2⟩ := hf 2 2 3 rfl
  obtain ⟨_, _, h3⟩ := hf 3 3 3 rfl
  obtain ⟨_, _, h4⟩ := hf 4 4 3 rfl
  obtain ⟨_, _, h5⟩ := hf 5 5 3 rfl
  have hc : Tryz.prog.cellsOf 3 = 1 := by kernel_rfl
  have hs : Tryz.prog.cellsOf 24 = 6 := by kernel_rfl
  rw [hc] at h0 h1 h2 h3 h4 h5
  rw [hs] at hl
  obtain ⟨z0, e0, _⟩ := DataW.trod_int Tryz.underlying3 h0
  obtain ⟨z1, e1, _⟩ := DataW.trod_int Tryz.underlying3 h1
  obtain ⟨z2, e2, _⟩ := DataW.trod_int Tryz.underlying3 h2
  obtain ⟨z3, e3, _⟩ := DataW.trod_int Tryz.underlying3 h3
  obtain ⟨z4, e4, _⟩ := DataW.trod_int Tryz.underlying3 h4
  obtain ⟨z5, e5, _⟩ := DataW.trod_int Tryz.underlying3 h5
  refine ⟨⟨z0, z1, z2, z3, z4, z5⟩, fun r => ⟨[.int .i64 z0, .int .i64 z1, .int .i64 z2, .int .i64 z3, .int .i64 z4, .int .i64 z5], ?_, ?_⟩⟩
  · exact relL_cons.2 ⟨rfl, relL_cons.2 ⟨rfl, relL_cons.2 ⟨rfl, relL_cons.2 ⟨rfl, relL_cons.2 ⟨rfl, relL_cons.2 ⟨rfl, relL_nil⟩⟩⟩⟩⟩⟩
  · refine congrArg Value.agg (Array.ext' ?_)
    generalize hcs : (Value.agg cs).cells.toList = l at hl e0 e1 e2 e3 e4 e5
    have hcs : cs.toList = l := hcs
    rw [hcs]
    obtain ⟨a, b, c, d, e, f, rfl⟩ := six_of hl
    simp at e0 e1 e2 e3 e4 e5
    subst e0; subst e1; subst e2; subst e3; subst e4; subst e5
    rfl
theorem reads_int : Reads Tryz.prog 3 (V.enc Kd.int) (fun _ => True) := by
  intro H enc W base spare held fuel cs x hx
  obtain ⟨z, hz, _, hw⟩ := DataW.trod_int Tryz.underlying3 hx
  exact ⟨z, by rw [hz]; exact relL_cons.2 ⟨rfl, relL_nil⟩, trivial⟩
theorem reads_byte : Reads Tryz.prog 5 (V.enc Kd.byte) (fun z => 0 ≤ z ∧ z ≤ 255) := by
  intro H enc W base spare held fuel cs x hx
  obtain ⟨z, hz, _, hw⟩ := DataW.trod_int Tryz.underlying5 hx
  refine ⟨z, by rw [hz]; exact relL_cons.2 ⟨rfl, relL_nil⟩, ?_⟩
  simp [Lit.wf, IntKind.min, IntKind.max, IntKind.bits, IntKind.signed] at hw
  omega
end Sx
end Go.Proofs.YtnegocgblmdihaaGreatDoor

/-
  Rows compared: the runs of the machine.
-/
namespace Go.Proofs.YtnegocgblmdihaaGreatDoor
namespace Sx
open Go
set_option maxRecDepth 100000
set_option linter.unusedVariables false

/-! Rows of numbers compared. -/
structure WI where
  xs : List Int
  c : Nat
  ys : List Int
  d : Nat
  hl : xs.length = ys.length
  hb : xs.length ≤ 1099511627776
abbrev TQ : List Nat := [0, 1, 2, 3, 4, 5, 6, 7, 8, 9, 10]
def I12 (p : WI) (i : Nat) : St V := ⟨[(0, .sl false 0 0 1 p.xs.length p.c), (1, .sl false 1 0 1 p.ys.length p.d), (5, .int .i64 (i : Int))], [(0, .ro Kd.int p.xs), (1, .ro Kd.int p.ys)], 2, 26, TQ⟩
def R12 (p : WI) : St V := ⟨[(4, .ff)], [(0, .ro Kd.int p.xs), (1, .ro Kd.int p.ys)], 2, 26, TQ⟩
def L12 : LoopS V := trimLoop (trimSt [0, 1, 5] [0, 1]) (loopG 2 (fun p : WI => I12 p 0) (fun p (_ : Unit) => p.xs = p.ys) (fun p _ => I12 p p.xs.length) (fun p (_ : Unit) => p.xs ≠ p.ys) (fun p _ => R12 p))
noncomputable def cfgI1 : Cfg Tryz.prog V := ⟨tab, kinds, fun _ => none, fun _ => none, fun f id => match f, id with | 12, 0 => some L12 | _, _ => none⟩
theorem b12 (p : WI) (i : Nat) : runCode cfg0 60 12 (loopOf Tryz.f12 0) (I12 p i) (stopT (trimSt [0, 1, 4, 5] [0, 1])) = Out.ite (decide ((↑i : Int) < (↑p.xs.length : Int))) (Out.needd (0 ≤ (↑i : Int) ∧ (↑i : Int) < (↑p.xs.length : Int)) (Out.needd (0 + i < p.xs.length) (Out.needd (0 ≤ (↑i : Int) ∧ (↑i : Int) < (↑p.ys.length : Int)) (Out.needd (0 + i < p.ys.length) (Out.ite (p.xs.getD (0 + i) (V.enc Kd.int).dflt != p.ys.getD (0 + i) (V.enc Kd.int).dflt) (Out.stop EX.rt {env := [(0, .sl false 0 0 1 p.xs.length p.2), (1, .sl false 1 0 1 p.ys.length p.4), (4, .ff), (5, .int .i64 (↑i : Int))], heap := [(0, .ro Kd.int p.xs), (1, .ro Kd.int p.ys)], nx := 2, nt := 26, tl := [0, 1, 2, 3, 4, 5, 6, 7, 8, 9, 10] : St V }) (Out.stop EX.nx {env := [(0, .sl false 0 0 1 p.xs.length p.2), (1, .sl false 1 0 1 p.ys.length p.4), (4, .und), (5, .int .i64 (IntKind.i64.wrap ((↑i : Int) + 1)))], heap := [(0, .ro Kd.int p.xs), (1, .ro Kd.int p.ys)], nx := 2, nt := 26, tl := [0, 1, 2, 3, 4, 5, 6, 7, 8, 9, 10] : St V })))))) (Out.stop (EX.ex 0) {env := [(0, .sl false 0 0 1 p.xs.length p.2), (1, .sl false 1 0 1 p.ys.length p.4), (4, .und), (5, .int .i64 (↑i : Int))], heap := [(0, .ro Kd.int p.xs), (1, .ro Kd.int p.ys)], nx := 2, nt := 26, tl := [0, 1, 2, 3, 4, 5, 6, 7, 8, 9, 10] : St V }) := by kernel_rfl

theorem t12 (a b : List Int) (c d : Nat) : runF cfgI1 60 12 Tryz.f12 [.sl false 0 0 1 a.length c, .sl false 1 0 1 b.length d] [(0, .ro Kd.int a), (1, .ro Kd.int b)] 2 = Out.ite ((↑a.length : Int) != (↑b.length : Int)) (Out.fin .ff [(0, .ro Kd.int a), (1, .ro Kd.int b)] 2) (Out.need (LoopFor Tryz.prog 12 0 (loopOf Tryz.f12 0) L12) (Out.ex (WI → Prop) fun y => Out.need (2 ≤ 2 ∧ SImp 2 {env := [(0, .sl false 0 0 1 a.length c), (1, .sl false 1 0 1 b.length d), (5, .lit .i64 0)], heap := [(0, .ro Kd.int a), (1, .ro Kd.int b)], nx := 2, nt := 26, tl := [] : St V } (fun p => I12 p 0) y) (Out.all WI fun y_1 => Out.asm (y y_1) ((Out.all Unit fun y => Out.asm ((fun p x => p.xs = p.ys) y_1 y) (Out.fin .tt [(0, .ro Kd.int y_1.xs), (1, .ro Kd.int y_1.ys)] 2)).both (Out.all Unit fun y => Out.asm ((fun p x => p.xs ≠ p.ys) y_1 y) (Out.fin .ff [(0, .ro Kd.int y_1.xs), (1, .ro Kd.int y_1.ys)] 2)))))) := by kernel_rfl

end Sx
end Go.Proofs.YtnegocgblmdihaaGreatDoor

/-
  Rows of numbers compared.
-/
namespace Go.Proofs.YtnegocgblmdihaaGreatDoor
namespace Sx
open Go
set_option linter.unusedSimpArgs false
set_option linter.unusedVariables false

theorem cfgI1_ok : cfgI1.ok := ⟨tab_met, kinds_met, mixed_met, fun g fn h => (by cases h), fun g H h => (by cases h)⟩
theorem take_next {α : Type} {a b : List α} {d : α} {i : Nat} (ha : i < a.length) (hb : i < b.length) (h : a.take i = b.take i) (e : a.getD i d = b.getD i d) : a.take (i + 1) = b.take (i + 1) := by
  rw [List.take_succ_eq_append_getElem ha, List.take_succ_eq_append_getElem hb, h]
  rw [List.getD_eq_getElem?_getD, List.getElem?_eq_getElem ha, List.getD_eq_getElem?_getD, List.getElem?_eq_getElem hb] at e
  simp only [Option.getD_some] at e
  rw [e]
theorem l12_ok : LoopOk Tryz.prog 0 (loopOf Tryz.f12 0) L12 := by
  refine trimLoop_ok (trim_ok _ _) (loopT_ok (C := cfg0) cfg0_ok (f := 12) (n := 60) (trim_ok [0, 1, 4, 5] [0, 1]) 2 I12 (fun p i => i ≤ p.xs.length ∧ p.xs.take i = p.ys.take i) (fun _ => 0) (fun p i => p.xs.length - i)
    (fun p (_ : Unit) => p.xs = p.ys) (fun p _ => I12 p p.xs.length) (fun p (_ : Unit) => p.xs ≠ p.ys) (fun p _ => R12 p) (fun p => ⟨Nat.zero_le _, rfl⟩) ?_)
  intro p i ⟨hi, ht⟩
  rw [b12]
  have hl := p.hl
  have hb := p.hb
  rw [show (0 + i) = i from Nat.zero_add _, show p.xs.getD i (V.enc Kd.int).dflt = p.xs.getD i 0 from rfl, show p.ys.getD i (V.enc Kd.int).dflt = p.ys.getD i 0 from rfl]
  simp only [Out.holds, decide_eq_true_eq, decide_eq_false_iff_not, bne_iff_ne, bne_eq_false_iff_eq]
  by_cases hlt : i < p.xs.length
  · have hw : IntKind.wrap .i64 ((i : Int) + 1) = ((i + 1 : Nat) : Int) := wrap_nat (by omega)
    refine ⟨fun _ => ⟨by omega, hlt, by omega, by omega, fun h2 => ?_, fun h2 => ?_⟩, fun h => absurd hlt (by omega)⟩
    · refine SImp.of_wk (ren := []) () ?_ (fun e => h2 (by rw [e]))
      exact ⟨⟨AV.sub_same _, trivial⟩, ⟨.same _, .same _, trivial⟩, rfl, tl_ok rfl, ⟨.inr rfl, .inr rfl, trivial⟩, ⟨Nat.le_of_ble_eq_true rfl, rfl⟩⟩
    · refine SImp.of_wk (ren := []) (i + 1) ?_ ⟨⟨hlt, take_next hlt (by omega) ht h2⟩, by omega⟩
      exact ⟨⟨AV.sub_same _, AV.sub_same _, AV.sub_int hw, trivial⟩, ⟨.same _, .same _, trivial⟩, rfl, tl_ok rfl, ⟨.inr rfl, .inr rfl, trivial⟩, ⟨Nat.le_of_ble_eq_true rfl, rfl⟩⟩
  · refine ⟨fun h => absurd h (by omega), fun h => ⟨trivial, ?_⟩⟩
    have he : i = p.xs.length := by omega
    refine SImp.of_wk (ren := []) () ?_ (by rwa [List.take_of_length_le (by omega), List.take_of_length_le (by omega)] at ht)
    exact ⟨⟨AV.sub_same _, AV.sub_same _, AV.sub_int (by rw [he]), trivial⟩, ⟨.same _, .same _, trivial⟩, rfl, tl_ok rfl, ⟨.inr rfl, .inr rfl, trivial⟩, ⟨Nat.le_of_ble_eq_true rfl, rfl⟩⟩
def runInts : RunFree V := fun ar K => match ar with
  | [.rows .int xs c, .rows .int ys d] => .need (xs.length ≤ 1099511627776) (K (.bool (decide (xs = ys))) [])
  | _ => .bad 500
theorem hInts : HookOk Tryz.prog 12 (hookFree [.rows Kd.int, .rows Kd.int] runInts) := by
  refine free_hook (C := cfgI1) cfgI1_ok (n := 60) (fn := Tryz.f12) ⟨by kernel_rfl, by kernel_rfl⟩ (by kernel_rfl) ?_
  intro M ar K0 H
  unfold runInts at H
  split at H
  · rename_i xs c ys d
    obtain ⟨hb, H⟩ := H
    refine ⟨show 2 ≤ _ by decide +kernel, ?_⟩
    show (runF cfgI1 60 12 Tryz.f12 [.sl false 0 0 1 xs.length c, .sl false 1 0 1 ys.length d] [(0, .ro Kd.int xs), (1, .ro Kd.int ys)] 2).holds _
    rw [t12]
    simp only [Out.holds, bne_iff_ne, bne_eq_false_iff_eq]
    refine ⟨fun h => ⟨_, _, H, endPlain (AV.sub_ff (decide_eq_false fun e => h (by rw [e]))) rfl⟩, fun h => ?_⟩
    have hl : xs.length = ys.length := by omega
    refine ⟨l12_ok, fun p => p = ⟨xs, c, ys, d, hl, hb⟩, ⟨Nat.le_refl _, SImp.of_wk (ren := []) ⟨xs, c, ys, d, hl, hb⟩ ?_ rfl⟩, ?_⟩
    · exact ⟨⟨AV.sub_same _, AV.sub_same _, AV.sub_lit', trivial⟩, ⟨.same _, .same _, trivial⟩, rfl, tl_ok rfl, ⟨.inr rfl, .inr rfl, trivial⟩, ⟨Nat.le_of_ble_eq_true rfl, rfl⟩⟩
    · rintro _ rfl
      exact ⟨fun _ e => ⟨_, _, H, endPlain (AV.sub_tt (decide_eq_true e)) rfl⟩, fun _ e => ⟨_, _, H, endPlain (AV.sub_ff (decide_eq_false e)) rfl⟩⟩
  · exact H.elim


end Sx
end Go.Proofs.YtnegocgblmdihaaGreatDoor

/-
  Scripts: the runs of two laws.
-/
namespace Go.Proofs.YtnegocgblmdihaaGreatDoor
namespace Sx
open Go
set_option maxRecDepth 100000
set_option linter.unusedVariables false

noncomputable def hooksL : Nat → Option (HookS V) := fun g => match g with
  | 6 => some hookTrue
  | 7 => some (hookPool (U := V) [.rows Kd.byte] runDec)
  | 8 => some (hookPool (U := V) [.rows Kd.byte] runDec)
  | 9 => some (hookWeak (hookSee (U := V) [.val, .val, .rows Kd.int] runEnc))
  | 10 => some (hookWeak (hookSee (U := V) [.val, .val, .rows Kd.int] runEnc))
  | 11 => some (hookWeak (hookSee (U := V) [.val, .val] runProgs))
  | 12 => some (hookFree (U := V) [.rows Kd.int, .rows Kd.int] runInts)
  | _ => none
noncomputable def cfgL : Cfg Tryz.prog V := ⟨tabP, kinds, fun _ => none, hooksL, fun _ _ => none⟩
end Sx
end Go.Proofs.YtnegocgblmdihaaGreatDoor

/-
  Scripts: the runs of a third law.
-/
namespace Go.Proofs.YtnegocgblmdihaaGreatDoor
namespace Sx
open Go
set_option maxRecDepth 100000
set_option linter.unusedVariables false

/-! Scripts cut at an end of noughts. -/
structure W5 where
  c : Conf
  o : Option (Nat × Nat)
  n : Nat
  rc : Nat
  f : RPool
  l : List Int
  lc : Nat
  more : List Int
  mc : Nat
  b : List Int
  bs : Nat
  d : Conf
  q : List Int
  qs : Nat
  pp : Pool × Rwp
  hl : l.length ≤ 300
  hb : b.length ≤ 1048576
abbrev TL5 : List Nat := [0, 1, 2, 3, 4, 5, 6, 7, 8, 9, 10, 11, 12, 13, 14, 15, 16, 17, 18, 19, 20]
def H5 (p : W5) : Heap V := [(2, .ro Kd.int p.l), (3, .ro Kd.byte p.more), (4, .rpool p.f), (5, .pool p.pp.1), (6, .cells 24 [.int .i64 p.c.c0, .int .i64 p.c.c1, .int .i64 p.c.c2, .int .i64 p.c.c3, .int .i64 p.c.c4, .int .i64 p.c.c5]), (7, .arr 5 Kd.byte p.b p.bs), (11, .arr 3 Kd.int p.q p.qs), (12, .cells 24 [.int .i64 p.d.c0, .int .i64 p.d.c1, .int .i64 p.d.c2, .int .i64 p.d.c3, .int .i64 p.d.c4, .int .i64 p.d.c5])]
def I5 (p : W5) (i : Nat) : St V := ⟨[(1, .rw p.o p.n p.rc), (2, .sl false 2 0 1 p.l.length p.lc), (3, .sl false 3 0 1 p.more.length p.mc), (4, .ptr 6 0), (9, .tt), (10, .sl false 7 0 1 p.b.length (p.b.length + p.bs)), (12, .ptr 12 0), (13, .rs p.pp.2.1 p.pp.2.2.1 p.pp.2.2.2), (14, .sl false 11 0 1 p.q.length (p.q.length + p.qs)), (15, .int .i64 (i : Int))], H5 p, 14, 149, TL5⟩
def C5 (p : W5) (i : Nat) : Prop := i ≤ p.b.length ∧ p.b.length ≤ i + p.l.length ∧ p.b.drop i = List.replicate (p.b.length - i) 0
def L50 : LoopS V := trimLoop (trimSt [1, 2, 3, 4, 9, 10, 12, 13, 14, 15] [2, 3, 4, 5, 6, 7, 11, 12]) (loopG 14 (fun p : W5 => I5 p p.b.length) (fun p (i : Nat) => C5 p i) (fun p i => I5 p i) (fun p (_ : Unit) => False) (fun p _ => I5 p 0))
structure W6 where
  l : List Int
  lc : Nat
  more : List Int
  mc : Nat
  q : List Int
  qs : Nat
  hl : l.length ≤ 300
  hm : more.length ≤ 300
  hq : q.length = l.length + more.length
  hy : Bytes more
def I6 (p : W6) (i : Nat) : St V := ⟨[(2, .sl false 2 0 1 p.l.length p.lc), (3, .sl false 3 0 1 p.more.length p.mc), (9, .tt), (14, .sl false 11 0 1 p.q.length (p.q.length + p.qs)), (19, .int .i64 (i : Int))], [(2, .ro Kd.int p.l), (3, .ro Kd.byte p.more), (11, .arr 3 Kd.int p.q p.qs)], 20, 149, TL5⟩
def R6 (p : W6) : St V := ⟨[(8, .ff)], [(2, .ro Kd.int p.l), (3, .ro Kd.byte p.more), (11, .arr 3 Kd.int p.q p.qs)], 20, 149, TL5⟩
def L52 : LoopS V := trimLoop (trimSt [2, 3, 9, 14, 19] [2, 3, 11]) (loopG 20 (fun p : W6 => I6 p 0) (fun p (_ : Unit) => p.q.drop p.l.length = p.more) (fun p _ => I6 p p.more.length) (fun p (_ : Unit) => p.q.drop p.l.length ≠ p.more) (fun p _ => R6 p))
noncomputable def cfgC : Cfg Tryz.prog V := ⟨tabP, kinds, fun _ => none, hooksL, fun f id => match f, id with | 5, 0 => some L50 | 5, 2 => some L52 | _, _ => none⟩
theorem b50 (p : W5) (i : Nat) : runCode cfg0 60 5 (loopOf Tryz.f5 0) (I5 p i) (stopT (trimSt [1, 2, 3, 4, 9, 10, 12, 13, 14, 15] [2, 3, 4, 5, 6, 7, 11, 12])) = Out.ite (decide ((↑i : Int) > (0 : Int))) (Out.needd ((0 : Int) ≤ IntKind.i64.wrap ((↑i : Int) - (1 : Int)) ∧ IntKind.i64.wrap ((↑i : Int) - (1 : Int)) < (↑p.b.length : Int)) (Out.needd ((0 : Nat) + (IntKind.i64.wrap ((↑i : Int) - (1 : Int))).toNat < p.b.length) (Out.ite (p.b.getD ((0 : Nat) + (IntKind.i64.wrap ((↑i : Int) - (1 : Int))).toNat) (V.enc Kd.byte).dflt == (0 : Int)) (Out.ite (decide ((↑i : Int) > IntKind.i64.wrap ((↑p.b.length : Int) - (↑p.l.length : Int)))) (Out.stop EX.nx {env := [((1 : Nat), AV.rw p.o p.3 p.4), ((2 : Nat), .sl false (2 : Nat) (0 : Nat) (1 : Nat) p.l.length p.7), ((3 : Nat), .sl false (3 : Nat) (0 : Nat) (1 : Nat) p.more.length p.9), ((4 : Nat), .ptr (6 : Nat) (0 : Nat)), ((9 : Nat), .tt), ((10 : Nat), .sl false (7 : Nat) (0 : Nat) (1 : Nat) p.b.length (p.b.length + p.11)), ((12 : Nat), .ptr (12 : Nat) (0 : Nat)), ((13 : Nat), AV.rs p.pp.snd.fst p.pp.snd.snd.1 p.pp.snd.snd.2), ((14 : Nat), .sl false (11 : Nat) (0 : Nat) (1 : Nat) p.q.length (p.q.length + p.14)), ((15 : Nat), .int .i64 (IntKind.i64.wrap ((↑i : Int) - (1 : Int))))], heap := [((2 : Nat), .ro Kd.int p.l), ((3 : Nat), .ro Kd.byte p.more), ((4 : Nat), Blk.rpool p.f), ((5 : Nat), Blk.pool p.pp.fst), ((6 : Nat), .cells (24 : Nat) [.int .i64 p.c.c0, .int .i64 p.c.c1, .int .i64 p.c.c2, .int .i64 p.c.c3, .int .i64 p.c.c4, .int .i64 p.c.c5]), ((7 : Nat), .arr (5 : Nat) Kd.byte p.b p.11), ((11 : Nat), .arr (3 : Nat) Kd.int p.q p.14), ((12 : Nat), .cells (24 : Nat) [.int .i64 p.d.c0, .int .i64 p.d.c1, .int .i64 p.d.c2, .int .i64 p.d.c3, .int .i64 p.d.c4, .int .i64 p.d.c5])], nx := (14 : Nat), nt := (149 : Nat), tl := [(0 : Nat), (1 : Nat), (2 : Nat), (3 : Nat), (4 : Nat), (5 : Nat), (6 : Nat), (7 : Nat), (8 : Nat), (9 : Nat), (10 : Nat), (11 : Nat), (12 : Nat), (13 : Nat), (14 : Nat), (15 : Nat), (16 : Nat), (17 : Nat), (18 : Nat), (19 : Nat), (20 : Nat)] : St V }) (Out.stop (EX.ex (0 : Nat)) {env := [((1 : Nat), AV.rw p.o p.3 p.4), ((2 : Nat), .sl false (2 : Nat) (0 : Nat) (1 : Nat) p.l.length p.7), ((3 : Nat), .sl false (3 : Nat) (0 : Nat) (1 : Nat) p.more.length p.9), ((4 : Nat), .ptr (6 : Nat) (0 : Nat)), ((9 : Nat), .tt), ((10 : Nat), .sl false (7 : Nat) (0 : Nat) (1 : Nat) p.b.length (p.b.length + p.11)), ((12 : Nat), .ptr (12 : Nat) (0 : Nat)), ((13 : Nat), AV.rs p.pp.snd.fst p.pp.snd.snd.1 p.pp.snd.snd.2), ((14 : Nat), .sl false (11 : Nat) (0 : Nat) (1 : Nat) p.q.length (p.q.length + p.14)), ((15 : Nat), .int .i64 (↑i : Int))], heap := [((2 : Nat), .ro Kd.int p.l), ((3 : Nat), .ro Kd.byte p.more), ((4 : Nat), Blk.rpool p.f), ((5 : Nat), Blk.pool p.pp.fst), ((6 : Nat), .cells (24 : Nat) [.int .i64 p.c.c0, .int .i64 p.c.c1, .int .i64 p.c.c2, .int .i64 p.c.c3, .int .i64 p.c.c4, .int .i64 p.c.c5]), ((7 : Nat), .arr (5 : Nat) Kd.byte p.b p.11), ((11 : Nat), .arr (3 : Nat) Kd.int p.q p.14), ((12 : Nat), .cells (24 : Nat) [.int .i64 p.d.c0, .int .i64 p.d.c1, .int .i64 p.d.c2, .int .i64 p.d.c3, .int .i64 p.d.c4, .int .i64 p.d.c5])], nx := (14 : Nat), nt := (149 : Nat), tl := [(0 : Nat), (1 : Nat), (2 : Nat), (3 : Nat), (4 : Nat), (5 : Nat), (6 : Nat), (7 : Nat), (8 : Nat), (9 : Nat), (10 : Nat), (11 : Nat), (12 : Nat), (13 : Nat), (14 : Nat), (15 : Nat), (16 : Nat), (17 : Nat), (18 : Nat), (19 : Nat), (20 : Nat)] : St V })) (Out.stop (EX.ex (0 : Nat)) {env := [((1 : Nat), AV.rw p.o p.3 p.4), ((2 : Nat), .sl false (2 : Nat) (0 : Nat) (1 : Nat) p.l.length p.7), ((3 : Nat), .sl false (3 : Nat) (0 : Nat) (1 : Nat) p.more.length p.9), ((4 : Nat), .ptr (6 : Nat) (0 : Nat)), ((9 : Nat), .tt), ((10 : Nat), .sl false (7 : Nat) (0 : Nat) (1 : Nat) p.b.length (p.b.length + p.11)), ((12 : Nat), .ptr (12 : Nat) (0 : Nat)), ((13 : Nat), AV.rs p.pp.snd.fst p.pp.snd.snd.1 p.pp.snd.snd.2), ((14 : Nat), .sl false (11 : Nat) (0 : Nat) (1 : Nat) p.q.length (p.q.length + p.14)), ((15 : Nat), .int .i64 (↑i : Int))], heap := [((2 : Nat), .ro Kd.int p.l), ((3 : Nat), .ro Kd.byte p.more), ((4 : Nat), Blk.rpool p.f), ((5 : Nat), Blk.pool p.pp.fst), ((6 : Nat), .cells (24 : Nat) [.int .i64 p.c.c0, .int .i64 p.c.c1, .int .i64 p.c.c2, .int .i64 p.c.c3, .int .i64 p.c.c4, .int .i64 p.c.c5]), ((7 : Nat), .arr (5 : Nat) Kd.byte p.b p.11), ((11 : Nat), .arr (3 : Nat) Kd.int p.q p.14), ((12 : Nat), .cells (24 : Nat) [.int .i64 p.d.c0, .int .i64 p.d.c1, .int .i64 p.d.c2, .int .i64 p.d.c3, .int .i64 p.d.c4, .int .i64 p.d.c5])], nx := (14 : Nat), nt := (149 : Nat), tl := [(0 : Nat), (1 : Nat), (2 : Nat), (3 : Nat), (4 : Nat), (5 : Nat), (6 : Nat), (7 : Nat), (8 : Nat), (9 : Nat), (10 : Nat), (11 : Nat), (12 : Nat), (13 : Nat), (14 : Nat), (15 : Nat), (16 : Nat), (17 : Nat), (18 : Nat), (19 : Nat), (20 : Nat)] : St V })))) (Out.stop (EX.ex (0 : Nat)) {env := [((1 : Nat), AV.rw p.o p.3 p.4), ((2 : Nat), .sl false (2 : Nat) (0 : Nat) (1 : Nat) p.l.length p.7), ((3 : Nat), .sl false (3 : Nat) (0 : Nat) (1 : Nat) p.more.length p.9), ((4 : Nat), .ptr (6 : Nat) (0 : Nat)), ((9 : Nat), .tt), ((10 : Nat), .sl false (7 : Nat) (0 : Nat) (1 : Nat) p.b.length (p.b.length + p.11)), ((12 : Nat), .ptr (12 : Nat) (0 : Nat)), ((13 : Nat), AV.rs p.pp.snd.fst p.pp.snd.snd.1 p.pp.snd.snd.2), ((14 : Nat), .sl false (11 : Nat) (0 : Nat) (1 : Nat) p.q.length (p.q.length + p.14)), ((15 : Nat), .int .i64 (↑i : Int))], heap := [((2 : Nat), .ro Kd.int p.l), ((3 : Nat), .ro Kd.byte p.more), ((4 : Nat), Blk.rpool p.f), ((5 : Nat), Blk.pool p.pp.fst), ((6 : Nat), .cells (24 : Nat) [.int .i64 p.c.c0, .int .i64 p.c.c1, .int .i64 p.c.c2, .int .i64 p.c.c3, .int .i64 p.c.c4, .int .i64 p.c.c5]), ((7 : Nat), .arr (5 : Nat) Kd.byte p.b p.11), ((11 : Nat), .arr (3 : Nat) Kd.int p.q p.14), ((12 : Nat), .cells (24 : Nat) [.int .i64 p.d.c0, .int .i64 p.d.c1, .int .i64 p.d.c2, .int .i64 p.d.c3, .int .i64 p.d.c4, .int .i64 p.d.c5])], nx := (14 : Nat), nt := (149 : Nat), tl := [(0 : Nat), (1 : Nat), (2 : Nat), (3 : Nat), (4 : Nat), (5 : Nat), (6 : Nat), (7 : Nat), (8 : Nat), (9 : Nat), (10 : Nat), (11 : Nat), (12 : Nat), (13 : Nat), (14 : Nat), (15 : Nat), (16 : Nat), (17 : Nat), (18 : Nat), (19 : Nat), (20 : Nat)] : St V }) := by kernel_rfl

theorem b52 (p : W6) (i : Nat) : runCode cfg0 60 5 (loopOf Tryz.f5 2) (I6 p i) (stopT (trimSt [2, 3, 8, 9, 14, 19] [2, 3, 11])) = Out.ite (decide ((↑i : Int) < (↑p.more.length : Int))) (Out.needd ((0 : Int) ≤ IntKind.i64.wrap ((↑p.l.length : Int) + (↑i : Int)) ∧ IntKind.i64.wrap ((↑p.l.length : Int) + (↑i : Int)) < (↑p.q.length : Int)) (Out.needd ((0 : Nat) + (IntKind.i64.wrap ((↑p.l.length : Int) + (↑i : Int))).toNat < p.q.length) (Out.needd ((0 : Int) ≤ (↑i : Int) ∧ (↑i : Int) < (↑p.more.length : Int)) (Out.needd ((0 : Nat) + i < p.more.length) (Out.ite (p.q.getD ((0 : Nat) + (IntKind.i64.wrap ((↑p.l.length : Int) + (↑i : Int))).toNat) (V.enc Kd.int).dflt != IntKind.i64.wrap (p.more.getD ((0 : Nat) + i) (V.enc Kd.byte).dflt)) (Out.stop EX.rt {env := [((2 : Nat), .sl false (2 : Nat) (0 : Nat) (1 : Nat) p.l.length p.2), ((3 : Nat), .sl false (3 : Nat) (0 : Nat) (1 : Nat) p.more.length p.4), ((8 : Nat), .ff), ((9 : Nat), .tt), ((14 : Nat), .sl false (11 : Nat) (0 : Nat) (1 : Nat) p.q.length (p.q.length + p.6)), ((19 : Nat), .int .i64 (↑i : Int))], heap := [((2 : Nat), .ro Kd.int p.l), ((3 : Nat), .ro Kd.byte p.more), ((11 : Nat), .arr (3 : Nat) Kd.int p.q p.6)], nx := (20 : Nat), nt := (149 : Nat), tl := [(0 : Nat), (1 : Nat), (2 : Nat), (3 : Nat), (4 : Nat), (5 : Nat), (6 : Nat), (7 : Nat), (8 : Nat), (9 : Nat), (10 : Nat), (11 : Nat), (12 : Nat), (13 : Nat), (14 : Nat), (15 : Nat), (16 : Nat), (17 : Nat), (18 : Nat), (19 : Nat), (20 : Nat)] : St V }) (Out.stop EX.nx {env := [((2 : Nat), .sl false (2 : Nat) (0 : Nat) (1 : Nat) p.l.length p.2), ((3 : Nat), .sl false (3 : Nat) (0 : Nat) (1 : Nat) p.more.length p.4), ((8 : Nat), .und), ((9 : Nat), .tt), ((14 : Nat), .sl false (11 : Nat) (0 : Nat) (1 : Nat) p.q.length (p.q.length + p.6)), ((19 : Nat), .int .i64 (IntKind.i64.wrap ((↑i : Int) + (1 : Int))))], heap := [((2 : Nat), .ro Kd.int p.l), ((3 : Nat), .ro Kd.byte p.more), ((11 : Nat), .arr (3 : Nat) Kd.int p.q p.6)], nx := (20 : Nat), nt := (149 : Nat), tl := [(0 : Nat), (1 : Nat), (2 : Nat), (3 : Nat), (4 : Nat), (5 : Nat), (6 : Nat), (7 : Nat), (8 : Nat), (9 : Nat), (10 : Nat), (11 : Nat), (12 : Nat), (13 : Nat), (14 : Nat), (15 : Nat), (16 : Nat), (17 : Nat), (18 : Nat), (19 : Nat), (20 : Nat)] : St V })))))) (Out.stop (EX.ex (2 : Nat)) {env := [((2 : Nat), .sl false (2 : Nat) (0 : Nat) (1 : Nat) p.l.length p.2), ((3 : Nat), .sl false (3 : Nat) (0 : Nat) (1 : Nat) p.more.length p.4), ((8 : Nat), .und), ((9 : Nat), .tt), ((14 : Nat), .sl false (11 : Nat) (0 : Nat) (1 : Nat) p.q.length (p.q.length + p.6)), ((19 : Nat), .int .i64 (↑i : Int))], heap := [((2 : Nat), .ro Kd.int p.l), ((3 : Nat), .ro Kd.byte p.more), ((11 : Nat), .arr (3 : Nat) Kd.int p.q p.6)], nx := (20 : Nat), nt := (149 : Nat), tl := [(0 : Nat), (1 : Nat), (2 : Nat), (3 : Nat), (4 : Nat), (5 : Nat), (6 : Nat), (7 : Nat), (8 : Nat), (9 : Nat), (10 : Nat), (11 : Nat), (12 : Nat), (13 : Nat), (14 : Nat), (15 : Nat), (16 : Nat), (17 : Nat), (18 : Nat), (19 : Nat), (20 : Nat)] : St V }) := by kernel_rfl

theorem ft5 (c : Conf) (f : RPool) (o : Option (Nat × Nat)) (n rc : Nat) (l more : List Int) (lc mc : Nat) : runL cfgC 60 5 Tryz.f5 [confArg c, .rw o n rc, .sl false 2 0 1 l.length lc, .sl false 3 0 1 more.length mc] [(5, .pool Pool.nil), (2, .ro Kd.int l), (3, .ro Kd.byte more), (4, .rpool f)] 6 = Out.ite (decide ((↑n : Int) > (20 : Int))) (Out.fin .tt [] (0 : Nat)) (Out.ite (decide ((↑l.length : Int) > (300 : Int))) (Out.fin .tt [] (0 : Nat)) (Out.ite (decide ((↑more.length : Int) > (300 : Int))) (Out.fin .tt [] (0 : Nat)) (Out.need ((0 : Nat) + l.length ≤ l.length) (Out.ex (List (List Opr)) fun y => Out.need (RowsAt (Pool.nil.see.join (f.join RPool.nil)) o n rc y ∧ (List.take l.length (List.drop (0 : Nat) l)).length ≤ (1048576 : Nat) ∧ (encRows y).length ≤ (16777216 : Nat)) (Out.all (List Int × Int) fun y_1 => Out.all Nat fun y_2 => Out.asm (y_1 = (encOut {c0 := c.c0, c1 := c.c1, c2 := c.c2, c3 := c.c3, c4 := c.c4, c5 := c.c5 : Conf } y (List.take l.length (List.drop (0 : Nat) l)), encErr {c0 := c.c0, c1 := c.c1, c2 := c.c2, c3 := c.c3, c4 := c.c4, c5 := c.c5 : Conf } y (List.take l.length (List.drop (0 : Nat) l)))) (Out.ite (y_1.snd != (0 : Int)) (Out.fin (.bool ((↑y_1.fst.length : Int) == (0 : Int))) [] (0 : Nat)) (Out.needd ((0 : Nat) + y_1.fst.length ≤ y_1.fst.length) (Out.needd ((List.take y_1.fst.length (List.drop (0 : Nat) y_1.fst)).length * (1 : Nat) ≤ (140737488355328 : Nat)) (Out.all Nat fun y => Out.needd ((0 : Nat) + more.length ≤ more.length) (Out.same ((List.take y_1.fst.length (List.drop (0 : Nat) y_1.fst)).length + y) ((List.take y_1.fst.length (List.drop (0 : Nat) y_1.fst)).length + y) (Out.needd ((0 : Nat) = (0 : Nat) ∧ (List.take y_1.fst.length (List.drop (0 : Nat) y_1.fst)).length = (List.take y_1.fst.length (List.drop (0 : Nat) y_1.fst)).length ∧ ((List.take y_1.fst.length (List.drop (0 : Nat) y_1.fst)).length + (List.take more.length (List.drop (0 : Nat) more)).length) * (1 : Nat) ≤ (140737488355328 : Nat)) (Out.all Nat fun y => Out.need ((0 : Nat) + ((List.take y_1.fst.length (List.drop (0 : Nat) y_1.fst)).length + (List.take more.length (List.drop (0 : Nat) more)).length) ≤ (List.take y_1.fst.length (List.drop (0 : Nat) y_1.fst) ++ List.take more.length (List.drop (0 : Nat) more)).length) (Out.need (Bytes (List.take ((List.take y_1.fst.length (List.drop (0 : Nat) y_1.fst)).length + (List.take more.length (List.drop (0 : Nat) more)).length) (List.drop (0 : Nat) (List.take y_1.fst.length (List.drop (0 : Nat) y_1.fst) ++ List.take more.length (List.drop (0 : Nat) more)))) ∧ (List.take ((List.take y_1.fst.length (List.drop (0 : Nat) y_1.fst)).length + (List.take more.length (List.drop (0 : Nat) more)).length) (List.drop (0 : Nat) (List.take y_1.fst.length (List.drop (0 : Nat) y_1.fst) ++ List.take more.length (List.drop (0 : Nat) more)))).length ≤ (1073741824 : Nat)) (Out.all (Pool × Rwp) fun y => Out.all Nat fun y_3 => Out.asm (Pool.nil.Le y.fst ∧ ∃ hs, RowsLie y.fst y.snd hs (rowsOf (List.take ((List.take y_1.fst.length (List.drop (0 : Nat) y_1.fst)).length + (List.take more.length (List.drop (0 : Nat) more)).length) (List.drop (0 : Nat) (List.take y_1.fst.length (List.drop (0 : Nat) y_1.fst) ++ List.take more.length (List.drop (0 : Nat) more)))))) (Out.need (LoopFor Tryz.prog (5 : Nat) (0 : Nat) (loopOf Tryz.f5 (0 : Nat)) L50) (Out.ex (W5 → Prop) fun y_4 => Out.need ((14 : Nat) ≤ (14 : Nat) ∧ SImp (14 : Nat) {env := [((1 : Nat), AV.rw o n rc), ((2 : Nat), .sl false (2 : Nat) (0 : Nat) (1 : Nat) l.length lc), ((3 : Nat), .sl false (3 : Nat) (0 : Nat) (1 : Nat) more.length mc), ((4 : Nat), .ptr (6 : Nat) (0 : Nat)), ((9 : Nat), .tt), ((10 : Nat), .sl false (7 : Nat) (0 : Nat) (1 : Nat) y_1.fst.length (y_1.fst.length + y_2)), ((12 : Nat), .ptr (12 : Nat) (0 : Nat)), ((13 : Nat), AV.rs y.snd.fst y.snd.snd.1 y.snd.snd.2), ((14 : Nat), .sl false (11 : Nat) (0 : Nat) (1 : Nat) (picksOf (List.take ((List.take y_1.fst.length (List.drop (0 : Nat) y_1.fst)).length + (List.take more.length (List.drop (0 : Nat) more)).length) (List.drop (0 : Nat) (List.take y_1.fst.length (List.drop (0 : Nat) y_1.fst) ++ List.take more.length (List.drop (0 : Nat) more))))).length ((picksOf (List.take ((List.take y_1.fst.length (List.drop (0 : Nat) y_1.fst)).length + (List.take more.length (List.drop (0 : Nat) more)).length) (List.drop (0 : Nat) (List.take y_1.fst.length (List.drop (0 : Nat) y_1.fst) ++ List.take more.length (List.drop (0 : Nat) more))))).length + y_3)), ((15 : Nat), .int .i64 (↑y_1.fst.length : Int))], heap := [((12 : Nat), .cells (24 : Nat) [.int .i64 (confOf (List.take ((List.take y_1.fst.length (List.drop (0 : Nat) y_1.fst)).length + (List.take more.length (List.drop (0 : Nat) more)).length) (List.drop (0 : Nat) (List.take y_1.fst.length (List.drop (0 : Nat) y_1.fst) ++ List.take more.length (List.drop (0 : Nat) more))))).c0, .int .i64 (confOf (List.take ((List.take y_1.fst.length (List.drop (0 : Nat) y_1.fst)).length + (List.take more.length (List.drop (0 : Nat) more)).length) (List.drop (0 : Nat) (List.take y_1.fst.length (List.drop (0 : Nat) y_1.fst) ++ List.take more.length (List.drop (0 : Nat) more))))).c1, .int .i64 (confOf (List.take ((List.take y_1.fst.length (List.drop (0 : Nat) y_1.fst)).length + (List.take more.length (List.drop (0 : Nat) more)).length) (List.drop (0 : Nat) (List.take y_1.fst.length (List.drop (0 : Nat) y_1.fst) ++ List.take more.length (List.drop (0 : Nat) more))))).c2, .int .i64 (confOf (List.take ((List.take y_1.fst.length (List.drop (0 : Nat) y_1.fst)).length + (List.take more.length (List.drop (0 : Nat) more)).length) (List.drop (0 : Nat) (List.take y_1.fst.length (List.drop (0 : Nat) y_1.fst) ++ List.take more.length (List.drop (0 : Nat) more))))).c3, .int .i64 (confOf (List.take ((List.take y_1.fst.length (List.drop (0 : Nat) y_1.fst)).length + (List.take more.length (List.drop (0 : Nat) more)).length) (List.drop (0 : Nat) (List.take y_1.fst.length (List.drop (0 : Nat) y_1.fst) ++ List.take more.length (List.drop (0 : Nat) more))))).c4, .int .i64 (confOf (List.take ((List.take y_1.fst.length (List.drop (0 : Nat) y_1.fst)).length + (List.take more.length (List.drop (0 : Nat) more)).length) (List.drop (0 : Nat) (List.take y_1.fst.length (List.drop (0 : Nat) y_1.fst) ++ List.take more.length (List.drop (0 : Nat) more))))).c5]), ((11 : Nat), .arr (3 : Nat) Kd.int (picksOf (List.take ((List.take y_1.fst.length (List.drop (0 : Nat) y_1.fst)).length + (List.take more.length (List.drop (0 : Nat) more)).length) (List.drop (0 : Nat) (List.take y_1.fst.length (List.drop (0 : Nat) y_1.fst) ++ List.take more.length (List.drop (0 : Nat) more))))) y_3), ((7 : Nat), .arr (5 : Nat) Kd.byte y_1.fst y_2), ((6 : Nat), .cells (24 : Nat) [.int .i64 c.c0, .int .i64 c.c1, .int .i64 c.c2, .int .i64 c.c3, .int .i64 c.c4, .int .i64 c.c5]), ((5 : Nat), Blk.pool y.fst), ((2 : Nat), .ro Kd.int l), ((3 : Nat), .ro Kd.byte more), ((4 : Nat), Blk.rpool f)], nx := (14 : Nat), nt := (149 : Nat), tl := [(10 : Nat), (8 : Nat), (12 : Nat), (5 : Nat), (9 : Nat)] : St V } (fun p => I5 p p.b.length) y_4) (Out.all W5 fun y => Out.asm (y_4 y) ((Out.all Nat fun y_5 => Out.asm ((fun p i => C5 p i) y y_5) (Out.needd ((0 : Int) ≤ (↑y_5 : Int) ∧ ((↑y_5 : Int) ≤ (↑y.b.length : Int) ∨ (↑y_5 : Int) ≤ (↑(y.b.length + y.11) : Int))) (Out.need ((0 : Nat) + y_5 ≤ y.b.length) (Out.need (Bytes (List.take y_5 (List.drop (0 : Nat) y.b)) ∧ (List.take y_5 (List.drop (0 : Nat) y.b)).length ≤ (1073741824 : Nat)) (Out.all (Pool × Rwp) fun y_6 => Out.all Nat fun y_7 => Out.asm (y.pp.fst.Le y_6.fst ∧ ∃ hs, RowsLie y_6.fst y_6.snd hs (rowsOf (List.take y_5 (List.drop (0 : Nat) y.b)))) (Out.ite ((↑y.q.length : Int) != IntKind.i64.wrap ((↑y.l.length : Int) + (↑y.more.length : Int))) (Out.fin .ff [] (0 : Nat)) (Out.ite (!(y.d.c0 == y.c.c0 && (y.d.c1 == y.c.c1 && (y.d.c2 == y.c.c2 && (y.d.c3 == y.c.c3 && (y.d.c4 == y.c.c4 && (y.d.c5 == y.c.c5 && true))))))) (Out.fin .ff [] (0 : Nat)) (Out.ite (!((confOf (List.take y_5 (List.drop (0 : Nat) y.b))).c0 == y.c.c0 && ((confOf (List.take y_5 (List.drop (0 : Nat) y.b))).c1 == y.c.c1 && ((confOf (List.take y_5 (List.drop (0 : Nat) y.b))).c2 == y.c.c2 && ((confOf (List.take y_5 (List.drop (0 : Nat) y.b))).c3 == y.c.c3 && ((confOf (List.take y_5 (List.drop (0 : Nat) y.b))).c4 == y.c.c4 && ((confOf (List.take y_5 (List.drop (0 : Nat) y.b))).c5 == y.c.c5 && true))))))) (Out.fin .ff [] (0 : Nat)) (Out.ex (List (List Opr) × List (List Opr)) fun y_8 => Out.need (RowsAt (y.f.join (y_6.fst.see.join RPool.nil)) y.pp.snd.fst y.pp.snd.snd.1 y.pp.snd.snd.2 y_8.fst ∧ RowsAt (y.f.join (y_6.fst.see.join RPool.nil)) y.o y.3 y.4 y_8.snd) (Out.ite (!decide (y_8.fst = y_8.snd)) (Out.fin .ff [] (0 : Nat)) (Out.ex (List (List Opr) × List (List Opr)) fun y_9 => Out.need (RowsAt (y.f.join (y_6.fst.see.join RPool.nil)) y_6.snd.fst y_6.snd.snd.1 y_6.snd.snd.2 y_9.fst ∧ RowsAt (y.f.join (y_6.fst.see.join RPool.nil)) y.o y.3 y.4 y_9.snd) (Out.ite (!decide (y_9.fst = y_9.snd)) (Out.fin .ff [] (0 : Nat)) (Out.need (LoopFor Tryz.prog (5 : Nat) (2 : Nat) (loopOf Tryz.f5 (2 : Nat)) L52) (Out.ex (W6 → Prop) fun y_10 => Out.need ((17 : Nat) ≤ (20 : Nat) ∧ SImp (20 : Nat) {env := [((2 : Nat), .sl false (2 : Nat) (0 : Nat) (1 : Nat) y.l.length y.7), ((3 : Nat), .sl false (3 : Nat) (0 : Nat) (1 : Nat) y.more.length y.9), ((9 : Nat), .tt), ((14 : Nat), .sl false (11 : Nat) (0 : Nat) (1 : Nat) y.q.length (y.q.length + y.14)), ((19 : Nat), .lit .i64 (0 : Int))], heap := [((2 : Nat), .ro Kd.int y.l), ((3 : Nat), .ro Kd.byte y.more), ((11 : Nat), .arr (3 : Nat) Kd.int y.q y.14)], nx := (17 : Nat), nt := (149 : Nat), tl := [(15 : Nat), (14 : Nat), (4 : Nat), (5 : Nat), (6 : Nat), (7 : Nat), (12 : Nat), (15 : Nat), (5 : Nat), (0 : Nat), (1 : Nat), (2 : Nat), (3 : Nat), (4 : Nat), (5 : Nat), (6 : Nat), (7 : Nat), (8 : Nat), (9 : Nat), (10 : Nat), (11 : Nat), (12 : Nat), (13 : Nat), (14 : Nat), (15 : Nat), (16 : Nat), (17 : Nat), (18 : Nat), (19 : Nat), (20 : Nat)] : St V } (fun p => I6 p (0 : Nat)) y_10) (Out.all W6 fun y => Out.asm (y_10 y) ((Out.all Unit fun y_11 => Out.asm ((fun p x => List.drop p.l.length p.q = p.more) y y_11) (Out.needd ((0 : Int) ≤ (↑y.l.length : Int) ∧ ((↑y.l.length : Int) ≤ (↑y.q.length : Int) ∨ (↑y.l.length : Int) ≤ (↑(y.q.length + y.6) : Int))) (Out.need ((0 : Nat) + (↑y.l.length : Int).toNat ≤ y.q.length) (Out.need ((0 : Nat) + y.l.length ≤ y.l.length) (Out.need ((List.take (↑y.l.length : Int).toNat (List.drop (0 : Nat) y.q)).length ≤ (1099511627776 : Nat)) (Out.fin (.bool (decide (List.take (↑y.l.length : Int).toNat (List.drop (0 : Nat) y.q) = List.take y.l.length (List.drop (0 : Nat) y.l)))) [] (0 : Nat))))))).both (Out.all Unit fun y_11 => Out.asm ((fun p x => List.drop p.l.length p.q ≠ p.more) y y_11) (Out.fin .ff [] (0 : Nat))))))))))))))))))).both (Out.all Unit fun y_5 => Out.asm ((fun p x => False) y y_5) (Out.fin .und [] (0 : Nat))))))))))))))))))))) := by kernel_rfl

end Sx
end Go.Proofs.YtnegocgblmdihaaGreatDoor

