/-
  The document on tables, an entry among others: the runs of the machine.
-/
import Derived.Test.YtkadlfadmjhahaaPlaysP7
namespace Go.Proofs.Ytkadlfadmjhahaa
namespace Sx
open Go
set_option maxRecDepth 100000
set_option linter.unusedVariables false

def lowE (k : Int) (e : Ent) : Bool := decide (e.key < k)
def plcE (l : List Ent) (k : Int) : Nat := (l.takeWhile (lowE k)).length
def insS (l : List Ent) (e : Ent) : List Ent := l.take (plcE l e.key) ++ [e] ++ l.drop (plcE l e.key)
noncomputable def cfgRT : Cfg Try.prog V := ⟨tab, kinds, fun _ => none, fun _ => none, fun _ _ => none⟩
structure PPt where
  l : List Ent
  c : Nat
  e : Ent
  hl : l.length ≤ 1000000
  hc : l.length ≤ c
def PtI (q : PPt) (i : Nat) : St V := ⟨[(0, .sl false 0 0 4 q.l.length q.c), (3, .ptr 2 0), (5, .int .i64 (i : Int))], [(2, .cells 29 (Ent.enc q.e)), (0, .ro Kd.ent q.l)], 3, 34, TQM⟩
def LPt : LoopS V := trimLoop (trimSt [0, 3, 5] [0, 2]) (loopH 3 (fun q : PPt => PtI q 0) (fun q (i : Nat) => i = plcE q.l q.e.key) (fun q i => PtI q i))
noncomputable def cfgRT1 : Cfg Try.prog V := ⟨tab, kinds, fun _ => none, fun _ => none, fun f id => match f, id with | 41, 0 => some LPt | _, _ => none⟩
theorem rbput (q : PPt) (i : Nat) : runCode cfgRT 60 41 (loopOf Try.f41 0) (PtI q i) (stopT (trimSt [0, 3, 5] [0, 2])) = Out.ite (decide ((↑i : Int) < (↑q.l.length : Int))) (Out.need ((0 : Int) ≤ (↑i : Int) ∧ (↑i : Int) < (↑q.l.length : Int)) (Out.need ((0 : Nat) + i < q.l.length) (Out.ite (decide ((q.l.getD ((0 : Nat) + i) (V.enc Kd.ent).dflt).key < q.e.key)) (Out.stop EX.nx {env := [((0 : Nat), .sl false (0 : Nat) (0 : Nat) (4 : Nat) q.l.length q.2), ((3 : Nat), .ptr (2 : Nat) (0 : Nat)), ((5 : Nat), .int .i64 (IntKind.i64.wrap ((↑i : Int) + (1 : Int))))], heap := [((2 : Nat), .cells (29 : Nat) [.int .i64 q.e.key, .int .i64 q.e.value, .int .i64 q.e.weight, .int .i64 q.e.node]), ((0 : Nat), .ro Kd.ent q.l)], nx := (3 : Nat), nt := (34 : Nat), tl := [(0 : Nat), (1 : Nat), (2 : Nat), (3 : Nat), (4 : Nat), (5 : Nat), (6 : Nat), (7 : Nat), (8 : Nat), (9 : Nat), (10 : Nat), (11 : Nat), (12 : Nat), (13 : Nat), (14 : Nat), (15 : Nat), (16 : Nat)] : St V }) (Out.stop (EX.ex (0 : Nat)) {env := [((0 : Nat), .sl false (0 : Nat) (0 : Nat) (4 : Nat) q.l.length q.2), ((3 : Nat), .ptr (2 : Nat) (0 : Nat)), ((5 : Nat), .int .i64 (↑i : Int))], heap := [((2 : Nat), .cells (29 : Nat) [.int .i64 q.e.key, .int .i64 q.e.value, .int .i64 q.e.weight, .int .i64 q.e.node]), ((0 : Nat), .ro Kd.ent q.l)], nx := (3 : Nat), nt := (34 : Nat), tl := [(0 : Nat), (1 : Nat), (2 : Nat), (3 : Nat), (4 : Nat), (5 : Nat), (6 : Nat), (7 : Nat), (8 : Nat), (9 : Nat), (10 : Nat), (11 : Nat), (12 : Nat), (13 : Nat), (14 : Nat), (15 : Nat), (16 : Nat)] : St V })))) (Out.stop (EX.ex (0 : Nat)) {env := [((0 : Nat), .sl false (0 : Nat) (0 : Nat) (4 : Nat) q.l.length q.2), ((3 : Nat), .ptr (2 : Nat) (0 : Nat)), ((5 : Nat), .int .i64 (↑i : Int))], heap := [((2 : Nat), .cells (29 : Nat) [.int .i64 q.e.key, .int .i64 q.e.value, .int .i64 q.e.weight, .int .i64 q.e.node]), ((0 : Nat), .ro Kd.ent q.l)], nx := (3 : Nat), nt := (34 : Nat), tl := [(0 : Nat), (1 : Nat), (2 : Nat), (3 : Nat), (4 : Nat), (5 : Nat), (6 : Nat), (7 : Nat), (8 : Nat), (9 : Nat), (10 : Nat), (11 : Nat), (12 : Nat), (13 : Nat), (14 : Nat), (15 : Nat), (16 : Nat)] : St V }) := by kernel_rfl

theorem rtput (l : List Ent) (c : Nat) (e : Ent) : runF cfgRT1 60 41 Try.f41 [.sl false 0 0 4 l.length c, .agg (Ent.enc e)] [(0, .ro Kd.ent l)] 2 = Out.need (LoopFor Try.prog (41 : Nat) (0 : Nat) (loopOf Try.f41 (0 : Nat)) LPt) (Out.ex (PPt → Prop) fun y => Out.need ((3 : Nat) ≤ (3 : Nat) ∧ SImp (3 : Nat) {env := [((0 : Nat), .sl false (0 : Nat) (0 : Nat) (4 : Nat) l.length c), ((3 : Nat), .ptr (2 : Nat) (0 : Nat)), ((5 : Nat), .lit .i64 (0 : Int))], heap := [((2 : Nat), .cells (29 : Nat) [.int .i64 e.key, .int .i64 e.value, .int .i64 e.weight, .int .i64 e.node]), ((0 : Nat), .ro Kd.ent l)], nx := (3 : Nat), nt := (34 : Nat), tl := [] : St V } (fun q => PtI q (0 : Nat)) y) (Out.all PPt fun y_1 => Out.asm (y y_1) (Out.all Nat fun y => Out.asm ((fun q i => i = plcE q.l q.e.key) y_1 y) (Out.need ((0 : Int) ≤ (↑y : Int) ∧ (↑y : Int) ≤ (↑y_1.2 : Int)) (Out.need ((0 : Int) ≤ (↑y : Int) ∧ (↑y : Int) ≤ (↑y_1.l.length : Int)) (((Out.need ((0 : Nat) + y ≤ y_1.l.length) (Out.need ((List.take y (List.drop (0 : Nat) y_1.l)).length * (32 : Nat) ≤ (140737488355328 : Nat)) (Out.all Nat fun y_2 => Out.need ((0 : Nat) = (0 : Nat) ∧ (List.take y (List.drop (0 : Nat) y_1.l)).length = (List.take y (List.drop (0 : Nat) y_1.l)).length ∧ (List.take y (List.drop (0 : Nat) y_1.l)).length + y_2 = (List.take y (List.drop (0 : Nat) y_1.l)).length + y_2 ∧ ((List.take y (List.drop (0 : Nat) y_1.l)).length + (1 : Nat)) * (32 : Nat) ≤ (140737488355328 : Nat)) (Out.all Nat fun y_3 => Out.need ((0 : Nat) + y + (y_1.l.length - y) ≤ y_1.l.length) (Out.need ((0 : Nat) = (0 : Nat) ∧ (List.take y (List.drop (0 : Nat) y_1.l)).length + (1 : Nat) = (List.take y (List.drop (0 : Nat) y_1.l) ++ [{key := y_1.e.key, value := y_1.e.value, weight := y_1.e.weight, node := y_1.e.node : Ent }]).length ∧ (List.take y (List.drop (0 : Nat) y_1.l)).length + (1 : Nat) + y_3 = (List.take y (List.drop (0 : Nat) y_1.l) ++ [{key := y_1.e.key, value := y_1.e.value, weight := y_1.e.weight, node := y_1.e.node : Ent }]).length + y_3 ∧ ((List.take y (List.drop (0 : Nat) y_1.l) ++ [{key := y_1.e.key, value := y_1.e.value, weight := y_1.e.weight, node := y_1.e.node : Ent }]).length + (List.take (y_1.l.length - y) (List.drop ((0 : Nat) + y) y_1.l)).length) * (32 : Nat) ≤ (140737488355328 : Nat)) (Out.all Nat fun y_4 => Out.fin (.sl false (7 : Nat) (0 : Nat) (4 : Nat) ((List.take y (List.drop (0 : Nat) y_1.l) ++ [{key := y_1.e.key, value := y_1.e.value, weight := y_1.e.weight, node := y_1.e.node : Ent }]).length + (List.take (y_1.l.length - y) (List.drop ((0 : Nat) + y) y_1.l)).length) ((List.take y (List.drop (0 : Nat) y_1.l) ++ [{key := y_1.e.key, value := y_1.e.value, weight := y_1.e.weight, node := y_1.e.node : Ent }]).length + (List.take (y_1.l.length - y) (List.drop ((0 : Nat) + y) y_1.l)).length + y_4)) [((7 : Nat), .arr (29 : Nat) Kd.ent (List.take y (List.drop (0 : Nat) y_1.l) ++ [{key := y_1.e.key, value := y_1.e.value, weight := y_1.e.weight, node := y_1.e.node : Ent }] ++ List.take (y_1.l.length - y) (List.drop ((0 : Nat) + y) y_1.l)) y_4), ((5 : Nat), .cells (29 : Nat) [.int .i64 y_1.e.key, .int .i64 y_1.e.value, .int .i64 y_1.e.weight, .int .i64 y_1.e.node]), ((3 : Nat), .cells (29 : Nat) []), ((2 : Nat), .cells (29 : Nat) [.int .i64 y_1.e.key, .int .i64 y_1.e.value, .int .i64 y_1.e.weight, .int .i64 y_1.e.node]), ((0 : Nat), .ro Kd.ent y_1.l)] (8 : Nat))))))).both (Out.need ((0 : Nat) + y ≤ y_1.l.length) (Out.need ((List.take y (List.drop (0 : Nat) y_1.l)).length * (32 : Nat) ≤ (140737488355328 : Nat)) (Out.all Nat fun y_2 => Out.need ((0 : Nat) = (0 : Nat) ∧ (List.take y (List.drop (0 : Nat) y_1.l)).length = (List.take y (List.drop (0 : Nat) y_1.l)).length ∧ (List.take y (List.drop (0 : Nat) y_1.l)).length + y_2 = (List.take y (List.drop (0 : Nat) y_1.l)).length + y_2 ∧ ((List.take y (List.drop (0 : Nat) y_1.l)).length + (1 : Nat)) * (32 : Nat) ≤ (140737488355328 : Nat)) (Out.all Nat fun y_3 => Out.need ((0 : Nat) + y + (y_1.l.length - y) ≤ y_1.l.length) (Out.need ((0 : Nat) = (0 : Nat) ∧ (List.take y (List.drop (0 : Nat) y_1.l)).length + (1 : Nat) = (List.take y (List.drop (0 : Nat) y_1.l) ++ [{key := y_1.e.key, value := y_1.e.value, weight := y_1.e.weight, node := y_1.e.node : Ent }]).length ∧ (List.take y (List.drop (0 : Nat) y_1.l)).length + (1 : Nat) + y_3 = (List.take y (List.drop (0 : Nat) y_1.l) ++ [{key := y_1.e.key, value := y_1.e.value, weight := y_1.e.weight, node := y_1.e.node : Ent }]).length + y_3 ∧ ((List.take y (List.drop (0 : Nat) y_1.l) ++ [{key := y_1.e.key, value := y_1.e.value, weight := y_1.e.weight, node := y_1.e.node : Ent }]).length + (List.take (y_1.l.length - y) (List.drop ((0 : Nat) + y) y_1.l)).length) * (32 : Nat) ≤ (140737488355328 : Nat)) (Out.all Nat fun y_4 => Out.fin (.sl false (7 : Nat) (0 : Nat) (4 : Nat) ((List.take y (List.drop (0 : Nat) y_1.l) ++ [{key := y_1.e.key, value := y_1.e.value, weight := y_1.e.weight, node := y_1.e.node : Ent }]).length + (List.take (y_1.l.length - y) (List.drop ((0 : Nat) + y) y_1.l)).length) ((List.take y (List.drop (0 : Nat) y_1.l) ++ [{key := y_1.e.key, value := y_1.e.value, weight := y_1.e.weight, node := y_1.e.node : Ent }]).length + (List.take (y_1.l.length - y) (List.drop ((0 : Nat) + y) y_1.l)).length + y_4)) [((7 : Nat), .arr (29 : Nat) Kd.ent (List.take y (List.drop (0 : Nat) y_1.l) ++ [{key := y_1.e.key, value := y_1.e.value, weight := y_1.e.weight, node := y_1.e.node : Ent }] ++ List.take (y_1.l.length - y) (List.drop ((0 : Nat) + y) y_1.l)) y_4), ((4 : Nat), .cells (29 : Nat) [.int .i64 y_1.e.key, .int .i64 y_1.e.value, .int .i64 y_1.e.weight, .int .i64 y_1.e.node]), ((3 : Nat), .cells (29 : Nat) []), ((2 : Nat), .cells (29 : Nat) [.int .i64 y_1.e.key, .int .i64 y_1.e.value, .int .i64 y_1.e.weight, .int .i64 y_1.e.node]), ((0 : Nat), .ro Kd.ent y_1.l)] (8 : Nat)))))))).both (Out.need ((0 : Nat) + y ≤ y_1.l.length) (Out.need ((List.take y (List.drop (0 : Nat) y_1.l)).length * (32 : Nat) ≤ (140737488355328 : Nat)) (Out.all Nat fun y_2 => Out.need ((0 : Nat) = (0 : Nat) ∧ (List.take y (List.drop (0 : Nat) y_1.l)).length = (List.take y (List.drop (0 : Nat) y_1.l)).length ∧ (List.take y (List.drop (0 : Nat) y_1.l)).length + y_2 = (List.take y (List.drop (0 : Nat) y_1.l)).length + y_2 ∧ ((List.take y (List.drop (0 : Nat) y_1.l)).length + (1 : Nat)) * (32 : Nat) ≤ (140737488355328 : Nat)) (Out.all Nat fun y_3 => Out.need ((0 : Nat) + y + (y_1.l.length - y) ≤ y_1.l.length) (Out.need ((0 : Nat) = (0 : Nat) ∧ (List.take y (List.drop (0 : Nat) y_1.l)).length + (1 : Nat) = (List.take y (List.drop (0 : Nat) y_1.l) ++ [{key := y_1.e.key, value := y_1.e.value, weight := y_1.e.weight, node := y_1.e.node : Ent }]).length ∧ (List.take y (List.drop (0 : Nat) y_1.l)).length + (1 : Nat) + y_3 = (List.take y (List.drop (0 : Nat) y_1.l) ++ [{key := y_1.e.key, value := y_1.e.value, weight := y_1.e.weight, node := y_1.e.node : Ent }]).length + y_3 ∧ ((List.take y (List.drop (0 : Nat) y_1.l) ++ [{key := y_1.e.key, value := y_1.e.value, weight := y_1.e.weight, node := y_1.e.node : Ent }]).length + (List.take (y_1.l.length - y) (List.drop ((0 : Nat) + y) y_1.l)).length) * (32 : Nat) ≤ (140737488355328 : Nat)) (Out.all Nat fun y_4 => Out.fin (.sl false (7 : Nat) (0 : Nat) (4 : Nat) ((List.take y (List.drop (0 : Nat) y_1.l) ++ [{key := y_1.e.key, value := y_1.e.value, weight := y_1.e.weight, node := y_1.e.node : Ent }]).length + (List.take (y_1.l.length - y) (List.drop ((0 : Nat) + y) y_1.l)).length) ((List.take y (List.drop (0 : Nat) y_1.l) ++ [{key := y_1.e.key, value := y_1.e.value, weight := y_1.e.weight, node := y_1.e.node : Ent }]).length + (List.take (y_1.l.length - y) (List.drop ((0 : Nat) + y) y_1.l)).length + y_4)) [((7 : Nat), .arr (29 : Nat) Kd.ent (List.take y (List.drop (0 : Nat) y_1.l) ++ [{key := y_1.e.key, value := y_1.e.value, weight := y_1.e.weight, node := y_1.e.node : Ent }] ++ List.take (y_1.l.length - y) (List.drop ((0 : Nat) + y) y_1.l)) y_4), ((4 : Nat), .cells (29 : Nat) []), ((3 : Nat), .cells (29 : Nat) [.int .i64 y_1.e.key, .int .i64 y_1.e.value, .int .i64 y_1.e.weight, .int .i64 y_1.e.node]), ((2 : Nat), .cells (29 : Nat) [.int .i64 y_1.e.key, .int .i64 y_1.e.value, .int .i64 y_1.e.weight, .int .i64 y_1.e.node]), ((0 : Nat), .ro Kd.ent y_1.l)] (8 : Nat))))))))))))) := by kernel_rfl

end Sx
end Go.Proofs.Ytkadlfadmjhahaa

/-
  The document on tables: an entry among others, by rising keys.
-/
namespace Go.Proofs.Ytkadlfadmjhahaa
namespace Sx
open Go
set_option linter.unusedSimpArgs false
set_option linter.unusedVariables false

theorem plc_cons (a : Ent) (l : List Ent) (k : Int) : plcE (a :: l) k = if a.key < k then plcE l k + 1 else 0 := by
  unfold plcE lowE
  rw [List.takeWhile_cons]
  split
  · rename_i h; rw [if_pos (of_decide_eq_true h)]; rfl
  · rename_i h; rw [if_neg (fun k => h (decide_eq_true k))]; rfl
theorem plc_le (l : List Ent) (k : Int) : plcE l k ≤ l.length := (List.takeWhile_sublist _).length_le
theorem plc_iff (k : Int) : ∀ (l : List Ent) (i : Nat), i ≤ plcE l k → (hi : i < l.length) → (l[i].key < k ↔ i < plcE l k)
  | a :: l, 0, _, _ => by
    rw [plc_cons]
    by_cases h : a.key < k
    · simp [h]
    · simp [h]
  | a :: l, i + 1, h, hi => by
    rw [plc_cons] at h ⊢
    split at h
    · rename_i hk
      rw [if_pos hk]
      have := plc_iff k l i (by omega) (by simpa using hi)
      simp only [List.getElem_cons_succ]
      rw [this]; omega
    · omega
theorem cfgRT_ok : cfgRT.ok := ⟨tab_met, kinds_met, mixed_met, fun g fn h => (by cases h), fun g H h => (by cases h)⟩
theorem cfgRT1_ok : cfgRT1.ok := ⟨tab_met, kinds_met, mixed_met, fun g fn h => (by cases h), fun g H h => (by cases h)⟩
theorem ptbody (q : PPt) (i : Nat) (h : i ≤ plcE q.l q.e.key) (Q : EX → St V → Prop) (F : AV → Heap V → Nat → Prop)
    (hnx : ∀ (ST : St V), i < plcE q.l q.e.key → Wk 3 [] ST (PtI q (i + 1)) → Q .nx ST) (hex : ∀ ST : St V, i = plcE q.l q.e.key → Wk 3 [] ST (PtI q i) → Q (.ex 0) ST) :
    (runCode cfgRT 60 41 (loopOf Try.f41 0) (PtI q i) (stopT (trimSt [0, 3, 5] [0, 2]))).holds ⟨Q, F⟩ := by
  rw [rbput]
  have hl := q.hl
  have hle := plc_le q.l q.e.key
  refine ⟨fun hlt => ?_, fun hge => hex _ (by have := of_decide_eq_false hge; omega) (by (refine ⟨?_, ?_, rfl, tl_ok rfl, ?_, ⟨Nat.le_of_ble_eq_true rfl, rfl⟩⟩ <;> (repeat' first | with_reducible exact trivial | exact AV.sub_same _ | exact .same _ | exact .inr rfl | exact .inl (in_ok rfl) | exact AV.sub_lit' | exact AV.sub_nilS | exact .none _ _ | exact trivial | refine ⟨?_, ?_⟩)))⟩
  have hlt : i < q.l.length := by have := of_decide_eq_true hlt; omega
  have hw : IntKind.wrap .i64 ((i : Int) + 1) = ((i + 1 : Nat) : Int) := wrap_nat (by omega)
  have hg : q.l.getD (0 + i) (V.enc Kd.ent).dflt = q.l[i] := by rw [Nat.zero_add, List.getD_eq_getElem?_getD, List.getElem?_eq_getElem hlt]; rfl
  have hi := plc_iff q.e.key q.l i h hlt
  rw [hg]
  refine ⟨⟨by omega, by omega⟩, by omega, fun hk => hnx _ (hi.1 (of_decide_eq_true hk)) (by (refine ⟨?_, ?_, rfl, tl_ok rfl, ?_, ⟨Nat.le_of_ble_eq_true rfl, rfl⟩⟩ <;> (repeat' first | with_reducible exact trivial | (exact AV.sub_int hw) | exact AV.sub_same _ | exact .same _ | exact .inr rfl | exact .inl (in_ok rfl) | exact AV.sub_lit' | exact AV.sub_nilS | exact .none _ _ | exact trivial | refine ⟨?_, ?_⟩))), fun hk => hex _ ?_ (by (refine ⟨?_, ?_, rfl, tl_ok rfl, ?_, ⟨Nat.le_of_ble_eq_true rfl, rfl⟩⟩ <;> (repeat' first | with_reducible exact trivial | exact AV.sub_same _ | exact .same _ | exact .inr rfl | exact .inl (in_ok rfl) | exact AV.sub_lit' | exact AV.sub_nilS | exact .none _ _ | exact trivial | refine ⟨?_, ?_⟩)))⟩
  have := of_decide_eq_false hk
  have : ¬ i < plcE q.l q.e.key := fun h => this (hi.2 h)
  omega
theorem lPt_ok : LoopOk Try.prog 0 (loopOf Try.f41 0) LPt := by
  refine trimLoop_ok (trim_ok _ _) (loopTH_ok (C := cfgRT) cfgRT_ok (f := 41) (n := 60) (trim_ok [0, 3, 5] [0, 2]) 3 (fun q : PPt => PtI q) (fun q i => i ≤ plcE q.l q.e.key) (fun q => 0) (fun q i => q.l.length - i) (fun q (i : Nat) => i = plcE q.l q.e.key) (fun q i => PtI q i) (fun q => Nat.zero_le _) ?_)
  intro q i h
  have hle := plc_le q.l q.e.key
  refine ptbody q i h _ _ (fun ST hlt hw => SImp.of_wk (i + 1) hw ⟨hlt, ?_⟩) (fun ST he hw => ⟨rfl, SImp.of_wk i hw he⟩)
  show q.l.length - (i + 1) < q.l.length - i; omega
def runRput : RunFree V := fun ar K => match ar with
  | [.rows .ent l c, .el .ent e] => .need (l.length ≤ 1000000 ∧ l.length ≤ c) (.all Nat fun sp => K (.sl false 0 0 4 (l.length + 1) (l.length + 1 + sp)) [.arr 29 Kd.ent (insS l e) sp])
  | _ => .bad 500
theorem insS_len (l : List Ent) (e : Ent) : (insS l e).length = l.length + 1 := by
  have := plc_le l e.key
  unfold insS
  simp only [List.length_append, List.length_take, List.length_drop, List.length_singleton]; omega
theorem hRput : HookOk Try.prog 41 (hookFree [.rows Kd.ent, .el Kd.ent] runRput) := by
  refine free_hook (C := cfgRT1) cfgRT1_ok (n := 60) (fn := Try.f41) ⟨by kernel_rfl, by kernel_rfl⟩ (by kernel_rfl) ?_
  intro M ar K0 H
  unfold runRput at H
  split at H
  · rename_i l c e
    obtain ⟨⟨hl, hc⟩, H⟩ := H
    refine ⟨show 2 ≤ _ by decide +kernel, ?_⟩
    show (runF cfgRT1 60 41 Try.f41 [.sl false 0 0 4 l.length c, .agg (Ent.enc e)] [(0, .ro Kd.ent l)] 2).holds _
    rw [rtput]
    have hle := plc_le l e.key
    have hil := insS_len l e
    refine ⟨lPt_ok, fun q => q = ⟨l, c, e, hl, hc⟩, ⟨Nat.le_refl _, SImp.of_wk (ren := []) ⟨l, c, e, hl, hc⟩ (by (refine ⟨?_, ?_, rfl, tl_ok rfl, ?_, ⟨Nat.le_of_ble_eq_true rfl, rfl⟩⟩ <;> (repeat' first | with_reducible exact trivial | exact AV.sub_same _ | exact .same _ | exact .inr rfl | exact .inl (in_ok rfl) | exact AV.sub_lit' | exact AV.sub_nilS | exact .none _ _ | exact trivial | refine ⟨?_, ?_⟩))) rfl⟩, ?_⟩
    rintro _ rfl i hi
    have hi : i = plcE l e.key := hi
    dsimp only
    have t1 : (List.take i (List.drop 0 l)).length = i := by rw [List.drop_zero, List.length_take]; omega
    have t2 : (List.take (l.length - i) (List.drop (0 + i) l)).length = l.length - i := by rw [List.length_take, List.length_drop]; omega
    have t3 : (List.take i (List.drop 0 l) ++ [e]).length = i + 1 := by rw [List.length_append, t1]; rfl
    have t4 : List.take i (List.drop 0 l) ++ [e] ++ List.take (l.length - i) (List.drop (0 + i) l) = insS l e := by
      unfold insS
      rw [List.drop_zero, Nat.zero_add, List.take_of_length_le (l := List.drop i l) (by rw [List.length_drop]; exact Nat.le_refl _), ← hi]
    have he : ({ key := e.key, value := e.value, weight := e.weight, node := e.node } : Ent) = e := rfl
    simp only [he, t1, t2, t3, t4, Out.holds, decide_eq_true_eq, decide_eq_false_iff_not, beq_iff_eq, beq_eq_false_iff_ne, bne_iff_ne, ne_eq, bne_eq_false_iff_eq, Bool.true_and, Bool.and_true, Bool.not_eq_true', Bool.not_eq_false', Bool.and_eq_true, Bool.or_eq_true, Bool.and_eq_false_imp, true_implies, true_and, Bool.not_true, Bool.not_false, Bool.false_eq_true, Bool.true_eq_false, false_implies, and_true, beq_self_eq_true, Decidable.not_not, not_true_eq_false, not_false_eq_true]
    have fin : ∀ (id sp : Nat) (h' : Heap V) (n' : Nat), h'.get id = some (.arr 29 Kd.ent (insS l e) sp) → ∃ v E, (K0 v E).holds M ∧ EndFree n' (.sl false id 0 4 (i + 1 + (l.length - i)) (i + 1 + (l.length - i) + sp)) h' v E := by
      intro id sp h' n' hg
      refine ⟨_, _, H sp, _, HImp.refl _ _, ⟨⟨fun _ => id, ⟨?_, trivial⟩, AV.sub_sl (by omega) (by omega)⟩, rfl, rfl⟩⟩
      show BSub (h'.get id) _
      rw [hg]; exact BSub.same _
    repeat' first
      | exact fin _ _ _ _ rfl
      | apply And.intro
      | intro _
    all_goals first
      | omega
      | trivial
      | skip
  · exact H.elim

end Sx
end Go.Proofs.Ytkadlfadmjhahaa

/-
  The document on tables, all entries: the runs of the machine.
-/
namespace Go.Proofs.Ytkadlfadmjhahaa
namespace Sx
open Go
set_option maxRecDepth 100000
set_option linter.unusedVariables false

def TQA : List Nat := [0, 1, 2, 3, 4, 5, 6, 7, 8, 9, 10, 11, 12, 13, 14, 15, 16, 17, 18, 19, 20, 21, 22]
def insMany (o l : List Ent) : List Ent := l.foldl insS o
noncomputable def hooksRA : Nat → Option (HookS V) := fun g => match g with
  | 41 => some (hookFree [.rows Kd.ent, .el Kd.ent] runRput)
  | g => hooksR3 g
noncomputable def cfgRL : Cfg Try.prog V := ⟨tab, kinds, fun _ => none, hooksRA, fun _ _ => none⟩
structure PRl where
  p : Pool
  b : Nat
  L : RL
  t : TM
  hA : RAt p b L t
  hG : t.Good
  hl : t.len ≤ 1000000
structure XRl where
  i : Nat
  o : List Ent
  sp : Nat
def RlI0 (q : PRl) (z : XRl) : St V := ⟨[(0, .rp (some (q.b, 0))), (3, .sl false 10 0 4 z.o.length (z.o.length + z.sp)), (4, .int .i64 (z.i : Int))], [(10, .arr 29 Kd.ent z.o z.sp), (0, .pool q.p)], 11, 79, TQA⟩
structure PRm extends PRl where
  i : Nat
  o0 : List Ent
  sp0 : Nat
  hi : i < t.B.length
  ho : o0 = insMany [] (t.B.take i).flatten
def RlI2 (q : PRm) (z : XRl) : St V := ⟨[(0, .rp (some (q.b, 0))), (3, .sl false 12 0 4 z.o.length (z.o.length + z.sp)), (4, .int .i64 (q.i : Int)), (5, .int .i64 (z.i : Int))], [(12, .arr 29 Kd.ent z.o z.sp), (0, .pool q.p)], 13, 79, TQA⟩
structure JRm (q : PRm) (z : XRl) : Prop where
  le : z.i ≤ (q.t.B.getD q.i []).length
  ho : z.o = insMany q.o0 ((q.t.B.getD q.i []).take z.i)
def LRl2 : LoopS V := trimLoop (trimSt [0, 3, 4, 5] [0, 10]) (loopH 12 (fun q : PRm => RlI2 q ⟨0, q.o0, q.sp0⟩) (fun q (z : XRl) => z.i = (q.t.B.getD q.i []).length ∧ z.o = insMany q.o0 (q.t.B.getD q.i [])) (fun q z => RlI2 q z))
noncomputable def cfgRL2 : Cfg Try.prog V := ⟨tab, kinds, fun _ => none, hooksRA, fun f id => match f, id with | 28, 2 => some LRl2 | _, _ => none⟩
structure JRl (q : PRl) (z : XRl) : Prop where
  le : z.i ≤ q.t.B.length
  ho : z.o = insMany [] (q.t.B.take z.i).flatten
def LRl0 : LoopS V := trimLoop (trimSt [0, 3, 4] [0]) (loopH 10 (fun q : PRl => RlI0 q ⟨0, [], 0⟩) (fun q (z : XRl) => JRl q z ∧ z.i = q.t.B.length) (fun q z => RlI0 q z))
def RlI4 (q : PRl) (z : XRl) : St V := ⟨[(0, .rp (some (q.b, 0))), (3, .sl false 14 0 4 z.o.length (z.o.length + z.sp)), (6, .int .i64 (z.i : Int))], [(14, .arr 29 Kd.ent z.o z.sp), (0, .pool q.p)], 15, 79, TQA⟩
structure PRo extends PRl where
  o0 : List Ent
  sp0 : Nat
  ho : o0 = insMany [] t.B.flatten
structure PRn extends PRl where
  i : Nat
  o0 : List Ent
  sp0 : Nat
  hi0 : t.moved ≤ i
  hi : i < t.O.length
  ho : o0.length ≤ 1000000 ∧ o0.length + (t.O.getD i []).length ≤ 1000000
def RlI6 (q : PRn) (z : XRl) : St V := ⟨[(0, .rp (some (q.b, 0))), (3, .sl false 16 0 4 z.o.length (z.o.length + z.sp)), (6, .int .i64 (q.i : Int)), (7, .int .i64 (z.i : Int))], [(16, .arr 29 Kd.ent z.o z.sp), (0, .pool q.p)], 17, 79, TQA⟩
structure JRn (q : PRn) (z : XRl) : Prop where
  le : z.i ≤ (q.t.O.getD q.i []).length
  ho : z.o = insMany q.o0 ((q.t.O.getD q.i []).take z.i)
def LRl6 : LoopS V := trimLoop (trimSt [0, 3, 6, 7] [0, 14]) (loopH 16 (fun q : PRn => RlI6 q ⟨0, q.o0, q.sp0⟩) (fun q (z : XRl) => z.i = (q.t.O.getD q.i []).length ∧ z.o = insMany q.o0 (q.t.O.getD q.i [])) (fun q z => RlI6 q z))
noncomputable def cfgRL6 : Cfg Try.prog V := ⟨tab, kinds, fun _ => none, hooksRA, fun f id => match f, id with | 28, 6 => some LRl6 | _, _ => none⟩
structure JRo (q : PRo) (z : XRl) : Prop where
  lo : q.t.moved ≤ z.i
  le : z.i ≤ q.t.O.length
  ho : z.o = insMany q.o0 ((q.t.O.take z.i).drop q.t.moved).flatten
def LRl4 : LoopS V := trimLoop (trimSt [0, 3, 6] [0, 10]) (loopH 14 (fun q : PRo => RlI4 q.toPRl ⟨q.t.moved, q.o0, q.sp0⟩) (fun q (z : XRl) => JRo q z ∧ z.i = q.t.O.length) (fun q z => RlI4 q.toPRl z))
noncomputable def cfgRL0 : Cfg Try.prog V := ⟨tab, kinds, fun _ => none, hooksRA, fun f id => match f, id with | 28, 0 => some LRl0 | 28, 4 => some LRl4 | _, _ => none⟩
theorem rball2 (q : PRm) (z : XRl) : runCode cfgRL 60 28 (loopOf Try.f28 2) (RlI2 q z) (stopT (trimSt [0, 3, 4, 5] [0, 12, 13, 14, 15])) = Out.need ((some (q.toPRl.2, (0 : Nat))).isSome = true) (Out.need ((some (q.toPRl.2, (0 : Nat))).isSome = true) (Out.ex (Option (Nat × Nat)) fun y => Out.ex Nat fun y_1 => Out.ex Nat fun y_2 => Out.need (q.p.at (shiftA (some (q.toPRl.2, (0 : Nat))) (0 : Nat)) [PD.sl y y_1 y_2]) (Out.need ((0 : Int) ≤ (↑q.2 : Int) ∧ (↑q.2 : Int) < (↑y_1 : Int) ∧ y.isSome = true) (Out.ex (Option (Nat × Nat)) fun y_3 => Out.ex Nat fun y_4 => Out.ex Nat fun y_5 => Out.need (q.p.at (shiftA y (q.2 * (1 : Nat))) [PD.sl y_3 y_4 y_5]) (Out.ite (decide ((↑z.1 : Int) < (↑y_4 : Int))) (Out.need ((some (q.toPRl.2, (0 : Nat))).isSome = true) (Out.need ((some (q.toPRl.2, (0 : Nat))).isSome = true) (Out.ex (Option (Nat × Nat)) fun y => Out.ex Nat fun y_6 => Out.ex Nat fun y_7 => Out.need (q.p.at (shiftA (some (q.toPRl.2, (0 : Nat))) (0 : Nat)) [PD.sl y y_6 y_7]) (Out.need ((0 : Int) ≤ (↑q.2 : Int) ∧ (↑q.2 : Int) < (↑y_6 : Int) ∧ y.isSome = true) (Out.ex (Option (Nat × Nat)) fun y_8 => Out.ex Nat fun y_9 => Out.ex Nat fun y_10 => Out.need (q.p.at (shiftA y (q.2 * (1 : Nat))) [PD.sl y_8 y_9 y_10]) (Out.need ((0 : Int) ≤ (↑z.1 : Int) ∧ (↑z.1 : Int) < (↑y_9 : Int) ∧ y_8.isSome = true) (Out.ex Int fun y => Out.ex Int fun y_11 => Out.ex Int fun y_12 => Out.ex Int fun y_13 => Out.need (q.p.at (shiftA y_8 (z.1 * (4 : Nat))) [PD.int .i64 y, PD.int .i64 y_11, PD.int .i64 y_12, PD.int .i64 y_13]) (Out.need ((0 : Nat) + z.o.length ≤ z.o.length) (Out.need ((List.take z.o.length (List.drop (0 : Nat) z.o)).length ≤ (1000000 : Nat) ∧ (List.take z.o.length (List.drop (0 : Nat) z.o)).length ≤ z.o.length + z.3) (Out.all Nat fun y_14 => Out.stop EX.nx {env := [((0 : Nat), AV.rp (some (q.toPRl.2, (0 : Nat)))), ((3 : Nat), .sl false (13 : Nat) (0 : Nat) (4 : Nat) ((List.take z.o.length (List.drop (0 : Nat) z.o)).length + (1 : Nat)) ((List.take z.o.length (List.drop (0 : Nat) z.o)).length + (1 : Nat) + y_14)), ((4 : Nat), .int .i64 (↑q.2 : Int)), ((5 : Nat), .int .i64 (IntKind.i64.wrap ((↑z.1 : Int) + (1 : Int))))], heap := [((13 : Nat), .arr (29 : Nat) Kd.ent (insS (List.take z.o.length (List.drop (0 : Nat) z.o)) {key := y, value := y_11, weight := y_12, node := y_13 : Ent }) y_14), ((12 : Nat), .arr (29 : Nat) Kd.ent z.o z.3), ((0 : Nat), Blk.pool q.p)], nx := (14 : Nat), nt := (79 : Nat), tl := [(0 : Nat), (1 : Nat), (2 : Nat), (3 : Nat), (4 : Nat), (5 : Nat), (6 : Nat), (7 : Nat), (8 : Nat), (9 : Nat), (10 : Nat), (11 : Nat), (12 : Nat), (13 : Nat), (14 : Nat), (15 : Nat), (16 : Nat), (17 : Nat), (18 : Nat), (19 : Nat), (20 : Nat), (21 : Nat), (22 : Nat)] : St V })))))))))) (Out.stop (EX.ex (2 : Nat)) {env := [((0 : Nat), AV.rp (some (q.toPRl.2, (0 : Nat)))), ((3 : Nat), .sl false (12 : Nat) (0 : Nat) (4 : Nat) z.o.length (z.o.length + z.3)), ((4 : Nat), .int .i64 (↑q.2 : Int)), ((5 : Nat), .int .i64 (↑z.1 : Int))], heap := [((12 : Nat), .arr (29 : Nat) Kd.ent z.o z.3), ((0 : Nat), Blk.pool q.p)], nx := (13 : Nat), nt := (79 : Nat), tl := [(0 : Nat), (1 : Nat), (2 : Nat), (3 : Nat), (4 : Nat), (5 : Nat), (6 : Nat), (7 : Nat), (8 : Nat), (9 : Nat), (10 : Nat), (11 : Nat), (12 : Nat), (13 : Nat), (14 : Nat), (15 : Nat), (16 : Nat), (17 : Nat), (18 : Nat), (19 : Nat), (20 : Nat), (21 : Nat), (22 : Nat)] : St V })))))) := by kernel_rfl

theorem rball0 (q : PRl) (z : XRl) : runCode cfgRL2 60 28 (loopOf Try.f28 0) (RlI0 q z) (stopT (trimSt [0, 3, 4] [0, 10, 12, 13, 14, 15])) = Out.need ((some (q.2, (0 : Nat))).isSome = true) (Out.need ((some (q.2, (0 : Nat))).isSome = true) (Out.ex (Option (Nat × Nat)) fun y => Out.ex Nat fun y_1 => Out.ex Nat fun y_2 => Out.need (q.p.at (shiftA (some (q.2, (0 : Nat))) (0 : Nat)) [PD.sl y y_1 y_2]) (Out.ite (decide ((↑z.1 : Int) < (↑y_1 : Int))) (Out.need (LoopFor Try.prog (28 : Nat) (2 : Nat) (loopOf Try.f28 (2 : Nat)) LRl2) (Out.ex (PRm → Prop) fun y => Out.need ((11 : Nat) ≤ (12 : Nat) ∧ SImp (12 : Nat) {env := [((0 : Nat), AV.rp (some (q.2, (0 : Nat)))), ((3 : Nat), .sl false (10 : Nat) (0 : Nat) (4 : Nat) z.o.length (z.o.length + z.3)), ((4 : Nat), .int .i64 (↑z.1 : Int)), ((5 : Nat), .lit .i64 (0 : Int))], heap := [((10 : Nat), .arr (29 : Nat) Kd.ent z.o z.3), ((0 : Nat), Blk.pool q.p)], nx := (11 : Nat), nt := (79 : Nat), tl := [(0 : Nat), (1 : Nat), (2 : Nat), (3 : Nat), (4 : Nat), (5 : Nat), (6 : Nat), (7 : Nat), (8 : Nat), (9 : Nat), (10 : Nat), (11 : Nat), (12 : Nat), (13 : Nat), (14 : Nat), (15 : Nat), (16 : Nat), (17 : Nat), (18 : Nat), (19 : Nat), (20 : Nat), (21 : Nat), (22 : Nat)] : St V } (fun q => RlI2 q {i := (0 : Nat), o := q.o0, sp := q.4 : XRl }) y) (Out.all PRm fun y_3 => Out.asm (y y_3) (Out.all XRl fun y => Out.asm ((fun q z => z.1 = (q.t.B.getD q.2 []).length ∧ z.o = insMany q.o0 (q.t.B.getD q.2 [])) y_3 y) (Out.stop EX.nx {env := [((0 : Nat), AV.rp (some (y_3.toPRl.2, (0 : Nat)))), ((3 : Nat), .sl false (12 : Nat) (0 : Nat) (4 : Nat) y.o.length (y.o.length + y.3)), ((4 : Nat), .int .i64 (IntKind.i64.wrap ((↑y_3.2 : Int) + (1 : Int))))], heap := [((12 : Nat), .arr (29 : Nat) Kd.ent y.o y.3), ((0 : Nat), Blk.pool y_3.p)], nx := (13 : Nat), nt := (79 : Nat), tl := [(0 : Nat), (1 : Nat), (2 : Nat), (3 : Nat), (4 : Nat), (5 : Nat), (6 : Nat), (7 : Nat), (8 : Nat), (9 : Nat), (10 : Nat), (11 : Nat), (12 : Nat), (13 : Nat), (14 : Nat), (15 : Nat), (16 : Nat), (17 : Nat), (18 : Nat), (19 : Nat), (20 : Nat), (21 : Nat), (22 : Nat)] : St V }))))) (Out.stop (EX.ex (0 : Nat)) {env := [((0 : Nat), AV.rp (some (q.2, (0 : Nat)))), ((3 : Nat), .sl false (10 : Nat) (0 : Nat) (4 : Nat) z.o.length (z.o.length + z.3)), ((4 : Nat), .int .i64 (↑z.1 : Int))], heap := [((10 : Nat), .arr (29 : Nat) Kd.ent z.o z.3), ((0 : Nat), Blk.pool q.p)], nx := (11 : Nat), nt := (79 : Nat), tl := [(0 : Nat), (1 : Nat), (2 : Nat), (3 : Nat), (4 : Nat), (5 : Nat), (6 : Nat), (7 : Nat), (8 : Nat), (9 : Nat), (10 : Nat), (11 : Nat), (12 : Nat), (13 : Nat), (14 : Nat), (15 : Nat), (16 : Nat), (17 : Nat), (18 : Nat), (19 : Nat), (20 : Nat), (21 : Nat), (22 : Nat)] : St V })))) := by kernel_rfl

theorem rball6 (q : PRn) (z : XRl) : runCode cfgRL 60 28 (loopOf Try.f28 6) (RlI6 q z) (stopT (trimSt [0, 3, 6, 7] [0, 16, 17, 18, 19])) = Out.need ((some (q.toPRl.2, (0 : Nat))).isSome = true) (Out.need ((some (q.toPRl.2, (0 : Nat))).isSome = true) (Out.ex (Option (Nat × Nat)) fun y => Out.ex Nat fun y_1 => Out.ex Nat fun y_2 => Out.need (q.p.at (shiftA (some (q.toPRl.2, (0 : Nat))) (1 : Nat)) [PD.sl y y_1 y_2]) (Out.need ((0 : Int) ≤ (↑q.2 : Int) ∧ (↑q.2 : Int) < (↑y_1 : Int) ∧ y.isSome = true) (Out.ex (Option (Nat × Nat)) fun y_3 => Out.ex Nat fun y_4 => Out.ex Nat fun y_5 => Out.need (q.p.at (shiftA y (q.2 * (1 : Nat))) [PD.sl y_3 y_4 y_5]) (Out.ite (decide ((↑z.1 : Int) < (↑y_4 : Int))) (Out.need ((some (q.toPRl.2, (0 : Nat))).isSome = true) (Out.need ((some (q.toPRl.2, (0 : Nat))).isSome = true) (Out.ex (Option (Nat × Nat)) fun y => Out.ex Nat fun y_6 => Out.ex Nat fun y_7 => Out.need (q.p.at (shiftA (some (q.toPRl.2, (0 : Nat))) (1 : Nat)) [PD.sl y y_6 y_7]) (Out.need ((0 : Int) ≤ (↑q.2 : Int) ∧ (↑q.2 : Int) < (↑y_6 : Int) ∧ y.isSome = true) (Out.ex (Option (Nat × Nat)) fun y_8 => Out.ex Nat fun y_9 => Out.ex Nat fun y_10 => Out.need (q.p.at (shiftA y (q.2 * (1 : Nat))) [PD.sl y_8 y_9 y_10]) (Out.need ((0 : Int) ≤ (↑z.1 : Int) ∧ (↑z.1 : Int) < (↑y_9 : Int) ∧ y_8.isSome = true) (Out.ex Int fun y => Out.ex Int fun y_11 => Out.ex Int fun y_12 => Out.ex Int fun y_13 => Out.need (q.p.at (shiftA y_8 (z.1 * (4 : Nat))) [PD.int .i64 y, PD.int .i64 y_11, PD.int .i64 y_12, PD.int .i64 y_13]) (Out.need ((0 : Nat) + z.o.length ≤ z.o.length) (Out.need ((List.take z.o.length (List.drop (0 : Nat) z.o)).length ≤ (1000000 : Nat) ∧ (List.take z.o.length (List.drop (0 : Nat) z.o)).length ≤ z.o.length + z.3) (Out.all Nat fun y_14 => Out.stop EX.nx {env := [((0 : Nat), AV.rp (some (q.toPRl.2, (0 : Nat)))), ((3 : Nat), .sl false (17 : Nat) (0 : Nat) (4 : Nat) ((List.take z.o.length (List.drop (0 : Nat) z.o)).length + (1 : Nat)) ((List.take z.o.length (List.drop (0 : Nat) z.o)).length + (1 : Nat) + y_14)), ((6 : Nat), .int .i64 (↑q.2 : Int)), ((7 : Nat), .int .i64 (IntKind.i64.wrap ((↑z.1 : Int) + (1 : Int))))], heap := [((17 : Nat), .arr (29 : Nat) Kd.ent (insS (List.take z.o.length (List.drop (0 : Nat) z.o)) {key := y, value := y_11, weight := y_12, node := y_13 : Ent }) y_14), ((16 : Nat), .arr (29 : Nat) Kd.ent z.o z.3), ((0 : Nat), Blk.pool q.p)], nx := (18 : Nat), nt := (79 : Nat), tl := [(0 : Nat), (1 : Nat), (2 : Nat), (3 : Nat), (4 : Nat), (5 : Nat), (6 : Nat), (7 : Nat), (8 : Nat), (9 : Nat), (10 : Nat), (11 : Nat), (12 : Nat), (13 : Nat), (14 : Nat), (15 : Nat), (16 : Nat), (17 : Nat), (18 : Nat), (19 : Nat), (20 : Nat), (21 : Nat), (22 : Nat)] : St V })))))))))) (Out.stop (EX.ex (6 : Nat)) {env := [((0 : Nat), AV.rp (some (q.toPRl.2, (0 : Nat)))), ((3 : Nat), .sl false (16 : Nat) (0 : Nat) (4 : Nat) z.o.length (z.o.length + z.3)), ((6 : Nat), .int .i64 (↑q.2 : Int)), ((7 : Nat), .int .i64 (↑z.1 : Int))], heap := [((16 : Nat), .arr (29 : Nat) Kd.ent z.o z.3), ((0 : Nat), Blk.pool q.p)], nx := (17 : Nat), nt := (79 : Nat), tl := [(0 : Nat), (1 : Nat), (2 : Nat), (3 : Nat), (4 : Nat), (5 : Nat), (6 : Nat), (7 : Nat), (8 : Nat), (9 : Nat), (10 : Nat), (11 : Nat), (12 : Nat), (13 : Nat), (14 : Nat), (15 : Nat), (16 : Nat), (17 : Nat), (18 : Nat), (19 : Nat), (20 : Nat), (21 : Nat), (22 : Nat)] : St V })))))) := by kernel_rfl

theorem rball4 (q : PRl) (z : XRl) : runCode cfgRL6 60 28 (loopOf Try.f28 4) (RlI4 q z) (stopT (trimSt [0, 3, 6] [0, 14, 16, 17, 18, 19])) = Out.need ((some (q.2, (0 : Nat))).isSome = true) (Out.need ((some (q.2, (0 : Nat))).isSome = true) (Out.ex (Option (Nat × Nat)) fun y => Out.ex Nat fun y_1 => Out.ex Nat fun y_2 => Out.need (q.p.at (shiftA (some (q.2, (0 : Nat))) (1 : Nat)) [PD.sl y y_1 y_2]) (Out.ite (decide ((↑z.1 : Int) < (↑y_1 : Int))) (Out.need (LoopFor Try.prog (28 : Nat) (6 : Nat) (loopOf Try.f28 (6 : Nat)) LRl6) (Out.ex (PRn → Prop) fun y => Out.need ((15 : Nat) ≤ (16 : Nat) ∧ SImp (16 : Nat) {env := [((0 : Nat), AV.rp (some (q.2, (0 : Nat)))), ((3 : Nat), .sl false (14 : Nat) (0 : Nat) (4 : Nat) z.o.length (z.o.length + z.3)), ((6 : Nat), .int .i64 (↑z.1 : Int)), ((7 : Nat), .lit .i64 (0 : Int))], heap := [((14 : Nat), .arr (29 : Nat) Kd.ent z.o z.3), ((0 : Nat), Blk.pool q.p)], nx := (15 : Nat), nt := (79 : Nat), tl := [(0 : Nat), (1 : Nat), (2 : Nat), (3 : Nat), (4 : Nat), (5 : Nat), (6 : Nat), (7 : Nat), (8 : Nat), (9 : Nat), (10 : Nat), (11 : Nat), (12 : Nat), (13 : Nat), (14 : Nat), (15 : Nat), (16 : Nat), (17 : Nat), (18 : Nat), (19 : Nat), (20 : Nat), (21 : Nat), (22 : Nat)] : St V } (fun q => RlI6 q {i := (0 : Nat), o := q.o0, sp := q.4 : XRl }) y) (Out.all PRn fun y_3 => Out.asm (y y_3) (Out.all XRl fun y => Out.asm ((fun q z => z.1 = (q.t.O.getD q.2 []).length ∧ z.o = insMany q.o0 (q.t.O.getD q.2 [])) y_3 y) (Out.stop EX.nx {env := [((0 : Nat), AV.rp (some (y_3.toPRl.2, (0 : Nat)))), ((3 : Nat), .sl false (16 : Nat) (0 : Nat) (4 : Nat) y.o.length (y.o.length + y.3)), ((6 : Nat), .int .i64 (IntKind.i64.wrap ((↑y_3.2 : Int) + (1 : Int))))], heap := [((16 : Nat), .arr (29 : Nat) Kd.ent y.o y.3), ((0 : Nat), Blk.pool y_3.p)], nx := (17 : Nat), nt := (79 : Nat), tl := [(0 : Nat), (1 : Nat), (2 : Nat), (3 : Nat), (4 : Nat), (5 : Nat), (6 : Nat), (7 : Nat), (8 : Nat), (9 : Nat), (10 : Nat), (11 : Nat), (12 : Nat), (13 : Nat), (14 : Nat), (15 : Nat), (16 : Nat), (17 : Nat), (18 : Nat), (19 : Nat), (20 : Nat), (21 : Nat), (22 : Nat)] : St V }))))) (Out.stop (EX.ex (4 : Nat)) {env := [((0 : Nat), AV.rp (some (q.2, (0 : Nat)))), ((3 : Nat), .sl false (14 : Nat) (0 : Nat) (4 : Nat) z.o.length (z.o.length + z.3)), ((6 : Nat), .int .i64 (↑z.1 : Int))], heap := [((14 : Nat), .arr (29 : Nat) Kd.ent z.o z.3), ((0 : Nat), Blk.pool q.p)], nx := (15 : Nat), nt := (79 : Nat), tl := [(0 : Nat), (1 : Nat), (2 : Nat), (3 : Nat), (4 : Nat), (5 : Nat), (6 : Nat), (7 : Nat), (8 : Nat), (9 : Nat), (10 : Nat), (11 : Nat), (12 : Nat), (13 : Nat), (14 : Nat), (15 : Nat), (16 : Nat), (17 : Nat), (18 : Nat), (19 : Nat), (20 : Nat), (21 : Nat), (22 : Nat)] : St V })))) := by kernel_rfl

theorem rtall (p : Pool) (b : Nat) : runF cfgRL0 60 28 Try.f28 [.rp (some (b, 0))] [(0, .pool p)] 2 = Out.need (LoopFor Try.prog (28 : Nat) (0 : Nat) (loopOf Try.f28 (0 : Nat)) LRl0) (Out.ex (PRl → Prop) fun y => Out.need ((2 : Nat) ≤ (10 : Nat) ∧ SImp (10 : Nat) {env := [((0 : Nat), AV.rp (some (b, (0 : Nat)))), ((3 : Nat), .nilS), ((4 : Nat), .lit .i64 (0 : Int))], heap := [((0 : Nat), Blk.pool p)], nx := (2 : Nat), nt := (79 : Nat), tl := [] : St V } (fun q => RlI0 q {i := (0 : Nat), o := [], sp := (0 : Nat) : XRl }) y) (Out.all PRl fun y_1 => Out.asm (y y_1) (Out.all XRl fun y => Out.asm ((fun q z => JRl q z ∧ z.1 = q.t.B.length) y_1 y) (Out.need ((some (y_1.2, (0 : Nat))).isSome = true) (Out.need ((some (y_1.2, (0 : Nat))).isSome = true) (Out.ex Int fun y_2 => Out.need (y_1.p.at (shiftA (some (y_1.2, (0 : Nat))) (2 : Nat)) [PD.int .i64 y_2]) (Out.need (LoopFor Try.prog (28 : Nat) (4 : Nat) (loopOf Try.f28 (4 : Nat)) LRl4) (Out.ex (PRo → Prop) fun y_3 => Out.need ((11 : Nat) ≤ (14 : Nat) ∧ SImp (14 : Nat) {env := [((0 : Nat), AV.rp (some (y_1.2, (0 : Nat)))), ((3 : Nat), .sl false (10 : Nat) (0 : Nat) (4 : Nat) y.o.length (y.o.length + y.3)), ((6 : Nat), .int .i64 y_2)], heap := [((10 : Nat), .arr (29 : Nat) Kd.ent y.o y.3), ((0 : Nat), Blk.pool y_1.p)], nx := (11 : Nat), nt := (79 : Nat), tl := [(0 : Nat), (1 : Nat), (2 : Nat), (3 : Nat), (4 : Nat), (5 : Nat), (6 : Nat), (7 : Nat), (8 : Nat), (9 : Nat), (10 : Nat), (11 : Nat), (12 : Nat), (13 : Nat), (14 : Nat), (15 : Nat), (16 : Nat), (17 : Nat), (18 : Nat), (19 : Nat), (20 : Nat), (21 : Nat), (22 : Nat)] : St V } (fun q => RlI4 q.toPRl {i := q.t.4, o := q.o0, sp := q.3 : XRl }) y_3) (Out.all PRo fun y => Out.asm (y_3 y) (Out.all XRl fun y_4 => Out.asm ((fun q z => JRo q z ∧ z.1 = q.t.O.length) y y_4) (Out.fin (.sl false (14 : Nat) (0 : Nat) (4 : Nat) y_4.o.length (y_4.o.length + y_4.3)) [((14 : Nat), .arr (29 : Nat) Kd.ent y_4.o y_4.3), ((0 : Nat), Blk.pool y.p)] (15 : Nat)))))))))))) := by kernel_rfl

end Sx
end Go.Proofs.Ytkadlfadmjhahaa

/-
  The document on tables: all entries, bucket by bucket.
-/
namespace Go.Proofs.Ytkadlfadmjhahaa
namespace Sx
open Go
set_option linter.unusedSimpArgs false
set_option linter.unusedVariables false

theorem hooksRA_ok : ∀ g H, hooksRA g = some H → HookOk Try.prog g H := by
  intro g H h
  unfold hooksRA at h
  split at h
  · cases h; exact hRput
  · exact hooksR3_ok _ _ h
theorem cfgRL_ok : cfgRL.ok := ⟨tab_met, kinds_met, mixed_met, fun g fn h => (by cases h), hooksRA_ok⟩
theorem cfgRL2_ok : cfgRL2.ok := ⟨tab_met, kinds_met, mixed_met, fun g fn h => (by cases h), hooksRA_ok⟩
theorem cfgRL6_ok : cfgRL6.ok := ⟨tab_met, kinds_met, mixed_met, fun g fn h => (by cases h), hooksRA_ok⟩
theorem cfgRL0_ok : cfgRL0.ok := ⟨tab_met, kinds_met, mixed_met, fun g fn h => (by cases h), hooksRA_ok⟩
theorem insMany_len : ∀ (l o : List Ent), (insMany o l).length = o.length + l.length
  | [], _ => rfl
  | e :: l, o => by
    show (insMany (insS o e) l).length = _
    rw [insMany_len l, insS_len]; simp; omega
theorem insMany_app (o a c : List Ent) : insMany o (a ++ c) = insMany (insMany o a) c := by unfold insMany; rw [List.foldl_append]
theorem flatE_take_le : ∀ (l : List (List Ent)) (i : Nat), ((l.take i).flatten).length ≤ (l.map List.length).sum
  | [], i => by simp
  | a :: l, 0 => by simp
  | a :: l, i + 1 => by
    have := flatE_take_le l i
    simp only [List.take_succ_cons, List.flatten_cons, List.length_append, List.map_cons, List.sum_cons]; omega
theorem flat_succ {l : List (List Ent)} {i : Nat} (h : i < l.length) : (l.take (i + 1)).flatten = (l.take i).flatten ++ l.getD i [] := by
  rw [List.take_succ_eq_append_getElem h, List.flatten_append, List.getD_eq_getElem?_getD, List.getElem?_eq_getElem h]; simp
theorem PRl.tot (q : PRl) : (q.t.B.map List.length).sum + ((q.t.O.drop q.t.moved).map List.length).sum ≤ 1000000 := by
  have := q.hG.len
  have := q.hl
  unfold TM.total at *; omega
theorem PRm.len (q : PRm) : q.o0.length + (q.t.B.getD q.i []).length ≤ 1000000 := by
  have h1 := q.toPRl.tot
  have h2 := flatE_take_le q.t.B (q.i + 1)
  rw [flat_succ q.hi, List.length_append] at h2
  rw [q.ho, insMany_len]; simp only [List.length_nil]; omega
theorem PRn.len (q : PRn) : q.o0.length + (q.t.O.getD q.i []).length ≤ 1000000 := q.ho.2

theorem rl2body (q : PRm) (z : XRl) (h : JRm q z) (Q : EX → St V → Prop) (F : AV → Heap V → Nat → Prop)
    (hnx : ∀ (ST : St V) (y : XRl), z.i < (q.t.B.getD q.i []).length → JRm q y → y.i = z.i + 1 → Wk 12 [(12, 13)] ST (RlI2 q y) → Q .nx ST) (hex : ∀ ST : St V, z.i = (q.t.B.getD q.i []).length → Wk 12 [(12, 12)] ST (RlI2 q z) → Q (.ex 2) ST) :
    (runCode cfgRL 60 28 (loopOf Try.f28 2) (RlI2 q z) (stopT (trimSt [0, 3, 4, 5] [0, 12, 13, 14, 15]))).holds ⟨Q, F⟩ := by
  rw [rball2]
  have hA := q.hA
  have hbl := hA.bl
  have hi := q.hi
  have hR := hA.bs q.i hi
  have hat := row_at hA.brow (i := q.i) (by omega)
  have hqlen := q.len
  obtain ⟨hle, ho⟩ := h
  generalize hw : q.L.B.getD q.i w0 = w at hR hat
  obtain ⟨wo, wl, wc⟩ := w
  have hat : q.p.at (shiftA (some (q.L.bb, 0)) (q.i * 1)) [PD.sl wo wl wc] := hat
  have hwl : wl = (q.t.B.getD q.i []).length := hR.len
  have hib : (0 : Int) ≤ (q.i : Int) ∧ (q.i : Int) < (q.L.B.length : Int) ∧ (some (q.L.bb, 0)).isSome = true := ⟨by omega, by omega, rfl⟩
  refine ⟨rfl, rfl, _, _, _, hA.fB, hib, _, _, _, hat, fun hlt => ?_, fun hge => hex _ (by have := of_decide_eq_false hge; omega) (by (refine ⟨?_, ?_, rfl, tl_ok rfl, ?_, ⟨Nat.le_of_ble_eq_true rfl, rfl⟩⟩ <;> (repeat' first | with_reducible exact trivial | exact AV.sub_same _ | exact .same _ | exact .inr rfl | exact .inl (in_ok rfl) | exact AV.sub_lit' | exact AV.sub_nilS | exact .none _ _ | exact trivial | refine ⟨?_, ?_⟩)))⟩
  have hlt : z.i < (q.t.B.getD q.i []).length := by have := of_decide_eq_true hlt; omega
  obtain ⟨hs, hent⟩ := hR.ent hlt
  have hol : z.o.length = q.o0.length + z.i := by rw [ho, insMany_len, List.length_take]; omega
  have hw1 : IntKind.wrap .i64 ((z.i : Int) + 1) = ((z.i + 1 : Nat) : Int) := wrap_nat (by omega)
  have htk : List.take z.o.length (List.drop 0 z.o) = z.o := by rw [List.drop_zero, List.take_length]
  refine ⟨rfl, rfl, _, _, _, hA.fB, hib, _, _, _, hat, ⟨by omega, by omega, hs⟩, _, _, _, _, hent, by omega, ?_⟩
  rw [htk]
  refine ⟨⟨by omega, by omega⟩, fun sp => ?_⟩
  have hn : insMany q.o0 ((q.t.B.getD q.i []).take (z.i + 1)) = insS z.o (q.t.B.getD q.i [])[z.i] := by
    rw [List.take_succ_eq_append_getElem hlt, insMany_app, ← ho]; rfl
  have hil := insS_len z.o (q.t.B.getD q.i [])[z.i]
  exact hnx _ ⟨z.i + 1, insS z.o (q.t.B.getD q.i [])[z.i], sp⟩ hlt ⟨hlt, hn.symm⟩ rfl (by (refine ⟨?_, ?_, rfl, tl_ok rfl, ?_, ⟨Nat.le_of_ble_eq_true rfl, rfl⟩⟩ <;> (repeat' first | with_reducible exact trivial | (exact AV.sub_int hw1) | (exact AV.sub_sl hil.symm (by rw [hil])) | exact AV.sub_same _ | exact .same _ | exact .inr rfl | exact .inl (in_ok rfl) | exact AV.sub_lit' | exact AV.sub_nilS | exact .none _ _ | exact trivial | refine ⟨?_, ?_⟩)))
theorem lRl2_ok : LoopOk Try.prog 2 (loopOf Try.f28 2) LRl2 := by
  refine trimLoop_ok (trim_ok _ _) (loopTH_ok (C := cfgRL) cfgRL_ok (f := 28) (n := 60) (trim_ok [0, 3, 4, 5] [0, 12, 13, 14, 15]) 12 (fun q : PRm => RlI2 q) (fun q z => JRm q z) (fun q => ⟨0, q.o0, q.sp0⟩) (fun q z => (q.t.B.getD q.i []).length - z.i) (fun q (z : XRl) => z.i = (q.t.B.getD q.i []).length ∧ z.o = insMany q.o0 (q.t.B.getD q.i [])) (fun q z => RlI2 q z) (fun q => ⟨Nat.zero_le _, rfl⟩) ?_)
  intro q z h
  refine rl2body q z h _ _ (fun ST y hlt hy he hw => SImp.of_wk y hw ⟨hy, ?_⟩) (fun ST he hw => ⟨rfl, SImp.of_wk z hw ⟨he, ?_⟩⟩)
  · show (q.t.B.getD q.i []).length - y.i < (q.t.B.getD q.i []).length - z.i; omega
  · have := h.ho; rw [he, List.take_length] at this; exact this

theorem rl6body (q : PRn) (z : XRl) (h : JRn q z) (Q : EX → St V → Prop) (F : AV → Heap V → Nat → Prop)
    (hnx : ∀ (ST : St V) (y : XRl), z.i < (q.t.O.getD q.i []).length → JRn q y → y.i = z.i + 1 → Wk 16 [(16, 17)] ST (RlI6 q y) → Q .nx ST) (hex : ∀ ST : St V, z.i = (q.t.O.getD q.i []).length → Wk 16 [(16, 16)] ST (RlI6 q z) → Q (.ex 6) ST) :
    (runCode cfgRL 60 28 (loopOf Try.f28 6) (RlI6 q z) (stopT (trimSt [0, 3, 6, 7] [0, 16, 17, 18, 19]))).holds ⟨Q, F⟩ := by
  rw [rball6]
  have hA := q.hA
  have hol0 := hA.ol
  have hne : q.L.O ≠ [] := fun e => by rw [e] at hol0; have := q.hi; simp at hol0; omega
  have hfO := hA.fO
  rw [osl_has hne] at hfO
  have hi := q.hi
  have hR := hA.os q.i q.hi0 hi
  have hat := row_at (hA.orow hne) (i := q.i) (by omega)
  have hqlen := q.len
  obtain ⟨hle, ho⟩ := h
  generalize hw : q.L.O.getD q.i w0 = w at hR hat
  obtain ⟨wo, wl, wc⟩ := w
  have hat : q.p.at (shiftA (some (q.L.ob, 0)) (q.i * 1)) [PD.sl wo wl wc] := hat
  have hwl : wl = (q.t.O.getD q.i []).length := hR.len
  have hib : (0 : Int) ≤ (q.i : Int) ∧ (q.i : Int) < (q.L.O.length : Int) ∧ (some (q.L.ob, 0)).isSome = true := ⟨by omega, by omega, rfl⟩
  refine ⟨rfl, rfl, _, _, _, hfO, hib, _, _, _, hat, fun hlt => ?_, fun hge => hex _ (by have := of_decide_eq_false hge; omega) (by (refine ⟨?_, ?_, rfl, tl_ok rfl, ?_, ⟨Nat.le_of_ble_eq_true rfl, rfl⟩⟩ <;> (repeat' first | with_reducible exact trivial | exact AV.sub_same _ | exact .same _ | exact .inr rfl | exact .inl (in_ok rfl) | exact AV.sub_lit' | exact AV.sub_nilS | exact .none _ _ | exact trivial | refine ⟨?_, ?_⟩)))⟩
  have hlt : z.i < (q.t.O.getD q.i []).length := by have := of_decide_eq_true hlt; omega
  obtain ⟨hs, hent⟩ := hR.ent hlt
  have hol : z.o.length = q.o0.length + z.i := by rw [ho, insMany_len, List.length_take]; omega
  have hw1 : IntKind.wrap .i64 ((z.i : Int) + 1) = ((z.i + 1 : Nat) : Int) := wrap_nat (by omega)
  have htk : List.take z.o.length (List.drop 0 z.o) = z.o := by rw [List.drop_zero, List.take_length]
  refine ⟨rfl, rfl, _, _, _, hfO, hib, _, _, _, hat, ⟨by omega, by omega, hs⟩, _, _, _, _, hent, by omega, ?_⟩
  rw [htk]
  refine ⟨⟨by omega, by omega⟩, fun sp => ?_⟩
  have hn : insMany q.o0 ((q.t.O.getD q.i []).take (z.i + 1)) = insS z.o (q.t.O.getD q.i [])[z.i] := by
    rw [List.take_succ_eq_append_getElem hlt, insMany_app, ← ho]; rfl
  have hil := insS_len z.o (q.t.O.getD q.i [])[z.i]
  exact hnx _ ⟨z.i + 1, insS z.o (q.t.O.getD q.i [])[z.i], sp⟩ hlt ⟨hlt, hn.symm⟩ rfl (by (refine ⟨?_, ?_, rfl, tl_ok rfl, ?_, ⟨Nat.le_of_ble_eq_true rfl, rfl⟩⟩ <;> (repeat' first | with_reducible exact trivial | (exact AV.sub_int hw1) | (exact AV.sub_sl hil.symm (by rw [hil])) | exact AV.sub_same _ | exact .same _ | exact .inr rfl | exact .inl (in_ok rfl) | exact AV.sub_lit' | exact AV.sub_nilS | exact .none _ _ | exact trivial | refine ⟨?_, ?_⟩)))
theorem lRl6_ok : LoopOk Try.prog 6 (loopOf Try.f28 6) LRl6 := by
  refine trimLoop_ok (trim_ok _ _) (loopTH_ok (C := cfgRL) cfgRL_ok (f := 28) (n := 60) (trim_ok [0, 3, 6, 7] [0, 16, 17, 18, 19]) 16 (fun q : PRn => RlI6 q) (fun q z => JRn q z) (fun q => ⟨0, q.o0, q.sp0⟩) (fun q z => (q.t.O.getD q.i []).length - z.i) (fun q (z : XRl) => z.i = (q.t.O.getD q.i []).length ∧ z.o = insMany q.o0 (q.t.O.getD q.i [])) (fun q z => RlI6 q z) (fun q => ⟨Nat.zero_le _, rfl⟩) ?_)
  intro q z h
  refine rl6body q z h _ _ (fun ST y hlt hy he hw => SImp.of_wk y hw ⟨hy, ?_⟩) (fun ST he hw => ⟨rfl, SImp.of_wk z hw ⟨he, ?_⟩⟩)
  · show (q.t.O.getD q.i []).length - y.i < (q.t.O.getD q.i []).length - z.i; omega
  · have := h.ho; rw [he, List.take_length] at this; exact this

theorem rl0body (q : PRl) (z : XRl) (h : JRl q z) (Q : EX → St V → Prop) (F : AV → Heap V → Nat → Prop)
    (hnx : ∀ (ST : St V) (y : XRl), z.i < q.t.B.length → JRl q y → y.i = z.i + 1 → Wk 10 [(10, 12)] ST (RlI0 q y) → Q .nx ST) (hex : ∀ ST : St V, z.i = q.t.B.length → Wk 10 [(10, 10)] ST (RlI0 q z) → Q (.ex 0) ST) :
    (runCode cfgRL2 60 28 (loopOf Try.f28 0) (RlI0 q z) (stopT (trimSt [0, 3, 4] [0, 10, 12, 13, 14, 15]))).holds ⟨Q, F⟩ := by
  rw [rball0]
  have hA := q.hA
  have hbl := hA.bl
  have hb2 := q.hG.core.b2
  obtain ⟨hle, ho⟩ := h
  refine ⟨rfl, rfl, _, _, _, hA.fB, fun hlt => ?_, fun hge => hex _ (by have := of_decide_eq_false hge; omega) (by (refine ⟨?_, ?_, rfl, tl_ok rfl, ?_, ⟨Nat.le_of_ble_eq_true rfl, rfl⟩⟩ <;> (repeat' first | with_reducible exact trivial | exact AV.sub_same _ | exact .same _ | exact .inr rfl | exact .inl (in_ok rfl) | exact AV.sub_lit' | exact AV.sub_nilS | exact .none _ _ | exact trivial | refine ⟨?_, ?_⟩)))⟩
  have hlt : z.i < q.t.B.length := by have := of_decide_eq_true hlt; omega
  have hw1 : IntKind.wrap .i64 ((z.i : Int) + 1) = ((z.i + 1 : Nat) : Int) := wrap_nat (by omega)
  let q2 : PRm := ⟨q, z.i, z.o, z.sp, hlt, ho⟩
  refine ⟨lRl2_ok, fun x => x = q2, ⟨by decide, SImp.of_wk (ren := [(12, 10)]) q2 (by (refine ⟨?_, ?_, rfl, tl_ok rfl, ?_, ⟨Nat.le_of_ble_eq_true rfl, rfl⟩⟩ <;> (repeat' first | with_reducible exact trivial | exact AV.sub_same _ | exact .same _ | exact .inr rfl | exact .inl (in_ok rfl) | exact AV.sub_lit' | exact AV.sub_nilS | exact .none _ _ | exact trivial | refine ⟨?_, ?_⟩))) rfl⟩, ?_⟩
  rintro _ rfl y ⟨_, hy⟩
  have hy : y.o = insMany z.o (q.t.B.getD z.i []) := hy
  refine hnx _ ⟨z.i + 1, y.o, y.sp⟩ hlt ⟨hlt, ?_⟩ rfl (by (refine ⟨?_, ?_, rfl, tl_ok rfl, ?_, ⟨Nat.le_of_ble_eq_true rfl, rfl⟩⟩ <;> (repeat' first | with_reducible exact trivial | (exact AV.sub_int hw1) | exact AV.sub_same _ | exact .same _ | exact .inr rfl | exact .inl (in_ok rfl) | exact AV.sub_lit' | exact AV.sub_nilS | exact .none _ _ | exact trivial | refine ⟨?_, ?_⟩)))
  show y.o = _
  rw [hy, flat_succ hlt, insMany_app, ← ho]
theorem lRl0_ok : LoopOk Try.prog 0 (loopOf Try.f28 0) LRl0 := by
  refine trimLoop_ok (trim_ok _ _) (loopTH_ok (C := cfgRL2) cfgRL2_ok (f := 28) (n := 60) (trim_ok [0, 3, 4] [0, 10, 12, 13, 14, 15]) 10 (fun q : PRl => RlI0 q) (fun q z => JRl q z) (fun q => ⟨0, [], 0⟩) (fun q z => q.t.B.length - z.i) (fun q (z : XRl) => JRl q z ∧ z.i = q.t.B.length) (fun q z => RlI0 q z) (fun q => ⟨Nat.zero_le _, rfl⟩) ?_)
  intro q z h
  refine rl0body q z h _ _ (fun ST y hlt hy he hw => SImp.of_wk y hw ⟨hy, ?_⟩) (fun ST he hw => ⟨rfl, SImp.of_wk z hw ⟨h, he⟩⟩)
  show q.t.B.length - y.i < q.t.B.length - z.i; omega
theorem drop_take_succ {l : List (List Ent)} {m i : Nat} (h0 : m ≤ i) (h : i < l.length) : ((l.take (i + 1)).drop m).flatten = ((l.take i).drop m).flatten ++ l.getD i [] := by
  rw [List.take_succ_eq_append_getElem h, List.drop_append_of_le_length (by rw [List.length_take]; omega), List.flatten_append, List.getD_eq_getElem?_getD, List.getElem?_eq_getElem h]; simp
theorem flat_drop_le (l : List (List Ent)) (m i : Nat) : (((l.take i).drop m).flatten).length ≤ ((l.drop m).map List.length).sum := by
  rw [List.drop_take]; exact flatE_take_le _ _
theorem rl4body (q : PRo) (z : XRl) (h : JRo q z) (Q : EX → St V → Prop) (F : AV → Heap V → Nat → Prop)
    (hnx : ∀ (ST : St V) (y : XRl), z.i < q.t.O.length → JRo q y → y.i = z.i + 1 → Wk 14 [(14, 16)] ST (RlI4 q.toPRl y) → Q .nx ST) (hex : ∀ ST : St V, z.i = q.t.O.length → Wk 14 [(14, 14)] ST (RlI4 q.toPRl z) → Q (.ex 4) ST) :
    (runCode cfgRL6 60 28 (loopOf Try.f28 4) (RlI4 q.toPRl z) (stopT (trimSt [0, 3, 6] [0, 14, 16, 17, 18, 19]))).holds ⟨Q, F⟩ := by
  rw [rball4]
  have hA := q.hA
  have hol := hA.ol
  have hb3 := q.hG.core.b3
  obtain ⟨hlo, hle, ho⟩ := h
  obtain ⟨oo, e1, _⟩ := osl_all q.L
  have hfO := hA.fO
  rw [e1] at hfO
  refine ⟨rfl, rfl, _, _, _, hfO, fun hlt => ?_, fun hge => hex _ (by have := of_decide_eq_false hge; omega) (by (refine ⟨?_, ?_, rfl, tl_ok rfl, ?_, ⟨Nat.le_of_ble_eq_true rfl, rfl⟩⟩ <;> (repeat' first | with_reducible exact trivial | exact AV.sub_same _ | exact .same _ | exact .inr rfl | exact .inl (in_ok rfl) | exact AV.sub_lit' | exact AV.sub_nilS | exact .none _ _ | exact trivial | refine ⟨?_, ?_⟩)))⟩
  have hlt : z.i < q.t.O.length := by have := of_decide_eq_true hlt; omega
  have hw1 : IntKind.wrap .i64 ((z.i : Int) + 1) = ((z.i + 1 : Nat) : Int) := wrap_nat (by omega)
  have hbound : z.o.length ≤ 1000000 ∧ z.o.length + (q.t.O.getD z.i []).length ≤ 1000000 := by
    have h1 := q.toPRl.tot
    have h2 := flat_drop_le q.t.O q.t.moved (z.i + 1)
    have h3 := flatE_take_le q.t.B q.t.B.length
    rw [List.take_length] at h3
    rw [drop_take_succ hlo hlt, List.length_append] at h2
    have h4 : z.o.length = q.t.B.flatten.length + (((q.t.O.take z.i).drop q.t.moved).flatten).length := by
      rw [ho, insMany_len, q.ho, insMany_len]; simp
    omega
  let q2 : PRn := ⟨q.toPRl, z.i, z.o, z.sp, hlo, hlt, hbound⟩
  refine ⟨lRl6_ok, fun x => x = q2, ⟨by decide, SImp.of_wk (ren := [(16, 14)]) q2 (by (refine ⟨?_, ?_, rfl, tl_ok rfl, ?_, ⟨Nat.le_of_ble_eq_true rfl, rfl⟩⟩ <;> (repeat' first | with_reducible exact trivial | exact AV.sub_same _ | exact .same _ | exact .inr rfl | exact .inl (in_ok rfl) | exact AV.sub_lit' | exact AV.sub_nilS | exact .none _ _ | exact trivial | refine ⟨?_, ?_⟩))) rfl⟩, ?_⟩
  rintro _ rfl y ⟨_, hy⟩
  have hy : y.o = insMany z.o (q.t.O.getD z.i []) := hy
  refine hnx _ ⟨z.i + 1, y.o, y.sp⟩ hlt ⟨by show q.t.moved ≤ z.i + 1; omega, hlt, ?_⟩ rfl (by (refine ⟨?_, ?_, rfl, tl_ok rfl, ?_, ⟨Nat.le_of_ble_eq_true rfl, rfl⟩⟩ <;> (repeat' first | with_reducible exact trivial | (exact AV.sub_int hw1) | exact AV.sub_same _ | exact .same _ | exact .inr rfl | exact .inl (in_ok rfl) | exact AV.sub_lit' | exact AV.sub_nilS | exact .none _ _ | exact trivial | refine ⟨?_, ?_⟩)))
  show y.o = _
  rw [hy, drop_take_succ hlo hlt, insMany_app, ← ho]
theorem lRl4_ok : LoopOk Try.prog 4 (loopOf Try.f28 4) LRl4 := by
  refine trimLoop_ok (trim_ok _ _) (loopTH_ok (C := cfgRL6) cfgRL6_ok (f := 28) (n := 60) (trim_ok [0, 3, 6] [0, 14, 16, 17, 18, 19]) 14 (fun q : PRo => RlI4 q.toPRl) (fun q z => JRo q z) (fun q => ⟨q.t.moved, q.o0, q.sp0⟩) (fun q z => q.t.O.length - z.i) (fun q (z : XRl) => JRo q z ∧ z.i = q.t.O.length) (fun q z => RlI4 q.toPRl z) (fun q => ⟨Nat.le_refl _, q.hG.core.mv, by show q.o0 = insMany q.o0 ((q.t.O.take q.t.moved).drop q.t.moved).flatten; rw [List.drop_of_length_le (by rw [List.length_take]; omega)]; rfl⟩) ?_)
  intro q z h
  refine rl4body q z h _ _ (fun ST y hlt hy he hw => SImp.of_wk y hw ⟨hy, ?_⟩) (fun ST he hw => ⟨rfl, SImp.of_wk z hw ⟨h, he⟩⟩)
  show q.t.O.length - y.i < q.t.O.length - z.i; omega

end Sx
end Go.Proofs.Ytkadlfadmjhahaa

/-
  The document on tables: All, sorted.
-/
namespace Go.Proofs.Ytkadlfadmjhahaa
namespace Sx
open Go
set_option linter.unusedSimpArgs false
set_option linter.unusedVariables false

theorem insS_perm (l : List Ent) (e : Ent) : (insS l e).Perm (l ++ [e]) := by
  unfold insS
  have h : l = l.take (plcE l e.key) ++ l.drop (plcE l e.key) := (List.take_append_drop _ _).symm
  refine List.Perm.trans ?_ (List.Perm.append_right [e] (List.Perm.of_eq h.symm))
  rw [List.append_assoc, List.append_assoc]
  exact List.Perm.append_left _ List.perm_append_comm
theorem insMany_perm : ∀ (l o : List Ent), (insMany o l).Perm (o ++ l)
  | [], o => by rw [List.append_nil]; exact List.Perm.refl _
  | e :: l, o => by
    refine (insMany_perm l (insS o e)).trans ?_
    refine (List.Perm.append_right l (insS_perm o e)).trans ?_
    rw [List.append_assoc]; exact List.Perm.refl _
theorem insS_sorted {l : List Ent} (h : l.Pairwise fun a b => a.key ≤ b.key) (e : Ent) : (insS l e).Pairwise fun a b => a.key ≤ b.key := by
  have hle := plc_le l e.key
  have hlo : ∀ x ∈ l.take (plcE l e.key), x.key < e.key := fun x hx => by
    obtain ⟨j, hj, rfl⟩ := List.mem_iff_getElem.1 hx
    rw [List.length_take] at hj
    rw [List.getElem_take]
    exact (plc_iff e.key l j (by omega) (by omega)).2 (by omega)
  have hhi : ∀ x ∈ l.drop (plcE l e.key), e.key ≤ x.key := fun x hx => by
    obtain ⟨j, hj, rfl⟩ := List.mem_iff_getElem.1 hx
    rw [List.length_drop] at hj
    have hp : plcE l e.key < l.length := by omega
    have h0 : ¬ l[plcE l e.key].key < e.key := fun hh => by have := (plc_iff e.key l _ (Nat.le_refl _) hp).1 hh; omega
    rw [List.getElem_drop]
    rcases Nat.eq_zero_or_pos j with hj0 | hj0
    · subst hj0; simp only [Nat.add_zero]; omega
    · have := List.pairwise_iff_getElem.1 h (plcE l e.key) (plcE l e.key + j) hp (by omega) (by omega)
      omega
  unfold insS
  rw [List.append_assoc, List.pairwise_append]
  refine ⟨h.sublist (List.take_sublist _ _), ?_, fun a ha b hb => ?_⟩
  · rw [List.singleton_append, List.pairwise_cons]
    exact ⟨hhi, h.sublist (List.drop_sublist _ _)⟩
  · have h1 := hlo a ha
    rcases List.mem_append.1 hb with hb | hb
    · rw [List.mem_singleton.1 hb]; omega
    · have := hhi b hb; omega
theorem insMany_sorted : ∀ (l : List Ent) {o : List Ent}, (o.Pairwise fun a b => a.key ≤ b.key) → (insMany o l).Pairwise fun a b => a.key ≤ b.key
  | [], _, h => h
  | e :: l, _, h => insMany_sorted l (insS_sorted h e)
theorem allRow {t : TM} (h : t.Good) : AllRow t.get (insMany [] t.all) :=
  AllRow.of (by have := insMany_perm t.all []; simpa using this) (insMany_sorted _ List.Pairwise.nil) (TM.all_nodup h.core) (TM.mem_all h.core)

def runRAll : RunPR V := fun p ar K => match ar with
  | [.val (.rp o)] => .ex RZ fun z => .need (RIn p z o ∧ z.2.2.Good ∧ z.2.2.len ≤ 1000000) (.all (List Ent × Nat) fun y => .asm (AllRow z.2.2.get y.1 ∧ y.1.length = z.2.2.len) (K (.sl false 1 0 4 y.1.length (y.1.length + y.2)) [.arr 29 Kd.ent y.1 y.2]))
  | _ => .bad 500
theorem cRAll : PoolR Try.prog 28 runRAll := by
  refine pool_callsR (C := cfgRL0) cfgRL0_ok (n := 60) (fn := Try.f28) ⟨by kernel_rfl, by kernel_rfl⟩ (by kernel_rfl) ?_
  intro M p ar K0 H
  unfold runRAll at H
  split at H
  · rename_i o
    obtain ⟨⟨b, L, t⟩, ⟨hI, hG, hmax⟩, H⟩ := H
    obtain ⟨ho, hA, hc⟩ := hI
    dsimp only at ho hA hc H hG hmax
    subst ho
    refine ⟨show 1 ≤ _ by decide +kernel, ?_⟩
    show (runF cfgRL0 60 28 Try.f28 [.rp (some (b, 0))] [(0, .pool p)] 2).holds _
    rw [rtall]
    let q : PRl := ⟨p, b, L, t, hA, hG, hmax⟩
    refine ⟨lRl0_ok, fun x => x = q, ⟨by decide, SImp.of_wk (ren := [(10, 99)]) q (by (refine ⟨?_, ?_, rfl, tl_ok rfl, ?_, ⟨Nat.le_of_ble_eq_true rfl, rfl⟩⟩ <;> (repeat' first | with_reducible exact trivial | exact AV.sub_same _ | exact .same _ | exact .inr rfl | exact .inl (in_ok rfl) | exact AV.sub_lit' | exact AV.sub_nilS | exact .none _ _ | exact trivial | refine ⟨?_, ?_⟩))) rfl⟩, ?_⟩
    rintro _ rfl z ⟨⟨_, hz⟩, hzi⟩
    have hzi : z.i = t.B.length := hzi
    have hz : z.o = insMany [] (t.B.take z.i).flatten := hz
    rw [hzi, List.take_length] at hz
    let q2 : PRo := ⟨q, z.o, z.sp, hz⟩
    refine ⟨rfl, rfl, _, hA.fM, lRl4_ok, fun x => x = q2, ⟨by decide, SImp.of_wk (ren := [(14, 10)]) q2 (by (refine ⟨?_, ?_, rfl, tl_ok rfl, ?_, ⟨Nat.le_of_ble_eq_true rfl, rfl⟩⟩ <;> (repeat' first | with_reducible exact trivial | exact AV.sub_same _ | exact .same _ | exact .inr rfl | exact .inl (in_ok rfl) | exact AV.sub_lit' | exact AV.sub_nilS | exact .none _ _ | exact trivial | refine ⟨?_, ?_⟩))) rfl⟩, ?_⟩
    rintro _ rfl y ⟨⟨_, _, hy⟩, hyi⟩
    have hyi : y.i = t.O.length := hyi
    have hy : y.o = insMany z.o ((t.O.take y.i).drop t.moved).flatten := hy
    rw [hyi, List.take_length, hz, ← insMany_app] at hy
    have hy : y.o = insMany [] t.all := hy
    have hlen : y.o.length = t.len := by rw [hy, insMany_len, TM.all_length, hG.len]; simp
    have h0 := H (y.o, y.sp) ⟨by show AllRow t.get y.o; rw [hy]; exact allRow hG, hlen⟩
    exact ⟨_, _, h0, ⟨_, HImp.refl _ _, rfl, ⟨⟨fun _ => 14, ⟨.same _, trivial⟩, AV.sub_same _⟩, rfl, rfl⟩⟩⟩
  · exact H.elim

end Sx
end Go.Proofs.Ytkadlfadmjhahaa

/-
  The document on tables, lengths and chains: the runs of the machine.
-/
namespace Go.Proofs.Ytkadlfadmjhahaa
namespace Sx
open Go
set_option maxRecDepth 100000
set_option linter.unusedVariables false

noncomputable def hooksRB : Nat → Option (HookS V) := fun g => match g with
  | 28 => some (hookPoolRAt 0 [.val] runRAll)
  | g => hooksR3 g
noncomputable def cfgRQ : Cfg Try.prog V := ⟨tab, kinds, fun _ => none, hooksRB, fun _ _ => none⟩
structure PRc where
  p : Pool
  b : Nat
  L : RL
  t : TM
  k : Int
  hA : RAt p b L t
  hc : t.Core
  hl : ∀ i, (t.B.getD i []).length ≤ 1000000
structure XRc where
  i : Nat
  o : List Int
  sp : Nat
def RcI (q : PRc) (z : XRc) : St V := ⟨[(0, .rp (some (q.b, 0))), (1, .int .i64 q.k), (5, .sl false 10 0 1 z.o.length (z.o.length + z.sp)), (6, .int .i64 (z.i : Int))], [(10, .arr 3 Kd.int z.o z.sp), (0, .pool q.p)], 11, 47, TQA⟩
structure JRc (q : PRc) (z : XRc) : Prop where
  le : z.i ≤ (q.t.chainKeys q.k).length
  ho : z.o = (q.t.chainKeys q.k).take z.i
def LRc : LoopS V := trimLoop (trimSt [0, 1, 5, 6] [0]) (loopH 10 (fun q : PRc => RcI q ⟨0, [], 0⟩) (fun q (z : XRc) => z.o = q.t.chainKeys q.k) (fun q z => RcI q z))
noncomputable def cfgRQ1 : Cfg Try.prog V := ⟨tab, kinds, fun _ => none, hooksRB, fun f id => match f, id with | 27, 0 => some LRc | _, _ => none⟩
theorem rtlen (p : Pool) (b : Nat) : runF cfgRQ 60 23 Try.f23 [.rp (some (b, 0))] [(0, .pool p)] 2 = Out.ex RZ fun y => Out.need (RIn p y (some (b, (0 : Nat))) ∧ y.snd.snd.Good ∧ y.snd.snd.5 ≤ (1000000 : Nat)) (Out.all (List Ent × Nat) fun y_1 => Out.asm (AllRow y.snd.snd.get y_1.fst ∧ y_1.fst.length = y.snd.snd.5) (Out.fin (.int .i64 (↑y_1.fst.length : Int)) [((2 : Nat), .arr (29 : Nat) Kd.ent y_1.fst y_1.2), ((0 : Nat), Blk.pool p)] (3 : Nat))) := by kernel_rfl

theorem rbchf (q : PRc) (z : XRc) : runCode cfgRQ 60 27 (loopOf Try.f27 0) (RcI q z) (stopT (trimSt [0, 1, 5, 6] [0, 10, 11, 12, 13])) = Out.ite (decide (q.k ≥ (0 : Int))) (Out.need ((some (q.2, (0 : Nat))).isSome = true) (Out.need ((some (q.2, (0 : Nat))).isSome = true) (Out.ex (Option (Nat × Nat)) fun y => Out.ex Nat fun y_1 => Out.ex Nat fun y_2 => Out.need (q.p.at (shiftA (some (q.2, (0 : Nat))) (0 : Nat)) [PD.sl y y_1 y_2]) (Out.ite (decide (q.k < (↑y_1 : Int))) (Out.need ((some (q.2, (0 : Nat))).isSome = true) (Out.need ((some (q.2, (0 : Nat))).isSome = true) (Out.ex (Option (Nat × Nat)) fun y => Out.ex Nat fun y_3 => Out.ex Nat fun y_4 => Out.need (q.p.at (shiftA (some (q.2, (0 : Nat))) (0 : Nat)) [PD.sl y y_3 y_4]) (Out.need ((0 : Int) ≤ q.k ∧ q.k < (↑y_3 : Int) ∧ y.isSome = true) (Out.ex (Option (Nat × Nat)) fun y_5 => Out.ex Nat fun y_6 => Out.ex Nat fun y_7 => Out.need (q.p.at (shiftA y (q.k.toNat * (1 : Nat))) [PD.sl y_5 y_6 y_7]) (Out.ite (decide ((↑z.1 : Int) < (↑y_6 : Int))) (Out.need ((some (q.2, (0 : Nat))).isSome = true) (Out.need ((some (q.2, (0 : Nat))).isSome = true) (Out.ex (Option (Nat × Nat)) fun y => Out.ex Nat fun y_8 => Out.ex Nat fun y_9 => Out.need (q.p.at (shiftA (some (q.2, (0 : Nat))) (0 : Nat)) [PD.sl y y_8 y_9]) (Out.need ((0 : Int) ≤ q.k ∧ q.k < (↑y_8 : Int) ∧ y.isSome = true) (Out.ex (Option (Nat × Nat)) fun y_10 => Out.ex Nat fun y_11 => Out.ex Nat fun y_12 => Out.need (q.p.at (shiftA y (q.k.toNat * (1 : Nat))) [PD.sl y_10 y_11 y_12]) (Out.need ((0 : Int) ≤ (↑z.1 : Int) ∧ (↑z.1 : Int) < (↑y_11 : Int) ∧ y_10.isSome = true) (Out.need ((shiftA y_10 (z.1 * (4 : Nat))).isSome = true) (Out.ex Int fun y => Out.need (q.p.at (shiftA (shiftA y_10 (z.1 * (4 : Nat))) (0 : Nat)) [PD.int .i64 y]) (Out.need ((0 : Nat) = (0 : Nat) ∧ z.o.length = z.o.length ∧ z.o.length + z.3 = z.o.length + z.3 ∧ (z.o.length + (1 : Nat)) * (8 : Nat) ≤ (140737488355328 : Nat)) (Out.all Nat fun y_13 => Out.stop EX.nx {env := [((0 : Nat), AV.rp (some (q.2, (0 : Nat)))), ((1 : Nat), .int .i64 q.k), ((5 : Nat), .sl false (12 : Nat) (0 : Nat) (1 : Nat) (z.o.length + (1 : Nat)) (z.o.length + (1 : Nat) + y_13)), ((6 : Nat), .int .i64 (IntKind.i64.wrap ((↑z.1 : Int) + (1 : Int))))], heap := [((12 : Nat), .arr (3 : Nat) Kd.int (z.o ++ [y]) y_13), ((11 : Nat), .cells (3 : Nat) [.int .i64 y]), ((0 : Nat), Blk.pool q.p)], nx := (13 : Nat), nt := (47 : Nat), tl := [(10 : Nat), (0 : Nat), (1 : Nat), (2 : Nat), (3 : Nat), (4 : Nat), (5 : Nat), (6 : Nat), (7 : Nat), (8 : Nat), (9 : Nat), (10 : Nat), (11 : Nat), (12 : Nat), (13 : Nat), (14 : Nat), (15 : Nat), (16 : Nat), (17 : Nat), (18 : Nat), (19 : Nat), (20 : Nat), (21 : Nat), (22 : Nat)] : St V })))))))))) (Out.stop (EX.ex (0 : Nat)) {env := [((0 : Nat), AV.rp (some (q.2, (0 : Nat)))), ((1 : Nat), .int .i64 q.k), ((5 : Nat), .sl false (10 : Nat) (0 : Nat) (1 : Nat) z.o.length (z.o.length + z.3)), ((6 : Nat), .int .i64 (↑z.1 : Int))], heap := [((10 : Nat), .arr (3 : Nat) Kd.int z.o z.3), ((0 : Nat), Blk.pool q.p)], nx := (11 : Nat), nt := (47 : Nat), tl := [(0 : Nat), (1 : Nat), (2 : Nat), (3 : Nat), (4 : Nat), (5 : Nat), (6 : Nat), (7 : Nat), (8 : Nat), (9 : Nat), (10 : Nat), (11 : Nat), (12 : Nat), (13 : Nat), (14 : Nat), (15 : Nat), (16 : Nat), (17 : Nat), (18 : Nat), (19 : Nat), (20 : Nat), (21 : Nat), (22 : Nat)] : St V }))))))) (Out.stop (EX.ex (0 : Nat)) {env := [((0 : Nat), AV.rp (some (q.2, (0 : Nat)))), ((1 : Nat), .int .i64 q.k), ((5 : Nat), .sl false (10 : Nat) (0 : Nat) (1 : Nat) z.o.length (z.o.length + z.3)), ((6 : Nat), .int .i64 (↑z.1 : Int))], heap := [((10 : Nat), .arr (3 : Nat) Kd.int z.o z.3), ((0 : Nat), Blk.pool q.p)], nx := (11 : Nat), nt := (47 : Nat), tl := [(0 : Nat), (1 : Nat), (2 : Nat), (3 : Nat), (4 : Nat), (5 : Nat), (6 : Nat), (7 : Nat), (8 : Nat), (9 : Nat), (10 : Nat), (11 : Nat), (12 : Nat), (13 : Nat), (14 : Nat), (15 : Nat), (16 : Nat), (17 : Nat), (18 : Nat), (19 : Nat), (20 : Nat), (21 : Nat), (22 : Nat)] : St V }))))) (Out.stop (EX.ex (0 : Nat)) {env := [((0 : Nat), AV.rp (some (q.2, (0 : Nat)))), ((1 : Nat), .int .i64 q.k), ((5 : Nat), .sl false (10 : Nat) (0 : Nat) (1 : Nat) z.o.length (z.o.length + z.3)), ((6 : Nat), .int .i64 (↑z.1 : Int))], heap := [((10 : Nat), .arr (3 : Nat) Kd.int z.o z.3), ((0 : Nat), Blk.pool q.p)], nx := (11 : Nat), nt := (47 : Nat), tl := [(0 : Nat), (1 : Nat), (2 : Nat), (3 : Nat), (4 : Nat), (5 : Nat), (6 : Nat), (7 : Nat), (8 : Nat), (9 : Nat), (10 : Nat), (11 : Nat), (12 : Nat), (13 : Nat), (14 : Nat), (15 : Nat), (16 : Nat), (17 : Nat), (18 : Nat), (19 : Nat), (20 : Nat), (21 : Nat), (22 : Nat)] : St V }) := by kernel_rfl

theorem rtchf (p : Pool) (b : Nat) (k : Int) : runF cfgRQ1 60 27 Try.f27 [.rp (some (b, 0)), .int .i64 k] [(0, .pool p)] 3 = Out.need (LoopFor Try.prog (27 : Nat) (0 : Nat) (loopOf Try.f27 (0 : Nat)) LRc) (Out.ex (PRc → Prop) fun y => Out.need ((3 : Nat) ≤ (10 : Nat) ∧ SImp (10 : Nat) {env := [((0 : Nat), AV.rp (some (b, (0 : Nat)))), ((1 : Nat), .int .i64 k), ((5 : Nat), .nilS), ((6 : Nat), .lit .i64 (0 : Int))], heap := [((0 : Nat), Blk.pool p)], nx := (3 : Nat), nt := (47 : Nat), tl := [] : St V } (fun q => RcI q {i := (0 : Nat), o := [], sp := (0 : Nat) : XRc }) y) (Out.all PRc fun y_1 => Out.asm (y y_1) (Out.all XRc fun y => Out.asm ((fun q z => z.o = q.t.chainKeys q.k) y_1 y) (Out.fin (.sl false (10 : Nat) (0 : Nat) (1 : Nat) y.o.length (y.o.length + y.3)) [((10 : Nat), .arr (3 : Nat) Kd.int y.o y.3), ((0 : Nat), Blk.pool y_1.p)] (11 : Nat))))) := by kernel_rfl

end Sx
end Go.Proofs.Ytkadlfadmjhahaa

/-
  The document on tables: Len, Chain, New.
-/
namespace Go.Proofs.Ytkadlfadmjhahaa
namespace Sx
open Go
set_option linter.unusedSimpArgs false
set_option linter.unusedVariables false

theorem hooksRB_ok : ∀ g H, hooksRB g = some H → HookOk Try.prog g H := by
  intro g H h
  unfold hooksRB at h
  split at h
  · cases h; exact cRAll.hookAt
  · exact hooksR3_ok _ _ h
theorem cfgRQ_ok : cfgRQ.ok := ⟨tab_met, kinds_met, mixed_met, fun g fn h => (by cases h), hooksRB_ok⟩
theorem cfgRQ1_ok : cfgRQ1.ok := ⟨tab_met, kinds_met, mixed_met, fun g fn h => (by cases h), hooksRB_ok⟩

def runRLen : RunPR V := fun p ar K => match ar with
  | [.val (.rp o)] => .ex RZ fun z => .need (RIn p z o ∧ z.2.2.Good ∧ z.2.2.len ≤ 1000000) (K (.int .i64 (z.2.2.len : Int)) [])
  | _ => .bad 500
theorem cRLen : PoolR Try.prog 23 runRLen := by
  refine pool_callsR (C := cfgRQ) cfgRQ_ok (n := 60) (fn := Try.f23) ⟨by kernel_rfl, by kernel_rfl⟩ (by kernel_rfl) ?_
  intro M p ar K0 H
  unfold runRLen at H
  split at H
  · rename_i o
    obtain ⟨⟨b, L, t⟩, ⟨hI, hG, hmax⟩, H⟩ := H
    have hI' := hI
    obtain ⟨ho, hA, hc⟩ := hI
    dsimp only at ho hA hc H hG hmax
    subst ho
    refine ⟨show 1 ≤ _ by decide +kernel, ?_⟩
    show (runF cfgRQ 60 23 Try.f23 [.rp (some (b, 0))] [(0, .pool p)] 2).holds _
    rw [rtlen]
    refine ⟨(b, L, t), ⟨hI', hG, hmax⟩, fun y hy => ?_⟩
    have hy2 : y.1.length = t.len := hy.2
    refine ⟨_, _, H, endPool (AV.sub_int (by rw [hy2])) rfl rfl⟩
  · exact H.elim

theorem rcbody (q : PRc) (z : XRc) (h : JRc q z) (Q : EX → St V → Prop) (F : AV → Heap V → Nat → Prop)
    (hnx : ∀ (ST : St V) (y : XRc), z.i < (q.t.chainKeys q.k).length → JRc q y → y.i = z.i + 1 → Wk 10 [(10, 12)] ST (RcI q y) → Q .nx ST) (hex : ∀ ST : St V, z.o = q.t.chainKeys q.k → Wk 10 [(10, 10)] ST (RcI q z) → Q (.ex 0) ST) :
    (runCode cfgRQ 60 27 (loopOf Try.f27 0) (RcI q z) (stopT (trimSt [0, 1, 5, 6] [0, 10, 11, 12, 13]))).holds ⟨Q, F⟩ := by
  rw [rbchf]
  have hA := q.hA
  have hbl := hA.bl
  obtain ⟨hle, ho⟩ := h
  have hout : (q.k < 0 ∨ q.k ≥ (q.t.B.length : Int)) → z.o = q.t.chainKeys q.k := fun hk => by
    have he : q.t.chainKeys q.k = [] := by unfold TM.chainKeys; rw [if_neg (by omega)]
    rw [he] at ho ⊢; simpa using ho
  refine ⟨fun h0 => ⟨rfl, rfl, _, _, _, hA.fB, fun h1 => ?_, fun h1 => hex _ (hout (.inr (by have := of_decide_eq_false h1; omega))) (by (refine ⟨?_, ?_, rfl, tl_ok rfl, ?_, ⟨Nat.le_of_ble_eq_true rfl, rfl⟩⟩ <;> (repeat' first | with_reducible exact trivial | exact AV.sub_same _ | exact .same _ | exact .inr rfl | exact .inl (in_ok rfl) | exact AV.sub_lit' | exact AV.sub_nilS | exact .none _ _ | exact trivial | refine ⟨?_, ?_⟩)))⟩, fun h0 => hex _ (hout (.inl (by have := of_decide_eq_false h0; omega))) (by (refine ⟨?_, ?_, rfl, tl_ok rfl, ?_, ⟨Nat.le_of_ble_eq_true rfl, rfl⟩⟩ <;> (repeat' first | with_reducible exact trivial | exact AV.sub_same _ | exact .same _ | exact .inr rfl | exact .inl (in_ok rfl) | exact AV.sub_lit' | exact AV.sub_nilS | exact .none _ _ | exact trivial | refine ⟨?_, ?_⟩)))⟩
  have h0 := of_decide_eq_true h0
  have h1 := of_decide_eq_true h1
  have hk : q.k.toNat < q.t.B.length := by omega
  have hck : q.t.chainKeys q.k = (q.t.B.getD q.k.toNat []).map (·.key) := by unfold TM.chainKeys; rw [if_pos ⟨by omega, by omega⟩]
  have hcl : (q.t.chainKeys q.k).length = (q.t.B.getD q.k.toNat []).length := by rw [hck, List.length_map]
  have hR := hA.bs _ hk
  have hat := row_at hA.brow (i := q.k.toNat) (by omega)
  have hmax := q.hl q.k.toNat
  generalize hw : q.L.B.getD q.k.toNat w0 = w at hR hat
  obtain ⟨wo, wl, wc⟩ := w
  have hat : q.p.at (shiftA (some (q.L.bb, 0)) (q.k.toNat * 1)) [PD.sl wo wl wc] := hat
  have hwl : wl = (q.t.B.getD q.k.toNat []).length := hR.len
  have hib : (0 : Int) ≤ q.k ∧ q.k < (q.L.B.length : Int) ∧ (some (q.L.bb, 0)).isSome = true := ⟨by omega, by omega, rfl⟩
  refine ⟨rfl, rfl, _, _, _, hA.fB, hib, _, _, _, hat, fun hlt => ?_, fun hge => hex _ ?_ (by (refine ⟨?_, ?_, rfl, tl_ok rfl, ?_, ⟨Nat.le_of_ble_eq_true rfl, rfl⟩⟩ <;> (repeat' first | with_reducible exact trivial | exact AV.sub_same _ | exact .same _ | exact .inr rfl | exact .inl (in_ok rfl) | exact AV.sub_lit' | exact AV.sub_nilS | exact .none _ _ | exact trivial | refine ⟨?_, ?_⟩)))⟩
  · have hlt : z.i < (q.t.B.getD q.k.toNat []).length := by have := of_decide_eq_true hlt; omega
    obtain ⟨hs0, hent⟩ := hR.ent hlt
    have hs : wo.isSome = true := hs0
    have hzl : z.o.length = z.i := by rw [ho, List.length_take]; omega
    have hw1 : IntKind.wrap .i64 ((z.i : Int) + 1) = ((z.i + 1 : Nat) : Int) := wrap_nat (by omega)
    refine ⟨rfl, rfl, _, _, _, hA.fB, hib, _, _, _, hat, ⟨by omega, by omega, hs⟩, by obtain ⟨x, hx⟩ := Option.isSome_iff_exists.1 hs; rw [hx]; rfl, _, hR.key hlt, ⟨rfl, rfl, rfl, by omega⟩, fun sp => ?_⟩
    have hn : (q.t.chainKeys q.k).take (z.i + 1) = z.o ++ [(q.t.B.getD q.k.toNat [])[z.i].key] := by
      rw [List.take_succ_eq_append_getElem (by omega), ← ho]
      simp only [hck, List.getElem_map]
    have el : (z.o ++ [(q.t.B.getD q.k.toNat [])[z.i].key]).length = z.o.length + 1 := by rw [List.length_append, List.length_singleton]
    exact hnx _ ⟨z.i + 1, z.o ++ [(q.t.B.getD q.k.toNat [])[z.i].key], sp⟩ (by omega) ⟨by show z.i + 1 ≤ _; omega, hn.symm⟩ rfl (by (refine ⟨?_, ?_, rfl, tl_ok rfl, ?_, ⟨Nat.le_of_ble_eq_true rfl, rfl⟩⟩ <;> (repeat' first | with_reducible exact trivial | (exact AV.sub_int hw1) | (exact AV.sub_sl el.symm (by rw [el])) | exact AV.sub_same _ | exact .same _ | exact .inr rfl | exact .inl (in_ok rfl) | exact AV.sub_lit' | exact AV.sub_nilS | exact .none _ _ | exact trivial | refine ⟨?_, ?_⟩)))
  · have hge := of_decide_eq_false hge
    rw [ho, List.take_of_length_le (by omega)]
theorem lRc_ok : LoopOk Try.prog 0 (loopOf Try.f27 0) LRc := by
  refine trimLoop_ok (trim_ok _ _) (loopTH_ok (C := cfgRQ) cfgRQ_ok (f := 27) (n := 60) (trim_ok [0, 1, 5, 6] [0, 10, 11, 12, 13]) 10 (fun q : PRc => RcI q) (fun q z => JRc q z) (fun q => ⟨0, [], 0⟩) (fun q z => (q.t.chainKeys q.k).length - z.i) (fun q (z : XRc) => z.o = q.t.chainKeys q.k) (fun q z => RcI q z) (fun q => ⟨Nat.zero_le _, rfl⟩) ?_)
  intro q z h
  refine rcbody q z h _ _ (fun ST y hlt hy he hw => SImp.of_wk y hw ⟨hy, ?_⟩) (fun ST he hw => ⟨rfl, SImp.of_wk z hw he⟩)
  show (q.t.chainKeys q.k).length - y.i < (q.t.chainKeys q.k).length - z.i; omega
def runRChainF : RunPR V := fun p ar K => match ar with
  | [.val (.rp o), .int .i64 k] => .ex RZ fun z => .need (RIn p z o ∧ ∀ i, (z.2.2.B.getD i []).length ≤ 1000000) (.all Nat fun sp => K (.sl false 1 0 1 (z.2.2.chainKeys k).length ((z.2.2.chainKeys k).length + sp)) [.arr 3 Kd.int (z.2.2.chainKeys k) sp])
  | _ => .bad 500
theorem cRChainF : PoolR Try.prog 27 runRChainF := by
  refine pool_callsR (C := cfgRQ1) cfgRQ1_ok (n := 60) (fn := Try.f27) ⟨by kernel_rfl, by kernel_rfl⟩ (by kernel_rfl) ?_
  intro M p ar K0 H
  unfold runRChainF at H
  split at H
  · rename_i o k
    obtain ⟨⟨b, L, t⟩, ⟨hI, hl⟩, H⟩ := H
    obtain ⟨ho, hA, hc⟩ := hI
    dsimp only at ho hA hc H hl
    subst ho
    refine ⟨show 2 ≤ _ by decide +kernel, ?_⟩
    show (runF cfgRQ1 60 27 Try.f27 [.rp (some (b, 0)), .int .i64 k] [(0, .pool p)] 3).holds _
    rw [rtchf]
    let q : PRc := ⟨p, b, L, t, k, hA, hc, hl⟩
    refine ⟨lRc_ok, fun x => x = q, ⟨by decide, SImp.of_wk (ren := [(10, 99)]) q (by (refine ⟨?_, ?_, rfl, tl_ok rfl, ?_, ⟨Nat.le_of_ble_eq_true rfl, rfl⟩⟩ <;> (repeat' first | with_reducible exact trivial | exact AV.sub_same _ | exact .same _ | exact .inr rfl | exact .inl (in_ok rfl) | exact AV.sub_lit' | exact AV.sub_nilS | exact .none _ _ | exact trivial | refine ⟨?_, ?_⟩))) rfl⟩, ?_⟩
    rintro _ rfl z hz
    have hz : z.o = t.chainKeys k := hz
    have h0 := H z.sp
    rw [hz]
    exact ⟨_, _, h0, ⟨_, HImp.refl _ _, rfl, ⟨⟨fun _ => 10, ⟨.same _, trivial⟩, AV.sub_same _⟩, rfl, rfl⟩⟩⟩
  · exact H.elim

/-! ## New -/
def newRL (b bb : Nat) : RL := ⟨bb, List.replicate 8 w0, 0, [], fun n => if n = b then .self else if n = bb then .b else .no⟩
theorem own_w0 : own w0 = none := rfl
theorem new_at {p : Pool} {bb b : Nat} (s : Int) (h0 : p bb = none) (h1 : (p.put bb 34 (List.replicate 8 (PD.sl none 0 0))) b = none) :
    RAt ((p.put bb 34 (List.replicate 8 (PD.sl none 0 0))).put b 43 [.sl (some (bb, 0)) 8 8, .sl none 0 0, .int .i64 0, .int .i64 s]) b (newRL b bb) (TM.new s) := by
  have hne : bb ≠ b := fun e => by unfold Pool.put at h1; rw [if_pos e.symm] at h1; cases h1
  have hrep : ∀ i, (List.replicate 8 w0).getD i w0 = w0 := fun i => by rw [List.getD_eq_getElem?_getD, List.getElem?_replicate]; split <;> rfl
  have hB : ∀ i, (TM.new s).B.getD i [] = [] := fun i => by
    show (List.replicate _ ([] : List Ent)).getD i [] = []
    rw [List.getD_eq_getElem?_getD, List.getElem?_replicate]; split <;> rfl
  refine ⟨by unfold Pool.put; rw [if_pos rfl]; rfl, ?_, fun hO => absurd rfl hO, by simp [newRL, TM.new], rfl, fun i hi => ?_, fun i _ h2 => absurd h2 (by simp [TM.new]), by show (if b = b then RLab.self else _) = _; rw [if_pos rfl], by show (if bb = b then RLab.self else if bb = bb then .b else .no) = _; rw [if_neg hne, if_pos rfl], fun hO => absurd rfl hO, fun i hi n hn => ?_, fun i _ h2 => absurd h2 (by simp [TM.new]), fun n hn => ?_⟩
  · show ((p.put bb 34 _).put b 43 _) bb = some (34, (List.replicate 8 w0).map rwd)
    unfold Pool.put
    rw [if_neg hne, if_pos rfl, List.map_replicate]; rfl
  · show RowP _ ((List.replicate 8 w0).getD i w0) _
    rw [hrep, hB]; exact RowP.nil _
  · have hn : own ((List.replicate 8 w0).getD i w0) = some n := hn
    rw [hrep, own_w0] at hn; cases hn
  · have hn : (if n = b then RLab.self else if n = bb then .b else .no) ≠ .no := hn
    unfold Pool.put
    by_cases e1 : n = b
    · rw [if_pos e1]; exact fun k => by cases k
    · rw [if_neg e1] at hn ⊢
      by_cases e2 : n = bb
      · rw [if_pos e2]; exact fun k => by cases k
      · rw [if_neg e2] at hn; exact absurd rfl hn
def runRNewT : RunPool V := fun p ar K => match ar with
  | [.int .i64 s] => .all (Pool × Nat × RL) fun y => .asm (RAt y.1 y.2.1 y.2.2 (TM.new s)) (K (.rp (some (y.2.1, 0))) y.1 [])
  | _ => .bad 500
theorem cRNewT : PoolC Try.prog 19 runRNewT := by
  refine pool_calls (C := cfgY) cfgY_ok (n := 60) (fn := Try.f19) ⟨by kernel_rfl, by kernel_rfl⟩ (by kernel_rfl) ?_
  intro M p ar K0 H
  unfold runRNewT at H
  split at H
  · rename_i s
    refine ⟨show 1 ≤ _ by decide +kernel, ?_⟩
    show (runF cfgY 60 19 Try.f19 [.int .i64 s] [(0, .pool p)] 2).holds _
    rw [rtnew]
    refine ⟨⟨by decide, by decide, by decide, by decide⟩, fun bb h0 b h1 => ?_⟩
    exact ⟨_, _, _, H (_, b, _) (new_at s h0 h1), endPool (AV.sub_same _) rfl rfl⟩
  · exact H.elim

end Sx
end Go.Proofs.Ytkadlfadmjhahaa

/-
  The document on tables: a table grows; a row of its own.
-/
namespace Go.Proofs.Ytkadlfadmjhahaa
namespace Sx
open Go
set_option linter.unusedSimpArgs false
set_option linter.unusedVariables false

theorem RAt.anyLen {p : Pool} {b : Nat} {L : RL} {t : TM} (h : RAt p b L t) (n : Nat) : RAt p b L { t with len := n } :=
  ⟨h.self, h.brow, h.orow, h.bl, h.ol, h.bs, h.os, h.l1, h.l2, h.l3, h.l4, h.l5, h.l6⟩
def growL (L : RL) (m : Nat) : RL := ⟨m, List.replicate (2 * L.B.length) w0, L.bb, L.B, fun n => if n = m then .b else match L.lab n with | .self => .self | .b => .o | .rb i => .ro i | _ => .no⟩
theorem RAt.wide {p : Pool} {b : Nat} {L : RL} {t : TM} (h : RAt p b L t) (hO : L.O = []) (h1 : 1 ≤ L.B.length) {m : Nat} (hm : p m = none) {k : Nat} (hk : k = 2 * L.B.length) :
    RAt ((((p.set (some (b, 1)) [.sl (some (L.bb, 0)) L.B.length L.B.length]).set (some (b, 2)) [.int .i64 0]).put m 34 (List.replicate k (PD.sl none 0 0))).set (some (b, 0)) [.sl (some (m, 0)) k k]) b (growL L m)
      { t with O := t.B, moved := 0, B := List.replicate (2 * t.B.length) [] } := by
  subst hk
  have hbl := h.bl
  have hbm : b ≠ m := fun e => by have := h.self; rw [e, hm] at this; cases this
  have hB : L.B ≠ [] := fun e => by rw [e] at h1; simp at h1
  have hp : ∀ x, x ≠ b → x ≠ m → ((((p.set (some (b, 1)) [.sl (some (L.bb, 0)) L.B.length L.B.length]).set (some (b, 2)) [.int .i64 0]).put m 34 (List.replicate (2 * L.B.length) (PD.sl none 0 0))).set (some (b, 0)) [.sl (some (m, 0)) (2 * L.B.length) (2 * L.B.length)]) x = p x := fun x hx hxm => by
    show (if x = b then _ else if x = m then _ else if x = b then _ else if x = b then _ else p x) = p x
    rw [if_neg hx, if_neg hxm, if_neg hx, if_neg hx]
  have hwO : osl (growL L m) = .sl (some (L.bb, 0)) L.B.length L.B.length := osl_has (L := growL L m) hB
  have hne : ∀ n, L.lab n ≠ .no → n ≠ m := fun n hn e => h.l6 n hn (by rw [e]; exact hm)
  have hlab : ∀ n, n ≠ m → (growL L m).lab n = match L.lab n with | .self => .self | .b => .o | .rb i => .ro i | _ => .no := fun n hn => by show (if n = m then _ else _) = _; rw [if_neg hn]
  have hgr : ∀ (n i : Nat), (List.replicate n w0).getD i w0 = w0 := fun n i => by rw [List.getD_eq_getElem?_getD, List.getElem?_replicate]; split <;> rfl
  have hge : ∀ (n i : Nat), (List.replicate n ([] : List Ent)).getD i [] = [] := fun n i => by rw [List.getD_eq_getElem?_getD, List.getElem?_replicate]; split <;> rfl
  refine ⟨?_, ?_, fun _ => ?_, ?_, hbl, fun i hi => ?_, fun i _ hi => ?_, ?_, ?_, fun _ => ?_, fun i hi n hn => ?_, fun i _ hi n hn => ?_, fun n hn => ?_⟩
  · show (if b = b then (if b = m then _ else (if b = b then (if b = b then (p b).map _ else p b).map _ else _)).map _ else _) = _
    rw [if_pos rfl, if_neg hbm, if_pos rfl, if_pos rfl, h.self, hwO]
    show some (43, _) = some (43, [PD.sl (some (m, 0)) (List.replicate (2 * L.B.length) w0).length (List.replicate (2 * L.B.length) w0).length, _, _, _])
    rw [List.length_replicate]; rfl
  · show (if m = b then _ else if m = m then _ else _) = _
    rw [if_neg (Ne.symm hbm), if_pos rfl]
    show some (34, _) = some (34, (List.replicate (2 * L.B.length) w0).map rwd)
    rw [List.map_replicate]; rfl
  · have e1 : L.bb ≠ b := fun e => by have := h.l1; rw [← e, h.l2] at this; cases this
    have e2 : L.bb ≠ m := hne _ (by rw [h.l2]; exact fun k => RLab.noConfusion k)
    exact (hp _ e1 e2).trans h.brow
  · show (List.replicate (2 * L.B.length) w0).length = (List.replicate (2 * t.B.length) ([] : List Ent)).length
    rw [List.length_replicate, List.length_replicate, hbl]
  · show RowP _ ((List.replicate (2 * L.B.length) w0).getD i w0) ((List.replicate (2 * t.B.length) ([] : List Ent)).getD i [])
    rw [hgr, hge]; exact RowP.nil _
  · have hi : i < t.B.length := hi
    refine (h.bs i hi).same fun x hx => hp x (fun e => ?_) (hne x (by rw [h.l4 i hi x hx]; exact fun k => RLab.noConfusion k))
    have := h.l4 i hi x hx; rw [e, h.l1] at this; cases this
  · rw [hlab _ hbm, h.l1]
  · show (if m = m then RLab.b else _) = _
    rw [if_pos rfl]
  · show (growL L m).lab L.bb = _
    rw [hlab _ (hne _ (by rw [h.l2]; exact fun k => RLab.noConfusion k)), h.l2]
  · have hn : own ((List.replicate (2 * L.B.length) w0).getD i w0) = some n := hn
    rw [hgr, own_w0] at hn; cases hn
  · have hi : i < t.B.length := hi
    have hn := h.l4 i hi n hn
    rw [hlab n (hne n (by rw [hn]; exact fun k => RLab.noConfusion k)), hn]
  · by_cases e : n = m
    · subst e
      show (if n = b then _ else if n = n then _ else _) ≠ none
      rw [if_neg (Ne.symm hbm), if_pos rfl]; exact fun k => by cases k
    · by_cases e2 : n = b
      · subst e2
        show (if n = n then (if n = m then _ else (if n = n then (if n = n then (p n).map _ else p n).map _ else _)).map _ else _) ≠ none
        rw [if_pos rfl, if_neg hbm, if_pos rfl, if_pos rfl, h.self]; exact fun k => by cases k
      · rw [hp n e2 e]
        rw [hlab n e] at hn
        exact h.l6 n fun e3 => hn (by rw [e3])

/-! ## rows that are nobody's yet -/
theorem RowP.setAt_ {p : Pool} {n len cap : Nat} {l : List Ent} (h : RowP p (some (n, 0), len, cap) l) {i : Nat} (hi : i < l.length) (e : Ent) : RowP (p.set (some (n, i * 4)) (flatE e)) (some (n, 0), len, cap) (l.set i e) := by
  have hl : len = l.length := h.len
  have hle : l.length ≤ cap := h.le
  rcases h.ex with h0 | ⟨m, cs, e1, e2, e3, e4⟩
  · have h0 : cap = 0 := h0; omega
  · cases e1
    have e3 : cs.length = cap * 4 := e3
    have e4 : cs.take (l.length * 4) = flats l := e4
    refine ⟨by show len = (l.set i e).length; rw [List.length_set]; exact hl, by show (l.set i e).length ≤ cap; rw [List.length_set]; exact hle, .inr ⟨n, setAt cs (i * 4) (flatE e), rfl, ?_, ?_, ?_⟩⟩
    · show (if n = n then (p n).map (fun q => (q.1, setAt q.2 (i * 4) (flatE e))) else p n) = _
      rw [if_pos rfl, e2]; rfl
    · show (setAt cs (i * 4) (flatE e)).length = cap * 4
      unfold setAt; simp only [List.length_append, List.length_take, List.length_drop]
      show _ + 4 + (cs.length - (i * 4 + 4)) = _
      omega
    · rw [List.length_set]
      have f4 : (flatE e).length = 4 := rfl
      have h1 : (setAt cs (i * 4) (flatE e)).take (l.length * 4) = setAt (cs.take (l.length * 4)) (i * 4) (flatE e) := by
        unfold setAt
        rw [f4]
        apply List.ext_getElem?
        intro j
        simp only [List.getElem?_take, List.getElem?_append, List.length_append, List.length_take, List.getElem?_drop, f4]
        by_cases c1 : j < l.length * 4
        · rw [if_pos c1]
          have m1 : min (i * 4) cs.length = i * 4 := by omega
          have m2 : min (i * 4) (min (l.length * 4) cs.length) = i * 4 := by omega
          rw [m1, m2]
          by_cases c2 : j < i * 4 + 4
          · rw [if_pos c2, if_pos c2]
            by_cases c3 : j < i * 4
            · rw [if_pos c3, if_pos c3, if_pos c3, if_pos c3, if_pos (by omega)]
            · rw [if_neg c3, if_neg c3]
          · rw [if_neg c2, if_neg c2, if_pos (by omega)]
        · rw [if_neg c1]
          have m2 : min (i * 4) (min (l.length * 4) cs.length) = i * 4 := by omega
          rw [m2, if_neg (by omega), if_neg (by omega)]
      rw [h1, e4]
      unfold setAt
      rw [f4, show i * 4 + 4 = (i + 1) * 4 by omega, flats_take, flats_drop, List.set_eq_take_append_cons_drop, if_pos hi, flats_app]
      show _ = _ ++ flats (e :: l.drop (i + 1))
      unfold flats
      rw [List.flatMap_cons, List.append_assoc]

end Sx
end Go.Proofs.Ytkadlfadmjhahaa

/-
  The document on tables, Put and Remove: the runs of the machine.
-/
namespace Go.Proofs.Ytkadlfadmjhahaa
namespace Sx
open Go
set_option maxRecDepth 100000
set_option linter.unusedVariables false

noncomputable def hooksRP : Nat → Option (HookS V) := fun g => match g with
  | 37 => some (hookPoolAt 0 [.val] runRMove)
  | 40 => some (hookPoolAt 0 [.val, .int .i64, .val] runRSet)
  | 23 => some (hookPoolRAt 0 [.val] runRLen)
  | 24 => some (hookPoolRAt 0 [.val] runRLeft)
  | g => hooksR3 g
def tabZ : Tab := fun t => match t with
  | 34 => some { ty34 with pool := true }
  | 43 => some { ty43 with pool := true }
  | t => tab t
noncomputable def cfgYP : Cfg Try.prog V := ⟨tabZ, kinds, fun _ => none, hooksRP, fun _ _ => none⟩
theorem rtrem (p : Pool) (b : Nat) (k : Int) : runF cfgYP 60 21 Try.f21 [.rp (some (b, 0)), .int .i64 k] [(0, .pool p)] 3 = Out.ex RZ fun y => Out.need (RIn p y (some (b, (0 : Nat))) ∧ y.snd.snd.Good ∧ y.snd.snd.5 ≤ (1000000 : Nat)) (Out.all (Pool × RL) fun y_1 => Out.asm (RAt y_1.fst y.1 y_1.snd y.snd.snd.move) (Out.ex RZ fun y => Out.need (RIn y_1.fst y (some (b, (0 : Nat)))) (Out.ex (List Ent) fun y_2 => Out.need (RowP y_1.fst ((rowW y.snd.fst y.snd.snd k).fst, (rowW y.snd.fst y.snd.snd k).snd.fst, (rowW y.snd.fst y.snd.snd k).snd.snd) y_2 ∧ y_2.length ≤ (1000000 : Nat)) (Out.ite (decide (fndE y_2 k < (0 : Int))) (Out.fin (.tup [.agg [.lit .i64 (0 : Int), .lit .i64 (0 : Int), .lit .i64 (0 : Int), .lit .i64 (0 : Int)], .ff]) [((3 : Nat), .cells (29 : Nat) [.lit .i64 (0 : Int), .lit .i64 (0 : Int), .lit .i64 (0 : Int), .lit .i64 (0 : Int)]), ((0 : Nat), Blk.pool y_1.fst)] (5 : Nat)) (Out.need ((0 : Int) ≤ fndE y_2 k ∧ fndE y_2 k < (↑(rowW y.snd.fst y.snd.snd k).snd.fst : Int) ∧ (rowW y.snd.fst y.snd.snd k).fst.isSome = true) (Out.ex Int fun y_3 => Out.ex Int fun y_4 => Out.ex Int fun y_5 => Out.ex Int fun y_6 => Out.need (y_1.fst.at (shiftA (rowW y.snd.fst y.snd.snd k).fst ((fndE y_2 k).toNat * (4 : Nat))) [PD.int .i64 y_3, PD.int .i64 y_4, PD.int .i64 y_5, PD.int .i64 y_6]) (Out.need ((0 : Int) ≤ fndE y_2 k ∧ fndE y_2 k ≤ (↑(rowW y.snd.fst y.snd.snd k).snd.snd : Int)) (Out.need ((0 : Int) ≤ IntKind.i64.wrap (fndE y_2 k + (1 : Int)) ∧ IntKind.i64.wrap (fndE y_2 k + (1 : Int)) ≤ (↑(rowW y.snd.fst y.snd.snd k).snd.fst : Int) ∧ (rowW y.snd.fst y.snd.snd k).snd.fst ≤ (rowW y.snd.fst y.snd.snd k).snd.snd) (Out.all Nat fun y_7 => Out.asm (y_1.fst y_7 = none) (Out.ex (List PD) fun y_8 => Out.need (y_8.length = (fndE y_2 k).toNat * (4 : Nat) ∧ ((fndE y_2 k).toNat = (0 : Nat) ∨ (y_1.fst.put y_7 (29 : Nat) []).at (rowW y.snd.fst y.snd.snd k).fst y_8)) (Out.ex (List PD) fun y_9 => Out.need (y_9.length = (0 : Nat) ∧ ((0 : Nat) = (0 : Nat) ∨ (y_1.fst.put y_7 (29 : Nat) []).at (some (y_7, (0 : Nat))) y_9)) (Out.need ((0 : Nat) ≤ (0 : Nat) ∧ (0 : Nat) + (fndE y_2 k).toNat ≤ (4294967296 : Nat) ∧ ((0 : Nat) + (fndE y_2 k).toNat) * (32 : Nat) ≤ (140737488355328 : Nat) ∧ ((0 : Nat) + (fndE y_2 k).toNat ≤ (0 : Nat) → (fndE y_2 k).toNat = (0 : Nat) ∨ (y_1.fst.put y_7 (29 : Nat) []).has (shiftA (some (y_7, (0 : Nat))) (0 : Nat)) ((fndE y_2 k).toNat * (4 : Nat)))) (Out.all Pool fun y_10 => Out.all (Option (Nat × Nat)) fun y_11 => Out.all Nat fun y_12 => Out.asm (App (y_1.fst.put y_7 (29 : Nat) []) (29 : Nat) (4 : Nat) [PD.int .i64 (0 : Int), PD.int .i64 (0 : Int), PD.int .i64 (0 : Int), PD.int .i64 (0 : Int)] (some (y_7, (0 : Nat))) (0 : Nat) (0 : Nat) (fndE y_2 k).toNat y_9 y_8 y_10 y_11 y_12) (Out.ex (List PD) fun y_13 => Out.need (y_13.length = ((rowW y.snd.fst y.snd.snd k).snd.fst - (IntKind.i64.wrap (fndE y_2 k + (1 : Int))).toNat) * (4 : Nat) ∧ ((rowW y.snd.fst y.snd.snd k).snd.fst - (IntKind.i64.wrap (fndE y_2 k + (1 : Int))).toNat = (0 : Nat) ∨ y_10.at (if (rowW y.snd.fst y.snd.snd k).snd.snd = (IntKind.i64.wrap (fndE y_2 k + (1 : Int))).toNat then (rowW y.snd.fst y.snd.snd k).fst else shiftA (rowW y.snd.fst y.snd.snd k).fst ((IntKind.i64.wrap (fndE y_2 k + (1 : Int))).toNat * (4 : Nat))) y_13)) (Out.ex (List PD) fun y_14 => Out.need (y_14.length = ((0 : Nat) + (fndE y_2 k).toNat) * (4 : Nat) ∧ ((0 : Nat) + (fndE y_2 k).toNat = (0 : Nat) ∨ y_10.at y_11 y_14)) (Out.need ((0 : Nat) + (fndE y_2 k).toNat ≤ y_12 ∧ (0 : Nat) + (fndE y_2 k).toNat + ((rowW y.snd.fst y.snd.snd k).snd.fst - (IntKind.i64.wrap (fndE y_2 k + (1 : Int))).toNat) ≤ (4294967296 : Nat) ∧ ((0 : Nat) + (fndE y_2 k).toNat + ((rowW y.snd.fst y.snd.snd k).snd.fst - (IntKind.i64.wrap (fndE y_2 k + (1 : Int))).toNat)) * (32 : Nat) ≤ (140737488355328 : Nat) ∧ ((0 : Nat) + (fndE y_2 k).toNat + ((rowW y.snd.fst y.snd.snd k).snd.fst - (IntKind.i64.wrap (fndE y_2 k + (1 : Int))).toNat) ≤ y_12 → (rowW y.snd.fst y.snd.snd k).snd.fst - (IntKind.i64.wrap (fndE y_2 k + (1 : Int))).toNat = (0 : Nat) ∨ y_10.has (shiftA y_11 (((0 : Nat) + (fndE y_2 k).toNat) * (4 : Nat))) (((rowW y.snd.fst y.snd.snd k).snd.fst - (IntKind.i64.wrap (fndE y_2 k + (1 : Int))).toNat) * (4 : Nat)))) (Out.all Pool fun y_15 => Out.all (Option (Nat × Nat)) fun y_16 => Out.all Nat fun y_17 => Out.asm (App y_10 (29 : Nat) (4 : Nat) [PD.int .i64 (0 : Int), PD.int .i64 (0 : Int), PD.int .i64 (0 : Int), PD.int .i64 (0 : Int)] y_11 ((0 : Nat) + (fndE y_2 k).toNat) y_12 ((rowW y.snd.fst y.snd.snd k).snd.fst - (IntKind.i64.wrap (fndE y_2 k + (1 : Int))).toNat) y_14 y_13 y_15 y_16 y_17) (Out.ex RZ fun y_18 => Out.ex (List Ent) fun y_19 => Out.need (RIn y_15 y_18 (some (b, (0 : Nat))) ∧ RowP y_15 (y_16, (0 : Nat) + (fndE y_2 k).toNat + ((rowW y.snd.fst y.snd.snd k).snd.fst - (IntKind.i64.wrap (fndE y_2 k + (1 : Int))).toNat), y_17) y_19 ∧ ∀ (n : Nat), own (y_16, (0 : Nat) + (fndE y_2 k).toNat + ((rowW y.snd.fst y.snd.snd k).snd.fst - (IntKind.i64.wrap (fndE y_2 k + (1 : Int))).toNat), y_17) = some n → y_18.snd.fst.lab n = RLab.no) (Out.all (Pool × RL) fun y => Out.asm (RAt y.fst y_18.1 y.snd (y_18.snd.snd.with_ k y_19)) (Out.fin (.tup [.agg [.int .i64 y_3, .int .i64 y_4, .int .i64 y_5, .int .i64 y_6], .tt]) [((4 : Nat), .cells (29 : Nat) [.int .i64 y_3, .int .i64 y_4, .int .i64 y_5, .int .i64 y_6]), ((3 : Nat), .cells (29 : Nat) [.int .i64 y_3, .int .i64 y_4, .int .i64 y_5, .int .i64 y_6]), ((0 : Nat), Blk.pool y.fst)] (10 : Nat))))))))))))))))))))) := by kernel_rfl

theorem rtput2 (p : Pool) (b : Nat) (e : Ent) : runF cfgYP 60 20 Try.f20 [.rp (some (b, 0)), .agg (Ent.enc e)] [(0, .pool p)] 3 = Out.ex RZ fun y => Out.need (RIn p y (some (b, (0 : Nat))) ∧ y.snd.snd.Good ∧ y.snd.snd.5 ≤ (1000000 : Nat)) (Out.all (Pool × RL) fun y_1 => Out.asm (RAt y_1.fst y.1 y_1.snd y.snd.snd.move) (Out.all Nat fun y => Out.asm (y_1.fst y = none) (Out.ex RZ fun y_2 => Out.need (RIn (y_1.fst.put y (29 : Nat) []) y_2 (some (b, (0 : Nat)))) (Out.ex (List PD) fun y_3 => Out.need (y_3.length = (rowW y_2.snd.fst y_2.snd.snd e.key).snd.fst * (4 : Nat) ∧ ((rowW y_2.snd.fst y_2.snd.snd e.key).snd.fst = (0 : Nat) ∨ (y_1.fst.put y (29 : Nat) []).at (rowW y_2.snd.fst y_2.snd.snd e.key).fst y_3)) (Out.ex (List PD) fun y_4 => Out.need (y_4.length = (0 : Nat) ∧ ((0 : Nat) = (0 : Nat) ∨ (y_1.fst.put y (29 : Nat) []).at (some (y, (0 : Nat))) y_4)) (Out.need ((0 : Nat) ≤ (0 : Nat) ∧ (0 : Nat) + (rowW y_2.snd.fst y_2.snd.snd e.key).snd.fst ≤ (4294967296 : Nat) ∧ ((0 : Nat) + (rowW y_2.snd.fst y_2.snd.snd e.key).snd.fst) * (32 : Nat) ≤ (140737488355328 : Nat) ∧ ((0 : Nat) + (rowW y_2.snd.fst y_2.snd.snd e.key).snd.fst ≤ (0 : Nat) → (rowW y_2.snd.fst y_2.snd.snd e.key).snd.fst = (0 : Nat) ∨ (y_1.fst.put y (29 : Nat) []).has (shiftA (some (y, (0 : Nat))) (0 : Nat)) ((rowW y_2.snd.fst y_2.snd.snd e.key).snd.fst * (4 : Nat)))) (Out.all Pool fun y_5 => Out.all (Option (Nat × Nat)) fun y_6 => Out.all Nat fun y_7 => Out.asm (App (y_1.fst.put y (29 : Nat) []) (29 : Nat) (4 : Nat) [PD.int .i64 (0 : Int), PD.int .i64 (0 : Int), PD.int .i64 (0 : Int), PD.int .i64 (0 : Int)] (some (y, (0 : Nat))) (0 : Nat) (0 : Nat) (rowW y_2.snd.fst y_2.snd.snd e.key).snd.fst y_4 y_3 y_5 y_6 y_7) (Out.ex (List Ent) fun y => Out.need (RowP y_5 (y_6, (0 : Nat) + (rowW y_2.snd.fst y_2.snd.snd e.key).snd.fst, y_7) y ∧ y.length ≤ (1000000 : Nat)) (Out.ite (decide (fndE y e.key ≥ (0 : Int))) (Out.need ((0 : Int) ≤ fndE y e.key ∧ fndE y e.key < (↑((0 : Nat) + (rowW y_2.snd.fst y_2.snd.snd e.key).snd.fst) : Int) ∧ y_6.isSome = true) (Out.ex Int fun y_8 => Out.ex Int fun y_9 => Out.ex Int fun y_10 => Out.ex Int fun y_11 => Out.need (y_5.at (shiftA y_6 ((fndE y e.key).toNat * (4 : Nat))) [PD.int .i64 y_8, PD.int .i64 y_9, PD.int .i64 y_10, PD.int .i64 y_11]) (Out.need ((0 : Int) ≤ fndE y e.key ∧ fndE y e.key < (↑((0 : Nat) + (rowW y_2.snd.fst y_2.snd.snd e.key).snd.fst) : Int) ∧ y_6.isSome = true) (Out.need (y_5.has (shiftA y_6 ((fndE y e.key).toNat * (4 : Nat))) (4 : Nat)) (Out.ex RZ fun y_12 => Out.ex (List Ent) fun y_13 => Out.need (RIn (y_5.set (shiftA y_6 ((fndE y e.key).toNat * (4 : Nat))) [PD.int .i64 e.key, PD.int .i64 e.value, PD.int .i64 e.weight, PD.int .i64 e.node]) y_12 (some (b, (0 : Nat))) ∧ RowP (y_5.set (shiftA y_6 ((fndE y e.key).toNat * (4 : Nat))) [PD.int .i64 e.key, PD.int .i64 e.value, PD.int .i64 e.weight, PD.int .i64 e.node]) (y_6, (0 : Nat) + (rowW y_2.snd.fst y_2.snd.snd e.key).snd.fst, y_7) y_13 ∧ ∀ (n : Nat), own (y_6, (0 : Nat) + (rowW y_2.snd.fst y_2.snd.snd e.key).snd.fst, y_7) = some n → y_12.snd.fst.lab n = RLab.no) (Out.all (Pool × RL) fun y => Out.asm (RAt y.fst y_12.1 y.snd (y_12.snd.snd.with_ e.key y_13)) (Out.fin (.tup [.agg [.int .i64 y_8, .int .i64 y_9, .int .i64 y_10, .int .i64 y_11], .tt]) [((7 : Nat), .cells (29 : Nat) [.int .i64 y_8, .int .i64 y_9, .int .i64 y_10, .int .i64 y_11]), ((4 : Nat), .cells (29 : Nat) [.int .i64 y_8, .int .i64 y_9, .int .i64 y_10, .int .i64 y_11]), ((3 : Nat), .cells (29 : Nat) [.int .i64 e.key, .int .i64 e.value, .int .i64 e.weight, .int .i64 e.node]), ((0 : Nat), Blk.pool y.fst)] (11 : Nat)))))))) (Out.all Nat fun y => Out.asm (y_5 y = none) (Out.ex (List PD) fun y_8 => Out.need (y_8.length = (4 : Nat) ∧ ((1 : Nat) = (0 : Nat) ∨ (y_5.put y (29 : Nat) [PD.int .i64 e.key, PD.int .i64 e.value, PD.int .i64 e.weight, PD.int .i64 e.node]).at (some (y, (0 : Nat))) y_8)) (Out.ex (List PD) fun y_9 => Out.need (y_9.length = ((0 : Nat) + (rowW y_2.snd.fst y_2.snd.snd e.key).snd.fst) * (4 : Nat) ∧ ((0 : Nat) + (rowW y_2.snd.fst y_2.snd.snd e.key).snd.fst = (0 : Nat) ∨ (y_5.put y (29 : Nat) [PD.int .i64 e.key, PD.int .i64 e.value, PD.int .i64 e.weight, PD.int .i64 e.node]).at y_6 y_9)) (Out.need ((0 : Nat) + (rowW y_2.snd.fst y_2.snd.snd e.key).snd.fst ≤ y_7 ∧ (0 : Nat) + (rowW y_2.snd.fst y_2.snd.snd e.key).snd.fst + (1 : Nat) ≤ (4294967296 : Nat) ∧ ((0 : Nat) + (rowW y_2.snd.fst y_2.snd.snd e.key).snd.fst + (1 : Nat)) * (32 : Nat) ≤ (140737488355328 : Nat) ∧ ((0 : Nat) + (rowW y_2.snd.fst y_2.snd.snd e.key).snd.fst + (1 : Nat) ≤ y_7 → (1 : Nat) = (0 : Nat) ∨ (y_5.put y (29 : Nat) [PD.int .i64 e.key, PD.int .i64 e.value, PD.int .i64 e.weight, PD.int .i64 e.node]).has (shiftA y_6 (((0 : Nat) + (rowW y_2.snd.fst y_2.snd.snd e.key).snd.fst) * (4 : Nat))) (4 : Nat))) (Out.all Pool fun y_10 => Out.all (Option (Nat × Nat)) fun y_11 => Out.all Nat fun y_12 => Out.asm (App (y_5.put y (29 : Nat) [PD.int .i64 e.key, PD.int .i64 e.value, PD.int .i64 e.weight, PD.int .i64 e.node]) (29 : Nat) (4 : Nat) [PD.int .i64 (0 : Int), PD.int .i64 (0 : Int), PD.int .i64 (0 : Int), PD.int .i64 (0 : Int)] y_6 ((0 : Nat) + (rowW y_2.snd.fst y_2.snd.snd e.key).snd.fst) y_7 (1 : Nat) y_9 y_8 y_10 y_11 y_12) (Out.ex RZ fun y => Out.ex (List Ent) fun y_13 => Out.need (RIn y_10 y (some (b, (0 : Nat))) ∧ RowP y_10 (y_11, (0 : Nat) + (rowW y_2.snd.fst y_2.snd.snd e.key).snd.fst + (1 : Nat), y_12) y_13 ∧ ∀ (n : Nat), own (y_11, (0 : Nat) + (rowW y_2.snd.fst y_2.snd.snd e.key).snd.fst + (1 : Nat), y_12) = some n → y.snd.fst.lab n = RLab.no) (Out.all (Pool × RL) fun y_14 => Out.asm (RAt y_14.fst y.1 y_14.snd (y.snd.snd.with_ e.key y_13)) (Out.ex RZ fun y => Out.need (RIn y_14.fst y (some (b, (0 : Nat)))) (Out.ite ((↑y.snd.snd.left : Int) == (0 : Int)) (Out.need ((some (b, (0 : Nat))).isSome = true) (Out.need ((some (b, (0 : Nat))).isSome = true) (Out.ex (Option (Nat × Nat)) fun y => Out.ex Nat fun y_15 => Out.ex Nat fun y_16 => Out.need (y_14.fst.at (shiftA (some (b, (0 : Nat))) (0 : Nat)) [PD.sl y y_15 y_16]) (Out.ex RZ fun y => Out.need (RIn y_14.fst y (some (b, (0 : Nat))) ∧ y.snd.snd.Good ∧ y.snd.snd.5 ≤ (1000000 : Nat)) (Out.ite (decide ((↑y.snd.snd.5 : Int) > (↑y_15 : Int))) (Out.need ((some (b, (0 : Nat))).isSome = true) (Out.need ((some (b, (0 : Nat))).isSome = true) (Out.ex (Option (Nat × Nat)) fun y => Out.ex Nat fun y_17 => Out.ex Nat fun y_18 => Out.need (y_14.fst.at (shiftA (some (b, (0 : Nat))) (0 : Nat)) [PD.sl y y_17 y_18]) (Out.ite (decide ((↑y_17 : Int) < (65536 : Int))) (Out.need ((some (b, (0 : Nat))).isSome = true) (Out.need ((some (b, (0 : Nat))).isSome = true) (Out.ex (Option (Nat × Nat)) fun y => Out.ex Nat fun y_19 => Out.ex Nat fun y_20 => Out.need (y_14.fst.at (shiftA (some (b, (0 : Nat))) (0 : Nat)) [PD.sl y y_19 y_20]) (Out.need ((some (b, (0 : Nat))).isSome = true) (Out.need ((some (b, (0 : Nat))).isSome = true) (Out.need (y_14.fst.has (shiftA (some (b, (0 : Nat))) (1 : Nat)) (1 : Nat)) (Out.need ((some (b, (0 : Nat))).isSome = true) (Out.need ((some (b, (0 : Nat))).isSome = true) (Out.need ((y_14.fst.set (shiftA (some (b, (0 : Nat))) (1 : Nat)) [PD.sl y y_19 y_20]).has (shiftA (some (b, (0 : Nat))) (2 : Nat)) (1 : Nat)) (Out.need ((some (b, (0 : Nat))).isSome = true) (Out.need ((some (b, (0 : Nat))).isSome = true) (Out.ex (Option (Nat × Nat)) fun y_21 => Out.ex Nat fun y_22 => Out.ex Nat fun y_23 => Out.need (((y_14.fst.set (shiftA (some (b, (0 : Nat))) (1 : Nat)) [PD.sl y y_19 y_20]).set (shiftA (some (b, (0 : Nat))) (2 : Nat)) [PD.int .i64 (0 : Int)]).at (shiftA (some (b, (0 : Nat))) (1 : Nat)) [PD.sl y_21 y_22 y_23]) (Out.need ((0 : Int) ≤ IntKind.i64.wrap ((2 : Int) * (↑y_22 : Int)) ∧ IntKind.i64.wrap ((2 : Int) * (↑y_22 : Int)) ≤ IntKind.i64.wrap ((2 : Int) * (↑y_22 : Int)) ∧ IntKind.i64.wrap ((2 : Int) * (↑y_22 : Int)) ≤ (4294967296 : Int) ∧ (24 : Nat) ≤ (64 : Nat)) (Out.all Nat fun y_24 => Out.asm ((y_14.fst.set (shiftA (some (b, (0 : Nat))) (1 : Nat)) [PD.sl y y_19 y_20]).set (shiftA (some (b, (0 : Nat))) (2 : Nat)) [PD.int .i64 (0 : Int)] y_24 = none) (Out.need ((some (b, (0 : Nat))).isSome = true) (Out.need ((some (b, (0 : Nat))).isSome = true) (Out.need ((((y_14.fst.set (shiftA (some (b, (0 : Nat))) (1 : Nat)) [PD.sl y y_19 y_20]).set (shiftA (some (b, (0 : Nat))) (2 : Nat)) [PD.int .i64 (0 : Int)]).put y_24 (34 : Nat) (List.replicate (IntKind.i64.wrap ((2 : Int) * (↑y_22 : Int))).toNat (PD.sl none (0 : Nat) (0 : Nat)))).has (shiftA (some (b, (0 : Nat))) (0 : Nat)) (1 : Nat)) (Out.fin (.tup [.agg [.lit .i64 (0 : Int), .lit .i64 (0 : Int), .lit .i64 (0 : Int), .lit .i64 (0 : Int)], .ff]) [((4 : Nat), .cells (29 : Nat) [.lit .i64 (0 : Int), .lit .i64 (0 : Int), .lit .i64 (0 : Int), .lit .i64 (0 : Int)]), ((3 : Nat), .cells (29 : Nat) [.int .i64 e.key, .int .i64 e.value, .int .i64 e.weight, .int .i64 e.node]), ((0 : Nat), Blk.pool ((((y_14.fst.set (shiftA (some (b, (0 : Nat))) (1 : Nat)) [PD.sl y y_19 y_20]).set (shiftA (some (b, (0 : Nat))) (2 : Nat)) [PD.int .i64 (0 : Int)]).put y_24 (34 : Nat) (List.replicate (IntKind.i64.wrap ((2 : Int) * (↑y_22 : Int))).toNat (PD.sl none (0 : Nat) (0 : Nat)))).set (shiftA (some (b, (0 : Nat))) (0 : Nat)) [PD.sl (some (y_24, (0 : Nat))) (IntKind.i64.wrap ((2 : Int) * (↑y_22 : Int))).toNat (IntKind.i64.wrap ((2 : Int) * (↑y_22 : Int))).toNat]))] (14 : Nat))))))))))))))))))) (Out.fin (.tup [.agg [.lit .i64 (0 : Int), .lit .i64 (0 : Int), .lit .i64 (0 : Int), .lit .i64 (0 : Int)], .ff]) [((4 : Nat), .cells (29 : Nat) [.lit .i64 (0 : Int), .lit .i64 (0 : Int), .lit .i64 (0 : Int), .lit .i64 (0 : Int)]), ((3 : Nat), .cells (29 : Nat) [.int .i64 e.key, .int .i64 e.value, .int .i64 e.weight, .int .i64 e.node]), ((0 : Nat), Blk.pool y_14.fst)] (10 : Nat)))))) (Out.fin (.tup [.agg [.lit .i64 (0 : Int), .lit .i64 (0 : Int), .lit .i64 (0 : Int), .lit .i64 (0 : Int)], .ff]) [((4 : Nat), .cells (29 : Nat) [.lit .i64 (0 : Int), .lit .i64 (0 : Int), .lit .i64 (0 : Int), .lit .i64 (0 : Int)]), ((3 : Nat), .cells (29 : Nat) [.int .i64 e.key, .int .i64 e.value, .int .i64 e.weight, .int .i64 e.node]), ((0 : Nat), Blk.pool y_14.fst)] (10 : Nat))))))) (Out.fin (.tup [.agg [.lit .i64 (0 : Int), .lit .i64 (0 : Int), .lit .i64 (0 : Int), .lit .i64 (0 : Int)], .ff]) [((4 : Nat), .cells (29 : Nat) [.lit .i64 (0 : Int), .lit .i64 (0 : Int), .lit .i64 (0 : Int), .lit .i64 (0 : Int)]), ((3 : Nat), .cells (29 : Nat) [.int .i64 e.key, .int .i64 e.value, .int .i64 e.weight, .int .i64 e.node]), ((0 : Nat), Blk.pool y_14.fst)] (10 : Nat)))))))))))))))))))) := by kernel_rfl

end Sx
end Go.Proofs.Ytkadlfadmjhahaa

/-
  The document on tables: rows longer by what is put behind them.
-/
namespace Go.Proofs.Ytkadlfadmjhahaa
namespace Sx
open Go
set_option linter.unusedSimpArgs false
set_option linter.unusedVariables false

theorem at_take {p : Pool} {o : Option (Nat × Nat)} {ds : List PD} (h : p.at o ds) (n : Nat) (hn : n ≤ ds.length) : p.at o (ds.take n) := by
  obtain ⟨b, off, T, cs, rfl, h1, h2, h3⟩ := h
  have hl : (ds.take n).length = n := by rw [List.length_take]; omega
  refine ⟨b, off, T, cs, rfl, h1, by rw [hl]; omega, ?_⟩
  rw [hl, ← h3, List.take_take, show min n ds.length = n by omega]
theorem RowP.pre {p : Pool} {o : Option (Nat × Nat)} {len cap : Nat} {l : List Ent} (h : RowP p (o, len, cap) l) {i : Nat} (hi : i ≤ l.length) : (flats (l.take i)).length = i * 4 ∧ (i = 0 ∨ p.at o (flats (l.take i))) := by
  refine ⟨by rw [flats_len, List.length_take]; congr 1; omega, ?_⟩
  rcases h.all with h0 | h0
  · have : len = l.length := h.len
    exact .inl (by omega)
  · right
    rw [← flats_take]
    exact at_take h0 _ (by rw [flats_len]; omega)
theorem RowP.suf {p : Pool} {o : Option (Nat × Nat)} {len cap : Nat} {l : List Ent} (h : RowP p (o, len, cap) l) {i : Nat} (hi : i ≤ l.length) : (flats (l.drop i)).length = (len - i) * 4 ∧ (len - i = 0 ∨ p.at (if cap = i then o else shiftA o (i * 4)) (flats (l.drop i))) := by
  have hl : len = l.length := h.len
  have hle : l.length ≤ cap := h.le
  refine ⟨by rw [flats_len, List.length_drop, hl], ?_⟩
  by_cases hz : len - i = 0
  · exact .inl hz
  · right
    rw [if_neg (by omega), ← flats_drop]
    rcases h.all with h0 | h0
    · omega
    · have h1 := at_sub h0 (i * 4) ((l.length - i) * 4) (by rw [flats_len]; omega)
      rwa [List.take_of_length_le (by rw [List.length_drop, flats_len]; omega)] at h1
theorem RowP.whole {p : Pool} {o : Option (Nat × Nat)} {len cap : Nat} {l : List Ent} (h : RowP p (o, len, cap) l) : (flats l).length = len * 4 ∧ (len = 0 ∨ p.at o (flats l)) := by
  have hl : len = l.length := h.len
  exact ⟨by rw [flats_len, hl], h.all⟩
theorem RowP.roomN {p : Pool} {o : Option (Nat × Nat)} {len cap : Nat} {l : List Ent} (h : RowP p (o, len, cap) l) (m : Nat) (hc : len + m ≤ cap) : m = 0 ∨ p.has (shiftA o (len * 4)) (m * 4) := by
  rcases h.ex with h0 | ⟨n, cs, h1, h2, h3, h4⟩
  · have h0 : cap = 0 := h0; exact .inl (by omega)
  · have h1 : o = some (n, 0) := h1
    have h3 : cs.length = cap * 4 := h3
    exact .inr ⟨n, len * 4, 29, cs, by rw [h1]; simp, h2, by omega⟩
/-- A row of its own, and a row behind it. -/
theorem App.row {p : Pool} {zs : List PD} {o : Option (Nat × Nat)} {len cap m : Nat} {l l2 : List Ent} {p' : Pool} {o' : Option (Nat × Nat)} {cap' : Nat}
    (h : App p 29 4 zs o len cap m (flats l) (flats l2) p' o' cap') (hz : zs.length = 4) (hr : RowP p (o, len, cap) l) (hm : m = l2.length) :
    RowP p' (o', len + m, cap') (l ++ l2) ∧ (∀ x, own (o, len, cap) ≠ some x → p x ≠ none → p' x = p x) ∧ (∀ x, own (o', len + m, cap') = some x → own (o, len, cap) = some x ∨ p x = none) := by
  subst hm
  have hl : len = l.length := hr.len
  have hle : l.length ≤ cap := hr.le
  subst hl
  by_cases hc : l.length + l2.length ≤ cap
  · obtain ⟨e1, e2, e3⟩ := h.inn hc
    subst e1; subst e2; subst e3
    rcases hr.ex with h0 | ⟨n, cs, h1, h2, h3, h4⟩
    · have h0 : cap' = 0 := h0
      have n1 : l = [] := List.eq_nil_of_length_eq_zero (by omega)
      have n2 : l2 = [] := List.eq_nil_of_length_eq_zero (by omega)
      subst n1; subst n2
      have hp : p.set (shiftA o' (0 * 4)) [] = p := Pool.set_nil _ _
      refine ⟨⟨rfl, Nat.zero_le _, .inl h0⟩, fun x _ _ => ?_, fun x hx => .inl hx⟩
      show p.set (shiftA o' (0 * 4)) [] x = p x
      rw [hp]
    · have h1 : o' = some (n, 0) := h1
      have h3 : cs.length = cap' * 4 := h3
      have h4 : cs.take (l.length * 4) = flats l := h4
      subst h1
      have hset : p.set (shiftA (some (n, 0)) (l.length * 4)) (flats l2) = p.set (some (n, l.length * 4)) (flats l2) := by rw [shiftA_some, Nat.zero_add]
      rw [hset]
      have hp : p.set (some (n, l.length * 4)) (flats l2) n = some (29, setAt cs (l.length * 4) (flats l2)) := by
        show (if n = n then (p n).map (fun q => (q.1, setAt q.2 (l.length * 4) (flats l2))) else p n) = _
        rw [if_pos rfl, h2]; rfl
      have f2 := flats_len l2
      have f1 := flats_len l
      refine ⟨⟨by simp, by show (l ++ l2).length ≤ cap'; rw [List.length_append]; exact hc, .inr ⟨n, _, rfl, hp, ?_, ?_⟩⟩, fun x hx _ => ?_, fun x hx => ?_⟩
      · show (setAt cs _ _).length = cap' * 4
        unfold setAt; simp only [List.length_append, List.length_take, List.length_drop, f2]; omega
      · rw [flats_app, List.length_append, Nat.add_mul, ← h4]
        unfold setAt
        have e : (List.take (l.length * 4) cs).length = l.length * 4 := by rw [List.length_take]; omega
        rw [List.take_append_of_le_length (by rw [List.length_append, e, f2]; exact Nat.le_refl _), List.take_of_length_le (by rw [List.length_append, e, f2]; exact Nat.le_refl _)]
      · show (if x = n then _ else p x) = p x
        by_cases hcap : cap' = 0
        · have n2 : l2 = [] := List.eq_nil_of_length_eq_zero (by omega)
          subst n2
          by_cases e : x = n
          · rw [if_pos e, e]
            rw [h2]; show some (29, setAt cs _ []) = _
            unfold setAt; simp
          · rw [if_neg e]
        · rw [if_neg]
          intro e
          refine hx ?_
          unfold own; rw [if_neg hcap, e]; rfl
      · refine .inl ?_
        unfold own at hx ⊢
        exact hx
  · obtain ⟨n, sp, hn, e1, e2, e3⟩ := h.out hc
    subst e1; subst e2; subst e3
    have hrow := row_new (p := p) (n := n) (l ++ l2) sp zs hz
    rw [flats_app, List.length_append] at hrow
    refine ⟨hrow, fun x _ hx => ?_, fun x hx => ?_⟩
    · unfold Pool.put
      rw [if_neg (fun e => hx (by rw [e]; exact hn))]
    · unfold own at hx
      split at hx
      · cases hx
      · cases hx; exact .inr hn
/-- A row that is nobody's, beside a table. -/
structure Loose (L : RL) (w : Rwp) : Prop where
  no : ∀ n, own w = some n → L.lab n = .no
theorem App.beside {p : Pool} {b : Nat} {L : RL} {t : TM} (hA : RAt p b L t) {zs : List PD} {o : Option (Nat × Nat)} {len cap m : Nat} {l l2 : List Ent} {p' : Pool} {o' : Option (Nat × Nat)} {cap' : Nat}
    (h : App p 29 4 zs o len cap m (flats l) (flats l2) p' o' cap') (hz : zs.length = 4) (hr : RowP p (o, len, cap) l) (hm : m = l2.length) (hL : Loose L (o, len, cap)) :
    RAt p' b L t ∧ RowP p' (o', len + m, cap') (l ++ l2) ∧ Loose L (o', len + m, cap') := by
  obtain ⟨h1, h2, h3⟩ := h.row hz hr hm
  refine ⟨hA.frame fun n hn => h2 n (fun e => hn (hL.no n e)) (hA.l6 n hn), h1, ⟨fun n hn => ?_⟩⟩
  rcases h3 n hn with k | k
  · exact hL.no n k
  · exact hA.no k
/-- A new row of none. -/
theorem RowP.zero (p : Pool) (n : Nat) : RowP p (some (n, 0), 0, 0) [] := ⟨rfl, Nat.le_refl _, .inl rfl⟩
theorem Loose.zero (L : RL) (n : Nat) : Loose L (some (n, 0), 0, 0) := ⟨fun m hm => by unfold own at hm; rw [if_pos rfl] at hm; cases hm⟩

theorem hooksRP_ok : ∀ g H, hooksRP g = some H → HookOk Try.prog g H := by
  intro g H h
  unfold hooksRP at h
  split at h
  · cases h; exact cRMove.hookAt
  · cases h; exact cRSet.hookAt
  · cases h; exact cRLen.hookAt
  · cases h; exact cRLeft.hookAt
  · exact hooksR3_ok _ _ h
theorem tabZ_met : tabZ.met Try.prog := by
  intro t R h
  unfold tabZ at h
  split at h
  · cases h; exact ⟨ty34_met.kind, ty34_met.info, ty34_met.cmp⟩
  · cases h; exact ⟨ty43_met.kind, ty43_met.info, ty43_met.cmp⟩
  · exact tab_met t R h
theorem kindsZ_met : kinds.met tabZ := by
  intro e k h
  unfold kinds at h
  split at h <;> cases h
  · exact ⟨ty3, rfl, rfl, rfl, by decide, fun r vs h => h⟩
  · exact ⟨ty4, rfl, rfl, rfl, by decide, fun r vs h => h⟩
  · exact ⟨ty29, rfl, rfl, rfl, by decide, fun r vs h => h⟩
  · exact ⟨ty24, rfl, rfl, rfl, by decide, fun r vs h => h⟩
  · exact ⟨ty27, rfl, rfl, rfl, by decide, fun r vs h => h⟩
  · exact ⟨ty26, rfl, rfl, rfl, by decide, fun r vs h => rsBack [.nilS] (none, 0, 0) rfl r vs h⟩
theorem cfgYP_ok : cfgYP.ok := ⟨tabZ_met, kindsZ_met, mixed_met, fun g fn h => (by cases h), hooksRP_ok⟩

end Sx
end Go.Proofs.Ytkadlfadmjhahaa

/-
  The document on tables: Remove.
-/
namespace Go.Proofs.Ytkadlfadmjhahaa
namespace Sx
open Go
set_option linter.unusedSimpArgs false
set_option linter.unusedVariables false

def runRRem : RunPool V := fun p ar K => match ar with
  | [.val (.rp o), .int .i64 k] => .ex RZ fun z => .need (RIn p z o ∧ z.2.2.Good ∧ z.2.2.len ≤ 1000000) (.all (Pool × RL) fun y => .asm (RAt y.1 z.1 y.2 (z.2.2.remove k)) (K (foundAV (z.2.2.get k)) y.1 []))
  | _ => .bad 500
theorem cRRem : PoolC Try.prog 21 runRRem := by
  refine pool_calls (C := cfgYP) cfgYP_ok (n := 60) (fn := Try.f21) ⟨by kernel_rfl, by kernel_rfl⟩ (by kernel_rfl) ?_
  intro M p ar K0 H
  unfold runRRem at H
  split at H
  · rename_i o k
    obtain ⟨⟨b, L, t⟩, ⟨hI, hG, hmax⟩, H⟩ := H
    have hI' := hI
    obtain ⟨ho, hA, hc⟩ := hI
    dsimp only at ho hA hc H hG hmax
    subst ho
    refine ⟨show 2 ≤ _ by decide +kernel, ?_⟩
    show (runF cfgYP 60 21 Try.f21 [.rp (some (b, 0)), .int .i64 k] [(0, .pool p)] 3).holds _
    rw [rtrem]
    obtain ⟨m1, m2, m3⟩ := move_good hG
    have ml := (move_lens t).2.1
    refine ⟨(b, L, t), ⟨hI', hG, hmax⟩, ?_⟩
    rintro ⟨p1, L1⟩ hA1
    have hA1 : RAt p1 b L1 t.move := hA1
    have hI1 : RIn p1 (b, L1, t.move) (some (b, 0)) := ⟨rfl, hA1, m2.core⟩
    refine ⟨(b, L1, t.move), hI1, ?_⟩
    dsimp only
    have hrw : ∀ q, RAt q b L1 t.move → RowP q (rowW L1 t.move k) (t.move.chain k) := fun q hq => hq.rowW m2.core k
    have hcl := TM.core_chain m2 k
    have hge := get_idx t.move k
    rw [m3] at hge
    have hrem : t.remove k = match t.get k with
      | some _ => { t.move.with_ k ((t.move.chain k).eraseIdx ((t.move.chain k).findIdx (kIs k))) with len := t.move.len - 1 }
      | none => t.move := by unfold TM.remove; rw [m3]; rfl
    generalize t.move.chain k = l at hrw hcl hge hrem
    generalize rowW L1 t.move k = w at hrw
    obtain ⟨wo, wl, wc⟩ := w
    dsimp only
    have hR := hrw p1 hA1
    have hfl := List.findIdx_le_length (p := kIs k) (xs := l)
    have hwl : wl = l.length := hR.len
    have hle : l.length ≤ wc := hR.le
    refine ⟨l, ⟨hR, by omega⟩, fun hlt => ?_, fun hge2 => ?_⟩
    · have hlt : fndE l k < 0 := of_decide_eq_true hlt
      have h1 : ¬ l.findIdx (kIs k) < l.length := fun hh => by unfold fndE at hlt; rw [if_pos hh] at hlt; omega
      have h2 : t.get k = none := by rw [hge]; exact List.getElem?_eq_none (by omega)
      rw [h2] at H hrem
      refine ⟨_, _, _, H (p1, L1) (by rw [hrem]; exact hA1), endPool (by exact AV.sub_two (AV.sub_aggR (AV.subL_cons AV.sub_lit' (AV.subL_cons AV.sub_lit' (AV.subL_cons AV.sub_lit' (AV.subL_cons AV.sub_lit' AV.subL_nil))))) (AV.sub_ff rfl)) rfl rfl⟩
    · have hge2 : ¬ fndE l k < 0 := of_decide_eq_false hge2
      have h1 : l.findIdx (kIs k) < l.length := by
        rcases Nat.lt_or_ge (l.findIdx (kIs k)) l.length with hh | hh
        · exact hh
        · unfold fndE at hge2; rw [if_neg (by omega)] at hge2; exact absurd (show (-1 : Int) < 0 by decide) hge2
      have hf : fndE l k = (l.findIdx (kIs k) : Int) := by unfold fndE; rw [if_pos h1]
      have h2 : t.get k = some (l[l.findIdx (kIs k)]) := by rw [hge]; exact List.getElem?_eq_getElem h1
      rw [h2] at H hrem
      obtain ⟨he1, he2⟩ := hR.ent h1
      have hw1 : IntKind.wrap .i64 ((l.findIdx (kIs k) : Int) + 1) = ((l.findIdx (kIs k) + 1 : Nat) : Int) := wrap_nat (by omega)
      rw [hf, hw1]
      dsimp only at hrem
      generalize l[l.findIdx (kIs k)] = e at H he2 h2
      generalize l.findIdx (kIs k) = i at H he2 hw1 hrem h1 hfl hf
      rw [Int.toNat_natCast, Int.toNat_natCast]
      have htl : (l.take i).length = i := by rw [List.length_take]; omega
      refine ⟨⟨by omega, by omega, he1⟩, _, _, _, _, he2, ⟨by omega, by omega⟩, ⟨by omega, by omega, by omega⟩, fun n hn => ?_⟩
      have hAn := hA1.put (T := 29) (ds := []) hn
      have hRn := hrw _ hAn
      refine ⟨flats (l.take i), hRn.pre hfl, [], ⟨rfl, .inl rfl⟩, ⟨Nat.le_refl _, by omega, by omega, fun hc => .inl (by omega)⟩, ?_⟩
      intro p2 o2 c2 hApp
      obtain ⟨hA2, hR2, hL2⟩ := App.beside hAn (l := []) (l2 := l.take i) hApp rfl (RowP.zero _ n) htl.symm (Loose.zero L1 n)
      rw [List.nil_append] at hR2
      have hRc := hrw _ hA2
      have hc2 : (l.take i).length ≤ c2 := hR2.le
      refine ⟨flats (l.drop (i + 1)), hRc.suf h1, flats (l.take i), hR2.whole, ⟨by omega, by omega, by omega, fun hc => hR2.roomN _ hc⟩, ?_⟩
      intro p3 o3 c3 hApp2
      obtain ⟨hA3, hR3, hL3⟩ := App.beside hA2 (l := l.take i) (l2 := l.drop (i + 1)) hApp2 rfl hR2 (by rw [List.length_drop, hwl]) hL2
      have hI3 : RIn p3 (b, L1, t.move) (some (b, 0)) := ⟨rfl, hA3, m2.core⟩
      refine ⟨(b, L1, t.move), l.take i ++ l.drop (i + 1), ⟨hI3, hR3, fun m hm => hL3.no m hm⟩, ?_⟩
      rintro ⟨p4, L4⟩ hA4
      have hA4 : RAt p4 b L4 (t.move.with_ k (l.take i ++ l.drop (i + 1))) := hA4
      have hA5 := hA4.anyLen (t.move.len - 1)
      rw [← List.eraseIdx_eq_take_drop_succ] at hA5
      rw [← hrem] at hA5
      exact ⟨_, _, _, H (p4, L4) hA5, endPool (AV.sub_two (AV.sub_same _) (AV.sub_tt rfl)) rfl rfl⟩
  · exact H.elim

end Sx
end Go.Proofs.Ytkadlfadmjhahaa

/-
  The document on tables: Put.
-/
namespace Go.Proofs.Ytkadlfadmjhahaa
namespace Sx
open Go
set_option linter.unusedSimpArgs false
set_option linter.unusedVariables false

theorem ins_good {t : TM} (h : t.Good) {e : Ent} (hg : t.get e.key = none) : ({ insE t e with len := t.len + 1 } : TM).Good := by
  obtain ⟨i1, i2⟩ := h.core.ins hg
  have i3 := TM.total_ins h.core e
  have ill := tm_with_len t e.key (t.chain e.key ++ [e])
  obtain ⟨c1, c2⟩ := i1.same (u := { insE t e with len := t.len + 1 }) i1.b1 i1.b2 i1.b3 i1.mv (fun q hq => hq) (fun q _ => rfl) (fun k => rfl)
  refine ⟨c1, fun hh => ?_, ?_⟩
  · have hh : (insE t e).O.length ≤ (insE t e).moved := hh
    have h1 : (insE t e).O.length = t.O.length := ill.1
    have h2 : (insE t e).moved = t.moved := ill.2.2.1
    have := h.tight (by omega)
    exact List.eq_nil_of_length_eq_zero (by show (insE t e).O.length = 0; rw [h1, this]; rfl)
  · show t.len + 1 = (insE t e).total
    rw [i3, h.len]
theorem RowP.hasAt {p : Pool} {o : Option (Nat × Nat)} {len cap : Nat} {l : List Ent} (h : RowP p (o, len, cap) l) {i : Nat} (hi : i < l.length) : ∃ m, o = some (m, 0) ∧ own (o, len, cap) = some m ∧ p.has (shiftA o (i * 4)) 4 := by
  have hle : l.length ≤ cap := h.le
  rcases h.ex with h0 | ⟨n, cs, h1, h2, h3, h4⟩
  · have h0 : cap = 0 := h0; omega
  · have h1 : o = some (n, 0) := h1
    have h3 : cs.length = cap * 4 := h3
    exact ⟨n, h1, by unfold own; rw [if_neg (by show ¬ cap = 0; omega), h1]; rfl, n, i * 4, 29, cs, by rw [h1]; simp, h2, by omega⟩
theorem set_self {p : Pool} {b T i : Nat} {cs ds : List PD} (h : p b = some (T, cs)) : p.set (some (b, i)) ds b = some (T, setAt cs i ds) := by
  show (if b = b then (p b).map (fun q => (q.1, setAt q.2 i ds)) else p b) = _
  rw [if_pos rfl, h]; rfl
theorem set_none {p : Pool} {b i n : Nat} {ds : List PD} (h : p.set (some (b, i)) ds n = none) : p n = none := by
  cases hp : p n with
  | none => rfl
  | some q => exact absurd h (set_some (by rw [hp]; exact fun k => by cases k))
def runRPut : RunPool V := fun p ar K => match ar with
  | [.val (.rp o), .el .ent e] => .ex RZ fun z => .need (RIn p z o ∧ z.2.2.Good ∧ z.2.2.len < 1000000) (.all (Pool × RL) fun y => .asm (RAt y.1 z.1 y.2 (z.2.2.put e)) (K (foundAV (z.2.2.get e.key)) y.1 []))
  | _ => .bad 500
set_option maxHeartbeats 1000000 in
theorem cRPut : PoolC Try.prog 20 runRPut := by
  refine pool_calls (C := cfgYP) cfgYP_ok (n := 60) (fn := Try.f20) ⟨by kernel_rfl, by kernel_rfl⟩ (by kernel_rfl) ?_
  intro M p ar K0 H
  unfold runRPut at H
  split at H
  · rename_i o e
    obtain ⟨⟨b, L, t⟩, ⟨hI, hG, hmax⟩, H⟩ := H
    have hI' := hI
    obtain ⟨ho, hA, hc⟩ := hI
    dsimp only at ho hA hc H hG hmax
    subst ho
    refine ⟨show 2 ≤ _ by decide +kernel, ?_⟩
    show (runF cfgYP 60 20 Try.f20 [.rp (some (b, 0)), .agg (Ent.enc e)] [(0, .pool p)] 3).holds _
    rw [rtput2]
    obtain ⟨m1, m2, m3⟩ := move_good hG
    have ml := (move_lens t).2.1
    refine ⟨(b, L, t), ⟨hI', hG, by show t.len ≤ _; omega⟩, ?_⟩
    rintro ⟨p1, L1⟩ hA1
    have hA1 : RAt p1 b L1 t.move := hA1
    intro n hn
    have hn : p1 n = none := hn
    have hAn := hA1.put (T := 29) (ds := []) hn
    refine ⟨(b, L1, t.move), ⟨rfl, hAn, m2.core⟩, ?_⟩
    dsimp only
    have hrw : ∀ q, RAt q b L1 t.move → RowP q (rowW L1 t.move e.key) (t.move.chain e.key) := fun q hq => hq.rowW m2.core e.key
    have hcl := TM.core_chain m2 e.key
    have hge := get_idx t.move e.key
    rw [m3] at hge
    have hput : t.put e = match t.get e.key with
      | some _ => t.move.with_ e.key ((t.move.chain e.key).set ((t.move.chain e.key).findIdx (kIs e.key)) e)
      | none => ({ t.move.with_ e.key (t.move.chain e.key ++ [e]) with len := t.move.len + 1 } : TM).grow := by unfold TM.put; rw [m3]; rfl
    have hgood : t.get e.key = none → ({ t.move.with_ e.key (t.move.chain e.key ++ [e]) with len := t.move.len + 1 } : TM).Good := fun hg => ins_good m2 (by rw [m3]; exact hg)
    generalize t.move.chain e.key = l at hrw hcl hge hput hgood
    generalize rowW L1 t.move e.key = w at hrw
    obtain ⟨wo, wl, wc⟩ := w
    dsimp only
    have hRn := hrw _ hAn
    have hfl := List.findIdx_le_length (p := kIs e.key) (xs := l)
    have hwl : wl = l.length := hRn.len
    have hle : l.length ≤ wc := hRn.le
    refine ⟨flats l, hRn.whole, [], ⟨rfl, .inl rfl⟩, ⟨Nat.le_refl _, by omega, by omega, fun hc => .inl (by omega)⟩, ?_⟩
    intro p2 o2 c2 hApp
    obtain ⟨hA2, hR2, hL2⟩ := App.beside hAn (l := []) (l2 := l) hApp rfl (RowP.zero _ n) hwl (Loose.zero L1 n)
    rw [List.nil_append] at hR2
    have hc2 : l.length ≤ c2 := hR2.le
    refine ⟨l, ⟨hR2, by omega⟩, fun hge0 => ?_, fun hlt => ?_⟩
    · have hge2 : ¬ fndE l e.key < 0 := by have := of_decide_eq_true hge0; omega
      have h1 : l.findIdx (kIs e.key) < l.length := by
        rcases Nat.lt_or_ge (l.findIdx (kIs e.key)) l.length with hh | hh
        · exact hh
        · unfold fndE at hge2; rw [if_neg (by omega)] at hge2; exact absurd (show (-1 : Int) < 0 by decide) hge2
      have hf : fndE l e.key = (l.findIdx (kIs e.key) : Int) := by unfold fndE; rw [if_pos h1]
      have h2 : t.get e.key = some (l[l.findIdx (kIs e.key)]) := by rw [hge]; exact List.getElem?_eq_getElem h1
      rw [h2] at H hput
      obtain ⟨he1, he2⟩ := hR2.ent h1
      obtain ⟨m, rfl, hown, hhas⟩ := hR2.hasAt h1
      rw [hf]
      dsimp only at hput
      generalize l[l.findIdx (kIs e.key)] = e2 at H he2 h2
      generalize l.findIdx (kIs e.key) = i at H he2 hput h1 hfl hf hhas
      rw [Int.toNat_natCast]
      have hnd : (0 : Int) ≤ (i : Int) ∧ (i : Int) < ((0 + wl : Nat) : Int) ∧ (some (m, 0)).isSome = true := ⟨by omega, by omega, rfl⟩
      have hA3 : RAt (p2.set (some (m, i * 4)) (flatE e)) b L1 t.move := hA2.frame fun x hx => by
        show (if x = m then _ else p2 x) = p2 x
        rw [if_neg fun hh => hx (by rw [hh]; exact hL2.no m hown)]
      have hR3 := hR2.setAt_ h1 e
      have hsh : shiftA (some (m, 0)) (i * 4) = some (m, i * 4) := by rw [shiftA_some, Nat.zero_add]
      refine ⟨hnd, _, _, _, _, he2, hnd, hhas, ?_⟩
      rw [hsh]
      refine ⟨(b, L1, t.move), l.set i e, ⟨⟨rfl, hA3, m2.core⟩, hR3, fun x hx => hL2.no x hx⟩, ?_⟩
      rintro ⟨p4, L4⟩ hA4
      have hA4 : RAt p4 b L4 (t.move.with_ e.key (l.set i e)) := hA4
      rw [← hput] at hA4
      exact ⟨_, _, _, H (p4, L4) hA4, endPool (AV.sub_two (AV.sub_same _) (AV.sub_tt rfl)) rfl rfl⟩
    · have hlt0 : ¬ fndE l e.key ≥ 0 := of_decide_eq_false hlt
      have h1 : ¬ l.findIdx (kIs e.key) < l.length := fun hh => by unfold fndE at hlt0; rw [if_pos hh] at hlt0; omega
      have h2 : t.get e.key = none := by rw [hge]; exact List.getElem?_eq_none (by omega)
      have hgd := hgood h2
      rw [h2] at H hput
      dsimp only at hput
      intro n2 hn2
      have hn2 : p2 n2 = none := hn2
      have hA2' := hA2.put (T := 29) (ds := flatE e) hn2
      have hR2' := hR2.put (T := 29) (ds := flatE e) hn2
      refine ⟨flatE e, ⟨rfl, .inr put_at⟩, flats l, hR2'.whole, ⟨by omega, by omega, by omega, fun hc => hR2'.roomN 1 hc⟩, ?_⟩
      intro p3 o3 c3 hApp2
      obtain ⟨hA3, hR3, hL3⟩ := App.beside hA2' (l := l) (l2 := [e]) hApp2 rfl hR2' rfl hL2
      refine ⟨(b, L1, t.move), l ++ [e], ⟨⟨rfl, hA3, m2.core⟩, hR3, fun x hx => hL3.no x hx⟩, ?_⟩
      rintro ⟨p4, L4⟩ hA4
      have hA4 : RAt p4 b L4 (t.move.with_ e.key (l ++ [e])) := hA4
      have hA5 := hA4.anyLen (t.move.len + 1)
      have hlen : ({ t.move.with_ e.key (l ++ [e]) with len := t.move.len + 1 } : TM).len = t.len + 1 := by show t.move.len + 1 = _; rw [ml]
      generalize ({ t.move.with_ e.key (l ++ [e]) with len := t.move.len + 1 } : TM) = t2 at hA5 hgd hput hlen
      have hI5 : RIn p4 (b, L4, t2) (some (b, 0)) := ⟨rfl, hA5, hgd.core⟩
      have hbl := hA5.bl
      have hol := hA5.ol
      have hb1 := hgd.core.b1
      have hno : (¬ (t2.O.length ≤ t2.moved ∧ t2.B.length < t2.len ∧ t2.B.length < 65536)) → RAt p4 b L4 (t.put e) := fun hh => by
        rw [hput]; unfold TM.grow; rw [if_neg hh]; exact hA5
      have hend : RAt p4 b L4 (t.put e) → ∀ (h' : Heap V) (n' : Nat), h'.get 0 = some (.pool p4) → ∃ v p' E, (K0 v p' E).holds M ∧ EndPool n' (AV.tup [AV.agg [.lit .i64 0, .lit .i64 0, .lit .i64 0, .lit .i64 0], .ff]) h' v p' E := fun hh h' n' hg =>
        ⟨_, _, _, H (p4, L4) hh, endPool (by exact AV.sub_two (AV.sub_aggR (AV.subL_cons AV.sub_lit' (AV.subL_cons AV.sub_lit' (AV.subL_cons AV.sub_lit' (AV.subL_cons AV.sub_lit' AV.subL_nil))))) (AV.sub_ff rfl)) rfl hg⟩
      refine ⟨(b, L4, t2), hI5, fun hl0 => ?_, fun hl0 => ?_⟩
      · have hl0 : ((t2.left : Nat) : Int) = 0 := eq_of_beq hl0
        unfold TM.left at hl0
        have hO := hgd.tight (by omega)
        have hmv := hgd.core.mv
        rw [hO] at hmv hol
        have hmv : t2.moved = 0 := by simpa using hmv
        have hLO : L4.O = [] := List.eq_nil_of_length_eq_zero (by simpa using hol)
        refine ⟨rfl, rfl, _, _, _, hA5.fB, (b, L4, t2), ⟨hI5, hgd, by rw [hlen]; omega⟩, fun hgt => ?_, fun hgt => hend (hno fun hh => ?_) _ _ rfl⟩
        · have hgt : (t2.len : Int) > (L4.B.length : Int) := of_decide_eq_true hgt
          refine ⟨rfl, rfl, _, _, _, hA5.fB, fun hbb => ?_, fun hbb => hend (hno fun hh => ?_) _ _ rfl⟩
          · have hbb : (L4.B.length : Int) < 65536 := of_decide_eq_true hbb
            have hw : IntKind.wrap .i64 (2 * (L4.B.length : Int)) = ((2 * L4.B.length : Nat) : Int) := by
              refine (wrap_low (by omega) (by omega)).trans (by omega)
            have s0 := hA5.self
            have s1 := set_self (i := 1) (ds := [PD.sl (some (L4.bb, 0)) L4.B.length L4.B.length]) s0
            have s2 := set_self (i := 2) (ds := [PD.int .i64 0]) s1
            refine ⟨rfl, rfl, _, _, _, hA5.fB, rfl, rfl, at_has s0 (by simp), rfl, rfl, at_has s1 (by simp [setAt]), rfl, rfl, some (L4.bb, 0), L4.B.length, L4.B.length, ⟨b, 1, 43, _, rfl, s2, by simp [setAt], by simp [setAt]⟩, ?_⟩
            rw [hw, Int.toNat_natCast]
            refine ⟨⟨by omega, by omega, by omega, by decide⟩, fun m hm => ?_⟩
            have hm4 : p4 m = none := set_none (set_none hm)
            have hbm : b ≠ m := fun hh => by rw [← hh, s0] at hm4; cases hm4
            have s3 := (Pool.put_ne (T := 34) (cs := List.replicate (2 * L4.B.length) (PD.sl none 0 0)) hbm).trans s2
            have hW := hA5.wide hLO (by omega) hm4 rfl
            have hgr : t.put e = { t2 with O := t2.B, moved := 0, B := List.replicate (2 * t2.B.length) [] } := by
              rw [hput]; unfold TM.grow; rw [if_pos ⟨by omega, by omega, by omega⟩, ← hmv]
            rw [← hgr] at hW
            refine ⟨rfl, rfl, at_has s3 (by simp [setAt]), _, _, _, H (_, _) hW, endPool (by exact AV.sub_two (AV.sub_aggR (AV.subL_cons AV.sub_lit' (AV.subL_cons AV.sub_lit' (AV.subL_cons AV.sub_lit' (AV.subL_cons AV.sub_lit' AV.subL_nil))))) (AV.sub_ff rfl)) rfl rfl⟩
          · have := of_decide_eq_false hbb
            have hbl2 : L4.B.length = t2.B.length := hbl
            omega
        · have hgt : ¬ (t2.len : Int) > (L4.B.length : Int) := of_decide_eq_false hgt
          have hbl2 : L4.B.length = t2.B.length := hbl
          omega
      · have hl0 : ¬ ((t2.left : Nat) : Int) = 0 := by
          intro hh
          have hl0 : (((t2.left : Nat) : Int) == 0) = false := hl0
          rw [hh] at hl0; exact absurd hl0 (by decide)
        unfold TM.left at hl0
        exact hend (hno fun hh => by omega) _ _ rfl
  · exact H.elim

end Sx
end Go.Proofs.Ytkadlfadmjhahaa

/-
  A table call by call: the runs of the machine.
-/
namespace Go.Proofs.Ytkadlfadmjhahaa
namespace Sx
open Go
set_option maxRecDepth 100000
set_option linter.unusedVariables false

def TQP : List Nat := [0, 1, 2, 3, 4, 5, 6, 7, 8, 9, 10, 11, 12, 13, 14, 15, 16, 17, 18, 19, 20, 21, 22, 23, 24, 25, 26, 27, 28, 29, 30, 31, 32, 33, 34, 35, 36, 37, 38, 39, 40]
noncomputable def hooksJ : Nat → Option (HookS V) := fun g => match g with
  | 25 => some (hookFree [.rows Kd.int, .rows Kd.int] runInts)
  | 19 => some (hookPoolAt 2 [.int .i64] runRNewT)
  | 20 => some (hookPoolAt 2 [.val, .el Kd.ent] runRPut)
  | 21 => some (hookPoolAt 2 [.val, .int .i64] runRRem)
  | 22 => some (hookPoolRAt 2 [.val, .int .i64] runRGet)
  | 23 => some (hookPoolRAt 2 [.val] runRLen)
  | 24 => some (hookPoolRAt 2 [.val] runRLeft)
  | 27 => some (hookPoolRAt 2 [.val, .int .i64] runRChainF)
  | 28 => some (hookPoolRAt 2 [.val] runRAll)
  | g => hooksW g
noncomputable def cfgJ : Cfg Try.prog V := ⟨tab, kinds, fun _ => none, hooksJ, fun _ _ => none⟩
structure P6 where
  l : List Three
  c : Nat
  b : Nat
  d : Nat
  hl : l.length ≤ 200
structure X6 where
  i : Nat
  p1 : Pool
  p2 : Pool
def SJ (q : P6) (x : X6) : St V := ⟨[(1, .sl false 0 0 3 q.l.length q.c), (5, .tt), (6, .rp (some (q.b, 0))), (7, .rp (some (q.d, 0))), (8, .int .i64 (x.i : Int))], [(1, .pool x.p1), (2, .pool x.p2), (0, .ro Kd.three q.l)], 3, 222, TQP⟩
def S10 (q : P6) (x : X6) : St V := ⟨[(1, .sl false 0 0 3 q.l.length q.c), (5, .tt), (6, .rp (some (q.b, 0))), (7, .rp (some (q.d, 0))), (8, .int .i64 (x.i : Int)), (10, .tt)], [(1, .pool x.p1), (2, .pool x.p2), (0, .ro Kd.three q.l)], 9, 222, TQP⟩
structure R6 where
  q : P6
  x : X6
  e : Ent
  w : Bool
def R16 (z : R6) : St V := ⟨[(1, .sl false 0 0 3 z.q.l.length z.q.c), (5, .tt), (6, .rp (some (z.q.b, 0))), (7, .rp (some (z.q.d, 0))), (8, .int .i64 (z.x.i : Int)), (11, .ptr 5 0), (12, .bool z.w), (13, .ptr 7 0), (14, .bool z.w)], [(7, .cells 29 (Ent.enc z.e)), (5, .cells 29 (Ent.enc z.e)), (1, .pool z.x.p1), (2, .pool z.x.p2), (0, .ro Kd.three z.q.l)], 9, 222, TQP⟩
def R20 (z : R6) : St V := ⟨[(1, .sl false 0 0 3 z.q.l.length z.q.c), (5, .tt), (6, .rp (some (z.q.b, 0))), (7, .rp (some (z.q.d, 0))), (8, .int .i64 (z.x.i : Int)), (15, .ptr 5 0), (16, .bool z.w), (17, .ptr 7 0), (18, .bool z.w)], [(7, .cells 29 (Ent.enc z.e)), (5, .cells 29 (Ent.enc z.e)), (1, .pool z.x.p1), (2, .pool z.x.p2), (0, .ro Kd.three z.q.l)], 9, 222, TQP⟩
def L16 : LoopS V := trimLoop (trimSt [1, 5, 6, 7, 8, 11, 12, 13, 14] [0, 1, 2, 5, 7]) (loopH 9 R16 (fun _ (_ : Unit) => True) (fun z _ => S10 z.q z.x))
def L20 : LoopS V := trimLoop (trimSt [1, 5, 6, 7, 8, 15, 16, 17, 18] [0, 1, 2, 5, 7]) (loopH 9 R20 (fun _ (_ : Unit) => True) (fun z _ => S10 z.q z.x))
structure R6b where
  q : P6
  x : X6
  e : Ent
  w : Bool
  t : TM
  L : RL
  hT : TT x.p1 [(q.b, t)]
  hA : RAt x.p2 q.d L t
  hi : x.i < q.l.length
  hn : t.len ≤ x.i + 1
def R23 (z : R6b) : St V := ⟨[(1, .sl false 0 0 3 z.q.l.length z.q.c), (5, .tt), (6, .rp (some (z.q.b, 0))), (7, .rp (some (z.q.d, 0))), (8, .int .i64 (z.x.i : Int)), (10, .tt), (19, .ptr 13 0), (20, .bool z.w), (21, .ptr 14 0), (22, .bool z.w)], [(14, .cells 29 (Ent.enc z.e)), (13, .cells 29 (Ent.enc z.e)), (1, .pool z.x.p1), (2, .pool z.x.p2), (0, .ro Kd.three z.q.l)], 15, 222, TQP⟩
def F23 (q : P6) (x : X6) : St V := ⟨[(1, .sl false 0 0 3 q.l.length q.c), (5, .tt), (6, .rp (some (q.b, 0))), (7, .rp (some (q.d, 0))), (8, .int .i64 (x.i : Int)), (188, .ff)], [(1, .pool x.p1), (2, .pool x.p2), (0, .ro Kd.three q.l)], 13, 222, TQP⟩
def L23 : LoopS V := trimLoop (trimSt [1, 5, 6, 7, 8, 10, 19, 20, 21, 22] [0, 1, 2, 5, 7, 9, 11]) (loopH 13 R23 (fun _ (_ : Unit) => True) (fun z _ => F23 z.q z.x))
noncomputable def cfgJ1 : Cfg Try.prog V := ⟨tab, kinds, fun _ => none, hooksJ, fun f id => match f, id with | 6, 1000016 => some L16 | 6, 1000020 => some L20 | 6, 1000023 => some L23 | _, _ => none⟩
structure J6 (q : P6) (x : X6) : Prop where
  le : x.i ≤ q.l.length
  ex : ∃ (t : TM) (L : RL), TT x.p1 [(q.b, t)] ∧ RAt x.p2 q.d L t ∧ t.len ≤ x.i
structure P6s where
  q : P6
  p1 : Pool
  p2 : Pool
  h : J6 q ⟨0, p1, p2⟩
def L6 : LoopS V := trimLoop (trimSt [1, 5, 6, 7, 8] [0, 1, 2]) (loopH 3 (fun q : P6s => SJ q.q ⟨0, q.p1, q.p2⟩) (fun q (x : X6) => J6 q.q x) (fun q x => SJ q.q x))
structure P63 where
  b : Nat
  d : Nat
  p1 : Pool
  p2 : Pool
  n : Nat
  sp : Nat
  sm : Bool
  hn : n ≤ 1000000
structure X63 where
  i : Nat
  ys : List Ent
def SW (q : P63) (x : X63) : St V := ⟨[(5, .tt), (6, .rp (some (q.b, 0))), (7, .rp (some (q.d, 0))), (23, .sl false 3 0 4 q.n (q.n + q.sp)), (24, .bool q.sm), (25, .int .i64 (x.i : Int))], [(3, .arr 29 Kd.ent x.ys q.sp), (1, .pool q.p1), (2, .pool q.p2)], 5, 222, TQP⟩
structure JW (q : P63) (x : X63) : Prop where
  le : x.i ≤ q.n
  yl : x.ys.length = q.n
structure P63s where
  q : P63
  ys : List Ent
  h : JW q ⟨0, ys⟩
def LW : LoopS V := trimLoop (trimSt [5, 6, 7, 23, 24, 25] [1, 2, 3]) (loopH 5 (fun q : P63s => SW q.q ⟨0, q.ys⟩) (fun q (x : X63) => True) (fun q x => SW q.q x))
noncomputable def cfgJ2 : Cfg Try.prog V := ⟨tab, kinds, fun _ => none, hooksJ, fun f id => match f, id with | 6, 0 => some L6 | 6, 3 => some LW | _, _ => none⟩
theorem tr16 (z : R6) : runCode cfgJ 60 6 (regOf Try.f6 16) (R16 z) (stopT (trimSt [1, 5, 6, 7, 8, 10] [0, 1, 2])) = Out.ite (z.e.key == z.e.key && (z.e.value == z.e.value && (z.e.weight == z.e.weight && (z.e.node == z.e.node && true)))) (Out.stop EX.nx {env := [((1 : Nat), .sl false (0 : Nat) (0 : Nat) (3 : Nat) z.q.l.length z.q.2), ((5 : Nat), .tt), ((6 : Nat), AV.rp (some (z.q.3, (0 : Nat)))), ((7 : Nat), AV.rp (some (z.q.4, (0 : Nat)))), ((8 : Nat), .int .i64 (↑z.x.1 : Int)), ((10 : Nat), .bool (z.w == z.w))], heap := [((1 : Nat), Blk.pool z.x.p1), ((2 : Nat), Blk.pool z.x.p2), ((0 : Nat), .ro Kd.three z.q.l)], nx := (9 : Nat), nt := (222 : Nat), tl := [(7 : Nat), (5 : Nat), (0 : Nat), (1 : Nat), (2 : Nat), (3 : Nat), (4 : Nat), (5 : Nat), (6 : Nat), (7 : Nat), (8 : Nat), (9 : Nat), (10 : Nat), (11 : Nat), (12 : Nat), (13 : Nat), (14 : Nat), (15 : Nat), (16 : Nat), (17 : Nat), (18 : Nat), (19 : Nat), (20 : Nat), (21 : Nat), (22 : Nat), (23 : Nat), (24 : Nat), (25 : Nat), (26 : Nat), (27 : Nat), (28 : Nat), (29 : Nat), (30 : Nat), (31 : Nat), (32 : Nat), (33 : Nat), (34 : Nat), (35 : Nat), (36 : Nat), (37 : Nat), (38 : Nat), (39 : Nat), (40 : Nat)] : St V }) (Out.stop EX.nx {env := [((1 : Nat), .sl false (0 : Nat) (0 : Nat) (3 : Nat) z.q.l.length z.q.2), ((5 : Nat), .tt), ((6 : Nat), AV.rp (some (z.q.3, (0 : Nat)))), ((7 : Nat), AV.rp (some (z.q.4, (0 : Nat)))), ((8 : Nat), .int .i64 (↑z.x.1 : Int)), ((10 : Nat), .ff)], heap := [((1 : Nat), Blk.pool z.x.p1), ((2 : Nat), Blk.pool z.x.p2), ((0 : Nat), .ro Kd.three z.q.l)], nx := (9 : Nat), nt := (222 : Nat), tl := [(7 : Nat), (5 : Nat), (0 : Nat), (1 : Nat), (2 : Nat), (3 : Nat), (4 : Nat), (5 : Nat), (6 : Nat), (7 : Nat), (8 : Nat), (9 : Nat), (10 : Nat), (11 : Nat), (12 : Nat), (13 : Nat), (14 : Nat), (15 : Nat), (16 : Nat), (17 : Nat), (18 : Nat), (19 : Nat), (20 : Nat), (21 : Nat), (22 : Nat), (23 : Nat), (24 : Nat), (25 : Nat), (26 : Nat), (27 : Nat), (28 : Nat), (29 : Nat), (30 : Nat), (31 : Nat), (32 : Nat), (33 : Nat), (34 : Nat), (35 : Nat), (36 : Nat), (37 : Nat), (38 : Nat), (39 : Nat), (40 : Nat)] : St V }) := by kernel_rfl

theorem tr20 (z : R6) : runCode cfgJ 60 6 (regOf Try.f6 20) (R20 z) (stopT (trimSt [1, 5, 6, 7, 8, 10] [0, 1, 2])) = Out.ite (z.e.key == z.e.key && (z.e.value == z.e.value && (z.e.weight == z.e.weight && (z.e.node == z.e.node && true)))) (Out.stop EX.nx {env := [((1 : Nat), .sl false (0 : Nat) (0 : Nat) (3 : Nat) z.q.l.length z.q.2), ((5 : Nat), .tt), ((6 : Nat), AV.rp (some (z.q.3, (0 : Nat)))), ((7 : Nat), AV.rp (some (z.q.4, (0 : Nat)))), ((8 : Nat), .int .i64 (↑z.x.1 : Int)), ((10 : Nat), .bool (z.w == z.w))], heap := [((1 : Nat), Blk.pool z.x.p1), ((2 : Nat), Blk.pool z.x.p2), ((0 : Nat), .ro Kd.three z.q.l)], nx := (9 : Nat), nt := (222 : Nat), tl := [(7 : Nat), (5 : Nat), (0 : Nat), (1 : Nat), (2 : Nat), (3 : Nat), (4 : Nat), (5 : Nat), (6 : Nat), (7 : Nat), (8 : Nat), (9 : Nat), (10 : Nat), (11 : Nat), (12 : Nat), (13 : Nat), (14 : Nat), (15 : Nat), (16 : Nat), (17 : Nat), (18 : Nat), (19 : Nat), (20 : Nat), (21 : Nat), (22 : Nat), (23 : Nat), (24 : Nat), (25 : Nat), (26 : Nat), (27 : Nat), (28 : Nat), (29 : Nat), (30 : Nat), (31 : Nat), (32 : Nat), (33 : Nat), (34 : Nat), (35 : Nat), (36 : Nat), (37 : Nat), (38 : Nat), (39 : Nat), (40 : Nat)] : St V }) (Out.stop EX.nx {env := [((1 : Nat), .sl false (0 : Nat) (0 : Nat) (3 : Nat) z.q.l.length z.q.2), ((5 : Nat), .tt), ((6 : Nat), AV.rp (some (z.q.3, (0 : Nat)))), ((7 : Nat), AV.rp (some (z.q.4, (0 : Nat)))), ((8 : Nat), .int .i64 (↑z.x.1 : Int)), ((10 : Nat), .ff)], heap := [((1 : Nat), Blk.pool z.x.p1), ((2 : Nat), Blk.pool z.x.p2), ((0 : Nat), .ro Kd.three z.q.l)], nx := (9 : Nat), nt := (222 : Nat), tl := [(7 : Nat), (5 : Nat), (0 : Nat), (1 : Nat), (2 : Nat), (3 : Nat), (4 : Nat), (5 : Nat), (6 : Nat), (7 : Nat), (8 : Nat), (9 : Nat), (10 : Nat), (11 : Nat), (12 : Nat), (13 : Nat), (14 : Nat), (15 : Nat), (16 : Nat), (17 : Nat), (18 : Nat), (19 : Nat), (20 : Nat), (21 : Nat), (22 : Nat), (23 : Nat), (24 : Nat), (25 : Nat), (26 : Nat), (27 : Nat), (28 : Nat), (29 : Nat), (30 : Nat), (31 : Nat), (32 : Nat), (33 : Nat), (34 : Nat), (35 : Nat), (36 : Nat), (37 : Nat), (38 : Nat), (39 : Nat), (40 : Nat)] : St V }) := by kernel_rfl

theorem tr23 (z : R6b) : runCode cfgJ 60 6 (regOf Try.f6 23) (R23 z) (stopT (trimSt [1, 5, 6, 7, 8, 188] [0, 1, 2])) = Out.ite (!(z.e.key == z.e.key && (z.e.value == z.e.value && (z.e.weight == z.e.weight && (z.e.node == z.e.node && true))))) (Out.stop EX.nx {env := [((1 : Nat), .sl false (0 : Nat) (0 : Nat) (3 : Nat) z.q.l.length z.q.2), ((5 : Nat), .tt), ((6 : Nat), AV.rp (some (z.q.3, (0 : Nat)))), ((7 : Nat), AV.rp (some (z.q.4, (0 : Nat)))), ((8 : Nat), .int .i64 (↑z.x.1 : Int)), ((188 : Nat), .tt)], heap := [((1 : Nat), Blk.pool z.x.p1), ((2 : Nat), Blk.pool z.x.p2), ((0 : Nat), .ro Kd.three z.q.l)], nx := (15 : Nat), nt := (222 : Nat), tl := [(14 : Nat), (13 : Nat), (0 : Nat), (1 : Nat), (2 : Nat), (3 : Nat), (4 : Nat), (5 : Nat), (6 : Nat), (7 : Nat), (8 : Nat), (9 : Nat), (10 : Nat), (11 : Nat), (12 : Nat), (13 : Nat), (14 : Nat), (15 : Nat), (16 : Nat), (17 : Nat), (18 : Nat), (19 : Nat), (20 : Nat), (21 : Nat), (22 : Nat), (23 : Nat), (24 : Nat), (25 : Nat), (26 : Nat), (27 : Nat), (28 : Nat), (29 : Nat), (30 : Nat), (31 : Nat), (32 : Nat), (33 : Nat), (34 : Nat), (35 : Nat), (36 : Nat), (37 : Nat), (38 : Nat), (39 : Nat), (40 : Nat)] : St V }) (Out.ite (!z.w == z.w) (Out.stop EX.nx {env := [((1 : Nat), .sl false (0 : Nat) (0 : Nat) (3 : Nat) z.q.l.length z.q.2), ((5 : Nat), .tt), ((6 : Nat), AV.rp (some (z.q.3, (0 : Nat)))), ((7 : Nat), AV.rp (some (z.q.4, (0 : Nat)))), ((8 : Nat), .int .i64 (↑z.x.1 : Int)), ((188 : Nat), .tt)], heap := [((1 : Nat), Blk.pool z.x.p1), ((2 : Nat), Blk.pool z.x.p2), ((0 : Nat), .ro Kd.three z.q.l)], nx := (15 : Nat), nt := (222 : Nat), tl := [(14 : Nat), (13 : Nat), (0 : Nat), (1 : Nat), (2 : Nat), (3 : Nat), (4 : Nat), (5 : Nat), (6 : Nat), (7 : Nat), (8 : Nat), (9 : Nat), (10 : Nat), (11 : Nat), (12 : Nat), (13 : Nat), (14 : Nat), (15 : Nat), (16 : Nat), (17 : Nat), (18 : Nat), (19 : Nat), (20 : Nat), (21 : Nat), (22 : Nat), (23 : Nat), (24 : Nat), (25 : Nat), (26 : Nat), (27 : Nat), (28 : Nat), (29 : Nat), (30 : Nat), (31 : Nat), (32 : Nat), (33 : Nat), (34 : Nat), (35 : Nat), (36 : Nat), (37 : Nat), (38 : Nat), (39 : Nat), (40 : Nat)] : St V }) (Out.ex (Tbs × Nat) fun y => Out.need (TIn z.x.p1 y (some (z.q.3, (0 : Nat)))) (Out.ex RZ fun y_1 => Out.need (RIn z.x.p2 y_1 (some (z.q.4, (0 : Nat))) ∧ y_1.snd.snd.Good ∧ y_1.snd.snd.5 ≤ (1000000 : Nat)) (Out.ite ((fun t => (↑t.5 : Int)) (Tbs.at y).snd != (↑y_1.snd.snd.5 : Int)) (Out.stop EX.nx {env := [((1 : Nat), .sl false (0 : Nat) (0 : Nat) (3 : Nat) z.q.l.length z.q.2), ((5 : Nat), .tt), ((6 : Nat), AV.rp (some (z.q.3, (0 : Nat)))), ((7 : Nat), AV.rp (some (z.q.4, (0 : Nat)))), ((8 : Nat), .int .i64 (↑z.x.1 : Int)), ((188 : Nat), .tt)], heap := [((1 : Nat), Blk.pool z.x.p1), ((2 : Nat), Blk.pool z.x.p2), ((0 : Nat), .ro Kd.three z.q.l)], nx := (15 : Nat), nt := (222 : Nat), tl := [(14 : Nat), (13 : Nat), (1 : Nat), (0 : Nat), (1 : Nat), (2 : Nat), (3 : Nat), (4 : Nat), (5 : Nat), (6 : Nat), (7 : Nat), (8 : Nat), (9 : Nat), (10 : Nat), (11 : Nat), (12 : Nat), (13 : Nat), (14 : Nat), (15 : Nat), (16 : Nat), (17 : Nat), (18 : Nat), (19 : Nat), (20 : Nat), (21 : Nat), (22 : Nat), (23 : Nat), (24 : Nat), (25 : Nat), (26 : Nat), (27 : Nat), (28 : Nat), (29 : Nat), (30 : Nat), (31 : Nat), (32 : Nat), (33 : Nat), (34 : Nat), (35 : Nat), (36 : Nat), (37 : Nat), (38 : Nat), (39 : Nat), (40 : Nat)] : St V }) (Out.need ((some (z.q.4, (0 : Nat))).isSome = true) (Out.need ((some (z.q.4, (0 : Nat))).isSome = true) (Out.ex Bool fun y => Out.ite y (Out.ex (Option (Nat × Nat)) fun y => Out.ex Nat fun y_2 => Out.ex Nat fun y_3 => Out.need (z.x.p1.at (shiftA (some (z.q.4, (0 : Nat))) (0 : Nat)) [PD.sl y y_2 y_3]) (Out.ex (Tbs × Nat) fun y => Out.need (TIn z.x.p1 y (some (z.q.3, (0 : Nat)))) (Out.bad (224 : Nat)))) (Out.ex (Option (Nat × Nat)) fun y => Out.ex Nat fun y_2 => Out.ex Nat fun y_3 => Out.need (z.x.p2.at (shiftA (some (z.q.4, (0 : Nat))) (0 : Nat)) [PD.sl y y_2 y_3]) (Out.ex (Tbs × Nat) fun y => Out.need (TIn z.x.p1 y (some (z.q.3, (0 : Nat)))) (Out.ite ((fun t => (↑t.B.length : Int)) (Tbs.at y).snd != (↑y_2 : Int)) (Out.stop EX.nx {env := [((1 : Nat), .sl false (0 : Nat) (0 : Nat) (3 : Nat) z.q.l.length z.q.2), ((5 : Nat), .tt), ((6 : Nat), AV.rp (some (z.q.3, (0 : Nat)))), ((7 : Nat), AV.rp (some (z.q.4, (0 : Nat)))), ((8 : Nat), .int .i64 (↑z.x.1 : Int)), ((188 : Nat), .tt)], heap := [((1 : Nat), Blk.pool z.x.p1), ((2 : Nat), Blk.pool z.x.p2), ((0 : Nat), .ro Kd.three z.q.l)], nx := (15 : Nat), nt := (222 : Nat), tl := [(14 : Nat), (13 : Nat), (1 : Nat), (1 : Nat), (0 : Nat), (1 : Nat), (2 : Nat), (3 : Nat), (4 : Nat), (5 : Nat), (6 : Nat), (7 : Nat), (8 : Nat), (9 : Nat), (10 : Nat), (11 : Nat), (12 : Nat), (13 : Nat), (14 : Nat), (15 : Nat), (16 : Nat), (17 : Nat), (18 : Nat), (19 : Nat), (20 : Nat), (21 : Nat), (22 : Nat), (23 : Nat), (24 : Nat), (25 : Nat), (26 : Nat), (27 : Nat), (28 : Nat), (29 : Nat), (30 : Nat), (31 : Nat), (32 : Nat), (33 : Nat), (34 : Nat), (35 : Nat), (36 : Nat), (37 : Nat), (38 : Nat), (39 : Nat), (40 : Nat)] : St V }) (Out.ex (Tbs × Nat) fun y => Out.need (TIn z.x.p1 y (some (z.q.3, (0 : Nat)))) (Out.ex RZ fun y_4 => Out.need (RIn z.x.p2 y_4 (some (z.q.4, (0 : Nat)))) (Out.ite ((fun t => (↑t.left : Int)) (Tbs.at y).snd != (↑y_4.snd.snd.left : Int)) (Out.stop EX.nx {env := [((1 : Nat), .sl false (0 : Nat) (0 : Nat) (3 : Nat) z.q.l.length z.q.2), ((5 : Nat), .tt), ((6 : Nat), AV.rp (some (z.q.3, (0 : Nat)))), ((7 : Nat), AV.rp (some (z.q.4, (0 : Nat)))), ((8 : Nat), .int .i64 (↑z.x.1 : Int)), ((188 : Nat), .tt)], heap := [((1 : Nat), Blk.pool z.x.p1), ((2 : Nat), Blk.pool z.x.p2), ((0 : Nat), .ro Kd.three z.q.l)], nx := (15 : Nat), nt := (222 : Nat), tl := [(14 : Nat), (13 : Nat), (1 : Nat), (1 : Nat), (1 : Nat), (0 : Nat), (1 : Nat), (2 : Nat), (3 : Nat), (4 : Nat), (5 : Nat), (6 : Nat), (7 : Nat), (8 : Nat), (9 : Nat), (10 : Nat), (11 : Nat), (12 : Nat), (13 : Nat), (14 : Nat), (15 : Nat), (16 : Nat), (17 : Nat), (18 : Nat), (19 : Nat), (20 : Nat), (21 : Nat), (22 : Nat), (23 : Nat), (24 : Nat), (25 : Nat), (26 : Nat), (27 : Nat), (28 : Nat), (29 : Nat), (30 : Nat), (31 : Nat), (32 : Nat), (33 : Nat), (34 : Nat), (35 : Nat), (36 : Nat), (37 : Nat), (38 : Nat), (39 : Nat), (40 : Nat)] : St V }) (Out.ex (Tbs × Nat) fun y => Out.need (TIn z.x.p1 y (some (z.q.3, (0 : Nat)))) (Out.all Nat fun y_5 => Out.ex RZ fun y_6 => Out.need (RIn z.x.p2 y_6 (some (z.q.4, (0 : Nat))) ∧ ∀ (i : Nat), (y_6.snd.snd.B.getD i []).length ≤ (1000000 : Nat)) (Out.all Nat fun y_7 => Out.need ((0 : Nat) + ((Tbs.at y).snd.chainKeys (bitsOp BinOp.and .i64 (↑z.x.1 : Int) (31 : Int))).length ≤ ((Tbs.at y).snd.chainKeys (bitsOp BinOp.and .i64 (↑z.x.1 : Int) (31 : Int))).length) (Out.need ((0 : Nat) + (y_6.snd.snd.chainKeys (bitsOp BinOp.and .i64 (↑z.x.1 : Int) (31 : Int))).length ≤ (y_6.snd.snd.chainKeys (bitsOp BinOp.and .i64 (↑z.x.1 : Int) (31 : Int))).length) (Out.need ((List.take ((Tbs.at y).snd.chainKeys (bitsOp BinOp.and .i64 (↑z.x.1 : Int) (31 : Int))).length (List.drop (0 : Nat) ((Tbs.at y).snd.chainKeys (bitsOp BinOp.and .i64 (↑z.x.1 : Int) (31 : Int))))).length ≤ (1099511627776 : Nat)) (Out.stop EX.nx {env := [((1 : Nat), .sl false (0 : Nat) (0 : Nat) (3 : Nat) z.q.l.length z.q.2), ((5 : Nat), .tt), ((6 : Nat), AV.rp (some (z.q.3, (0 : Nat)))), ((7 : Nat), AV.rp (some (z.q.4, (0 : Nat)))), ((8 : Nat), .int .i64 (↑z.x.1 : Int)), ((188 : Nat), .bool !decide (List.take ((Tbs.at y).snd.chainKeys (bitsOp BinOp.and .i64 (↑z.x.1 : Int) (31 : Int))).length (List.drop (0 : Nat) ((Tbs.at y).snd.chainKeys (bitsOp BinOp.and .i64 (↑z.x.1 : Int) (31 : Int)))) = List.take (y_6.snd.snd.chainKeys (bitsOp BinOp.and .i64 (↑z.x.1 : Int) (31 : Int))).length (List.drop (0 : Nat) (y_6.snd.snd.chainKeys (bitsOp BinOp.and .i64 (↑z.x.1 : Int) (31 : Int))))))], heap := [((1 : Nat), Blk.pool z.x.p1), ((2 : Nat), Blk.pool z.x.p2), ((0 : Nat), .ro Kd.three z.q.l)], nx := (17 : Nat), nt := (222 : Nat), tl := [(16 : Nat), (15 : Nat), (14 : Nat), (13 : Nat), (1 : Nat), (1 : Nat), (1 : Nat), (1 : Nat), (0 : Nat), (1 : Nat), (2 : Nat), (3 : Nat), (4 : Nat), (5 : Nat), (6 : Nat), (7 : Nat), (8 : Nat), (9 : Nat), (10 : Nat), (11 : Nat), (12 : Nat), (13 : Nat), (14 : Nat), (15 : Nat), (16 : Nat), (17 : Nat), (18 : Nat), (19 : Nat), (20 : Nat), (21 : Nat), (22 : Nat), (23 : Nat), (24 : Nat), (25 : Nat), (26 : Nat), (27 : Nat), (28 : Nat), (29 : Nat), (30 : Nat), (31 : Nat), (32 : Nat), (33 : Nat), (34 : Nat), (35 : Nat), (36 : Nat), (37 : Nat), (38 : Nat), (39 : Nat), (40 : Nat)] : St V }))))))))))))))))))) := by kernel_rfl

theorem tb6 (q : P6) (x : X6) : runCode cfgJ1 60 6 (loopOf Try.f6 0) (SJ q x) (stopT (trimSt [1, 5, 6, 7, 8] [0, 1, 2])) = Out.ite (decide ((↑x.1 : Int) < (↑q.l.length : Int))) (Out.need ((0 : Int) ≤ (↑x.1 : Int) ∧ (↑x.1 : Int) < (↑q.l.length : Int)) (Out.need ((0 : Nat) + x.1 < q.l.length) (Out.need ((0 : Int) ≤ (↑x.1 : Int) ∧ (↑x.1 : Int) < (↑q.l.length : Int)) (Out.need ((0 : Nat) + x.1 < q.l.length) (Out.need ((0 : Int) ≤ (↑x.1 : Int) ∧ (↑x.1 : Int) < (↑q.l.length : Int)) (Out.need ((0 : Nat) + x.1 < q.l.length) (Out.ite (bitsOp BinOp.and .i64 (q.l.getD ((0 : Nat) + x.1) (V.enc Kd.three).dflt).a (3 : Int) == (0 : Int)) (Out.ite (bitsOp BinOp.and .i64 (q.l.getD ((0 : Nat) + x.1) (V.enc Kd.three).dflt).a (3 : Int) == (0 : Int)) (Out.ex (Tbs × Nat) fun y => Out.need (TIn x.p1 y (some (q.3, (0 : Nat))) ∧ (Tbs.at y).snd.len < (1000000 : Nat)) (Out.all Pool fun y_1 => Out.asm (TT y_1 (Tbs.put y ((Tbs.at y).snd.put {key := (q.l.getD ((0 : Nat) + x.1) (V.enc Kd.three).dflt).b, value := (q.l.getD ((0 : Nat) + x.1) (V.enc Kd.three).dflt).c, weight := (↑x.1 : Int), node := (↑x.1 : Int) : Ent }))) (Out.ex RZ fun y_2 => Out.need (RIn x.p2 y_2 (some (q.4, (0 : Nat))) ∧ y_2.snd.snd.Good ∧ y_2.snd.snd.5 < (1000000 : Nat)) (Out.all (Pool × RL) fun y_3 => Out.asm (RAt y_3.fst y_2.1 y_3.snd (y_2.snd.snd.put {key := (q.l.getD ((0 : Nat) + x.1) (V.enc Kd.three).dflt).b, value := (q.l.getD ((0 : Nat) + x.1) (V.enc Kd.three).dflt).c, weight := (↑x.1 : Int), node := (↑x.1 : Int) : Ent })) (Out.need (RegFor Try.prog (6 : Nat) (nat_lit 16) (regOf Try.f6 (nat_lit 16)) L16) (Out.ex (R6 → Prop) fun y_4 => Out.need ((9 : Nat) ≤ (9 : Nat) ∧ SImp (9 : Nat) {env := [((1 : Nat), .sl false (0 : Nat) (0 : Nat) (3 : Nat) q.l.length q.2), ((5 : Nat), .tt), ((6 : Nat), AV.rp (some (q.3, (0 : Nat)))), ((7 : Nat), AV.rp (some (q.4, (0 : Nat)))), ((8 : Nat), .int .i64 (↑x.1 : Int)), ((11 : Nat), .ptr (5 : Nat) (0 : Nat)), ((12 : Nat), .bool ((Tbs.at y).snd.get {key := (q.l.getD ((0 : Nat) + x.1) (V.enc Kd.three).dflt).b, value := (q.l.getD ((0 : Nat) + x.1) (V.enc Kd.three).dflt).c, weight := (↑x.1 : Int), node := (↑x.1 : Int) : Ent }.key).isSome), ((13 : Nat), .ptr (7 : Nat) (0 : Nat)), ((14 : Nat), .bool (y_2.snd.snd.get {key := (q.l.getD ((0 : Nat) + x.1) (V.enc Kd.three).dflt).b, value := (q.l.getD ((0 : Nat) + x.1) (V.enc Kd.three).dflt).c, weight := (↑x.1 : Int), node := (↑x.1 : Int) : Ent }.key).isSome)], heap := [((7 : Nat), .cells (29 : Nat) [.int .i64 ((y_2.snd.snd.get {key := (q.l.getD ((0 : Nat) + x.1) (V.enc Kd.three).dflt).b, value := (q.l.getD ((0 : Nat) + x.1) (V.enc Kd.three).dflt).c, weight := (↑x.1 : Int), node := (↑x.1 : Int) : Ent }.key).getD e0).key, .int .i64 ((y_2.snd.snd.get {key := (q.l.getD ((0 : Nat) + x.1) (V.enc Kd.three).dflt).b, value := (q.l.getD ((0 : Nat) + x.1) (V.enc Kd.three).dflt).c, weight := (↑x.1 : Int), node := (↑x.1 : Int) : Ent }.key).getD e0).value, .int .i64 ((y_2.snd.snd.get {key := (q.l.getD ((0 : Nat) + x.1) (V.enc Kd.three).dflt).b, value := (q.l.getD ((0 : Nat) + x.1) (V.enc Kd.three).dflt).c, weight := (↑x.1 : Int), node := (↑x.1 : Int) : Ent }.key).getD e0).weight, .int .i64 ((y_2.snd.snd.get {key := (q.l.getD ((0 : Nat) + x.1) (V.enc Kd.three).dflt).b, value := (q.l.getD ((0 : Nat) + x.1) (V.enc Kd.three).dflt).c, weight := (↑x.1 : Int), node := (↑x.1 : Int) : Ent }.key).getD e0).node]), ((5 : Nat), .cells (29 : Nat) [.int .i64 (((Tbs.at y).snd.get {key := (q.l.getD ((0 : Nat) + x.1) (V.enc Kd.three).dflt).b, value := (q.l.getD ((0 : Nat) + x.1) (V.enc Kd.three).dflt).c, weight := (↑x.1 : Int), node := (↑x.1 : Int) : Ent }.key).getD e0).key, .int .i64 (((Tbs.at y).snd.get {key := (q.l.getD ((0 : Nat) + x.1) (V.enc Kd.three).dflt).b, value := (q.l.getD ((0 : Nat) + x.1) (V.enc Kd.three).dflt).c, weight := (↑x.1 : Int), node := (↑x.1 : Int) : Ent }.key).getD e0).value, .int .i64 (((Tbs.at y).snd.get {key := (q.l.getD ((0 : Nat) + x.1) (V.enc Kd.three).dflt).b, value := (q.l.getD ((0 : Nat) + x.1) (V.enc Kd.three).dflt).c, weight := (↑x.1 : Int), node := (↑x.1 : Int) : Ent }.key).getD e0).weight, .int .i64 (((Tbs.at y).snd.get {key := (q.l.getD ((0 : Nat) + x.1) (V.enc Kd.three).dflt).b, value := (q.l.getD ((0 : Nat) + x.1) (V.enc Kd.three).dflt).c, weight := (↑x.1 : Int), node := (↑x.1 : Int) : Ent }.key).getD e0).node]), ((1 : Nat), Blk.pool y_1), ((2 : Nat), Blk.pool y_3.fst), ((0 : Nat), .ro Kd.three q.l)], nx := (9 : Nat), nt := (222 : Nat), tl := [(3 : Nat), (7 : Nat), (2 : Nat), (5 : Nat), (1 : Nat), (3 : Nat), (0 : Nat), (1 : Nat), (2 : Nat), (3 : Nat), (4 : Nat), (5 : Nat), (6 : Nat), (7 : Nat), (8 : Nat), (9 : Nat), (10 : Nat), (11 : Nat), (12 : Nat), (13 : Nat), (14 : Nat), (15 : Nat), (16 : Nat), (17 : Nat), (18 : Nat), (19 : Nat), (20 : Nat), (21 : Nat), (22 : Nat), (23 : Nat), (24 : Nat), (25 : Nat), (26 : Nat), (27 : Nat), (28 : Nat), (29 : Nat), (30 : Nat), (31 : Nat), (32 : Nat), (33 : Nat), (34 : Nat), (35 : Nat), (36 : Nat), (37 : Nat), (38 : Nat), (39 : Nat), (40 : Nat)] : St V } R16 y_4) (Out.all R6 fun y => Out.asm (y_4 y) (Out.all Unit fun y_5 => Out.asm ((fun x x_1 => True) y y_5) (Out.need ((0 : Int) ≤ (↑y.x.1 : Int) ∧ (↑y.x.1 : Int) < (↑y.q.l.length : Int)) (Out.need ((0 : Nat) + y.x.1 < y.q.l.length) (Out.ex (Tbs × Nat) fun y_6 => Out.need (TIn y.x.p1 y_6 (some (y.q.3, (0 : Nat)))) (Out.need ((0 : Int) ≤ (↑y.x.1 : Int) ∧ (↑y.x.1 : Int) < (↑y.q.l.length : Int)) (Out.need ((0 : Nat) + y.x.1 < y.q.l.length) (Out.ex RZ fun y_7 => Out.need (RIn y.x.p2 y_7 (some (y.q.4, (0 : Nat))) ∧ (y_7.snd.snd.chain (y.q.l.getD ((0 : Nat) + y.x.1) (V.enc Kd.three).dflt).c).length ≤ (1000000 : Nat)) (Out.need (RegFor Try.prog (6 : Nat) (nat_lit 23) (regOf Try.f6 (nat_lit 23)) L23) (Out.ex (R6b → Prop) fun y_8 => Out.need ((13 : Nat) ≤ (13 : Nat) ∧ SImp (13 : Nat) {env := [((1 : Nat), .sl false (0 : Nat) (0 : Nat) (3 : Nat) y.q.l.length y.q.2), ((5 : Nat), .tt), ((6 : Nat), AV.rp (some (y.q.3, (0 : Nat)))), ((7 : Nat), AV.rp (some (y.q.4, (0 : Nat)))), ((8 : Nat), .int .i64 (↑y.x.1 : Int)), ((10 : Nat), .tt), ((19 : Nat), .ptr (9 : Nat) (0 : Nat)), ((20 : Nat), .bool ((Tbs.at y_6).snd.get (y.q.l.getD ((0 : Nat) + y.x.1) (V.enc Kd.three).dflt).c).isSome), ((21 : Nat), .ptr (11 : Nat) (0 : Nat)), ((22 : Nat), .bool (y_7.snd.snd.get (y.q.l.getD ((0 : Nat) + y.x.1) (V.enc Kd.three).dflt).c).isSome)], heap := [((11 : Nat), .cells (29 : Nat) [.int .i64 ((y_7.snd.snd.get (y.q.l.getD ((0 : Nat) + y.x.1) (V.enc Kd.three).dflt).c).getD e0).key, .int .i64 ((y_7.snd.snd.get (y.q.l.getD ((0 : Nat) + y.x.1) (V.enc Kd.three).dflt).c).getD e0).value, .int .i64 ((y_7.snd.snd.get (y.q.l.getD ((0 : Nat) + y.x.1) (V.enc Kd.three).dflt).c).getD e0).weight, .int .i64 ((y_7.snd.snd.get (y.q.l.getD ((0 : Nat) + y.x.1) (V.enc Kd.three).dflt).c).getD e0).node]), ((9 : Nat), .cells (29 : Nat) [.int .i64 (((Tbs.at y_6).snd.get (y.q.l.getD ((0 : Nat) + y.x.1) (V.enc Kd.three).dflt).c).getD e0).key, .int .i64 (((Tbs.at y_6).snd.get (y.q.l.getD ((0 : Nat) + y.x.1) (V.enc Kd.three).dflt).c).getD e0).value, .int .i64 (((Tbs.at y_6).snd.get (y.q.l.getD ((0 : Nat) + y.x.1) (V.enc Kd.three).dflt).c).getD e0).weight, .int .i64 (((Tbs.at y_6).snd.get (y.q.l.getD ((0 : Nat) + y.x.1) (V.enc Kd.three).dflt).c).getD e0).node]), ((1 : Nat), Blk.pool y.x.p1), ((2 : Nat), Blk.pool y.x.p2), ((0 : Nat), .ro Kd.three y.q.l)], nx := (13 : Nat), nt := (222 : Nat), tl := [(11 : Nat), (9 : Nat), (1 : Nat), (0 : Nat), (1 : Nat), (2 : Nat), (3 : Nat), (4 : Nat), (5 : Nat), (6 : Nat), (7 : Nat), (8 : Nat), (9 : Nat), (10 : Nat), (11 : Nat), (12 : Nat), (13 : Nat), (14 : Nat), (15 : Nat), (16 : Nat), (17 : Nat), (18 : Nat), (19 : Nat), (20 : Nat), (21 : Nat), (22 : Nat), (23 : Nat), (24 : Nat), (25 : Nat), (26 : Nat), (27 : Nat), (28 : Nat), (29 : Nat), (30 : Nat), (31 : Nat), (32 : Nat), (33 : Nat), (34 : Nat), (35 : Nat), (36 : Nat), (37 : Nat), (38 : Nat), (39 : Nat), (40 : Nat)] : St V } R23 y_8) (Out.all R6b fun y => Out.asm (y_8 y) (Out.all Unit fun y_9 => Out.asm ((fun x x_1 => True) y y_9) (Out.stop EX.nx {env := [((1 : Nat), .sl false (0 : Nat) (0 : Nat) (3 : Nat) y.q.l.length y.q.2), ((5 : Nat), .tt), ((6 : Nat), AV.rp (some (y.q.3, (0 : Nat)))), ((7 : Nat), AV.rp (some (y.q.4, (0 : Nat)))), ((8 : Nat), .int .i64 (IntKind.i64.wrap ((↑y.x.1 : Int) + (1 : Int))))], heap := [((1 : Nat), Blk.pool y.x.p1), ((2 : Nat), Blk.pool y.x.p2), ((0 : Nat), .ro Kd.three y.q.l)], nx := (13 : Nat), nt := (222 : Nat), tl := [(0 : Nat), (1 : Nat), (2 : Nat), (3 : Nat), (4 : Nat), (5 : Nat), (6 : Nat), (7 : Nat), (8 : Nat), (9 : Nat), (10 : Nat), (11 : Nat), (12 : Nat), (13 : Nat), (14 : Nat), (15 : Nat), (16 : Nat), (17 : Nat), (18 : Nat), (19 : Nat), (20 : Nat), (21 : Nat), (22 : Nat), (23 : Nat), (24 : Nat), (25 : Nat), (26 : Nat), (27 : Nat), (28 : Nat), (29 : Nat), (30 : Nat), (31 : Nat), (32 : Nat), (33 : Nat), (34 : Nat), (35 : Nat), (36 : Nat), (37 : Nat), (38 : Nat), (39 : Nat), (40 : Nat)] : St V }))))))))))))))))))) (Out.ite (bitsOp BinOp.and .i64 (q.l.getD ((0 : Nat) + x.1) (V.enc Kd.three).dflt).a (3 : Int) == (2 : Int)) (Out.need ((0 : Int) ≤ (↑x.1 : Int) ∧ (↑x.1 : Int) < (↑q.l.length : Int)) (Out.need ((0 : Nat) + x.1 < q.l.length) (Out.ex (Tbs × Nat) fun y => Out.need (TIn x.p1 y (some (q.3, (0 : Nat)))) (Out.all Pool fun y_1 => Out.asm (TT y_1 (Tbs.put y ((Tbs.at y).snd.remove (q.l.getD ((0 : Nat) + x.1) (V.enc Kd.three).dflt).b))) (Out.need ((0 : Int) ≤ (↑x.1 : Int) ∧ (↑x.1 : Int) < (↑q.l.length : Int)) (Out.need ((0 : Nat) + x.1 < q.l.length) (Out.ex RZ fun y_2 => Out.need (RIn x.p2 y_2 (some (q.4, (0 : Nat))) ∧ y_2.snd.snd.Good ∧ y_2.snd.snd.5 ≤ (1000000 : Nat)) (Out.all (Pool × RL) fun y_3 => Out.asm (RAt y_3.fst y_2.1 y_3.snd (y_2.snd.snd.remove (q.l.getD ((0 : Nat) + x.1) (V.enc Kd.three).dflt).b)) (Out.need (RegFor Try.prog (6 : Nat) (nat_lit 20) (regOf Try.f6 (nat_lit 20)) L20) (Out.ex (R6 → Prop) fun y_4 => Out.need ((9 : Nat) ≤ (9 : Nat) ∧ SImp (9 : Nat) {env := [((1 : Nat), .sl false (0 : Nat) (0 : Nat) (3 : Nat) q.l.length q.2), ((5 : Nat), .tt), ((6 : Nat), AV.rp (some (q.3, (0 : Nat)))), ((7 : Nat), AV.rp (some (q.4, (0 : Nat)))), ((8 : Nat), .int .i64 (↑x.1 : Int)), ((15 : Nat), .ptr (5 : Nat) (0 : Nat)), ((16 : Nat), .bool ((Tbs.at y).snd.get (q.l.getD ((0 : Nat) + x.1) (V.enc Kd.three).dflt).b).isSome), ((17 : Nat), .ptr (7 : Nat) (0 : Nat)), ((18 : Nat), .bool (y_2.snd.snd.get (q.l.getD ((0 : Nat) + x.1) (V.enc Kd.three).dflt).b).isSome)], heap := [((7 : Nat), .cells (29 : Nat) [.int .i64 ((y_2.snd.snd.get (q.l.getD ((0 : Nat) + x.1) (V.enc Kd.three).dflt).b).getD e0).key, .int .i64 ((y_2.snd.snd.get (q.l.getD ((0 : Nat) + x.1) (V.enc Kd.three).dflt).b).getD e0).value, .int .i64 ((y_2.snd.snd.get (q.l.getD ((0 : Nat) + x.1) (V.enc Kd.three).dflt).b).getD e0).weight, .int .i64 ((y_2.snd.snd.get (q.l.getD ((0 : Nat) + x.1) (V.enc Kd.three).dflt).b).getD e0).node]), ((5 : Nat), .cells (29 : Nat) [.int .i64 (((Tbs.at y).snd.get (q.l.getD ((0 : Nat) + x.1) (V.enc Kd.three).dflt).b).getD e0).key, .int .i64 (((Tbs.at y).snd.get (q.l.getD ((0 : Nat) + x.1) (V.enc Kd.three).dflt).b).getD e0).value, .int .i64 (((Tbs.at y).snd.get (q.l.getD ((0 : Nat) + x.1) (V.enc Kd.three).dflt).b).getD e0).weight, .int .i64 (((Tbs.at y).snd.get (q.l.getD ((0 : Nat) + x.1) (V.enc Kd.three).dflt).b).getD e0).node]), ((1 : Nat), Blk.pool y_1), ((2 : Nat), Blk.pool y_3.fst), ((0 : Nat), .ro Kd.three q.l)], nx := (9 : Nat), nt := (222 : Nat), tl := [(3 : Nat), (7 : Nat), (2 : Nat), (5 : Nat), (1 : Nat), (3 : Nat), (0 : Nat), (1 : Nat), (2 : Nat), (3 : Nat), (4 : Nat), (5 : Nat), (6 : Nat), (7 : Nat), (8 : Nat), (9 : Nat), (10 : Nat), (11 : Nat), (12 : Nat), (13 : Nat), (14 : Nat), (15 : Nat), (16 : Nat), (17 : Nat), (18 : Nat), (19 : Nat), (20 : Nat), (21 : Nat), (22 : Nat), (23 : Nat), (24 : Nat), (25 : Nat), (26 : Nat), (27 : Nat), (28 : Nat), (29 : Nat), (30 : Nat), (31 : Nat), (32 : Nat), (33 : Nat), (34 : Nat), (35 : Nat), (36 : Nat), (37 : Nat), (38 : Nat), (39 : Nat), (40 : Nat)] : St V } R20 y_4) (Out.all R6 fun y => Out.asm (y_4 y) (Out.all Unit fun y_5 => Out.asm ((fun x x_1 => True) y y_5) (Out.need ((0 : Int) ≤ (↑y.x.1 : Int) ∧ (↑y.x.1 : Int) < (↑y.q.l.length : Int)) (Out.need ((0 : Nat) + y.x.1 < y.q.l.length) (Out.ex (Tbs × Nat) fun y_6 => Out.need (TIn y.x.p1 y_6 (some (y.q.3, (0 : Nat)))) (Out.need ((0 : Int) ≤ (↑y.x.1 : Int) ∧ (↑y.x.1 : Int) < (↑y.q.l.length : Int)) (Out.need ((0 : Nat) + y.x.1 < y.q.l.length) (Out.ex RZ fun y_7 => Out.need (RIn y.x.p2 y_7 (some (y.q.4, (0 : Nat))) ∧ (y_7.snd.snd.chain (y.q.l.getD ((0 : Nat) + y.x.1) (V.enc Kd.three).dflt).c).length ≤ (1000000 : Nat)) (Out.need (RegFor Try.prog (6 : Nat) (nat_lit 23) (regOf Try.f6 (nat_lit 23)) L23) (Out.ex (R6b → Prop) fun y_8 => Out.need ((13 : Nat) ≤ (13 : Nat) ∧ SImp (13 : Nat) {env := [((1 : Nat), .sl false (0 : Nat) (0 : Nat) (3 : Nat) y.q.l.length y.q.2), ((5 : Nat), .tt), ((6 : Nat), AV.rp (some (y.q.3, (0 : Nat)))), ((7 : Nat), AV.rp (some (y.q.4, (0 : Nat)))), ((8 : Nat), .int .i64 (↑y.x.1 : Int)), ((10 : Nat), .tt), ((19 : Nat), .ptr (9 : Nat) (0 : Nat)), ((20 : Nat), .bool ((Tbs.at y_6).snd.get (y.q.l.getD ((0 : Nat) + y.x.1) (V.enc Kd.three).dflt).c).isSome), ((21 : Nat), .ptr (11 : Nat) (0 : Nat)), ((22 : Nat), .bool (y_7.snd.snd.get (y.q.l.getD ((0 : Nat) + y.x.1) (V.enc Kd.three).dflt).c).isSome)], heap := [((11 : Nat), .cells (29 : Nat) [.int .i64 ((y_7.snd.snd.get (y.q.l.getD ((0 : Nat) + y.x.1) (V.enc Kd.three).dflt).c).getD e0).key, .int .i64 ((y_7.snd.snd.get (y.q.l.getD ((0 : Nat) + y.x.1) (V.enc Kd.three).dflt).c).getD e0).value, .int .i64 ((y_7.snd.snd.get (y.q.l.getD ((0 : Nat) + y.x.1) (V.enc Kd.three).dflt).c).getD e0).weight, .int .i64 ((y_7.snd.snd.get (y.q.l.getD ((0 : Nat) + y.x.1) (V.enc Kd.three).dflt).c).getD e0).node]), ((9 : Nat), .cells (29 : Nat) [.int .i64 (((Tbs.at y_6).snd.get (y.q.l.getD ((0 : Nat) + y.x.1) (V.enc Kd.three).dflt).c).getD e0).key, .int .i64 (((Tbs.at y_6).snd.get (y.q.l.getD ((0 : Nat) + y.x.1) (V.enc Kd.three).dflt).c).getD e0).value, .int .i64 (((Tbs.at y_6).snd.get (y.q.l.getD ((0 : Nat) + y.x.1) (V.enc Kd.three).dflt).c).getD e0).weight, .int .i64 (((Tbs.at y_6).snd.get (y.q.l.getD ((0 : Nat) + y.x.1) (V.enc Kd.three).dflt).c).getD e0).node]), ((1 : Nat), Blk.pool y.x.p1), ((2 : Nat), Blk.pool y.x.p2), ((0 : Nat), .ro Kd.three y.q.l)], nx := (13 : Nat), nt := (222 : Nat), tl := [(11 : Nat), (9 : Nat), (1 : Nat), (0 : Nat), (1 : Nat), (2 : Nat), (3 : Nat), (4 : Nat), (5 : Nat), (6 : Nat), (7 : Nat), (8 : Nat), (9 : Nat), (10 : Nat), (11 : Nat), (12 : Nat), (13 : Nat), (14 : Nat), (15 : Nat), (16 : Nat), (17 : Nat), (18 : Nat), (19 : Nat), (20 : Nat), (21 : Nat), (22 : Nat), (23 : Nat), (24 : Nat), (25 : Nat), (26 : Nat), (27 : Nat), (28 : Nat), (29 : Nat), (30 : Nat), (31 : Nat), (32 : Nat), (33 : Nat), (34 : Nat), (35 : Nat), (36 : Nat), (37 : Nat), (38 : Nat), (39 : Nat), (40 : Nat)] : St V } R23 y_8) (Out.all R6b fun y => Out.asm (y_8 y) (Out.all Unit fun y_9 => Out.asm ((fun x x_1 => True) y y_9) (Out.stop EX.nx {env := [((1 : Nat), .sl false (0 : Nat) (0 : Nat) (3 : Nat) y.q.l.length y.q.2), ((5 : Nat), .tt), ((6 : Nat), AV.rp (some (y.q.3, (0 : Nat)))), ((7 : Nat), AV.rp (some (y.q.4, (0 : Nat)))), ((8 : Nat), .int .i64 (IntKind.i64.wrap ((↑y.x.1 : Int) + (1 : Int))))], heap := [((1 : Nat), Blk.pool y.x.p1), ((2 : Nat), Blk.pool y.x.p2), ((0 : Nat), .ro Kd.three y.q.l)], nx := (13 : Nat), nt := (222 : Nat), tl := [(0 : Nat), (1 : Nat), (2 : Nat), (3 : Nat), (4 : Nat), (5 : Nat), (6 : Nat), (7 : Nat), (8 : Nat), (9 : Nat), (10 : Nat), (11 : Nat), (12 : Nat), (13 : Nat), (14 : Nat), (15 : Nat), (16 : Nat), (17 : Nat), (18 : Nat), (19 : Nat), (20 : Nat), (21 : Nat), (22 : Nat), (23 : Nat), (24 : Nat), (25 : Nat), (26 : Nat), (27 : Nat), (28 : Nat), (29 : Nat), (30 : Nat), (31 : Nat), (32 : Nat), (33 : Nat), (34 : Nat), (35 : Nat), (36 : Nat), (37 : Nat), (38 : Nat), (39 : Nat), (40 : Nat)] : St V }))))))))))))))))))))))) (Out.need ((0 : Int) ≤ (↑x.1 : Int) ∧ (↑x.1 : Int) < (↑q.l.length : Int)) (Out.need ((0 : Nat) + x.1 < q.l.length) (Out.ex (Tbs × Nat) fun y => Out.need (TIn x.p1 y (some (q.3, (0 : Nat)))) (Out.need ((0 : Int) ≤ (↑x.1 : Int) ∧ (↑x.1 : Int) < (↑q.l.length : Int)) (Out.need ((0 : Nat) + x.1 < q.l.length) (Out.ex RZ fun y_1 => Out.need (RIn x.p2 y_1 (some (q.4, (0 : Nat))) ∧ (y_1.snd.snd.chain (q.l.getD ((0 : Nat) + x.1) (V.enc Kd.three).dflt).c).length ≤ (1000000 : Nat)) (Out.need (RegFor Try.prog (6 : Nat) (nat_lit 23) (regOf Try.f6 (nat_lit 23)) L23) (Out.ex (R6b → Prop) fun y_2 => Out.need ((9 : Nat) ≤ (13 : Nat) ∧ SImp (13 : Nat) {env := [((1 : Nat), .sl false (0 : Nat) (0 : Nat) (3 : Nat) q.l.length q.2), ((5 : Nat), .tt), ((6 : Nat), AV.rp (some (q.3, (0 : Nat)))), ((7 : Nat), AV.rp (some (q.4, (0 : Nat)))), ((8 : Nat), .int .i64 (↑x.1 : Int)), ((10 : Nat), .tt), ((19 : Nat), .ptr (5 : Nat) (0 : Nat)), ((20 : Nat), .bool ((Tbs.at y).snd.get (q.l.getD ((0 : Nat) + x.1) (V.enc Kd.three).dflt).c).isSome), ((21 : Nat), .ptr (7 : Nat) (0 : Nat)), ((22 : Nat), .bool (y_1.snd.snd.get (q.l.getD ((0 : Nat) + x.1) (V.enc Kd.three).dflt).c).isSome)], heap := [((7 : Nat), .cells (29 : Nat) [.int .i64 ((y_1.snd.snd.get (q.l.getD ((0 : Nat) + x.1) (V.enc Kd.three).dflt).c).getD e0).key, .int .i64 ((y_1.snd.snd.get (q.l.getD ((0 : Nat) + x.1) (V.enc Kd.three).dflt).c).getD e0).value, .int .i64 ((y_1.snd.snd.get (q.l.getD ((0 : Nat) + x.1) (V.enc Kd.three).dflt).c).getD e0).weight, .int .i64 ((y_1.snd.snd.get (q.l.getD ((0 : Nat) + x.1) (V.enc Kd.three).dflt).c).getD e0).node]), ((5 : Nat), .cells (29 : Nat) [.int .i64 (((Tbs.at y).snd.get (q.l.getD ((0 : Nat) + x.1) (V.enc Kd.three).dflt).c).getD e0).key, .int .i64 (((Tbs.at y).snd.get (q.l.getD ((0 : Nat) + x.1) (V.enc Kd.three).dflt).c).getD e0).value, .int .i64 (((Tbs.at y).snd.get (q.l.getD ((0 : Nat) + x.1) (V.enc Kd.three).dflt).c).getD e0).weight, .int .i64 (((Tbs.at y).snd.get (q.l.getD ((0 : Nat) + x.1) (V.enc Kd.three).dflt).c).getD e0).node]), ((1 : Nat), Blk.pool x.p1), ((2 : Nat), Blk.pool x.p2), ((0 : Nat), .ro Kd.three q.l)], nx := (9 : Nat), nt := (222 : Nat), tl := [(3 : Nat), (7 : Nat), (5 : Nat), (1 : Nat), (3 : Nat), (0 : Nat), (1 : Nat), (2 : Nat), (3 : Nat), (4 : Nat), (5 : Nat), (6 : Nat), (7 : Nat), (8 : Nat), (9 : Nat), (10 : Nat), (11 : Nat), (12 : Nat), (13 : Nat), (14 : Nat), (15 : Nat), (16 : Nat), (17 : Nat), (18 : Nat), (19 : Nat), (20 : Nat), (21 : Nat), (22 : Nat), (23 : Nat), (24 : Nat), (25 : Nat), (26 : Nat), (27 : Nat), (28 : Nat), (29 : Nat), (30 : Nat), (31 : Nat), (32 : Nat), (33 : Nat), (34 : Nat), (35 : Nat), (36 : Nat), (37 : Nat), (38 : Nat), (39 : Nat), (40 : Nat)] : St V } R23 y_2) (Out.all R6b fun y => Out.asm (y_2 y) (Out.all Unit fun y_3 => Out.asm ((fun x x_1 => True) y y_3) (Out.stop EX.nx {env := [((1 : Nat), .sl false (0 : Nat) (0 : Nat) (3 : Nat) y.q.l.length y.q.2), ((5 : Nat), .tt), ((6 : Nat), AV.rp (some (y.q.3, (0 : Nat)))), ((7 : Nat), AV.rp (some (y.q.4, (0 : Nat)))), ((8 : Nat), .int .i64 (IntKind.i64.wrap ((↑y.x.1 : Int) + (1 : Int))))], heap := [((1 : Nat), Blk.pool y.x.p1), ((2 : Nat), Blk.pool y.x.p2), ((0 : Nat), .ro Kd.three y.q.l)], nx := (13 : Nat), nt := (222 : Nat), tl := [(0 : Nat), (1 : Nat), (2 : Nat), (3 : Nat), (4 : Nat), (5 : Nat), (6 : Nat), (7 : Nat), (8 : Nat), (9 : Nat), (10 : Nat), (11 : Nat), (12 : Nat), (13 : Nat), (14 : Nat), (15 : Nat), (16 : Nat), (17 : Nat), (18 : Nat), (19 : Nat), (20 : Nat), (21 : Nat), (22 : Nat), (23 : Nat), (24 : Nat), (25 : Nat), (26 : Nat), (27 : Nat), (28 : Nat), (29 : Nat), (30 : Nat), (31 : Nat), (32 : Nat), (33 : Nat), (34 : Nat), (35 : Nat), (36 : Nat), (37 : Nat), (38 : Nat), (39 : Nat), (40 : Nat)] : St V }))))))))))))) (Out.ite (bitsOp BinOp.and .i64 (q.l.getD ((0 : Nat) + x.1) (V.enc Kd.three).dflt).a (3 : Int) == (1 : Int)) (Out.ex (Tbs × Nat) fun y => Out.need (TIn x.p1 y (some (q.3, (0 : Nat))) ∧ (Tbs.at y).snd.len < (1000000 : Nat)) (Out.all Pool fun y_1 => Out.asm (TT y_1 (Tbs.put y ((Tbs.at y).snd.put {key := (q.l.getD ((0 : Nat) + x.1) (V.enc Kd.three).dflt).b, value := (q.l.getD ((0 : Nat) + x.1) (V.enc Kd.three).dflt).c, weight := (↑x.1 : Int), node := (↑x.1 : Int) : Ent }))) (Out.ex RZ fun y_2 => Out.need (RIn x.p2 y_2 (some (q.4, (0 : Nat))) ∧ y_2.snd.snd.Good ∧ y_2.snd.snd.5 < (1000000 : Nat)) (Out.all (Pool × RL) fun y_3 => Out.asm (RAt y_3.fst y_2.1 y_3.snd (y_2.snd.snd.put {key := (q.l.getD ((0 : Nat) + x.1) (V.enc Kd.three).dflt).b, value := (q.l.getD ((0 : Nat) + x.1) (V.enc Kd.three).dflt).c, weight := (↑x.1 : Int), node := (↑x.1 : Int) : Ent })) (Out.need (RegFor Try.prog (6 : Nat) (nat_lit 16) (regOf Try.f6 (nat_lit 16)) L16) (Out.ex (R6 → Prop) fun y_4 => Out.need ((9 : Nat) ≤ (9 : Nat) ∧ SImp (9 : Nat) {env := [((1 : Nat), .sl false (0 : Nat) (0 : Nat) (3 : Nat) q.l.length q.2), ((5 : Nat), .tt), ((6 : Nat), AV.rp (some (q.3, (0 : Nat)))), ((7 : Nat), AV.rp (some (q.4, (0 : Nat)))), ((8 : Nat), .int .i64 (↑x.1 : Int)), ((11 : Nat), .ptr (5 : Nat) (0 : Nat)), ((12 : Nat), .bool ((Tbs.at y).snd.get {key := (q.l.getD ((0 : Nat) + x.1) (V.enc Kd.three).dflt).b, value := (q.l.getD ((0 : Nat) + x.1) (V.enc Kd.three).dflt).c, weight := (↑x.1 : Int), node := (↑x.1 : Int) : Ent }.key).isSome), ((13 : Nat), .ptr (7 : Nat) (0 : Nat)), ((14 : Nat), .bool (y_2.snd.snd.get {key := (q.l.getD ((0 : Nat) + x.1) (V.enc Kd.three).dflt).b, value := (q.l.getD ((0 : Nat) + x.1) (V.enc Kd.three).dflt).c, weight := (↑x.1 : Int), node := (↑x.1 : Int) : Ent }.key).isSome)], heap := [((7 : Nat), .cells (29 : Nat) [.int .i64 ((y_2.snd.snd.get {key := (q.l.getD ((0 : Nat) + x.1) (V.enc Kd.three).dflt).b, value := (q.l.getD ((0 : Nat) + x.1) (V.enc Kd.three).dflt).c, weight := (↑x.1 : Int), node := (↑x.1 : Int) : Ent }.key).getD e0).key, .int .i64 ((y_2.snd.snd.get {key := (q.l.getD ((0 : Nat) + x.1) (V.enc Kd.three).dflt).b, value := (q.l.getD ((0 : Nat) + x.1) (V.enc Kd.three).dflt).c, weight := (↑x.1 : Int), node := (↑x.1 : Int) : Ent }.key).getD e0).value, .int .i64 ((y_2.snd.snd.get {key := (q.l.getD ((0 : Nat) + x.1) (V.enc Kd.three).dflt).b, value := (q.l.getD ((0 : Nat) + x.1) (V.enc Kd.three).dflt).c, weight := (↑x.1 : Int), node := (↑x.1 : Int) : Ent }.key).getD e0).weight, .int .i64 ((y_2.snd.snd.get {key := (q.l.getD ((0 : Nat) + x.1) (V.enc Kd.three).dflt).b, value := (q.l.getD ((0 : Nat) + x.1) (V.enc Kd.three).dflt).c, weight := (↑x.1 : Int), node := (↑x.1 : Int) : Ent }.key).getD e0).node]), ((5 : Nat), .cells (29 : Nat) [.int .i64 (((Tbs.at y).snd.get {key := (q.l.getD ((0 : Nat) + x.1) (V.enc Kd.three).dflt).b, value := (q.l.getD ((0 : Nat) + x.1) (V.enc Kd.three).dflt).c, weight := (↑x.1 : Int), node := (↑x.1 : Int) : Ent }.key).getD e0).key, .int .i64 (((Tbs.at y).snd.get {key := (q.l.getD ((0 : Nat) + x.1) (V.enc Kd.three).dflt).b, value := (q.l.getD ((0 : Nat) + x.1) (V.enc Kd.three).dflt).c, weight := (↑x.1 : Int), node := (↑x.1 : Int) : Ent }.key).getD e0).value, .int .i64 (((Tbs.at y).snd.get {key := (q.l.getD ((0 : Nat) + x.1) (V.enc Kd.three).dflt).b, value := (q.l.getD ((0 : Nat) + x.1) (V.enc Kd.three).dflt).c, weight := (↑x.1 : Int), node := (↑x.1 : Int) : Ent }.key).getD e0).weight, .int .i64 (((Tbs.at y).snd.get {key := (q.l.getD ((0 : Nat) + x.1) (V.enc Kd.three).dflt).b, value := (q.l.getD ((0 : Nat) + x.1) (V.enc Kd.three).dflt).c, weight := (↑x.1 : Int), node := (↑x.1 : Int) : Ent }.key).getD e0).node]), ((1 : Nat), Blk.pool y_1), ((2 : Nat), Blk.pool y_3.fst), ((0 : Nat), .ro Kd.three q.l)], nx := (9 : Nat), nt := (222 : Nat), tl := [(3 : Nat), (7 : Nat), (2 : Nat), (5 : Nat), (1 : Nat), (3 : Nat), (0 : Nat), (1 : Nat), (2 : Nat), (3 : Nat), (4 : Nat), (5 : Nat), (6 : Nat), (7 : Nat), (8 : Nat), (9 : Nat), (10 : Nat), (11 : Nat), (12 : Nat), (13 : Nat), (14 : Nat), (15 : Nat), (16 : Nat), (17 : Nat), (18 : Nat), (19 : Nat), (20 : Nat), (21 : Nat), (22 : Nat), (23 : Nat), (24 : Nat), (25 : Nat), (26 : Nat), (27 : Nat), (28 : Nat), (29 : Nat), (30 : Nat), (31 : Nat), (32 : Nat), (33 : Nat), (34 : Nat), (35 : Nat), (36 : Nat), (37 : Nat), (38 : Nat), (39 : Nat), (40 : Nat)] : St V } R16 y_4) (Out.all R6 fun y => Out.asm (y_4 y) (Out.all Unit fun y_5 => Out.asm ((fun x x_1 => True) y y_5) (Out.need ((0 : Int) ≤ (↑y.x.1 : Int) ∧ (↑y.x.1 : Int) < (↑y.q.l.length : Int)) (Out.need ((0 : Nat) + y.x.1 < y.q.l.length) (Out.ex (Tbs × Nat) fun y_6 => Out.need (TIn y.x.p1 y_6 (some (y.q.3, (0 : Nat)))) (Out.need ((0 : Int) ≤ (↑y.x.1 : Int) ∧ (↑y.x.1 : Int) < (↑y.q.l.length : Int)) (Out.need ((0 : Nat) + y.x.1 < y.q.l.length) (Out.ex RZ fun y_7 => Out.need (RIn y.x.p2 y_7 (some (y.q.4, (0 : Nat))) ∧ (y_7.snd.snd.chain (y.q.l.getD ((0 : Nat) + y.x.1) (V.enc Kd.three).dflt).c).length ≤ (1000000 : Nat)) (Out.need (RegFor Try.prog (6 : Nat) (nat_lit 23) (regOf Try.f6 (nat_lit 23)) L23) (Out.ex (R6b → Prop) fun y_8 => Out.need ((13 : Nat) ≤ (13 : Nat) ∧ SImp (13 : Nat) {env := [((1 : Nat), .sl false (0 : Nat) (0 : Nat) (3 : Nat) y.q.l.length y.q.2), ((5 : Nat), .tt), ((6 : Nat), AV.rp (some (y.q.3, (0 : Nat)))), ((7 : Nat), AV.rp (some (y.q.4, (0 : Nat)))), ((8 : Nat), .int .i64 (↑y.x.1 : Int)), ((10 : Nat), .tt), ((19 : Nat), .ptr (9 : Nat) (0 : Nat)), ((20 : Nat), .bool ((Tbs.at y_6).snd.get (y.q.l.getD ((0 : Nat) + y.x.1) (V.enc Kd.three).dflt).c).isSome), ((21 : Nat), .ptr (11 : Nat) (0 : Nat)), ((22 : Nat), .bool (y_7.snd.snd.get (y.q.l.getD ((0 : Nat) + y.x.1) (V.enc Kd.three).dflt).c).isSome)], heap := [((11 : Nat), .cells (29 : Nat) [.int .i64 ((y_7.snd.snd.get (y.q.l.getD ((0 : Nat) + y.x.1) (V.enc Kd.three).dflt).c).getD e0).key, .int .i64 ((y_7.snd.snd.get (y.q.l.getD ((0 : Nat) + y.x.1) (V.enc Kd.three).dflt).c).getD e0).value, .int .i64 ((y_7.snd.snd.get (y.q.l.getD ((0 : Nat) + y.x.1) (V.enc Kd.three).dflt).c).getD e0).weight, .int .i64 ((y_7.snd.snd.get (y.q.l.getD ((0 : Nat) + y.x.1) (V.enc Kd.three).dflt).c).getD e0).node]), ((9 : Nat), .cells (29 : Nat) [.int .i64 (((Tbs.at y_6).snd.get (y.q.l.getD ((0 : Nat) + y.x.1) (V.enc Kd.three).dflt).c).getD e0).key, .int .i64 (((Tbs.at y_6).snd.get (y.q.l.getD ((0 : Nat) + y.x.1) (V.enc Kd.three).dflt).c).getD e0).value, .int .i64 (((Tbs.at y_6).snd.get (y.q.l.getD ((0 : Nat) + y.x.1) (V.enc Kd.three).dflt).c).getD e0).weight, .int .i64 (((Tbs.at y_6).snd.get (y.q.l.getD ((0 : Nat) + y.x.1) (V.enc Kd.three).dflt).c).getD e0).node]), ((1 : Nat), Blk.pool y.x.p1), ((2 : Nat), Blk.pool y.x.p2), ((0 : Nat), .ro Kd.three y.q.l)], nx := (13 : Nat), nt := (222 : Nat), tl := [(11 : Nat), (9 : Nat), (1 : Nat), (0 : Nat), (1 : Nat), (2 : Nat), (3 : Nat), (4 : Nat), (5 : Nat), (6 : Nat), (7 : Nat), (8 : Nat), (9 : Nat), (10 : Nat), (11 : Nat), (12 : Nat), (13 : Nat), (14 : Nat), (15 : Nat), (16 : Nat), (17 : Nat), (18 : Nat), (19 : Nat), (20 : Nat), (21 : Nat), (22 : Nat), (23 : Nat), (24 : Nat), (25 : Nat), (26 : Nat), (27 : Nat), (28 : Nat), (29 : Nat), (30 : Nat), (31 : Nat), (32 : Nat), (33 : Nat), (34 : Nat), (35 : Nat), (36 : Nat), (37 : Nat), (38 : Nat), (39 : Nat), (40 : Nat)] : St V } R23 y_8) (Out.all R6b fun y => Out.asm (y_8 y) (Out.all Unit fun y_9 => Out.asm ((fun x x_1 => True) y y_9) (Out.stop EX.nx {env := [((1 : Nat), .sl false (0 : Nat) (0 : Nat) (3 : Nat) y.q.l.length y.q.2), ((5 : Nat), .tt), ((6 : Nat), AV.rp (some (y.q.3, (0 : Nat)))), ((7 : Nat), AV.rp (some (y.q.4, (0 : Nat)))), ((8 : Nat), .int .i64 (IntKind.i64.wrap ((↑y.x.1 : Int) + (1 : Int))))], heap := [((1 : Nat), Blk.pool y.x.p1), ((2 : Nat), Blk.pool y.x.p2), ((0 : Nat), .ro Kd.three y.q.l)], nx := (13 : Nat), nt := (222 : Nat), tl := [(0 : Nat), (1 : Nat), (2 : Nat), (3 : Nat), (4 : Nat), (5 : Nat), (6 : Nat), (7 : Nat), (8 : Nat), (9 : Nat), (10 : Nat), (11 : Nat), (12 : Nat), (13 : Nat), (14 : Nat), (15 : Nat), (16 : Nat), (17 : Nat), (18 : Nat), (19 : Nat), (20 : Nat), (21 : Nat), (22 : Nat), (23 : Nat), (24 : Nat), (25 : Nat), (26 : Nat), (27 : Nat), (28 : Nat), (29 : Nat), (30 : Nat), (31 : Nat), (32 : Nat), (33 : Nat), (34 : Nat), (35 : Nat), (36 : Nat), (37 : Nat), (38 : Nat), (39 : Nat), (40 : Nat)] : St V }))))))))))))))))))) (Out.ite (bitsOp BinOp.and .i64 (q.l.getD ((0 : Nat) + x.1) (V.enc Kd.three).dflt).a (3 : Int) == (2 : Int)) (Out.need ((0 : Int) ≤ (↑x.1 : Int) ∧ (↑x.1 : Int) < (↑q.l.length : Int)) (Out.need ((0 : Nat) + x.1 < q.l.length) (Out.ex (Tbs × Nat) fun y => Out.need (TIn x.p1 y (some (q.3, (0 : Nat)))) (Out.all Pool fun y_1 => Out.asm (TT y_1 (Tbs.put y ((Tbs.at y).snd.remove (q.l.getD ((0 : Nat) + x.1) (V.enc Kd.three).dflt).b))) (Out.need ((0 : Int) ≤ (↑x.1 : Int) ∧ (↑x.1 : Int) < (↑q.l.length : Int)) (Out.need ((0 : Nat) + x.1 < q.l.length) (Out.ex RZ fun y_2 => Out.need (RIn x.p2 y_2 (some (q.4, (0 : Nat))) ∧ y_2.snd.snd.Good ∧ y_2.snd.snd.5 ≤ (1000000 : Nat)) (Out.all (Pool × RL) fun y_3 => Out.asm (RAt y_3.fst y_2.1 y_3.snd (y_2.snd.snd.remove (q.l.getD ((0 : Nat) + x.1) (V.enc Kd.three).dflt).b)) (Out.need (RegFor Try.prog (6 : Nat) (nat_lit 20) (regOf Try.f6 (nat_lit 20)) L20) (Out.ex (R6 → Prop) fun y_4 => Out.need ((9 : Nat) ≤ (9 : Nat) ∧ SImp (9 : Nat) {env := [((1 : Nat), .sl false (0 : Nat) (0 : Nat) (3 : Nat) q.l.length q.2), ((5 : Nat), .tt), ((6 : Nat), AV.rp (some (q.3, (0 : Nat)))), ((7 : Nat), AV.rp (some (q.4, (0 : Nat)))), ((8 : Nat), .int .i64 (↑x.1 : Int)), ((15 : Nat), .ptr (5 : Nat) (0 : Nat)), ((16 : Nat), .bool ((Tbs.at y).snd.get (q.l.getD ((0 : Nat) + x.1) (V.enc Kd.three).dflt).b).isSome), ((17 : Nat), .ptr (7 : Nat) (0 : Nat)), ((18 : Nat), .bool (y_2.snd.snd.get (q.l.getD ((0 : Nat) + x.1) (V.enc Kd.three).dflt).b).isSome)], heap := [((7 : Nat), .cells (29 : Nat) [.int .i64 ((y_2.snd.snd.get (q.l.getD ((0 : Nat) + x.1) (V.enc Kd.three).dflt).b).getD e0).key, .int .i64 ((y_2.snd.snd.get (q.l.getD ((0 : Nat) + x.1) (V.enc Kd.three).dflt).b).getD e0).value, .int .i64 ((y_2.snd.snd.get (q.l.getD ((0 : Nat) + x.1) (V.enc Kd.three).dflt).b).getD e0).weight, .int .i64 ((y_2.snd.snd.get (q.l.getD ((0 : Nat) + x.1) (V.enc Kd.three).dflt).b).getD e0).node]), ((5 : Nat), .cells (29 : Nat) [.int .i64 (((Tbs.at y).snd.get (q.l.getD ((0 : Nat) + x.1) (V.enc Kd.three).dflt).b).getD e0).key, .int .i64 (((Tbs.at y).snd.get (q.l.getD ((0 : Nat) + x.1) (V.enc Kd.three).dflt).b).getD e0).value, .int .i64 (((Tbs.at y).snd.get (q.l.getD ((0 : Nat) + x.1) (V.enc Kd.three).dflt).b).getD e0).weight, .int .i64 (((Tbs.at y).snd.get (q.l.getD ((0 : Nat) + x.1) (V.enc Kd.three).dflt).b).getD e0).node]), ((1 : Nat), Blk.pool y_1), ((2 : Nat), Blk.pool y_3.fst), ((0 : Nat), .ro Kd.three q.l)], nx := (9 : Nat), nt := (222 : Nat), tl := [(3 : Nat), (7 : Nat), (2 : Nat), (5 : Nat), (1 : Nat), (3 : Nat), (0 : Nat), (1 : Nat), (2 : Nat), (3 : Nat), (4 : Nat), (5 : Nat), (6 : Nat), (7 : Nat), (8 : Nat), (9 : Nat), (10 : Nat), (11 : Nat), (12 : Nat), (13 : Nat), (14 : Nat), (15 : Nat), (16 : Nat), (17 : Nat), (18 : Nat), (19 : Nat), (20 : Nat), (21 : Nat), (22 : Nat), (23 : Nat), (24 : Nat), (25 : Nat), (26 : Nat), (27 : Nat), (28 : Nat), (29 : Nat), (30 : Nat), (31 : Nat), (32 : Nat), (33 : Nat), (34 : Nat), (35 : Nat), (36 : Nat), (37 : Nat), (38 : Nat), (39 : Nat), (40 : Nat)] : St V } R20 y_4) (Out.all R6 fun y => Out.asm (y_4 y) (Out.all Unit fun y_5 => Out.asm ((fun x x_1 => True) y y_5) (Out.need ((0 : Int) ≤ (↑y.x.1 : Int) ∧ (↑y.x.1 : Int) < (↑y.q.l.length : Int)) (Out.need ((0 : Nat) + y.x.1 < y.q.l.length) (Out.ex (Tbs × Nat) fun y_6 => Out.need (TIn y.x.p1 y_6 (some (y.q.3, (0 : Nat)))) (Out.need ((0 : Int) ≤ (↑y.x.1 : Int) ∧ (↑y.x.1 : Int) < (↑y.q.l.length : Int)) (Out.need ((0 : Nat) + y.x.1 < y.q.l.length) (Out.ex RZ fun y_7 => Out.need (RIn y.x.p2 y_7 (some (y.q.4, (0 : Nat))) ∧ (y_7.snd.snd.chain (y.q.l.getD ((0 : Nat) + y.x.1) (V.enc Kd.three).dflt).c).length ≤ (1000000 : Nat)) (Out.need (RegFor Try.prog (6 : Nat) (nat_lit 23) (regOf Try.f6 (nat_lit 23)) L23) (Out.ex (R6b → Prop) fun y_8 => Out.need ((13 : Nat) ≤ (13 : Nat) ∧ SImp (13 : Nat) {env := [((1 : Nat), .sl false (0 : Nat) (0 : Nat) (3 : Nat) y.q.l.length y.q.2), ((5 : Nat), .tt), ((6 : Nat), AV.rp (some (y.q.3, (0 : Nat)))), ((7 : Nat), AV.rp (some (y.q.4, (0 : Nat)))), ((8 : Nat), .int .i64 (↑y.x.1 : Int)), ((10 : Nat), .tt), ((19 : Nat), .ptr (9 : Nat) (0 : Nat)), ((20 : Nat), .bool ((Tbs.at y_6).snd.get (y.q.l.getD ((0 : Nat) + y.x.1) (V.enc Kd.three).dflt).c).isSome), ((21 : Nat), .ptr (11 : Nat) (0 : Nat)), ((22 : Nat), .bool (y_7.snd.snd.get (y.q.l.getD ((0 : Nat) + y.x.1) (V.enc Kd.three).dflt).c).isSome)], heap := [((11 : Nat), .cells (29 : Nat) [.int .i64 ((y_7.snd.snd.get (y.q.l.getD ((0 : Nat) + y.x.1) (V.enc Kd.three).dflt).c).getD e0).key, .int .i64 ((y_7.snd.snd.get (y.q.l.getD ((0 : Nat) + y.x.1) (V.enc Kd.three).dflt).c).getD e0).value, .int .i64 ((y_7.snd.snd.get (y.q.l.getD ((0 : Nat) + y.x.1) (V.enc Kd.three).dflt).c).getD e0).weight, .int .i64 ((y_7.snd.snd.get (y.q.l.getD ((0 : Nat) + y.x.1) (V.enc Kd.three).dflt).c).getD e0).node]), ((9 : Nat), .cells (29 : Nat) [.int .i64 (((Tbs.at y_6).snd.get (y.q.l.getD ((0 : Nat) + y.x.1) (V.enc Kd.three).dflt).c).getD e0).key, .int .i64 (((Tbs.at y_6).snd.get (y.q.l.getD ((0 : Nat) + y.x.1) (V.enc Kd.three).dflt).c).getD e0).value, .int .i64 (((Tbs.at y_6).snd.get (y.q.l.getD ((0 : Nat) + y.x.1) (V.enc Kd.three).dflt).c).getD e0).weight, .int .i64 (((Tbs.at y_6).snd.get (y.q.l.getD ((0 : Nat) + y.x.1) (V.enc Kd.three).dflt).c).getD e0).node]), ((1 : Nat), Blk.pool y.x.p1), ((2 : Nat), Blk.pool y.x.p2), ((0 : Nat), .ro Kd.three y.q.l)], nx := (13 : Nat), nt := (222 : Nat), tl := [(11 : Nat), (9 : Nat), (1 : Nat), (0 : Nat), (1 : Nat), (2 : Nat), (3 : Nat), (4 : Nat), (5 : Nat), (6 : Nat), (7 : Nat), (8 : Nat), (9 : Nat), (10 : Nat), (11 : Nat), (12 : Nat), (13 : Nat), (14 : Nat), (15 : Nat), (16 : Nat), (17 : Nat), (18 : Nat), (19 : Nat), (20 : Nat), (21 : Nat), (22 : Nat), (23 : Nat), (24 : Nat), (25 : Nat), (26 : Nat), (27 : Nat), (28 : Nat), (29 : Nat), (30 : Nat), (31 : Nat), (32 : Nat), (33 : Nat), (34 : Nat), (35 : Nat), (36 : Nat), (37 : Nat), (38 : Nat), (39 : Nat), (40 : Nat)] : St V } R23 y_8) (Out.all R6b fun y => Out.asm (y_8 y) (Out.all Unit fun y_9 => Out.asm ((fun x x_1 => True) y y_9) (Out.stop EX.nx {env := [((1 : Nat), .sl false (0 : Nat) (0 : Nat) (3 : Nat) y.q.l.length y.q.2), ((5 : Nat), .tt), ((6 : Nat), AV.rp (some (y.q.3, (0 : Nat)))), ((7 : Nat), AV.rp (some (y.q.4, (0 : Nat)))), ((8 : Nat), .int .i64 (IntKind.i64.wrap ((↑y.x.1 : Int) + (1 : Int))))], heap := [((1 : Nat), Blk.pool y.x.p1), ((2 : Nat), Blk.pool y.x.p2), ((0 : Nat), .ro Kd.three y.q.l)], nx := (13 : Nat), nt := (222 : Nat), tl := [(0 : Nat), (1 : Nat), (2 : Nat), (3 : Nat), (4 : Nat), (5 : Nat), (6 : Nat), (7 : Nat), (8 : Nat), (9 : Nat), (10 : Nat), (11 : Nat), (12 : Nat), (13 : Nat), (14 : Nat), (15 : Nat), (16 : Nat), (17 : Nat), (18 : Nat), (19 : Nat), (20 : Nat), (21 : Nat), (22 : Nat), (23 : Nat), (24 : Nat), (25 : Nat), (26 : Nat), (27 : Nat), (28 : Nat), (29 : Nat), (30 : Nat), (31 : Nat), (32 : Nat), (33 : Nat), (34 : Nat), (35 : Nat), (36 : Nat), (37 : Nat), (38 : Nat), (39 : Nat), (40 : Nat)] : St V }))))))))))))))))))))))) (Out.need ((0 : Int) ≤ (↑x.1 : Int) ∧ (↑x.1 : Int) < (↑q.l.length : Int)) (Out.need ((0 : Nat) + x.1 < q.l.length) (Out.ex (Tbs × Nat) fun y => Out.need (TIn x.p1 y (some (q.3, (0 : Nat)))) (Out.need ((0 : Int) ≤ (↑x.1 : Int) ∧ (↑x.1 : Int) < (↑q.l.length : Int)) (Out.need ((0 : Nat) + x.1 < q.l.length) (Out.ex RZ fun y_1 => Out.need (RIn x.p2 y_1 (some (q.4, (0 : Nat))) ∧ (y_1.snd.snd.chain (q.l.getD ((0 : Nat) + x.1) (V.enc Kd.three).dflt).c).length ≤ (1000000 : Nat)) (Out.need (RegFor Try.prog (6 : Nat) (nat_lit 23) (regOf Try.f6 (nat_lit 23)) L23) (Out.ex (R6b → Prop) fun y_2 => Out.need ((9 : Nat) ≤ (13 : Nat) ∧ SImp (13 : Nat) {env := [((1 : Nat), .sl false (0 : Nat) (0 : Nat) (3 : Nat) q.l.length q.2), ((5 : Nat), .tt), ((6 : Nat), AV.rp (some (q.3, (0 : Nat)))), ((7 : Nat), AV.rp (some (q.4, (0 : Nat)))), ((8 : Nat), .int .i64 (↑x.1 : Int)), ((10 : Nat), .tt), ((19 : Nat), .ptr (5 : Nat) (0 : Nat)), ((20 : Nat), .bool ((Tbs.at y).snd.get (q.l.getD ((0 : Nat) + x.1) (V.enc Kd.three).dflt).c).isSome), ((21 : Nat), .ptr (7 : Nat) (0 : Nat)), ((22 : Nat), .bool (y_1.snd.snd.get (q.l.getD ((0 : Nat) + x.1) (V.enc Kd.three).dflt).c).isSome)], heap := [((7 : Nat), .cells (29 : Nat) [.int .i64 ((y_1.snd.snd.get (q.l.getD ((0 : Nat) + x.1) (V.enc Kd.three).dflt).c).getD e0).key, .int .i64 ((y_1.snd.snd.get (q.l.getD ((0 : Nat) + x.1) (V.enc Kd.three).dflt).c).getD e0).value, .int .i64 ((y_1.snd.snd.get (q.l.getD ((0 : Nat) + x.1) (V.enc Kd.three).dflt).c).getD e0).weight, .int .i64 ((y_1.snd.snd.get (q.l.getD ((0 : Nat) + x.1) (V.enc Kd.three).dflt).c).getD e0).node]), ((5 : Nat), .cells (29 : Nat) [.int .i64 (((Tbs.at y).snd.get (q.l.getD ((0 : Nat) + x.1) (V.enc Kd.three).dflt).c).getD e0).key, .int .i64 (((Tbs.at y).snd.get (q.l.getD ((0 : Nat) + x.1) (V.enc Kd.three).dflt).c).getD e0).value, .int .i64 (((Tbs.at y).snd.get (q.l.getD ((0 : Nat) + x.1) (V.enc Kd.three).dflt).c).getD e0).weight, .int .i64 (((Tbs.at y).snd.get (q.l.getD ((0 : Nat) + x.1) (V.enc Kd.three).dflt).c).getD e0).node]), ((1 : Nat), Blk.pool x.p1), ((2 : Nat), Blk.pool x.p2), ((0 : Nat), .ro Kd.three q.l)], nx := (9 : Nat), nt := (222 : Nat), tl := [(3 : Nat), (7 : Nat), (5 : Nat), (1 : Nat), (3 : Nat), (0 : Nat), (1 : Nat), (2 : Nat), (3 : Nat), (4 : Nat), (5 : Nat), (6 : Nat), (7 : Nat), (8 : Nat), (9 : Nat), (10 : Nat), (11 : Nat), (12 : Nat), (13 : Nat), (14 : Nat), (15 : Nat), (16 : Nat), (17 : Nat), (18 : Nat), (19 : Nat), (20 : Nat), (21 : Nat), (22 : Nat), (23 : Nat), (24 : Nat), (25 : Nat), (26 : Nat), (27 : Nat), (28 : Nat), (29 : Nat), (30 : Nat), (31 : Nat), (32 : Nat), (33 : Nat), (34 : Nat), (35 : Nat), (36 : Nat), (37 : Nat), (38 : Nat), (39 : Nat), (40 : Nat)] : St V } R23 y_2) (Out.all R6b fun y => Out.asm (y_2 y) (Out.all Unit fun y_3 => Out.asm ((fun x x_1 => True) y y_3) (Out.stop EX.nx {env := [((1 : Nat), .sl false (0 : Nat) (0 : Nat) (3 : Nat) y.q.l.length y.q.2), ((5 : Nat), .tt), ((6 : Nat), AV.rp (some (y.q.3, (0 : Nat)))), ((7 : Nat), AV.rp (some (y.q.4, (0 : Nat)))), ((8 : Nat), .int .i64 (IntKind.i64.wrap ((↑y.x.1 : Int) + (1 : Int))))], heap := [((1 : Nat), Blk.pool y.x.p1), ((2 : Nat), Blk.pool y.x.p2), ((0 : Nat), .ro Kd.three y.q.l)], nx := (13 : Nat), nt := (222 : Nat), tl := [(0 : Nat), (1 : Nat), (2 : Nat), (3 : Nat), (4 : Nat), (5 : Nat), (6 : Nat), (7 : Nat), (8 : Nat), (9 : Nat), (10 : Nat), (11 : Nat), (12 : Nat), (13 : Nat), (14 : Nat), (15 : Nat), (16 : Nat), (17 : Nat), (18 : Nat), (19 : Nat), (20 : Nat), (21 : Nat), (22 : Nat), (23 : Nat), (24 : Nat), (25 : Nat), (26 : Nat), (27 : Nat), (28 : Nat), (29 : Nat), (30 : Nat), (31 : Nat), (32 : Nat), (33 : Nat), (34 : Nat), (35 : Nat), (36 : Nat), (37 : Nat), (38 : Nat), (39 : Nat), (40 : Nat)] : St V })))))))))))))))))))) (Out.stop (EX.ex (0 : Nat)) {env := [((1 : Nat), .sl false (0 : Nat) (0 : Nat) (3 : Nat) q.l.length q.2), ((5 : Nat), .tt), ((6 : Nat), AV.rp (some (q.3, (0 : Nat)))), ((7 : Nat), AV.rp (some (q.4, (0 : Nat)))), ((8 : Nat), .int .i64 (↑x.1 : Int))], heap := [((1 : Nat), Blk.pool x.p1), ((2 : Nat), Blk.pool x.p2), ((0 : Nat), .ro Kd.three q.l)], nx := (3 : Nat), nt := (222 : Nat), tl := [(0 : Nat), (1 : Nat), (2 : Nat), (3 : Nat), (4 : Nat), (5 : Nat), (6 : Nat), (7 : Nat), (8 : Nat), (9 : Nat), (10 : Nat), (11 : Nat), (12 : Nat), (13 : Nat), (14 : Nat), (15 : Nat), (16 : Nat), (17 : Nat), (18 : Nat), (19 : Nat), (20 : Nat), (21 : Nat), (22 : Nat), (23 : Nat), (24 : Nat), (25 : Nat), (26 : Nat), (27 : Nat), (28 : Nat), (29 : Nat), (30 : Nat), (31 : Nat), (32 : Nat), (33 : Nat), (34 : Nat), (35 : Nat), (36 : Nat), (37 : Nat), (38 : Nat), (39 : Nat), (40 : Nat)] : St V }) := by kernel_rfl

theorem tw6 (q : P63) (x : X63) : runCode cfgJ 60 6 (loopOf Try.f6 3) (SW q x) (stopT (trimSt [5, 6, 7, 23, 24, 25] [1, 2, 3])) = Out.ite (decide ((↑x.1 : Int) < (↑q.5 : Int))) (Out.need ((0 : Int) ≤ (↑x.1 : Int) ∧ (↑x.1 : Int) < (↑q.5 : Int)) (Out.need ((0 : Nat) + x.1 < x.ys.length) (Out.stop EX.nx {env := [((5 : Nat), .tt), ((6 : Nat), AV.rp (some (q.1, (0 : Nat)))), ((7 : Nat), AV.rp (some (q.2, (0 : Nat)))), ((23 : Nat), .sl false (3 : Nat) (0 : Nat) (4 : Nat) q.5 (q.5 + q.6)), ((24 : Nat), .bool q.sm), ((25 : Nat), .int .i64 (IntKind.i64.wrap ((↑x.1 : Int) + (1 : Int))))], heap := [((3 : Nat), .arr (29 : Nat) Kd.ent (x.ys.set ((0 : Nat) + x.1) {key := (-7 : Int), value := (x.ys.getD ((0 : Nat) + x.1) (V.enc Kd.ent).dflt).value, weight := (x.ys.getD ((0 : Nat) + x.1) (V.enc Kd.ent).dflt).weight, node := (x.ys.getD ((0 : Nat) + x.1) (V.enc Kd.ent).dflt).node : Ent }) q.6), ((1 : Nat), Blk.pool q.p1), ((2 : Nat), Blk.pool q.p2)], nx := (6 : Nat), nt := (222 : Nat), tl := [(3 : Nat), (0 : Nat), (1 : Nat), (2 : Nat), (3 : Nat), (4 : Nat), (5 : Nat), (6 : Nat), (7 : Nat), (8 : Nat), (9 : Nat), (10 : Nat), (11 : Nat), (12 : Nat), (13 : Nat), (14 : Nat), (15 : Nat), (16 : Nat), (17 : Nat), (18 : Nat), (19 : Nat), (20 : Nat), (21 : Nat), (22 : Nat), (23 : Nat), (24 : Nat), (25 : Nat), (26 : Nat), (27 : Nat), (28 : Nat), (29 : Nat), (30 : Nat), (31 : Nat), (32 : Nat), (33 : Nat), (34 : Nat), (35 : Nat), (36 : Nat), (37 : Nat), (38 : Nat), (39 : Nat), (40 : Nat)] : St V }))) (Out.stop (EX.ex (3 : Nat)) {env := [((5 : Nat), .tt), ((6 : Nat), AV.rp (some (q.1, (0 : Nat)))), ((7 : Nat), AV.rp (some (q.2, (0 : Nat)))), ((23 : Nat), .sl false (3 : Nat) (0 : Nat) (4 : Nat) q.5 (q.5 + q.6)), ((24 : Nat), .bool q.sm), ((25 : Nat), .int .i64 (↑x.1 : Int))], heap := [((3 : Nat), .arr (29 : Nat) Kd.ent x.ys q.6), ((1 : Nat), Blk.pool q.p1), ((2 : Nat), Blk.pool q.p2)], nx := (5 : Nat), nt := (222 : Nat), tl := [(0 : Nat), (1 : Nat), (2 : Nat), (3 : Nat), (4 : Nat), (5 : Nat), (6 : Nat), (7 : Nat), (8 : Nat), (9 : Nat), (10 : Nat), (11 : Nat), (12 : Nat), (13 : Nat), (14 : Nat), (15 : Nat), (16 : Nat), (17 : Nat), (18 : Nat), (19 : Nat), (20 : Nat), (21 : Nat), (22 : Nat), (23 : Nat), (24 : Nat), (25 : Nat), (26 : Nat), (27 : Nat), (28 : Nat), (29 : Nat), (30 : Nat), (31 : Nat), (32 : Nat), (33 : Nat), (34 : Nat), (35 : Nat), (36 : Nat), (37 : Nat), (38 : Nat), (39 : Nat), (40 : Nat)] : St V }) := by kernel_rfl

theorem tl6 (s : Int) (l : List Three) (c : Nat) : runL cfgJ2 60 6 Try.f6 [.int .i64 s, .sl false 0 0 3 l.length c] [(1, .pool Pool.nil), (2, .pool Pool.nil), (0, .ro Kd.three l)] 3 = Out.ex Tbs fun y => Out.need (TT Pool.nil y) (Out.all (Pool × Nat) fun y_1 => Out.asm (TT y_1.fst (y ++ [(y_1.2, TM.new s)])) (Out.all (Pool × Nat × RL) fun y => Out.asm (RAt y.fst y.snd.1 y.snd.snd (TM.new s)) (Out.ite (some (y_1.2, (0 : Nat))).isNone (Out.fin (.bool !(some (y_1.2, (0 : Nat))).isNone) [] (0 : Nat)) (Out.ite (decide ((↑l.length : Int) > (200 : Int))) (Out.fin (.bool !(some (y_1.2, (0 : Nat))).isNone) [] (0 : Nat)) (Out.need (LoopFor Try.prog (6 : Nat) (0 : Nat) (loopOf Try.f6 (0 : Nat)) L6) (Out.ex (P6s → Prop) fun y_2 => Out.need ((3 : Nat) ≤ (3 : Nat) ∧ SImp (3 : Nat) {env := [((1 : Nat), .sl false (0 : Nat) (0 : Nat) (3 : Nat) l.length c), ((5 : Nat), .tt), ((6 : Nat), AV.rp (some (y_1.2, (0 : Nat)))), ((7 : Nat), AV.rp (some (y.snd.1, (0 : Nat)))), ((8 : Nat), .lit .i64 (0 : Int))], heap := [((1 : Nat), Blk.pool y_1.fst), ((2 : Nat), Blk.pool y.fst), ((0 : Nat), .ro Kd.three l)], nx := (3 : Nat), nt := (222 : Nat), tl := [(2 : Nat), (1 : Nat)] : St V } (fun q => SJ q.q {i := (0 : Nat), p1 := q.p1, p2 := q.p2 : X6 }) y_2) (Out.all P6s fun y => Out.asm (y_2 y) (Out.all X6 fun y_3 => Out.asm ((fun q x => J6 q.q x) y y_3) (Out.ex (Tbs × Nat) fun y_4 => Out.need (TIn y_3.p1 y_4 (some (y.q.3, (0 : Nat)))) (Out.all (List Ent) fun y_5 => Out.all Nat fun y_6 => Out.asm (AllRow (Tbs.at y_4).snd.get y_5 ∧ y_5.length = (Tbs.at y_4).snd.len ∧ y_5.length ≤ (1048576 : Nat)) (Out.ex RZ fun y_7 => Out.need (RIn y_3.p2 y_7 (some (y.q.4, (0 : Nat))) ∧ y_7.snd.snd.Good ∧ y_7.snd.snd.5 ≤ (1000000 : Nat)) (Out.all (List Ent × Nat) fun y_8 => Out.asm (AllRow y_7.snd.snd.get y_8.fst ∧ y_8.fst.length = y_7.snd.snd.5) (Out.need ((0 : Nat) + y_5.length ≤ y_5.length) (Out.need ((0 : Nat) + y_8.fst.length ≤ y_8.fst.length) (Out.need ((List.take y_5.length (List.drop (0 : Nat) y_5)).length ≤ (1099511627776 : Nat)) (Out.need (LoopFor Try.prog (6 : Nat) (3 : Nat) (loopOf Try.f6 (3 : Nat)) LW) (Out.ex (P63s → Prop) fun y_9 => Out.need ((5 : Nat) ≤ (5 : Nat) ∧ SImp (5 : Nat) {env := [((5 : Nat), .tt), ((6 : Nat), AV.rp (some (y.q.3, (0 : Nat)))), ((7 : Nat), AV.rp (some (y.q.4, (0 : Nat)))), ((23 : Nat), .sl false (3 : Nat) (0 : Nat) (4 : Nat) y_5.length (y_5.length + y_6)), ((24 : Nat), .bool (decide (List.take y_5.length (List.drop (0 : Nat) y_5) = List.take y_8.fst.length (List.drop (0 : Nat) y_8.fst)))), ((25 : Nat), .lit .i64 (0 : Int))], heap := [((3 : Nat), .arr (29 : Nat) Kd.ent y_5 y_6), ((1 : Nat), Blk.pool y_3.p1), ((2 : Nat), Blk.pool y_3.p2)], nx := (5 : Nat), nt := (222 : Nat), tl := [(4 : Nat), (0 : Nat), (1 : Nat), (0 : Nat), (1 : Nat), (2 : Nat), (3 : Nat), (4 : Nat), (5 : Nat), (6 : Nat), (7 : Nat), (8 : Nat), (9 : Nat), (10 : Nat), (11 : Nat), (12 : Nat), (13 : Nat), (14 : Nat), (15 : Nat), (16 : Nat), (17 : Nat), (18 : Nat), (19 : Nat), (20 : Nat), (21 : Nat), (22 : Nat), (23 : Nat), (24 : Nat), (25 : Nat), (26 : Nat), (27 : Nat), (28 : Nat), (29 : Nat), (30 : Nat), (31 : Nat), (32 : Nat), (33 : Nat), (34 : Nat), (35 : Nat), (36 : Nat), (37 : Nat), (38 : Nat), (39 : Nat), (40 : Nat)] : St V } (fun q => Sx.SW q.q {i := (0 : Nat), ys := q.ys : X63 }) y_9) (Out.all P63s fun y => Out.asm (y_9 y) (Out.all X63 fun y_10 => Out.asm ((fun q x => True) y y_10) (Out.ite y.q.sm (Out.ex (Tbs × Nat) fun y_11 => Out.need (TIn y.q.p1 y_11 (some (y.q.1, (0 : Nat)))) (Out.all (List Ent) fun y_12 => Out.all Nat fun y_13 => Out.asm (AllRow (Tbs.at y_11).snd.get y_12 ∧ y_12.length = (Tbs.at y_11).snd.len ∧ y_12.length ≤ (1048576 : Nat)) (Out.ex RZ fun y_14 => Out.need (RIn y.q.p2 y_14 (some (y.q.2, (0 : Nat))) ∧ y_14.snd.snd.Good ∧ y_14.snd.snd.5 ≤ (1000000 : Nat)) (Out.all (List Ent × Nat) fun y_15 => Out.asm (AllRow y_14.snd.snd.get y_15.fst ∧ y_15.fst.length = y_14.snd.snd.5) (Out.need ((0 : Nat) + y_12.length ≤ y_12.length) (Out.need ((0 : Nat) + y_15.fst.length ≤ y_15.fst.length) (Out.need ((List.take y_12.length (List.drop (0 : Nat) y_12)).length ≤ (1099511627776 : Nat)) (Out.ite (decide (List.take y_12.length (List.drop (0 : Nat) y_12) = List.take y_15.fst.length (List.drop (0 : Nat) y_15.fst))) (Out.ex (Tbs × Nat) fun y_16 => Out.need (TIn y.q.p1 y_16 (some (y.q.1, (0 : Nat)))) (Out.all Nat fun y => Out.fin (.bool ((0 : Int) == (0 : Int))) [] (0 : Nat))) (Out.fin .ff [] (0 : Nat)))))))))) (Out.fin .ff [] (0 : Nat)))))))))))))))))))))) := by kernel_rfl

end Sx
end Go.Proofs.Ytkadlfadmjhahaa

/-
  A table, call by call, beside the document's: the law.
-/
namespace Go.Proofs.Ytkadlfadmjhahaa
namespace Sx
open Go
set_option linter.unusedSimpArgs false
set_option linter.unusedVariables false

theorem hooksJ_ok : ∀ g H, hooksJ g = some H → HookOk Try.prog g H := by
  intro g H h
  unfold hooksJ at h
  split at h
  · cases h; exact hInts
  · cases h; exact cRNewT.hookAt
  · cases h; exact cRPut.hookAt
  · cases h; exact cRRem.hookAt
  · cases h; exact cRGet.hookAt
  · cases h; exact cRLen.hookAt
  · cases h; exact cRLeft.hookAt
  · cases h; exact cRChainF.hookAt
  · cases h; exact cRAll.hookAt
  · exact hooksW_ok _ _ h
theorem cfgJ_ok : cfgJ.ok := ⟨tab_met, kinds_met, mixed_met, fun g fn h => (by cases h), hooksJ_ok⟩
theorem cfgJ1_ok : cfgJ1.ok := ⟨tab_met, kinds_met, mixed_met, fun g fn h => (by cases h), hooksJ_ok⟩
theorem cfgJ2_ok : cfgJ2.ok := ⟨tab_met, kinds_met, mixed_met, fun g fn h => (by cases h), hooksJ_ok⟩
theorem AV.sub_true {m : Bool} (h : m = true) : (AV.bool m).sub .tt := by subst h; exact fun _ _ h => h
theorem AV.sub_false {m : Bool} (h : m = false) : (AV.bool m).sub .ff := by subst h; exact fun _ _ h => h
/-! ## the regions that are cut out -/
theorem reg16_ok : RegOk Try.prog (regOf Try.f6 16) L16 := by
  refine trimReg_ok (trim_ok _ _) (regT_ok (C := cfgJ) cfgJ_ok (f := 6) (n := 60) (trim_ok [1, 5, 6, 7, 8, 10] [0, 1, 2]) 9 R16 (fun _ (_ : Unit) => True) (fun z _ => S10 z.q z.x) fun z => ?_)
  rw [tr16]
  refine ⟨fun _ => SImp.of_wk (ren := []) () (by (refine ⟨?_, ?_, rfl, tl_ok rfl, ?_, ⟨Nat.le_of_ble_eq_true rfl, rfl⟩⟩ <;> (repeat' first | with_reducible exact trivial | (exact AV.sub_true (by simp)) | exact AV.sub_same _ | exact .same _ | exact .inr rfl | exact .inl (in_ok rfl) | exact AV.sub_lit' | exact AV.sub_nilS | exact .none _ _ | exact trivial | refine ⟨?_, ?_⟩))) trivial, fun h => ?_⟩
  exfalso; simp at h
theorem reg20_ok : RegOk Try.prog (regOf Try.f6 20) L20 := by
  refine trimReg_ok (trim_ok _ _) (regT_ok (C := cfgJ) cfgJ_ok (f := 6) (n := 60) (trim_ok [1, 5, 6, 7, 8, 10] [0, 1, 2]) 9 R20 (fun _ (_ : Unit) => True) (fun z _ => S10 z.q z.x) fun z => ?_)
  rw [tr20]
  refine ⟨fun _ => SImp.of_wk (ren := []) () (by (refine ⟨?_, ?_, rfl, tl_ok rfl, ?_, ⟨Nat.le_of_ble_eq_true rfl, rfl⟩⟩ <;> (repeat' first | with_reducible exact trivial | (exact AV.sub_true (by simp)) | exact AV.sub_same _ | exact .same _ | exact .inr rfl | exact .inl (in_ok rfl) | exact AV.sub_lit' | exact AV.sub_nilS | exact .none _ _ | exact trivial | refine ⟨?_, ?_⟩))) trivial, fun h => ?_⟩
  exfalso; simp at h
theorem reg23_ok : RegOk Try.prog (regOf Try.f6 23) L23 := by
  refine trimReg_ok (trim_ok _ _) (regT_ok (C := cfgJ) cfgJ_ok (f := 6) (n := 60) (trim_ok [1, 5, 6, 7, 8, 188] [0, 1, 2]) 13 R23 (fun _ (_ : Unit) => True) (fun z _ => F23 z.q z.x) fun z => ?_)
  rw [tr23]
  obtain ⟨q, x, e, w, t, L, hT, hA, hi, hn⟩ := z
  dsimp only
  have hl := q.hl
  have hG : t.Good := hT.good (i := 0) Nat.zero_lt_one
  have hz : TIn x.p1 ([(q.b, t)], 0) (some (q.b, 0)) := ⟨hT, Nat.zero_lt_one, rfl⟩
  have hI : RIn x.p2 (q.d, L, t) (some (q.d, 0)) := ⟨rfl, hA, hG.core⟩
  have hlen : t.len ≤ 1000000 := by omega
  have hbl := hA.bl
  refine ⟨fun h => ?_, fun _ => ⟨fun h => ?_, fun _ => ⟨([(q.b, t)], 0), hz, (q.d, L, t), ⟨hI, hG, hlen⟩, fun h => ?_, fun _ => ⟨rfl, rfl, false, fun h => by (cases h), fun _ => ⟨_, _, _, hA.fB, ([(q.b, t)], 0), hz, fun h => ?_, fun _ => ⟨([(q.b, t)], 0), hz, (q.d, L, t), hI, fun h => ?_, fun _ => ⟨([(q.b, t)], 0), hz, fun sp => ⟨(q.d, L, t), ⟨hI, fun i => ?_⟩, fun sp2 => ⟨?_, ?_, ?_, ?_⟩⟩⟩⟩⟩⟩⟩⟩⟩
  · exfalso; simp at h
  · exfalso; simp at h
  · exfalso
    have h : ((t.len : Int) != (t.len : Int)) = true := h
    simp at h
  · exfalso
    have h : ((t.B.length : Int) != (L.B.length : Int)) = true := h
    rw [hbl] at h; simp at h
  · exfalso
    have h : ((t.left : Int) != (t.left : Int)) = true := h
    simp at h
  · have := TM.chain_le hG i
    show (t.B.getD i []).length ≤ _
    omega
  · omega
  · omega
  · rw [List.length_take]
    have h1 := TM.chain_le hG (bitsOp .and .i64 (x.i : Int) 31).toNat
    show min (t.chainKeys (bitsOp .and .i64 (x.i : Int) 31)).length _ ≤ _
    have h2 : (t.chainKeys (bitsOp .and .i64 (x.i : Int) 31)).length ≤ t.len := by
      unfold TM.chainKeys
      split
      · rw [List.length_map]; exact h1
      · exact Nat.zero_le _
    omega
  · exact SImp.of_wk (ren := []) () (by (refine ⟨?_, ?_, rfl, tl_ok rfl, ?_, ⟨Nat.le_of_ble_eq_true rfl, rfl⟩⟩ <;> (repeat' first | with_reducible exact trivial | (exact AV.sub_false (by simp [Tbs.at])) | exact AV.sub_same _ | exact .same _ | exact .inr rfl | exact .inl (in_ok rfl) | exact AV.sub_lit' | exact AV.sub_nilS | exact .none _ _ | exact trivial | refine ⟨?_, ?_⟩))) trivial

/-! ## a step -/
theorem sbody6 (q : P6) (x : X6) (h : J6 q x) (Q : EX → St V → Prop) (F : AV → Heap V → Nat → Prop)
    (hnx : ∀ (ST : St V) (y : X6), x.i < q.l.length → J6 q y → y.i = x.i + 1 → Wk 3 [] ST (SJ q y) → Q .nx ST) (hex : ∀ ST : St V, x.i = q.l.length → Wk 3 [] ST (SJ q x) → Q (.ex 0) ST) :
    (runCode cfgJ1 60 6 (loopOf Try.f6 0) (SJ q x) (stopT (trimSt [1, 5, 6, 7, 8] [0, 1, 2]))).holds ⟨Q, F⟩ := by
  rw [tb6]
  obtain ⟨hle, t, L, hT, hA, hn⟩ := h
  have hl := q.hl
  have hG : t.Good := hT.good (i := 0) Nat.zero_lt_one
  have hz : TIn x.p1 ([(q.b, t)], 0) (some (q.b, 0)) := ⟨hT, Nat.zero_lt_one, rfl⟩
  have hI : RIn x.p2 (q.d, L, t) (some (q.d, 0)) := ⟨rfl, hA, hG.core⟩
  refine ⟨fun hlt => ?_, fun hge => hex _ (by have := of_decide_eq_false hge; omega) (by (refine ⟨?_, ?_, rfl, tl_ok rfl, ?_, ⟨Nat.le_of_ble_eq_true rfl, rfl⟩⟩ <;> (repeat' first | with_reducible exact trivial | exact AV.sub_same _ | exact .same _ | exact .inr rfl | exact .inl (in_ok rfl) | exact AV.sub_lit' | exact AV.sub_nilS | exact .none _ _ | exact trivial | refine ⟨?_, ?_⟩)))⟩
  have hlt : x.i < q.l.length := by have := of_decide_eq_true hlt; omega
  have hw : IntKind.wrap .i64 ((x.i : Int) + 1) = ((x.i + 1 : Nat) : Int) := wrap_nat (by omega)
  have hb : (0 : Int) ≤ (x.i : Int) ∧ (x.i : Int) < (q.l.length : Int) := ⟨by omega, by omega⟩
  have hb2 : 0 + x.i < q.l.length := by omega
  refine ⟨hb, hb2, hb, hb2, hb, hb2, fun c1 => ⟨fun c2 => ?_, fun c2 => ⟨fun c3 => ?_, fun c3 => ?_⟩⟩, fun c1 => ⟨fun c2 => ?_, fun c2 => ⟨fun c3 => ?_, fun c3 => ?_⟩⟩⟩
  · refine ⟨([(q.b, t)], 0), ⟨hz, by show t.len < _; omega⟩, fun p1 hp1 => ⟨(q.d, L, t), ⟨hI, hG, by show t.len < _; omega⟩, ?_⟩⟩
    have hp1 : TT p1 [(q.b, t.put ⟨(q.l.getD (0 + x.i) (V.enc Kd.three).dflt).b, (q.l.getD (0 + x.i) (V.enc Kd.three).dflt).c, (x.i : Int), (x.i : Int)⟩)] := hp1
    rintro ⟨p2, L2⟩ hA2
    have hA2 : RAt p2 q.d L2 (t.put ⟨(q.l.getD (0 + x.i) (V.enc Kd.three).dflt).b, (q.l.getD (0 + x.i) (V.enc Kd.three).dflt).c, (x.i : Int), (x.i : Int)⟩) := hA2
    have hn2 : (t.put ⟨(q.l.getD (0 + x.i) (V.enc Kd.three).dflt).b, (q.l.getD (0 + x.i) (V.enc Kd.three).dflt).c, (x.i : Int), (x.i : Int)⟩).len ≤ x.i + 1 := by rw [(put_good hG _).2.2]; split <;> omega
    let z0 : R6 := ⟨q, ⟨x.i, p1, p2⟩, (t.get (q.l.getD (0 + x.i) (V.enc Kd.three).dflt).b).getD e0, (t.get (q.l.getD (0 + x.i) (V.enc Kd.three).dflt).b).isSome⟩
    refine ⟨reg16_ok, fun y => y = z0, ⟨by decide, SImp.of_wk (ren := []) z0 (by (refine ⟨?_, ?_, rfl, tl_ok rfl, ?_, ⟨Nat.le_of_ble_eq_true rfl, rfl⟩⟩ <;> (repeat' first | with_reducible exact trivial | exact AV.sub_same _ | exact .same _ | exact .inr rfl | exact .inl (in_ok rfl) | exact AV.sub_lit' | exact AV.sub_nilS | exact .none _ _ | exact trivial | refine ⟨?_, ?_⟩))) rfl⟩, ?_⟩
    rintro _ rfl _ _
    have hG' : (t.put ⟨(q.l.getD (0 + x.i) (V.enc Kd.three).dflt).b, (q.l.getD (0 + x.i) (V.enc Kd.three).dflt).c, (x.i : Int), (x.i : Int)⟩).Good := hp1.good (i := 0) Nat.zero_lt_one
    have hz' : TIn p1 ([(q.b, t.put ⟨(q.l.getD (0 + x.i) (V.enc Kd.three).dflt).b, (q.l.getD (0 + x.i) (V.enc Kd.three).dflt).c, (x.i : Int), (x.i : Int)⟩)], 0) (some (q.b, 0)) := ⟨hp1, Nat.zero_lt_one, rfl⟩
    have hI' : RIn p2 (q.d, L2, t.put ⟨(q.l.getD (0 + x.i) (V.enc Kd.three).dflt).b, (q.l.getD (0 + x.i) (V.enc Kd.three).dflt).c, (x.i : Int), (x.i : Int)⟩) (some (q.d, 0)) := ⟨rfl, hA2, hG'.core⟩
    have hcl := TM.core_chain hG' (q.l.getD (0 + x.i) (V.enc Kd.three).dflt).c
    generalize t.put ⟨(q.l.getD (0 + x.i) (V.enc Kd.three).dflt).b, (q.l.getD (0 + x.i) (V.enc Kd.three).dflt).c, (x.i : Int), (x.i : Int)⟩ = t' at *
    let z : R6b := ⟨q, ⟨x.i, p1, p2⟩, (t'.get (q.l.getD (0 + x.i) (V.enc Kd.three).dflt).c).getD e0, (t'.get (q.l.getD (0 + x.i) (V.enc Kd.three).dflt).c).isSome, t', L2, hp1, hA2, hlt, hn2⟩
    refine ⟨hb, hb2, ([(q.b, t')], 0), hz', hb, hb2, (q.d, L2, t'), ⟨hI', Nat.le_trans hcl (by omega)⟩, reg23_ok, fun y => y = z, ⟨by decide, SImp.of_wk (ren := [(13, 9), (14, 11)]) z (by (refine ⟨?_, ?_, rfl, tl_ok rfl, ?_, ⟨Nat.le_of_ble_eq_true rfl, rfl⟩⟩ <;> (repeat' first | with_reducible exact trivial | exact AV.sub_same _ | exact .same _ | exact .inr rfl | exact .inl (in_ok rfl) | exact AV.sub_lit' | exact AV.sub_nilS | exact .none _ _ | exact trivial | refine ⟨?_, ?_⟩))) rfl⟩, ?_⟩
    rintro _ rfl _ _
    exact hnx _ ⟨x.i + 1, p1, p2⟩ hlt ⟨hlt, t', L2, hp1, hA2, hn2⟩ rfl (by (refine ⟨?_, ?_, rfl, tl_ok rfl, ?_, ⟨Nat.le_of_ble_eq_true rfl, rfl⟩⟩ <;> (repeat' first | with_reducible exact trivial | (exact AV.sub_int hw) | exact AV.sub_same _ | exact .same _ | exact .inr rfl | exact .inl (in_ok rfl) | exact AV.sub_lit' | exact AV.sub_nilS | exact .none _ _ | exact trivial | refine ⟨?_, ?_⟩)))
  · refine ⟨hb, hb2, ([(q.b, t)], 0), hz, fun p1 hp1 => ⟨hb, hb2, (q.d, L, t), ⟨hI, hG, by show t.len ≤ _; omega⟩, ?_⟩⟩
    have hp1 : TT p1 [(q.b, t.remove (q.l.getD (0 + x.i) (V.enc Kd.three).dflt).b)] := hp1
    rintro ⟨p2, L2⟩ hA2
    have hA2 : RAt p2 q.d L2 (t.remove (q.l.getD (0 + x.i) (V.enc Kd.three).dflt).b) := hA2
    have hn2 : (t.remove (q.l.getD (0 + x.i) (V.enc Kd.three).dflt).b).len ≤ x.i + 1 := by rw [(remove_good hG _).2.2.1]; omega
    let z0 : R6 := ⟨q, ⟨x.i, p1, p2⟩, (t.get (q.l.getD (0 + x.i) (V.enc Kd.three).dflt).b).getD e0, (t.get (q.l.getD (0 + x.i) (V.enc Kd.three).dflt).b).isSome⟩
    refine ⟨reg20_ok, fun y => y = z0, ⟨by decide, SImp.of_wk (ren := []) z0 (by (refine ⟨?_, ?_, rfl, tl_ok rfl, ?_, ⟨Nat.le_of_ble_eq_true rfl, rfl⟩⟩ <;> (repeat' first | with_reducible exact trivial | exact AV.sub_same _ | exact .same _ | exact .inr rfl | exact .inl (in_ok rfl) | exact AV.sub_lit' | exact AV.sub_nilS | exact .none _ _ | exact trivial | refine ⟨?_, ?_⟩))) rfl⟩, ?_⟩
    rintro _ rfl _ _
    have hG' : (t.remove (q.l.getD (0 + x.i) (V.enc Kd.three).dflt).b).Good := hp1.good (i := 0) Nat.zero_lt_one
    have hz' : TIn p1 ([(q.b, t.remove (q.l.getD (0 + x.i) (V.enc Kd.three).dflt).b)], 0) (some (q.b, 0)) := ⟨hp1, Nat.zero_lt_one, rfl⟩
    have hI' : RIn p2 (q.d, L2, t.remove (q.l.getD (0 + x.i) (V.enc Kd.three).dflt).b) (some (q.d, 0)) := ⟨rfl, hA2, hG'.core⟩
    have hcl := TM.core_chain hG' (q.l.getD (0 + x.i) (V.enc Kd.three).dflt).c
    generalize t.remove (q.l.getD (0 + x.i) (V.enc Kd.three).dflt).b = t' at *
    let z : R6b := ⟨q, ⟨x.i, p1, p2⟩, (t'.get (q.l.getD (0 + x.i) (V.enc Kd.three).dflt).c).getD e0, (t'.get (q.l.getD (0 + x.i) (V.enc Kd.three).dflt).c).isSome, t', L2, hp1, hA2, hlt, hn2⟩
    refine ⟨hb, hb2, ([(q.b, t')], 0), hz', hb, hb2, (q.d, L2, t'), ⟨hI', Nat.le_trans hcl (by omega)⟩, reg23_ok, fun y => y = z, ⟨by decide, SImp.of_wk (ren := [(13, 9), (14, 11)]) z (by (refine ⟨?_, ?_, rfl, tl_ok rfl, ?_, ⟨Nat.le_of_ble_eq_true rfl, rfl⟩⟩ <;> (repeat' first | with_reducible exact trivial | exact AV.sub_same _ | exact .same _ | exact .inr rfl | exact .inl (in_ok rfl) | exact AV.sub_lit' | exact AV.sub_nilS | exact .none _ _ | exact trivial | refine ⟨?_, ?_⟩))) rfl⟩, ?_⟩
    rintro _ rfl _ _
    exact hnx _ ⟨x.i + 1, p1, p2⟩ hlt ⟨hlt, t', L2, hp1, hA2, hn2⟩ rfl (by (refine ⟨?_, ?_, rfl, tl_ok rfl, ?_, ⟨Nat.le_of_ble_eq_true rfl, rfl⟩⟩ <;> (repeat' first | with_reducible exact trivial | (exact AV.sub_int hw) | exact AV.sub_same _ | exact .same _ | exact .inr rfl | exact .inl (in_ok rfl) | exact AV.sub_lit' | exact AV.sub_nilS | exact .none _ _ | exact trivial | refine ⟨?_, ?_⟩)))
  · have hn2 : t.len ≤ x.i + 1 := by omega
    have hG' : (t).Good := hT.good (i := 0) Nat.zero_lt_one
    have hz' : TIn x.p1 ([(q.b, t)], 0) (some (q.b, 0)) := ⟨hT, Nat.zero_lt_one, rfl⟩
    have hI' : RIn x.p2 (q.d, L, t) (some (q.d, 0)) := ⟨rfl, hA, hG'.core⟩
    have hcl := TM.core_chain hG' (q.l.getD (0 + x.i) (V.enc Kd.three).dflt).c
    let z : R6b := ⟨q, ⟨x.i, x.p1, x.p2⟩, (t.get (q.l.getD (0 + x.i) (V.enc Kd.three).dflt).c).getD e0, (t.get (q.l.getD (0 + x.i) (V.enc Kd.three).dflt).c).isSome, t, L, hT, hA, hlt, hn2⟩
    refine ⟨hb, hb2, ([(q.b, t)], 0), hz', hb, hb2, (q.d, L, t), ⟨hI', Nat.le_trans hcl (by omega)⟩, reg23_ok, fun y => y = z, ⟨by decide, SImp.of_wk (ren := [(13, 5), (14, 7)]) z (by (refine ⟨?_, ?_, rfl, tl_ok rfl, ?_, ⟨Nat.le_of_ble_eq_true rfl, rfl⟩⟩ <;> (repeat' first | with_reducible exact trivial | exact AV.sub_same _ | exact .same _ | exact .inr rfl | exact .inl (in_ok rfl) | exact AV.sub_lit' | exact AV.sub_nilS | exact .none _ _ | exact trivial | refine ⟨?_, ?_⟩))) rfl⟩, ?_⟩
    rintro _ rfl _ _
    exact hnx _ ⟨x.i + 1, x.p1, x.p2⟩ hlt ⟨hlt, t, L, hT, hA, hn2⟩ rfl (by (refine ⟨?_, ?_, rfl, tl_ok rfl, ?_, ⟨Nat.le_of_ble_eq_true rfl, rfl⟩⟩ <;> (repeat' first | with_reducible exact trivial | (exact AV.sub_int hw) | exact AV.sub_same _ | exact .same _ | exact .inr rfl | exact .inl (in_ok rfl) | exact AV.sub_lit' | exact AV.sub_nilS | exact .none _ _ | exact trivial | refine ⟨?_, ?_⟩)))
  · refine ⟨([(q.b, t)], 0), ⟨hz, by show t.len < _; omega⟩, fun p1 hp1 => ⟨(q.d, L, t), ⟨hI, hG, by show t.len < _; omega⟩, ?_⟩⟩
    have hp1 : TT p1 [(q.b, t.put ⟨(q.l.getD (0 + x.i) (V.enc Kd.three).dflt).b, (q.l.getD (0 + x.i) (V.enc Kd.three).dflt).c, (x.i : Int), (x.i : Int)⟩)] := hp1
    rintro ⟨p2, L2⟩ hA2
    have hA2 : RAt p2 q.d L2 (t.put ⟨(q.l.getD (0 + x.i) (V.enc Kd.three).dflt).b, (q.l.getD (0 + x.i) (V.enc Kd.three).dflt).c, (x.i : Int), (x.i : Int)⟩) := hA2
    have hn2 : (t.put ⟨(q.l.getD (0 + x.i) (V.enc Kd.three).dflt).b, (q.l.getD (0 + x.i) (V.enc Kd.three).dflt).c, (x.i : Int), (x.i : Int)⟩).len ≤ x.i + 1 := by rw [(put_good hG _).2.2]; split <;> omega
    let z0 : R6 := ⟨q, ⟨x.i, p1, p2⟩, (t.get (q.l.getD (0 + x.i) (V.enc Kd.three).dflt).b).getD e0, (t.get (q.l.getD (0 + x.i) (V.enc Kd.three).dflt).b).isSome⟩
    refine ⟨reg16_ok, fun y => y = z0, ⟨by decide, SImp.of_wk (ren := []) z0 (by (refine ⟨?_, ?_, rfl, tl_ok rfl, ?_, ⟨Nat.le_of_ble_eq_true rfl, rfl⟩⟩ <;> (repeat' first | with_reducible exact trivial | exact AV.sub_same _ | exact .same _ | exact .inr rfl | exact .inl (in_ok rfl) | exact AV.sub_lit' | exact AV.sub_nilS | exact .none _ _ | exact trivial | refine ⟨?_, ?_⟩))) rfl⟩, ?_⟩
    rintro _ rfl _ _
    have hG' : (t.put ⟨(q.l.getD (0 + x.i) (V.enc Kd.three).dflt).b, (q.l.getD (0 + x.i) (V.enc Kd.three).dflt).c, (x.i : Int), (x.i : Int)⟩).Good := hp1.good (i := 0) Nat.zero_lt_one
    have hz' : TIn p1 ([(q.b, t.put ⟨(q.l.getD (0 + x.i) (V.enc Kd.three).dflt).b, (q.l.getD (0 + x.i) (V.enc Kd.three).dflt).c, (x.i : Int), (x.i : Int)⟩)], 0) (some (q.b, 0)) := ⟨hp1, Nat.zero_lt_one, rfl⟩
    have hI' : RIn p2 (q.d, L2, t.put ⟨(q.l.getD (0 + x.i) (V.enc Kd.three).dflt).b, (q.l.getD (0 + x.i) (V.enc Kd.three).dflt).c, (x.i : Int), (x.i : Int)⟩) (some (q.d, 0)) := ⟨rfl, hA2, hG'.core⟩
    have hcl := TM.core_chain hG' (q.l.getD (0 + x.i) (V.enc Kd.three).dflt).c
    generalize t.put ⟨(q.l.getD (0 + x.i) (V.enc Kd.three).dflt).b, (q.l.getD (0 + x.i) (V.enc Kd.three).dflt).c, (x.i : Int), (x.i : Int)⟩ = t' at *
    let z : R6b := ⟨q, ⟨x.i, p1, p2⟩, (t'.get (q.l.getD (0 + x.i) (V.enc Kd.three).dflt).c).getD e0, (t'.get (q.l.getD (0 + x.i) (V.enc Kd.three).dflt).c).isSome, t', L2, hp1, hA2, hlt, hn2⟩
    refine ⟨hb, hb2, ([(q.b, t')], 0), hz', hb, hb2, (q.d, L2, t'), ⟨hI', Nat.le_trans hcl (by omega)⟩, reg23_ok, fun y => y = z, ⟨by decide, SImp.of_wk (ren := [(13, 9), (14, 11)]) z (by (refine ⟨?_, ?_, rfl, tl_ok rfl, ?_, ⟨Nat.le_of_ble_eq_true rfl, rfl⟩⟩ <;> (repeat' first | with_reducible exact trivial | exact AV.sub_same _ | exact .same _ | exact .inr rfl | exact .inl (in_ok rfl) | exact AV.sub_lit' | exact AV.sub_nilS | exact .none _ _ | exact trivial | refine ⟨?_, ?_⟩))) rfl⟩, ?_⟩
    rintro _ rfl _ _
    exact hnx _ ⟨x.i + 1, p1, p2⟩ hlt ⟨hlt, t', L2, hp1, hA2, hn2⟩ rfl (by (refine ⟨?_, ?_, rfl, tl_ok rfl, ?_, ⟨Nat.le_of_ble_eq_true rfl, rfl⟩⟩ <;> (repeat' first | with_reducible exact trivial | (exact AV.sub_int hw) | exact AV.sub_same _ | exact .same _ | exact .inr rfl | exact .inl (in_ok rfl) | exact AV.sub_lit' | exact AV.sub_nilS | exact .none _ _ | exact trivial | refine ⟨?_, ?_⟩)))
  · refine ⟨hb, hb2, ([(q.b, t)], 0), hz, fun p1 hp1 => ⟨hb, hb2, (q.d, L, t), ⟨hI, hG, by show t.len ≤ _; omega⟩, ?_⟩⟩
    have hp1 : TT p1 [(q.b, t.remove (q.l.getD (0 + x.i) (V.enc Kd.three).dflt).b)] := hp1
    rintro ⟨p2, L2⟩ hA2
    have hA2 : RAt p2 q.d L2 (t.remove (q.l.getD (0 + x.i) (V.enc Kd.three).dflt).b) := hA2
    have hn2 : (t.remove (q.l.getD (0 + x.i) (V.enc Kd.three).dflt).b).len ≤ x.i + 1 := by rw [(remove_good hG _).2.2.1]; omega
    let z0 : R6 := ⟨q, ⟨x.i, p1, p2⟩, (t.get (q.l.getD (0 + x.i) (V.enc Kd.three).dflt).b).getD e0, (t.get (q.l.getD (0 + x.i) (V.enc Kd.three).dflt).b).isSome⟩
    refine ⟨reg20_ok, fun y => y = z0, ⟨by decide, SImp.of_wk (ren := []) z0 (by (refine ⟨?_, ?_, rfl, tl_ok rfl, ?_, ⟨Nat.le_of_ble_eq_true rfl, rfl⟩⟩ <;> (repeat' first | with_reducible exact trivial | exact AV.sub_same _ | exact .same _ | exact .inr rfl | exact .inl (in_ok rfl) | exact AV.sub_lit' | exact AV.sub_nilS | exact .none _ _ | exact trivial | refine ⟨?_, ?_⟩))) rfl⟩, ?_⟩
    rintro _ rfl _ _
    have hG' : (t.remove (q.l.getD (0 + x.i) (V.enc Kd.three).dflt).b).Good := hp1.good (i := 0) Nat.zero_lt_one
    have hz' : TIn p1 ([(q.b, t.remove (q.l.getD (0 + x.i) (V.enc Kd.three).dflt).b)], 0) (some (q.b, 0)) := ⟨hp1, Nat.zero_lt_one, rfl⟩
    have hI' : RIn p2 (q.d, L2, t.remove (q.l.getD (0 + x.i) (V.enc Kd.three).dflt).b) (some (q.d, 0)) := ⟨rfl, hA2, hG'.core⟩
    have hcl := TM.core_chain hG' (q.l.getD (0 + x.i) (V.enc Kd.three).dflt).c
    generalize t.remove (q.l.getD (0 + x.i) (V.enc Kd.three).dflt).b = t' at *
    let z : R6b := ⟨q, ⟨x.i, p1, p2⟩, (t'.get (q.l.getD (0 + x.i) (V.enc Kd.three).dflt).c).getD e0, (t'.get (q.l.getD (0 + x.i) (V.enc Kd.three).dflt).c).isSome, t', L2, hp1, hA2, hlt, hn2⟩
    refine ⟨hb, hb2, ([(q.b, t')], 0), hz', hb, hb2, (q.d, L2, t'), ⟨hI', Nat.le_trans hcl (by omega)⟩, reg23_ok, fun y => y = z, ⟨by decide, SImp.of_wk (ren := [(13, 9), (14, 11)]) z (by (refine ⟨?_, ?_, rfl, tl_ok rfl, ?_, ⟨Nat.le_of_ble_eq_true rfl, rfl⟩⟩ <;> (repeat' first | with_reducible exact trivial | exact AV.sub_same _ | exact .same _ | exact .inr rfl | exact .inl (in_ok rfl) | exact AV.sub_lit' | exact AV.sub_nilS | exact .none _ _ | exact trivial | refine ⟨?_, ?_⟩))) rfl⟩, ?_⟩
    rintro _ rfl _ _
    exact hnx _ ⟨x.i + 1, p1, p2⟩ hlt ⟨hlt, t', L2, hp1, hA2, hn2⟩ rfl (by (refine ⟨?_, ?_, rfl, tl_ok rfl, ?_, ⟨Nat.le_of_ble_eq_true rfl, rfl⟩⟩ <;> (repeat' first | with_reducible exact trivial | (exact AV.sub_int hw) | exact AV.sub_same _ | exact .same _ | exact .inr rfl | exact .inl (in_ok rfl) | exact AV.sub_lit' | exact AV.sub_nilS | exact .none _ _ | exact trivial | refine ⟨?_, ?_⟩)))
  · have hn2 : t.len ≤ x.i + 1 := by omega
    have hG' : (t).Good := hT.good (i := 0) Nat.zero_lt_one
    have hz' : TIn x.p1 ([(q.b, t)], 0) (some (q.b, 0)) := ⟨hT, Nat.zero_lt_one, rfl⟩
    have hI' : RIn x.p2 (q.d, L, t) (some (q.d, 0)) := ⟨rfl, hA, hG'.core⟩
    have hcl := TM.core_chain hG' (q.l.getD (0 + x.i) (V.enc Kd.three).dflt).c
    let z : R6b := ⟨q, ⟨x.i, x.p1, x.p2⟩, (t.get (q.l.getD (0 + x.i) (V.enc Kd.three).dflt).c).getD e0, (t.get (q.l.getD (0 + x.i) (V.enc Kd.three).dflt).c).isSome, t, L, hT, hA, hlt, hn2⟩
    refine ⟨hb, hb2, ([(q.b, t)], 0), hz', hb, hb2, (q.d, L, t), ⟨hI', Nat.le_trans hcl (by omega)⟩, reg23_ok, fun y => y = z, ⟨by decide, SImp.of_wk (ren := [(13, 5), (14, 7)]) z (by (refine ⟨?_, ?_, rfl, tl_ok rfl, ?_, ⟨Nat.le_of_ble_eq_true rfl, rfl⟩⟩ <;> (repeat' first | with_reducible exact trivial | exact AV.sub_same _ | exact .same _ | exact .inr rfl | exact .inl (in_ok rfl) | exact AV.sub_lit' | exact AV.sub_nilS | exact .none _ _ | exact trivial | refine ⟨?_, ?_⟩))) rfl⟩, ?_⟩
    rintro _ rfl _ _
    exact hnx _ ⟨x.i + 1, x.p1, x.p2⟩ hlt ⟨hlt, t, L, hT, hA, hn2⟩ rfl (by (refine ⟨?_, ?_, rfl, tl_ok rfl, ?_, ⟨Nat.le_of_ble_eq_true rfl, rfl⟩⟩ <;> (repeat' first | with_reducible exact trivial | (exact AV.sub_int hw) | exact AV.sub_same _ | exact .same _ | exact .inr rfl | exact .inl (in_ok rfl) | exact AV.sub_lit' | exact AV.sub_nilS | exact .none _ _ | exact trivial | refine ⟨?_, ?_⟩)))
theorem l6_ok : LoopOk Try.prog 0 (loopOf Try.f6 0) L6 := by
  refine trimLoop_ok (trim_ok _ _) (loopTH_ok (C := cfgJ1) cfgJ1_ok (f := 6) (n := 60) (trim_ok [1, 5, 6, 7, 8] [0, 1, 2]) 3 (fun p : P6s => SJ p.q) (fun p x => J6 p.q x) (fun p => ⟨0, p.p1, p.p2⟩) (fun p x => p.q.l.length - x.i) (fun p (y : X6) => J6 p.q y) (fun p y => SJ p.q y) (fun p => p.h) ?_)
  intro p x h
  refine sbody6 p.q x h _ _ (fun ST y hlt hy he hw => SImp.of_wk y hw ⟨hy, ?_⟩) (fun ST he hw => ⟨rfl, SImp.of_wk (ren := []) x hw h⟩)
  show p.q.l.length - y.i < p.q.l.length - x.i; omega
theorem wbody6 (q : P63) (x : X63) (h : JW q x) (Q : EX → St V → Prop) (F : AV → Heap V → Nat → Prop)
    (hnx : ∀ (ST : St V) (y : X63), x.i < q.n → JW q y → y.i = x.i + 1 → Wk 5 [] ST (SW q y) → Q .nx ST) (hex : ∀ ST : St V, Wk 5 [] ST (SW q x) → Q (.ex 3) ST) :
    (runCode cfgJ 60 6 (loopOf Try.f6 3) (SW q x) (stopT (trimSt [5, 6, 7, 23, 24, 25] [1, 2, 3]))).holds ⟨Q, F⟩ := by
  rw [tw6]
  obtain ⟨hle, hyl⟩ := h
  have hn := q.hn
  refine ⟨fun hlt => ?_, fun hge => hex _ (by (refine ⟨?_, ?_, rfl, tl_ok rfl, ?_, ⟨Nat.le_of_ble_eq_true rfl, rfl⟩⟩ <;> (repeat' first | with_reducible exact trivial | exact AV.sub_same _ | exact .same _ | exact .inr rfl | exact .inl (in_ok rfl) | exact AV.sub_lit' | exact AV.sub_nilS | exact .none _ _ | exact trivial | refine ⟨?_, ?_⟩)))⟩
  have hlt : x.i < q.n := by have := of_decide_eq_true hlt; omega
  have hw : IntKind.wrap .i64 ((x.i : Int) + 1) = ((x.i + 1 : Nat) : Int) := wrap_nat (by omega)
  let ys : List Ent := x.ys.set (0 + x.i) ⟨-7, (x.ys.getD (0 + x.i) (V.enc Kd.ent).dflt).value, (x.ys.getD (0 + x.i) (V.enc Kd.ent).dflt).weight, (x.ys.getD (0 + x.i) (V.enc Kd.ent).dflt).node⟩
  exact ⟨⟨by omega, by omega⟩, by omega, hnx _ ⟨x.i + 1, ys⟩ hlt ⟨hlt, by show (List.set _ _ _).length = _; rw [List.length_set]; exact hyl⟩ rfl (by (refine ⟨?_, ?_, rfl, tl_ok rfl, ?_, ⟨Nat.le_of_ble_eq_true rfl, rfl⟩⟩ <;> (repeat' first | with_reducible exact trivial | (exact AV.sub_int hw) | exact AV.sub_same _ | exact .same _ | exact .inr rfl | exact .inl (in_ok rfl) | exact AV.sub_lit' | exact AV.sub_nilS | exact .none _ _ | exact trivial | refine ⟨?_, ?_⟩)))⟩
theorem lW_ok : LoopOk Try.prog 3 (loopOf Try.f6 3) LW := by
  refine trimLoop_ok (trim_ok _ _) (loopTH_ok (C := cfgJ) cfgJ_ok (f := 6) (n := 60) (trim_ok [5, 6, 7, 23, 24, 25] [1, 2, 3]) 5 (fun p : P63s => SW p.q) (fun p x => JW p.q x) (fun p => ⟨0, p.ys⟩) (fun p x => p.q.n - x.i) (fun p (y : X63) => True) (fun p y => SW p.q y) (fun p => p.h) ?_)
  intro p x h
  refine wbody6 p.q x h _ _ (fun ST y hlt hy he hw => SImp.of_wk y hw ⟨hy, ?_⟩) (fun ST hw => ⟨rfl, SImp.of_wk (ren := []) x hw trivial⟩)
  show p.q.n - y.i < p.q.n - x.i; omega
theorem take_all (l : List Ent) : List.take l.length (List.drop 0 l) = l := by simp
/-- The law, as the machine tells it. -/
theorem law6 (s : Int) (l : List Three) (c : Nat) : (runL cfgJ2 60 6 Try.f6 [.int .i64 s, .sl false 0 0 3 l.length c] [(1, .pool Pool.nil), (2, .pool Pool.nil), (0, .ro Kd.three l)] 3).holds ⟨fun _ _ => False, fun v _ _ => v.sub .tt⟩ := by
  rw [tl6]
  refine ⟨[], TT.nil, ?_⟩
  rintro ⟨p1, b⟩ h1
  have h1 : TT p1 [(b, TM.new s)] := h1
  rintro ⟨p2, d, L⟩ h2
  have h2 : RAt p2 d L (TM.new s) := h2
  refine ⟨fun _ => AV.sub_same _, fun _ => ⟨fun _ => AV.sub_same _, fun hl => ?_⟩⟩
  have hl : l.length ≤ 200 := by have := of_decide_eq_false hl; omega
  let q : P6 := ⟨l, c, b, d, hl⟩
  have hJ : J6 q ⟨0, p1, p2⟩ := ⟨Nat.zero_le _, TM.new s, L, h1, h2, Nat.zero_le _⟩
  let z : P6s := ⟨q, p1, p2, hJ⟩
  refine ⟨l6_ok, fun y => y = z, ⟨by decide, SImp.of_wk (ren := []) z (by (refine ⟨?_, ?_, rfl, tl_ok rfl, ?_, ⟨Nat.le_of_ble_eq_true rfl, rfl⟩⟩ <;> (repeat' first | with_reducible exact trivial | exact AV.sub_same _ | exact .same _ | exact .inr rfl | exact .inl (in_ok rfl) | exact AV.sub_lit' | exact AV.sub_nilS | exact .none _ _ | exact trivial | refine ⟨?_, ?_⟩))) rfl⟩, ?_⟩
  rintro _ rfl x ⟨hx, t, L2, hT, hA, hn⟩
  have hx : x.i ≤ l.length := hx
  have hT : TT x.p1 [(b, t)] := hT
  have hA : RAt x.p2 d L2 t := hA
  have hG : t.Good := hT.good (i := 0) Nat.zero_lt_one
  have hz : TIn x.p1 ([(b, t)], 0) (some (b, 0)) := ⟨hT, Nat.zero_lt_one, rfl⟩
  have hI : RIn x.p2 (d, L2, t) (some (d, 0)) := ⟨rfl, hA, hG.core⟩
  have hlen : t.len ≤ 1000000 := by omega
  refine ⟨([(b, t)], 0), hz, fun ys sp hy => ⟨(d, L2, t), ⟨hI, hG, hlen⟩, ?_⟩⟩
  obtain ⟨y1, y2, y3⟩ := hy
  have y1 : AllRow t.get ys := y1
  have y2 : ys.length = t.len := y2
  rintro ⟨zs, sp2⟩ ⟨z1, z2⟩
  have z1 : AllRow t.get zs := z1
  have e := y1.uniq z1
  subst e
  rw [take_all]
  let w : P63 := ⟨b, d, x.p1, x.p2, ys.length, sp, decide (ys = ys), by omega⟩
  let ws : P63s := ⟨w, ys, ⟨Nat.zero_le _, rfl⟩⟩
  refine ⟨by omega, by show 0 + ys.length ≤ ys.length; omega, by omega, lW_ok, fun y => y = ws, ⟨by decide, SImp.of_wk (ren := []) ws (by (refine ⟨?_, ?_, rfl, tl_ok rfl, ?_, ⟨Nat.le_of_ble_eq_true rfl, rfl⟩⟩ <;> (repeat' first | with_reducible exact trivial | exact AV.sub_same _ | exact .same _ | exact .inr rfl | exact .inl (in_ok rfl) | exact AV.sub_lit' | exact AV.sub_nilS | exact .none _ _ | exact trivial | refine ⟨?_, ?_⟩))) rfl⟩, ?_⟩
  rintro _ rfl u _
  refine ⟨fun _ => ?_, fun hh => ?_⟩
  · refine ⟨([(b, t)], 0), hz, fun ys2 sp3 hy2 => ⟨(d, L2, t), ⟨hI, hG, hlen⟩, ?_⟩⟩
    obtain ⟨q1, q2, q3⟩ := hy2
    have q1 : AllRow t.get ys2 := q1
    rintro ⟨zs2, sp4⟩ ⟨g1, g2⟩
    have g1 : AllRow t.get zs2 := g1
    have e := q1.uniq g1
    subst e
    rw [take_all]
    refine ⟨by omega, by show 0 + ys2.length ≤ ys2.length; omega, by omega, fun _ => ⟨([(b, t)], 0), hz, fun _ => AV.sub_same _⟩, fun hh => ?_⟩
    exfalso
    have hh : decide (ys2 = ys2) = false := hh
    simp at hh
  · exfalso
    have hh : decide (ys = ys) = false := hh
    simp at hh
theorem law6_calls (s : Int) (l : List Three) (c : Nat) : CallsSx Try.prog 6 [.int .i64 s, .sl false 0 0 3 l.length c] ([(0, .ro Kd.three l)] : Heap V) 1 (fun v _ _ _ => v.sub .tt) :=
  ((calls_runL cfgJ2_ok (n := 60) (fn := Try.f6) ⟨by kernel_rfl, by kernel_rfl⟩ (by kernel_rfl) (show 2 ≤ _ by decide +kernel) (law6 s l c)).nilPool (nx := 3) rfl (by decide)).nilPool rfl (by decide)

end Sx
end Go.Proofs.Ytkadlfadmjhahaa

