/-
  A step in both maps: the run of the machine.
-/
import Derived.Test.YtohckjjbephohaaShardsPlayAllP8
namespace Go.Proofs.Ytohckjjbephohaa
namespace Sx
open Go
set_option maxRecDepth 100000
set_option linter.unusedVariables false

noncomputable def hooksDo : Nat → Option (HookS V) := fun g => match g with
  | 25 => some (hookObj 3 [.int .i64] (onR runRShard))
  | 26 => some (hookObj 3 [.int .i64] (onR runRState))
  | 27 => some (hookObj 3 [] (onR runRWeight))
  | 41 => some (hookObj 3 [.int .i64, .int .i64, .int .i64] (onR runRPut))
  | 42 => some (hookObj 3 [.int .i64] (onR runRRem))
  | 43 => some (hookObj 3 [.int .i64] (onR runREv))
  | 44 => some (hookObj 3 [.int .i64] (onR runRBury))
  | 45 => some (hookObj 3 [.int .i64] (onR runRGet))
  | g => hooksX g
noncomputable def cfgDo : Cfg Try.prog V := ⟨tab, kinds, fun _ => none, hooksDo, fun _ _ => none⟩
structure RelM (s : MO) (r : RM) : Prop where
  n : r.n = (s.tabs.length : Int)
  sd : r.seed = s.seed
  ex : ∃ f xs, MK s f xs ∧ AllRow f r.L
  stl : (r.st.length : Int) = s.given + 1
  st : ∀ n : Int, stR r n = stateOf s n
theorem tdo (s : MO) (r : RM) (q : Four) : runF cfgDo 60 24 Try.f24 [.ptr 0 0, .ptr 1 0, .agg (Four.enc q)] [(0, .obj (oM s)), (1, .obj (oR r))] 3 = Out.ite (bitsOp BinOp.and .i64 q.a (7 : Int) == (0 : Int)) (Out.ite (bitsOp BinOp.and .i64 q.a (7 : Int) == (0 : Int)) (Out.ex (Int → Option Ent) fun y => Out.need (MapOk s y ∧ s.given < (536870912 : Int)) (Out.all MO fun y_1 => Out.asm (y_1 = putS s (y q.b) q.b q.d y_1.pool ∧ MapOk y_1 (updF y q.b (some (putE s (y q.b) q.b q.c q.d)))) (Out.need (r.L.length ≤ (1000000 : Nat) ∧ r.st.length ≤ (1000000 : Nat)) (Out.all RM fun y_2 => Out.asm (PutR r y_2 q.b q.c q.d) (Out.ite (((y q.b).getD (putE s (y q.b) q.b q.c q.d)).key == ((rGet r.L q.b).getD {key := q.b, value := q.c, weight := wR q.d, node := (↑r.st.length : Int) : Ent }).key && (((y q.b).getD (putE s (y q.b) q.b q.c q.d)).value == ((rGet r.L q.b).getD {key := q.b, value := q.c, weight := wR q.d, node := (↑r.st.length : Int) : Ent }).value && (((y q.b).getD (putE s (y q.b) q.b q.c q.d)).weight == ((rGet r.L q.b).getD {key := q.b, value := q.c, weight := wR q.d, node := (↑r.st.length : Int) : Ent }).weight && (((y q.b).getD (putE s (y q.b) q.b q.c q.d)).node == ((rGet r.L q.b).getD {key := q.b, value := q.c, weight := wR q.d, node := (↑r.st.length : Int) : Ent }).node && true)))) (Out.fin (.bool ((y q.b).isSome == (rGet r.L q.b).isSome)) [((6 : Nat), .cells (28 : Nat) [.int .i64 ((rGet r.L q.b).getD {key := q.b, value := q.c, weight := wR q.d, node := (↑r.st.length : Int) : Ent }).key, .int .i64 ((rGet r.L q.b).getD {key := q.b, value := q.c, weight := wR q.d, node := (↑r.st.length : Int) : Ent }).value, .int .i64 ((rGet r.L q.b).getD {key := q.b, value := q.c, weight := wR q.d, node := (↑r.st.length : Int) : Ent }).weight, .int .i64 ((rGet r.L q.b).getD {key := q.b, value := q.c, weight := wR q.d, node := (↑r.st.length : Int) : Ent }).node]), ((4 : Nat), .cells (28 : Nat) [.int .i64 ((y q.b).getD (putE s (y q.b) q.b q.c q.d)).key, .int .i64 ((y q.b).getD (putE s (y q.b) q.b q.c q.d)).value, .int .i64 ((y q.b).getD (putE s (y q.b) q.b q.c q.d)).weight, .int .i64 ((y q.b).getD (putE s (y q.b) q.b q.c q.d)).node]), ((3 : Nat), .cells (35 : Nat) [.int .i64 q.a, .int .i64 q.b, .int .i64 q.c, .int .i64 q.d]), ((0 : Nat), .obj (oM y_1)), ((1 : Nat), .obj (oR y_2))] (8 : Nat)) (Out.fin .ff [((6 : Nat), .cells (28 : Nat) [.int .i64 ((rGet r.L q.b).getD {key := q.b, value := q.c, weight := wR q.d, node := (↑r.st.length : Int) : Ent }).key, .int .i64 ((rGet r.L q.b).getD {key := q.b, value := q.c, weight := wR q.d, node := (↑r.st.length : Int) : Ent }).value, .int .i64 ((rGet r.L q.b).getD {key := q.b, value := q.c, weight := wR q.d, node := (↑r.st.length : Int) : Ent }).weight, .int .i64 ((rGet r.L q.b).getD {key := q.b, value := q.c, weight := wR q.d, node := (↑r.st.length : Int) : Ent }).node]), ((4 : Nat), .cells (28 : Nat) [.int .i64 ((y q.b).getD (putE s (y q.b) q.b q.c q.d)).key, .int .i64 ((y q.b).getD (putE s (y q.b) q.b q.c q.d)).value, .int .i64 ((y q.b).getD (putE s (y q.b) q.b q.c q.d)).weight, .int .i64 ((y q.b).getD (putE s (y q.b) q.b q.c q.d)).node]), ((3 : Nat), .cells (35 : Nat) [.int .i64 q.a, .int .i64 q.b, .int .i64 q.c, .int .i64 q.d]), ((0 : Nat), .obj (oM y_1)), ((1 : Nat), .obj (oR y_2))] (8 : Nat))))))) (Out.ite (bitsOp BinOp.and .i64 q.a (7 : Int) == (4 : Int)) (Out.ex (Int → Option Ent) fun y => Out.need (MapOk s y) (Out.all MO fun y_1 => Out.asm (y_1 = remS s (y q.b) false y_1.pool ∧ MapOk y_1 (updF y q.b none)) (Out.need (r.L.length ≤ (1000000 : Nat) ∧ ∀ (e : Ent), e ∈ r.L → (0 : Int) ≤ e.node ∧ e.node < (↑r.st.length : Int)) (Out.all RM fun y_2 => Out.asm (RemR r y_2 q.b (2 : Int)) (Out.ite (((y q.b).getD e0).key == ((rGet r.L q.b).getD e0).key && (((y q.b).getD e0).value == ((rGet r.L q.b).getD e0).value && (((y q.b).getD e0).weight == ((rGet r.L q.b).getD e0).weight && (((y q.b).getD e0).node == ((rGet r.L q.b).getD e0).node && true)))) (Out.fin (.bool ((y q.b).isSome == (rGet r.L q.b).isSome)) [((6 : Nat), .cells (28 : Nat) [.int .i64 ((rGet r.L q.b).getD e0).key, .int .i64 ((rGet r.L q.b).getD e0).value, .int .i64 ((rGet r.L q.b).getD e0).weight, .int .i64 ((rGet r.L q.b).getD e0).node]), ((4 : Nat), .cells (28 : Nat) [.int .i64 ((y q.b).getD e0).key, .int .i64 ((y q.b).getD e0).value, .int .i64 ((y q.b).getD e0).weight, .int .i64 ((y q.b).getD e0).node]), ((3 : Nat), .cells (35 : Nat) [.int .i64 q.a, .int .i64 q.b, .int .i64 q.c, .int .i64 q.d]), ((0 : Nat), .obj (oM y_1)), ((1 : Nat), .obj (oR y_2))] (8 : Nat)) (Out.fin .ff [((6 : Nat), .cells (28 : Nat) [.int .i64 ((rGet r.L q.b).getD e0).key, .int .i64 ((rGet r.L q.b).getD e0).value, .int .i64 ((rGet r.L q.b).getD e0).weight, .int .i64 ((rGet r.L q.b).getD e0).node]), ((4 : Nat), .cells (28 : Nat) [.int .i64 ((y q.b).getD e0).key, .int .i64 ((y q.b).getD e0).value, .int .i64 ((y q.b).getD e0).weight, .int .i64 ((y q.b).getD e0).node]), ((3 : Nat), .cells (35 : Nat) [.int .i64 q.a, .int .i64 q.b, .int .i64 q.c, .int .i64 q.d]), ((0 : Nat), .obj (oM y_1)), ((1 : Nat), .obj (oR y_2))] (8 : Nat))))))) (Out.ite (bitsOp BinOp.and .i64 q.a (7 : Int) == (5 : Int)) (Out.ite (mget s.keys q.b).isSome (Out.ex (Int → Option Ent) fun y => Out.need (MapOk s y) (Out.all MO fun y_1 => Out.asm (y_1 = remS s (y ((mget s.keys q.b).getD (0 : Int))) true y_1.pool ∧ MapOk y_1 (updF y ((mget s.keys q.b).getD (0 : Int)) none)) (Out.need (r.L.length ≤ (1000000 : Nat) ∧ ∀ (e : Ent), e ∈ r.L → (0 : Int) ≤ e.node ∧ e.node < (↑r.st.length : Int)) (Out.all RM fun y_2 => Out.asm (EvR r y_2 q.b) (Out.ite (((y ((mget s.keys q.b).getD (0 : Int))).getD e0).key == ((rNode r.L q.b).getD e0).key && (((y ((mget s.keys q.b).getD (0 : Int))).getD e0).value == ((rNode r.L q.b).getD e0).value && (((y ((mget s.keys q.b).getD (0 : Int))).getD e0).weight == ((rNode r.L q.b).getD e0).weight && (((y ((mget s.keys q.b).getD (0 : Int))).getD e0).node == ((rNode r.L q.b).getD e0).node && true)))) (Out.fin (.bool ((y ((mget s.keys q.b).getD (0 : Int))).isSome == (rNode r.L q.b).isSome)) [((6 : Nat), .cells (28 : Nat) [.int .i64 ((rNode r.L q.b).getD e0).key, .int .i64 ((rNode r.L q.b).getD e0).value, .int .i64 ((rNode r.L q.b).getD e0).weight, .int .i64 ((rNode r.L q.b).getD e0).node]), ((4 : Nat), .cells (28 : Nat) [.int .i64 ((y ((mget s.keys q.b).getD (0 : Int))).getD e0).key, .int .i64 ((y ((mget s.keys q.b).getD (0 : Int))).getD e0).value, .int .i64 ((y ((mget s.keys q.b).getD (0 : Int))).getD e0).weight, .int .i64 ((y ((mget s.keys q.b).getD (0 : Int))).getD e0).node]), ((3 : Nat), .cells (35 : Nat) [.int .i64 q.a, .int .i64 q.b, .int .i64 q.c, .int .i64 q.d]), ((0 : Nat), .obj (oM y_1)), ((1 : Nat), .obj (oR y_2))] (8 : Nat)) (Out.fin .ff [((6 : Nat), .cells (28 : Nat) [.int .i64 ((rNode r.L q.b).getD e0).key, .int .i64 ((rNode r.L q.b).getD e0).value, .int .i64 ((rNode r.L q.b).getD e0).weight, .int .i64 ((rNode r.L q.b).getD e0).node]), ((4 : Nat), .cells (28 : Nat) [.int .i64 ((y ((mget s.keys q.b).getD (0 : Int))).getD e0).key, .int .i64 ((y ((mget s.keys q.b).getD (0 : Int))).getD e0).value, .int .i64 ((y ((mget s.keys q.b).getD (0 : Int))).getD e0).weight, .int .i64 ((y ((mget s.keys q.b).getD (0 : Int))).getD e0).node]), ((3 : Nat), .cells (35 : Nat) [.int .i64 q.a, .int .i64 q.b, .int .i64 q.c, .int .i64 q.d]), ((0 : Nat), .obj (oM y_1)), ((1 : Nat), .obj (oR y_2))] (8 : Nat))))))) (Out.need (r.L.length ≤ (1000000 : Nat) ∧ ∀ (e : Ent), e ∈ r.L → (0 : Int) ≤ e.node ∧ e.node < (↑r.st.length : Int)) (Out.all RM fun y => Out.asm (EvR r y q.b) (Out.ite ((0 : Int) == ((rNode r.L q.b).getD e0).key && ((0 : Int) == ((rNode r.L q.b).getD e0).value && ((0 : Int) == ((rNode r.L q.b).getD e0).weight && ((0 : Int) == ((rNode r.L q.b).getD e0).node && true)))) (Out.fin (.bool (false == (rNode r.L q.b).isSome)) [((6 : Nat), .cells (28 : Nat) [.int .i64 ((rNode r.L q.b).getD e0).key, .int .i64 ((rNode r.L q.b).getD e0).value, .int .i64 ((rNode r.L q.b).getD e0).weight, .int .i64 ((rNode r.L q.b).getD e0).node]), ((4 : Nat), .cells (28 : Nat) [.int .i64 (0 : Int), .int .i64 (0 : Int), .int .i64 (0 : Int), .int .i64 (0 : Int)]), ((3 : Nat), .cells (35 : Nat) [.int .i64 q.a, .int .i64 q.b, .int .i64 q.c, .int .i64 q.d]), ((0 : Nat), .obj (oM s)), ((1 : Nat), .obj (oR y))] (8 : Nat)) (Out.fin .ff [((6 : Nat), .cells (28 : Nat) [.int .i64 ((rNode r.L q.b).getD e0).key, .int .i64 ((rNode r.L q.b).getD e0).value, .int .i64 ((rNode r.L q.b).getD e0).weight, .int .i64 ((rNode r.L q.b).getD e0).node]), ((4 : Nat), .cells (28 : Nat) [.int .i64 (0 : Int), .int .i64 (0 : Int), .int .i64 (0 : Int), .int .i64 (0 : Int)]), ((3 : Nat), .cells (35 : Nat) [.int .i64 q.a, .int .i64 q.b, .int .i64 q.c, .int .i64 q.d]), ((0 : Nat), .obj (oM s)), ((1 : Nat), .obj (oR y))] (8 : Nat)))))) (Out.ite (bitsOp BinOp.and .i64 q.a (7 : Int) == (6 : Int)) (Out.all MO fun y => Out.asm (y = buryS s q.b) (Out.all RM fun y_1 => Out.asm (y_1 = buryR r q.b) (Out.fin (.bool ((if stateOf s q.b = (2 : Int) then (0 : Int) else if stateOf s q.b = (3 : Int) then (8 : Int) else (3 : Int)) == if stR r q.b < (2 : Int) then (3 : Int) else if stR r q.b = (3 : Int) then (8 : Int) else (0 : Int))) [((3 : Nat), .cells (35 : Nat) [.int .i64 q.a, .int .i64 q.b, .int .i64 q.c, .int .i64 q.d]), ((0 : Nat), .obj (oM y)), ((1 : Nat), .obj (oR y_1))] (4 : Nat)))) (Out.ex (Int → Option Ent) fun y => Out.need (MapOk s y) (Out.need (r.L.length ≤ (1000000 : Nat)) (Out.ite (((y q.b).getD e0).key == ((rGet r.L q.b).getD e0).key && (((y q.b).getD e0).value == ((rGet r.L q.b).getD e0).value && (((y q.b).getD e0).weight == ((rGet r.L q.b).getD e0).weight && (((y q.b).getD e0).node == ((rGet r.L q.b).getD e0).node && true)))) (Out.fin (.bool ((y q.b).isSome == (rGet r.L q.b).isSome)) [((6 : Nat), .cells (28 : Nat) [.int .i64 ((rGet r.L q.b).getD e0).key, .int .i64 ((rGet r.L q.b).getD e0).value, .int .i64 ((rGet r.L q.b).getD e0).weight, .int .i64 ((rGet r.L q.b).getD e0).node]), ((4 : Nat), .cells (28 : Nat) [.int .i64 ((y q.b).getD e0).key, .int .i64 ((y q.b).getD e0).value, .int .i64 ((y q.b).getD e0).weight, .int .i64 ((y q.b).getD e0).node]), ((3 : Nat), .cells (35 : Nat) [.int .i64 q.a, .int .i64 q.b, .int .i64 q.c, .int .i64 q.d]), ((0 : Nat), .obj (oM s)), ((1 : Nat), .obj (oR r))] (8 : Nat)) (Out.fin .ff [((6 : Nat), .cells (28 : Nat) [.int .i64 ((rGet r.L q.b).getD e0).key, .int .i64 ((rGet r.L q.b).getD e0).value, .int .i64 ((rGet r.L q.b).getD e0).weight, .int .i64 ((rGet r.L q.b).getD e0).node]), ((4 : Nat), .cells (28 : Nat) [.int .i64 ((y q.b).getD e0).key, .int .i64 ((y q.b).getD e0).value, .int .i64 ((y q.b).getD e0).weight, .int .i64 ((y q.b).getD e0).node]), ((3 : Nat), .cells (35 : Nat) [.int .i64 q.a, .int .i64 q.b, .int .i64 q.c, .int .i64 q.d]), ((0 : Nat), .obj (oM s)), ((1 : Nat), .obj (oR r))] (8 : Nat))))))))) (Out.ite (bitsOp BinOp.and .i64 q.a (7 : Int) == (1 : Int)) (Out.ite (bitsOp BinOp.and .i64 q.a (7 : Int) == (1 : Int)) (Out.ex (Int → Option Ent) fun y => Out.need (MapOk s y ∧ s.given < (536870912 : Int)) (Out.all MO fun y_1 => Out.asm (y_1 = putS s (y q.b) q.b q.d y_1.pool ∧ MapOk y_1 (updF y q.b (some (putE s (y q.b) q.b q.c q.d)))) (Out.need (r.L.length ≤ (1000000 : Nat) ∧ r.st.length ≤ (1000000 : Nat)) (Out.all RM fun y_2 => Out.asm (PutR r y_2 q.b q.c q.d) (Out.ite (((y q.b).getD (putE s (y q.b) q.b q.c q.d)).key == ((rGet r.L q.b).getD {key := q.b, value := q.c, weight := wR q.d, node := (↑r.st.length : Int) : Ent }).key && (((y q.b).getD (putE s (y q.b) q.b q.c q.d)).value == ((rGet r.L q.b).getD {key := q.b, value := q.c, weight := wR q.d, node := (↑r.st.length : Int) : Ent }).value && (((y q.b).getD (putE s (y q.b) q.b q.c q.d)).weight == ((rGet r.L q.b).getD {key := q.b, value := q.c, weight := wR q.d, node := (↑r.st.length : Int) : Ent }).weight && (((y q.b).getD (putE s (y q.b) q.b q.c q.d)).node == ((rGet r.L q.b).getD {key := q.b, value := q.c, weight := wR q.d, node := (↑r.st.length : Int) : Ent }).node && true)))) (Out.fin (.bool ((y q.b).isSome == (rGet r.L q.b).isSome)) [((6 : Nat), .cells (28 : Nat) [.int .i64 ((rGet r.L q.b).getD {key := q.b, value := q.c, weight := wR q.d, node := (↑r.st.length : Int) : Ent }).key, .int .i64 ((rGet r.L q.b).getD {key := q.b, value := q.c, weight := wR q.d, node := (↑r.st.length : Int) : Ent }).value, .int .i64 ((rGet r.L q.b).getD {key := q.b, value := q.c, weight := wR q.d, node := (↑r.st.length : Int) : Ent }).weight, .int .i64 ((rGet r.L q.b).getD {key := q.b, value := q.c, weight := wR q.d, node := (↑r.st.length : Int) : Ent }).node]), ((4 : Nat), .cells (28 : Nat) [.int .i64 ((y q.b).getD (putE s (y q.b) q.b q.c q.d)).key, .int .i64 ((y q.b).getD (putE s (y q.b) q.b q.c q.d)).value, .int .i64 ((y q.b).getD (putE s (y q.b) q.b q.c q.d)).weight, .int .i64 ((y q.b).getD (putE s (y q.b) q.b q.c q.d)).node]), ((3 : Nat), .cells (35 : Nat) [.int .i64 q.a, .int .i64 q.b, .int .i64 q.c, .int .i64 q.d]), ((0 : Nat), .obj (oM y_1)), ((1 : Nat), .obj (oR y_2))] (8 : Nat)) (Out.fin .ff [((6 : Nat), .cells (28 : Nat) [.int .i64 ((rGet r.L q.b).getD {key := q.b, value := q.c, weight := wR q.d, node := (↑r.st.length : Int) : Ent }).key, .int .i64 ((rGet r.L q.b).getD {key := q.b, value := q.c, weight := wR q.d, node := (↑r.st.length : Int) : Ent }).value, .int .i64 ((rGet r.L q.b).getD {key := q.b, value := q.c, weight := wR q.d, node := (↑r.st.length : Int) : Ent }).weight, .int .i64 ((rGet r.L q.b).getD {key := q.b, value := q.c, weight := wR q.d, node := (↑r.st.length : Int) : Ent }).node]), ((4 : Nat), .cells (28 : Nat) [.int .i64 ((y q.b).getD (putE s (y q.b) q.b q.c q.d)).key, .int .i64 ((y q.b).getD (putE s (y q.b) q.b q.c q.d)).value, .int .i64 ((y q.b).getD (putE s (y q.b) q.b q.c q.d)).weight, .int .i64 ((y q.b).getD (putE s (y q.b) q.b q.c q.d)).node]), ((3 : Nat), .cells (35 : Nat) [.int .i64 q.a, .int .i64 q.b, .int .i64 q.c, .int .i64 q.d]), ((0 : Nat), .obj (oM y_1)), ((1 : Nat), .obj (oR y_2))] (8 : Nat))))))) (Out.ite (bitsOp BinOp.and .i64 q.a (7 : Int) == (4 : Int)) (Out.ex (Int → Option Ent) fun y => Out.need (MapOk s y) (Out.all MO fun y_1 => Out.asm (y_1 = remS s (y q.b) false y_1.pool ∧ MapOk y_1 (updF y q.b none)) (Out.need (r.L.length ≤ (1000000 : Nat) ∧ ∀ (e : Ent), e ∈ r.L → (0 : Int) ≤ e.node ∧ e.node < (↑r.st.length : Int)) (Out.all RM fun y_2 => Out.asm (RemR r y_2 q.b (2 : Int)) (Out.ite (((y q.b).getD e0).key == ((rGet r.L q.b).getD e0).key && (((y q.b).getD e0).value == ((rGet r.L q.b).getD e0).value && (((y q.b).getD e0).weight == ((rGet r.L q.b).getD e0).weight && (((y q.b).getD e0).node == ((rGet r.L q.b).getD e0).node && true)))) (Out.fin (.bool ((y q.b).isSome == (rGet r.L q.b).isSome)) [((6 : Nat), .cells (28 : Nat) [.int .i64 ((rGet r.L q.b).getD e0).key, .int .i64 ((rGet r.L q.b).getD e0).value, .int .i64 ((rGet r.L q.b).getD e0).weight, .int .i64 ((rGet r.L q.b).getD e0).node]), ((4 : Nat), .cells (28 : Nat) [.int .i64 ((y q.b).getD e0).key, .int .i64 ((y q.b).getD e0).value, .int .i64 ((y q.b).getD e0).weight, .int .i64 ((y q.b).getD e0).node]), ((3 : Nat), .cells (35 : Nat) [.int .i64 q.a, .int .i64 q.b, .int .i64 q.c, .int .i64 q.d]), ((0 : Nat), .obj (oM y_1)), ((1 : Nat), .obj (oR y_2))] (8 : Nat)) (Out.fin .ff [((6 : Nat), .cells (28 : Nat) [.int .i64 ((rGet r.L q.b).getD e0).key, .int .i64 ((rGet r.L q.b).getD e0).value, .int .i64 ((rGet r.L q.b).getD e0).weight, .int .i64 ((rGet r.L q.b).getD e0).node]), ((4 : Nat), .cells (28 : Nat) [.int .i64 ((y q.b).getD e0).key, .int .i64 ((y q.b).getD e0).value, .int .i64 ((y q.b).getD e0).weight, .int .i64 ((y q.b).getD e0).node]), ((3 : Nat), .cells (35 : Nat) [.int .i64 q.a, .int .i64 q.b, .int .i64 q.c, .int .i64 q.d]), ((0 : Nat), .obj (oM y_1)), ((1 : Nat), .obj (oR y_2))] (8 : Nat))))))) (Out.ite (bitsOp BinOp.and .i64 q.a (7 : Int) == (5 : Int)) (Out.ite (mget s.keys q.b).isSome (Out.ex (Int → Option Ent) fun y => Out.need (MapOk s y) (Out.all MO fun y_1 => Out.asm (y_1 = remS s (y ((mget s.keys q.b).getD (0 : Int))) true y_1.pool ∧ MapOk y_1 (updF y ((mget s.keys q.b).getD (0 : Int)) none)) (Out.need (r.L.length ≤ (1000000 : Nat) ∧ ∀ (e : Ent), e ∈ r.L → (0 : Int) ≤ e.node ∧ e.node < (↑r.st.length : Int)) (Out.all RM fun y_2 => Out.asm (EvR r y_2 q.b) (Out.ite (((y ((mget s.keys q.b).getD (0 : Int))).getD e0).key == ((rNode r.L q.b).getD e0).key && (((y ((mget s.keys q.b).getD (0 : Int))).getD e0).value == ((rNode r.L q.b).getD e0).value && (((y ((mget s.keys q.b).getD (0 : Int))).getD e0).weight == ((rNode r.L q.b).getD e0).weight && (((y ((mget s.keys q.b).getD (0 : Int))).getD e0).node == ((rNode r.L q.b).getD e0).node && true)))) (Out.fin (.bool ((y ((mget s.keys q.b).getD (0 : Int))).isSome == (rNode r.L q.b).isSome)) [((6 : Nat), .cells (28 : Nat) [.int .i64 ((rNode r.L q.b).getD e0).key, .int .i64 ((rNode r.L q.b).getD e0).value, .int .i64 ((rNode r.L q.b).getD e0).weight, .int .i64 ((rNode r.L q.b).getD e0).node]), ((4 : Nat), .cells (28 : Nat) [.int .i64 ((y ((mget s.keys q.b).getD (0 : Int))).getD e0).key, .int .i64 ((y ((mget s.keys q.b).getD (0 : Int))).getD e0).value, .int .i64 ((y ((mget s.keys q.b).getD (0 : Int))).getD e0).weight, .int .i64 ((y ((mget s.keys q.b).getD (0 : Int))).getD e0).node]), ((3 : Nat), .cells (35 : Nat) [.int .i64 q.a, .int .i64 q.b, .int .i64 q.c, .int .i64 q.d]), ((0 : Nat), .obj (oM y_1)), ((1 : Nat), .obj (oR y_2))] (8 : Nat)) (Out.fin .ff [((6 : Nat), .cells (28 : Nat) [.int .i64 ((rNode r.L q.b).getD e0).key, .int .i64 ((rNode r.L q.b).getD e0).value, .int .i64 ((rNode r.L q.b).getD e0).weight, .int .i64 ((rNode r.L q.b).getD e0).node]), ((4 : Nat), .cells (28 : Nat) [.int .i64 ((y ((mget s.keys q.b).getD (0 : Int))).getD e0).key, .int .i64 ((y ((mget s.keys q.b).getD (0 : Int))).getD e0).value, .int .i64 ((y ((mget s.keys q.b).getD (0 : Int))).getD e0).weight, .int .i64 ((y ((mget s.keys q.b).getD (0 : Int))).getD e0).node]), ((3 : Nat), .cells (35 : Nat) [.int .i64 q.a, .int .i64 q.b, .int .i64 q.c, .int .i64 q.d]), ((0 : Nat), .obj (oM y_1)), ((1 : Nat), .obj (oR y_2))] (8 : Nat))))))) (Out.need (r.L.length ≤ (1000000 : Nat) ∧ ∀ (e : Ent), e ∈ r.L → (0 : Int) ≤ e.node ∧ e.node < (↑r.st.length : Int)) (Out.all RM fun y => Out.asm (EvR r y q.b) (Out.ite ((0 : Int) == ((rNode r.L q.b).getD e0).key && ((0 : Int) == ((rNode r.L q.b).getD e0).value && ((0 : Int) == ((rNode r.L q.b).getD e0).weight && ((0 : Int) == ((rNode r.L q.b).getD e0).node && true)))) (Out.fin (.bool (false == (rNode r.L q.b).isSome)) [((6 : Nat), .cells (28 : Nat) [.int .i64 ((rNode r.L q.b).getD e0).key, .int .i64 ((rNode r.L q.b).getD e0).value, .int .i64 ((rNode r.L q.b).getD e0).weight, .int .i64 ((rNode r.L q.b).getD e0).node]), ((4 : Nat), .cells (28 : Nat) [.int .i64 (0 : Int), .int .i64 (0 : Int), .int .i64 (0 : Int), .int .i64 (0 : Int)]), ((3 : Nat), .cells (35 : Nat) [.int .i64 q.a, .int .i64 q.b, .int .i64 q.c, .int .i64 q.d]), ((0 : Nat), .obj (oM s)), ((1 : Nat), .obj (oR y))] (8 : Nat)) (Out.fin .ff [((6 : Nat), .cells (28 : Nat) [.int .i64 ((rNode r.L q.b).getD e0).key, .int .i64 ((rNode r.L q.b).getD e0).value, .int .i64 ((rNode r.L q.b).getD e0).weight, .int .i64 ((rNode r.L q.b).getD e0).node]), ((4 : Nat), .cells (28 : Nat) [.int .i64 (0 : Int), .int .i64 (0 : Int), .int .i64 (0 : Int), .int .i64 (0 : Int)]), ((3 : Nat), .cells (35 : Nat) [.int .i64 q.a, .int .i64 q.b, .int .i64 q.c, .int .i64 q.d]), ((0 : Nat), .obj (oM s)), ((1 : Nat), .obj (oR y))] (8 : Nat)))))) (Out.ite (bitsOp BinOp.and .i64 q.a (7 : Int) == (6 : Int)) (Out.all MO fun y => Out.asm (y = buryS s q.b) (Out.all RM fun y_1 => Out.asm (y_1 = buryR r q.b) (Out.fin (.bool ((if stateOf s q.b = (2 : Int) then (0 : Int) else if stateOf s q.b = (3 : Int) then (8 : Int) else (3 : Int)) == if stR r q.b < (2 : Int) then (3 : Int) else if stR r q.b = (3 : Int) then (8 : Int) else (0 : Int))) [((3 : Nat), .cells (35 : Nat) [.int .i64 q.a, .int .i64 q.b, .int .i64 q.c, .int .i64 q.d]), ((0 : Nat), .obj (oM y)), ((1 : Nat), .obj (oR y_1))] (4 : Nat)))) (Out.ex (Int → Option Ent) fun y => Out.need (MapOk s y) (Out.need (r.L.length ≤ (1000000 : Nat)) (Out.ite (((y q.b).getD e0).key == ((rGet r.L q.b).getD e0).key && (((y q.b).getD e0).value == ((rGet r.L q.b).getD e0).value && (((y q.b).getD e0).weight == ((rGet r.L q.b).getD e0).weight && (((y q.b).getD e0).node == ((rGet r.L q.b).getD e0).node && true)))) (Out.fin (.bool ((y q.b).isSome == (rGet r.L q.b).isSome)) [((6 : Nat), .cells (28 : Nat) [.int .i64 ((rGet r.L q.b).getD e0).key, .int .i64 ((rGet r.L q.b).getD e0).value, .int .i64 ((rGet r.L q.b).getD e0).weight, .int .i64 ((rGet r.L q.b).getD e0).node]), ((4 : Nat), .cells (28 : Nat) [.int .i64 ((y q.b).getD e0).key, .int .i64 ((y q.b).getD e0).value, .int .i64 ((y q.b).getD e0).weight, .int .i64 ((y q.b).getD e0).node]), ((3 : Nat), .cells (35 : Nat) [.int .i64 q.a, .int .i64 q.b, .int .i64 q.c, .int .i64 q.d]), ((0 : Nat), .obj (oM s)), ((1 : Nat), .obj (oR r))] (8 : Nat)) (Out.fin .ff [((6 : Nat), .cells (28 : Nat) [.int .i64 ((rGet r.L q.b).getD e0).key, .int .i64 ((rGet r.L q.b).getD e0).value, .int .i64 ((rGet r.L q.b).getD e0).weight, .int .i64 ((rGet r.L q.b).getD e0).node]), ((4 : Nat), .cells (28 : Nat) [.int .i64 ((y q.b).getD e0).key, .int .i64 ((y q.b).getD e0).value, .int .i64 ((y q.b).getD e0).weight, .int .i64 ((y q.b).getD e0).node]), ((3 : Nat), .cells (35 : Nat) [.int .i64 q.a, .int .i64 q.b, .int .i64 q.c, .int .i64 q.d]), ((0 : Nat), .obj (oM s)), ((1 : Nat), .obj (oR r))] (8 : Nat))))))))) (Out.ite (bitsOp BinOp.and .i64 q.a (7 : Int) == (2 : Int)) (Out.ite (bitsOp BinOp.and .i64 q.a (7 : Int) == (2 : Int)) (Out.ex (Int → Option Ent) fun y => Out.need (MapOk s y ∧ s.given < (536870912 : Int)) (Out.all MO fun y_1 => Out.asm (y_1 = putS s (y q.b) q.b q.d y_1.pool ∧ MapOk y_1 (updF y q.b (some (putE s (y q.b) q.b q.c q.d)))) (Out.need (r.L.length ≤ (1000000 : Nat) ∧ r.st.length ≤ (1000000 : Nat)) (Out.all RM fun y_2 => Out.asm (PutR r y_2 q.b q.c q.d) (Out.ite (((y q.b).getD (putE s (y q.b) q.b q.c q.d)).key == ((rGet r.L q.b).getD {key := q.b, value := q.c, weight := wR q.d, node := (↑r.st.length : Int) : Ent }).key && (((y q.b).getD (putE s (y q.b) q.b q.c q.d)).value == ((rGet r.L q.b).getD {key := q.b, value := q.c, weight := wR q.d, node := (↑r.st.length : Int) : Ent }).value && (((y q.b).getD (putE s (y q.b) q.b q.c q.d)).weight == ((rGet r.L q.b).getD {key := q.b, value := q.c, weight := wR q.d, node := (↑r.st.length : Int) : Ent }).weight && (((y q.b).getD (putE s (y q.b) q.b q.c q.d)).node == ((rGet r.L q.b).getD {key := q.b, value := q.c, weight := wR q.d, node := (↑r.st.length : Int) : Ent }).node && true)))) (Out.fin (.bool ((y q.b).isSome == (rGet r.L q.b).isSome)) [((6 : Nat), .cells (28 : Nat) [.int .i64 ((rGet r.L q.b).getD {key := q.b, value := q.c, weight := wR q.d, node := (↑r.st.length : Int) : Ent }).key, .int .i64 ((rGet r.L q.b).getD {key := q.b, value := q.c, weight := wR q.d, node := (↑r.st.length : Int) : Ent }).value, .int .i64 ((rGet r.L q.b).getD {key := q.b, value := q.c, weight := wR q.d, node := (↑r.st.length : Int) : Ent }).weight, .int .i64 ((rGet r.L q.b).getD {key := q.b, value := q.c, weight := wR q.d, node := (↑r.st.length : Int) : Ent }).node]), ((4 : Nat), .cells (28 : Nat) [.int .i64 ((y q.b).getD (putE s (y q.b) q.b q.c q.d)).key, .int .i64 ((y q.b).getD (putE s (y q.b) q.b q.c q.d)).value, .int .i64 ((y q.b).getD (putE s (y q.b) q.b q.c q.d)).weight, .int .i64 ((y q.b).getD (putE s (y q.b) q.b q.c q.d)).node]), ((3 : Nat), .cells (35 : Nat) [.int .i64 q.a, .int .i64 q.b, .int .i64 q.c, .int .i64 q.d]), ((0 : Nat), .obj (oM y_1)), ((1 : Nat), .obj (oR y_2))] (8 : Nat)) (Out.fin .ff [((6 : Nat), .cells (28 : Nat) [.int .i64 ((rGet r.L q.b).getD {key := q.b, value := q.c, weight := wR q.d, node := (↑r.st.length : Int) : Ent }).key, .int .i64 ((rGet r.L q.b).getD {key := q.b, value := q.c, weight := wR q.d, node := (↑r.st.length : Int) : Ent }).value, .int .i64 ((rGet r.L q.b).getD {key := q.b, value := q.c, weight := wR q.d, node := (↑r.st.length : Int) : Ent }).weight, .int .i64 ((rGet r.L q.b).getD {key := q.b, value := q.c, weight := wR q.d, node := (↑r.st.length : Int) : Ent }).node]), ((4 : Nat), .cells (28 : Nat) [.int .i64 ((y q.b).getD (putE s (y q.b) q.b q.c q.d)).key, .int .i64 ((y q.b).getD (putE s (y q.b) q.b q.c q.d)).value, .int .i64 ((y q.b).getD (putE s (y q.b) q.b q.c q.d)).weight, .int .i64 ((y q.b).getD (putE s (y q.b) q.b q.c q.d)).node]), ((3 : Nat), .cells (35 : Nat) [.int .i64 q.a, .int .i64 q.b, .int .i64 q.c, .int .i64 q.d]), ((0 : Nat), .obj (oM y_1)), ((1 : Nat), .obj (oR y_2))] (8 : Nat))))))) (Out.ite (bitsOp BinOp.and .i64 q.a (7 : Int) == (4 : Int)) (Out.ex (Int → Option Ent) fun y => Out.need (MapOk s y) (Out.all MO fun y_1 => Out.asm (y_1 = remS s (y q.b) false y_1.pool ∧ MapOk y_1 (updF y q.b none)) (Out.need (r.L.length ≤ (1000000 : Nat) ∧ ∀ (e : Ent), e ∈ r.L → (0 : Int) ≤ e.node ∧ e.node < (↑r.st.length : Int)) (Out.all RM fun y_2 => Out.asm (RemR r y_2 q.b (2 : Int)) (Out.ite (((y q.b).getD e0).key == ((rGet r.L q.b).getD e0).key && (((y q.b).getD e0).value == ((rGet r.L q.b).getD e0).value && (((y q.b).getD e0).weight == ((rGet r.L q.b).getD e0).weight && (((y q.b).getD e0).node == ((rGet r.L q.b).getD e0).node && true)))) (Out.fin (.bool ((y q.b).isSome == (rGet r.L q.b).isSome)) [((6 : Nat), .cells (28 : Nat) [.int .i64 ((rGet r.L q.b).getD e0).key, .int .i64 ((rGet r.L q.b).getD e0).value, .int .i64 ((rGet r.L q.b).getD e0).weight, .int .i64 ((rGet r.L q.b).getD e0).node]), ((4 : Nat), .cells (28 : Nat) [.int .i64 ((y q.b).getD e0).key, .int .i64 ((y q.b).getD e0).value, .int .i64 ((y q.b).getD e0).weight, .int .i64 ((y q.b).getD e0).node]), ((3 : Nat), .cells (35 : Nat) [.int .i64 q.a, .int .i64 q.b, .int .i64 q.c, .int .i64 q.d]), ((0 : Nat), .obj (oM y_1)), ((1 : Nat), .obj (oR y_2))] (8 : Nat)) (Out.fin .ff [((6 : Nat), .cells (28 : Nat) [.int .i64 ((rGet r.L q.b).getD e0).key, .int .i64 ((rGet r.L q.b).getD e0).value, .int .i64 ((rGet r.L q.b).getD e0).weight, .int .i64 ((rGet r.L q.b).getD e0).node]), ((4 : Nat), .cells (28 : Nat) [.int .i64 ((y q.b).getD e0).key, .int .i64 ((y q.b).getD e0).value, .int .i64 ((y q.b).getD e0).weight, .int .i64 ((y q.b).getD e0).node]), ((3 : Nat), .cells (35 : Nat) [.int .i64 q.a, .int .i64 q.b, .int .i64 q.c, .int .i64 q.d]), ((0 : Nat), .obj (oM y_1)), ((1 : Nat), .obj (oR y_2))] (8 : Nat))))))) (Out.ite (bitsOp BinOp.and .i64 q.a (7 : Int) == (5 : Int)) (Out.ite (mget s.keys q.b).isSome (Out.ex (Int → Option Ent) fun y => Out.need (MapOk s y) (Out.all MO fun y_1 => Out.asm (y_1 = remS s (y ((mget s.keys q.b).getD (0 : Int))) true y_1.pool ∧ MapOk y_1 (updF y ((mget s.keys q.b).getD (0 : Int)) none)) (Out.need (r.L.length ≤ (1000000 : Nat) ∧ ∀ (e : Ent), e ∈ r.L → (0 : Int) ≤ e.node ∧ e.node < (↑r.st.length : Int)) (Out.all RM fun y_2 => Out.asm (EvR r y_2 q.b) (Out.ite (((y ((mget s.keys q.b).getD (0 : Int))).getD e0).key == ((rNode r.L q.b).getD e0).key && (((y ((mget s.keys q.b).getD (0 : Int))).getD e0).value == ((rNode r.L q.b).getD e0).value && (((y ((mget s.keys q.b).getD (0 : Int))).getD e0).weight == ((rNode r.L q.b).getD e0).weight && (((y ((mget s.keys q.b).getD (0 : Int))).getD e0).node == ((rNode r.L q.b).getD e0).node && true)))) (Out.fin (.bool ((y ((mget s.keys q.b).getD (0 : Int))).isSome == (rNode r.L q.b).isSome)) [((6 : Nat), .cells (28 : Nat) [.int .i64 ((rNode r.L q.b).getD e0).key, .int .i64 ((rNode r.L q.b).getD e0).value, .int .i64 ((rNode r.L q.b).getD e0).weight, .int .i64 ((rNode r.L q.b).getD e0).node]), ((4 : Nat), .cells (28 : Nat) [.int .i64 ((y ((mget s.keys q.b).getD (0 : Int))).getD e0).key, .int .i64 ((y ((mget s.keys q.b).getD (0 : Int))).getD e0).value, .int .i64 ((y ((mget s.keys q.b).getD (0 : Int))).getD e0).weight, .int .i64 ((y ((mget s.keys q.b).getD (0 : Int))).getD e0).node]), ((3 : Nat), .cells (35 : Nat) [.int .i64 q.a, .int .i64 q.b, .int .i64 q.c, .int .i64 q.d]), ((0 : Nat), .obj (oM y_1)), ((1 : Nat), .obj (oR y_2))] (8 : Nat)) (Out.fin .ff [((6 : Nat), .cells (28 : Nat) [.int .i64 ((rNode r.L q.b).getD e0).key, .int .i64 ((rNode r.L q.b).getD e0).value, .int .i64 ((rNode r.L q.b).getD e0).weight, .int .i64 ((rNode r.L q.b).getD e0).node]), ((4 : Nat), .cells (28 : Nat) [.int .i64 ((y ((mget s.keys q.b).getD (0 : Int))).getD e0).key, .int .i64 ((y ((mget s.keys q.b).getD (0 : Int))).getD e0).value, .int .i64 ((y ((mget s.keys q.b).getD (0 : Int))).getD e0).weight, .int .i64 ((y ((mget s.keys q.b).getD (0 : Int))).getD e0).node]), ((3 : Nat), .cells (35 : Nat) [.int .i64 q.a, .int .i64 q.b, .int .i64 q.c, .int .i64 q.d]), ((0 : Nat), .obj (oM y_1)), ((1 : Nat), .obj (oR y_2))] (8 : Nat))))))) (Out.need (r.L.length ≤ (1000000 : Nat) ∧ ∀ (e : Ent), e ∈ r.L → (0 : Int) ≤ e.node ∧ e.node < (↑r.st.length : Int)) (Out.all RM fun y => Out.asm (EvR r y q.b) (Out.ite ((0 : Int) == ((rNode r.L q.b).getD e0).key && ((0 : Int) == ((rNode r.L q.b).getD e0).value && ((0 : Int) == ((rNode r.L q.b).getD e0).weight && ((0 : Int) == ((rNode r.L q.b).getD e0).node && true)))) (Out.fin (.bool (false == (rNode r.L q.b).isSome)) [((6 : Nat), .cells (28 : Nat) [.int .i64 ((rNode r.L q.b).getD e0).key, .int .i64 ((rNode r.L q.b).getD e0).value, .int .i64 ((rNode r.L q.b).getD e0).weight, .int .i64 ((rNode r.L q.b).getD e0).node]), ((4 : Nat), .cells (28 : Nat) [.int .i64 (0 : Int), .int .i64 (0 : Int), .int .i64 (0 : Int), .int .i64 (0 : Int)]), ((3 : Nat), .cells (35 : Nat) [.int .i64 q.a, .int .i64 q.b, .int .i64 q.c, .int .i64 q.d]), ((0 : Nat), .obj (oM s)), ((1 : Nat), .obj (oR y))] (8 : Nat)) (Out.fin .ff [((6 : Nat), .cells (28 : Nat) [.int .i64 ((rNode r.L q.b).getD e0).key, .int .i64 ((rNode r.L q.b).getD e0).value, .int .i64 ((rNode r.L q.b).getD e0).weight, .int .i64 ((rNode r.L q.b).getD e0).node]), ((4 : Nat), .cells (28 : Nat) [.int .i64 (0 : Int), .int .i64 (0 : Int), .int .i64 (0 : Int), .int .i64 (0 : Int)]), ((3 : Nat), .cells (35 : Nat) [.int .i64 q.a, .int .i64 q.b, .int .i64 q.c, .int .i64 q.d]), ((0 : Nat), .obj (oM s)), ((1 : Nat), .obj (oR y))] (8 : Nat)))))) (Out.ite (bitsOp BinOp.and .i64 q.a (7 : Int) == (6 : Int)) (Out.all MO fun y => Out.asm (y = buryS s q.b) (Out.all RM fun y_1 => Out.asm (y_1 = buryR r q.b) (Out.fin (.bool ((if stateOf s q.b = (2 : Int) then (0 : Int) else if stateOf s q.b = (3 : Int) then (8 : Int) else (3 : Int)) == if stR r q.b < (2 : Int) then (3 : Int) else if stR r q.b = (3 : Int) then (8 : Int) else (0 : Int))) [((3 : Nat), .cells (35 : Nat) [.int .i64 q.a, .int .i64 q.b, .int .i64 q.c, .int .i64 q.d]), ((0 : Nat), .obj (oM y)), ((1 : Nat), .obj (oR y_1))] (4 : Nat)))) (Out.ex (Int → Option Ent) fun y => Out.need (MapOk s y) (Out.need (r.L.length ≤ (1000000 : Nat)) (Out.ite (((y q.b).getD e0).key == ((rGet r.L q.b).getD e0).key && (((y q.b).getD e0).value == ((rGet r.L q.b).getD e0).value && (((y q.b).getD e0).weight == ((rGet r.L q.b).getD e0).weight && (((y q.b).getD e0).node == ((rGet r.L q.b).getD e0).node && true)))) (Out.fin (.bool ((y q.b).isSome == (rGet r.L q.b).isSome)) [((6 : Nat), .cells (28 : Nat) [.int .i64 ((rGet r.L q.b).getD e0).key, .int .i64 ((rGet r.L q.b).getD e0).value, .int .i64 ((rGet r.L q.b).getD e0).weight, .int .i64 ((rGet r.L q.b).getD e0).node]), ((4 : Nat), .cells (28 : Nat) [.int .i64 ((y q.b).getD e0).key, .int .i64 ((y q.b).getD e0).value, .int .i64 ((y q.b).getD e0).weight, .int .i64 ((y q.b).getD e0).node]), ((3 : Nat), .cells (35 : Nat) [.int .i64 q.a, .int .i64 q.b, .int .i64 q.c, .int .i64 q.d]), ((0 : Nat), .obj (oM s)), ((1 : Nat), .obj (oR r))] (8 : Nat)) (Out.fin .ff [((6 : Nat), .cells (28 : Nat) [.int .i64 ((rGet r.L q.b).getD e0).key, .int .i64 ((rGet r.L q.b).getD e0).value, .int .i64 ((rGet r.L q.b).getD e0).weight, .int .i64 ((rGet r.L q.b).getD e0).node]), ((4 : Nat), .cells (28 : Nat) [.int .i64 ((y q.b).getD e0).key, .int .i64 ((y q.b).getD e0).value, .int .i64 ((y q.b).getD e0).weight, .int .i64 ((y q.b).getD e0).node]), ((3 : Nat), .cells (35 : Nat) [.int .i64 q.a, .int .i64 q.b, .int .i64 q.c, .int .i64 q.d]), ((0 : Nat), .obj (oM s)), ((1 : Nat), .obj (oR r))] (8 : Nat))))))))) (Out.ite (bitsOp BinOp.and .i64 q.a (7 : Int) == (3 : Int)) (Out.ex (Int → Option Ent) fun y => Out.need (MapOk s y ∧ s.given < (536870912 : Int)) (Out.all MO fun y_1 => Out.asm (y_1 = putS s (y q.b) q.b q.d y_1.pool ∧ MapOk y_1 (updF y q.b (some (putE s (y q.b) q.b q.c q.d)))) (Out.need (r.L.length ≤ (1000000 : Nat) ∧ r.st.length ≤ (1000000 : Nat)) (Out.all RM fun y_2 => Out.asm (PutR r y_2 q.b q.c q.d) (Out.ite (((y q.b).getD (putE s (y q.b) q.b q.c q.d)).key == ((rGet r.L q.b).getD {key := q.b, value := q.c, weight := wR q.d, node := (↑r.st.length : Int) : Ent }).key && (((y q.b).getD (putE s (y q.b) q.b q.c q.d)).value == ((rGet r.L q.b).getD {key := q.b, value := q.c, weight := wR q.d, node := (↑r.st.length : Int) : Ent }).value && (((y q.b).getD (putE s (y q.b) q.b q.c q.d)).weight == ((rGet r.L q.b).getD {key := q.b, value := q.c, weight := wR q.d, node := (↑r.st.length : Int) : Ent }).weight && (((y q.b).getD (putE s (y q.b) q.b q.c q.d)).node == ((rGet r.L q.b).getD {key := q.b, value := q.c, weight := wR q.d, node := (↑r.st.length : Int) : Ent }).node && true)))) (Out.fin (.bool ((y q.b).isSome == (rGet r.L q.b).isSome)) [((6 : Nat), .cells (28 : Nat) [.int .i64 ((rGet r.L q.b).getD {key := q.b, value := q.c, weight := wR q.d, node := (↑r.st.length : Int) : Ent }).key, .int .i64 ((rGet r.L q.b).getD {key := q.b, value := q.c, weight := wR q.d, node := (↑r.st.length : Int) : Ent }).value, .int .i64 ((rGet r.L q.b).getD {key := q.b, value := q.c, weight := wR q.d, node := (↑r.st.length : Int) : Ent }).weight, .int .i64 ((rGet r.L q.b).getD {key := q.b, value := q.c, weight := wR q.d, node := (↑r.st.length : Int) : Ent }).node]), ((4 : Nat), .cells (28 : Nat) [.int .i64 ((y q.b).getD (putE s (y q.b) q.b q.c q.d)).key, .int .i64 ((y q.b).getD (putE s (y q.b) q.b q.c q.d)).value, .int .i64 ((y q.b).getD (putE s (y q.b) q.b q.c q.d)).weight, .int .i64 ((y q.b).getD (putE s (y q.b) q.b q.c q.d)).node]), ((3 : Nat), .cells (35 : Nat) [.int .i64 q.a, .int .i64 q.b, .int .i64 q.c, .int .i64 q.d]), ((0 : Nat), .obj (oM y_1)), ((1 : Nat), .obj (oR y_2))] (8 : Nat)) (Out.fin .ff [((6 : Nat), .cells (28 : Nat) [.int .i64 ((rGet r.L q.b).getD {key := q.b, value := q.c, weight := wR q.d, node := (↑r.st.length : Int) : Ent }).key, .int .i64 ((rGet r.L q.b).getD {key := q.b, value := q.c, weight := wR q.d, node := (↑r.st.length : Int) : Ent }).value, .int .i64 ((rGet r.L q.b).getD {key := q.b, value := q.c, weight := wR q.d, node := (↑r.st.length : Int) : Ent }).weight, .int .i64 ((rGet r.L q.b).getD {key := q.b, value := q.c, weight := wR q.d, node := (↑r.st.length : Int) : Ent }).node]), ((4 : Nat), .cells (28 : Nat) [.int .i64 ((y q.b).getD (putE s (y q.b) q.b q.c q.d)).key, .int .i64 ((y q.b).getD (putE s (y q.b) q.b q.c q.d)).value, .int .i64 ((y q.b).getD (putE s (y q.b) q.b q.c q.d)).weight, .int .i64 ((y q.b).getD (putE s (y q.b) q.b q.c q.d)).node]), ((3 : Nat), .cells (35 : Nat) [.int .i64 q.a, .int .i64 q.b, .int .i64 q.c, .int .i64 q.d]), ((0 : Nat), .obj (oM y_1)), ((1 : Nat), .obj (oR y_2))] (8 : Nat))))))) (Out.ite (bitsOp BinOp.and .i64 q.a (7 : Int) == (4 : Int)) (Out.ex (Int → Option Ent) fun y => Out.need (MapOk s y) (Out.all MO fun y_1 => Out.asm (y_1 = remS s (y q.b) false y_1.pool ∧ MapOk y_1 (updF y q.b none)) (Out.need (r.L.length ≤ (1000000 : Nat) ∧ ∀ (e : Ent), e ∈ r.L → (0 : Int) ≤ e.node ∧ e.node < (↑r.st.length : Int)) (Out.all RM fun y_2 => Out.asm (RemR r y_2 q.b (2 : Int)) (Out.ite (((y q.b).getD e0).key == ((rGet r.L q.b).getD e0).key && (((y q.b).getD e0).value == ((rGet r.L q.b).getD e0).value && (((y q.b).getD e0).weight == ((rGet r.L q.b).getD e0).weight && (((y q.b).getD e0).node == ((rGet r.L q.b).getD e0).node && true)))) (Out.fin (.bool ((y q.b).isSome == (rGet r.L q.b).isSome)) [((6 : Nat), .cells (28 : Nat) [.int .i64 ((rGet r.L q.b).getD e0).key, .int .i64 ((rGet r.L q.b).getD e0).value, .int .i64 ((rGet r.L q.b).getD e0).weight, .int .i64 ((rGet r.L q.b).getD e0).node]), ((4 : Nat), .cells (28 : Nat) [.int .i64 ((y q.b).getD e0).key, .int .i64 ((y q.b).getD e0).value, .int .i64 ((y q.b).getD e0).weight, .int .i64 ((y q.b).getD e0).node]), ((3 : Nat), .cells (35 : Nat) [.int .i64 q.a, .int .i64 q.b, .int .i64 q.c, .int .i64 q.d]), ((0 : Nat), .obj (oM y_1)), ((1 : Nat), .obj (oR y_2))] (8 : Nat)) (Out.fin .ff [((6 : Nat), .cells (28 : Nat) [.int .i64 ((rGet r.L q.b).getD e0).key, .int .i64 ((rGet r.L q.b).getD e0).value, .int .i64 ((rGet r.L q.b).getD e0).weight, .int .i64 ((rGet r.L q.b).getD e0).node]), ((4 : Nat), .cells (28 : Nat) [.int .i64 ((y q.b).getD e0).key, .int .i64 ((y q.b).getD e0).value, .int .i64 ((y q.b).getD e0).weight, .int .i64 ((y q.b).getD e0).node]), ((3 : Nat), .cells (35 : Nat) [.int .i64 q.a, .int .i64 q.b, .int .i64 q.c, .int .i64 q.d]), ((0 : Nat), .obj (oM y_1)), ((1 : Nat), .obj (oR y_2))] (8 : Nat))))))) (Out.ite (bitsOp BinOp.and .i64 q.a (7 : Int) == (5 : Int)) (Out.ite (mget s.keys q.b).isSome (Out.ex (Int → Option Ent) fun y => Out.need (MapOk s y) (Out.all MO fun y_1 => Out.asm (y_1 = remS s (y ((mget s.keys q.b).getD (0 : Int))) true y_1.pool ∧ MapOk y_1 (updF y ((mget s.keys q.b).getD (0 : Int)) none)) (Out.need (r.L.length ≤ (1000000 : Nat) ∧ ∀ (e : Ent), e ∈ r.L → (0 : Int) ≤ e.node ∧ e.node < (↑r.st.length : Int)) (Out.all RM fun y_2 => Out.asm (EvR r y_2 q.b) (Out.ite (((y ((mget s.keys q.b).getD (0 : Int))).getD e0).key == ((rNode r.L q.b).getD e0).key && (((y ((mget s.keys q.b).getD (0 : Int))).getD e0).value == ((rNode r.L q.b).getD e0).value && (((y ((mget s.keys q.b).getD (0 : Int))).getD e0).weight == ((rNode r.L q.b).getD e0).weight && (((y ((mget s.keys q.b).getD (0 : Int))).getD e0).node == ((rNode r.L q.b).getD e0).node && true)))) (Out.fin (.bool ((y ((mget s.keys q.b).getD (0 : Int))).isSome == (rNode r.L q.b).isSome)) [((6 : Nat), .cells (28 : Nat) [.int .i64 ((rNode r.L q.b).getD e0).key, .int .i64 ((rNode r.L q.b).getD e0).value, .int .i64 ((rNode r.L q.b).getD e0).weight, .int .i64 ((rNode r.L q.b).getD e0).node]), ((4 : Nat), .cells (28 : Nat) [.int .i64 ((y ((mget s.keys q.b).getD (0 : Int))).getD e0).key, .int .i64 ((y ((mget s.keys q.b).getD (0 : Int))).getD e0).value, .int .i64 ((y ((mget s.keys q.b).getD (0 : Int))).getD e0).weight, .int .i64 ((y ((mget s.keys q.b).getD (0 : Int))).getD e0).node]), ((3 : Nat), .cells (35 : Nat) [.int .i64 q.a, .int .i64 q.b, .int .i64 q.c, .int .i64 q.d]), ((0 : Nat), .obj (oM y_1)), ((1 : Nat), .obj (oR y_2))] (8 : Nat)) (Out.fin .ff [((6 : Nat), .cells (28 : Nat) [.int .i64 ((rNode r.L q.b).getD e0).key, .int .i64 ((rNode r.L q.b).getD e0).value, .int .i64 ((rNode r.L q.b).getD e0).weight, .int .i64 ((rNode r.L q.b).getD e0).node]), ((4 : Nat), .cells (28 : Nat) [.int .i64 ((y ((mget s.keys q.b).getD (0 : Int))).getD e0).key, .int .i64 ((y ((mget s.keys q.b).getD (0 : Int))).getD e0).value, .int .i64 ((y ((mget s.keys q.b).getD (0 : Int))).getD e0).weight, .int .i64 ((y ((mget s.keys q.b).getD (0 : Int))).getD e0).node]), ((3 : Nat), .cells (35 : Nat) [.int .i64 q.a, .int .i64 q.b, .int .i64 q.c, .int .i64 q.d]), ((0 : Nat), .obj (oM y_1)), ((1 : Nat), .obj (oR y_2))] (8 : Nat))))))) (Out.need (r.L.length ≤ (1000000 : Nat) ∧ ∀ (e : Ent), e ∈ r.L → (0 : Int) ≤ e.node ∧ e.node < (↑r.st.length : Int)) (Out.all RM fun y => Out.asm (EvR r y q.b) (Out.ite ((0 : Int) == ((rNode r.L q.b).getD e0).key && ((0 : Int) == ((rNode r.L q.b).getD e0).value && ((0 : Int) == ((rNode r.L q.b).getD e0).weight && ((0 : Int) == ((rNode r.L q.b).getD e0).node && true)))) (Out.fin (.bool (false == (rNode r.L q.b).isSome)) [((6 : Nat), .cells (28 : Nat) [.int .i64 ((rNode r.L q.b).getD e0).key, .int .i64 ((rNode r.L q.b).getD e0).value, .int .i64 ((rNode r.L q.b).getD e0).weight, .int .i64 ((rNode r.L q.b).getD e0).node]), ((4 : Nat), .cells (28 : Nat) [.int .i64 (0 : Int), .int .i64 (0 : Int), .int .i64 (0 : Int), .int .i64 (0 : Int)]), ((3 : Nat), .cells (35 : Nat) [.int .i64 q.a, .int .i64 q.b, .int .i64 q.c, .int .i64 q.d]), ((0 : Nat), .obj (oM s)), ((1 : Nat), .obj (oR y))] (8 : Nat)) (Out.fin .ff [((6 : Nat), .cells (28 : Nat) [.int .i64 ((rNode r.L q.b).getD e0).key, .int .i64 ((rNode r.L q.b).getD e0).value, .int .i64 ((rNode r.L q.b).getD e0).weight, .int .i64 ((rNode r.L q.b).getD e0).node]), ((4 : Nat), .cells (28 : Nat) [.int .i64 (0 : Int), .int .i64 (0 : Int), .int .i64 (0 : Int), .int .i64 (0 : Int)]), ((3 : Nat), .cells (35 : Nat) [.int .i64 q.a, .int .i64 q.b, .int .i64 q.c, .int .i64 q.d]), ((0 : Nat), .obj (oM s)), ((1 : Nat), .obj (oR y))] (8 : Nat)))))) (Out.ite (bitsOp BinOp.and .i64 q.a (7 : Int) == (6 : Int)) (Out.all MO fun y => Out.asm (y = buryS s q.b) (Out.all RM fun y_1 => Out.asm (y_1 = buryR r q.b) (Out.fin (.bool ((if stateOf s q.b = (2 : Int) then (0 : Int) else if stateOf s q.b = (3 : Int) then (8 : Int) else (3 : Int)) == if stR r q.b < (2 : Int) then (3 : Int) else if stR r q.b = (3 : Int) then (8 : Int) else (0 : Int))) [((3 : Nat), .cells (35 : Nat) [.int .i64 q.a, .int .i64 q.b, .int .i64 q.c, .int .i64 q.d]), ((0 : Nat), .obj (oM y)), ((1 : Nat), .obj (oR y_1))] (4 : Nat)))) (Out.ex (Int → Option Ent) fun y => Out.need (MapOk s y) (Out.need (r.L.length ≤ (1000000 : Nat)) (Out.ite (((y q.b).getD e0).key == ((rGet r.L q.b).getD e0).key && (((y q.b).getD e0).value == ((rGet r.L q.b).getD e0).value && (((y q.b).getD e0).weight == ((rGet r.L q.b).getD e0).weight && (((y q.b).getD e0).node == ((rGet r.L q.b).getD e0).node && true)))) (Out.fin (.bool ((y q.b).isSome == (rGet r.L q.b).isSome)) [((6 : Nat), .cells (28 : Nat) [.int .i64 ((rGet r.L q.b).getD e0).key, .int .i64 ((rGet r.L q.b).getD e0).value, .int .i64 ((rGet r.L q.b).getD e0).weight, .int .i64 ((rGet r.L q.b).getD e0).node]), ((4 : Nat), .cells (28 : Nat) [.int .i64 ((y q.b).getD e0).key, .int .i64 ((y q.b).getD e0).value, .int .i64 ((y q.b).getD e0).weight, .int .i64 ((y q.b).getD e0).node]), ((3 : Nat), .cells (35 : Nat) [.int .i64 q.a, .int .i64 q.b, .int .i64 q.c, .int .i64 q.d]), ((0 : Nat), .obj (oM s)), ((1 : Nat), .obj (oR r))] (8 : Nat)) (Out.fin .ff [((6 : Nat), .cells (28 : Nat) [.int .i64 ((rGet r.L q.b).getD e0).key, .int .i64 ((rGet r.L q.b).getD e0).value, .int .i64 ((rGet r.L q.b).getD e0).weight, .int .i64 ((rGet r.L q.b).getD e0).node]), ((4 : Nat), .cells (28 : Nat) [.int .i64 ((y q.b).getD e0).key, .int .i64 ((y q.b).getD e0).value, .int .i64 ((y q.b).getD e0).weight, .int .i64 ((y q.b).getD e0).node]), ((3 : Nat), .cells (35 : Nat) [.int .i64 q.a, .int .i64 q.b, .int .i64 q.c, .int .i64 q.d]), ((0 : Nat), .obj (oM s)), ((1 : Nat), .obj (oR r))] (8 : Nat))))))))))) := by kernel_rfl

end Sx
end Go.Proofs.Ytohckjjbephohaa

/-
  The document's map and the program's, step by step alike; no program in sight.
-/
namespace Go.Proofs.Ytohckjjbephohaa
namespace Sx
open Go
set_option linter.unusedSimpArgs false
set_option linter.unusedVariables false

theorem getD_setI {α : Type} {l : List α} {i j : Nat} {x d : α} (hj : j < l.length) : (l.set i x).getD j d = if j = i then x else l.getD j d := by
  simp only [List.getD_eq_getElem?_getD, List.getElem?_set]
  by_cases e : i = j
  · subst e; simp [hj]
  · simp [e, Ne.symm e]
theorem first_or (L : List Ent) (k : Int) : ∀ n, n ≤ L.length → noneAt L k n ∨ ∃ i, firstAt L k i
  | 0, _ => .inl fun j hj => absurd hj (Nat.not_lt_zero _)
  | n + 1, hn => by
    rcases first_or L k n (by omega) with h | h
    · by_cases e : (L.getD n e0).key = k
      · exact .inr ⟨n, hn, e, h⟩
      · refine .inl fun j hj => ?_
        by_cases hjn : j = n
        · rw [hjn]; exact e
        · exact h j (by omega)
    · exact .inr h
theorem firstNode_or (L : List Ent) (k : Int) : ∀ n, n ≤ L.length → (∀ j, j < n → (L.getD j e0).node ≠ k) ∨ ∃ i, firstNode L k i
  | 0, _ => .inl fun j hj => absurd hj (Nat.not_lt_zero _)
  | n + 1, hn => by
    rcases firstNode_or L k n (by omega) with h | h
    · by_cases e : (L.getD n e0).node = k
      · exact .inr ⟨n, hn, e, h⟩
      · refine .inl fun j hj => ?_
        by_cases hjn : j = n
        · rw [hjn]; exact e
        · exact h j (by omega)
    · exact .inr h
theorem get_rel {f : Int → Option Ent} {L : List Ent} (h : AllRow f L) (hk : ∀ k e, f k = some e → e.key = k) (k : Int) : rGet L k = f k := by
  rcases first_or L k L.length (Nat.le_refl _) with hn | ⟨i, hi⟩
  · rw [get_none hn]
    cases hf : f k with
    | none => rfl
    | some e =>
      have hm : e ∈ L := (h.mem e).2 (by rw [hk k e hf]; exact hf)
      obtain ⟨j, hj, rfl⟩ := List.mem_iff_getElem.1 hm
      exact absurd (by rw [getD_of hj]; exact hk k _ hf) (hn j hj)
  · rw [get_first hi]
    have hm : L.getD i e0 ∈ L := by rw [getD_of hi.1]; exact List.getElem_mem hi.1
    have := (h.mem _).1 hm
    rw [hi.2.1] at this
    exact this.symm
theorem node_rel {s : MO} {f : Int → Option Ent} {xs L : List Ent} (h : MK s f xs) (hL : AllRow f L) (n : Int) : rNode L n = (mget s.keys n).bind f := by
  have hp : L.Perm xs := hL.holds.uniq h.h
  rcases firstNode_or L n L.length (Nat.le_refl _) with hn | ⟨i, hi⟩
  · rw [node_none hn]
    cases hm : mget s.keys n with
    | none => rfl
    | some k =>
      obtain ⟨e, he, h1, _⟩ := (h.node n k).1 hm
      obtain ⟨j, hj, rfl⟩ := List.mem_iff_getElem.1 (hp.mem_iff.2 he)
      exact absurd (by rw [getD_of hj]; exact h1) (hn j hj)
  · rw [node_first hi]
    have hm : L.getD i e0 ∈ L := by rw [getD_of hi.1]; exact List.getElem_mem hi.1
    have h1 := (h.node n (L.getD i e0).key).2 ⟨_, hp.mem_iff.1 hm, hi.2.1, rfl⟩
    rw [h1]
    exact ((hL.mem _).1 hm).symm
theorem asc_ne {L : List Ent} (h : L.Pairwise (fun a b => a.key < b.key)) {i j : Nat} (hi : i < L.length) (hj : j < L.length) (hne : i ≠ j) : L[i].key ≠ L[j].key := by
  rcases Nat.lt_or_gt_of_ne hne with hh | hh
  · have := List.pairwise_iff_getElem.1 h i j hi hj hh; omega
  · have := List.pairwise_iff_getElem.1 h j i hj hi hh; omega
theorem AllRow.set {f : Int → Option Ent} {L : List Ent} (h : AllRow f L) {i : Nat} {e : Ent} (hi : i < L.length) (hk : e.key = L[i].key) : AllRow (updF f e.key (some e)) (L.set i e) := by
  have hmap : (L.set i e).map (·.key) = L.map (·.key) := by
    apply List.ext_getElem?
    intro j
    rw [List.getElem?_map, List.getElem?_map, List.getElem?_set]
    by_cases hj : i = j
    · subst hj; rw [if_pos rfl, if_pos hi, List.getElem?_eq_getElem hi]; simp [hk]
    · rw [if_neg hj]
  refine ⟨?_, fun x => ?_⟩
  · have := List.pairwise_map.2 h.asc
    rw [show L.map (fun a => a.key) = L.map (·.key) from rfl, ← hmap] at this
    exact List.pairwise_map.1 this
  · unfold updF
    rw [List.mem_iff_getElem]
    constructor
    · rintro ⟨j, hj, rfl⟩
      rw [List.length_set] at hj
      rw [List.getElem_set]
      by_cases e1 : i = j
      · simp only [e1, if_true]
      · simp only [if_neg e1]
        rw [if_neg (by rw [hk]; exact asc_ne h.asc hj hi (Ne.symm e1))]
        exact (h.mem _).1 (List.getElem_mem hj)
    · intro hx
      by_cases e1 : x.key = e.key
      · rw [if_pos e1] at hx; cases hx
        exact ⟨i, by rw [List.length_set]; exact hi, by simp⟩
      · rw [if_neg e1] at hx
        obtain ⟨j, hj, rfl⟩ := List.mem_iff_getElem.1 ((h.mem x).2 hx)
        refine ⟨j, by rw [List.length_set]; exact hj, ?_⟩
        rw [List.getElem_set, if_neg]
        intro e2; subst e2; exact e1 hk.symm
theorem AllRow.ins {f : Int → Option Ent} {L : List Ent} (h : AllRow f L) {e : Ent} (hf : f e.key = none) {p : Nat} (hp : insP L e.key p) : AllRow (updF f e.key (some e)) (L.take p ++ [e] ++ L.drop p) := by
  obtain ⟨p1, p2, p3⟩ := hp
  have hlo : ∀ x ∈ L.take p, x.key < e.key := fun x hx => by
    obtain ⟨j, hj, rfl⟩ := List.mem_iff_getElem.1 hx
    rw [List.length_take] at hj
    have := p2 j (by omega)
    rw [getD_of (by omega)] at this
    rw [List.getElem_take]; exact this
  have hne : ∀ x ∈ L, x.key ≠ e.key := fun x hx hh => by have := (h.mem x).1 hx; rw [hh, hf] at this; cases this
  have hhi : ∀ x ∈ L.drop p, e.key < x.key := fun x hx => by
    have hxL := List.mem_of_mem_drop hx
    obtain ⟨j, hj, rfl⟩ := List.mem_iff_getElem.1 hx
    rw [List.length_drop] at hj
    have hpl : p < L.length := by omega
    have h3 := p3 hpl
    rw [getD_of hpl] at h3
    have hn := hne _ hxL
    rw [List.getElem_drop] at hn ⊢
    rcases Nat.eq_zero_or_pos j with h0 | h0
    · subst h0
      simp only [Nat.add_zero] at hn ⊢
      omega
    · have := List.pairwise_iff_getElem.1 h.asc p (p + j) hpl (by omega) (by omega)
      omega
  refine ⟨?_, fun x => ?_⟩
  · rw [List.append_assoc, List.pairwise_append]
    refine ⟨h.asc.sublist (List.take_sublist _ _), ?_, fun a ha b hb => ?_⟩
    · rw [List.singleton_append, List.pairwise_cons]
      exact ⟨hhi, h.asc.sublist (List.drop_sublist _ _)⟩
    · rw [List.singleton_append, List.mem_cons] at hb
      rcases hb with rfl | hb
      · exact hlo a ha
      · have := hlo a ha; have := hhi b hb; omega
  · unfold updF
    have hsplit : x ∈ L.take p ++ [e] ++ L.drop p ↔ x = e ∨ x ∈ L := by
      rw [List.mem_append, List.mem_append, List.mem_singleton]
      constructor
      · rintro ((h1 | h1) | h1)
        · exact .inr (List.mem_of_mem_take h1)
        · exact .inl h1
        · exact .inr (List.mem_of_mem_drop h1)
      · rintro (h1 | h1)
        · exact .inl (.inr h1)
        · rw [← List.take_append_drop p L, List.mem_append] at h1
          rcases h1 with h1 | h1
          · exact .inl (.inl h1)
          · exact .inr h1
    rw [hsplit]
    by_cases e1 : x.key = e.key
    · rw [if_pos e1]
      constructor
      · rintro (h1 | h1)
        · rw [h1]
        · exact absurd e1 (hne x h1)
      · intro h1; cases h1; exact .inl rfl
    · rw [if_neg e1, ← h.mem x]
      constructor
      · rintro (h1 | h1)
        · rw [h1] at e1; exact absurd rfl e1
        · exact h1
      · exact .inr
theorem outL_erase {L : List Ent} {i : Nat} (hi : i < L.length) : outL L i = L.eraseIdx i := by
  unfold outL
  rw [List.eraseIdx_eq_take_drop_succ, List.take_of_length_le (l := List.drop (i + 1) L) (by rw [List.length_drop]; omega)]
theorem AllRow.out {f : Int → Option Ent} {L : List Ent} (h : AllRow f L) {i : Nat} (hi : i < L.length) : AllRow (updF f L[i].key none) (outL L i) := by
  rw [outL_erase hi]
  refine ⟨h.asc.sublist (List.eraseIdx_sublist _ _), fun x => ?_⟩
  unfold updF
  rw [List.mem_eraseIdx_iff_getElem]
  constructor
  · rintro ⟨j, hj, hne, rfl⟩
    rw [if_neg (asc_ne h.asc hj hi hne)]
    exact (h.mem _).1 (List.getElem_mem hj)
  · intro hx
    by_cases e1 : x.key = L[i].key
    · rw [if_pos e1] at hx; cases hx
    · rw [if_neg e1] at hx
      obtain ⟨j, hj, rfl⟩ := List.mem_iff_getElem.1 ((h.mem x).2 hx)
      exact ⟨j, hj, fun e2 => e1 (by subst e2; rfl), rfl⟩

/-! ## the steps -/
theorem RelM.bound {s : MO} {r : RM} (h : RelM s r) : ∀ e ∈ r.L, 0 ≤ e.node ∧ e.node < (r.st.length : Int) := fun e he => by
  obtain ⟨f, xs, hM, hL⟩ := h.ex
  have hp : r.L.Perm xs := hL.holds.uniq hM.h
  have := hM.nr e (hp.mem_iff.1 he)
  have := h.stl
  omega
theorem nodup_len : ∀ (n : Nat) (l : List Nat), l.Nodup → (∀ x ∈ l, x < n) → l.length ≤ n
  | 0, l, _, h => by
    cases l with
    | nil => exact Nat.le_refl 0
    | cons a l => exact absurd (h a (by simp)) (Nat.not_lt_zero _)
  | n + 1, l, hd, h => by
    by_cases hm : n ∈ l
    · have h1 := nodup_len n (l.erase n) (hd.erase n) fun x hx => by
        have := (hd.mem_erase_iff).1 hx
        have := h x this.2
        omega
      rw [List.length_erase_of_mem hm] at h1
      omega
    · have h1 := nodup_len n l hd fun x hx => by
        have := h x hx
        have : x ≠ n := fun e => hm (e ▸ hx)
        omega
      omega
theorem RelM.len {s : MO} {r : RM} (h : RelM s r) : (r.L.length : Int) ≤ s.given ∧ r.L.length = s.keys.length := by
  obtain ⟨f, xs, hM, hL⟩ := h.ex
  have hp : r.L.Perm xs := hL.holds.uniq hM.h
  have h1 := hp.length_eq
  have h2 := hM.keys.length_eq
  simp only [List.length_map] at h2
  refine ⟨?_, by omega⟩
  have hg := hM.m.giv
  have hb : xs.length ≤ s.given.toNat := by
    have hnd : (xs.map fun e => e.node.toNat - 1).Nodup := by
      refine List.pairwise_map.2 ?_
      refine (List.pairwise_map.1 hM.nn).imp_of_mem fun {a b} ha hb hab e => hab ?_
      have := hM.nr a ha; have := hM.nr b hb; omega
    have := nodup_len s.given.toNat _ hnd fun j hj => by
      obtain ⟨e, he, rfl⟩ := List.mem_map.1 hj
      have := hM.nr e he
      omega
    rw [List.length_map] at this; exact this
  omega
theorem RelM.put {s s' : MO} {r r' : RM} {f : Int → Option Ent} {xs : List Ent} (h : RelM s r) (hM : MK s f xs) (hL : AllRow f r.L) (hg : s.given < 536870912) {k v w : Int}
    (e : s' = putS s (f k) k w s'.pool) (m : MapOk s' (updF f k (some (putE s (f k) k v w)))) (hp : PutR r r' k v w) :
    RelM s' r' ∧ s.given ≤ s'.given ∧ s'.given ≤ s.given + 1 := by
  obtain ⟨xs', a1, a2, a3⟩ := hM.put hg e m
  have et : s'.tabs = s.tabs := by rw [e]; rfl
  have es : s'.seed = s.seed := by rw [e]; rfl
  have hgr := get_rel hL (fun k e he => hM.m.key he) k
  have hgv := hM.m.giv
  have hw1 : IntKind.wrap .i64 (s.given + 1) = s.given + 1 := wrap_low (by omega) (by omega)
  rcases first_or r.L k r.L.length (Nat.le_refl _) with hn | ⟨i, hi⟩
  · obtain ⟨p, hins, rfl⟩ := hp.miss hn
    have hf : f k = none := by rw [← hgr, get_none hn]
    rw [hf] at a1 a3
    have a3 : s'.given = s.given + 1 := a3
    have hE : putE s none k v w = ⟨k, v, wR w, (r.st.length : Int)⟩ := by
      unfold putE; rw [hw1, wR_cw, h.stl]
    rw [hE] at a1
    refine ⟨⟨by rw [et]; exact h.n, by rw [es]; exact h.sd, ⟨_, _, a1, AllRow.ins hL (e := ⟨k, v, wR w, (r.st.length : Int)⟩) hf hins⟩, ?_, fun n => ?_⟩, by omega, by omega⟩
    · show ((r.st ++ [1]).length : Int) = _
      rw [List.length_append, List.length_singleton, a3]
      have := h.stl; omega
    · have hst := h.st n
      have hl := h.stl
      by_cases hnew : n = s.given + 1
      · have hmg : mget s.gone n = none := by
          cases hh : mget s.gone n with
          | none => rfl
          | some _ => have := hM.gr n (by rw [hh]; simp); omega
        have l1 : stateOf s' n = 1 := by unfold stateOf; rw [if_neg (by omega), a2, hmg]
        rw [l1]
        unfold stR
        show (if n < 1 ∨ n ≥ ((r.st ++ [1]).length : Int) then (0 : Int) else (r.st ++ [1]).getD n.toNat 0) = 1
        rw [List.length_append, List.length_singleton, if_neg (by omega), getD_app, if_pos (by omega)]
      · have l1 : stateOf s' n = stateOf s n := by
          unfold stateOf
          rw [a2, a3]
          by_cases hr : n < 1 ∨ n > s.given
          · rw [if_pos hr, if_pos (by omega)]
          · rw [if_neg hr, if_neg (by omega)]
        rw [l1, ← hst]
        unfold stR
        show (if n < 1 ∨ n ≥ ((r.st ++ [1]).length : Int) then (0 : Int) else (r.st ++ [1]).getD n.toNat 0) = _
        rw [List.length_append, List.length_singleton]
        by_cases hr : n < 1 ∨ n ≥ (r.st.length : Int)
        · rw [if_pos hr, if_pos (by omega)]
        · rw [if_neg hr, if_neg (by omega), getD_app, if_neg (by omega)]
  · have := hp.hit i hi
    subst this
    have hfi : f k = some (r.L.getD i e0) := by rw [← hgr, get_first hi]
    rw [hfi] at a1 a3
    have a3 : s'.given = s.given := by rw [a3]; simp
    have hE : putE s (some (r.L.getD i e0)) k v w = ⟨k, v, wR w, (r.L.getD i e0).node⟩ := by
      unfold putE; rw [wR_cw]
    rw [hE] at a1
    refine ⟨⟨by rw [et]; exact h.n, by rw [es]; exact h.sd, ⟨_, _, a1, AllRow.set hL (e := ⟨k, v, wR w, (r.L.getD i e0).node⟩) hi.1 (by show k = _; rw [← getD_of (d := e0) hi.1, hi.2.1])⟩, ?_, fun n => ?_⟩, by omega, by omega⟩
    · show (r.st.length : Int) = _; rw [a3]; exact h.stl
    · rw [state_of a3 (by rw [a2])]; exact h.st n
theorem RelM.away {s s' : MO} {r r' : RM} {f : Int → Option Ent} {xs : List Ent} (h : RelM s r) (hM : MK s f xs) (hL : AllRow f r.L) {k : Int} {dead : Bool} {v : Int} (hv : v = if dead then 3 else 2)
    (e : s' = remS s (f k) dead s'.pool) (m : MapOk s' (updF f k none)) (hh : ∀ i, firstAt r.L k i → r' = { r with L := outL r.L i, st := r.st.set (r.L.getD i e0).node.toNat v }) (hmiss : noneAt r.L k r.L.length → r' = r) :
    RelM s' r' ∧ s'.given = s.given := by
  obtain ⟨xs', a1, a3⟩ := hM.rem e m
  have et : s'.tabs = s.tabs := by rw [e]; rfl
  have es : s'.seed = s.seed := by rw [e]; rfl
  have hgr := get_rel hL (fun k e he => hM.m.key he) k
  rcases first_or r.L k r.L.length (Nat.le_refl _) with hn | ⟨i, hi⟩
  · have := hmiss hn
    subst this
    have hf : f k = none := by rw [← hgr, get_none hn]
    have a2 : s'.gone = s.gone := by rw [e, hf]; rfl
    rw [updF_none hf] at a1
    exact ⟨⟨by rw [et]; exact h.n, by rw [es]; exact h.sd, ⟨_, _, a1, hL⟩, by rw [a3]; exact h.stl, fun n => by rw [state_of a3 (by rw [a2])]; exact h.st n⟩, a3⟩
  · have := hh i hi
    subst this
    have hfi : f k = some (r.L.getD i e0) := by rw [← hgr, get_first hi]
    have hk : (r.L.getD i e0).key = k := hi.2.1
    have hmem : r.L.getD i e0 ∈ r.L := by rw [getD_of hi.1]; exact List.getElem_mem hi.1
    have hxs : r.L.getD i e0 ∈ xs := (hL.holds.uniq hM.h).mem_iff.1 hmem
    have hnr := hM.nr _ hxs
    have hl := h.stl
    have hst := h.st
    rw [hfi] at e
    have hst1 := rem_state e hnr.1 hnr.2
    have a2 : s'.gone = mput s.gone (r.L.getD i e0).node dead := by rw [e]; rfl
    have hrow := hL.out hi.1
    rw [← getD_of (d := e0) hi.1, hk] at hrow
    refine ⟨⟨by rw [et]; exact h.n, by rw [es]; exact h.sd, ⟨_, _, a1, hrow⟩, ?_, fun n => ?_⟩, a3⟩
    · show ((r.st.set _ _).length : Int) = _; rw [List.length_set, a3]; exact hl
    · generalize r.L.getD i e0 = o at *
      by_cases hno : n = o.node
      · subst hno
        rw [hst1, ← hv]
        unfold stR
        show (if o.node < 1 ∨ o.node ≥ ((r.st.set o.node.toNat v).length : Int) then (0 : Int) else (r.st.set o.node.toNat v).getD o.node.toNat 0) = v
        rw [List.length_set, if_neg (by omega), getD_setI (by omega), if_pos rfl]
      · rw [state_of a3 (by rw [a2, mget_put_ne _ _ _ _ hno]), ← hst n]
        unfold stR
        show (if n < 1 ∨ n ≥ ((r.st.set o.node.toNat v).length : Int) then (0 : Int) else (r.st.set o.node.toNat v).getD n.toNat 0) = _
        rw [List.length_set]
        by_cases hr : n < 1 ∨ n ≥ (r.st.length : Int)
        · rw [if_pos hr, if_pos hr]
        · rw [if_neg hr, if_neg hr, getD_setI (by omega), if_neg (by omega)]
theorem RelM.bury {s : MO} {r : RM} (h : RelM s r) (n : Int) : RelM (buryS s n) (buryR r n) ∧ (buryS s n).given = s.given ∧ (if stR r n < 2 then (3 : Int) else if stR r n = 3 then 8 else 0) = if stateOf s n = 2 then 0 else if stateOf s n = 3 then 8 else 3 := by
  obtain ⟨f, xs, hM, hL⟩ := h.ex
  obtain ⟨b1, b2⟩ := hM.bury n
  have hs := h.st n
  have hl := h.stl
  have hvals : stateOf s n = 0 ∨ stateOf s n = 1 ∨ stateOf s n = 2 ∨ stateOf s n = 3 := by
    unfold stateOf
    split
    · exact .inl rfl
    · cases mget s.gone n with
      | none => exact .inr (.inl rfl)
      | some b => cases b <;> simp
  rw [hs]
  refine ⟨?_, b2, ?_⟩
  · have et : (buryS s n).tabs = s.tabs := by unfold buryS; split <;> rfl
    have es : (buryS s n).seed = s.seed := by unfold buryS; split <;> rfl
    unfold buryR
    rw [hs]
    by_cases h2 : stateOf s n = 2
    · rw [if_neg (by omega), if_neg (by omega)]
      have hr : ¬ (n < 1 ∨ n > s.given) := by
        intro hr
        unfold stateOf at h2
        rw [if_pos hr] at h2; cases h2
      refine ⟨by rw [et]; exact h.n, by rw [es]; exact h.sd, ⟨f, xs, b1, hL⟩, ?_, fun j => ?_⟩
      · show ((r.st.set _ _).length : Int) = _; rw [List.length_set, b2]; exact hl
      · have hj := h.st j
        have hbs : buryS s n = { s with gone := mput s.gone n true } := by unfold buryS; rw [if_pos h2]
        by_cases e1 : j = n
        · subst e1
          have l1 : stateOf (buryS s j) j = 3 := by
            rw [hbs]; unfold stateOf
            rw [if_neg (by exact hr)]
            show (match mget (mput s.gone j true) j with | none => (1 : Int) | some true => 3 | some false => 2) = 3
            rw [mget_put]
          rw [l1]
          unfold stR
          show (if j < 1 ∨ j ≥ ((r.st.set j.toNat 3).length : Int) then (0 : Int) else (r.st.set j.toNat 3).getD j.toNat 0) = 3
          rw [List.length_set, if_neg (by omega), getD_setI (by omega), if_pos rfl]
        · have l1 : stateOf (buryS s n) j = stateOf s j := by
            rw [hbs]
            refine state_of (s := s) (y := { s with gone := mput s.gone n true }) rfl ?_
            show mget (mput s.gone n true) j = _
            rw [mget_put_ne _ _ _ _ e1]
          rw [l1, ← hj]
          unfold stR
          show (if j < 1 ∨ j ≥ ((r.st.set n.toNat 3).length : Int) then (0 : Int) else (r.st.set n.toNat 3).getD j.toNat 0) = _
          rw [List.length_set]
          by_cases hr2 : j < 1 ∨ j ≥ (r.st.length : Int)
          · rw [if_pos hr2, if_pos hr2]
          · rw [if_neg hr2, if_neg hr2, getD_setI (by omega), if_neg (by omega)]
    · have hbs : buryS s n = s := by unfold buryS; rw [if_neg h2]
      rw [hbs]
      by_cases h3 : stateOf s n < 2
      · rw [if_pos h3]; exact h
      · rw [if_neg h3, if_pos (by omega)]; exact h
  · rcases hvals with e | e | e | e <;> rw [e] <;> decide

end Sx
end Go.Proofs.Ytohckjjbephohaa

/-
  A step in both maps, the program's and the document's: alike.
-/
namespace Go.Proofs.Ytohckjjbephohaa
namespace Sx
open Go
set_option linter.unusedSimpArgs false
set_option linter.unusedVariables false

theorem HImp.of_sub {n : Nat} {h l : Heap V} (hs : HeapSub (fun i => i) h l) : HImp n h l := fun G r H _ hd => heapSub_den hs hd

theorem hooksDo_ok : ∀ g H, hooksDo g = some H → HookOk Try.prog g H := by
  intro g H h
  unfold hooksDo at h
  split at h
  · cases h; exact hRShard
  · cases h; exact hRState
  · cases h; exact hRWeight
  · cases h; exact hRPut
  · cases h; exact hRRem
  · cases h; exact hREv
  · cases h; exact hRBury
  · cases h; exact hRGet
  · exact hooksX_ok _ H h
theorem cfgDo_ok : cfgDo.ok := ⟨tab_met, kinds_met, mixed_met, fun g fn h => (by cases h), hooksDo_ok⟩

def runDoP : RunObjs V := fun xs ar K => match xs, ar with
  | [.inr s, .inl (.inr r)], [.el .four q] => .need (RelM s r ∧ s.given < 1000000)
      (.all (MO × RM) fun z => .asm (RelM z.1 z.2 ∧ s.given ≤ z.1.given ∧ z.1.given ≤ s.given + 1) (K .tt [oM z.1, oR z.2] []))
  | _, _ => .bad 500

theorem RelM.evict {s s' : MO} {r r' : RM} {f : Int → Option Ent} {xs : List Ent} (h : RelM s r) (hM : MK s f xs) (hL : AllRow f r.L) {n j : Int} (hj : mget s.keys n = some j)
    (e : s' = remS s (f j) true s'.pool) (m : MapOk s' (updF f j none)) (hr : EvR r r' n) : RelM s' r' ∧ s'.given = s.given := by
  obtain ⟨e1, he1, hn1, hk1⟩ := (hM.node n j).1 hj
  have hgr := get_rel hL (fun k e he => hM.m.key he)
  rcases firstNode_or r.L n r.L.length (Nat.le_refl _) with hn | ⟨i, hi⟩
  · have := node_rel hM hL n
    rw [node_none hn, hj] at this
    have hf : f j = some e1 := by
      have := (hL.holds.uniq hM.h).mem_iff.2 he1
      rw [← hk1]; exact (hL.mem _).1 this
    simp [hf] at this
  · have hmem : r.L.getD i e0 ∈ r.L := by rw [getD_of hi.1]; exact List.getElem_mem hi.1
    have hk : (r.L.getD i e0).key = j := by
      have h1 := (hM.node n (r.L.getD i e0).key).2 ⟨_, (hL.holds.uniq hM.h).mem_iff.1 hmem, hi.2.1, rfl⟩
      rw [hj] at h1; cases h1; rfl
    have hfa : firstAt r.L j i := ⟨hi.1, hk, fun a ha hh => by
      have hal : a < r.L.length := by have := hi.1; omega
      rw [getD_of hal] at hh
      have hki : (r.L[i]'hi.1).key = j := by rw [← getD_of (d := e0) hi.1]; exact hk
      exact asc_ne hL.asc hal hi.1 (by omega) (hh.trans hki.symm)⟩
    refine h.away hM hL (v := 3) (dead := true) rfl e m (fun i' hi' => ?_) (fun hno => ?_)
    · have := first_uniq hi' hfa; subst this; exact hr.hit _ hi
    · exact absurd hk (hno i hi.1)
theorem RelM.evictN {s : MO} {r r' : RM} {f : Int → Option Ent} {xs : List Ent} (h : RelM s r) (hM : MK s f xs) (hL : AllRow f r.L) {n : Int} (hj : mget s.keys n = none)
    (hr : EvR r r' n) : r' = r := by
  rcases firstNode_or r.L n r.L.length (Nat.le_refl _) with hn | ⟨i, hi⟩
  · exact hr.miss hn
  · have := node_rel hM hL n
    rw [node_first hi, hj] at this
    cases this

theorem hDo : HookOk Try.prog 24 (hookObjs 2 [.el Kd.four] runDoP) := by
  refine hookObjs_ok ⟨Try.f24, by kernel_rfl, by kernel_rfl, by kernel_rfl⟩ ?_
  intro M xs ar K0 hlen H
  unfold runDoP at H
  split at H
  · rename_i s r q
    obtain ⟨⟨R, hg⟩, H⟩ := H
    refine calls_runF (args := [.ptr 0 0, .ptr 1 0, .agg (Four.enc q)]) (h := [(0, .obj (oM s)), (1, .obj (oR r))]) (nx := 3)
      (R := fun v0 h' n' _ => ∃ v xs' E, (K0 v xs' E).holds M ∧ EndObjs 2 n' v0 h' v xs' E) cfgDo_ok (n := 60) (fn := Try.f24) ⟨by kernel_rfl, by kernel_rfl⟩ (by kernel_rfl) (show 3 ≤ _ by decide +kernel) ?_
    rw [tdo]
    have fin : ∀ (v0 : AV) (h' : Heap V) (n' : Nat) (z : MO × RM), (RelM z.1 z.2 ∧ s.given ≤ z.1.given ∧ z.1.given ≤ s.given + 1) → v0.sub .tt → HeapSub (fun i => i) h' [(0, .obj (oM z.1)), (1, .obj (oR z.2))] → ∃ v xs' E, (K0 v xs' E).holds M ∧ EndObjs 2 n' v0 h' v xs' E :=
      fun v0 h' n' z hz hv hh => ⟨_, _, _, H z hz, [], HImp.of_sub hh, .plain hv rfl⟩
    have ob : ∀ {a : Bool}, a = true → (AV.bool a).sub .tt := fun e _ _ h => h.trans (congrArg Value.bool e)
    obtain ⟨f, xs, hM, hL⟩ := R.ex
    have hgr := fun k => get_rel hL (fun k e he => hM.m.key he) k
    have hnr := node_rel hM hL
    have hlen := R.len
    have hstl := R.stl
    have hgv := hM.m.giv
    have hb := R.bound
    have hE : ∀ k v w, (f k).getD (putE s (f k) k v w) = (f k).getD ⟨k, v, wR w, (r.st.length : Int)⟩ := by
      intro k v w
      cases hf : f k with
      | some e => rfl
      | none =>
        show putE s none k v w = _
        unfold putE; rw [wrap_low (by omega) (by omega), wR_cw, hstl]; rfl
    have put : ∀ (s1 : MO) (r1 : RM), (s1 = putS s (f q.b) q.b q.d s1.pool ∧ MapOk s1 (updF f q.b (some (putE s (f q.b) q.b q.c q.d)))) → PutR r r1 q.b q.c q.d → RelM s1 r1 ∧ s.given ≤ s1.given ∧ s1.given ≤ s.given + 1 :=
      fun s1 r1 hs1 hr1 => R.put hM hL (by omega) hs1.1 hs1.2 hr1
    have rem : ∀ (s1 : MO) (r1 : RM), (s1 = remS s (f q.b) false s1.pool ∧ MapOk s1 (updF f q.b none)) → RemR r r1 q.b 2 → RelM s1 r1 ∧ s.given ≤ s1.given ∧ s1.given ≤ s.given + 1 := by
      intro s1 r1 hs1 hr1
      obtain ⟨a, b⟩ := R.away hM hL (v := 2) (dead := false) rfl hs1.1 hs1.2 hr1.hit hr1.miss
      exact ⟨a, by omega, by omega⟩
    have ev1 : ∀ (s1 : MO) (r1 : RM), (mget s.keys q.b).isSome = true → (s1 = remS s (f ((mget s.keys q.b).getD 0)) true s1.pool ∧ MapOk s1 (updF f ((mget s.keys q.b).getD 0) none)) → EvR r r1 q.b → RelM s1 r1 ∧ s.given ≤ s1.given ∧ s1.given ≤ s.given + 1 := by
      intro s1 r1 hs hs1 hr1
      cases hm : mget s.keys q.b with
      | none => rw [hm] at hs; cases hs
      | some j =>
        rw [hm] at hs1
        obtain ⟨a, b⟩ := R.evict hM hL hm hs1.1 hs1.2 hr1
        exact ⟨a, by omega, by omega⟩
    have ev2 : ∀ (r1 : RM), (mget s.keys q.b).isSome = false → EvR r r1 q.b → RelM s r1 ∧ s.given ≤ s.given ∧ s.given ≤ s.given + 1 := by
      intro r1 hs hr1
      cases hm : mget s.keys q.b with
      | some j => rw [hm] at hs; cases hs
      | none => rw [R.evictN hM hL hm hr1]; exact ⟨R, by omega, by omega⟩
    have nd1 : (mget s.keys q.b).isSome = true → rNode r.L q.b = f ((mget s.keys q.b).getD 0) := by
      intro hs
      rw [hnr]
      cases hm : mget s.keys q.b with
      | none => rw [hm] at hs; cases hs
      | some j => rfl
    have nd2 : (mget s.keys q.b).isSome = false → rNode r.L q.b = none := by
      intro hs
      rw [hnr]
      cases hm : mget s.keys q.b with
      | some j => rw [hm] at hs; cases hs
      | none => rfl
    have bu := R.bury q.b
    have same : RelM s r ∧ s.given ≤ s.given ∧ s.given ≤ s.given + 1 := ⟨R, by omega, by omega⟩
    clear H
    generalize bitsOp BinOp.and IntKind.i64 q.a 7 = op
    simp only [hgr, hE]
    repeat' first
      | apply And.intro
      | refine ⟨f, ?_⟩
      | intro _
    all_goals first
      | assumption
      | exact hM.m
      | exact (hb _ ‹_›).1
      | exact (hb _ ‹_›).2
      | omega
      | exact (Bool.noConfusion ((‹(op == 0) = true›).symm.trans ‹(op == 0) = false›))
      | exact (Bool.noConfusion ((‹(op == 1) = true›).symm.trans ‹(op == 1) = false›))
      | (refine fin _ _ _ (_, _) (put _ _ ‹_› ‹_›) (ob ?_) ⟨.same _, .same _, trivial⟩; simp; done)
      | (refine fin _ _ _ (_, _) (rem _ _ ‹_› ‹_›) (ob ?_) ⟨.same _, .same _, trivial⟩; simp; done)
      | (refine fin _ _ _ (_, _) (ev1 _ _ ‹_› ‹_› ‹_›) (ob ?_) ⟨.same _, .same _, trivial⟩; rw [nd1 ‹_›]; simp; done)
      | (refine fin _ _ _ (_, _) (ev2 _ ‹_› ‹_›) (ob ?_) ⟨.same _, .same _, trivial⟩; rw [nd2 ‹_›]; simp; done)
      | (refine fin _ _ _ (s, r) same (ob ?_) ⟨.same _, .same _, trivial⟩; simp; done)
      | (rename_i y1 h1 y2 h2; subst h1; subst h2; refine fin _ _ _ (buryS s q.b, buryR r q.b) ⟨bu.1, ?_, ?_⟩ (ob ?_) ⟨.same _, .same _, trivial⟩ <;> first | (show s.given ≤ _; rw [bu.2.1]; omega) | (show _ ≤ s.given + 1; rw [bu.2.1]; omega) | (rw [bu.2.2]; simp; done))
      | (rename_i hc; refine absurd hc ?_; simp [hE]; done)
      | (rename_i hc; refine absurd hc ?_; rw [nd1 ‹_›]; simp; done)
      | (rename_i hc; refine absurd hc ?_; rw [nd2 ‹_›]; simp [e0]; done)
      | skip
  · exact H.elim

end Sx
end Go.Proofs.Ytohckjjbephohaa

/-
  A map, call by call: the runs of the machine.
-/
namespace Go.Proofs.Ytohckjjbephohaa
namespace Sx
open Go
set_option maxRecDepth 100000
set_option linter.unusedVariables false

noncomputable def hooksPl : Nat → Option (HookS V) := fun g => match g with
  | 23 => some (hookFree [.int .i64, .int .i64] runRNew)
  | 25 => some (hookAfter (packY 2) (hookObj 3 [.int .i64] (onR runRShard)))
  | 26 => some (hookThen (hookAfter (packY 2) (hookObj 3 [.int .i64] (onR runRState))) (openY 2))
  | 27 => some (hookThen (hookAfter (packY 2) (hookObj 3 [] (onR runRWeight))) (openY 2))
  | 24 => some (hookAfter (packY 2) (hookObjs 2 [.el Kd.four] runDoP))
  | g => hooksX g
noncomputable def cfgPl : Cfg Try.prog V := ⟨tab, kinds, fun _ => none, hooksPl, fun _ _ => none⟩
def TQY : List Nat := [0, 1, 2, 3, 4, 5, 6, 7, 8, 9, 10, 11, 12, 13, 14, 15, 16, 60, 61, 62, 63, 64, 65, 66, 67, 68, 69, 70, 71, 72, 73, 74, 75, 76, 77, 78, 79, 80]
structure PY where
  l : List Four
  c : Nat
  hl : l.length ≤ 200
structure XY where
  i : Nat
  x : MO
  r : RM
  a : Nat
  b : Nat
def YI (q : PY) (z : XY) : St V := ⟨[(2, .sl false 0 0 4 q.l.length q.c), (7, .tt), (8, .ptr 1 0), (9, .ptr 2 0), (10, .int .i64 (z.i : Int))],
  [(60, .arr 28 Kd.ent z.r.L z.a), (61, .arr 3 Kd.int z.r.st z.b), (2, .cells 48 [.int .i64 z.r.n, .int .i64 z.r.seed, .sl false 60 0 4 z.r.L.length (z.r.L.length + z.a), .sl false 61 0 1 z.r.st.length (z.r.st.length + z.b)]), (1, .obj (oM z.x)), (0, .ro Kd.four q.l)], 62, 116, TQY⟩
structure JY (q : PY) (z : XY) : Prop where
  le : z.i ≤ q.l.length
  rel : RelM z.x z.r
  giv : z.x.given ≤ z.i
structure PYs where
  q : PY
  z0 : XY
  h : JY q z0
  h0 : z0.i = 0
def LY : LoopS V := ghostLoop (openY 2) (trimLoop (trimSt [2, 7, 8, 9, 10] (List.range 90)) (loopH 60 (fun p : PYs => YI p.q p.z0) (fun p (z : XY) => JY p.q z ∧ z.i = p.q.l.length) (fun p z => YI p.q z)))
noncomputable def cfgPl7 : Cfg Try.prog V := ⟨tab, kinds, fun _ => none, hooksPl, fun f id => match f, id with | 7, 0 => some LY | _, _ => none⟩
theorem ypl7 (q : PY) (z : XY) : runCode cfgPl 60 7 (loopOf Try.f7 0) (YI q z) (stopT (trimSt [2, 7, 8, 9, 10] (List.range 120))) = Out.ite (decide ((↑z.1 : Int) < (↑q.l.length : Int))) (Out.need ((0 : Int) ≤ (↑z.1 : Int) ∧ (↑z.1 : Int) < (↑q.l.length : Int)) (Out.need ((0 : Nat) + z.1 < q.l.length) (Out.need ((z.r.L.length = z.r.L.length ∧ z.r.L.length + z.4 = z.r.L.length + z.4) ∧ z.r.st.length = z.r.st.length ∧ z.r.st.length + z.5 = z.r.st.length + z.5) (Out.need (RelM z.x {n := z.r.n, seed := z.r.seed, L := z.r.L, st := z.r.st : RM } ∧ z.x.given < (1000000 : Int)) (Out.all (MO × RM) fun y => Out.asm (RelM y.fst y.snd ∧ z.x.given ≤ y.fst.given ∧ y.fst.given ≤ z.x.given + (1 : Int)) (Out.need ((0 : Int) ≤ (↑z.1 : Int) ∧ (↑z.1 : Int) < (↑q.l.length : Int)) (Out.need ((0 : Nat) + z.1 < q.l.length) (Out.need ((0 : Int) ≤ (↑z.1 : Int) ∧ (↑z.1 : Int) < (↑q.l.length : Int)) (Out.need ((0 : Nat) + z.1 < q.l.length) (Out.need (y.fst.tabs.length ≤ (64 : Nat)) (Out.need ((1 : Int) ≤ y.snd.n ∧ y.snd.n ≤ (64 : Int)) (Out.ite (shI y.fst (q.l.getD ((0 : Nat) + z.1) (V.enc Kd.four).dflt).b != idxF (mixF y.snd.seed (q.l.getD ((0 : Nat) + z.1) (V.enc Kd.four).dflt).b) (2 : Int) y.snd.n) (Out.stop EX.rt {env := [((2 : Nat), .sl false (0 : Nat) (0 : Nat) (4 : Nat) q.l.length q.2), ((7 : Nat), .tt), ((8 : Nat), .ptr (1 : Nat) (0 : Nat)), ((9 : Nat), .ptr (2 : Nat) (0 : Nat)), ((10 : Nat), .int .i64 (↑z.1 : Int))], heap := [((1 : Nat), .obj (oM y.fst)), ((2 : Nat), .obj (oR y.snd)), ((0 : Nat), .ro Kd.four q.l)], nx := (62 : Nat), nt := (116 : Nat), tl := [(2 : Nat), (1 : Nat), (2 : Nat), (60 : Nat), (61 : Nat), (1 : Nat), (2 : Nat), (0 : Nat), (1 : Nat), (2 : Nat), (3 : Nat), (4 : Nat), (5 : Nat), (6 : Nat), (7 : Nat), (8 : Nat), (9 : Nat), (10 : Nat), (11 : Nat), (12 : Nat), (13 : Nat), (14 : Nat), (15 : Nat), (16 : Nat), (60 : Nat), (61 : Nat), (62 : Nat), (63 : Nat), (64 : Nat), (65 : Nat), (66 : Nat), (67 : Nat), (68 : Nat), (69 : Nat), (70 : Nat), (71 : Nat), (72 : Nat), (73 : Nat), (74 : Nat), (75 : Nat), (76 : Nat), (77 : Nat), (78 : Nat), (79 : Nat), (80 : Nat)] : St V }) (Out.need ((0 : Int) ≤ (↑z.1 : Int) ∧ (↑z.1 : Int) < (↑q.l.length : Int)) (Out.need ((0 : Nat) + z.1 < q.l.length) (Out.need ((0 : Int) ≤ (↑z.1 : Int) ∧ (↑z.1 : Int) < (↑q.l.length : Int)) (Out.need ((0 : Nat) + z.1 < q.l.length) (Out.all (Nat × Nat) fun y_1 => Out.ite (stateOf y.fst (q.l.getD ((0 : Nat) + z.1) (V.enc Kd.four).dflt).b != stR y.snd (q.l.getD ((0 : Nat) + z.1) (V.enc Kd.four).dflt).b) (Out.stop EX.rt {env := [((2 : Nat), .sl false (0 : Nat) (0 : Nat) (4 : Nat) q.l.length q.2), ((7 : Nat), .tt), ((8 : Nat), .ptr (1 : Nat) (0 : Nat)), ((9 : Nat), .ptr (2 : Nat) (0 : Nat)), ((10 : Nat), .int .i64 (↑z.1 : Int))], heap := [((1 : Nat), .obj (oM y.fst)), ((0 : Nat), .ro Kd.four q.l), ((2 : Nat), .cells (48 : Nat) [.int .i64 y.snd.n, .int .i64 y.snd.seed, .sl false (63 : Nat) (0 : Nat) (4 : Nat) y.snd.L.length (y.snd.L.length + y_1.1), .sl false (64 : Nat) (0 : Nat) (1 : Nat) y.snd.st.length (y.snd.st.length + y_1.2)]), ((63 : Nat), .arr (28 : Nat) Kd.ent y.snd.L y_1.1), ((64 : Nat), .arr (3 : Nat) Kd.int y.snd.st y_1.2)], nx := (65 : Nat), nt := (116 : Nat), tl := [(2 : Nat), (2 : Nat), (1 : Nat), (2 : Nat), (1 : Nat), (2 : Nat), (60 : Nat), (61 : Nat), (1 : Nat), (2 : Nat), (0 : Nat), (1 : Nat), (2 : Nat), (3 : Nat), (4 : Nat), (5 : Nat), (6 : Nat), (7 : Nat), (8 : Nat), (9 : Nat), (10 : Nat), (11 : Nat), (12 : Nat), (13 : Nat), (14 : Nat), (15 : Nat), (16 : Nat), (60 : Nat), (61 : Nat), (62 : Nat), (63 : Nat), (64 : Nat), (65 : Nat), (66 : Nat), (67 : Nat), (68 : Nat), (69 : Nat), (70 : Nat), (71 : Nat), (72 : Nat), (73 : Nat), (74 : Nat), (75 : Nat), (76 : Nat), (77 : Nat), (78 : Nat), (79 : Nat), (80 : Nat)] : St V }) (Out.ite ((↑y.fst.keys.length : Int) != (↑y.snd.L.length : Int)) (Out.stop EX.rt {env := [((2 : Nat), .sl false (0 : Nat) (0 : Nat) (4 : Nat) q.l.length q.2), ((7 : Nat), .tt), ((8 : Nat), .ptr (1 : Nat) (0 : Nat)), ((9 : Nat), .ptr (2 : Nat) (0 : Nat)), ((10 : Nat), .int .i64 (↑z.1 : Int))], heap := [((1 : Nat), .obj (oM y.fst)), ((0 : Nat), .ro Kd.four q.l), ((2 : Nat), .cells (48 : Nat) [.int .i64 y.snd.n, .int .i64 y.snd.seed, .sl false (63 : Nat) (0 : Nat) (4 : Nat) y.snd.L.length (y.snd.L.length + y_1.1), .sl false (64 : Nat) (0 : Nat) (1 : Nat) y.snd.st.length (y.snd.st.length + y_1.2)]), ((63 : Nat), .arr (28 : Nat) Kd.ent y.snd.L y_1.1), ((64 : Nat), .arr (3 : Nat) Kd.int y.snd.st y_1.2)], nx := (65 : Nat), nt := (116 : Nat), tl := [(1 : Nat), (2 : Nat), (2 : Nat), (1 : Nat), (2 : Nat), (1 : Nat), (2 : Nat), (60 : Nat), (61 : Nat), (1 : Nat), (2 : Nat), (0 : Nat), (1 : Nat), (2 : Nat), (3 : Nat), (4 : Nat), (5 : Nat), (6 : Nat), (7 : Nat), (8 : Nat), (9 : Nat), (10 : Nat), (11 : Nat), (12 : Nat), (13 : Nat), (14 : Nat), (15 : Nat), (16 : Nat), (60 : Nat), (61 : Nat), (62 : Nat), (63 : Nat), (64 : Nat), (65 : Nat), (66 : Nat), (67 : Nat), (68 : Nat), (69 : Nat), (70 : Nat), (71 : Nat), (72 : Nat), (73 : Nat), (74 : Nat), (75 : Nat), (76 : Nat), (77 : Nat), (78 : Nat), (79 : Nat), (80 : Nat)] : St V }) (Out.need ((y.snd.L.length = y.snd.L.length ∧ y.snd.L.length + y_1.1 = y.snd.L.length + y_1.1) ∧ y.snd.st.length = y.snd.st.length ∧ y.snd.st.length + y_1.2 = y.snd.st.length + y_1.2) (Out.need ({n := y.snd.n, seed := y.snd.seed, L := y.snd.L, st := y.snd.st : RM }.L.length ≤ (1000000 : Nat)) (Out.all (Nat × Nat) fun y_2 => Out.ite (y.fst.weight != IntKind.i64.wrap (wsum {n := y.snd.n, seed := y.snd.seed, L := y.snd.L, st := y.snd.st : RM }.L)) (Out.stop EX.rt {env := [((2 : Nat), .sl false (0 : Nat) (0 : Nat) (4 : Nat) q.l.length q.2), ((7 : Nat), .tt), ((8 : Nat), .ptr (1 : Nat) (0 : Nat)), ((9 : Nat), .ptr (2 : Nat) (0 : Nat)), ((10 : Nat), .int .i64 (↑z.1 : Int))], heap := [((1 : Nat), .obj (oM y.fst)), ((0 : Nat), .ro Kd.four q.l), ((2 : Nat), .cells (48 : Nat) [.int .i64 {n := y.snd.n, seed := y.snd.seed, L := y.snd.L, st := y.snd.st : RM }.n, .int .i64 {n := y.snd.n, seed := y.snd.seed, L := y.snd.L, st := y.snd.st : RM }.seed, .sl false (66 : Nat) (0 : Nat) (4 : Nat) {n := y.snd.n, seed := y.snd.seed, L := y.snd.L, st := y.snd.st : RM }.L.length ({n := y.snd.n, seed := y.snd.seed, L := y.snd.L, st := y.snd.st : RM }.L.length + y_2.1), .sl false (67 : Nat) (0 : Nat) (1 : Nat) {n := y.snd.n, seed := y.snd.seed, L := y.snd.L, st := y.snd.st : RM }.st.length ({n := y.snd.n, seed := y.snd.seed, L := y.snd.L, st := y.snd.st : RM }.st.length + y_2.2)]), ((66 : Nat), .arr (28 : Nat) Kd.ent {n := y.snd.n, seed := y.snd.seed, L := y.snd.L, st := y.snd.st : RM }.L y_2.1), ((67 : Nat), .arr (3 : Nat) Kd.int {n := y.snd.n, seed := y.snd.seed, L := y.snd.L, st := y.snd.st : RM }.st y_2.2)], nx := (68 : Nat), nt := (116 : Nat), tl := [(2 : Nat), (63 : Nat), (64 : Nat), (2 : Nat), (2 : Nat), (1 : Nat), (1 : Nat), (2 : Nat), (2 : Nat), (1 : Nat), (2 : Nat), (1 : Nat), (2 : Nat), (60 : Nat), (61 : Nat), (1 : Nat), (2 : Nat), (0 : Nat), (1 : Nat), (2 : Nat), (3 : Nat), (4 : Nat), (5 : Nat), (6 : Nat), (7 : Nat), (8 : Nat), (9 : Nat), (10 : Nat), (11 : Nat), (12 : Nat), (13 : Nat), (14 : Nat), (15 : Nat), (16 : Nat), (60 : Nat), (61 : Nat), (62 : Nat), (63 : Nat), (64 : Nat), (65 : Nat), (66 : Nat), (67 : Nat), (68 : Nat), (69 : Nat), (70 : Nat), (71 : Nat), (72 : Nat), (73 : Nat), (74 : Nat), (75 : Nat), (76 : Nat), (77 : Nat), (78 : Nat), (79 : Nat), (80 : Nat)] : St V }) (Out.ite ((↑y.fst.tabs.length : Int) != {n := y.snd.n, seed := y.snd.seed, L := y.snd.L, st := y.snd.st : RM }.n) (Out.stop EX.rt {env := [((2 : Nat), .sl false (0 : Nat) (0 : Nat) (4 : Nat) q.l.length q.2), ((7 : Nat), .tt), ((8 : Nat), .ptr (1 : Nat) (0 : Nat)), ((9 : Nat), .ptr (2 : Nat) (0 : Nat)), ((10 : Nat), .int .i64 (↑z.1 : Int))], heap := [((1 : Nat), .obj (oM y.fst)), ((0 : Nat), .ro Kd.four q.l), ((2 : Nat), .cells (48 : Nat) [.int .i64 {n := y.snd.n, seed := y.snd.seed, L := y.snd.L, st := y.snd.st : RM }.n, .int .i64 {n := y.snd.n, seed := y.snd.seed, L := y.snd.L, st := y.snd.st : RM }.seed, .sl false (66 : Nat) (0 : Nat) (4 : Nat) {n := y.snd.n, seed := y.snd.seed, L := y.snd.L, st := y.snd.st : RM }.L.length ({n := y.snd.n, seed := y.snd.seed, L := y.snd.L, st := y.snd.st : RM }.L.length + y_2.1), .sl false (67 : Nat) (0 : Nat) (1 : Nat) {n := y.snd.n, seed := y.snd.seed, L := y.snd.L, st := y.snd.st : RM }.st.length ({n := y.snd.n, seed := y.snd.seed, L := y.snd.L, st := y.snd.st : RM }.st.length + y_2.2)]), ((66 : Nat), .arr (28 : Nat) Kd.ent {n := y.snd.n, seed := y.snd.seed, L := y.snd.L, st := y.snd.st : RM }.L y_2.1), ((67 : Nat), .arr (3 : Nat) Kd.int {n := y.snd.n, seed := y.snd.seed, L := y.snd.L, st := y.snd.st : RM }.st y_2.2)], nx := (68 : Nat), nt := (116 : Nat), tl := [(1 : Nat), (2 : Nat), (63 : Nat), (64 : Nat), (2 : Nat), (2 : Nat), (1 : Nat), (1 : Nat), (2 : Nat), (2 : Nat), (1 : Nat), (2 : Nat), (1 : Nat), (2 : Nat), (60 : Nat), (61 : Nat), (1 : Nat), (2 : Nat), (0 : Nat), (1 : Nat), (2 : Nat), (3 : Nat), (4 : Nat), (5 : Nat), (6 : Nat), (7 : Nat), (8 : Nat), (9 : Nat), (10 : Nat), (11 : Nat), (12 : Nat), (13 : Nat), (14 : Nat), (15 : Nat), (16 : Nat), (60 : Nat), (61 : Nat), (62 : Nat), (63 : Nat), (64 : Nat), (65 : Nat), (66 : Nat), (67 : Nat), (68 : Nat), (69 : Nat), (70 : Nat), (71 : Nat), (72 : Nat), (73 : Nat), (74 : Nat), (75 : Nat), (76 : Nat), (77 : Nat), (78 : Nat), (79 : Nat), (80 : Nat)] : St V }) (Out.stop EX.nx {env := [((2 : Nat), .sl false (0 : Nat) (0 : Nat) (4 : Nat) q.l.length q.2), ((7 : Nat), .tt), ((8 : Nat), .ptr (1 : Nat) (0 : Nat)), ((9 : Nat), .ptr (2 : Nat) (0 : Nat)), ((10 : Nat), .int .i64 (IntKind.i64.wrap ((↑z.1 : Int) + (1 : Int))))], heap := [((1 : Nat), .obj (oM y.fst)), ((0 : Nat), .ro Kd.four q.l), ((2 : Nat), .cells (48 : Nat) [.int .i64 {n := y.snd.n, seed := y.snd.seed, L := y.snd.L, st := y.snd.st : RM }.n, .int .i64 {n := y.snd.n, seed := y.snd.seed, L := y.snd.L, st := y.snd.st : RM }.seed, .sl false (66 : Nat) (0 : Nat) (4 : Nat) {n := y.snd.n, seed := y.snd.seed, L := y.snd.L, st := y.snd.st : RM }.L.length ({n := y.snd.n, seed := y.snd.seed, L := y.snd.L, st := y.snd.st : RM }.L.length + y_2.1), .sl false (67 : Nat) (0 : Nat) (1 : Nat) {n := y.snd.n, seed := y.snd.seed, L := y.snd.L, st := y.snd.st : RM }.st.length ({n := y.snd.n, seed := y.snd.seed, L := y.snd.L, st := y.snd.st : RM }.st.length + y_2.2)]), ((66 : Nat), .arr (28 : Nat) Kd.ent {n := y.snd.n, seed := y.snd.seed, L := y.snd.L, st := y.snd.st : RM }.L y_2.1), ((67 : Nat), .arr (3 : Nat) Kd.int {n := y.snd.n, seed := y.snd.seed, L := y.snd.L, st := y.snd.st : RM }.st y_2.2)], nx := (68 : Nat), nt := (116 : Nat), tl := [(1 : Nat), (2 : Nat), (63 : Nat), (64 : Nat), (2 : Nat), (2 : Nat), (1 : Nat), (1 : Nat), (2 : Nat), (2 : Nat), (1 : Nat), (2 : Nat), (1 : Nat), (2 : Nat), (60 : Nat), (61 : Nat), (1 : Nat), (2 : Nat), (0 : Nat), (1 : Nat), (2 : Nat), (3 : Nat), (4 : Nat), (5 : Nat), (6 : Nat), (7 : Nat), (8 : Nat), (9 : Nat), (10 : Nat), (11 : Nat), (12 : Nat), (13 : Nat), (14 : Nat), (15 : Nat), (16 : Nat), (60 : Nat), (61 : Nat), (62 : Nat), (63 : Nat), (64 : Nat), (65 : Nat), (66 : Nat), (67 : Nat), (68 : Nat), (69 : Nat), (70 : Nat), (71 : Nat), (72 : Nat), (73 : Nat), (74 : Nat), (75 : Nat), (76 : Nat), (77 : Nat), (78 : Nat), (79 : Nat), (80 : Nat)] : St V }))))))))))))))))))))))) (Out.stop (EX.ex (0 : Nat)) {env := [((2 : Nat), .sl false (0 : Nat) (0 : Nat) (4 : Nat) q.l.length q.2), ((7 : Nat), .tt), ((8 : Nat), .ptr (1 : Nat) (0 : Nat)), ((9 : Nat), .ptr (2 : Nat) (0 : Nat)), ((10 : Nat), .int .i64 (↑z.1 : Int))], heap := [((60 : Nat), .arr (28 : Nat) Kd.ent z.r.L z.4), ((61 : Nat), .arr (3 : Nat) Kd.int z.r.st z.5), ((2 : Nat), .cells (48 : Nat) [.int .i64 z.r.n, .int .i64 z.r.seed, .sl false (60 : Nat) (0 : Nat) (4 : Nat) z.r.L.length (z.r.L.length + z.4), .sl false (61 : Nat) (0 : Nat) (1 : Nat) z.r.st.length (z.r.st.length + z.5)]), ((1 : Nat), .obj (oM z.x)), ((0 : Nat), .ro Kd.four q.l)], nx := (62 : Nat), nt := (116 : Nat), tl := [(0 : Nat), (1 : Nat), (2 : Nat), (3 : Nat), (4 : Nat), (5 : Nat), (6 : Nat), (7 : Nat), (8 : Nat), (9 : Nat), (10 : Nat), (11 : Nat), (12 : Nat), (13 : Nat), (14 : Nat), (15 : Nat), (16 : Nat), (60 : Nat), (61 : Nat), (62 : Nat), (63 : Nat), (64 : Nat), (65 : Nat), (66 : Nat), (67 : Nat), (68 : Nat), (69 : Nat), (70 : Nat), (71 : Nat), (72 : Nat), (73 : Nat), (74 : Nat), (75 : Nat), (76 : Nat), (77 : Nat), (78 : Nat), (79 : Nat), (80 : Nat)] : St V }) := by kernel_rfl

theorem tpl7 (n s : Int) (l : List Four) (c : Nat) : runL cfgPl7 60 7 Try.f7 [.int .i64 n, .int .i64 s, .sl false 0 0 4 l.length c] [(0, .ro Kd.four l)] 1 = Out.all MO fun y => Out.asm (y = newS s y.tabs y.pool ∧ (MapOk y fun x => none) ∧ y.tabs.length = cntN n) (Out.ite (decide ((↑l.length : Int) > (200 : Int))) (Out.fin .tt [] (0 : Nat)) (Out.need (LoopFor Try.prog (7 : Nat) (0 : Nat) (loopOf Try.f7 (0 : Nat)) LY) (Out.all (Nat × Nat) fun y_1 => Out.ex (PYs → Prop) fun y_2 => Out.need ((6 : Nat) ≤ (60 : Nat) ∧ SImp (60 : Nat) {env := [((2 : Nat), .sl false (0 : Nat) (0 : Nat) (4 : Nat) l.length c), ((7 : Nat), .tt), ((8 : Nat), .ptr (1 : Nat) (0 : Nat)), ((9 : Nat), .ptr (2 : Nat) (0 : Nat)), ((10 : Nat), .lit .i64 (0 : Int))], heap := [((1 : Nat), .obj (oM y)), ((0 : Nat), .ro Kd.four l), ((2 : Nat), .cells (48 : Nat) [.int .i64 {n := (↑(cntN n) : Int), seed := s, L := [], st := [(0 : Int)] : RM }.n, .int .i64 {n := (↑(cntN n) : Int), seed := s, L := [], st := [(0 : Int)] : RM }.seed, .sl false (4 : Nat) (0 : Nat) (4 : Nat) (0 : Nat) ((0 : Nat) + y_1.1), .sl false (5 : Nat) (0 : Nat) (1 : Nat) (1 : Nat) ((1 : Nat) + y_1.2)]), ((4 : Nat), .arr (28 : Nat) Kd.ent {n := (↑(cntN n) : Int), seed := s, L := [], st := [(0 : Int)] : RM }.L y_1.1), ((5 : Nat), .arr (3 : Nat) Kd.int {n := (↑(cntN n) : Int), seed := s, L := [], st := [(0 : Int)] : RM }.st y_1.2)], nx := (6 : Nat), nt := (116 : Nat), tl := [(2 : Nat)] : St V } (fun p => YI p.q p.z0) y_2) (Out.all PYs fun y => Out.asm (y_2 y) (Out.all XY fun y_3 => Out.asm ((fun p z => JY p.q z ∧ z.1 = p.q.l.length) y y_3) (Out.ex (Int → Option Ent) fun y => Out.need (MapOk y_3.x y) (Out.all (List Ent) fun y_4 => Out.all Nat fun y_5 => Out.asm (AllRow y y_4 ∧ y_4.length ≤ (68719476736 : Nat)) (Out.need ((0 : Nat) + y_4.length ≤ y_4.length) (Out.need ((0 : Nat) + y_3.r.L.length ≤ y_3.r.L.length) (Out.need ((List.take y_4.length (List.drop (0 : Nat) y_4)).length ≤ (1099511627776 : Nat)) (Out.fin (.bool (decide (List.take y_4.length (List.drop (0 : Nat) y_4) = List.take y_3.r.L.length (List.drop (0 : Nat) y_3.r.L)))) [] (0 : Nat)))))))))))) := by kernel_rfl

end Sx
end Go.Proofs.Ytohckjjbephohaa

/-
  A map, call by call: the law.
-/
namespace Go.Proofs.Ytohckjjbephohaa
namespace Sx
open Go
set_option linter.unusedSimpArgs false
set_option linter.unusedVariables false

theorem hooksPl_ok : ∀ g H, hooksPl g = some H → HookOk Try.prog g H := by
  intro g H h
  unfold hooksPl at h
  split at h
  · cases h; exact hRNew
  · cases h; exact hookAfter_ok ⟨Try.f25, by kernel_rfl, by kernel_rfl, by kernel_rfl⟩ (packY_ok 2) hRShard
  · cases h; exact hookThen_ok (openY_ok 2) (hookAfter_ok ⟨Try.f26, by kernel_rfl, by kernel_rfl, by kernel_rfl⟩ (packY_ok 2) hRState)
  · cases h; exact hookThen_ok (openY_ok 2) (hookAfter_ok ⟨Try.f27, by kernel_rfl, by kernel_rfl, by kernel_rfl⟩ (packY_ok 2) hRWeight)
  · cases h; exact hookAfter_ok ⟨Try.f24, by kernel_rfl, by kernel_rfl, by kernel_rfl⟩ (packY_ok 2) hDo
  · exact hooksX_ok _ H h
theorem cfgPl_ok : cfgPl.ok := ⟨tab_met, kinds_met, mixed_met, fun g fn h => (by cases h), hooksPl_ok⟩
theorem cfgPl7_ok : cfgPl7.ok := ⟨tab_met, kinds_met, mixed_met, fun g fn h => (by cases h), hooksPl_ok⟩

theorem body7 (q : PY) (z : XY) (h : JY q z) (Q : EX → St V → Prop) (F : AV → Heap V → Nat → Prop)
    (hnx : ∀ (ST : St V) (y : XY), z.i < q.l.length → JY q y → y.i = z.i + 1 → Wk 60 [(60, 66), (61, 67)] ST (YI q y) → Q .nx ST) (hex : ∀ ST : St V, z.i = q.l.length → Wk 60 [(60, 60), (61, 61)] ST (YI q z) → Q (.ex 0) ST) :
    (runCode cfgPl 60 7 (loopOf Try.f7 0) (YI q z) (stopT (trimSt [2, 7, 8, 9, 10] (List.range 120)))).holds ⟨Q, F⟩ := by
  rw [ypl7]
  obtain ⟨hle, R, hgv⟩ := h
  have hl := q.hl
  generalize q.l.getD (0 + z.i) (V.enc Kd.four).dflt = e
  simp only [Out.holds, decide_eq_true_eq, decide_eq_false_iff_not, beq_iff_eq, beq_eq_false_iff_ne, bne_iff_ne, ne_eq, bne_eq_false_iff_eq, Bool.true_and, Bool.and_true, Bool.not_eq_true', Bool.not_eq_false', Bool.and_eq_true, Bool.or_eq_true, Bool.and_eq_false_imp, true_implies, true_and, Bool.not_true, Bool.not_false, Bool.false_eq_true, Bool.true_eq_false, false_implies, and_true, beq_self_eq_true, Decidable.not_not, not_true_eq_false, not_false_eq_true]
  refine ⟨fun hlt => ?_, fun hge => hex _ (by omega) (by (refine ⟨?_, ?_, rfl, tl_ok rfl, ?_, ⟨Nat.le_of_ble_eq_true rfl, rfl⟩⟩ <;> (repeat' first | with_reducible exact trivial | exact AV.sub_same _ | exact .same _ | exact .inr rfl | exact .inl (in_ok rfl) | exact AV.sub_lit' | exact AV.sub_nilS | exact .none _ _ | exact trivial | refine ⟨?_, ?_⟩)))⟩
  have hlt' : z.i < q.l.length := by omega
  have hw : IntKind.wrap .i64 ((z.i : Int) + 1) = ((z.i + 1 : Nat) : Int) := wrap_nat (by omega)
  refine ⟨⟨by omega, by omega⟩, by omega, ⟨R, by omega⟩, fun y hy => ?_⟩
  obtain ⟨R', g1, g2⟩ := hy
  obtain ⟨f, xs, hM, hL⟩ := R'.ex
  have n1 := hM.m.n1
  have n2 := hM.m.n2
  have hn := R'.n
  have hlen := R'.len
  have c1 : shI y.fst e.b = idxF (mixF y.snd.seed e.b) 2 y.snd.n := by unfold shI; rw [R'.n, R'.sd]
  have c2 : stateOf y.fst e.b = stR y.snd e.b := (R'.st e.b).symm
  have c3 : (y.fst.keys.length : Int) = (y.snd.L.length : Int) := by omega
  have c4 : y.fst.weight = IntKind.wrap .i64 (wsum y.snd.L) := by rw [hM.wt, wsum_perm (hL.holds.uniq hM.h)]
  have hJ : ∀ a b : Nat, JY q ⟨z.i + 1, y.fst, y.snd, a, b⟩ := fun a b => ⟨hlt', R', by show y.fst.given ≤ ((z.i + 1 : Nat) : Int); omega⟩
  refine ⟨⟨by omega, by omega⟩, by omega, ⟨by omega, by omega⟩, by omega, n2, ⟨by omega, by omega⟩, fun hh => absurd c1 hh, fun _ => ⟨⟨by omega, by omega⟩, by omega, ⟨by omega, by omega⟩, by omega, fun _ => ⟨fun hh => absurd c2 hh, fun _ => ⟨fun hh => absurd c3 hh, fun _ => ⟨by omega, fun w => ⟨fun hh => absurd c4 hh, fun _ => ⟨fun hh => absurd hn.symm hh, fun _ => ?_⟩⟩⟩⟩⟩⟩⟩
  exact hnx _ ⟨z.i + 1, y.fst, y.snd, w.1, w.2⟩ hlt' (hJ _ _) rfl (by (refine ⟨?_, ?_, rfl, tl_ok rfl, ?_, ⟨Nat.le_of_ble_eq_true rfl, rfl⟩⟩ <;> (repeat' first | with_reducible exact trivial | (exact AV.sub_int hw) | exact AV.sub_same _ | exact .same _ | exact .inr rfl | exact .inl (in_ok rfl) | exact AV.sub_lit' | exact AV.sub_nilS | exact .none _ _ | exact trivial | refine ⟨?_, ?_⟩)))
theorem ly_ok : LoopOk Try.prog 0 (loopOf Try.f7 0) LY := by
  refine ghostLoop_ok (openY_ok 2) (trimLoop_ok (trim_ok _ _) (loopTH_ok (C := cfgPl) cfgPl_ok (f := 7) (n := 60) (trim_ok [2, 7, 8, 9, 10] (List.range 120)) 60 (fun p : PYs => YI p.q) (fun p z => JY p.q z) (fun p => p.z0) (fun p z => p.q.l.length - z.i) (fun p (z : XY) => JY p.q z ∧ z.i = p.q.l.length) (fun p z => YI p.q z) (fun p => p.h) ?_))
  intro p z h
  refine body7 p.q z h _ _ (fun ST y hlt hy he hw => SImp.of_wk y hw ⟨hy, ?_⟩) (fun ST he hw => ⟨rfl, SImp.of_wk z hw ⟨h, he⟩⟩)
  show p.q.l.length - y.i < p.q.l.length - z.i; omega

/-- The law, as the machine tells it. -/
theorem law7 (n s : Int) (l : List Four) (c : Nat) : (runL cfgPl7 60 7 Try.f7 [.int .i64 n, .int .i64 s, .sl false 0 0 4 l.length c] [(0, .ro Kd.four l)] 1).holds ⟨fun _ _ => False, fun v _ _ => v.sub .tt⟩ := by
  rw [tpl7]
  rintro sx ⟨e1, m1, m2⟩
  simp only [Out.holds, decide_eq_true_eq, decide_eq_false_iff_not, beq_iff_eq, beq_eq_false_iff_ne, bne_iff_ne, ne_eq, bne_eq_false_iff_eq, Bool.true_and, Bool.and_true, Bool.not_eq_true', Bool.not_eq_false', Bool.and_eq_true, Bool.or_eq_true, Bool.and_eq_false_imp, true_implies, true_and, Bool.not_true, Bool.not_false, Bool.false_eq_true, Bool.true_eq_false, false_implies, and_true, beq_self_eq_true, Decidable.not_not, not_true_eq_false, not_false_eq_true]
  refine ⟨fun _ => AV.sub_same _, fun hl => ?_⟩
  have gx : sx.given = 0 := by rw [e1]; rfl
  have hq : l.length ≤ 200 := by omega
  have hk := MK.new n s sx e1 m1
  have hR : RelM sx ⟨(cntN n : Int), s, [], [0]⟩ := ⟨by show (cntN n : Int) = _; rw [m2], by rw [e1]; rfl, ⟨_, _, hk, ⟨List.Pairwise.nil, fun e => by simp⟩⟩, by show ((1 : Nat) : Int) = _; rw [gx]; rfl, fun j => by
    have hs : stateOf sx j = 0 := by unfold stateOf; rw [if_pos (by omega)]
    rw [hs]; unfold stR
    show (if j < 1 ∨ j ≥ ((1 : Nat) : Int) then (0 : Int) else [(0 : Int)].getD j.toNat 0) = 0
    rw [if_pos (by omega)]⟩
  refine ⟨ly_ok, fun w => ?_⟩
  have hJ : JY ⟨l, c, hq⟩ ⟨0, sx, ⟨(cntN n : Int), s, [], [0]⟩, w.1, w.2⟩ := ⟨Nat.zero_le _, hR, by show sx.given ≤ _; rw [gx]; exact Int.le_refl _⟩
  refine ⟨fun p => p = ⟨⟨l, c, hq⟩, ⟨0, sx, ⟨(cntN n : Int), s, [], [0]⟩, w.1, w.2⟩, hJ, rfl⟩, ⟨by decide, SImp.of_wk (ren := [(60, 4), (61, 5)]) ⟨⟨l, c, hq⟩, ⟨0, sx, ⟨(cntN n : Int), s, [], [0]⟩, w.1, w.2⟩, hJ, rfl⟩ (by (refine ⟨?_, ?_, rfl, tl_ok rfl, ?_, ⟨Nat.le_of_ble_eq_true rfl, rfl⟩⟩ <;> (repeat' first | with_reducible exact trivial | exact AV.sub_same _ | exact .same _ | exact .inr rfl | exact .inl (in_ok rfl) | exact AV.sub_lit' | exact AV.sub_nilS | exact .none _ _ | exact trivial | refine ⟨?_, ?_⟩))) rfl⟩, ?_⟩
  rintro _ rfl z ⟨⟨_, R, hg⟩, hz⟩
  obtain ⟨f, xs, hM, hL⟩ := R.ex
  dsimp only at hz hg hM hL ⊢
  refine ⟨f, hM.m, fun ys _ hys => ?_⟩
  have ea := hys.1.uniq hL
  subst ea
  simp only [Out.holds, decide_eq_true_eq, decide_eq_false_iff_not, beq_iff_eq, beq_eq_false_iff_ne, bne_iff_ne, ne_eq, bne_eq_false_iff_eq, Bool.true_and, Bool.and_true, Bool.not_eq_true', Bool.not_eq_false', Bool.and_eq_true, Bool.or_eq_true, Bool.and_eq_false_imp, true_implies, true_and, Bool.not_true, Bool.not_false, Bool.false_eq_true, Bool.true_eq_false, false_implies, and_true, beq_self_eq_true, Decidable.not_not, not_true_eq_false, not_false_eq_true]
  exact ⟨by omega, by omega, by have := hys.2; rw [List.length_take]; omega, AV.sub_same _⟩
theorem law7_calls (n s : Int) (l : List Four) (c : Nat) : CallsSx Try.prog 7 [.int .i64 n, .int .i64 s, .sl false 0 0 4 l.length c] ([(0, .ro Kd.four l)] : Heap V) 1 (fun v _ _ _ => v.sub .tt) :=
  calls_runL cfgPl7_ok (n := 60) (fn := Try.f7) ⟨by kernel_rfl, by kernel_rfl⟩ (by kernel_rfl) (show 3 ≤ _ by decide +kernel) (law7 n s l c)

end Sx
end Go.Proofs.Ytohckjjbephohaa

