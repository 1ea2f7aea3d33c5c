/-
  Maps of shards: the runs of the machine.
-/
import Derived.Test.YtohckjjbephohaaShardsPlayAllP3
namespace Go.Proofs.Ytohckjjbephohaa
namespace Sx
open Go
set_option maxRecDepth 100000
set_option linter.unusedVariables false

noncomputable def fnsS : Nat → Option Func := fun g => match g with | 11 => some Try.f11 | 32 => some Try.f32 | 16 => some Try.f16 | 35 => some Try.f35 | _ => none
noncomputable def hooksS : Nat → Option (HookS V) := fun g => match g with | 31 => some (hookFree [.int .i64, .int .i64] runMix) | 30 => some (hookFree [.int .u64, .int .i64, .int .i64] runIndex) | 33 => some (hookPool [.val, .int .i64] runGet) | 34 => some (hookPool [.val, .el Kd.ent] runPut) | 53 => some (hookPool [.val, .int .i64] runRem) | _ => none
noncomputable def cfgS : Cfg Try.prog V := ⟨tab, kinds, fnsS, hooksS, fun _ _ => none⟩
theorem tmshard (s : MO) (sp : Nat) (k : Int) : runF cfgS 60 11 Try.f11 [.ptr 0 0, .int .i64 k] (mUp s sp) 6 = Out.need ((↑s.tabs.length : Int) ≤ (4611686018427387904 : Int)) (Out.fin (.int .i64 (idxF (mixF s.seed k) (2 : Int) (↑s.tabs.length : Int))) [((0 : Nat), .cells (54 : Nat) [.int .i64 s.seed, .sl false (1 : Nat) (0 : Nat) (1 : Nat) s.tabs.length (s.tabs.length + sp), .int .i64 s.given, .mp (2 : Nat), .mp (3 : Nat), .int .i64 s.weight]), ((1 : Nat), .arr (56 : Nat) Kd.ptr s.tabs sp), ((2 : Nat), .mp .i64 Kd.int s.keys), ((3 : Nat), .mp .i64 Kd.bool s.gone), ((4 : Nat), Blk.pool s.pool)] (6 : Nat)) := by kernel_rfl

theorem tmcount (s : MO) (sp : Nat)  : runF cfgS 60 13 Try.f13 [.ptr 0 0] (mUp s sp) 5 = Out.fin (.int .i64 (↑s.tabs.length : Int)) [((0 : Nat), .cells (54 : Nat) [.int .i64 s.seed, .sl false (1 : Nat) (0 : Nat) (1 : Nat) s.tabs.length (s.tabs.length + sp), .int .i64 s.given, .mp (2 : Nat), .mp (3 : Nat), .int .i64 s.weight]), ((1 : Nat), .arr (56 : Nat) Kd.ptr s.tabs sp), ((2 : Nat), .mp .i64 Kd.int s.keys), ((3 : Nat), .mp .i64 Kd.bool s.gone), ((4 : Nat), Blk.pool s.pool)] (5 : Nat) := by kernel_rfl

theorem tmget (s : MO) (sp : Nat) (k : Int) : runF cfgS 60 14 Try.f14 [.ptr 0 0, .int .i64 k] (mUp s sp) 6 = Out.need ((↑s.tabs.length : Int) ≤ (4611686018427387904 : Int)) (Out.need ((0 : Int) ≤ idxF (mixF s.seed k) (2 : Int) (↑s.tabs.length : Int) ∧ idxF (mixF s.seed k) (2 : Int) (↑s.tabs.length : Int) < (↑s.tabs.length : Int)) (Out.need ((0 : Nat) + (idxF (mixF s.seed k) (2 : Int) (↑s.tabs.length : Int)).toNat < s.tabs.length) (Out.ex Nat fun y => Out.need (s.tabs.getD ((0 : Nat) + (idxF (mixF s.seed k) (2 : Int) (↑s.tabs.length : Int)).toNat) (V.enc Kd.ptr).dflt = some (y, (0 : Nat))) (Out.ex TL fun y_1 => Out.need (TabAt s.pool y y_1 ∧ y_1.fits) (Out.fin (.tup [.agg [.int .i64 ((y_1.tm.get k).getD e0).key, .int .i64 ((y_1.tm.get k).getD e0).value, .int .i64 ((y_1.tm.get k).getD e0).weight, .int .i64 ((y_1.tm.get k).getD e0).node], .bool (y_1.tm.get k).isSome]) [((6 : Nat), .cells (28 : Nat) [.int .i64 ((y_1.tm.get k).getD e0).key, .int .i64 ((y_1.tm.get k).getD e0).value, .int .i64 ((y_1.tm.get k).getD e0).weight, .int .i64 ((y_1.tm.get k).getD e0).node]), ((0 : Nat), .cells (54 : Nat) [.int .i64 s.seed, .sl false (1 : Nat) (0 : Nat) (1 : Nat) s.tabs.length (s.tabs.length + sp), .int .i64 s.given, .mp (2 : Nat), .mp (3 : Nat), .int .i64 s.weight]), ((1 : Nat), .arr (56 : Nat) Kd.ptr s.tabs sp), ((2 : Nat), .mp .i64 Kd.int s.keys), ((3 : Nat), .mp .i64 Kd.bool s.gone), ((4 : Nat), Blk.pool s.pool)] (8 : Nat)))))) := by kernel_rfl

theorem tmput (s : MO) (sp : Nat) (k v w : Int) : runF cfgS 60 12 Try.f12 [.ptr 0 0, .int .i64 k, .int .i64 v, .int .i64 w] (mUp s sp) 8 = Out.need ((↑s.tabs.length : Int) ≤ (4611686018427387904 : Int)) (Out.need ((0 : Int) ≤ idxF (mixF s.seed k) (2 : Int) (↑s.tabs.length : Int) ∧ idxF (mixF s.seed k) (2 : Int) (↑s.tabs.length : Int) < (↑s.tabs.length : Int)) (Out.need ((0 : Nat) + (idxF (mixF s.seed k) (2 : Int) (↑s.tabs.length : Int)).toNat < s.tabs.length) (Out.ex Nat fun y => Out.need (s.tabs.getD ((0 : Nat) + (idxF (mixF s.seed k) (2 : Int) (↑s.tabs.length : Int)).toNat) (V.enc Kd.ptr).dflt = some (y, (0 : Nat))) (Out.ex TL fun y_1 => Out.need (TabAt s.pool y y_1 ∧ y_1.fits) (Out.ite (y_1.tm.get k).isSome (Out.ex Nat fun y => Out.need (s.tabs.getD ((0 : Nat) + (idxF (mixF s.seed k) (2 : Int) (↑s.tabs.length : Int)).toNat) (V.enc Kd.ptr).dflt = some (y, (0 : Nat))) (Out.ex TL fun y_2 => Out.need (TabAt s.pool y y_2 ∧ y_2.fits ∧ moveOk y_2.tm ∧ (y_2.O.length ≤ y_2.6 → y_2.O = []) ∧ y_2.7 < (1073741824 : Nat)) (Out.all (Pool × TL) fun y_3 => Out.asm (TabAt y_3.fst y y_3.snd ∧ y_3.snd.fits ∧ y_3.snd.tm = y_2.tm.put {key := k, value := v, weight := if (2147483648 : Int) < if w > (0 : Int) then w else (0 : Int) then (2147483648 : Int) else if w > (0 : Int) then w else (0 : Int), node := ((y_1.tm.get k).getD e0).node : Ent } ∧ Sx.Frame s.pool y_3.fst y_2 y_3.snd) (Out.ite (!(y_1.tm.get k).isSome) (Out.fin (.tup [.agg [.int .i64 k, .int .i64 v, .int .i64 (if (2147483648 : Int) < if w > (0 : Int) then w else (0 : Int) then (2147483648 : Int) else if w > (0 : Int) then w else (0 : Int)), .int .i64 ((y_1.tm.get k).getD e0).node], .ff]) [((11 : Nat), .cells (28 : Nat) [.int .i64 ((y_1.tm.get k).getD e0).key, .int .i64 ((y_1.tm.get k).getD e0).value, .int .i64 ((y_1.tm.get k).getD e0).weight, .int .i64 ((y_1.tm.get k).getD e0).node]), ((9 : Nat), .cells (28 : Nat) [.int .i64 k, .int .i64 v, .int .i64 (if (2147483648 : Int) < if w > (0 : Int) then w else (0 : Int) then (2147483648 : Int) else if w > (0 : Int) then w else (0 : Int)), .int .i64 ((y_1.tm.get k).getD e0).node]), ((8 : Nat), .cells (28 : Nat) [.int .i64 k, .int .i64 v, .int .i64 (if (2147483648 : Int) < if w > (0 : Int) then w else (0 : Int) then (2147483648 : Int) else if w > (0 : Int) then w else (0 : Int)), .int .i64 ((y_1.tm.get k).getD e0).node]), ((0 : Nat), .cells (54 : Nat) [.int .i64 s.seed, .sl false (1 : Nat) (0 : Nat) (1 : Nat) s.tabs.length (s.tabs.length + sp), .int .i64 s.given, .mp (2 : Nat), .mp (3 : Nat), .int .i64 (IntKind.i64.wrap (s.weight + IntKind.i64.wrap ((if (2147483648 : Int) < if w > (0 : Int) then w else (0 : Int) then (2147483648 : Int) else if w > (0 : Int) then w else (0 : Int)) - ((y_1.tm.get k).getD e0).weight)))]), ((1 : Nat), .arr (56 : Nat) Kd.ptr s.tabs sp), ((2 : Nat), .mp .i64 Kd.int s.keys), ((3 : Nat), .mp .i64 Kd.bool s.gone), ((4 : Nat), Blk.pool y_3.fst)] (16 : Nat)) (Out.fin (.tup [.agg [.int .i64 ((y_1.tm.get k).getD e0).key, .int .i64 ((y_1.tm.get k).getD e0).value, .int .i64 ((y_1.tm.get k).getD e0).weight, .int .i64 ((y_1.tm.get k).getD e0).node], .tt]) [((11 : Nat), .cells (28 : Nat) [.int .i64 ((y_1.tm.get k).getD e0).key, .int .i64 ((y_1.tm.get k).getD e0).value, .int .i64 ((y_1.tm.get k).getD e0).weight, .int .i64 ((y_1.tm.get k).getD e0).node]), ((9 : Nat), .cells (28 : Nat) [.int .i64 k, .int .i64 v, .int .i64 (if (2147483648 : Int) < if w > (0 : Int) then w else (0 : Int) then (2147483648 : Int) else if w > (0 : Int) then w else (0 : Int)), .int .i64 ((y_1.tm.get k).getD e0).node]), ((8 : Nat), .cells (28 : Nat) [.int .i64 ((y_1.tm.get k).getD e0).key, .int .i64 ((y_1.tm.get k).getD e0).value, .int .i64 ((y_1.tm.get k).getD e0).weight, .int .i64 ((y_1.tm.get k).getD e0).node]), ((0 : Nat), .cells (54 : Nat) [.int .i64 s.seed, .sl false (1 : Nat) (0 : Nat) (1 : Nat) s.tabs.length (s.tabs.length + sp), .int .i64 s.given, .mp (2 : Nat), .mp (3 : Nat), .int .i64 (IntKind.i64.wrap (s.weight + IntKind.i64.wrap ((if (2147483648 : Int) < if w > (0 : Int) then w else (0 : Int) then (2147483648 : Int) else if w > (0 : Int) then w else (0 : Int)) - ((y_1.tm.get k).getD e0).weight)))]), ((1 : Nat), .arr (56 : Nat) Kd.ptr s.tabs sp), ((2 : Nat), .mp .i64 Kd.int s.keys), ((3 : Nat), .mp .i64 Kd.bool s.gone), ((4 : Nat), Blk.pool y_3.fst)] (16 : Nat)))))) (Out.ex Nat fun y => Out.need (s.tabs.getD ((0 : Nat) + (idxF (mixF s.seed k) (2 : Int) (↑s.tabs.length : Int)).toNat) (V.enc Kd.ptr).dflt = some (y, (0 : Nat))) (Out.ex TL fun y_2 => Out.need (TabAt s.pool y y_2 ∧ y_2.fits ∧ moveOk y_2.tm ∧ (y_2.O.length ≤ y_2.6 → y_2.O = []) ∧ y_2.7 < (1073741824 : Nat)) (Out.all (Pool × TL) fun y_3 => Out.asm (TabAt y_3.fst y y_3.snd ∧ y_3.snd.fits ∧ y_3.snd.tm = y_2.tm.put {key := k, value := v, weight := if (2147483648 : Int) < if w > (0 : Int) then w else (0 : Int) then (2147483648 : Int) else if w > (0 : Int) then w else (0 : Int), node := IntKind.i64.wrap (s.given + (1 : Int)) : Ent } ∧ Sx.Frame s.pool y_3.fst y_2 y_3.snd) (Out.ite (!(y_1.tm.get k).isSome) (Out.fin (.tup [.agg [.int .i64 k, .int .i64 v, .int .i64 (if (2147483648 : Int) < if w > (0 : Int) then w else (0 : Int) then (2147483648 : Int) else if w > (0 : Int) then w else (0 : Int)), .int .i64 (IntKind.i64.wrap (s.given + (1 : Int)))], .ff]) [((11 : Nat), .cells (28 : Nat) [.int .i64 ((y_1.tm.get k).getD e0).key, .int .i64 ((y_1.tm.get k).getD e0).value, .int .i64 ((y_1.tm.get k).getD e0).weight, .int .i64 ((y_1.tm.get k).getD e0).node]), ((9 : Nat), .cells (28 : Nat) [.int .i64 k, .int .i64 v, .int .i64 (if (2147483648 : Int) < if w > (0 : Int) then w else (0 : Int) then (2147483648 : Int) else if w > (0 : Int) then w else (0 : Int)), .int .i64 (IntKind.i64.wrap (s.given + (1 : Int)))]), ((8 : Nat), .cells (28 : Nat) [.int .i64 k, .int .i64 v, .int .i64 (if (2147483648 : Int) < if w > (0 : Int) then w else (0 : Int) then (2147483648 : Int) else if w > (0 : Int) then w else (0 : Int)), .int .i64 (IntKind.i64.wrap (s.given + (1 : Int)))]), ((0 : Nat), .cells (54 : Nat) [.int .i64 s.seed, .sl false (1 : Nat) (0 : Nat) (1 : Nat) s.tabs.length (s.tabs.length + sp), .int .i64 (IntKind.i64.wrap (s.given + (1 : Int))), .mp (2 : Nat), .mp (3 : Nat), .int .i64 (IntKind.i64.wrap (s.weight + IntKind.i64.wrap ((if (2147483648 : Int) < if w > (0 : Int) then w else (0 : Int) then (2147483648 : Int) else if w > (0 : Int) then w else (0 : Int)) - ((y_1.tm.get k).getD e0).weight)))]), ((1 : Nat), .arr (56 : Nat) Kd.ptr s.tabs sp), ((2 : Nat), .mp .i64 Kd.int (mput s.keys (IntKind.i64.wrap (s.given + (1 : Int))) k)), ((3 : Nat), .mp .i64 Kd.bool s.gone), ((4 : Nat), Blk.pool y_3.fst)] (18 : Nat)) (Out.fin (.tup [.agg [.int .i64 ((y_1.tm.get k).getD e0).key, .int .i64 ((y_1.tm.get k).getD e0).value, .int .i64 ((y_1.tm.get k).getD e0).weight, .int .i64 ((y_1.tm.get k).getD e0).node], .tt]) [((11 : Nat), .cells (28 : Nat) [.int .i64 ((y_1.tm.get k).getD e0).key, .int .i64 ((y_1.tm.get k).getD e0).value, .int .i64 ((y_1.tm.get k).getD e0).weight, .int .i64 ((y_1.tm.get k).getD e0).node]), ((9 : Nat), .cells (28 : Nat) [.int .i64 k, .int .i64 v, .int .i64 (if (2147483648 : Int) < if w > (0 : Int) then w else (0 : Int) then (2147483648 : Int) else if w > (0 : Int) then w else (0 : Int)), .int .i64 (IntKind.i64.wrap (s.given + (1 : Int)))]), ((8 : Nat), .cells (28 : Nat) [.int .i64 ((y_1.tm.get k).getD e0).key, .int .i64 ((y_1.tm.get k).getD e0).value, .int .i64 ((y_1.tm.get k).getD e0).weight, .int .i64 ((y_1.tm.get k).getD e0).node]), ((0 : Nat), .cells (54 : Nat) [.int .i64 s.seed, .sl false (1 : Nat) (0 : Nat) (1 : Nat) s.tabs.length (s.tabs.length + sp), .int .i64 (IntKind.i64.wrap (s.given + (1 : Int))), .mp (2 : Nat), .mp (3 : Nat), .int .i64 (IntKind.i64.wrap (s.weight + IntKind.i64.wrap ((if (2147483648 : Int) < if w > (0 : Int) then w else (0 : Int) then (2147483648 : Int) else if w > (0 : Int) then w else (0 : Int)) - ((y_1.tm.get k).getD e0).weight)))]), ((1 : Nat), .arr (56 : Nat) Kd.ptr s.tabs sp), ((2 : Nat), .mp .i64 Kd.int (mput s.keys (IntKind.i64.wrap (s.given + (1 : Int))) k)), ((3 : Nat), .mp .i64 Kd.bool s.gone), ((4 : Nat), Blk.pool y_3.fst)] (18 : Nat))))))))))) := by kernel_rfl

theorem tmrem (s : MO) (sp : Nat) (k : Int) : runF cfgS 60 15 Try.f15 [.ptr 0 0, .int .i64 k] (mUp s sp) 6 = Out.need ((↑s.tabs.length : Int) ≤ (4611686018427387904 : Int)) (Out.need ((0 : Int) ≤ idxF (mixF s.seed k) (2 : Int) (↑s.tabs.length : Int) ∧ idxF (mixF s.seed k) (2 : Int) (↑s.tabs.length : Int) < (↑s.tabs.length : Int)) (Out.need ((0 : Nat) + (idxF (mixF s.seed k) (2 : Int) (↑s.tabs.length : Int)).toNat < s.tabs.length) (Out.ex Nat fun y => Out.need (s.tabs.getD ((0 : Nat) + (idxF (mixF s.seed k) (2 : Int) (↑s.tabs.length : Int)).toNat) (V.enc Kd.ptr).dflt = some (y, (0 : Nat))) (Out.ex TL fun y_1 => Out.need (TabAt s.pool y y_1 ∧ y_1.fits ∧ moveOk y_1.tm ∧ (y_1.tm.move.get k ≠ none → (1 : Nat) ≤ y_1.7)) (Out.all (Pool × TL) fun y_2 => Out.asm (TabAt y_2.fst y y_2.snd ∧ y_2.snd.fits ∧ y_2.snd.tm = y_1.tm.remove k ∧ Sx.Frame s.pool y_2.fst y_1 y_2.snd) (Out.ite (!(y_1.tm.move.get k).isSome) (Out.fin (.tup [.agg [.lit .i64 (0 : Int), .lit .i64 (0 : Int), .lit .i64 (0 : Int), .lit .i64 (0 : Int)], .ff]) [((8 : Nat), .cells (28 : Nat) [.int .i64 ((y_1.tm.move.get k).getD e0).key, .int .i64 ((y_1.tm.move.get k).getD e0).value, .int .i64 ((y_1.tm.move.get k).getD e0).weight, .int .i64 ((y_1.tm.move.get k).getD e0).node]), ((7 : Nat), .cells (28 : Nat) [.lit .i64 (0 : Int), .lit .i64 (0 : Int), .lit .i64 (0 : Int), .lit .i64 (0 : Int)]), ((6 : Nat), .cells (28 : Nat) [.lit .i64 (0 : Int), .lit .i64 (0 : Int), .lit .i64 (0 : Int), .lit .i64 (0 : Int)]), ((0 : Nat), .cells (54 : Nat) [.int .i64 s.seed, .sl false (1 : Nat) (0 : Nat) (1 : Nat) s.tabs.length (s.tabs.length + sp), .int .i64 s.given, .mp (2 : Nat), .mp (3 : Nat), .int .i64 s.weight]), ((1 : Nat), .arr (56 : Nat) Kd.ptr s.tabs sp), ((2 : Nat), .mp .i64 Kd.int s.keys), ((3 : Nat), .mp .i64 Kd.bool s.gone), ((4 : Nat), Blk.pool y_2.fst)] (12 : Nat)) (Out.fin (.tup [.agg [.int .i64 ((y_1.tm.move.get k).getD e0).key, .int .i64 ((y_1.tm.move.get k).getD e0).value, .int .i64 ((y_1.tm.move.get k).getD e0).weight, .int .i64 ((y_1.tm.move.get k).getD e0).node], .tt]) [((8 : Nat), .cells (28 : Nat) [.int .i64 ((y_1.tm.move.get k).getD e0).key, .int .i64 ((y_1.tm.move.get k).getD e0).value, .int .i64 ((y_1.tm.move.get k).getD e0).weight, .int .i64 ((y_1.tm.move.get k).getD e0).node]), ((7 : Nat), .cells (28 : Nat) [.int .i64 ((y_1.tm.move.get k).getD e0).key, .int .i64 ((y_1.tm.move.get k).getD e0).value, .int .i64 ((y_1.tm.move.get k).getD e0).weight, .int .i64 ((y_1.tm.move.get k).getD e0).node]), ((6 : Nat), .cells (28 : Nat) [.int .i64 ((y_1.tm.move.get k).getD e0).key, .int .i64 ((y_1.tm.move.get k).getD e0).value, .int .i64 ((y_1.tm.move.get k).getD e0).weight, .int .i64 ((y_1.tm.move.get k).getD e0).node]), ((0 : Nat), .cells (54 : Nat) [.int .i64 s.seed, .sl false (1 : Nat) (0 : Nat) (1 : Nat) s.tabs.length (s.tabs.length + sp), .int .i64 s.given, .mp (2 : Nat), .mp (3 : Nat), .int .i64 (IntKind.i64.wrap (s.weight - ((y_1.tm.move.get k).getD e0).weight))]), ((1 : Nat), .arr (56 : Nat) Kd.ptr s.tabs sp), ((2 : Nat), .mp .i64 Kd.int (mdel s.keys ((y_1.tm.move.get k).getD e0).node)), ((3 : Nat), .mp .i64 Kd.bool (mput s.gone ((y_1.tm.move.get k).getD e0).node false)), ((4 : Nat), Blk.pool y_2.fst)] (15 : Nat)))))))) := by kernel_rfl

theorem tmstate (s : MO) (sp : Nat) (k : Int) : runF cfgS 60 16 Try.f16 [.ptr 0 0, .int .i64 k] (mUp s sp) 6 = Out.ite (decide (k < (1 : Int))) (Out.fin (.lit .i64 (0 : Int)) [((0 : Nat), .cells (54 : Nat) [.int .i64 s.seed, .sl false (1 : Nat) (0 : Nat) (1 : Nat) s.tabs.length (s.tabs.length + sp), .int .i64 s.given, .mp (2 : Nat), .mp (3 : Nat), .int .i64 s.weight]), ((1 : Nat), .arr (56 : Nat) Kd.ptr s.tabs sp), ((2 : Nat), .mp .i64 Kd.int s.keys), ((3 : Nat), .mp .i64 Kd.bool s.gone), ((4 : Nat), Blk.pool s.pool)] (6 : Nat)) (Out.ite (decide (k > s.given)) (Out.fin (.lit .i64 (0 : Int)) [((0 : Nat), .cells (54 : Nat) [.int .i64 s.seed, .sl false (1 : Nat) (0 : Nat) (1 : Nat) s.tabs.length (s.tabs.length + sp), .int .i64 s.given, .mp (2 : Nat), .mp (3 : Nat), .int .i64 s.weight]), ((1 : Nat), .arr (56 : Nat) Kd.ptr s.tabs sp), ((2 : Nat), .mp .i64 Kd.int s.keys), ((3 : Nat), .mp .i64 Kd.bool s.gone), ((4 : Nat), Blk.pool s.pool)] (6 : Nat)) (Out.ite (!(mget s.gone k).isSome) (Out.fin (.lit .i64 (1 : Int)) [((0 : Nat), .cells (54 : Nat) [.int .i64 s.seed, .sl false (1 : Nat) (0 : Nat) (1 : Nat) s.tabs.length (s.tabs.length + sp), .int .i64 s.given, .mp (2 : Nat), .mp (3 : Nat), .int .i64 s.weight]), ((1 : Nat), .arr (56 : Nat) Kd.ptr s.tabs sp), ((2 : Nat), .mp .i64 Kd.int s.keys), ((3 : Nat), .mp .i64 Kd.bool s.gone), ((4 : Nat), Blk.pool s.pool)] (6 : Nat)) (Out.ite ((mget s.gone k).getD (V.enc Kd.bool).dflt) (Out.fin (.lit .i64 (3 : Int)) [((0 : Nat), .cells (54 : Nat) [.int .i64 s.seed, .sl false (1 : Nat) (0 : Nat) (1 : Nat) s.tabs.length (s.tabs.length + sp), .int .i64 s.given, .mp (2 : Nat), .mp (3 : Nat), .int .i64 s.weight]), ((1 : Nat), .arr (56 : Nat) Kd.ptr s.tabs sp), ((2 : Nat), .mp .i64 Kd.int s.keys), ((3 : Nat), .mp .i64 Kd.bool s.gone), ((4 : Nat), Blk.pool s.pool)] (6 : Nat)) (Out.fin (.lit .i64 (2 : Int)) [((0 : Nat), .cells (54 : Nat) [.int .i64 s.seed, .sl false (1 : Nat) (0 : Nat) (1 : Nat) s.tabs.length (s.tabs.length + sp), .int .i64 s.given, .mp (2 : Nat), .mp (3 : Nat), .int .i64 s.weight]), ((1 : Nat), .arr (56 : Nat) Kd.ptr s.tabs sp), ((2 : Nat), .mp .i64 Kd.int s.keys), ((3 : Nat), .mp .i64 Kd.bool s.gone), ((4 : Nat), Blk.pool s.pool)] (6 : Nat))))) := by kernel_rfl

theorem tmevict (s : MO) (sp : Nat) (k : Int) : runF cfgS 60 17 Try.f17 [.ptr 0 0, .int .i64 k] (mUp s sp) 6 = Out.ite (!(mget s.keys k).isSome) (Out.fin (.tup [.agg [.lit .i64 (0 : Int), .lit .i64 (0 : Int), .lit .i64 (0 : Int), .lit .i64 (0 : Int)], .ff]) [((6 : Nat), .cells (28 : Nat) [.lit .i64 (0 : Int), .lit .i64 (0 : Int), .lit .i64 (0 : Int), .lit .i64 (0 : Int)]), ((0 : Nat), .cells (54 : Nat) [.int .i64 s.seed, .sl false (1 : Nat) (0 : Nat) (1 : Nat) s.tabs.length (s.tabs.length + sp), .int .i64 s.given, .mp (2 : Nat), .mp (3 : Nat), .int .i64 s.weight]), ((1 : Nat), .arr (56 : Nat) Kd.ptr s.tabs sp), ((2 : Nat), .mp .i64 Kd.int s.keys), ((3 : Nat), .mp .i64 Kd.bool s.gone), ((4 : Nat), Blk.pool s.pool)] (8 : Nat)) (Out.need ((↑s.tabs.length : Int) ≤ (4611686018427387904 : Int)) (Out.need ((0 : Int) ≤ idxF (mixF s.seed ((mget s.keys k).getD (V.enc Kd.int).dflt)) (2 : Int) (↑s.tabs.length : Int) ∧ idxF (mixF s.seed ((mget s.keys k).getD (V.enc Kd.int).dflt)) (2 : Int) (↑s.tabs.length : Int) < (↑s.tabs.length : Int)) (Out.need ((0 : Nat) + (idxF (mixF s.seed ((mget s.keys k).getD (V.enc Kd.int).dflt)) (2 : Int) (↑s.tabs.length : Int)).toNat < s.tabs.length) (Out.ex Nat fun y => Out.need (s.tabs.getD ((0 : Nat) + (idxF (mixF s.seed ((mget s.keys k).getD (V.enc Kd.int).dflt)) (2 : Int) (↑s.tabs.length : Int)).toNat) (V.enc Kd.ptr).dflt = some (y, (0 : Nat))) (Out.ex TL fun y_1 => Out.need (TabAt s.pool y y_1 ∧ y_1.fits ∧ moveOk y_1.tm ∧ (y_1.tm.move.get ((mget s.keys k).getD (V.enc Kd.int).dflt) ≠ none → (1 : Nat) ≤ y_1.7)) (Out.all (Pool × TL) fun y_2 => Out.asm (TabAt y_2.fst y y_2.snd ∧ y_2.snd.fits ∧ y_2.snd.tm = y_1.tm.remove ((mget s.keys k).getD (V.enc Kd.int).dflt) ∧ Sx.Frame s.pool y_2.fst y_1 y_2.snd) (Out.ite (!(y_1.tm.move.get ((mget s.keys k).getD (V.enc Kd.int).dflt)).isSome) (Out.fin (.tup [.agg [.lit .i64 (0 : Int), .lit .i64 (0 : Int), .lit .i64 (0 : Int), .lit .i64 (0 : Int)], .ff]) [((8 : Nat), .cells (28 : Nat) [.int .i64 ((y_1.tm.move.get ((mget s.keys k).getD (V.enc Kd.int).dflt)).getD e0).key, .int .i64 ((y_1.tm.move.get ((mget s.keys k).getD (V.enc Kd.int).dflt)).getD e0).value, .int .i64 ((y_1.tm.move.get ((mget s.keys k).getD (V.enc Kd.int).dflt)).getD e0).weight, .int .i64 ((y_1.tm.move.get ((mget s.keys k).getD (V.enc Kd.int).dflt)).getD e0).node]), ((7 : Nat), .cells (28 : Nat) [.lit .i64 (0 : Int), .lit .i64 (0 : Int), .lit .i64 (0 : Int), .lit .i64 (0 : Int)]), ((6 : Nat), .cells (28 : Nat) [.lit .i64 (0 : Int), .lit .i64 (0 : Int), .lit .i64 (0 : Int), .lit .i64 (0 : Int)]), ((0 : Nat), .cells (54 : Nat) [.int .i64 s.seed, .sl false (1 : Nat) (0 : Nat) (1 : Nat) s.tabs.length (s.tabs.length + sp), .int .i64 s.given, .mp (2 : Nat), .mp (3 : Nat), .int .i64 s.weight]), ((1 : Nat), .arr (56 : Nat) Kd.ptr s.tabs sp), ((2 : Nat), .mp .i64 Kd.int s.keys), ((3 : Nat), .mp .i64 Kd.bool s.gone), ((4 : Nat), Blk.pool y_2.fst)] (12 : Nat)) (Out.fin (.tup [.agg [.int .i64 ((y_1.tm.move.get ((mget s.keys k).getD (V.enc Kd.int).dflt)).getD e0).key, .int .i64 ((y_1.tm.move.get ((mget s.keys k).getD (V.enc Kd.int).dflt)).getD e0).value, .int .i64 ((y_1.tm.move.get ((mget s.keys k).getD (V.enc Kd.int).dflt)).getD e0).weight, .int .i64 ((y_1.tm.move.get ((mget s.keys k).getD (V.enc Kd.int).dflt)).getD e0).node], .tt]) [((8 : Nat), .cells (28 : Nat) [.int .i64 ((y_1.tm.move.get ((mget s.keys k).getD (V.enc Kd.int).dflt)).getD e0).key, .int .i64 ((y_1.tm.move.get ((mget s.keys k).getD (V.enc Kd.int).dflt)).getD e0).value, .int .i64 ((y_1.tm.move.get ((mget s.keys k).getD (V.enc Kd.int).dflt)).getD e0).weight, .int .i64 ((y_1.tm.move.get ((mget s.keys k).getD (V.enc Kd.int).dflt)).getD e0).node]), ((7 : Nat), .cells (28 : Nat) [.int .i64 ((y_1.tm.move.get ((mget s.keys k).getD (V.enc Kd.int).dflt)).getD e0).key, .int .i64 ((y_1.tm.move.get ((mget s.keys k).getD (V.enc Kd.int).dflt)).getD e0).value, .int .i64 ((y_1.tm.move.get ((mget s.keys k).getD (V.enc Kd.int).dflt)).getD e0).weight, .int .i64 ((y_1.tm.move.get ((mget s.keys k).getD (V.enc Kd.int).dflt)).getD e0).node]), ((6 : Nat), .cells (28 : Nat) [.int .i64 ((y_1.tm.move.get ((mget s.keys k).getD (V.enc Kd.int).dflt)).getD e0).key, .int .i64 ((y_1.tm.move.get ((mget s.keys k).getD (V.enc Kd.int).dflt)).getD e0).value, .int .i64 ((y_1.tm.move.get ((mget s.keys k).getD (V.enc Kd.int).dflt)).getD e0).weight, .int .i64 ((y_1.tm.move.get ((mget s.keys k).getD (V.enc Kd.int).dflt)).getD e0).node]), ((0 : Nat), .cells (54 : Nat) [.int .i64 s.seed, .sl false (1 : Nat) (0 : Nat) (1 : Nat) s.tabs.length (s.tabs.length + sp), .int .i64 s.given, .mp (2 : Nat), .mp (3 : Nat), .int .i64 (IntKind.i64.wrap (s.weight - ((y_1.tm.move.get ((mget s.keys k).getD (V.enc Kd.int).dflt)).getD e0).weight))]), ((1 : Nat), .arr (56 : Nat) Kd.ptr s.tabs sp), ((2 : Nat), .mp .i64 Kd.int (mdel s.keys ((y_1.tm.move.get ((mget s.keys k).getD (V.enc Kd.int).dflt)).getD e0).node)), ((3 : Nat), .mp .i64 Kd.bool (mput s.gone ((y_1.tm.move.get ((mget s.keys k).getD (V.enc Kd.int).dflt)).getD e0).node true)), ((4 : Nat), Blk.pool y_2.fst)] (15 : Nat))))))))) := by kernel_rfl

theorem tmbury (s : MO) (sp : Nat) (k : Int) : runF cfgS 60 18 Try.f18 [.ptr 0 0, .int .i64 k] (mUp s sp) 6 = Out.ite (decide (k < (1 : Int))) (Out.fin (.lit .i64 (3 : Int)) [((0 : Nat), .cells (54 : Nat) [.int .i64 s.seed, .sl false (1 : Nat) (0 : Nat) (1 : Nat) s.tabs.length (s.tabs.length + sp), .int .i64 s.given, .mp (2 : Nat), .mp (3 : Nat), .int .i64 s.weight]), ((1 : Nat), .arr (56 : Nat) Kd.ptr s.tabs sp), ((2 : Nat), .mp .i64 Kd.int s.keys), ((3 : Nat), .mp .i64 Kd.bool s.gone), ((4 : Nat), Blk.pool s.pool)] (6 : Nat)) (Out.ite (decide (k > s.given)) (Out.fin (.lit .i64 (3 : Int)) [((0 : Nat), .cells (54 : Nat) [.int .i64 s.seed, .sl false (1 : Nat) (0 : Nat) (1 : Nat) s.tabs.length (s.tabs.length + sp), .int .i64 s.given, .mp (2 : Nat), .mp (3 : Nat), .int .i64 s.weight]), ((1 : Nat), .arr (56 : Nat) Kd.ptr s.tabs sp), ((2 : Nat), .mp .i64 Kd.int s.keys), ((3 : Nat), .mp .i64 Kd.bool s.gone), ((4 : Nat), Blk.pool s.pool)] (6 : Nat)) (Out.ite (!(mget s.gone k).isSome) (Out.fin (.lit .i64 (3 : Int)) [((0 : Nat), .cells (54 : Nat) [.int .i64 s.seed, .sl false (1 : Nat) (0 : Nat) (1 : Nat) s.tabs.length (s.tabs.length + sp), .int .i64 s.given, .mp (2 : Nat), .mp (3 : Nat), .int .i64 s.weight]), ((1 : Nat), .arr (56 : Nat) Kd.ptr s.tabs sp), ((2 : Nat), .mp .i64 Kd.int s.keys), ((3 : Nat), .mp .i64 Kd.bool s.gone), ((4 : Nat), Blk.pool s.pool)] (6 : Nat)) (Out.ite ((mget s.gone k).getD (V.enc Kd.bool).dflt) (Out.fin (.lit .i64 (8 : Int)) [((0 : Nat), .cells (54 : Nat) [.int .i64 s.seed, .sl false (1 : Nat) (0 : Nat) (1 : Nat) s.tabs.length (s.tabs.length + sp), .int .i64 s.given, .mp (2 : Nat), .mp (3 : Nat), .int .i64 s.weight]), ((1 : Nat), .arr (56 : Nat) Kd.ptr s.tabs sp), ((2 : Nat), .mp .i64 Kd.int s.keys), ((3 : Nat), .mp .i64 Kd.bool s.gone), ((4 : Nat), Blk.pool s.pool)] (6 : Nat)) (Out.fin (.lit .i64 (0 : Int)) [((0 : Nat), .cells (54 : Nat) [.int .i64 s.seed, .sl false (1 : Nat) (0 : Nat) (1 : Nat) s.tabs.length (s.tabs.length + sp), .int .i64 s.given, .mp (2 : Nat), .mp (3 : Nat), .int .i64 s.weight]), ((1 : Nat), .arr (56 : Nat) Kd.ptr s.tabs sp), ((2 : Nat), .mp .i64 Kd.int s.keys), ((3 : Nat), .mp .i64 Kd.bool (mput s.gone k true)), ((4 : Nat), Blk.pool s.pool)] (7 : Nat))))) := by kernel_rfl

theorem tmlen (s : MO) (sp : Nat)  : runF cfgS 60 20 Try.f20 [.ptr 0 0] (mUp s sp) 5 = Out.fin (.int .i64 (↑s.keys.length : Int)) [((0 : Nat), .cells (54 : Nat) [.int .i64 s.seed, .sl false (1 : Nat) (0 : Nat) (1 : Nat) s.tabs.length (s.tabs.length + sp), .int .i64 s.given, .mp (2 : Nat), .mp (3 : Nat), .int .i64 s.weight]), ((1 : Nat), .arr (56 : Nat) Kd.ptr s.tabs sp), ((2 : Nat), .mp .i64 Kd.int s.keys), ((3 : Nat), .mp .i64 Kd.bool s.gone), ((4 : Nat), Blk.pool s.pool)] (5 : Nat) := by kernel_rfl

theorem tmweight (s : MO) (sp : Nat)  : runF cfgS 60 21 Try.f21 [.ptr 0 0] (mUp s sp) 5 = Out.fin (.int .i64 s.weight) [((0 : Nat), .cells (54 : Nat) [.int .i64 s.seed, .sl false (1 : Nat) (0 : Nat) (1 : Nat) s.tabs.length (s.tabs.length + sp), .int .i64 s.given, .mp (2 : Nat), .mp (3 : Nat), .int .i64 s.weight]), ((1 : Nat), .arr (56 : Nat) Kd.ptr s.tabs sp), ((2 : Nat), .mp .i64 Kd.int s.keys), ((3 : Nat), .mp .i64 Kd.bool s.gone), ((4 : Nat), Blk.pool s.pool)] (5 : Nat) := by kernel_rfl

end Sx
end Go.Proofs.Ytohckjjbephohaa

/-
  Maps of shards: when one lies in a pool, and what it holds; what each call does.
-/
namespace Go.Proofs.Ytohckjjbephohaa
namespace Sx
open Go
set_option linter.unusedSimpArgs false
set_option linter.unusedVariables false

def shI (s : MO) (k : Int) : Int := idxF (mixF s.seed k) 2 (s.tabs.length : Int)
def shN (s : MO) (k : Int) : Nat := (shI s k).toNat
/-- A map lies there, and holds this of each key. -/
structure MapOk (s : MO) (f : Int → Option Ent) : Prop where
  n1 : 1 ≤ s.tabs.length
  n2 : s.tabs.length ≤ 64
  giv : 0 ≤ s.given ∧ s.given ≤ 536870912
  ex : ∃ (b : Nat → Nat) (L : Nat → TL), (∀ i, i < s.tabs.length → s.tabs.getD i none = some (b i, 0) ∧ TabAt s.pool (b i) (L i) ∧ (L i).tm.Good ∧ ((L i).len : Int) ≤ s.given) ∧
    (∀ i j, i < s.tabs.length → j < s.tabs.length → i ≠ j → ∀ n, (L i).lab n ≠ .no → (L j).lab n = .no) ∧ (∀ k, f k = (L (shN s k)).tm.get k) ∧ ∀ i, i < s.tabs.length → ∀ k e, (L i).tm.get k = some e → shN s k = i

theorem MapOk.sh {s : MO} {f : Int → Option Ent} (h : MapOk s f) (k : Int) : 0 ≤ shI s k ∧ shI s k < (s.tabs.length : Int) ∧ shN s k < s.tabs.length := by
  have := idx_range (h := mixF s.seed k) (row := 2) (size := (s.tabs.length : Int)) (by have := h.n1; omega) (by have := h.n2; omega)
  unfold shN shI; omega
theorem good_fits {L : TL} (h : L.tm.Good) (hl : L.len ≤ 1073741824) : L.fits := by
  have e1 : L.tm.B.length = L.B.length := by simp [TL.tm]
  have e2 : L.tm.O.length = L.O.length := by simp [TL.tm]
  have := h.core.b1; have := h.core.b2; have := h.core.b3
  exact ⟨by omega, by omega, by omega, hl⟩
theorem good_tight {L : TL} (h : L.tm.Good) : L.O.length ≤ L.moved → L.O = [] := by
  intro hh
  have e2 : L.tm.O.length = L.O.length := by simp [TL.tm]
  have := h.tight (by rw [e2]; exact hh)
  exact List.eq_nil_of_length_eq_zero (by rw [← e2, this]; rfl)
theorem TabAt.other {p q : Pool} {b : Nat} {L : TL} (h : TabAt p b L) (k : ∀ n, L.lab n ≠ .no → q n = p n) : TabAt q b L := by
  obtain ⟨h1, h2, h3, h4, h5, h6⟩ := h
  refine ⟨by rw [k b (by rw [h2]; simp)]; exact h1, h2, h3.frame fun n hn => ⟨k n ?_, rfl⟩, fun hO => (h4 hO).frame fun n hn => ⟨k n ?_, rfl⟩, h5, fun n hn => by rw [k n hn]; exact h6 n hn⟩
  · rcases hn with e | ⟨i, _, e⟩ <;> rw [e] <;> simp
  · rcases hn with e | ⟨i, _, e⟩ <;> rw [e] <;> simp

/-- One table turned. -/
theorem MapOk.step {s : MO} {f : Int → Option Ent} (h : MapOk s f) (k : Int) :
    ∃ (b : Nat) (L : TL), s.tabs.getD (shN s k) none = some (b, 0) ∧ TabAt s.pool b L ∧ L.tm.Good ∧ L.fits ∧ (L.len : Int) ≤ s.given ∧ (∀ j, shN s j = shN s k → f j = L.tm.get j) ∧
      ∀ (p' : Pool) (L' : TL) (s' : MO), s'.seed = s.seed → s'.tabs = s.tabs → s'.pool = p' → 0 ≤ s'.given ∧ s'.given ≤ 536870912 → s.given ≤ s'.given → (L'.len : Int) ≤ s'.given → TabAt p' b L' → L'.tm.Good → Frame s.pool p' L L' →
        (∀ j, j ≠ k → L'.tm.get j = L.tm.get j) → ∀ f' : Int → Option Ent, (∀ j, f' j = if shN s j = shN s k then L'.tm.get j else f j) → MapOk s' f' := by
  obtain ⟨b, L, h1, h2, h3, h4⟩ := h.ex
  obtain ⟨_, _, hk⟩ := h.sh k
  obtain ⟨g1, g2, g3, g4⟩ := h1 _ hk
  refine ⟨b (shN s k), L (shN s k), g1, g2, g3, good_fits g3 (by have := h.giv; omega), g4, (fun j e => by rw [h3 j, e]), fun p' L' s' e1 e2 e3 e4 e5 e6 t1 t2 fr ho f' hf => ?_⟩
  subst e3
  refine ⟨by rw [e2]; exact h.n1, by rw [e2]; exact h.n2, e4, b, fun i => if i = shN s k then L' else L i, fun i hi => ?_, fun i j hi hj hij n hn => ?_, fun j => ?_, fun i hi j e he => ?_⟩
  · rw [e2] at hi ⊢
    obtain ⟨q1, q2, q3, q4⟩ := h1 i hi
    dsimp only
    by_cases e : i = shN s k
    · rw [if_pos e, e]; exact ⟨g1, t1, t2, e6⟩
    · rw [if_neg e]
      refine ⟨q1, q2.other fun n hn => ?_, q3, by omega⟩
      exact (fr n (h2 i _ hi hk e n hn) (q2.2.2.2.2.2 n hn)).1
  · rw [e2] at hi hj
    dsimp only at hn ⊢
    by_cases ei : i = shN s k
    · rw [if_pos ei] at hn
      rw [if_neg (fun e => hij (ei.trans e.symm))]
      by_cases hh : (L j).lab n = .no
      · exact hh
      · have hn0 : (L (shN s k)).lab n = .no := h2 j _ hj hk (fun e => hij (ei.trans e.symm)) n hh
        have := (fr n hn0 ((h1 j hj).2.1.2.2.2.2.2 n hh)).2
        exact absurd this hn
    · rw [if_neg ei] at hn
      by_cases ej : j = shN s k
      · rw [if_pos ej]
        exact (fr n (h2 i _ hi hk ei n hn) ((h1 i hi).2.1.2.2.2.2.2 n hn)).2
      · rw [if_neg ej]; exact h2 i j hi hj hij n hn
  · have es : shN s' j = shN s j := by unfold shN shI; rw [e1, e2]
    rw [es, hf]
    dsimp only
    by_cases e : shN s j = shN s k
    · rw [if_pos e, if_pos e]
    · rw [if_neg e, if_neg e]; exact h3 j
  · have es : shN s' j = shN s j := by unfold shN shI; rw [e1, e2]
    rw [es]
    rw [e2] at hi
    dsimp only at he
    by_cases ei : i = shN s k
    · rw [if_pos ei] at he
      rw [ei]
      by_cases hj : j = k
      · rw [hj]
      · rw [ho j hj] at he; exact h4 _ hk j e he
    · rw [if_neg ei] at he; exact h4 i hi j e he

theorem MapOk.same {s : MO} {f : Int → Option Ent} (h : MapOk s f) (s' : MO) (e1 : s'.seed = s.seed) (e2 : s'.tabs = s.tabs) (e3 : s'.pool = s.pool) (e4 : s'.given = s.given) : MapOk s' f := by
  obtain ⟨b, L, h1, h2, h3, h4⟩ := h.ex
  have es : ∀ k, shN s' k = shN s k := fun k => by unfold shN shI; rw [e1, e2]
  exact ⟨by rw [e2]; exact h.n1, by rw [e2]; exact h.n2, by rw [e4]; exact h.giv, b, L, fun i hi => by rw [e2] at hi ⊢; rw [e3, e4]; exact h1 i hi, fun i j hi hj => by rw [e2] at hi hj; exact h2 i j hi hj, fun k => by rw [es]; exact h3 k, fun i hi k e he => by rw [es]; rw [e2] at hi; exact h4 i hi k e he⟩

/-! ## the calls -/
theorem hooksS_ok : ∀ g H, hooksS g = some H → HookOk Try.prog g H := by
  intro g H h
  unfold hooksS at h
  split at h
  · cases h; exact hMix
  · cases h; exact hIndex
  · cases h; exact hGet
  · cases h; exact hPut
  · cases h; exact hRem
  · cases h
theorem cfgS_ok : cfgS.ok := by
  refine ⟨tab_met, kinds_met, mixed_met, fun g fn h => ?_, hooksS_ok⟩
  unfold cfgS fnsS at h
  simp only at h
  split at h <;> cases h <;> exact ⟨by kernel_rfl, by kernel_rfl⟩

abbrev oM (s : MO) : V.O := .inr s
theorem tmV_map {s : MO} {hp : Heap V} {n : Nat} (h : tmV (.inr s) hp n) : n = 5 ∧ ∃ sp, hp = mUp s sp := by
  obtain ⟨h0, rfl, hn, sp, rfl⟩ := h
  exact ⟨hn, sp, rfl⟩
theorem endM {n' : Nat} {h' : Heap V} {v0 v : AV} {s' : MO} {sp : Nat}
    (h0 : h'.get 0 = some (.cells 54 [.int .i64 s'.seed, .sl false 1 0 1 s'.tabs.length (s'.tabs.length + sp), .int .i64 s'.given, .mp 2, .mp 3, .int .i64 s'.weight]))
    (h1 : h'.get 1 = some (.arr 56 Kd.ptr s'.tabs sp)) (h2 : h'.get 2 = some (.mp .i64 Kd.int s'.keys)) (h3 : h'.get 3 = some (.mp .i64 Kd.bool s'.gone)) (h4 : h'.get 4 = some (.pool s'.pool))
    (hv : v0.sub v) (hn : v.on noName = true) : EndObj 5 n' v0 h' v (oM s') [] := by
  refine ⟨_, pack (ren := [(0, 0), (1, 1), (2, 2), (3, 3), (4, 4)]) laid_V (x := oM s') (n := 5) (m := 0) (h := h') ⟨mBlk s' sp, rfl, rfl, sp, rfl⟩ rfl rfl ⟨?_, ?_, ?_, ?_, ?_, trivial⟩ rfl, rfl, .plain hv hn⟩
  · show BSub (h'.get 0) _
    rw [h0]; exact .same _
  · show BSub ((h'.del 0).get 1) _
    rw [Heap.get_del_ne (by decide), h1]; exact .same _
  · show BSub (((h'.del 0).del 1).get 2) _
    rw [Heap.get_del_ne (by decide), Heap.get_del_ne (by decide), h2]; exact .same _
  · show BSub ((((h'.del 0).del 1).del 2).get 3) _
    rw [Heap.get_del_ne (by decide), Heap.get_del_ne (by decide), Heap.get_del_ne (by decide), h3]; exact .same _
  · show BSub (((((h'.del 0).del 1).del 2).del 3).get 4) _
    rw [Heap.get_del_ne (by decide), Heap.get_del_ne (by decide), Heap.get_del_ne (by decide), Heap.get_del_ne (by decide), h4]; exact .same _

abbrev RunM := MO → List (Arg V) → (AV → MO → List (Blk V) → Out V) → Out V
def onM (f : RunM) : RunObj V := fun x ar K => match x with
  | .inr s => f s ar fun v s' E => K v (oM s') E
  | _ => .bad 500
theorem map_hook {C : Cfg Try.prog V} (hC : C.ok) {f n : Nat} {fn : Func} {sgn : List (Sg V)} {run : RunM} (hg : Try.prog.funcs[f]? = some fn ∧ (fn.name == "runtime.NumGoroutine") = false) (hb : fn.body.isSome = true)
    (H : ∀ (M : Goal V) (s : MO) (ar : List (Arg V)) (K0 : AV → MO → List (Blk V) → Out V), (run s ar K0).holds M → ar.length + 1 ≤ fn.ntmps ∧ ∀ sp,
      (runF C n f fn (.ptr 0 0 :: argAV 5 ar) (mUp s sp ++ argHeap 5 ar) (5 + ar.length)).holds ⟨fun _ _ => False, fun v0 h' n' => ∃ v s' E, (K0 v s' E).holds M ∧ EndObj 5 n' v0 h' v (oM s') E⟩) :
    HookOk Try.prog f (hookObj 5 sgn (onM run)) := by
  refine hookObj_ok laid_V ⟨fn, hg.1, hg.2, by cases hb' : fn.body <;> simp [hb'] at hb ⊢⟩ ?_
  intro M x ar K0 h hp m ht
  unfold onM at h
  split at h
  · rename_i s
    obtain ⟨rfl, sp, rfl⟩ := tmV_map ht
    obtain ⟨hl, h⟩ := H M s ar _ h
    refine ⟨rfl, calls_runF (R := fun v0 h' n' _ => ∃ v x' E, (K0 v x' E).holds M ∧ EndObj 5 n' v0 h' v x' E) hC (n := n) hg hb ?_ ?_⟩
    · have : ∀ (j : Nat) (l : List (Arg V)), (argAV j l).length = l.length := by
        intro j l; induction l generalizing j with
        | nil => rfl
        | cons a l ih => simp [argAV, ih]
      simp only [List.length_cons, this]; exact hl
    · exact Out.weak (h sp) (fun _ _ h => h) (fun v0 h' n' ⟨v, s', E, h1, h2⟩ => ⟨v, _, E, h1, h2⟩)
  · exact h.elim

def runMLen : RunM := fun s ar K => match ar with
  | [] => K (.int .i64 (s.keys.length : Int)) s []
  | _ => .bad 500
theorem hMLen : HookOk Try.prog 20 (hookObj 5 [] (onM runMLen)) := by
  refine map_hook cfgS_ok (n := 60) (fn := Try.f20) ⟨by kernel_rfl, by kernel_rfl⟩ (by kernel_rfl) ?_
  intro M s ar K0 H
  unfold runMLen at H
  split at H
  · refine ⟨show 1 ≤ _ by decide +kernel, fun sp => ?_⟩
    show (runF cfgS 60 20 Try.f20 [.ptr 0 0] (mUp s sp) 5).holds _
    rw [tmlen]
    exact ⟨_, _, _, H, endM rfl rfl rfl rfl rfl (AV.sub_same _) rfl⟩
  · exact H.elim
def runMWeight : RunM := fun s ar K => match ar with
  | [] => K (.int .i64 s.weight) s []
  | _ => .bad 500
theorem hMWeight : HookOk Try.prog 21 (hookObj 5 [] (onM runMWeight)) := by
  refine map_hook cfgS_ok (n := 60) (fn := Try.f21) ⟨by kernel_rfl, by kernel_rfl⟩ (by kernel_rfl) ?_
  intro M s ar K0 H
  unfold runMWeight at H
  split at H
  · refine ⟨show 1 ≤ _ by decide +kernel, fun sp => ?_⟩
    show (runF cfgS 60 21 Try.f21 [.ptr 0 0] (mUp s sp) 5).holds _
    rw [tmweight]
    exact ⟨_, _, _, H, endM rfl rfl rfl rfl rfl (AV.sub_same _) rfl⟩
  · exact H.elim
def runMCount : RunM := fun s ar K => match ar with
  | [] => K (.int .i64 (s.tabs.length : Int)) s []
  | _ => .bad 500
theorem hMCount : HookOk Try.prog 13 (hookObj 5 [] (onM runMCount)) := by
  refine map_hook cfgS_ok (n := 60) (fn := Try.f13) ⟨by kernel_rfl, by kernel_rfl⟩ (by kernel_rfl) ?_
  intro M s ar K0 H
  unfold runMCount at H
  split at H
  · refine ⟨show 1 ≤ _ by decide +kernel, fun sp => ?_⟩
    show (runF cfgS 60 13 Try.f13 [.ptr 0 0] (mUp s sp) 5).holds _
    rw [tmcount]
    exact ⟨_, _, _, H, endM rfl rfl rfl rfl rfl (AV.sub_same _) rfl⟩
  · exact H.elim
def runMShard : RunM := fun s ar K => match ar with
  | [.int .i64 k] => .need (s.tabs.length ≤ 64) (K (.int .i64 (shI s k)) s [])
  | _ => .bad 500
theorem hMShard : HookOk Try.prog 11 (hookObj 5 [.int .i64] (onM runMShard)) := by
  refine map_hook cfgS_ok (n := 60) (fn := Try.f11) ⟨by kernel_rfl, by kernel_rfl⟩ (by kernel_rfl) ?_
  intro M s ar K0 H
  unfold runMShard at H
  split at H
  · rename_i k
    obtain ⟨hn, H⟩ := H
    refine ⟨show 2 ≤ _ by decide +kernel, fun sp => ?_⟩
    show (runF cfgS 60 11 Try.f11 [.ptr 0 0, .int .i64 k] (mUp s sp) 6).holds _
    rw [tmshard]
    exact ⟨by omega, _, _, _, H, endM rfl rfl rfl rfl rfl (AV.sub_same _) rfl⟩
  · exact H.elim
def stateOf (s : MO) (k : Int) : Int := if k < 1 ∨ k > s.given then 0 else match mget s.gone k with | none => 1 | some true => 3 | some false => 2
def runMState : RunM := fun s ar K => match ar with
  | [.int .i64 k] => K (.int .i64 (stateOf s k)) s []
  | _ => .bad 500
theorem hMState : HookOk Try.prog 16 (hookObj 5 [.int .i64] (onM runMState)) := by
  refine map_hook cfgS_ok (n := 60) (fn := Try.f16) ⟨by kernel_rfl, by kernel_rfl⟩ (by kernel_rfl) ?_
  intro M s ar K0 H
  unfold runMState at H
  split at H
  · rename_i k
    refine ⟨show 2 ≤ _ by decide +kernel, fun sp => ?_⟩
    show (runF cfgS 60 16 Try.f16 [.ptr 0 0, .int .i64 k] (mUp s sp) 6).holds _
    rw [tmstate]
    unfold stateOf at H
    simp only [Out.holds, decide_eq_true_eq, decide_eq_false_iff_not, beq_iff_eq, beq_eq_false_iff_ne, bne_iff_ne, ne_eq, bne_eq_false_iff_eq, Bool.true_and, Bool.and_true, Bool.not_eq_true', Bool.not_eq_false', Bool.and_eq_true, Bool.or_eq_true, Bool.and_eq_false_imp, true_implies, true_and, Bool.not_true, Bool.not_false, Bool.false_eq_true, Bool.true_eq_false, false_implies, and_true, beq_self_eq_true, Decidable.not_not, not_true_eq_false, not_false_eq_true]
    refine ⟨fun h1 => ?_, fun h1 => ⟨fun h2 => ?_, fun h2 => ⟨fun h3 => ?_, fun h3 => ⟨fun h4 => ?_, fun h4 => ?_⟩⟩⟩⟩
    · rw [if_pos (.inl h1)] at H
      exact ⟨_, _, _, H, endM rfl rfl rfl rfl rfl (AV.sub_lit rfl) rfl⟩
    · rw [if_pos (.inr h2)] at H
      exact ⟨_, _, _, H, endM rfl rfl rfl rfl rfl (AV.sub_lit rfl) rfl⟩
    · rw [if_neg (by omega)] at H
      cases hg : mget s.gone k with
      | none => rw [hg] at H; exact ⟨_, _, _, H, endM rfl rfl rfl rfl rfl (AV.sub_lit rfl) rfl⟩
      | some x => rw [hg] at h3; simp at h3
    · rw [if_neg (by omega)] at H
      cases hg : mget s.gone k with
      | none => rw [hg] at h3; simp at h3
      | some x =>
        rw [hg] at H h4
        have : x = true := h4
        subst this
        exact ⟨_, _, _, H, endM rfl rfl rfl rfl rfl (AV.sub_lit rfl) rfl⟩
    · rw [if_neg (by omega)] at H
      cases hg : mget s.gone k with
      | none => rw [hg] at h3; simp at h3
      | some x =>
        rw [hg] at H h4
        have : x = false := h4
        subst this
        exact ⟨_, _, _, H, endM rfl rfl rfl rfl rfl (AV.sub_lit rfl) rfl⟩
  · exact H.elim

end Sx
end Go.Proofs.Ytohckjjbephohaa

/-
  Maps of shards: what Get, Put, Remove, Evict and Bury do.
-/
namespace Go.Proofs.Ytohckjjbephohaa
namespace Sx
open Go
set_option linter.unusedSimpArgs false
set_option linter.unusedVariables false

theorem getD_conv (s : MO) (k : Int) : s.tabs.getD (0 + (idxF (mixF s.seed k) 2 (s.tabs.length : Int)).toNat) (V.enc Kd.ptr).dflt = s.tabs.getD (shN s k) none := by
  rw [Nat.zero_add]; rfl

def runMGet : RunM := fun s ar K => match ar with
  | [.int .i64 k] => .ex (Int → Option Ent) fun f => .need (MapOk s f) (K (foundAV (f k)) s [])
  | _ => .bad 500
theorem hMGet : HookOk Try.prog 14 (hookObj 5 [.int .i64] (onM runMGet)) := by
  refine map_hook cfgS_ok (n := 60) (fn := Try.f14) ⟨by kernel_rfl, by kernel_rfl⟩ (by kernel_rfl) ?_
  intro M s ar K0 H
  unfold runMGet at H
  split at H
  · rename_i k
    obtain ⟨f, hM, H⟩ := H
    refine ⟨show 2 ≤ _ by decide +kernel, fun sp => ?_⟩
    show (runF cfgS 60 14 Try.f14 [.ptr 0 0, .int .i64 k] (mUp s sp) 6).holds _
    rw [tmget]
    obtain ⟨h1, h2, h3⟩ := hM.sh k
    obtain ⟨b, L, g1, g2, g3, g4, g5, g6, _⟩ := hM.step k
    rw [g6 k rfl] at H
    refine ⟨by have := hM.n2; omega, ⟨h1, h2⟩, by rw [Nat.zero_add]; exact h3, b, by rw [getD_conv]; exact g1, L, ⟨g2, g4⟩, _, _, _, H, endM rfl rfl rfl rfl rfl (AV.sub_same _) rfl⟩
  · exact H.elim

def cw (w : Int) : Int := if (2147483648 : Int) < if w > (0 : Int) then w else (0 : Int) then (2147483648 : Int) else if w > (0 : Int) then w else (0 : Int)
def putE (s : MO) (g : Option Ent) (k v w : Int) : Ent := ⟨k, v, cw w, match g with | some e => e.node | none => IntKind.wrap .i64 (s.given + 1)⟩
def putS (s : MO) (g : Option Ent) (k w : Int) (p : Pool) : MO := { s with
  given := match g with | some _ => s.given | none => IntKind.wrap .i64 (s.given + 1),
  keys := match g with | some _ => s.keys | none => mput s.keys (IntKind.wrap .i64 (s.given + 1)) k,
  weight := IntKind.wrap .i64 (s.weight + IntKind.wrap .i64 (cw w - (g.getD e0).weight)), pool := p }
def updF (f : Int → Option Ent) (k : Int) (g : Option Ent) : Int → Option Ent := fun j => if j = k then g else f j
def runMPut : RunM := fun s ar K => match ar with
  | [.int .i64 k, .int .i64 v, .int .i64 w] => .ex (Int → Option Ent) fun f => .need (MapOk s f ∧ s.given < 536870912)
      (.all MO fun s' => .asm (s' = putS s (f k) k w s'.pool ∧ MapOk s' (updF f k (some (putE s (f k) k v w)))) (K (.tup [.agg (Ent.enc ((f k).getD (putE s (f k) k v w))), .bool (f k).isSome]) s' []))
  | _ => .bad 500
theorem hMPut : HookOk Try.prog 12 (hookObj 5 [.int .i64, .int .i64, .int .i64] (onM runMPut)) := by
  refine map_hook cfgS_ok (n := 60) (fn := Try.f12) ⟨by kernel_rfl, by kernel_rfl⟩ (by kernel_rfl) ?_
  intro M s ar K0 H
  unfold runMPut at H
  split at H
  · rename_i k v w
    obtain ⟨f, ⟨hM, hgv⟩, H⟩ := H
    refine ⟨show 4 ≤ _ by decide +kernel, fun sp => ?_⟩
    show (runF cfgS 60 12 Try.f12 [.ptr 0 0, .int .i64 k, .int .i64 v, .int .i64 w] (mUp s sp) 8).holds _
    rw [tmput]
    obtain ⟨h1, h2, h3⟩ := hM.sh k
    obtain ⟨b, L, g1, g2, g3, g4, g5, g6, g7⟩ := hM.step k
    have hgiv := hM.giv
    have hw1 : IntKind.wrap .i64 (s.given + 1) = s.given + 1 := wrap_low (by omega) (by omega)
    have hg1 : s.tabs.getD (0 + (idxF (mixF s.seed k) 2 (s.tabs.length : Int)).toNat) (V.enc Kd.ptr).dflt = some (b, 0) := by rw [getD_conv]; exact g1
    have hlt : 0 + (idxF (mixF s.seed k) 2 (s.tabs.length : Int)).toNat < s.tabs.length := by rw [Nat.zero_add]; exact h3
    have hneed : TabAt s.pool b L ∧ L.fits ∧ moveOk L.tm ∧ (L.O.length ≤ L.moved → L.O = []) ∧ L.len < 1073741824 := ⟨g2, g4, (move_good g3).1, good_tight g3, by omega⟩
    have hn64 : (s.tabs.length : Int) ≤ 4611686018427387904 := by have := hM.n2; omega
    -- the state that comes of it
    have fin : ∀ (g : Option Ent), f k = g → ∀ (e : Ent), e = putE s g k v w → ∀ y : Pool × TL, TabAt y.1 b y.2 ∧ y.2.fits ∧ y.2.tm = L.tm.put e ∧ Frame s.pool y.1 L y.2 → MapOk (putS s (f k) k w y.1) (updF f k (some (putE s (f k) k v w))) := by
      rintro g rfl e rfl ⟨p', L'⟩ ⟨t1, t2, t3, t4⟩
      dsimp only at t1 t2 t3 t4 ⊢
      obtain ⟨q1, q2, q3⟩ := put_good g3 (putE s (f k) k v w)
      have hlen : L'.len = L.len + (if L.tm.get k = none then 1 else 0) := by
        have := congrArg TM.len t3
        rw [q3] at this; exact this
      have hgv2 : s.given ≤ (putS s (f k) k w p').given ∧ (L'.len : Int) ≤ (putS s (f k) k w p').given ∧ (putS s (f k) k w p').given ≤ 536870912 := by
        rw [hlen, ← g6 k rfl]
        unfold putS
        cases f k with
        | none => dsimp only; rw [hw1]; simp; omega
        | some _ => dsimp only; simp; omega
      refine g7 p' L' (putS s (f k) k w p') rfl rfl rfl ⟨by omega, hgv2.2.2⟩ hgv2.1 hgv2.2.1 t1 (by rw [t3]; exact q1) t4 (fun j hj => by rw [t3, q2, if_neg (by show ¬ j = k; exact hj)]) _ fun j => ?_
      rw [t3, q2]
      unfold updF
      show (if j = k then _ else _) = _
      by_cases hj : j = k
      · subst hj; simp [putE]
      · rw [if_neg hj]
        by_cases hs : shN s j = shN s k
        · rw [if_pos hs, if_neg (by show ¬ j = k; exact hj)]; exact g6 j hs
        · rw [if_neg hs]
    refine ⟨hn64, ⟨h1, h2⟩, hlt, b, hg1, L, ⟨g2, g4⟩, ?_⟩
    simp only [Out.holds, decide_eq_true_eq, decide_eq_false_iff_not, beq_iff_eq, beq_eq_false_iff_ne, bne_iff_ne, ne_eq, bne_eq_false_iff_eq, Bool.true_and, Bool.and_true, Bool.not_eq_true', Bool.not_eq_false', Bool.and_eq_true, Bool.or_eq_true, Bool.and_eq_false_imp, true_implies, true_and, Bool.not_true, Bool.not_false, Bool.false_eq_true, Bool.true_eq_false, false_implies, and_true, beq_self_eq_true, Decidable.not_not, not_true_eq_false, not_false_eq_true]
    have hfk : L.tm.get k = f k := (g6 k rfl).symm
    rw [hfk]
    cases hf : f k with
    | some o =>
      refine ⟨fun _ => ⟨b, hg1, L, hneed, fun y hy => ⟨fun hh => by simp at hh, fun _ => ?_⟩⟩, fun hh => by simp at hh⟩
      have h0 := H (putS s (f k) k w y.1) ⟨rfl, fin (some o) hf _ rfl y hy⟩
      rw [hf] at h0
      exact ⟨_, _, _, h0, endM (sp := sp) rfl rfl rfl rfl rfl (AV.sub_two (AV.sub_of_eq rfl) (AV.sub_tt rfl)) rfl⟩
    | none =>
      refine ⟨fun hh => by simp at hh, fun _ => ?_⟩
      refine ⟨b, hg1, L, hneed, fun y hy => ⟨fun _ => ?_, fun hh => by simp at hh⟩⟩
      have h0 := H (putS s (f k) k w y.1) ⟨rfl, fin none hf _ rfl y hy⟩
      rw [hf] at h0
      exact ⟨_, _, _, h0, endM (sp := sp) rfl rfl rfl rfl rfl (AV.sub_two (AV.sub_of_eq rfl) (AV.sub_ff rfl)) rfl⟩
  · exact H.elim

end Sx
end Go.Proofs.Ytohckjjbephohaa

/-
  Maps of shards: what Remove, Evict and Bury do.
-/
namespace Go.Proofs.Ytohckjjbephohaa
namespace Sx
open Go
set_option linter.unusedSimpArgs false
set_option linter.unusedVariables false

def remS (s : MO) (g : Option Ent) (dead : Bool) (p : Pool) : MO := { s with
  keys := match g with | some e => mdel s.keys e.node | none => s.keys,
  gone := match g with | some e => mput s.gone e.node dead | none => s.gone,
  weight := match g with | some e => IntKind.wrap .i64 (s.weight - e.weight) | none => s.weight, pool := p }
theorem rem_fin {s : MO} {f : Int → Option Ent} (hM : MapOk s f) (k : Int) (dead : Bool) : ∃ (b : Nat) (L : TL), s.tabs.getD (shN s k) none = some (b, 0) ∧ (TabAt s.pool b L ∧ L.fits ∧ moveOk L.tm ∧ (L.tm.move.get k ≠ none → 1 ≤ L.len)) ∧ L.tm.move.get k = f k ∧
    ∀ y : Pool × TL, TabAt y.1 b y.2 ∧ y.2.fits ∧ y.2.tm = L.tm.remove k ∧ Frame s.pool y.1 L y.2 → MapOk (remS s (f k) dead y.1) (updF f k none) := by
  obtain ⟨b, L, g1, g2, g3, g4, g5, g6, g7⟩ := hM.step k
  obtain ⟨m1, m2, m3⟩ := move_good g3
  obtain ⟨q1, q2, q3, q4⟩ := remove_good g3 k
  refine ⟨b, L, g1, ⟨g2, g4, m1, fun hn => ?_⟩, (m3 k).trans (g6 k rfl).symm, ?_⟩
  · rw [m3] at hn; exact q4 hn
  · rintro ⟨p', L'⟩ ⟨t1, t2, t3, t4⟩
    dsimp only at t1 t2 t3 t4 ⊢
    have hlen : L'.len ≤ L.len := by
      have := congrArg TM.len t3
      rw [q3] at this
      have h0 : L'.len = L.len - _ := this
      omega
    refine g7 p' L' (remS s (f k) dead p') rfl rfl rfl hM.giv (Int.le_refl _) (by show (L'.len : Int) ≤ s.given; omega) t1 (by rw [t3]; exact q1) t4 (fun j hj => by rw [t3, q2, if_neg hj]) _ fun j => ?_
    rw [t3, q2]
    unfold updF
    by_cases hj : j = k
    · subst hj; simp
    · rw [if_neg hj]
      by_cases hs : shN s j = shN s k
      · rw [if_pos hs, if_neg hj]; exact g6 j hs
      · rw [if_neg hs]

def runMRem : RunM := fun s ar K => match ar with
  | [.int .i64 k] => .ex (Int → Option Ent) fun f => .need (MapOk s f)
      (.all MO fun s' => .asm (s' = remS s (f k) false s'.pool ∧ MapOk s' (updF f k none)) (K (foundAV (f k)) s' []))
  | _ => .bad 500
theorem hMRem : HookOk Try.prog 15 (hookObj 5 [.int .i64] (onM runMRem)) := by
  refine map_hook cfgS_ok (n := 60) (fn := Try.f15) ⟨by kernel_rfl, by kernel_rfl⟩ (by kernel_rfl) ?_
  intro M s ar K0 H
  unfold runMRem at H
  split at H
  · rename_i k
    obtain ⟨f, hM, H⟩ := H
    refine ⟨show 2 ≤ _ by decide +kernel, fun sp => ?_⟩
    show (runF cfgS 60 15 Try.f15 [.ptr 0 0, .int .i64 k] (mUp s sp) 6).holds _
    rw [tmrem]
    obtain ⟨h1, h2, h3⟩ := hM.sh k
    obtain ⟨b, L, g1, g2, g3, g4⟩ := rem_fin hM k false
    have hg1 : s.tabs.getD (0 + (idxF (mixF s.seed k) 2 (s.tabs.length : Int)).toNat) (V.enc Kd.ptr).dflt = some (b, 0) := by rw [getD_conv]; exact g1
    have hlt : 0 + (idxF (mixF s.seed k) 2 (s.tabs.length : Int)).toNat < s.tabs.length := by rw [Nat.zero_add]; exact h3
    have hn64 : (s.tabs.length : Int) ≤ 4611686018427387904 := by have := hM.n2; omega
    refine ⟨hn64, ⟨h1, h2⟩, hlt, b, hg1, L, g2, fun y hy => ?_⟩
    simp only [Out.holds, decide_eq_true_eq, decide_eq_false_iff_not, beq_iff_eq, beq_eq_false_iff_ne, bne_iff_ne, ne_eq, bne_eq_false_iff_eq, Bool.true_and, Bool.and_true, Bool.not_eq_true', Bool.not_eq_false', Bool.and_eq_true, Bool.or_eq_true, Bool.and_eq_false_imp, true_implies, true_and, Bool.not_true, Bool.not_false, Bool.false_eq_true, Bool.true_eq_false, false_implies, and_true, beq_self_eq_true, Decidable.not_not, not_true_eq_false, not_false_eq_true]
    have h0 := H (remS s (f k) false y.1) ⟨rfl, g4 y hy⟩
    rw [g3]
    cases hf : f k with
    | some o =>
      rw [hf] at h0
      exact ⟨fun hh => by simp at hh, fun _ => ⟨_, _, _, h0, endM (sp := sp) rfl rfl rfl rfl rfl (AV.sub_two (AV.sub_of_eq rfl) (AV.sub_tt rfl)) rfl⟩⟩
    | none =>
      rw [hf] at h0
      exact ⟨fun _ => ⟨_, _, _, h0, endM (sp := sp) rfl rfl rfl rfl rfl (AV.sub_two (fun r v hv => hv) (AV.sub_ff rfl)) rfl⟩, fun hh => by simp at hh⟩
  · exact H.elim

def runMEvict : RunM := fun s ar K => match ar with
  | [.int .i64 n] => .ite (mget s.keys n).isSome (.ex (Int → Option Ent) fun f => .need (MapOk s f)
      (.all MO fun s' => .asm (s' = remS s (f ((mget s.keys n).getD 0)) true s'.pool ∧ MapOk s' (updF f ((mget s.keys n).getD 0) none)) (K (foundAV (f ((mget s.keys n).getD 0))) s' [])))
      (K (.tup [.agg (Ent.enc e0), .ff]) s [])
  | _ => .bad 500
theorem hMEvict : HookOk Try.prog 17 (hookObj 5 [.int .i64] (onM runMEvict)) := by
  refine map_hook cfgS_ok (n := 60) (fn := Try.f17) ⟨by kernel_rfl, by kernel_rfl⟩ (by kernel_rfl) ?_
  intro M s ar K0 H
  unfold runMEvict at H
  split at H
  · rename_i n
    obtain ⟨H1, H2⟩ := H
    refine ⟨show 2 ≤ _ by decide +kernel, fun sp => ?_⟩
    show (runF cfgS 60 17 Try.f17 [.ptr 0 0, .int .i64 n] (mUp s sp) 6).holds _
    rw [tmevict]
    simp only [Out.holds, decide_eq_true_eq, decide_eq_false_iff_not, beq_iff_eq, beq_eq_false_iff_ne, bne_iff_ne, ne_eq, bne_eq_false_iff_eq, Bool.true_and, Bool.and_true, Bool.not_eq_true', Bool.not_eq_false', Bool.and_eq_true, Bool.or_eq_true, Bool.and_eq_false_imp, true_implies, true_and, Bool.not_true, Bool.not_false, Bool.false_eq_true, Bool.true_eq_false, false_implies, and_true, beq_self_eq_true, Decidable.not_not, not_true_eq_false, not_false_eq_true]
    refine ⟨fun hh => ?_, fun hh => ?_⟩
    · have H := H2 (by simpa using hh)
      exact ⟨_, _, _, H, endM (sp := sp) rfl rfl rfl rfl rfl (AV.sub_two (fun r v hv => hv) (AV.sub_same _)) rfl⟩
    · obtain ⟨f, hM, H⟩ := H1 (by simpa using hh)
      rw [show (V.enc Kd.int).dflt = (0 : Int) from rfl]
      generalize (mget s.keys n).getD 0 = k at H ⊢
      obtain ⟨h1, h2, h3⟩ := hM.sh k
      obtain ⟨b, L, g1, g2, g3, g4⟩ := rem_fin hM k true
      have hg1 : s.tabs.getD (0 + (idxF (mixF s.seed k) 2 (s.tabs.length : Int)).toNat) (V.enc Kd.ptr).dflt = some (b, 0) := by rw [getD_conv]; exact g1
      have hlt : 0 + (idxF (mixF s.seed k) 2 (s.tabs.length : Int)).toNat < s.tabs.length := by rw [Nat.zero_add]; exact h3
      have hn64 : (s.tabs.length : Int) ≤ 4611686018427387904 := by have := hM.n2; omega
      refine ⟨hn64, ⟨h1, h2⟩, hlt, b, hg1, L, g2, fun y hy => ?_⟩
      have h0 := H (remS s (f k) true y.1) ⟨rfl, g4 y hy⟩
      rw [g3]
      cases hf : f k with
      | some o =>
        rw [hf] at h0
        exact ⟨fun hh => by simp at hh, fun _ => ⟨_, _, _, h0, endM (sp := sp) rfl rfl rfl rfl rfl (AV.sub_two (AV.sub_of_eq rfl) (AV.sub_tt rfl)) rfl⟩⟩
      | none =>
        rw [hf] at h0
        exact ⟨fun _ => ⟨_, _, _, h0, endM (sp := sp) rfl rfl rfl rfl rfl (AV.sub_two (fun r v hv => hv) (AV.sub_ff rfl)) rfl⟩, fun hh => by simp at hh⟩
  · exact H.elim

def buryS (s : MO) (n : Int) : MO := if stateOf s n = 2 then { s with gone := mput s.gone n true } else s
def runMBury : RunM := fun s ar K => match ar with
  | [.int .i64 n] => .all MO fun s' => .asm (s' = buryS s n) (K (.int .i64 (if stateOf s n = 2 then 0 else if stateOf s n = 3 then 8 else 3)) s' [])
  | _ => .bad 500
theorem hMBury : HookOk Try.prog 18 (hookObj 5 [.int .i64] (onM runMBury)) := by
  refine map_hook cfgS_ok (n := 60) (fn := Try.f18) ⟨by kernel_rfl, by kernel_rfl⟩ (by kernel_rfl) ?_
  intro M s ar K0 H
  unfold runMBury at H
  split at H
  · rename_i k
    have H := H (buryS s k) rfl
    refine ⟨show 2 ≤ _ by decide +kernel, fun sp => ?_⟩
    show (runF cfgS 60 18 Try.f18 [.ptr 0 0, .int .i64 k] (mUp s sp) 6).holds _
    rw [tmbury]
    unfold buryS at H
    have key : ∀ n, stateOf s k = n → stateOf s k = n := fun _ h => h
    simp only [Out.holds, decide_eq_true_eq, decide_eq_false_iff_not, beq_iff_eq, beq_eq_false_iff_ne, bne_iff_ne, ne_eq, bne_eq_false_iff_eq, Bool.true_and, Bool.and_true, Bool.not_eq_true', Bool.not_eq_false', Bool.and_eq_true, Bool.or_eq_true, Bool.and_eq_false_imp, true_implies, true_and, Bool.not_true, Bool.not_false, Bool.false_eq_true, Bool.true_eq_false, false_implies, and_true, beq_self_eq_true, Decidable.not_not, not_true_eq_false, not_false_eq_true]
    refine ⟨fun h1 => ?_, fun h1 => ⟨fun h2 => ?_, fun h2 => ⟨fun h3 => ?_, fun h3 => ⟨fun h4 => ?_, fun h4 => ?_⟩⟩⟩⟩
    · have hs : stateOf s k = 0 := by unfold stateOf; rw [if_pos (.inl h1)]
      rw [hs] at H
      exact ⟨_, _, _, H, endM rfl rfl rfl rfl rfl (AV.sub_lit rfl) rfl⟩
    · have hs : stateOf s k = 0 := by unfold stateOf; rw [if_pos (.inr h2)]
      rw [hs] at H
      exact ⟨_, _, _, H, endM rfl rfl rfl rfl rfl (AV.sub_lit rfl) rfl⟩
    · have hs : stateOf s k = 1 := by
        unfold stateOf; rw [if_neg (by omega)]
        cases hg : mget s.gone k with
        | none => rfl
        | some x => rw [hg] at h3; simp at h3
      rw [hs] at H
      exact ⟨_, _, _, H, endM rfl rfl rfl rfl rfl (AV.sub_lit rfl) rfl⟩
    · have hs : stateOf s k = 3 := by
        unfold stateOf; rw [if_neg (by omega)]
        cases hg : mget s.gone k with
        | none => rw [hg] at h3; simp at h3
        | some x => rw [hg] at h4; have : x = true := h4; subst this; rfl
      rw [hs] at H
      exact ⟨_, _, _, H, endM rfl rfl rfl rfl rfl (AV.sub_lit rfl) rfl⟩
    · have hs : stateOf s k = 2 := by
        unfold stateOf; rw [if_neg (by omega)]
        cases hg : mget s.gone k with
        | none => rw [hg] at h3; simp at h3
        | some x => rw [hg] at h4; have : x = false := h4; subst this; rfl
      rw [hs] at H
      exact ⟨_, _, _, H, endM rfl rfl rfl rfl rfl (AV.sub_lit rfl) rfl⟩
  · exact H.elim

end Sx
end Go.Proofs.Ytohckjjbephohaa

/-
  The least power of two: the runs of the machine.
-/
namespace Go.Proofs.Ytohckjjbephohaa
namespace Sx
open Go
set_option maxRecDepth 100000
set_option linter.unusedVariables false

noncomputable def fnsCe : Nat → Option Func := fun g => match g with | 48 => some Try.f48 | _ => none
noncomputable def cfgCe : Cfg Try.prog V := ⟨tab, kinds, fnsCe, fun _ => none, fun _ _ => none⟩
def ceilR : Nat → Int → Int → Int → Int
  | 0, a, _, _ => a
  | i + 1, a, n, m => if a < n ∧ a < m then ceilR i (2 * a) n m else a
structure PCe where
  n : Int
  a : Int
  m : Int
  h1 : 1 ≤ a
  h2 : a ≤ m
  h3 : m ≤ 1099511627776
def CI1 (q : PCe) (x : Int) : St V := ⟨[(0, .int .i64 q.n), (2, .int .i64 q.m), (7, .int .i64 x)], [], 3, 33, TQ⟩
def CL1 : LoopS V := trimLoop (trimSt [0, 2, 7] []) (loopH 3 (fun q : PCe => CI1 q q.a) (fun q (_ : Unit) => True) (fun q _ => CI1 q (ceilR 64 q.a q.n q.m)))
noncomputable def cfgCe1 : Cfg Try.prog V := ⟨tab, kinds, fnsCe, fun _ => none, fun f id => match f, id with | 28, 0 => some CL1 | _, _ => none⟩
theorem tbce (q : PCe) (x : Int) : runCode cfgCe 60 28 (loopOf Try.f28 0) (CI1 q x) (stopT (trimSt [0, 2, 7] [])) = Out.ite (decide (x < q.n)) (Out.ite (decide (x < q.m)) (Out.stop EX.nx {env := [((0 : Nat), .int .i64 q.n), ((2 : Nat), .int .i64 q.m), ((7 : Nat), .int .i64 (IntKind.i64.wrap (x * (2 : Int))))], heap := [], nx := (3 : Nat), nt := (33 : Nat), tl := [(0 : Nat), (1 : Nat), (2 : Nat), (3 : Nat), (4 : Nat), (5 : Nat), (6 : Nat), (7 : Nat), (8 : Nat), (9 : Nat), (10 : Nat), (11 : Nat), (12 : Nat), (13 : Nat), (14 : Nat), (15 : Nat), (16 : Nat)] : St V }) (Out.stop (EX.ex (0 : Nat)) {env := [((0 : Nat), .int .i64 q.n), ((2 : Nat), .int .i64 q.m), ((7 : Nat), .int .i64 x)], heap := [], nx := (3 : Nat), nt := (33 : Nat), tl := [(0 : Nat), (1 : Nat), (2 : Nat), (3 : Nat), (4 : Nat), (5 : Nat), (6 : Nat), (7 : Nat), (8 : Nat), (9 : Nat), (10 : Nat), (11 : Nat), (12 : Nat), (13 : Nat), (14 : Nat), (15 : Nat), (16 : Nat)] : St V })) (Out.stop (EX.ex (0 : Nat)) {env := [((0 : Nat), .int .i64 q.n), ((2 : Nat), .int .i64 q.m), ((7 : Nat), .int .i64 x)], heap := [], nx := (3 : Nat), nt := (33 : Nat), tl := [(0 : Nat), (1 : Nat), (2 : Nat), (3 : Nat), (4 : Nat), (5 : Nat), (6 : Nat), (7 : Nat), (8 : Nat), (9 : Nat), (10 : Nat), (11 : Nat), (12 : Nat), (13 : Nat), (14 : Nat), (15 : Nat), (16 : Nat)] : St V }) := by kernel_rfl

theorem tceil (n a m : Int) : runF cfgCe1 60 28 Try.f28 [.int .i64 n, .int .i64 a, .int .i64 m] [] 3 = Out.ite (decide (a > (0 : Int))) (Out.ite (!bitsOp BinOp.and .i64 a (IntKind.i64.wrap (a - (1 : Int))) == (0 : Int)) (Out.fin (.lit .i64 (0 : Int)) [] (3 : Nat)) (Out.ite (decide (m > (0 : Int))) (Out.ite (!bitsOp BinOp.and .i64 m (IntKind.i64.wrap (m - (1 : Int))) == (0 : Int)) (Out.fin (.lit .i64 (0 : Int)) [] (3 : Nat)) (Out.ite (decide (a > m)) (Out.fin (.lit .i64 (0 : Int)) [] (3 : Nat)) (Out.need (LoopFor Try.prog (28 : Nat) (0 : Nat) (loopOf Try.f28 (0 : Nat)) CL1) (Out.ex (PCe → Prop) fun y => Out.need ((3 : Nat) ≤ (3 : Nat) ∧ SImp (3 : Nat) {env := [((0 : Nat), .int .i64 n), ((2 : Nat), .int .i64 m), ((7 : Nat), .int .i64 a)], heap := [], nx := (3 : Nat), nt := (33 : Nat), tl := [] : St V } (fun q => CI1 q q.a) y) (Out.all PCe fun y_1 => Out.asm (y y_1) (Out.all Unit fun y => Out.asm ((fun q x => True) y_1 y) (Out.fin (.int .i64 (ceilR (64 : Nat) y_1.a y_1.n y_1.m)) [] (3 : Nat)))))))) (Out.fin (.lit .i64 (0 : Int)) [] (3 : Nat)))) (Out.fin (.lit .i64 (0 : Int)) [] (3 : Nat)) := by kernel_rfl

end Sx
end Go.Proofs.Ytohckjjbephohaa

/-
  The least power of two: what the function does.
-/
namespace Go.Proofs.Ytohckjjbephohaa
namespace Sx
open Go
set_option linter.unusedSimpArgs false
set_option linter.unusedVariables false

theorem cfgCe_fns : ∀ g fn, fnsCe g = some fn → Try.prog.funcs[g]? = some fn ∧ (fn.name == "runtime.NumGoroutine") = false := by
  intro g fn h
  unfold fnsCe at h
  split at h <;> cases h
  exact ⟨by kernel_rfl, by kernel_rfl⟩
theorem cfgCe_ok : cfgCe.ok := ⟨tab_met, kinds_met, mixed_met, cfgCe_fns, fun g H h => (by cases h)⟩
theorem cfgCe1_ok : cfgCe1.ok := ⟨tab_met, kinds_met, mixed_met, cfgCe_fns, fun g H h => (by cases h)⟩

theorem cebody (q : PCe) (x : Int) (hx : 1 ≤ x ∧ x ≤ 2 * q.m) (Q : EX → St V → Prop) (F : AV → Heap V → Nat → Prop)
    (hnx : ∀ ST : St V, x < q.n → x < q.m → Wk 3 [] ST (CI1 q (2 * x)) → Q .nx ST) (hex : ∀ ST : St V, ¬ (x < q.n ∧ x < q.m) → Wk 3 [] ST (CI1 q x) → Q (.ex 0) ST) :
    (runCode cfgCe 60 28 (loopOf Try.f28 0) (CI1 q x) (stopT (trimSt [0, 2, 7] []))).holds ⟨Q, F⟩ := by
  rw [tbce]
  have h3 := q.h3
  have hw : IntKind.wrap .i64 (x * 2) = 2 * x := by rw [wrap_low (by omega) (by omega)]; omega
  have hw' : IntKind.wrap .i64 (2 * x) = 2 * x := wrap_low (by omega) (by omega)
  simp only [Out.holds, decide_eq_true_eq, decide_eq_false_iff_not, beq_iff_eq, beq_eq_false_iff_ne, bne_iff_ne, ne_eq, bne_eq_false_iff_eq, Bool.true_and, Bool.and_true, Bool.not_eq_true', Bool.not_eq_false', Bool.and_eq_true, Bool.or_eq_true, Bool.and_eq_false_imp, true_implies, true_and, Bool.not_true, Bool.not_false, Bool.false_eq_true, Bool.true_eq_false, false_implies, and_true, beq_self_eq_true, Decidable.not_not, not_true_eq_false, not_false_eq_true]
  repeat' first | apply And.intro | intro _
  all_goals first
    | exact hnx _ (by omega) (by omega) (by (refine ⟨?_, ?_, rfl, tl_ok rfl, ?_, ⟨Nat.le_of_ble_eq_true rfl, rfl⟩⟩ <;> (repeat' first | with_reducible exact trivial | (exact AV.sub_int hw) | (exact AV.sub_int hw') | exact AV.sub_same _ | exact .same _ | exact .inr rfl | exact .inl (in_ok rfl) | exact AV.sub_lit' | exact AV.sub_nilS | exact .none _ _ | exact trivial | refine ⟨?_, ?_⟩)))
    | exact hex _ (by omega) (by (refine ⟨?_, ?_, rfl, tl_ok rfl, ?_, ⟨Nat.le_of_ble_eq_true rfl, rfl⟩⟩ <;> (repeat' first | with_reducible exact trivial | exact AV.sub_same _ | exact .same _ | exact .inr rfl | exact .inl (in_ok rfl) | exact AV.sub_lit' | exact AV.sub_nilS | exact .none _ _ | exact trivial | refine ⟨?_, ?_⟩)))
theorem ceilR_stop {i : Nat} {a n m : Int} (h : ¬ (a < n ∧ a < m)) : ceilR i a n m = a := by cases i <;> simp [ceilR, h]
theorem cl1_ok : LoopOk Try.prog 0 (loopOf Try.f28 0) CL1 := by
  refine trimLoop_ok (trim_ok _ _) (loopTH_ok (C := cfgCe) cfgCe_ok (f := 28) (n := 60) (trim_ok [0, 2, 7] []) 3 CI1 (fun q x => (1 ≤ x ∧ x ≤ 2 * q.m) ∧ ∃ i : Nat, ceilR i x q.n q.m = ceilR 64 q.a q.n q.m ∧ q.m ≤ x * 2 ^ i) (fun q => q.a) (fun q x => (2 * q.m - x).toNat) (fun _ (_ : Unit) => True) (fun q _ => CI1 q (ceilR 64 q.a q.n q.m)) (fun q => ⟨⟨q.h1, by have := q.h1; have := q.h2; omega⟩, 64, rfl, ?_⟩) ?_)
  · have h1 := q.h1; have h3 := q.h3
    have : (1099511627776 : Int) ≤ 2 ^ 64 := by decide
    have h4 : q.a * 2 ^ 64 ≥ 1 * 2 ^ 64 := Int.mul_le_mul_of_nonneg_right h1 (by decide)
    omega
  · intro q x ⟨hx, i, hi, hm⟩
    refine cebody q x hx _ _ (fun ST h1 h2 hw => SImp.of_wk (2 * x) hw ⟨⟨⟨by omega, by omega⟩, ?_⟩, ?_⟩) (fun ST he hw => ⟨rfl, SImp.of_wk (ren := []) () ?_ trivial⟩)
    · cases i with
      | zero => simp at hm; omega
      | succ i =>
        refine ⟨i, ?_, ?_⟩
        · rw [← hi]; show _ = if x < q.n ∧ x < q.m then _ else _; rw [if_pos ⟨h1, h2⟩]
        · rw [Int.pow_succ] at hm
          have : x * (2 ^ i * 2) = 2 * x * 2 ^ i := by rw [Int.mul_comm (2 ^ i) 2, ← Int.mul_assoc, Int.mul_comm x 2]
          omega
    · show (2 * q.m - 2 * x).toNat < (2 * q.m - x).toNat; omega
    · rw [← hi, ceilR_stop he]; exact hw
def powI (a : Int) : Prop := bitsOp .and .i64 a (IntKind.wrap .i64 (a - 1)) = 0
def runCeil : RunFree V := fun ar K => match ar with
  | [.int .i64 n, .int .i64 a, .int .i64 m] => .need ((1 ≤ a ∧ a ≤ m ∧ m ≤ 1099511627776) ∧ powI a ∧ powI m) (K (.int .i64 (ceilR 64 a n m)) [])
  | _ => .bad 500
theorem hCeil : HookOk Try.prog 28 (hookFree [.int .i64, .int .i64, .int .i64] runCeil) := by
  refine free_hook (C := cfgCe1) cfgCe1_ok (n := 60) (fn := Try.f28) ⟨by kernel_rfl, by kernel_rfl⟩ (by kernel_rfl) ?_
  intro M ar K0 H
  unfold runCeil at H
  split at H
  · rename_i n a m
    obtain ⟨⟨⟨h1, h2, h3⟩, p1, p2⟩, H⟩ := H
    refine ⟨show 3 ≤ _ by decide +kernel, ?_⟩
    show (runF cfgCe1 60 28 Try.f28 [.int .i64 n, .int .i64 a, .int .i64 m] [] 3).holds _
    rw [tceil]
    unfold powI at p1 p2
    simp only [Out.holds, decide_eq_true_eq, decide_eq_false_iff_not, beq_iff_eq, beq_eq_false_iff_ne, bne_iff_ne, ne_eq, bne_eq_false_iff_eq, Bool.true_and, Bool.and_true, Bool.not_eq_true', Bool.not_eq_false', Bool.and_eq_true, Bool.or_eq_true, Bool.and_eq_false_imp, true_implies, true_and, Bool.not_true, Bool.not_false, Bool.false_eq_true, Bool.true_eq_false, false_implies, and_true, beq_self_eq_true, Decidable.not_not, not_true_eq_false, not_false_eq_true]
    refine ⟨fun _ => ⟨fun hh => absurd p1 hh, fun _ => ⟨fun _ => ⟨fun hh => absurd p2 hh, fun _ => ⟨fun hh => by omega, fun _ => ?_⟩⟩, fun hh => by omega⟩⟩, fun hh => by omega⟩
    refine ⟨cl1_ok, fun q => q = ⟨n, a, m, h1, h2, h3⟩, ⟨Nat.le_refl _, SImp.of_wk (ren := []) ⟨n, a, m, h1, h2, h3⟩ (by (refine ⟨?_, ?_, rfl, tl_ok rfl, ?_, ⟨Nat.le_of_ble_eq_true rfl, rfl⟩⟩ <;> (repeat' first | with_reducible exact trivial | exact AV.sub_same _ | exact .same _ | exact .inr rfl | exact .inl (in_ok rfl) | exact AV.sub_lit' | exact AV.sub_nilS | exact .none _ _ | exact trivial | refine ⟨?_, ?_⟩))) rfl⟩, ?_⟩
    rintro _ rfl _
    exact ⟨_, _, H, endPlain (AV.sub_same _) rfl⟩
  · exact H.elim

end Sx
end Go.Proofs.Ytohckjjbephohaa

/-
  A new map: the runs of the machine.
-/
namespace Go.Proofs.Ytohckjjbephohaa
namespace Sx
open Go
set_option maxRecDepth 100000
set_option linter.unusedVariables false

noncomputable def hooksN : Nat → Option (HookS V) := fun g => match g with | 28 => some (hookFree [.int .i64, .int .i64, .int .i64] runCeil) | 29 => some (hookPool [.int .i64] runNew) | _ => none
noncomputable def cfgN : Cfg Try.prog V := ⟨tab, kinds, fun _ => none, hooksN, fun _ _ => none⟩
structure PNw where
  s : Int
  c : Nat
  hc : c ≤ 64
structure NwS where
  i : Nat
  tabs : List Adr
  sp : Nat
  pool : Pool
def NI1 (q : PNw) (x : NwS) : St V := ⟨[(1, .int .i64 q.s), (5, .ptr 5 0), (12, .int .i64 (q.c : Int)), (13, .int .i64 (x.i : Int))],
  [(5, .cells 54 [.int .i64 q.s, .sl false 6 0 1 x.tabs.length (x.tabs.length + x.sp), .lit .i64 0, .mp 3, .mp 4, .lit .i64 0]), (6, .arr 56 Kd.ptr x.tabs x.sp), (4, .mp .i64 Kd.bool []), (3, .mp .i64 Kd.int []), (2, .pool x.pool)], 7, 28, TQ⟩
structure NwOk (q : PNw) (x : NwS) : Prop where
  le : x.i ≤ q.c
  len : x.tabs.length = x.i
  ex : ∃ (b : Nat → Nat) (L : Nat → TL), (∀ i, i < x.tabs.length → x.tabs.getD i none = some (b i, 0) ∧ TabAt x.pool (b i) (L i) ∧ (L i).tm = TM.new q.s) ∧
    (∀ i j, i < x.tabs.length → j < x.tabs.length → i ≠ j → ∀ n, (L i).lab n ≠ .no → (L j).lab n = .no)
def NL1 : LoopS V := trimLoop (trimSt [1, 5, 12, 13] [2, 3, 4, 5]) (loopH 6 (fun q : PNw => NI1 q ⟨0, [], 0, Pool.nil⟩) (fun q (y : NwS) => NwOk q y ∧ y.i = q.c) (fun q y => NI1 q y))
noncomputable def cfgN1 : Cfg Try.prog V := ⟨tab, kinds, fun _ => none, hooksN, fun f id => match f, id with | 10, 0 => some NL1 | _, _ => none⟩
theorem tbnw (q : PNw) (x : NwS) : runCode cfgN 60 10 (loopOf Try.f10 0) (NI1 q x) (stopT (trimSt [1, 5, 12, 13] [2, 3, 4, 5, 6, 7, 8, 9, 10, 11, 12, 13, 14])) = Out.ite (decide ((↑x.1 : Int) < (↑q.2 : Int))) (Out.all (Pool × Nat × TL) fun y => Out.asm (TabAt y.fst y.snd.1 y.snd.snd ∧ y.snd.snd.fits ∧ y.snd.snd.tm = TM.new q.s ∧ ∀ (n : Nat), x.pool n ≠ none → y.fst n = x.pool n ∧ y.snd.snd.lab n = Lab.no) (Out.need ((0 : Nat) = (0 : Nat) ∧ x.tabs.length = x.tabs.length ∧ x.tabs.length + x.3 = x.tabs.length + x.3 ∧ (x.tabs.length + (1 : Nat)) * (8 : Nat) ≤ (140737488355328 : Nat)) (Out.all Nat fun y_1 => Out.stop EX.nx {env := [((1 : Nat), .int .i64 q.s), ((5 : Nat), .ptr (5 : Nat) (0 : Nat)), ((12 : Nat), .int .i64 (↑q.2 : Int)), ((13 : Nat), .int .i64 (IntKind.i64.wrap ((↑x.1 : Int) + (1 : Int))))], heap := [((8 : Nat), .arr (56 : Nat) Kd.ptr (x.tabs ++ [some (y.snd.1, (0 : Nat))]) y_1), ((7 : Nat), .cells (56 : Nat) [AV.rp (some (y.snd.1, (0 : Nat)))]), ((5 : Nat), .cells (54 : Nat) [.int .i64 q.s, .sl false (8 : Nat) (0 : Nat) (1 : Nat) (x.tabs.length + (1 : Nat)) (x.tabs.length + (1 : Nat) + y_1), .lit .i64 (0 : Int), .mp (3 : Nat), .mp (4 : Nat), .lit .i64 (0 : Int)]), ((4 : Nat), .mp .i64 Kd.bool []), ((3 : Nat), .mp .i64 Kd.int []), ((2 : Nat), Blk.pool y.fst)], nx := (10 : Nat), nt := (28 : Nat), tl := [(5 : Nat), (6 : Nat), (2 : Nat), (0 : Nat), (1 : Nat), (2 : Nat), (3 : Nat), (4 : Nat), (5 : Nat), (6 : Nat), (7 : Nat), (8 : Nat), (9 : Nat), (10 : Nat), (11 : Nat), (12 : Nat), (13 : Nat), (14 : Nat), (15 : Nat), (16 : Nat)] : St V }))) (Out.stop (EX.ex (0 : Nat)) {env := [((1 : Nat), .int .i64 q.s), ((5 : Nat), .ptr (5 : Nat) (0 : Nat)), ((12 : Nat), .int .i64 (↑q.2 : Int)), ((13 : Nat), .int .i64 (↑x.1 : Int))], heap := [((5 : Nat), .cells (54 : Nat) [.int .i64 q.s, .sl false (6 : Nat) (0 : Nat) (1 : Nat) x.tabs.length (x.tabs.length + x.3), .lit .i64 (0 : Int), .mp (3 : Nat), .mp (4 : Nat), .lit .i64 (0 : Int)]), ((6 : Nat), .arr (56 : Nat) Kd.ptr x.tabs x.3), ((4 : Nat), .mp .i64 Kd.bool []), ((3 : Nat), .mp .i64 Kd.int []), ((2 : Nat), Blk.pool x.pool)], nx := (7 : Nat), nt := (28 : Nat), tl := [(0 : Nat), (1 : Nat), (2 : Nat), (3 : Nat), (4 : Nat), (5 : Nat), (6 : Nat), (7 : Nat), (8 : Nat), (9 : Nat), (10 : Nat), (11 : Nat), (12 : Nat), (13 : Nat), (14 : Nat), (15 : Nat), (16 : Nat)] : St V }) := by kernel_rfl

theorem tmnew (n s : Int) : runF cfgN1 60 10 Try.f10 [.int .i64 n, .int .i64 s] [(2, .pool Pool.nil)] 3 = Out.need (((1 : Int) ≤ (1 : Int) ∧ (1 : Int) ≤ (64 : Int) ∧ (64 : Int) ≤ (1099511627776 : Int)) ∧ powI (1 : Int) ∧ powI (64 : Int)) (Out.need (LoopFor Try.prog (10 : Nat) (0 : Nat) (loopOf Try.f10 (0 : Nat)) NL1) (Out.ex (PNw → Prop) fun y => Out.need ((6 : Nat) ≤ (6 : Nat) ∧ SImp (6 : Nat) {env := [((1 : Nat), .int .i64 s), ((5 : Nat), .ptr (5 : Nat) (0 : Nat)), ((12 : Nat), .int .i64 (ceilR (64 : Nat) (1 : Int) n (64 : Int))), ((13 : Nat), .lit .i64 (0 : Int))], heap := [((5 : Nat), .cells (54 : Nat) [.int .i64 s, .nilS, .lit .i64 (0 : Int), .mp (3 : Nat), .mp (4 : Nat), .lit .i64 (0 : Int)]), ((4 : Nat), .mp .i64 Kd.bool []), ((3 : Nat), .mp .i64 Kd.int []), ((2 : Nat), Blk.pool Pool.nil)], nx := (6 : Nat), nt := (28 : Nat), tl := [] : St V } (fun q => NI1 q {i := (0 : Nat), tabs := [], sp := (0 : Nat), pool := Pool.nil : NwS }) y) (Out.all PNw fun y_1 => Out.asm (y y_1) (Out.all NwS fun y => Out.asm ((fun q y => NwOk q y ∧ y.1 = q.2) y_1 y) (Out.fin (.ptr (5 : Nat) (0 : Nat)) [((5 : Nat), .cells (54 : Nat) [.int .i64 y_1.s, .sl false (6 : Nat) (0 : Nat) (1 : Nat) y.tabs.length (y.tabs.length + y.3), .lit .i64 (0 : Int), .mp (3 : Nat), .mp (4 : Nat), .lit .i64 (0 : Int)]), ((6 : Nat), .arr (56 : Nat) Kd.ptr y.tabs y.3), ((4 : Nat), .mp .i64 Kd.bool []), ((3 : Nat), .mp .i64 Kd.int []), ((2 : Nat), Blk.pool y.pool)] (7 : Nat)))))) := by kernel_rfl

end Sx
end Go.Proofs.Ytohckjjbephohaa

/-
  A new map of shards: what the function does.
-/
namespace Go.Proofs.Ytohckjjbephohaa
namespace Sx
open Go
set_option linter.unusedSimpArgs false
set_option linter.unusedVariables false

theorem hooksN_ok : ∀ g H, hooksN g = some H → HookOk Try.prog g H := by
  intro g H h
  unfold hooksN at h
  split at h
  · cases h; exact hCeil
  · cases h; exact hNew
  · cases h
theorem cfgN_ok : cfgN.ok := ⟨tab_met, kinds_met, mixed_met, fun g fn h => (by cases h), hooksN_ok⟩
theorem cfgN1_ok : cfgN1.ok := ⟨tab_met, kinds_met, mixed_met, fun g fn h => (by cases h), hooksN_ok⟩

theorem getD_app {α : Type} {l : List α} {x d : α} {i : Nat} : (l ++ [x]).getD i d = if i = l.length then x else l.getD i d := by
  simp only [List.getD_eq_getElem?_getD]
  by_cases h : i < l.length
  · rw [List.getElem?_append_left h, if_neg (by omega)]
  · by_cases e : i = l.length
    · subst e; simp
    · rw [if_neg e, List.getElem?_eq_none (by simp; omega), List.getElem?_eq_none (by omega)]

theorem NwOk.step {q : PNw} {x : NwS} (h : NwOk q x) (hlt : x.i < q.c) {p' : Pool} {b' : Nat} {L' : TL} (t1 : TabAt p' b' L') (t2 : L'.tm = TM.new q.s) (t3 : ∀ n, x.pool n ≠ none → p' n = x.pool n ∧ L'.lab n = .no) (sp : Nat) :
    NwOk q ⟨x.i + 1, x.tabs ++ [some (b', 0)], sp, p'⟩ := by
  obtain ⟨b, L, h1, h2⟩ := h.ex
  refine ⟨hlt, by simp [h.len], fun i => if i = x.tabs.length then b' else b i, fun i => if i = x.tabs.length then L' else L i, fun i hi => ?_, fun i j hi hj hij n hn => ?_⟩
  · have hi' : i < x.tabs.length + 1 := by simpa using hi
    dsimp only
    rw [getD_app]
    by_cases e : i = x.tabs.length
    · rw [if_pos e, if_pos e, if_pos e]; exact ⟨rfl, t1, t2⟩
    · rw [if_neg e, if_neg e, if_neg e]
      obtain ⟨g1, g2, g3⟩ := h1 i (by omega)
      exact ⟨g1, g2.other fun n hn => (t3 n (g2.2.2.2.2.2 n hn)).1, g3⟩
  · have hi' : i < x.tabs.length + 1 := by simpa using hi
    have hj' : j < x.tabs.length + 1 := by simpa using hj
    dsimp only at hn ⊢
    by_cases ei : i = x.tabs.length
    · rw [if_pos ei] at hn
      rw [if_neg (by omega)]
      by_cases hh : (L j).lab n = .no
      · exact hh
      · exact absurd (t3 n ((h1 j (by omega)).2.1.2.2.2.2.2 n hh)).2 hn
    · rw [if_neg ei] at hn
      by_cases ej : j = x.tabs.length
      · rw [if_pos ej]; exact (t3 n ((h1 i (by omega)).2.1.2.2.2.2.2 n hn)).2
      · rw [if_neg ej]; exact h2 i j (by omega) (by omega) hij n hn

theorem nwbody (q : PNw) (x : NwS) (h : NwOk q x) (Q : EX → St V → Prop) (F : AV → Heap V → Nat → Prop)
    (hnx : ∀ (ST : St V) (y : NwS), x.i < q.c → NwOk q y → y.i = x.i + 1 → Wk 6 [(6, 8)] ST (NI1 q y) → Q .nx ST) (hex : ∀ ST : St V, x.i = q.c → Wk 6 [(6, 6)] ST (NI1 q x) → Q (.ex 0) ST) :
    (runCode cfgN 60 10 (loopOf Try.f10 0) (NI1 q x) (stopT (trimSt [1, 5, 12, 13] [2, 3, 4, 5, 6, 7, 8, 9, 10, 11, 12, 13, 14]))).holds ⟨Q, F⟩ := by
  rw [tbnw]
  have hle := h.le
  have hln := h.len
  have hc := q.hc
  simp only [Out.holds, decide_eq_true_eq, decide_eq_false_iff_not, beq_iff_eq, beq_eq_false_iff_ne, bne_iff_ne, ne_eq, bne_eq_false_iff_eq, Bool.true_and, Bool.and_true, Bool.not_eq_true', Bool.not_eq_false', Bool.and_eq_true, Bool.or_eq_true, Bool.and_eq_false_imp, true_implies, true_and, Bool.not_true, Bool.not_false, Bool.false_eq_true, Bool.true_eq_false, false_implies, and_true, beq_self_eq_true, Decidable.not_not, not_true_eq_false, not_false_eq_true]
  refine ⟨fun hlt y hy => ⟨by omega, fun sp => ?_⟩, fun hge => hex _ (by omega) (by (refine ⟨?_, ?_, rfl, tl_ok rfl, ?_, ⟨Nat.le_of_ble_eq_true rfl, rfl⟩⟩ <;> (repeat' first | with_reducible exact trivial | exact AV.sub_same _ | exact .same _ | exact .inr rfl | exact .inl (in_ok rfl) | exact AV.sub_lit' | exact AV.sub_nilS | exact .none _ _ | exact trivial | refine ⟨?_, ?_⟩)))⟩
  have hw : IntKind.wrap .i64 ((x.i : Int) + 1) = ((x.i + 1 : Nat) : Int) := wrap_nat (by omega)
  have hl1 : x.tabs.length + 1 = (x.tabs ++ [some (y.2.1, 0)]).length := by simp
  refine hnx _ ⟨x.i + 1, x.tabs ++ [some (y.2.1, 0)], sp, y.1⟩ (by omega) (h.step (by omega) hy.1 hy.2.2.1 hy.2.2.2 sp) rfl ?_
  (refine ⟨?_, ?_, rfl, tl_ok rfl, ?_, ⟨Nat.le_of_ble_eq_true rfl, rfl⟩⟩ <;> (repeat' first | with_reducible exact trivial | (exact AV.sub_int hw) | (exact BSub.cells _ _ _ (AV.subL_cons (AV.sub_same _) (AV.subL_cons (AV.sub_sl hl1 (by rw [hl1])) (AV.subL_cons (AV.sub_same _) (AV.subL_cons (AV.sub_same _) (AV.subL_cons (AV.sub_same _) (AV.subL_cons (AV.sub_same _) AV.subL_nil))))))) | exact AV.sub_same _ | exact .same _ | exact .inr rfl | exact .inl (in_ok rfl) | exact AV.sub_lit' | exact AV.sub_nilS | exact .none _ _ | exact trivial | refine ⟨?_, ?_⟩))
theorem nl1_ok : LoopOk Try.prog 0 (loopOf Try.f10 0) NL1 := by
  refine trimLoop_ok (trim_ok _ _) (loopTH_ok (C := cfgN) cfgN_ok (f := 10) (n := 60) (trim_ok [1, 5, 12, 13] [2, 3, 4, 5, 6, 7, 8, 9, 10, 11, 12, 13, 14]) 6 NI1 NwOk (fun _ => ⟨0, [], 0, Pool.nil⟩) (fun q x => q.c - x.i) (fun q (y : NwS) => NwOk q y ∧ y.i = q.c) (fun q y => NI1 q y) (fun q => ⟨Nat.zero_le _, rfl, fun _ => 0, fun _ => TL.new 0 0 0, fun i hi => by simp at hi, fun i j hi => by simp at hi⟩) ?_)
  intro q x h
  refine nwbody q x h _ _ (fun ST y hlt hy he hw => SImp.of_wk y hw ⟨hy, ?_⟩) (fun ST he hw => ⟨rfl, SImp.of_wk (ren := [(6, 6)]) x hw ⟨h, he⟩⟩)
  show q.c - y.i < q.c - x.i; omega

def cntN (n : Int) : Nat := (ceilR 64 1 n 64).toNat
theorem ceil64 (n : Int) : ceilR 64 1 n 64 = 1 ∨ ceilR 64 1 n 64 = 2 ∨ ceilR 64 1 n 64 = 4 ∨ ceilR 64 1 n 64 = 8 ∨ ceilR 64 1 n 64 = 16 ∨ ceilR 64 1 n 64 = 32 ∨ ceilR 64 1 n 64 = 64 := by
  have h64 : ∀ i, ceilR i 64 n 64 = 64 := fun i => ceilR_stop (by omega)
  have s : ∀ (i : Nat) (a : Int), ceilR (i + 1) a n 64 = if a < n ∧ a < 64 then ceilR i (2 * a) n 64 else a := fun i a => rfl
  rw [s]; split
  · rw [s]; split
    · rw [s]; split
      · rw [s]; split
        · rw [s]; split
          · rw [s]; split
            · rw [h64 57 |> fun h => (show ceilR 58 (2 * (2 * (2 * (2 * (2 * (2 * 1)))))) n 64 = 64 from h64 58)]; simp
            · simp
          · simp
        · simp
      · simp
    · simp
  · simp
/-- A new map. -/
def newS (s : Int) (tabs : List Adr) (p : Pool) : MO := ⟨s, tabs, 0, [], [], 0, p⟩
def runMNew : RunFree V := fun ar K => match ar with
  | [.int .i64 n, .int .i64 s] => .all MO fun s' => .asm (s' = newS s s'.tabs s'.pool ∧ MapOk s' (fun _ => none) ∧ s'.tabs.length = cntN n) (K (.ptr 0 0) [.obj (oM s')])
  | _ => .bad 500
theorem endMNew {n' : Nat} {h' : Heap V} {s : MO} {sp : Nat}
    (h0 : h'.get 5 = some (.cells 54 [.int .i64 s.seed, .sl false 6 0 1 s.tabs.length (s.tabs.length + sp), .lit .i64 s.given, .mp 3, .mp 4, .lit .i64 s.weight]))
    (h1 : h'.get 6 = some (.arr 56 Kd.ptr s.tabs sp)) (h2 : h'.get 3 = some (.mp .i64 Kd.int s.keys)) (h3 : h'.get 4 = some (.mp .i64 Kd.bool s.gone)) (h4 : h'.get 2 = some (.pool s.pool)) :
    EndFree n' (.ptr 5 0) h' (.ptr 0 0) [.obj (oM s)] := by
  refine ⟨_, pack (ren := [(0, 5), (1, 6), (2, 3), (3, 4), (4, 2)]) laid_V (x := oM s) (n := 5) (m := 5) (h := h') ⟨mBlk s sp, rfl, rfl, sp, rfl⟩ rfl rfl ⟨?_, ?_, ?_, ?_, ?_, trivial⟩ rfl, ⟨⟨fun _ => 5, ⟨?_, trivial⟩, AV.sub_same _⟩, rfl, rfl⟩⟩
  · show BSub (h'.get 5) _
    rw [h0]
    exact BSub.cells _ _ _ (AV.subL_cons (AV.sub_same _) (AV.subL_cons (AV.sub_same _) (AV.subL_cons AV.sub_lit' (AV.subL_cons (AV.sub_same _) (AV.subL_cons (AV.sub_same _) (AV.subL_cons AV.sub_lit' AV.subL_nil))))))
  · show BSub ((h'.del 5).get 6) _
    rw [Heap.get_del_ne (by decide), h1]; exact .same _
  · show BSub (((h'.del 5).del 6).get 3) _
    rw [Heap.get_del_ne (by decide), Heap.get_del_ne (by decide), h2]; exact .same _
  · show BSub ((((h'.del 5).del 6).del 3).get 4) _
    rw [Heap.get_del_ne (by decide), Heap.get_del_ne (by decide), Heap.get_del_ne (by decide), h3]; exact .same _
  · show BSub (((((h'.del 5).del 6).del 3).del 4).get 2) _
    rw [Heap.get_del_ne (by decide), Heap.get_del_ne (by decide), Heap.get_del_ne (by decide), Heap.get_del_ne (by decide), h4]; exact .same _
  · exact BSub.of_eq rfl
theorem hMNew : HookOk Try.prog 10 (hookFree [.int .i64, .int .i64] runMNew) := by
  refine free_pool_hook (C := cfgN1) cfgN1_ok (n := 60) (fn := Try.f10) ⟨by kernel_rfl, by kernel_rfl⟩ (by kernel_rfl) ?_
  intro M ar K0 H
  unfold runMNew at H
  split at H
  · rename_i n s
    refine ⟨show 2 ≤ _ by decide +kernel, ?_⟩
    show (runF cfgN1 60 10 Try.f10 [.int .i64 n, .int .i64 s] [(2, .pool Pool.nil)] 3).holds _
    rw [tmnew]
    have h64 := ceil64 n
    have hcn : ((cntN n : Nat) : Int) = ceilR 64 1 n 64 := by unfold cntN; omega
    have hc : cntN n ≤ 64 := by omega
    have hc1 : 1 ≤ cntN n := by omega
    refine ⟨⟨⟨by decide, by decide, by decide⟩, by unfold powI; decide, by unfold powI; decide⟩, nl1_ok, fun q => q = ⟨s, cntN n, hc⟩, ⟨by decide, SImp.of_wk (ren := [(6, 99)]) ⟨s, cntN n, hc⟩ ?_ rfl⟩, ?_⟩
    · (refine ⟨?_, ?_, rfl, tl_ok rfl, ?_, ⟨Nat.le_of_ble_eq_true rfl, rfl⟩⟩ <;> (repeat' first | with_reducible exact trivial | (exact AV.sub_int hcn.symm) | (exact BSub.cells _ _ _ (AV.subL_cons (AV.sub_same _) (AV.subL_cons AV.sub_nilS (AV.subL_cons (AV.sub_same _) (AV.subL_cons (AV.sub_same _) (AV.subL_cons (AV.sub_same _) (AV.subL_cons (AV.sub_same _) AV.subL_nil))))))) | exact AV.sub_same _ | exact .same _ | exact .inr rfl | exact .inl (in_ok rfl) | exact AV.sub_lit' | exact AV.sub_nilS | exact .none _ _ | exact trivial | refine ⟨?_, ?_⟩))
    · rintro _ rfl y ⟨hy, hi⟩
      dsimp only at hi ⊢
      obtain ⟨b, L, h1, h2⟩ := hy.ex
      have hl := hy.len
      refine ⟨_, _, H (newS s y.tabs y.pool) ⟨rfl, ⟨?_, ?_, ⟨Int.le_refl _, (by show (0 : Int) ≤ 536870912; decide)⟩, b, L, fun i hi => ?_, fun i j hi hj => h2 i j hi hj, fun k => ?_, fun i hi k e he => ?_⟩, by show y.tabs.length = _; rw [hl, hi]⟩, endMNew (s := newS s y.tabs y.pool) (sp := y.sp) rfl rfl rfl rfl rfl⟩
      · show 1 ≤ y.tabs.length; omega
      · show y.tabs.length ≤ 64; omega
      · obtain ⟨g1, g2, g3⟩ := h1 i hi
        refine ⟨g1, g2, by rw [g3]; exact (new_good s).1, ?_⟩
        have : (L i).len = 0 := congrArg TM.len g3
        rw [this]; exact Int.le_refl _
      · have hk : shN (newS s y.tabs y.pool) k < y.tabs.length := by
          have := idx_range (h := mixF s k) (row := 2) (size := (y.tabs.length : Int)) (by omega) (by omega)
          show (idxF (mixF s k) 2 (y.tabs.length : Int)).toNat < _; omega
        rw [(h1 _ hk).2.2, (new_good s).2]
      · rw [(h1 i hi).2.2, (new_good s).2] at he; cases he
  · exact H.elim

end Sx
end Go.Proofs.Ytohckjjbephohaa

/-
  A small case: the run of the machine.
-/
namespace Go.Proofs.Ytohckjjbephohaa
namespace Sx
open Go
set_option maxRecDepth 100000
set_option linter.unusedVariables false

noncomputable def hooksL : Nat → Option (HookS V) := fun g => match g with
  | 10 => some (hookFree [.int .i64, .int .i64] runMNew)
  | 11 => some (hookObj 5 [.int .i64] (onM runMShard))
  | 12 => some (hookObj 5 [.int .i64, .int .i64, .int .i64] (onM runMPut))
  | 13 => some (hookObj 5 [] (onM runMCount))
  | 14 => some (hookObj 5 [.int .i64] (onM runMGet))
  | 15 => some (hookObj 5 [.int .i64] (onM runMRem))
  | 16 => some (hookObj 5 [.int .i64] (onM runMState))
  | 17 => some (hookObj 5 [.int .i64] (onM runMEvict))
  | 18 => some (hookObj 5 [.int .i64] (onM runMBury))
  | 20 => some (hookObj 5 [] (onM runMLen))
  | 21 => some (hookObj 5 [] (onM runMWeight))
  | _ => none
noncomputable def cfgL : Cfg Try.prog V := ⟨tab, kinds, fun _ => none, hooksL, fun _ _ => none⟩
theorem tsmall  : runL cfgL 60 9 Try.f9 [] [] 0 = Out.all MO fun y => Out.asm (y = newS (1 : Int) y.tabs y.pool ∧ (MapOk y fun x => none) ∧ y.tabs.length = (4 : Nat)) (Out.ex (Int → Option Ent) fun y_1 => Out.need (MapOk y y_1 ∧ y.given < (536870912 : Int)) (Out.all MO fun y_2 => Out.asm (y_2 = putS y (y_1 (7 : Int)) (7 : Int) (2 : Int) y_2.pool ∧ MapOk y_2 (updF y_1 (7 : Int) (some (putE y (y_1 (7 : Int)) (7 : Int) (70 : Int) (2 : Int))))) (Out.ex (Int → Option Ent) fun y_3 => Out.need (MapOk y_2 y_3 ∧ y_2.given < (536870912 : Int)) (Out.all MO fun y_4 => Out.asm (y_4 = putS y_2 (y_3 (7 : Int)) (7 : Int) (3 : Int) y_4.pool ∧ MapOk y_4 (updF y_3 (7 : Int) (some (putE y_2 (y_3 (7 : Int)) (7 : Int) (71 : Int) (3 : Int))))) (Out.ex (Int → Option Ent) fun y_5 => Out.need (MapOk y_4 y_5) (Out.all MO fun y_6 => Out.asm (y_6 = remS y_4 (y_5 (7 : Int)) false y_6.pool ∧ MapOk y_6 (updF y_5 (7 : Int) none)) (Out.ex (Int → Option Ent) fun y_7 => Out.need (MapOk y_6 y_7 ∧ y_6.given < (536870912 : Int)) (Out.all MO fun y_8 => Out.asm (y_8 = putS y_6 (y_7 (7 : Int)) (7 : Int) (4 : Int) y_8.pool ∧ MapOk y_8 (updF y_7 (7 : Int) (some (putE y_6 (y_7 (7 : Int)) (7 : Int) (72 : Int) (4 : Int))))) (Out.all MO fun y_9 => Out.asm (y_9 = buryS y_8 (1 : Int)) (Out.ite (mget y_9.keys (2 : Int)).isSome (Out.ex (Int → Option Ent) fun y_10 => Out.need (MapOk y_9 y_10) (Out.all MO fun y_11 => Out.asm (y_11 = remS y_9 (y_10 ((mget y_9.keys (2 : Int)).getD (0 : Int))) true y_11.pool ∧ MapOk y_11 (updF y_10 ((mget y_9.keys (2 : Int)).getD (0 : Int)) none)) (Out.ite (((y_1 (7 : Int)).getD (putE y (y_1 (7 : Int)) (7 : Int) (70 : Int) (2 : Int))).node == (1 : Int)) (Out.ite (!(y_1 (7 : Int)).isSome) (Out.ite (((y_3 (7 : Int)).getD (putE y_2 (y_3 (7 : Int)) (7 : Int) (71 : Int) (3 : Int))).value == (70 : Int)) (Out.ite (y_3 (7 : Int)).isSome (Out.ite (((y_5 (7 : Int)).getD e0).value == (71 : Int)) (Out.ite (((y_5 (7 : Int)).getD e0).node == (1 : Int)) (Out.ite (y_5 (7 : Int)).isSome (Out.ite (((y_7 (7 : Int)).getD (putE y_6 (y_7 (7 : Int)) (7 : Int) (72 : Int) (4 : Int))).node == (2 : Int)) (Out.ite (!(y_7 (7 : Int)).isSome) (Out.ite ((if stateOf y_8 (1 : Int) = (2 : Int) then (0 : Int) else if stateOf y_8 (1 : Int) = (3 : Int) then (8 : Int) else (3 : Int)) == (0 : Int)) (Out.ite (((y_10 ((mget y_9.keys (2 : Int)).getD (0 : Int))).getD e0).weight == (4 : Int)) (Out.ite (y_10 ((mget y_9.keys (2 : Int)).getD (0 : Int))).isSome (Out.ite (stateOf y_11 (1 : Int) == (3 : Int)) (Out.ite (stateOf y_11 (2 : Int) == (3 : Int)) (Out.ite (stateOf y_11 (3 : Int) == (0 : Int)) (Out.ite ((↑y_11.keys.length : Int) == (0 : Int)) (Out.ite (y_11.weight == (0 : Int)) (Out.fin (.bool ((↑y_11.tabs.length : Int) == (4 : Int))) [] (0 : Nat)) (Out.fin .ff [] (0 : Nat))) (Out.fin .ff [] (0 : Nat))) (Out.fin .ff [] (0 : Nat))) (Out.fin .ff [] (0 : Nat))) (Out.fin .ff [] (0 : Nat))) (Out.fin .ff [] (0 : Nat))) (Out.fin .ff [] (0 : Nat))) (Out.fin .ff [] (0 : Nat))) (Out.fin .ff [] (0 : Nat))) (Out.fin .ff [] (0 : Nat))) (Out.fin .ff [] (0 : Nat))) (Out.fin .ff [] (0 : Nat))) (Out.fin .ff [] (0 : Nat))) (Out.fin .ff [] (0 : Nat))) (Out.fin .ff [] (0 : Nat))) (Out.fin .ff [] (0 : Nat))) (Out.fin .ff [] (0 : Nat))))) (Out.ite (((y_1 (7 : Int)).getD (putE y (y_1 (7 : Int)) (7 : Int) (70 : Int) (2 : Int))).node == (1 : Int)) (Out.ite (!(y_1 (7 : Int)).isSome) (Out.ite (((y_3 (7 : Int)).getD (putE y_2 (y_3 (7 : Int)) (7 : Int) (71 : Int) (3 : Int))).value == (70 : Int)) (Out.ite (y_3 (7 : Int)).isSome (Out.ite (((y_5 (7 : Int)).getD e0).value == (71 : Int)) (Out.ite (((y_5 (7 : Int)).getD e0).node == (1 : Int)) (Out.ite (y_5 (7 : Int)).isSome (Out.ite (((y_7 (7 : Int)).getD (putE y_6 (y_7 (7 : Int)) (7 : Int) (72 : Int) (4 : Int))).node == (2 : Int)) (Out.ite (!(y_7 (7 : Int)).isSome) (Out.ite ((if stateOf y_8 (1 : Int) = (2 : Int) then (0 : Int) else if stateOf y_8 (1 : Int) = (3 : Int) then (8 : Int) else (3 : Int)) == (0 : Int)) (Out.ite ((0 : Int) == (4 : Int)) (Out.fin .ff [] (0 : Nat)) (Out.fin .ff [] (0 : Nat))) (Out.fin .ff [] (0 : Nat))) (Out.fin .ff [] (0 : Nat))) (Out.fin .ff [] (0 : Nat))) (Out.fin .ff [] (0 : Nat))) (Out.fin .ff [] (0 : Nat))) (Out.fin .ff [] (0 : Nat))) (Out.fin .ff [] (0 : Nat))) (Out.fin .ff [] (0 : Nat))) (Out.fin .ff [] (0 : Nat))) (Out.fin .ff [] (0 : Nat))))))))))))) := by kernel_rfl

end Sx
end Go.Proofs.Ytohckjjbephohaa

/-
  A small case comes out right.
-/
namespace Go.Proofs.Ytohckjjbephohaa
namespace Sx
open Go
set_option linter.unusedSimpArgs false
set_option linter.unusedVariables false

theorem hooksL_ok : ∀ g H, hooksL g = some H → HookOk Try.prog g H := by
  intro g H h
  unfold hooksL at h
  split at h
  · cases h; exact hMNew
  · cases h; exact hMShard
  · cases h; exact hMPut
  · cases h; exact hMCount
  · cases h; exact hMGet
  · cases h; exact hMRem
  · cases h; exact hMState
  · cases h; exact hMEvict
  · cases h; exact hMBury
  · cases h; exact hMLen
  · cases h; exact hMWeight
  · cases h
theorem cfgL_ok : cfgL.ok := ⟨tab_met, kinds_met, mixed_met, fun g fn h => (by cases h), hooksL_ok⟩

theorem upd_self (f : Int → Option Ent) (k : Int) (g : Option Ent) : updF f k g k = g := if_pos rfl
def runSmall : RunFree V := fun ar K => match ar with
  | [] => K .tt []
  | _ => .bad 500
theorem small_holds : (runL cfgL 60 9 Try.f9 [] [] 0).holds ⟨fun _ _ => False, fun v _ _ => v.sub .tt⟩ := by
  rw [tsmall]
  rintro s0 ⟨e0', m0, n0⟩
  have k0 : s0.keys = [] := by rw [e0']; rfl
  have o0 : s0.gone = [] := by rw [e0']; rfl
  have g0 : s0.given = 0 := by rw [e0']; rfl
  have w0 : s0.weight = 0 := by rw [e0']; rfl
  refine ⟨fun _ => none, ⟨m0, by rw [g0]; decide⟩, ?_⟩
  rintro s1 ⟨e1, m1⟩
  have pe1 : putE s0 none 7 70 2 = ⟨7, 70, 2, 1⟩ := by unfold putE; rw [g0]; rfl
  rw [pe1] at m1
  have k1 : s1.keys = [(1, 7)] := by rw [e1]; unfold putS; dsimp only; rw [k0, g0]; rfl
  have o1 : s1.gone = [] := by rw [e1]; exact o0
  have g1 : s1.given = 1 := by rw [e1]; unfold putS; dsimp only; rw [g0]; rfl
  have w1 : s1.weight = 2 := by rw [e1]; unfold putS; dsimp only; rw [w0]; rfl
  have t1 : s1.tabs = s0.tabs := by rw [e1]; rfl
  refine ⟨_, ⟨m1, by rw [g1]; decide⟩, ?_⟩
  rw [upd_self]
  rintro s2 ⟨e2, m2⟩
  have pe2 : putE s1 (some ⟨7, 70, 2, 1⟩) 7 71 3 = ⟨7, 71, 3, 1⟩ := rfl
  rw [pe2] at m2
  have k2 : s2.keys = [(1, 7)] := by rw [e2]; exact k1
  have o2 : s2.gone = [] := by rw [e2]; exact o1
  have g2 : s2.given = 1 := by rw [e2]; exact g1
  have w2 : s2.weight = 3 := by rw [e2]; unfold putS; dsimp only; rw [w1]; rfl
  have t2 : s2.tabs = s0.tabs := by rw [e2]; exact t1
  refine ⟨_, m2, ?_⟩
  rw [upd_self]
  rintro s3 ⟨e3, m3⟩
  have k3 : s3.keys = [] := by rw [e3]; unfold remS; dsimp only; rw [k2]; rfl
  have o3 : s3.gone = [(1, false)] := by rw [e3]; unfold remS; dsimp only; rw [o2]; rfl
  have g3 : s3.given = 1 := by rw [e3]; exact g2
  have w3 : s3.weight = 0 := by rw [e3]; unfold remS; dsimp only; rw [w2]; rfl
  have t3 : s3.tabs = s0.tabs := by rw [e3]; exact t2
  refine ⟨_, ⟨m3, by rw [g3]; decide⟩, ?_⟩
  rw [upd_self]
  rintro s4 ⟨e4, m4⟩
  have pe4 : putE s3 none 7 72 4 = ⟨7, 72, 4, 2⟩ := by unfold putE; rw [g3]; rfl
  rw [pe4] at m4
  have k4 : s4.keys = [(2, 7)] := by rw [e4]; unfold putS; dsimp only; rw [k3, g3]; rfl
  have o4 : s4.gone = [(1, false)] := by rw [e4]; exact o3
  have g4 : s4.given = 2 := by rw [e4]; unfold putS; dsimp only; rw [g3]; rfl
  have w4 : s4.weight = 4 := by rw [e4]; unfold putS; dsimp only; rw [w3]; rfl
  have t4 : s4.tabs = s0.tabs := by rw [e4]; exact t3
  have st4 : stateOf s4 1 = 2 := by unfold stateOf; rw [g4, o4]; rfl
  rintro s5 e5
  have e5' : s5 = { s4 with gone := mput s4.gone 1 true } := by rw [e5]; unfold buryS; rw [if_pos st4]
  have m5 := m4.same s5 (by rw [e5']) (by rw [e5']) (by rw [e5']) (by rw [e5'])
  have k5 : s5.keys = [(2, 7)] := by rw [e5']; exact k4
  have o5 : s5.gone = [(1, true)] := by rw [e5']; dsimp only; rw [o4]; rfl
  have g5 : s5.given = 2 := by rw [e5']; exact g4
  have w5 : s5.weight = 4 := by rw [e5']; exact w4
  have t5 : s5.tabs = s0.tabs := by rw [e5']; exact t4
  have mk : mget s5.keys 2 = some 7 := by rw [k5]; rfl
  rw [mk]
  refine ⟨fun _ => ?_, fun h => by simp at h⟩
  refine ⟨_, m5, ?_⟩
  simp only [Option.getD_some]
  rw [upd_self]
  rintro s6 ⟨e6, m6⟩
  have k6 : s6.keys = [] := by rw [e6]; unfold remS; dsimp only; rw [k5]; rfl
  have o6 : s6.gone = [(2, true), (1, true)] ∨ s6.gone = [(1, true), (2, true)] := by rw [e6]; unfold remS; dsimp only; rw [o5]; first | exact .inl rfl | exact .inr rfl
  have g6 : s6.given = 2 := by rw [e6]; exact g5
  have w6 : s6.weight = 0 := by rw [e6]; unfold remS; dsimp only; rw [w5]; rfl
  have t6 : s6.tabs = s0.tabs := by rw [e6]; exact t5
  have st1 : stateOf s6 1 = 3 := by unfold stateOf; rw [g6]; rcases o6 with o | o <;> rw [o] <;> rfl
  have st2 : stateOf s6 2 = 3 := by unfold stateOf; rw [g6]; rcases o6 with o | o <;> rw [o] <;> rfl
  have st3 : stateOf s6 3 = 0 := by unfold stateOf; rw [g6]; rfl
  rw [pe4, st4, st1, st2, st3, k6, w6, t6, n0]
  have q1 : (putE s0 ((fun _ => none : Int → Option Ent) 7) 7 70 2).node = 1 := by show (putE s0 none 7 70 2).node = 1; rw [pe1]
  simp [Out.holds, pe1]
  exact fun r v h => h

theorem hSmall : HookOk Try.prog 9 (hookFree [] runSmall) := by
  refine hookFree_ok ⟨Try.f9, by kernel_rfl, by kernel_rfl, by kernel_rfl⟩ ?_
  intro M ar K0 h
  unfold runSmall at h
  split at h
  · refine ⟨?_, ?_⟩
    · exact ⟨Try.f9, by kernel_rfl, by kernel_rfl, by kernel_rfl⟩
    · intro β r vs w hr hs hf
      refine ((calls_runL cfgL_ok (n := 60) (g := 9) (fn := Try.f9) ⟨by kernel_rfl, by kernel_rfl⟩ (by kernel_rfl) (by decide +kernel) small_holds).2 β r vs w hr hs hf).mono ?_
      rintro e w' ⟨v, h', nx', T, z, r', rfl, h1, h2, h3, h4, h5, h6⟩
      exact ⟨v, h', nx', T, z, r', rfl, ⟨_, _, h, endPlain h1 rfl⟩, h2, h3, h4, h5, h6⟩
  · exact h.elim

end Sx
end Go.Proofs.Ytohckjjbephohaa

/-
  The laws: the runs of the machine.
-/
namespace Go.Proofs.Ytohckjjbephohaa
namespace Sx
open Go
set_option maxRecDepth 100000
set_option linter.unusedVariables false

noncomputable def hooksW : Nat → Option (HookS V) := fun g => match g with | 9 => some (hookFree [] runSmall) | g => hooksL g
noncomputable def cfgW : Cfg Try.prog V := ⟨tab, kinds, fun _ => none, hooksW, fun _ _ => none⟩
structure P3 where
  n : Int
  s : Int
  l : List Int
  c : Nat
  y : MO
  hl : l.length ≤ 150
  hy : y.tabs.length = 1
def LI3 (q : P3) (x : Nat × MO) : St V := ⟨[(2, .sl false 0 0 1 q.l.length q.c), (7, .tt), (8, .ptr 1 0), (9, .ptr 2 0), (10, .int .i64 (x.1 : Int)), (0, .int .i64 q.n)],
  [(2, .obj (oM q.y)), (1, .obj (oM x.2)), (0, .ro Kd.int q.l)], 3, 114, TQ⟩
structure J3 (q : P3) (x : Nat × MO) : Prop where
  le : x.1 ≤ q.l.length
  m : ∃ f, MapOk x.2 f
  giv : x.2.given ≤ x.1
  len : x.2.tabs.length = cntN q.n
structure P3s where
  q : P3
  x0 : MO
  h : J3 q (0, x0)
def LL3 : LoopS V := trimLoop (trimSt [0, 2, 7, 8, 9, 10] [0, 1, 2]) (loopH 3 (fun p : P3s => LI3 p.q (0, p.x0)) (fun p (y : MO) => J3 p.q (p.q.l.length, y)) (fun p y => LI3 p.q (p.q.l.length, y)))
noncomputable def cfgW3 : Cfg Try.prog V := ⟨tab, kinds, fun _ => none, hooksW, fun f id => match f, id with | 3, 0 => some LL3 | _, _ => none⟩
structure P4 where
  l : List Int
  c : Nat
  hl : l.length ≤ 150
def LI4 (q : P4) (x : Nat × MO) : St V := ⟨[(2, .sl false 0 0 1 q.l.length q.c), (7, .tt), (8, .ptr 1 0), (9, .int .i64 (x.2.given + 1)), (10, .int .i64 (x.1 : Int))],
  [(1, .obj (oM x.2)), (0, .ro Kd.int q.l)], 2, 149, TQ⟩
structure J4 (q : P4) (x : Nat × MO) : Prop where
  le : x.1 ≤ q.l.length
  m : ∃ f, MapOk x.2 f ∧ ∀ k e, f k = some e → e.key = k ∧ 1 ≤ e.node ∧ e.node ≤ x.2.given
  giv : x.2.given ≤ x.1
structure P4s where
  q : P4
  x0 : MO
  h : J4 q (0, x0)
def LL4 : LoopS V := trimLoop (trimSt [2, 7, 8, 9, 10] [0, 1]) (loopH 2 (fun p : P4s => LI4 p.q (0, p.x0)) (fun p (y : MO) => J4 p.q (p.q.l.length, y)) (fun p y => LI4 p.q (p.q.l.length, y)))
noncomputable def cfgW4 : Cfg Try.prog V := ⟨tab, kinds, fun _ => none, hooksW, fun f id => match f, id with | 4, 0 => some LL4 | _, _ => none⟩
theorem t3 (n s : Int) (l : List Int) (c : Nat) : runL cfgW3 60 3 Try.f3 [.int .i64 n, .int .i64 s, .sl false 0 0 1 l.length c] [(0, .ro Kd.int l)] 1 = Out.all MO fun y => Out.asm (y = newS s y.tabs y.pool ∧ (MapOk y fun x => none) ∧ y.tabs.length = cntN n) (Out.all MO fun y_1 => Out.asm (y_1 = newS s y_1.tabs y_1.pool ∧ (MapOk y_1 fun x => none) ∧ y_1.tabs.length = (1 : Nat)) (Out.ite (decide ((↑l.length : Int) > (150 : Int))) (Out.fin .tt [] (0 : Nat)) (Out.need (LoopFor Try.prog (3 : Nat) (0 : Nat) (loopOf Try.f3 (0 : Nat)) LL3) (Out.ex (P3s → Prop) fun y_2 => Out.need ((3 : Nat) ≤ (3 : Nat) ∧ SImp (3 : Nat) {env := [((0 : Nat), .int .i64 n), ((2 : Nat), .sl false (0 : Nat) (0 : Nat) (1 : Nat) l.length c), ((7 : Nat), .tt), ((8 : Nat), .ptr (1 : Nat) (0 : Nat)), ((9 : Nat), .ptr (2 : Nat) (0 : Nat)), ((10 : Nat), .lit .i64 (0 : Int))], heap := [((2 : Nat), .obj (oM y_1)), ((1 : Nat), .obj (oM y)), ((0 : Nat), .ro Kd.int l)], nx := (3 : Nat), nt := (114 : Nat), tl := [] : St V } (fun p => LI3 p.q ((0 : Nat), p.x0)) y_2) (Out.all P3s fun y => Out.asm (y_2 y) (Out.all MO fun y_3 => Out.asm ((fun p y => J3 p.q (p.q.l.length, y)) y y_3) (Out.ite (bitsOp BinOp.and .i64 (↑(y.q.l.length, y_3).snd.tabs.length : Int) (IntKind.i64.wrap ((↑(y.q.l.length, y_3).snd.tabs.length : Int) - (1 : Int))) == (0 : Int)) (Out.ite (decide ((↑(y.q.l.length, y_3).snd.tabs.length : Int) ≤ (64 : Int))) (Out.ite (decide ((↑(y.q.l.length, y_3).snd.tabs.length : Int) ≥ y.q.n)) (Out.fin (.bool ((↑y.q.y.tabs.length : Int) == (1 : Int))) [] (0 : Nat)) (Out.ite ((↑(y.q.l.length, y_3).snd.tabs.length : Int) == (64 : Int)) (Out.fin (.bool ((↑y.q.y.tabs.length : Int) == (1 : Int))) [] (0 : Nat)) (Out.fin .ff [] (0 : Nat)))) (Out.fin .ff [] (0 : Nat))) (Out.fin .ff [] (0 : Nat))))))))) := by kernel_rfl

theorem t4 (n s : Int) (l : List Int) (c : Nat) : runL cfgW4 60 4 Try.f4 [.int .i64 n, .int .i64 s, .sl false 0 0 1 l.length c] [(0, .ro Kd.int l)] 1 = Out.all MO fun y => Out.asm (y = newS s y.tabs y.pool ∧ (MapOk y fun x => none) ∧ y.tabs.length = cntN n) (Out.ite (decide ((↑l.length : Int) > (150 : Int))) (Out.fin .tt [] (0 : Nat)) (Out.need (LoopFor Try.prog (4 : Nat) (0 : Nat) (loopOf Try.f4 (0 : Nat)) LL4) (Out.ex (P4s → Prop) fun y_1 => Out.need ((2 : Nat) ≤ (2 : Nat) ∧ SImp (2 : Nat) {env := [((2 : Nat), .sl false (0 : Nat) (0 : Nat) (1 : Nat) l.length c), ((7 : Nat), .tt), ((8 : Nat), .ptr (1 : Nat) (0 : Nat)), ((9 : Nat), .lit .i64 (1 : Int)), ((10 : Nat), .lit .i64 (0 : Int))], heap := [((1 : Nat), .obj (oM y)), ((0 : Nat), .ro Kd.int l)], nx := (2 : Nat), nt := (149 : Nat), tl := [] : St V } (fun p => LI4 p.q ((0 : Nat), p.x0)) y_1) (Out.all P4s fun y => Out.asm (y_1 y) (Out.all MO fun y_2 => Out.asm ((fun p y => J4 p.q (p.q.l.length, y)) y y_2) (Out.ite (stateOf (y.q.l.length, y_2).snd ((y.q.l.length, y_2).snd.given + (1 : Int)) == (0 : Int)) (Out.fin (.bool (stateOf (y.q.l.length, y_2).snd (0 : Int) == (0 : Int))) [] (0 : Nat)) (Out.fin .ff [] (0 : Nat)))))))) := by kernel_rfl

end Sx
end Go.Proofs.Ytohckjjbephohaa

/-
  A key's shard: one of all, always the same: the law.
-/
namespace Go.Proofs.Ytohckjjbephohaa
namespace Sx
open Go
set_option linter.unusedSimpArgs false
set_option linter.unusedVariables false

end Sx
end Go.Proofs.Ytohckjjbephohaa

/-
  Nodes are given one behind the other: the law.
-/
namespace Go.Proofs.Ytohckjjbephohaa
namespace Sx
open Go
set_option linter.unusedSimpArgs false
set_option linter.unusedVariables false

structure N4 (s : MO) (f : Int → Option Ent) : Prop where
  m : MapOk s f
  n : ∀ k e, f k = some e → e.key = k ∧ 1 ≤ e.node ∧ e.node ≤ s.given
theorem N4.put {s y : MO} {f : Int → Option Ent} (h : N4 s f) (hg : s.given < 536870912) {k v w : Int} (e : y = putS s (f k) k w y.pool) (m : MapOk y (updF f k (some (putE s (f k) k v w)))) :
    N4 y (updF f k (some (putE s (f k) k v w))) ∧ y.given = s.given + (if (f k).isSome then 0 else 1) := by
  have hgv := h.m.giv
  have hw1 : IntKind.wrap .i64 (s.given + 1) = s.given + 1 := wrap_low (by omega) (by omega)
  have hy : y.given = s.given + (if (f k).isSome then 0 else 1) := by
    rw [e]; unfold putS; cases f k <;> simp [hw1]
  refine ⟨⟨m, fun j x hx => ?_⟩, hy⟩
  unfold updF at hx
  by_cases hj : j = k
  · rw [if_pos hj] at hx
    cases hx
    refine ⟨hj.symm, ?_⟩
    rw [hy]
    unfold putE
    cases hf : f k with
    | none => simp [hw1]; omega
    | some o => have := (h.n k o hf).2; simp; omega
  · rw [if_neg hj] at hx
    obtain ⟨a, b, c⟩ := h.n j x hx
    refine ⟨a, b, ?_⟩
    rw [hy]; split <;> omega
theorem mget_put {α : Type} : ∀ (m : List (Int × α)) (k : Int) (a : α), mget (mput m k a) k = some a
  | [], k, a => by simp [mput, mget]
  | (j, b) :: m, k, a => by
    unfold mput
    by_cases h : k = j
    · simp [h, mget]
    · simp only [h, if_false, mget]; exact mget_put m k a
theorem N4.rem {s y : MO} {f : Int → Option Ent} (h : N4 s f) {j : Int} (e : y = remS s (f j) false y.pool) (m : MapOk y (updF f j none)) : N4 y (updF f j none) ∧ y.given = s.given ∧ ∀ g, f j = some g → stateOf y g.node = 2 := by
  have hy : y.given = s.given := by rw [e]; rfl
  refine ⟨⟨m, fun i x hx => ?_⟩, hy, fun g hg => ?_⟩
  · unfold updF at hx
    by_cases hj : i = j
    · rw [if_pos hj] at hx; cases hx
    · rw [if_neg hj] at hx; rw [hy]; exact h.n i x hx
  · obtain ⟨_, b, c⟩ := h.n j g hg
    have hgone : y.gone = mput s.gone g.node false := by rw [e, hg]; rfl
    unfold stateOf
    rw [if_neg (by rw [hy]; omega), hgone, mget_put]

end Sx
end Go.Proofs.Ytohckjjbephohaa

/-
  Rows of entries compared: the runs of the machine.
-/
namespace Go.Proofs.Ytohckjjbephohaa
namespace Sx
open Go
set_option maxRecDepth 100000
set_option linter.unusedVariables false

structure PSm where
  xs : List Ent
  c : Nat
  ys : List Ent
  d : Nat
  hl : xs.length = ys.length
  hb : xs.length ≤ 1099511627776
def ISm (p : PSm) (i : Nat) : St V := ⟨[(0, .sl false 0 0 4 p.xs.length p.c), (1, .sl false 1 0 4 p.ys.length p.d), (5, .int .i64 (i : Int))], [(0, .ro Kd.ent p.xs), (1, .ro Kd.ent p.ys)], 2, 26, [0, 1, 2, 3, 4, 5, 6, 7]⟩
def RSm (p : PSm) : St V := ⟨[(4, .ff)], [(0, .ro Kd.ent p.xs), (1, .ro Kd.ent p.ys)], 2, 26, [0, 1, 2, 3, 4, 5, 6, 7]⟩
def LSm : LoopS V := loopS 2 (fun p : PSm => ISm p 0) (fun p _ => p.xs = p.ys) (fun p (_ : Unit) => ISm p p.xs.length) (fun p _ => p.xs ≠ p.ys) (fun p (_ : Unit) => RSm p)
noncomputable def cfgSm : Cfg Try.prog V := ⟨tab, kinds, fun _ => none, fun _ => none, fun _ _ => none⟩
noncomputable def cfgSm1 : Cfg Try.prog V := ⟨tab, kinds, fun _ => none, fun _ => none, fun f id => match f, id with | 22, 0 => some LSm | _, _ => none⟩
theorem bsame (p : PSm) (i : Nat) : runCode cfgSm 40 22 (loopOf Try.f22 0) (ISm p i) Out.stop = Out.ite (decide ((↑i : Int) < (↑p.xs.length : Int))) (Out.need (0 ≤ (↑i : Int) ∧ (↑i : Int) < (↑p.xs.length : Int)) (Out.need (0 + i < p.xs.length) (Out.need (0 ≤ (↑i : Int) ∧ (↑i : Int) < (↑p.ys.length : Int)) (Out.need (0 + i < p.ys.length) (Out.ite (!((p.xs.getD (0 + i) (V.enc Kd.ent).dflt).key == (p.ys.getD (0 + i) (V.enc Kd.ent).dflt).key && ((p.xs.getD (0 + i) (V.enc Kd.ent).dflt).value == (p.ys.getD (0 + i) (V.enc Kd.ent).dflt).value && ((p.xs.getD (0 + i) (V.enc Kd.ent).dflt).weight == (p.ys.getD (0 + i) (V.enc Kd.ent).dflt).weight && ((p.xs.getD (0 + i) (V.enc Kd.ent).dflt).node == (p.ys.getD (0 + i) (V.enc Kd.ent).dflt).node && true))))) (Out.stop EX.rt {env := [(4, .ff), (25, .bool !((p.xs.getD (0 + i) (V.enc Kd.ent).dflt).key == (p.ys.getD (0 + i) (V.enc Kd.ent).dflt).key && ((p.xs.getD (0 + i) (V.enc Kd.ent).dflt).value == (p.ys.getD (0 + i) (V.enc Kd.ent).dflt).value && ((p.xs.getD (0 + i) (V.enc Kd.ent).dflt).weight == (p.ys.getD (0 + i) (V.enc Kd.ent).dflt).weight && ((p.xs.getD (0 + i) (V.enc Kd.ent).dflt).node == (p.ys.getD (0 + i) (V.enc Kd.ent).dflt).node && true))))), (24, .agg [.int .i64 (p.ys.getD (0 + i) (V.enc Kd.ent).dflt).key, .int .i64 (p.ys.getD (0 + i) (V.enc Kd.ent).dflt).value, .int .i64 (p.ys.getD (0 + i) (V.enc Kd.ent).dflt).weight, .int .i64 (p.ys.getD (0 + i) (V.enc Kd.ent).dflt).node]), (23, .ptrR 1 (0 + i) 4 0), (22, .int .i64 (↑i : Int)), (21, .sl false 1 0 4 p.ys.length p.4), (20, .agg [.int .i64 (p.xs.getD (0 + i) (V.enc Kd.ent).dflt).key, .int .i64 (p.xs.getD (0 + i) (V.enc Kd.ent).dflt).value, .int .i64 (p.xs.getD (0 + i) (V.enc Kd.ent).dflt).weight, .int .i64 (p.xs.getD (0 + i) (V.enc Kd.ent).dflt).node]), (19, .ptrR 0 (0 + i) 4 0), (18, .int .i64 (↑i : Int)), (17, .sl false 0 0 4 p.xs.length p.2), (14, .bool (decide ((↑i : Int) < (↑p.xs.length : Int)))), (13, .int .i64 (↑p.xs.length : Int)), (12, .sl false 0 0 4 p.xs.length p.2), (11, .int .i64 (↑i : Int)), (0, .sl false 0 0 4 p.xs.length p.2), (1, .sl false 1 0 4 p.ys.length p.4), (5, .int .i64 (↑i : Int))], heap := [(0, .ro Kd.ent p.xs), (1, .ro Kd.ent p.ys)], nx := 2, nt := 26, tl := [0, 1, 2, 3, 4, 5, 6, 7] : St V }) (Out.stop EX.nx {env := [(5, .int .i64 (IntKind.i64.wrap ((↑i : Int) + 1))), (16, .int .i64 (IntKind.i64.wrap ((↑i : Int) + 1))), (15, .int .i64 (↑i : Int)), (25, .bool !((p.xs.getD (0 + i) (V.enc Kd.ent).dflt).key == (p.ys.getD (0 + i) (V.enc Kd.ent).dflt).key && ((p.xs.getD (0 + i) (V.enc Kd.ent).dflt).value == (p.ys.getD (0 + i) (V.enc Kd.ent).dflt).value && ((p.xs.getD (0 + i) (V.enc Kd.ent).dflt).weight == (p.ys.getD (0 + i) (V.enc Kd.ent).dflt).weight && ((p.xs.getD (0 + i) (V.enc Kd.ent).dflt).node == (p.ys.getD (0 + i) (V.enc Kd.ent).dflt).node && true))))), (24, .agg [.int .i64 (p.ys.getD (0 + i) (V.enc Kd.ent).dflt).key, .int .i64 (p.ys.getD (0 + i) (V.enc Kd.ent).dflt).value, .int .i64 (p.ys.getD (0 + i) (V.enc Kd.ent).dflt).weight, .int .i64 (p.ys.getD (0 + i) (V.enc Kd.ent).dflt).node]), (23, .ptrR 1 (0 + i) 4 0), (22, .int .i64 (↑i : Int)), (21, .sl false 1 0 4 p.ys.length p.4), (20, .agg [.int .i64 (p.xs.getD (0 + i) (V.enc Kd.ent).dflt).key, .int .i64 (p.xs.getD (0 + i) (V.enc Kd.ent).dflt).value, .int .i64 (p.xs.getD (0 + i) (V.enc Kd.ent).dflt).weight, .int .i64 (p.xs.getD (0 + i) (V.enc Kd.ent).dflt).node]), (19, .ptrR 0 (0 + i) 4 0), (18, .int .i64 (↑i : Int)), (17, .sl false 0 0 4 p.xs.length p.2), (14, .bool (decide ((↑i : Int) < (↑p.xs.length : Int)))), (13, .int .i64 (↑p.xs.length : Int)), (12, .sl false 0 0 4 p.xs.length p.2), (11, .int .i64 (↑i : Int)), (0, .sl false 0 0 4 p.xs.length p.2), (1, .sl false 1 0 4 p.ys.length p.4), (5, .int .i64 (↑i : Int))], heap := [(0, .ro Kd.ent p.xs), (1, .ro Kd.ent p.ys)], nx := 2, nt := 26, tl := [0, 1, 2, 3, 4, 5, 6, 7] : St V })))))) (Out.stop (EX.ex 0) {env := [(14, .bool (decide ((↑i : Int) < (↑p.xs.length : Int)))), (13, .int .i64 (↑p.xs.length : Int)), (12, .sl false 0 0 4 p.xs.length p.2), (11, .int .i64 (↑i : Int)), (0, .sl false 0 0 4 p.xs.length p.2), (1, .sl false 1 0 4 p.ys.length p.4), (5, .int .i64 (↑i : Int))], heap := [(0, .ro Kd.ent p.xs), (1, .ro Kd.ent p.ys)], nx := 2, nt := 26, tl := [0, 1, 2, 3, 4, 5, 6, 7] : St V }) := by kernel_rfl

theorem tsame (xs ys : List Ent) (c d : Nat) : runF cfgSm1 40 22 Try.f22 [.sl false 0 0 4 xs.length c, .sl false 1 0 4 ys.length d] [(0, .ro Kd.ent xs), (1, .ro Kd.ent ys)] 2 = Out.ite ((↑xs.length : Int) != (↑ys.length : Int)) (Out.fin .ff [(0, .ro Kd.ent xs), (1, .ro Kd.ent ys)] 2) (Out.need (LoopFor Try.prog 22 0 (loopOf Try.f22 0) LSm) (Out.ex PSm fun y => Out.ex (List (Nat × Nat)) fun y_1 => Out.need (2 ≤ 2 ∧ Wk 2 y_1 {env := [(5, .lit .i64 0), (10, .bool ((↑xs.length : Int) != (↑ys.length : Int))), (9, .int .i64 (↑ys.length : Int)), (8, .sl false 1 0 4 ys.length d), (7, .int .i64 (↑xs.length : Int)), (6, .sl false 0 0 4 xs.length c), (4, .ff), (0, .sl false 0 0 4 xs.length c), (1, .sl false 1 0 4 ys.length d)], heap := [(0, .ro Kd.ent xs), (1, .ro Kd.ent ys)], nx := 2, nt := 26, tl := [] : St V } ((fun p => ISm p 0) y)) ((Out.all Unit fun y_2 => Out.asm ((fun p x => p.xs = p.ys) y y_2) (Out.fin .tt [(0, .ro Kd.ent y.xs), (1, .ro Kd.ent y.ys)] 2)).both (Out.all Unit fun y_2 => Out.asm ((fun p x => p.xs ≠ p.ys) y y_2) (Out.fin .ff [(0, .ro Kd.ent y.xs), (1, .ro Kd.ent y.ys)] 2))))) := by kernel_rfl

end Sx
end Go.Proofs.Ytohckjjbephohaa

/-
  Rows of entries compared: the function tells whether they are the same.
-/
namespace Go.Proofs.Ytohckjjbephohaa
namespace Sx
open Go
set_option linter.unusedSimpArgs false
set_option linter.unusedVariables false

theorem cfgSm_ok : cfgSm.ok := ⟨tab_met, kinds_met, mixed_met, fun g fn h => (by cases h), fun g H h => (by cases h)⟩
theorem cfgSm1_ok : cfgSm1.ok := ⟨cfgSm_ok.τ, cfgSm_ok.κ, cfgSm_ok.mixed, cfgSm_ok.fns, cfgSm_ok.hooks⟩
theorem ent_ext (a b : Ent) : (a.key == b.key && (a.value == b.value && (a.weight == b.weight && (a.node == b.node && true)))) = true ↔ a = b := by
  obtain ⟨x1, x2, x3, x4⟩ := a
  obtain ⟨y1, y2, y3, y4⟩ := b
  simp

theorem lSm_ok : LoopOk Try.prog 0 (loopOf Try.f22 0) LSm := by
  refine loopS_ok (C := cfgSm) cfgSm_ok (f := 22) (n := 40) 2 ISm (fun p i => i ≤ p.xs.length ∧ p.xs.take i = p.ys.take i) (fun _ => 0) (fun p i => p.xs.length - i) (fun p _ => p.xs = p.ys) (fun p (_ : Unit) => ISm p p.xs.length) (fun p _ => p.xs ≠ p.ys) (fun p (_ : Unit) => RSm p) (fun p => ⟨Nat.zero_le _, rfl⟩) ?_
  intro p i ⟨hi, ht⟩
  rw [bsame]
  simp only [Out.holds, Nat.zero_add, decide_eq_true_eq, decide_eq_false_iff_not, Bool.not_eq_true', Bool.not_eq_false']
  have hb := p.hb
  have hl := p.hl
  have hx : ∀ (h : i < p.xs.length), p.xs.getD i (V.enc Kd.ent).dflt = p.xs[i] := fun h => by rw [List.getD_eq_getElem?_getD, List.getElem?_eq_getElem h]; rfl
  have hy : ∀ (h : i < p.ys.length), p.ys.getD i (V.enc Kd.ent).dflt = p.ys[i] := fun h => by rw [List.getD_eq_getElem?_getD, List.getElem?_eq_getElem h]; rfl
  refine ⟨fun h => ⟨by omega, by omega, by omega, by omega, fun h2 => ⟨(), [], ?_, ?_⟩, fun h2 => ⟨i + 1, [], ?_, ⟨by omega, ?_⟩, by omega⟩⟩, fun h => ⟨trivial, (), [], ?_, ?_⟩⟩
  · exact ⟨⟨AV.sub_same _, trivial⟩, ⟨.same _, .same _, trivial⟩, rfl, tl_ok rfl, ⟨.inr rfl, .inr rfl, trivial⟩, ⟨Nat.le_of_ble_eq_true rfl, rfl⟩⟩
  · intro hxy
    have := (ent_ext (p.xs.getD i (V.enc Kd.ent).dflt) (p.ys.getD i (V.enc Kd.ent).dflt)).2 (by rw [hxy])
    exact absurd (this.symm.trans h2) (by decide)
  · exact ⟨⟨AV.sub_same _, AV.sub_same _, AV.sub_int (wrap_nat (by omega)), trivial⟩, ⟨.same _, .same _, trivial⟩, rfl, tl_ok rfl, ⟨.inr rfl, .inr rfl, trivial⟩, ⟨Nat.le_of_ble_eq_true rfl, rfl⟩⟩
  · have h1 : i < p.xs.length := by omega
    have h3 : i < p.ys.length := by omega
    rw [List.take_succ_eq_append_getElem h1, List.take_succ_eq_append_getElem h3, ht, ← hx h1, ← hy h3]
    exact congrArg (fun z => List.take i p.ys ++ [z]) ((ent_ext _ _).1 h2)
  · exact ⟨⟨AV.sub_same _, AV.sub_same _, AV.sub_int (by omega), trivial⟩, ⟨.same _, .same _, trivial⟩, rfl, tl_ok rfl, ⟨.inr rfl, .inr rfl, trivial⟩, ⟨Nat.le_of_ble_eq_true rfl, rfl⟩⟩
  · have e1 : p.xs.take i = p.xs := List.take_of_length_le (by omega)
    have e2 : p.ys.take i = p.ys := List.take_of_length_le (by omega)
    rw [← e1, ht, e2]
def runSame : RunFree V := fun ar K => match ar with
  | [.rows .ent xs c, .rows .ent ys d] => .need (xs.length ≤ 1099511627776) (K (.bool (decide (xs = ys))) [])
  | _ => .bad 500
theorem hSame : HookOk Try.prog 22 (hookFree [.rows Kd.ent, .rows Kd.ent] runSame) := by
  refine free_hook (C := cfgSm1) cfgSm1_ok (n := 40) (fn := Try.f22) ⟨by kernel_rfl, by kernel_rfl⟩ (by kernel_rfl) ?_
  intro M ar K0 H
  unfold runSame at H
  split at H
  · rename_i xs c ys d
    obtain ⟨hb, H⟩ := H
    refine ⟨show 2 ≤ _ by decide +kernel, ?_⟩
    show (runF cfgSm1 40 22 Try.f22 [.sl false 0 0 4 xs.length c, .sl false 1 0 4 ys.length d] [(0, .ro Kd.ent xs), (1, .ro Kd.ent ys)] 2).holds _
    rw [tsame]
    refine ⟨fun h => ⟨_, _, H, endPlain ?_ rfl⟩, fun h => ?_⟩
    · refine fun r v hv => ?_
      rw [show decide (xs = ys) = false from decide_eq_false (fun e => by subst e; simp at h)]; exact hv
    · have hl : xs.length = ys.length := by
        have h' : (xs.length : Int) = (ys.length : Int) := by simpa using h
        omega
      refine ⟨lSm_ok, ⟨xs, c, ys, d, hl, hb⟩, [], ⟨Nat.le_refl _, ?_⟩, fun _ he => ⟨_, _, H, endPlain ?_ rfl⟩, fun _ he => ⟨_, _, H, endPlain ?_ rfl⟩⟩
      · exact ⟨⟨AV.sub_same _, AV.sub_same _, AV.sub_lit', trivial⟩, ⟨.same _, .same _, trivial⟩, rfl, tl_ok rfl, ⟨.inr rfl, .inr rfl, trivial⟩, ⟨Nat.le_of_ble_eq_true rfl, rfl⟩⟩
      · rw [show decide (xs = ys) = true from decide_eq_true he]; exact fun _ _ h => h
      · rw [show decide (xs = ys) = false from decide_eq_false he]; exact fun _ _ h => h
  · exact H.elim

end Sx
end Go.Proofs.Ytohckjjbephohaa

