/-
  Words and locks as plain data; each call of a Cells does what the plain data do.
-/
import Derived.Test.YtjackepkphdibaaTrees
namespace Go.Proofs.Ytjackepkphdibaa
namespace Sx
set_option linter.unusedSimpArgs false
set_option linter.unusedVariables false
open Go

namespace MC
def note (s : MC) (t d c b a : Int) : MC := { s with log := s.log ++ [⟨t, d, c, b, a⟩] }
def room (s : MC) : Prop := (s.log.length + 1) * 40 ≤ 140737488355328
def noWord (s : MC) (k : Int) : Prop := k < 0 ∨ k ≥ s.words.length
def noLock (s : MC) (k : Int) : Prop := k < 0 ∨ k ≥ s.locks.length
instance (s : MC) (k : Int) : Decidable (s.noWord k) := inferInstanceAs (Decidable (_ ∨ _))
instance (s : MC) (k : Int) : Decidable (s.noLock k) := inferInstanceAs (Decidable (_ ∨ _))
def word (s : MC) (k : Int) : Int := s.words.getD k.toNat 0
def lock (s : MC) (k : Int) : Holder := s.locks.getD k.toNat ⟨0, false⟩
def load (s : MC) (t k : Int) : Int × Int × MC := if s.noWord k then (0, 1, s) else (s.word k, 0, s.note t 1 k (s.word k) (s.word k))
def store (s : MC) (t k v : Int) : Int × MC := if s.noWord k then (1, s) else (0, { s.note t 2 k (s.word k) v with words := s.words.set k.toNat v })
def swap (s : MC) (t k o v : Int) : Bool × Int × MC :=
  if s.noWord k then (false, 1, s) else if s.word k = o then (true, 0, { s.note t 3 k o v with words := s.words.set k.toNat v }) else (false, 0, s.note t 3 k (s.word k) (s.word k))
def take (s : MC) (t k d : Int) : Bool × Int × MC :=
  if s.noLock k then (false, 1, s)
  else if (s.lock k).thread = t ∧ (s.lock k).held = true then (false, 5, s)
  else if (s.lock k).held then (if d = 4 then (false, 6, s) else (false, 0, s.note t d k 1 1))
  else (true, 0, { s.note t d k 0 1 with locks := s.locks.set k.toNat ⟨t, true⟩ })
def unlock (s : MC) (t k : Int) : Int × MC :=
  if s.noLock k then (1, s)
  else if (s.lock k).thread = t ∧ (s.lock k).held = true then (0, { s.note t 6 k 1 0 with locks := s.locks.set k.toNat ⟨0, false⟩ })
  else (3, s)
def holder (s : MC) (k : Int) : Int := if s.noLock k then -1 else if (s.lock k).held then (s.lock k).thread else -1
def cap4 (n : Int) : Int := if 4096 < (if n > 0 then n else 0) then 4096 else if n > 0 then n else 0
def many (n : Int) : Nat := (cap4 n).toNat
def mk0 (w l : Int) : MC := ⟨List.replicate (many w) 0, List.replicate (many l) ⟨0, false⟩, []⟩
end MC

abbrev oC (s : MC) : V.O := .inr (.cells s)

theorem endC {n' : Nat} {h' : Heap V} {v0 v : AV} {E : List (Blk V)} {s : MC} {sw sl sg a b c : Nat} {x y z : AV}
    (hne : (a ≠ 0 ∧ b ≠ 0 ∧ c ≠ 0) ∧ a ≠ b ∧ a ≠ c ∧ b ≠ c)
    (h0 : h'.get 0 = some (.cells 56 [x, y, z]))
    (hx : x.sub (.sl false a 0 1 s.words.length (s.words.length + sw))) (hy : y.sub (.sl false b 0 2 s.locks.length (s.locks.length + sl))) (hz : z.sub (.sl false c 0 5 s.log.length (s.log.length + sg)))
    (h1 : BSub (h'.get a) (.arr 3 Kd.int s.words sw : Blk V)) (h2 : BSub (h'.get b) (.arr 62 Kd.holder s.locks sl : Blk V)) (h3 : BSub (h'.get c) (.arr 45 Kd.deed s.log sg : Blk V))
    (hf : Fin 4 n' v0 ((((h'.del 0).del a).del b).del c) v E) : EndObj 4 n' v0 h' v (.inr (.cells s)) E := by
  refine ⟨_, pack (ren := [(0, 0), (1, a), (2, b), (3, c)]) laid_V (x := .inr (.cells s)) (n := 4) (m := 0) (h := h') ⟨cBlk s sw sl sg, rfl, rfl, sw, sl, sg, rfl⟩ rfl rfl ⟨?_, ?_, ?_, ?_, trivial⟩ rfl, rfl, hf⟩
  · show BSub (h'.get 0) _
    rw [h0]
    exact BSub.cells 56 _ _ (AV.subL_cons hx (AV.subL_cons hy (AV.subL_cons hz AV.subL_nil)))
  · show BSub ((h'.del 0).get a) _
    rw [Heap.get_del_ne hne.1.1]; exact h1
  · show BSub (((h'.del 0).del a).get b) _
    rw [Heap.get_del_ne hne.2.1.symm, Heap.get_del_ne hne.1.2.1]; exact h2
  · show BSub ((((h'.del 0).del a).del b).get c) _
    rw [Heap.get_del_ne hne.2.2.2.symm, Heap.get_del_ne hne.2.2.1.symm, Heap.get_del_ne hne.1.2.2]; exact h3

theorem tmV_cells {s : MC} {hp : Heap V} {n : Nat} (h : tmV (.inr (.cells s)) hp n) : n = 4 ∧ ∃ sw sl sg, hp = cUp s sw sl sg := by
  obtain ⟨h0, rfl, hn, sw, sl, sg, rfl⟩ := h
  exact ⟨hn, sw, sl, sg, rfl⟩

theorem calls_runF {C : Cfg Try.prog V} (hC : C.ok) {n g : Nat} {fn : Func} (hg : Try.prog.funcs[g]? = some fn ∧ (fn.name == "runtime.NumGoroutine") = false) (hb : fn.body.isSome = true) {args : List AV} (hl : args.length ≤ fn.ntmps) {h : Heap V} {nx : Nat}
    {R : AV → Heap V → Nat → List Nat → Prop} (H : (runF C n g fn args h nx).holds ⟨fun _ _ => False, fun v h' nx' => R v h' nx' []⟩) : CallsSx Try.prog g args h nx (fun v h' nx' _ => R v h' nx' []) := by
  unfold runF at H
  cases hbd : fn.body with
  | none => rw [hbd] at hb; cases hb
  | some body =>
    rw [hbd] at H
    exact calls_of_run hC (n := n) (M := ⟨fun _ _ => False, fun v h' nx' => R v h' nx' []⟩) (R := fun v h' nx' _ => R v h' nx' []) (k := fun v h' nx' _ => .fin v h' nx') hg.1 hg.2 hbd hl (fun _ _ _ _ hh => hh) H

theorem AV.sub_lit' {k : IntKind} {n : Int} : (AV.lit k n).sub (.int k n) := fun _ _ h => h
theorem AV.sub_same (a : AV) : a.sub a := fun _ _ h => h
theorem AV.sub_tup {xs bs : List AV} (h : ∀ r vs, relL r xs vs → relL r bs vs) : (AV.tup xs).sub (.tup bs) := fun r v ⟨vs, e, k⟩ => ⟨vs, h r vs e, k⟩



theorem stayC {n' : Nat} {h' : Heap V} {v0 v : AV} {s : MC} {sw sl sg : Nat}
    (h0 : h'.get 0 = some (.cells 56 [.sl false 1 0 1 s.words.length (s.words.length + sw), .sl false 2 0 2 s.locks.length (s.locks.length + sl), .sl false 3 0 5 s.log.length (s.log.length + sg)]))
    (h1 : h'.get 1 = some (.arr 3 Kd.int s.words sw)) (h2 : h'.get 2 = some (.arr 62 Kd.holder s.locks sl)) (h3 : h'.get 3 = some (.arr 45 Kd.deed s.log sg))
    (hv : v0.sub v) (hn : v.on noName = true) : EndObj 4 n' v0 h' v (oC s) [] :=
  endC (a := 1) (b := 2) (c := 3) (by decide) h0 (AV.sub_same _) (AV.sub_same _) (AV.sub_same _) (.of_eq h1) (.of_eq h2) (.of_eq h3) (.plain hv hn)
theorem noteC {n' : Nat} {h' : Heap V} {v0 v : AV} {s s' : MC} {sw sl c y : Nat} (hc : c ≠ 0 ∧ 1 ≠ c ∧ 2 ≠ c)
    (h0 : h'.get 0 = some (.cells 56 [.sl false 1 0 1 s.words.length (s.words.length + sw), .sl false 2 0 2 s.locks.length (s.locks.length + sl), .sl false c 0 5 (s.log.length + 1) (s.log.length + 1 + y)]))
    (h1 : h'.get 1 = some (.arr 3 Kd.int s'.words sw)) (h2 : h'.get 2 = some (.arr 62 Kd.holder s'.locks sl)) (h3 : h'.get c = some (.arr 45 Kd.deed s'.log y))
    (e1 : s.words.length = s'.words.length) (e2 : s.locks.length = s'.locks.length) (e3 : s.log.length + 1 = s'.log.length)
    (hv : v0.sub v) (hn : v.on noName = true) : EndObj 4 n' v0 h' v (oC s') [] :=
  endC (a := 1) (b := 2) (c := c) ⟨⟨by decide, by decide, hc.1⟩, by decide, hc.2.1, hc.2.2⟩ h0 (AV.sub_sl e1 (by rw [e1])) (AV.sub_sl e2 (by rw [e2])) (AV.sub_sl e3 (by rw [e3])) (.of_eq h1) (.of_eq h2) (.of_eq h3) (.plain hv hn)

theorem AV.sub_two {a b c d : AV} (h : a.sub c) (k : b.sub d) : (AV.tup [a, b]).sub (.tup [c, d]) := AV.sub_tup (AV.subL_cons h (AV.subL_cons k AV.subL_nil))
theorem AV.sub_ff' : AV.ff.sub (.bool false) := fun _ _ h => h
theorem AV.sub_tt' : AV.tt.sub (.bool true) := fun _ _ h => h

abbrev RunC := MC → List (Arg V) → (AV → MC → List (Blk V) → Out V) → Out V
def onC (f : RunC) : RunObj V := fun x ar K => match x with
  | .inr (.cells s) => f s ar fun v s' E => K v (oC s') E
  | _ => .bad 500
theorem cells_hook1 {C : Cfg Try.prog V} (hC : C.ok) {f n : Nat} {fn : Func} {sgn : List (Sg V)} {run : RunC} (hg : Try.prog.funcs[f]? = some fn ∧ (fn.name == "runtime.NumGoroutine") = false) (hb : fn.body.isSome = true)
    (H : ∀ (M : Goal V) (s : MC) (ar : List (Arg V)) (K0 : AV → MC → List (Blk V) → Out V), (run s ar K0).holds M → ar.length + 1 ≤ fn.ntmps ∧ ∀ sw sl sg,
      (runF C n f fn (.ptr 0 0 :: argAV 4 ar) (cUp s sw sl sg ++ argHeap 4 ar) (4 + ar.length)).holds ⟨fun _ _ => False, fun v0 h' n' => ∃ v s' E, (K0 v s' E).holds M ∧ EndObj 4 n' v0 h' v (oC s') E⟩) :
    HookOk Try.prog f (hookObj 4 sgn (onC run)) := by
  refine hookObj_ok laid_V ⟨fn, hg.1, hg.2, by cases hb' : fn.body <;> simp [hb'] at hb ⊢⟩ ?_
  intro M x ar K0 h hp m ht
  unfold onC at h
  split at h
  · rename_i s
    obtain ⟨rfl, sw, sl, sg, rfl⟩ := tmV_cells ht
    obtain ⟨hl, h⟩ := H M s ar _ h
    refine ⟨rfl, calls_runF (R := fun v0 h' n' _ => ∃ v x' E, (K0 v x' E).holds M ∧ EndObj 4 n' v0 h' v x' E) hC (n := n) hg hb ?_ ?_⟩
    · have : ∀ (j : Nat) (l : List (Arg V)), (argAV j l).length = l.length := by
        intro j l; induction l generalizing j with
        | nil => rfl
        | cons a l ih => simp [argAV, ih]
      simp only [List.length_cons, this]; exact hl
    · exact Out.weak (h sw sl sg) (fun _ _ h => h) (fun v0 h' n' ⟨v, s', E, h1, h2⟩ => ⟨v, _, E, h1, h2⟩)
  · exact h.elim

theorem cells_hook {f n : Nat} {fn : Func} {sgn : List (Sg V)} {run : RunC} (hg : Try.prog.funcs[f]? = some fn ∧ (fn.name == "runtime.NumGoroutine") = false) (hb : fn.body.isSome = true)
    (H : ∀ (M : Goal V) (s : MC) (ar : List (Arg V)) (K0 : AV → MC → List (Blk V) → Out V), (run s ar K0).holds M → ar.length + 1 ≤ fn.ntmps ∧ ∀ sw sl sg,
      (runF cfg0 n f fn (.ptr 0 0 :: argAV 4 ar) (cUp s sw sl sg ++ argHeap 4 ar) (4 + ar.length)).holds ⟨fun _ _ => False, fun v0 h' n' => ∃ v s' E, (K0 v s' E).holds M ∧ EndObj 4 n' v0 h' v (oC s') E⟩) :
    HookOk Try.prog f (hookObj 4 sgn (onC run)) := cells_hook1 cfg0_ok hg hb H

def runLoad : RunC := fun s ar K => match ar with
  | [.int .i64 t, .int .i64 k] => .need s.room (K (.tup [.int .i64 (s.load t k).1, .int .i64 (s.load t k).2.1]) (s.load t k).2.2 [])
  | _ => .bad 500
def runStore : RunC := fun s ar K => match ar with
  | [.int .i64 t, .int .i64 k, .int .i64 v] => .need s.room (K (.int .i64 (s.store t k v).1) (s.store t k v).2 [])
  | _ => .bad 500
def runSwap : RunC := fun s ar K => match ar with
  | [.int .i64 t, .int .i64 k, .int .i64 o, .int .i64 v] => .need s.room (K (.tup [.bool (s.swap t k o v).1, .int .i64 (s.swap t k o v).2.1]) (s.swap t k o v).2.2 [])
  | _ => .bad 500
def runLock : RunC := fun s ar K => match ar with
  | [.int .i64 t, .int .i64 k] => .need s.room (K (.int .i64 (s.take t k 4).2.1) (s.take t k 4).2.2 [])
  | _ => .bad 500
def runTry : RunC := fun s ar K => match ar with
  | [.int .i64 t, .int .i64 k] => .need s.room (K (.tup [.bool (s.take t k 5).1, .int .i64 (s.take t k 5).2.1]) (s.take t k 5).2.2 [])
  | _ => .bad 500
def runUnlock : RunC := fun s ar K => match ar with
  | [.int .i64 t, .int .i64 k] => .need s.room (K (.int .i64 (s.unlock t k).1) (s.unlock t k).2 [])
  | _ => .bad 500
def runHolder : RunC := fun s ar K => match ar with
  | [.int .i64 k] => K (.int .i64 (s.holder k)) s []
  | _ => .bad 500
def runLog : RunC := fun s ar K => match ar with
  | [] => .need s.room (.all Nat fun sp => K (.sl false 4 0 5 s.log.length (s.log.length + sp)) s [.arr 45 Kd.deed s.log sp])
  | _ => .bad 500

theorem hLoad : HookOk Try.prog 21 (hookObj 4 [.int .i64, .int .i64] (onC runLoad)) := by
  refine cells_hook (n := 40) (fn := Try.f21) ⟨by kernel_rfl, by kernel_rfl⟩ (by kernel_rfl) ?_
  intro M s ar K0 H
  unfold runLoad at H
  split at H
  · rename_i t k
    obtain ⟨hroom, H⟩ := H
    refine ⟨show 3 ≤ _ by decide +kernel, fun sw sl sg => ?_⟩
    simp only [argAV, Arg.av, argHeap, List.append_nil, List.length_cons, List.length_nil, Nat.reduceAdd, Nat.zero_add]
    rw [t21]
    simp only [Out.holds, Nat.zero_add, decide_eq_true_eq, decide_eq_false_iff_not, beq_iff_eq, beq_eq_false_iff_ne, Bool.and_true, Bool.and_eq_true, Bool.and_eq_false_imp, Bool.not_eq_true', Bool.not_eq_false', beq_true]
    refine ⟨fun h => ⟨_, _, _, H, ?_⟩, fun h => ⟨fun h2 => ⟨_, _, _, H, ?_⟩, fun h2 => ⟨by omega, by omega, by omega, ⟨trivial, trivial, trivial, hroom⟩, fun y => ⟨by omega, _, _, _, H, ?_⟩⟩⟩⟩
    · rw [show s.load t k = (0, 1, s) from if_pos (.inl h)]
      exact stayC rfl rfl rfl rfl (AV.sub_two AV.sub_lit' AV.sub_lit') rfl
    · rw [show s.load t k = (0, 1, s) from if_pos (.inr h2)]
      exact stayC rfl rfl rfl rfl (AV.sub_two AV.sub_lit' AV.sub_lit') rfl
    · rw [show s.load t k = (s.word k, 0, s.note t 1 k (s.word k) (s.word k)) from if_neg (fun hh => by rcases hh with hh | hh <;> contradiction)]
      exact noteC (s := s) (by decide) rfl rfl rfl rfl rfl rfl (by simp [MC.note]) (AV.sub_two (AV.sub_same _) AV.sub_lit') rfl
  · exact H.elim
theorem hStore : HookOk Try.prog 22 (hookObj 4 [.int .i64, .int .i64, .int .i64] (onC runStore)) := by
  refine cells_hook (n := 40) (fn := Try.f22) ⟨by kernel_rfl, by kernel_rfl⟩ (by kernel_rfl) ?_
  intro M s ar K0 H
  unfold runStore at H
  split at H
  · rename_i t k v
    obtain ⟨hroom, H⟩ := H
    refine ⟨show 4 ≤ _ by decide +kernel, fun sw sl sg => ?_⟩
    simp only [argAV, Arg.av, argHeap, List.append_nil, List.length_cons, List.length_nil, Nat.reduceAdd, Nat.zero_add]
    rw [t22]
    simp only [Out.holds, Nat.zero_add, decide_eq_true_eq, decide_eq_false_iff_not, beq_iff_eq, beq_eq_false_iff_ne, Bool.and_true, Bool.and_eq_true, Bool.and_eq_false_imp, Bool.not_eq_true', Bool.not_eq_false', beq_true]
    refine ⟨fun h => ⟨_, _, _, H, ?_⟩, fun h => ⟨fun h2 => ⟨_, _, _, H, ?_⟩, fun h2 => ⟨by omega, by omega, ⟨trivial, trivial, trivial, hroom⟩, fun y => ⟨by omega, _, _, _, H, ?_⟩⟩⟩⟩
    · rw [show s.store t k v = (1, s) from if_pos (.inl h)]
      exact stayC rfl rfl rfl rfl AV.sub_lit' rfl
    · rw [show s.store t k v = (1, s) from if_pos (.inr h2)]
      exact stayC rfl rfl rfl rfl AV.sub_lit' rfl
    · rw [show s.store t k v = (0, { s.note t 2 k (s.word k) v with words := s.words.set k.toNat v }) from if_neg (fun hh => by rcases hh with hh | hh <;> contradiction)]
      exact noteC (s := s) (by decide) rfl rfl rfl rfl (by simp) rfl (by simp [MC.note]) AV.sub_lit' rfl
  · exact H.elim
theorem hSwap : HookOk Try.prog 10 (hookObj 4 [.int .i64, .int .i64, .int .i64, .int .i64] (onC runSwap)) := by
  refine cells_hook (n := 40) (fn := Try.f10) ⟨by kernel_rfl, by kernel_rfl⟩ (by kernel_rfl) ?_
  intro M s ar K0 H
  unfold runSwap at H
  split at H
  · rename_i t k o v
    obtain ⟨hroom, H⟩ := H
    refine ⟨show 5 ≤ _ by decide +kernel, fun sw sl sg => ?_⟩
    simp only [argAV, Arg.av, argHeap, List.append_nil, List.length_cons, List.length_nil, Nat.reduceAdd, Nat.zero_add]
    rw [t10]
    simp only [Out.holds, Nat.zero_add, decide_eq_true_eq, decide_eq_false_iff_not, beq_iff_eq, beq_eq_false_iff_ne, Bool.and_true, Bool.and_eq_true, Bool.and_eq_false_imp, Bool.not_eq_true', Bool.not_eq_false', beq_true]
    have hn : ¬ k < 0 → ¬ k ≥ s.words.length → ¬ s.noWord k := fun h h2 => (fun hh => by rcases hh with hh | hh <;> contradiction)
    refine ⟨fun h => ⟨_, _, _, H, ?_⟩, fun h => ⟨fun h2 => ⟨_, _, _, H, ?_⟩, fun h2 => ⟨by omega, by omega, fun h3 => ⟨by omega, by simp; omega, ⟨trivial, trivial, trivial, hroom⟩, fun y => ⟨_, _, _, H, ?_⟩⟩, fun h3 => ⟨by omega, ⟨trivial, trivial, trivial, hroom⟩, fun y => ⟨_, _, _, H, ?_⟩⟩⟩⟩⟩
    · rw [show s.swap t k o v = (false, 1, s) from if_pos (.inl h)]
      exact stayC rfl rfl rfl rfl (AV.sub_two AV.sub_ff' AV.sub_lit') rfl
    · rw [show s.swap t k o v = (false, 1, s) from if_pos (.inr h2)]
      exact stayC rfl rfl rfl rfl (AV.sub_two AV.sub_ff' AV.sub_lit') rfl
    · have h3' : s.word k = o := h3
      rw [show s.swap t k o v = (true, 0, { s.note t 3 k o v with words := s.words.set k.toNat v }) from (if_neg (hn h h2)).trans (if_pos h3')]
      refine noteC (s := s) (by decide) rfl rfl rfl ?_ (by simp) rfl (by simp [MC.note]) (AV.sub_two (AV.sub_bool (beq_iff_eq.2 h3)) AV.sub_lit') rfl
      refine congrArg (fun z => some (Blk.arr 45 Kd.deed (s.log ++ [z]) y : Blk V)) ?_
      refine congr (congrArg (Deed.mk t 3 k) h3) ?_
      show (s.words.set k.toNat v).getD k.toNat (0 : Int) = v
      rw [List.getD_eq_getElem?_getD, List.getElem?_set_self (by omega)]; rfl
    · have h3' : ¬ s.word k = o := h3
      rw [show s.swap t k o v = (false, 0, s.note t 3 k (s.word k) (s.word k)) from (if_neg (hn h h2)).trans (if_neg h3')]
      exact noteC (s := s) (by decide) rfl rfl rfl rfl rfl rfl (by simp [MC.note]) (AV.sub_two (AV.sub_bool (beq_eq_false_iff_ne.2 h3)) AV.sub_lit') rfl
  · exact H.elim
theorem hLock : HookOk Try.prog 11 (hookObj 4 [.int .i64, .int .i64] (onC runLock)) := by
  refine cells_hook (n := 40) (fn := Try.f11) ⟨by kernel_rfl, by kernel_rfl⟩ (by kernel_rfl) ?_
  intro M s ar K0 H
  unfold runLock at H
  split at H
  · rename_i t k
    obtain ⟨hroom, H⟩ := H
    refine ⟨show 3 ≤ _ by decide +kernel, fun sw sl sg => ?_⟩
    simp only [argAV, Arg.av, argHeap, List.append_nil, List.length_cons, List.length_nil, Nat.reduceAdd, Nat.zero_add]
    rw [t11]
    simp only [Out.holds, Nat.zero_add, decide_eq_true_eq, decide_eq_false_iff_not, beq_iff_eq, beq_eq_false_iff_ne, Bool.and_true, Bool.and_eq_true, Bool.and_eq_false_imp, Bool.not_eq_true', Bool.not_eq_false', beq_true]
    have hn : ¬ k < 0 → ¬ k ≥ s.locks.length → ¬ s.noLock k := fun h h2 => (fun hh => by rcases hh with hh | hh <;> contradiction)
    refine ⟨fun h => ⟨_, _, _, H, ?_⟩, fun h => ⟨fun h2 => ⟨_, _, _, H, ?_⟩, fun h2 => ⟨by omega, by omega, fun h3 => ⟨_, _, _, H, ?_⟩, fun h3 => ⟨by omega, fun h4 => ⟨_, _, _, H, ?_⟩, fun h4 => ⟨by omega, fun h5 => absurd (h4.symm.trans h5) (by decide), fun _ => ⟨by omega, ⟨trivial, trivial, trivial, hroom⟩, fun y => ⟨_, _, _, H, ?_⟩⟩⟩⟩⟩⟩⟩
    · rw [show s.take t k 4 = (false, 1, s) from if_pos (.inl h)]
      exact stayC rfl rfl rfl rfl AV.sub_lit' rfl
    · rw [show s.take t k 4 = (false, 1, s) from if_pos (.inr h2)]
      exact stayC rfl rfl rfl rfl AV.sub_lit' rfl
    · rw [show s.take t k 4 = (false, 5, s) from (if_neg (hn h h2)).trans (if_pos h3)]
      exact stayC rfl rfl rfl rfl AV.sub_lit' rfl
    · have h3' : ¬ ((s.lock k).thread = t ∧ (s.lock k).held = true) := fun hh => by have := h3 hh.1; rw [show (s.locks.getD k.toNat (V.enc Kd.holder).dflt).held = (s.lock k).held from rfl, hh.2] at this; cases this
      rw [show s.take t k 4 = (false, 6, s) from (if_neg (hn h h2)).trans ((if_neg h3').trans ((if_pos h4).trans (if_pos rfl)))]
      exact stayC rfl rfl rfl rfl AV.sub_lit' rfl
    · have h4' : ¬ (s.lock k).held = true := fun hh => by rw [show (s.lock k).held = false from h4] at hh; cases hh
      rw [show s.take t k 4 = (true, 0, { s.note t 4 k 0 1 with locks := s.locks.set k.toNat ⟨t, true⟩ }) from (if_neg (hn h h2)).trans ((if_neg (fun hh => h4' hh.2)).trans (if_neg h4'))]
      exact noteC (s := s) (by decide) rfl rfl rfl rfl rfl (by simp) (by simp [MC.note]) AV.sub_lit' rfl
  · exact H.elim
theorem hTry : HookOk Try.prog 23 (hookObj 4 [.int .i64, .int .i64] (onC runTry)) := by
  refine cells_hook (n := 40) (fn := Try.f23) ⟨by kernel_rfl, by kernel_rfl⟩ (by kernel_rfl) ?_
  intro M s ar K0 H
  unfold runTry at H
  split at H
  · rename_i t k
    obtain ⟨hroom, H⟩ := H
    refine ⟨show 3 ≤ _ by decide +kernel, fun sw sl sg => ?_⟩
    simp only [argAV, Arg.av, argHeap, List.append_nil, List.length_cons, List.length_nil, Nat.reduceAdd, Nat.zero_add]
    rw [t23]
    simp only [Out.holds, Nat.zero_add, decide_eq_true_eq, decide_eq_false_iff_not, beq_iff_eq, beq_eq_false_iff_ne, Bool.and_true, Bool.and_eq_true, Bool.and_eq_false_imp, Bool.not_eq_true', Bool.not_eq_false', beq_true]
    have hn : ¬ k < 0 → ¬ k ≥ s.locks.length → ¬ s.noLock k := fun h h2 => (fun hh => by rcases hh with hh | hh <;> contradiction)
    have hheld : ∀ (h : ¬ k < 0) (h2 : ¬ k ≥ s.locks.length) (h3' : ¬ ((s.lock k).thread = t ∧ (s.lock k).held = true)) (h4 : (s.lock k).held = true), s.take t k 5 = (false, 0, s.note t 5 k 1 1) :=
      fun h h2 h3' h4 => (if_neg (hn h h2)).trans ((if_neg h3').trans ((if_pos h4).trans (if_neg (by decide))))
    have hfree : ∀ (h : ¬ k < 0) (h2 : ¬ k ≥ s.locks.length) (h4 : (s.lock k).held = false), s.take t k 5 = (true, 0, { s.note t 5 k 0 1 with locks := s.locks.set k.toNat ⟨t, true⟩ }) :=
      fun h h2 h4 => (if_neg (hn h h2)).trans ((if_neg (fun hh => by rw [h4] at hh; exact absurd hh.2 (by decide))).trans (if_neg (by rw [h4]; decide)))
    refine ⟨fun h => ⟨_, _, _, H, ?_⟩, fun h => ⟨fun h2 => ⟨_, _, _, H, ?_⟩, fun h2 => ⟨by omega, by omega, fun h3 => ⟨_, _, _, H, ?_⟩, fun h3 => ⟨by omega, fun h4 => ⟨by omega, fun _ => ⟨⟨trivial, trivial, trivial, hroom⟩, fun y => ⟨_, _, _, H, ?_⟩⟩, fun h5 => absurd (h4.symm.trans h5) (by decide)⟩, fun h4 => ⟨by omega, fun h5 => absurd (h4.symm.trans h5) (by decide), fun _ => ⟨by omega, ⟨trivial, trivial, trivial, hroom⟩, fun y => ⟨_, _, _, H, ?_⟩⟩⟩⟩⟩⟩⟩
    · rw [show s.take t k 5 = (false, 1, s) from if_pos (.inl h)]
      exact stayC rfl rfl rfl rfl (AV.sub_two AV.sub_ff' AV.sub_lit') rfl
    · rw [show s.take t k 5 = (false, 1, s) from if_pos (.inr h2)]
      exact stayC rfl rfl rfl rfl (AV.sub_two AV.sub_ff' AV.sub_lit') rfl
    · rw [show s.take t k 5 = (false, 5, s) from (if_neg (hn h h2)).trans (if_pos h3)]
      exact stayC rfl rfl rfl rfl (AV.sub_two AV.sub_ff' AV.sub_lit') rfl
    · have h3' : ¬ ((s.lock k).thread = t ∧ (s.lock k).held = true) := fun hh => by have := h3 hh.1; rw [show (s.locks.getD k.toNat (V.enc Kd.holder).dflt).held = (s.lock k).held from rfl, hh.2] at this; cases this
      rw [hheld h h2 h3' h4]
      exact noteC (s := s) (by decide) rfl rfl rfl rfl rfl rfl (by simp [MC.note]) (AV.sub_two AV.sub_ff' AV.sub_lit') rfl
    · rw [hfree h h2 h4]
      exact noteC (s := s) (by decide) rfl rfl rfl rfl rfl (by simp) (by simp [MC.note]) (AV.sub_two AV.sub_tt' AV.sub_lit') rfl
  · exact H.elim
theorem hUnlock : HookOk Try.prog 24 (hookObj 4 [.int .i64, .int .i64] (onC runUnlock)) := by
  refine cells_hook (n := 40) (fn := Try.f24) ⟨by kernel_rfl, by kernel_rfl⟩ (by kernel_rfl) ?_
  intro M s ar K0 H
  unfold runUnlock at H
  split at H
  · rename_i t k
    obtain ⟨hroom, H⟩ := H
    refine ⟨show 3 ≤ _ by decide +kernel, fun sw sl sg => ?_⟩
    simp only [argAV, Arg.av, argHeap, List.append_nil, List.length_cons, List.length_nil, Nat.reduceAdd, Nat.zero_add]
    rw [t24]
    simp only [Out.holds, Nat.zero_add, decide_eq_true_eq, decide_eq_false_iff_not, beq_iff_eq, beq_eq_false_iff_ne, Bool.and_true, Bool.and_eq_true, Bool.and_eq_false_imp, Bool.not_eq_true', Bool.not_eq_false', beq_true]
    have hn : ¬ k < 0 → ¬ k ≥ s.locks.length → ¬ s.noLock k := fun h h2 => (fun hh => by rcases hh with hh | hh <;> contradiction)
    refine ⟨fun h => ⟨_, _, _, H, ?_⟩, fun h => ⟨fun h2 => ⟨_, _, _, H, ?_⟩, fun h2 => ⟨by omega, by omega, fun h3 => ⟨_, _, _, H, ?_⟩, fun h3 => ⟨by omega, ⟨trivial, trivial, trivial, hroom⟩, fun y => ⟨_, _, _, H, ?_⟩⟩⟩⟩⟩
    · rw [show s.unlock t k = (1, s) from if_pos (.inl h)]
      exact stayC rfl rfl rfl rfl AV.sub_lit' rfl
    · rw [show s.unlock t k = (1, s) from if_pos (.inr h2)]
      exact stayC rfl rfl rfl rfl AV.sub_lit' rfl
    · have h3' : ¬ ((s.lock k).thread = t ∧ (s.lock k).held = true) := fun hh => by have := h3 hh.1; rw [show (s.locks.getD k.toNat (V.enc Kd.holder).dflt).held = (s.lock k).held from rfl, hh.2] at this; cases this
      rw [show s.unlock t k = (3, s) from (if_neg (hn h h2)).trans (if_neg h3')]
      exact stayC rfl rfl rfl rfl AV.sub_lit' rfl
    · rw [show s.unlock t k = (0, { s.note t 6 k 1 0 with locks := s.locks.set k.toNat ⟨0, false⟩ }) from (if_neg (hn h h2)).trans (if_pos h3)]
      exact noteC (s := s) (by decide) rfl rfl rfl rfl rfl (by simp) (by simp [MC.note]) AV.sub_lit' rfl
  · exact H.elim
theorem hHolder : HookOk Try.prog 16 (hookObj 4 [.int .i64] (onC runHolder)) := by
  refine cells_hook (n := 40) (fn := Try.f16) ⟨by kernel_rfl, by kernel_rfl⟩ (by kernel_rfl) ?_
  intro M s ar K0 H
  unfold runHolder at H
  split at H
  · rename_i k
    skip
    refine ⟨show 2 ≤ _ by decide +kernel, fun sw sl sg => ?_⟩
    simp only [argAV, Arg.av, argHeap, List.append_nil, List.length_cons, List.length_nil, Nat.reduceAdd, Nat.zero_add]
    rw [t16]
    simp only [Out.holds, Nat.zero_add, decide_eq_true_eq, decide_eq_false_iff_not, beq_iff_eq, beq_eq_false_iff_ne, Bool.and_true, Bool.and_eq_true, Bool.and_eq_false_imp, Bool.not_eq_true', Bool.not_eq_false', beq_true]
    have hn : ¬ k < 0 → ¬ k ≥ s.locks.length → ¬ s.noLock k := fun h h2 => (fun hh => by rcases hh with hh | hh <;> contradiction)
    refine ⟨fun h => ⟨_, _, _, H, ?_⟩, fun h => ⟨fun h2 => ⟨_, _, _, H, ?_⟩, fun h2 => ⟨by omega, by omega, fun h3 => ⟨_, _, _, H, ?_⟩, fun h3 => ⟨by omega, _, _, _, H, ?_⟩⟩⟩⟩
    · rw [show s.holder k = -1 from if_pos (.inl h)]
      exact stayC rfl rfl rfl rfl AV.sub_lit' rfl
    · rw [show s.holder k = -1 from if_pos (.inr h2)]
      exact stayC rfl rfl rfl rfl AV.sub_lit' rfl
    · rw [show s.holder k = -1 from (if_neg (hn h h2)).trans (if_neg (by rw [show (s.lock k).held = false from h3]; decide))]
      exact stayC rfl rfl rfl rfl AV.sub_lit' rfl
    · rw [show s.holder k = (s.lock k).thread from (if_neg (hn h h2)).trans (if_pos h3)]
      exact stayC rfl rfl rfl rfl (AV.sub_same _) rfl
  · exact H.elim
theorem hLog : HookOk Try.prog 13 (hookObj 4 [] (onC runLog)) := by
  refine cells_hook (n := 40) (fn := Try.f13) ⟨by kernel_rfl, by kernel_rfl⟩ (by kernel_rfl) ?_
  intro M s ar K0 H
  unfold runLog at H
  split at H
  · skip
    obtain ⟨hroom, H⟩ := H
    refine ⟨show 1 ≤ _ by decide +kernel, fun sw sl sg => ?_⟩
    simp only [argAV, Arg.av, argHeap, List.append_nil, List.length_cons, List.length_nil, Nat.reduceAdd, Nat.zero_add]
    rw [t13]
    simp only [Out.holds, Nat.zero_add, decide_eq_true_eq, decide_eq_false_iff_not, beq_iff_eq, beq_eq_false_iff_ne, Bool.and_true, Bool.and_eq_true, Bool.and_eq_false_imp, Bool.not_eq_true', Bool.not_eq_false', beq_true]
    refine ⟨fun h => ?_, by omega, ?_, fun y => ?_⟩
    · have hz : s.log.length + sg = 0 := Nat.eq_of_beq_eq_true h
      refine ⟨_, _, _, H 0, endC (a := 1) (b := 2) (c := 3) (sw := sw) (sl := sl) (sg := sg) (by decide) rfl (AV.sub_same _) (AV.sub_same _) (AV.sub_same _) (.same _) (.same _) (.same _) ⟨⟨fun _ => 99, ⟨?_, trivial⟩, ?_⟩, rfl, rfl⟩⟩
      · have : s.log = [] := List.eq_nil_of_length_eq_zero (by omega)
        rw [this]; exact .none _ _
      · have : s.log.length = 0 := by omega
        rw [this]; exact AV.sub_nilS
    · have := hroom; unfold MC.room at this; simp; omega
    · have hdt : List.take s.log.length (List.drop 0 s.log) = s.log := by simp
      exact ⟨_, _, _, H y, endC (a := 1) (b := 2) (c := 3) (sw := sw) (sl := sl) (sg := sg) (by decide) rfl (AV.sub_same _) (AV.sub_same _) (AV.sub_same _) (.same _) (.same _) (.same _) ⟨⟨fun _ => 5, ⟨BSub.of_eq (congrArg (fun z => some (Blk.arr 45 Kd.deed z y : Blk V)) hdt), trivial⟩, AV.sub_sl (congrArg List.length hdt) (by rw [hdt])⟩, rfl, rfl⟩⟩
  · exact H.elim
end Sx
end Go.Proofs.Ytjackepkphdibaa
