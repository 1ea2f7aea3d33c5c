/-
  The document's words and locks as plain data; each of its calls does what the plain data do.
-/
import Derived.Test.YtjackepkphdibaaCells2
namespace Go.Proofs.Ytjackepkphdibaa
namespace Sx
open Go
set_option linter.unusedSimpArgs false
set_option linter.unusedVariables false

namespace MR
def note (s : MR) (t d c b a : Int) : MR := { s with l := s.l ++ [⟨t, d, c, b, a⟩] }
def room (s : MR) : Prop := (s.l.length + 1) * 40 ≤ 140737488355328 ∧ s.t.length = s.h.length
def isWord (s : MR) (k : Int) : Prop := 0 ≤ k ∧ k < s.w.length
def isLock (s : MR) (k : Int) : Prop := 0 ≤ k ∧ k < s.h.length
instance (s : MR) (k : Int) : Decidable (s.isWord k) := inferInstanceAs (Decidable (_ ∧ _))
instance (s : MR) (k : Int) : Decidable (s.isLock k) := inferInstanceAs (Decidable (_ ∧ _))
def word (s : MR) (k : Int) : Int := s.w.getD k.toNat 0
def isHeld (s : MR) (k : Int) : Bool := s.h.getD k.toNat false
def who (s : MR) (k : Int) : Int := s.t.getD k.toNat 0
def load (s : MR) (t k : Int) : Int × Int × MR := if s.isWord k then (s.word k, 0, s.note t 1 k (s.word k) (s.word k)) else (0, 1, s)
def store (s : MR) (t k v : Int) : Int × MR := if s.isWord k then (0, { s.note t 2 k (s.word k) v with w := s.w.set k.toNat v }) else (1, s)
def swap (s : MR) (t k o v : Int) : Bool × Int × MR :=
  if s.isWord k then (if s.word k = o then (true, 0, { s.note t 3 k o v with w := s.w.set k.toNat v }) else (false, 0, s.note t 3 k (s.word k) (s.word k))) else (false, 1, s)
def take (s : MR) (t k d : Int) : Bool × Int × MR :=
  if s.isLock k then (if s.isHeld k then (if s.who k = t then (false, 5, s) else if d = 4 then (false, 6, s) else (false, 0, s.note t d k 1 1))
    else (true, 0, { s.note t d k 0 1 with h := s.h.set k.toNat true, t := s.t.set k.toNat t })) else (false, 1, s)
def unlock (s : MR) (t k : Int) : Int × MR :=
  if s.isLock k then (if s.isHeld k then (if s.who k = t then (0, { s.note t 6 k 1 0 with h := s.h.set k.toNat false }) else (3, s)) else (3, s)) else (1, s)
def holder (s : MR) (k : Int) : Int := if s.isLock k then (if s.isHeld k then s.who k else -1) else -1
def cap4 (n : Int) : Int := if 4096 < (if 0 > n then 0 else n) then 4096 else if 0 > n then 0 else n
def many (n : Int) : Nat := (cap4 n).toNat
def mk0 (w l : Int) : MR := ⟨List.replicate (many w) 0, List.replicate (many l) false, List.replicate (many l) 0, []⟩
end MR

abbrev oR (s : MR) : V.O := .inr (.ref s)
theorem endR {n' : Nat} {h' : Heap V} {v0 v : AV} {E : List (Blk V)} {s : MR} {sw sh st sl a b c d : Nat} {x y z u : AV}
    (hne : (a ≠ 0 ∧ b ≠ 0 ∧ c ≠ 0 ∧ d ≠ 0) ∧ a ≠ b ∧ a ≠ c ∧ a ≠ d ∧ b ≠ c ∧ b ≠ d ∧ c ≠ d)
    (h0 : h'.get 0 = some (.cells 43 [x, y, z, u]))
    (hx : x.sub (.sl false a 0 1 s.w.length (s.w.length + sw))) (hy : y.sub (.sl false b 0 1 s.h.length (s.h.length + sh))) (hz : z.sub (.sl false c 0 1 s.t.length (s.t.length + st))) (hu : u.sub (.sl false d 0 5 s.l.length (s.l.length + sl)))
    (h1 : BSub (h'.get a) (.arr 3 Kd.int s.w sw : Blk V)) (h2 : BSub (h'.get b) (.arr 4 Kd.bool s.h sh : Blk V)) (h3 : BSub (h'.get c) (.arr 3 Kd.int s.t st : Blk V)) (h4 : BSub (h'.get d) (.arr 45 Kd.deed s.l sl : Blk V))
    (hf : Fin 5 n' v0 (((((h'.del 0).del a).del b).del c).del d) v E) : EndObj 5 n' v0 h' v (oR s) E := by
  refine ⟨_, pack (ren := [(0, 0), (1, a), (2, b), (3, c), (4, d)]) laid_V (x := oR s) (n := 5) (m := 0) (h := h') ⟨rBlk s sw sh st sl, rfl, rfl, sw, sh, st, sl, rfl⟩ rfl rfl ⟨?_, ?_, ?_, ?_, ?_, trivial⟩ rfl, rfl, hf⟩
  · show BSub (h'.get 0) _
    rw [h0]
    exact BSub.cells 43 _ _ (AV.subL_cons hx (AV.subL_cons hy (AV.subL_cons hz (AV.subL_cons hu AV.subL_nil))))
  · show BSub ((h'.del 0).get a) _
    rw [Heap.get_del_ne hne.1.1]; exact h1
  · show BSub (((h'.del 0).del a).get b) _
    rw [Heap.get_del_ne hne.2.1.symm, Heap.get_del_ne hne.1.2.1]; exact h2
  · show BSub ((((h'.del 0).del a).del b).get c) _
    rw [Heap.get_del_ne hne.2.2.2.2.1.symm, Heap.get_del_ne hne.2.2.1.symm, Heap.get_del_ne hne.1.2.2.1]; exact h3
  · show BSub (((((h'.del 0).del a).del b).del c).get d) _
    rw [Heap.get_del_ne hne.2.2.2.2.2.2.symm, Heap.get_del_ne hne.2.2.2.2.2.1.symm, Heap.get_del_ne hne.2.2.2.1.symm, Heap.get_del_ne hne.1.2.2.2]; exact h4

theorem stayR {n' : Nat} {h' : Heap V} {v0 v : AV} {s : MR} {sw sh st sl : Nat}
    (h0 : h'.get 0 = some (.cells 43 [.sl false 1 0 1 s.w.length (s.w.length + sw), .sl false 2 0 1 s.h.length (s.h.length + sh), .sl false 3 0 1 s.t.length (s.t.length + st), .sl false 4 0 5 s.l.length (s.l.length + sl)]))
    (h1 : h'.get 1 = some (.arr 3 Kd.int s.w sw)) (h2 : h'.get 2 = some (.arr 4 Kd.bool s.h sh)) (h3 : h'.get 3 = some (.arr 3 Kd.int s.t st)) (h4 : h'.get 4 = some (.arr 45 Kd.deed s.l sl))
    (hv : v0.sub v) (hn : v.on noName = true) : EndObj 5 n' v0 h' v (oR s) [] :=
  endR (a := 1) (b := 2) (c := 3) (d := 4) (by decide) h0 (AV.sub_same _) (AV.sub_same _) (AV.sub_same _) (AV.sub_same _) (.of_eq h1) (.of_eq h2) (.of_eq h3) (.of_eq h4) (.plain hv hn)
theorem noteR {n' : Nat} {h' : Heap V} {v0 v : AV} {s s' : MR} {sw sh st d y : Nat} (hd : d ≠ 0 ∧ 1 ≠ d ∧ 2 ≠ d ∧ 3 ≠ d)
    (h0 : h'.get 0 = some (.cells 43 [.sl false 1 0 1 s.w.length (s.w.length + sw), .sl false 2 0 1 s.h.length (s.h.length + sh), .sl false 3 0 1 s.t.length (s.t.length + st), .sl false d 0 5 (s.l.length + 1) (s.l.length + 1 + y)]))
    (h1 : h'.get 1 = some (.arr 3 Kd.int s'.w sw)) (h2 : h'.get 2 = some (.arr 4 Kd.bool s'.h sh)) (h3 : h'.get 3 = some (.arr 3 Kd.int s'.t st)) (h4 : h'.get d = some (.arr 45 Kd.deed s'.l y))
    (e1 : s.w.length = s'.w.length) (e2 : s.h.length = s'.h.length) (e3 : s.t.length = s'.t.length) (e4 : s.l.length + 1 = s'.l.length)
    (hv : v0.sub v) (hn : v.on noName = true) : EndObj 5 n' v0 h' v (oR s') [] :=
  endR (a := 1) (b := 2) (c := 3) (d := d) ⟨⟨by decide, by decide, by decide, hd.1⟩, by decide, by decide, hd.2.1, by decide, hd.2.2.1, hd.2.2.2⟩ h0 (AV.sub_sl e1 (by rw [e1])) (AV.sub_sl e2 (by rw [e2])) (AV.sub_sl e3 (by rw [e3])) (AV.sub_sl e4 (by rw [e4])) (.of_eq h1) (.of_eq h2) (.of_eq h3) (.of_eq h4) (.plain hv hn)

theorem tmV_ref {s : MR} {hp : Heap V} {n : Nat} (h : tmV (oR s) hp n) : n = 5 ∧ ∃ sw sh st sl, hp = rUp s sw sh st sl := by
  obtain ⟨h0, rfl, hn, sw, sh, st, sl, rfl⟩ := h
  exact ⟨hn, sw, sh, st, sl, rfl⟩

abbrev RunR := MR → List (Arg V) → (AV → MR → List (Blk V) → Out V) → Out V
def onR (f : RunR) : RunObj V := fun x ar K => match x with
  | .inr (.ref s) => f s ar fun v s' E => K v (oR s') E
  | _ => .bad 500
theorem ref_hook {C : Cfg Try.prog V} (hC : C.ok) {f n : Nat} {fn : Func} {sgn : List (Sg V)} {run : RunR} (hg : Try.prog.funcs[f]? = some fn ∧ (fn.name == "runtime.NumGoroutine") = false) (hb : fn.body.isSome = true)
    (H : ∀ (M : Goal V) (s : MR) (ar : List (Arg V)) (K0 : AV → MR → List (Blk V) → Out V), (run s ar K0).holds M → ar.length + 1 ≤ fn.ntmps ∧ ∀ sw sh st sl,
      (runF C n f fn (.ptr 0 0 :: argAV 5 ar) (rUp s sw sh st sl ++ argHeap 5 ar) (5 + ar.length)).holds ⟨fun _ _ => False, fun v0 h' n' => ∃ v s' E, (K0 v s' E).holds M ∧ EndObj 5 n' v0 h' v (oR s') E⟩) :
    HookOk Try.prog f (hookObj 5 sgn (onR run)) := by
  refine hookObj_ok laid_V ⟨fn, hg.1, hg.2, by cases hb' : fn.body <;> simp [hb'] at hb ⊢⟩ ?_
  intro M x ar K0 h hp m ht
  unfold onR at h
  split at h
  · rename_i s
    obtain ⟨rfl, sw, sh, st, sl, rfl⟩ := tmV_ref ht
    obtain ⟨hl, h⟩ := H M s ar _ h
    refine ⟨rfl, calls_runF (R := fun v0 h' n' _ => ∃ v x' E, (K0 v x' E).holds M ∧ EndObj 5 n' v0 h' v x' E) hC (n := n) hg hb ?_ ?_⟩
    · have : ∀ (j : Nat) (l : List (Arg V)), (argAV j l).length = l.length := by
        intro j l; induction l generalizing j with
        | nil => rfl
        | cons a l ih => simp [argAV, ih]
      simp only [List.length_cons, this]; exact hl
    · exact Out.weak (h sw sh st sl) (fun _ _ h => h) (fun v0 h' n' ⟨v, s', E, h1, h2⟩ => ⟨v, _, E, h1, h2⟩)
  · exact h.elim

def runLoadR : RunR := fun s ar K => match ar with
  | [.int .i64 t, .int .i64 k] => .need s.room (K (.tup [.int .i64 (s.load t k).1, .int .i64 (s.load t k).2.1]) ((s.load t k).2.2) [])
  | _ => .bad 500
def runStoreR : RunR := fun s ar K => match ar with
  | [.int .i64 t, .int .i64 k, .int .i64 v] => .need s.room (K (.int .i64 (s.store t k v).1) ((s.store t k v).2) [])
  | _ => .bad 500
def runSwapR : RunR := fun s ar K => match ar with
  | [.int .i64 t, .int .i64 k, .int .i64 o, .int .i64 v] => .need s.room (K (.tup [.bool (s.swap t k o v).1, .int .i64 (s.swap t k o v).2.1]) ((s.swap t k o v).2.2) [])
  | _ => .bad 500
def runLockR : RunR := fun s ar K => match ar with
  | [.int .i64 t, .int .i64 k] => .need s.room (K (.int .i64 (s.take t k 4).2.1) ((s.take t k 4).2.2) [])
  | _ => .bad 500
def runTryR : RunR := fun s ar K => match ar with
  | [.int .i64 t, .int .i64 k] => .need s.room (K (.tup [.bool (s.take t k 5).1, .int .i64 (s.take t k 5).2.1]) ((s.take t k 5).2.2) [])
  | _ => .bad 500
def runUnlockR : RunR := fun s ar K => match ar with
  | [.int .i64 t, .int .i64 k] => .need s.room (K (.int .i64 (s.unlock t k).1) ((s.unlock t k).2) [])
  | _ => .bad 500
def runHolderR : RunR := fun s ar K => match ar with
  | [.int .i64 k] => .need s.room (K (.int .i64 (s.holder k)) (s) [])
  | _ => .bad 500

theorem hLoadR : HookOk Try.prog 30 (hookObj 5 [.int .i64, .int .i64] (onR runLoadR)) := by
  refine ref_hook cfg0_ok (n := 40) (fn := Try.f30) ⟨by kernel_rfl, by kernel_rfl⟩ (by kernel_rfl) ?_
  intro M s ar K0 H
  unfold runLoadR at H
  split at H
  · rename_i t k
    obtain ⟨⟨hroom, hth⟩, H⟩ := H
    refine ⟨show 3 ≤ _ by decide +kernel, fun sw sh st sl => ?_⟩
    simp only [argAV, Arg.av, argHeap, List.append_nil, List.length_cons, List.length_nil, Nat.reduceAdd, Nat.zero_add]
    rw [t30]
    simp only [Out.holds, Nat.zero_add, decide_eq_true_eq, decide_eq_false_iff_not, beq_iff_eq, beq_eq_false_iff_ne, bne_iff_ne, bne_eq_false_iff_eq, Bool.and_true, Bool.and_eq_true, Bool.not_eq_true', Bool.not_eq_false', beq_true]
    refine ⟨fun h => ⟨fun h2 => ⟨_, _, _, H, ?_⟩, fun h2 => ⟨by omega, by omega, by omega, by omega, ⟨trivial, trivial, trivial, hroom⟩, fun y => ⟨by omega, by omega, _, _, _, H, ?_⟩⟩⟩, fun h => ⟨_, _, _, H, ?_⟩⟩
    · rw [show s.load t k = (0, 1, s) from if_neg (fun hh : s.isWord k => by have := hh.1; have := hh.2; omega)]
      exact stayR rfl rfl rfl rfl rfl (AV.sub_two AV.sub_lit' AV.sub_lit') rfl
    · rw [show s.load t k = _ from if_pos (show s.isWord k from ⟨by omega, by omega⟩)]
      exact noteR (s := s) (by decide) rfl rfl rfl rfl rfl rfl rfl rfl (by simp [MR.note]) (AV.sub_two (AV.sub_same _) AV.sub_lit') rfl
    · rw [show s.load t k = (0, 1, s) from if_neg (fun hh : s.isWord k => by have := hh.1; have := hh.2; omega)]
      exact stayR rfl rfl rfl rfl rfl (AV.sub_two AV.sub_lit' AV.sub_lit') rfl
  · exact H.elim

theorem hStoreR : HookOk Try.prog 31 (hookObj 5 [.int .i64, .int .i64, .int .i64] (onR runStoreR)) := by
  refine ref_hook cfg0_ok (n := 40) (fn := Try.f31) ⟨by kernel_rfl, by kernel_rfl⟩ (by kernel_rfl) ?_
  intro M s ar K0 H
  unfold runStoreR at H
  split at H
  · rename_i t k v
    obtain ⟨⟨hroom, hth⟩, H⟩ := H
    refine ⟨show 4 ≤ _ by decide +kernel, fun sw sh st sl => ?_⟩
    simp only [argAV, Arg.av, argHeap, List.append_nil, List.length_cons, List.length_nil, Nat.reduceAdd, Nat.zero_add]
    rw [t31]
    simp only [Out.holds, Nat.zero_add, decide_eq_true_eq, decide_eq_false_iff_not, beq_iff_eq, beq_eq_false_iff_ne, bne_iff_ne, bne_eq_false_iff_eq, Bool.and_true, Bool.and_eq_true, Bool.not_eq_true', Bool.not_eq_false', beq_true]
    refine ⟨fun h => ⟨fun h2 => ⟨_, _, _, H, ?_⟩, fun h2 => ⟨by omega, by omega, ⟨trivial, trivial, trivial, hroom⟩, fun y => ⟨by omega, by omega, _, _, _, H, ?_⟩⟩⟩, fun h => ⟨_, _, _, H, ?_⟩⟩
    · rw [show s.store t k v = (1, s) from if_neg (fun hh : s.isWord k => by have := hh.1; have := hh.2; omega)]
      exact stayR rfl rfl rfl rfl rfl AV.sub_lit' rfl
    · rw [show s.store t k v = _ from if_pos (show s.isWord k from ⟨by omega, by omega⟩)]
      exact noteR (s := s) (by decide) rfl rfl rfl rfl rfl (by simp) rfl rfl (by simp [MR.note]) AV.sub_lit' rfl
    · rw [show s.store t k v = (1, s) from if_neg (fun hh : s.isWord k => by have := hh.1; have := hh.2; omega)]
      exact stayR rfl rfl rfl rfl rfl AV.sub_lit' rfl
  · exact H.elim

theorem hSwapR : HookOk Try.prog 32 (hookObj 5 [.int .i64, .int .i64, .int .i64, .int .i64] (onR runSwapR)) := by
  refine ref_hook cfg0_ok (n := 40) (fn := Try.f32) ⟨by kernel_rfl, by kernel_rfl⟩ (by kernel_rfl) ?_
  intro M s ar K0 H
  unfold runSwapR at H
  split at H
  · rename_i t k o v
    obtain ⟨⟨hroom, hth⟩, H⟩ := H
    refine ⟨show 5 ≤ _ by decide +kernel, fun sw sh st sl => ?_⟩
    simp only [argAV, Arg.av, argHeap, List.append_nil, List.length_cons, List.length_nil, Nat.reduceAdd, Nat.zero_add]
    rw [t32]
    simp only [Out.holds, Nat.zero_add, decide_eq_true_eq, decide_eq_false_iff_not, beq_iff_eq, beq_eq_false_iff_ne, bne_iff_ne, bne_eq_false_iff_eq, Bool.and_true, Bool.and_eq_true, Bool.not_eq_true', Bool.not_eq_false', beq_true]
    refine ⟨fun h => ⟨fun h2 => ⟨_, _, _, H, ?_⟩, fun h2 => ⟨by omega, by omega, fun h3 => ⟨by omega, by omega, by omega, by simp; omega, ⟨trivial, trivial, trivial, hroom⟩, fun y => ⟨_, _, _, H, ?_⟩⟩, fun h3 => ⟨by omega, by omega, ⟨trivial, trivial, trivial, hroom⟩, fun y => ⟨_, _, _, H, ?_⟩⟩⟩⟩, fun h => ⟨_, _, _, H, ?_⟩⟩
    · rw [show s.swap t k o v = (false, 1, s) from if_neg (fun hh : s.isWord k => by have := hh.1; have := hh.2; omega)]
      exact stayR rfl rfl rfl rfl rfl (AV.sub_two AV.sub_ff' AV.sub_lit') rfl
    · have h3' : s.word k = o := h3
      rw [show s.swap t k o v = _ from (if_pos (show s.isWord k from ⟨by omega, by omega⟩)).trans (if_pos h3')]
      refine noteR (s := s) (by decide) rfl rfl rfl rfl ?_ (by simp) rfl rfl (by simp [MR.note]) (AV.sub_two (AV.sub_bool (beq_iff_eq.2 h3)) AV.sub_lit') rfl
      refine congrArg (fun z => some (Blk.arr 45 Kd.deed (s.l ++ [z]) y : Blk V)) ?_
      refine congr (congrArg (Deed.mk t 3 k) h3) ?_
      show (s.w.set k.toNat v).getD k.toNat (0 : Int) = v
      rw [List.getD_eq_getElem?_getD, List.getElem?_set_self (by omega)]; rfl
    · have h3' : ¬ s.word k = o := h3
      rw [show s.swap t k o v = _ from (if_pos (show s.isWord k from ⟨by omega, by omega⟩)).trans (if_neg h3')]
      exact noteR (s := s) (by decide) rfl rfl rfl rfl rfl rfl rfl rfl (by simp [MR.note]) (AV.sub_two (AV.sub_bool (beq_eq_false_iff_ne.2 h3)) AV.sub_lit') rfl
    · rw [show s.swap t k o v = (false, 1, s) from if_neg (fun hh : s.isWord k => by have := hh.1; have := hh.2; omega)]
      exact stayR rfl rfl rfl rfl rfl (AV.sub_two AV.sub_ff' AV.sub_lit') rfl
  · exact H.elim

theorem hLockR : HookOk Try.prog 33 (hookObj 5 [.int .i64, .int .i64] (onR runLockR)) := by
  refine ref_hook cfg0_ok (n := 40) (fn := Try.f33) ⟨by kernel_rfl, by kernel_rfl⟩ (by kernel_rfl) ?_
  intro M s ar K0 H
  unfold runLockR at H
  split at H
  · rename_i t k
    obtain ⟨⟨hroom, hth⟩, H⟩ := H
    refine ⟨show 3 ≤ _ by decide +kernel, fun sw sh st sl => ?_⟩
    simp only [argAV, Arg.av, argHeap, List.append_nil, List.length_cons, List.length_nil, Nat.reduceAdd, Nat.zero_add]
    rw [t33]
    simp only [Out.holds, Nat.zero_add, decide_eq_true_eq, decide_eq_false_iff_not, beq_iff_eq, beq_eq_false_iff_ne, bne_iff_ne, bne_eq_false_iff_eq, Bool.and_true, Bool.and_eq_true, Bool.not_eq_true', Bool.not_eq_false', beq_true]
    refine ⟨fun h => ⟨fun h2 => ⟨_, _, _, H, ?_⟩, fun h2 => ⟨by omega, by omega, fun h3 => ⟨by omega, by omega, fun h4 => ⟨_, _, _, H, ?_⟩, fun h4 => ⟨_, _, _, H, ?_⟩⟩, fun h3 => ⟨by omega, by omega, by omega, by omega, ⟨trivial, trivial, trivial, hroom⟩, fun y => ⟨_, _, _, H, ?_⟩⟩⟩⟩, fun h => ⟨_, _, _, H, ?_⟩⟩
    · rw [show s.take t k 4 = (false, 1, s) from if_neg (fun hh : s.isLock k => by have := hh.1; have := hh.2; omega)]
      exact stayR rfl rfl rfl rfl rfl AV.sub_lit' rfl
    · rw [show s.take t k 4 = _ from (if_pos (show s.isLock k from ⟨by omega, by omega⟩)).trans ((if_pos h3).trans (if_pos h4))]
      exact stayR rfl rfl rfl rfl rfl AV.sub_lit' rfl
    · rw [show s.take t k 4 = _ from (if_pos (show s.isLock k from ⟨by omega, by omega⟩)).trans ((if_pos h3).trans ((if_neg h4).trans (if_pos rfl)))]
      exact stayR rfl rfl rfl rfl rfl AV.sub_lit' rfl
    · rw [show s.take t k 4 = _ from (if_pos (show s.isLock k from ⟨by omega, by omega⟩)).trans (if_neg (fun hh => absurd (h3.symm.trans hh) (by decide)))]
      exact noteR (s := s) (by decide) rfl rfl rfl rfl rfl rfl (by simp) (by simp) (by simp [MR.note]) AV.sub_lit' rfl
    · rw [show s.take t k 4 = (false, 1, s) from if_neg (fun hh : s.isLock k => by have := hh.1; have := hh.2; omega)]
      exact stayR rfl rfl rfl rfl rfl AV.sub_lit' rfl
  · exact H.elim

theorem hTryR : HookOk Try.prog 34 (hookObj 5 [.int .i64, .int .i64] (onR runTryR)) := by
  refine ref_hook cfg0_ok (n := 40) (fn := Try.f34) ⟨by kernel_rfl, by kernel_rfl⟩ (by kernel_rfl) ?_
  intro M s ar K0 H
  unfold runTryR at H
  split at H
  · rename_i t k
    obtain ⟨⟨hroom, hth⟩, H⟩ := H
    refine ⟨show 3 ≤ _ by decide +kernel, fun sw sh st sl => ?_⟩
    simp only [argAV, Arg.av, argHeap, List.append_nil, List.length_cons, List.length_nil, Nat.reduceAdd, Nat.zero_add]
    rw [t34]
    simp only [Out.holds, Nat.zero_add, decide_eq_true_eq, decide_eq_false_iff_not, beq_iff_eq, beq_eq_false_iff_ne, bne_iff_ne, bne_eq_false_iff_eq, Bool.and_true, Bool.and_eq_true, Bool.not_eq_true', Bool.not_eq_false', beq_true]
    refine ⟨fun h => ⟨fun h2 => ⟨_, _, _, H, ?_⟩, fun h2 => ⟨by omega, by omega, fun h3 => ⟨by omega, by omega, fun h4 => ⟨_, _, _, H, ?_⟩, fun h4 => ⟨by omega, by omega, fun _ => ⟨⟨trivial, trivial, trivial, hroom⟩, fun y => ⟨_, _, _, H, ?_⟩⟩, fun h5 => absurd (h3.symm.trans h5) (by decide)⟩⟩, fun h3 => ⟨by omega, by omega, fun h5 => absurd (h3.symm.trans h5) (by decide), fun _ => ⟨by omega, by omega, by omega, by omega, ⟨trivial, trivial, trivial, hroom⟩, fun y => ⟨_, _, _, H, ?_⟩⟩⟩⟩⟩, fun h => ⟨_, _, _, H, ?_⟩⟩
    · rw [show s.take t k 5 = (false, 1, s) from if_neg (fun hh : s.isLock k => by have := hh.1; have := hh.2; omega)]
      exact stayR rfl rfl rfl rfl rfl (AV.sub_two AV.sub_ff' AV.sub_lit') rfl
    · rw [show s.take t k 5 = _ from (if_pos (show s.isLock k from ⟨by omega, by omega⟩)).trans ((if_pos h3).trans (if_pos h4))]
      exact stayR rfl rfl rfl rfl rfl (AV.sub_two AV.sub_ff' AV.sub_lit') rfl
    · rw [show s.take t k 5 = _ from (if_pos (show s.isLock k from ⟨by omega, by omega⟩)).trans ((if_pos h3).trans ((if_neg h4).trans (if_neg (by decide))))]
      exact noteR (s := s) (by decide) rfl rfl rfl rfl rfl rfl rfl rfl (by simp [MR.note]) (AV.sub_two AV.sub_ff' AV.sub_lit') rfl
    · rw [show s.take t k 5 = _ from (if_pos (show s.isLock k from ⟨by omega, by omega⟩)).trans (if_neg (fun hh => absurd (h3.symm.trans hh) (by decide)))]
      exact noteR (s := s) (by decide) rfl rfl rfl rfl rfl rfl (by simp) (by simp) (by simp [MR.note]) (AV.sub_two AV.sub_tt' AV.sub_lit') rfl
    · rw [show s.take t k 5 = (false, 1, s) from if_neg (fun hh : s.isLock k => by have := hh.1; have := hh.2; omega)]
      exact stayR rfl rfl rfl rfl rfl (AV.sub_two AV.sub_ff' AV.sub_lit') rfl
  · exact H.elim

theorem hUnlockR : HookOk Try.prog 35 (hookObj 5 [.int .i64, .int .i64] (onR runUnlockR)) := by
  refine ref_hook cfg0_ok (n := 40) (fn := Try.f35) ⟨by kernel_rfl, by kernel_rfl⟩ (by kernel_rfl) ?_
  intro M s ar K0 H
  unfold runUnlockR at H
  split at H
  · rename_i t k
    obtain ⟨⟨hroom, hth⟩, H⟩ := H
    refine ⟨show 3 ≤ _ by decide +kernel, fun sw sh st sl => ?_⟩
    simp only [argAV, Arg.av, argHeap, List.append_nil, List.length_cons, List.length_nil, Nat.reduceAdd, Nat.zero_add]
    rw [t35]
    simp only [Out.holds, Nat.zero_add, decide_eq_true_eq, decide_eq_false_iff_not, beq_iff_eq, beq_eq_false_iff_ne, bne_iff_ne, bne_eq_false_iff_eq, Bool.and_true, Bool.and_eq_true, Bool.not_eq_true', Bool.not_eq_false', beq_true]
    refine ⟨fun h => ⟨fun h2 => ⟨_, _, _, H, ?_⟩, fun h2 => ⟨by omega, by omega, fun h3 => ⟨_, _, _, H, ?_⟩, fun h3 => ⟨by omega, by omega, fun h4 => ⟨_, _, _, H, ?_⟩, fun h4 => ⟨by omega, by omega, ⟨trivial, trivial, trivial, hroom⟩, fun y => ⟨_, _, _, H, ?_⟩⟩⟩⟩⟩, fun h => ⟨_, _, _, H, ?_⟩⟩
    · rw [show s.unlock t k = (1, s) from if_neg (fun hh : s.isLock k => by have := hh.1; have := hh.2; omega)]
      exact stayR rfl rfl rfl rfl rfl AV.sub_lit' rfl
    · rw [show s.unlock t k = _ from (if_pos (show s.isLock k from ⟨by omega, by omega⟩)).trans (if_neg (fun hh => absurd (h3.symm.trans hh) (by decide)))]
      exact stayR rfl rfl rfl rfl rfl AV.sub_lit' rfl
    · rw [show s.unlock t k = _ from (if_pos (show s.isLock k from ⟨by omega, by omega⟩)).trans ((if_pos h3).trans (if_neg h4))]
      exact stayR rfl rfl rfl rfl rfl AV.sub_lit' rfl
    · rw [show s.unlock t k = _ from (if_pos (show s.isLock k from ⟨by omega, by omega⟩)).trans ((if_pos h3).trans (if_pos h4))]
      exact noteR (s := s) (by decide) rfl rfl rfl rfl rfl rfl (by simp) rfl (by simp [MR.note]) AV.sub_lit' rfl
    · rw [show s.unlock t k = (1, s) from if_neg (fun hh : s.isLock k => by have := hh.1; have := hh.2; omega)]
      exact stayR rfl rfl rfl rfl rfl AV.sub_lit' rfl
  · exact H.elim

theorem hHolderR : HookOk Try.prog 17 (hookObj 5 [.int .i64] (onR runHolderR)) := by
  refine ref_hook cfg0_ok (n := 40) (fn := Try.f17) ⟨by kernel_rfl, by kernel_rfl⟩ (by kernel_rfl) ?_
  intro M s ar K0 H
  unfold runHolderR at H
  split at H
  · rename_i k
    obtain ⟨⟨hroom, hth⟩, H⟩ := H
    refine ⟨show 2 ≤ _ by decide +kernel, fun sw sh st sl => ?_⟩
    simp only [argAV, Arg.av, argHeap, List.append_nil, List.length_cons, List.length_nil, Nat.reduceAdd, Nat.zero_add]
    rw [t17]
    simp only [Out.holds, Nat.zero_add, decide_eq_true_eq, decide_eq_false_iff_not, beq_iff_eq, beq_eq_false_iff_ne, bne_iff_ne, bne_eq_false_iff_eq, Bool.and_true, Bool.and_eq_true, Bool.not_eq_true', Bool.not_eq_false', beq_true]
    refine ⟨fun h => ⟨fun h2 => ⟨_, _, _, H, ?_⟩, fun h2 => ⟨by omega, by omega, fun h3 => ⟨_, _, _, H, ?_⟩, fun h3 => ⟨by omega, by omega, _, _, _, H, ?_⟩⟩⟩, fun h => ⟨_, _, _, H, ?_⟩⟩
    · rw [show s.holder k = -1 from if_neg (fun hh : s.isLock k => by have := hh.1; have := hh.2; omega)]
      exact stayR rfl rfl rfl rfl rfl AV.sub_lit' rfl
    · rw [show s.holder k = -1 from (if_pos (show s.isLock k from ⟨by omega, by omega⟩)).trans (if_neg (fun hh => absurd (h3.symm.trans hh) (by decide)))]
      exact stayR rfl rfl rfl rfl rfl AV.sub_lit' rfl
    · rw [show s.holder k = s.who k from (if_pos (show s.isLock k from ⟨by omega, by omega⟩)).trans (if_pos h3)]
      exact stayR rfl rfl rfl rfl rfl (AV.sub_same _) rfl
    · rw [show s.holder k = -1 from if_neg (fun hh : s.isLock k => by have := hh.1; have := hh.2; omega)]
      exact stayR rfl rfl rfl rfl rfl AV.sub_lit' rfl
  · exact H.elim

end Sx
end Go.Proofs.Ytjackepkphdibaa
