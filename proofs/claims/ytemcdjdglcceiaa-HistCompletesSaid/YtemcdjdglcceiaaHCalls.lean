/-
  What 'calls' does: it reads all records.
-/
import Derived.Test.YtemcdjdglcceiaaHTrees1
import Derived.Test.YtemcdjdglcceiaaHInv
namespace Go.Proofs.Ytemcdjdglcceiaa
namespace Sx
open Go
set_option linter.unusedSimpArgs false
set_option linter.unusedVariables false

theorem cfgA_ok : cfgA.ok := by
  refine ⟨tab_met, kinds_met, mixed_met, fun g fn h => ?_, fun g H h => by cases h⟩
  unfold cfgA fnsA at h
  simp only at h
  split at h <;> cases h <;> exact ⟨by kernel_rfl, by kernel_rfl⟩
theorem cfgB_ok : cfgB.ok := ⟨cfgA_ok.τ, cfgA_ok.κ, cfgA_ok.mixed, cfgA_ok.fns, cfgA_ok.hooks⟩

/-- The place of a thread's call is one. -/
structure RW (n : Nat) (s : RD) : Prop where
  len : s.cs.length ≤ n
  at_ : ∀ t o, mget s.at_ t = some o → 0 ≤ o.call ∧ o.call.toNat < s.cs.length

theorem RW.step {n : Nat} {s s' : RD} (W : RW n s) {r : Rec} {i : Nat} (e : s.step r i = some s') : RW (n + 1) s' := by
  have hpush : RW (n + 1) (s.push r i) := by
    refine ⟨by show (s.cs ++ [_]).length ≤ _; have := W.len; simp; omega, fun t o h => ?_⟩
    have h' : (if t = r.thread then some (Opn.of r s.cs.length) else mget s.at_ t) = some o := by rw [← mget_put]; exact h
    show _ ∧ _ < (s.cs ++ [_]).length
    split at h'
    · cases h'
      exact ⟨by show (0 : Int) ≤ (s.cs.length : Int); omega, by show (s.cs.length : Int).toNat < _; simp⟩
    · have := W.at_ t o h'; simp; omega
  have hupd : ∀ (o : Opn) (f : Cal → Cal), mget s.at_ r.thread = some o → RW (n + 1) (s.upd r o f) := by
    intro o f ho
    refine ⟨by show (s.cs.set _ _).length ≤ _; have := W.len; simp; omega, fun t o' h => ?_⟩
    have h' : (if t = r.thread then some (Opn.of r o.call) else mget s.at_ t) = some o' := by rw [← mget_put]; exact h
    show _ ∧ _ < (s.cs.set _ _).length
    rw [List.length_set]
    split at h'
    · cases h'; have := W.at_ _ _ ho; exact this
    · exact W.at_ t o' h'
  unfold RD.step at e
  split at e
  · cases e
  · split at e
    · split at e
      · cases e; exact ⟨by have := W.len; omega, W.at_⟩
      · cases e
    · split at e
      · unfold RD.invoke at e
        split at e
        · cases e; exact hpush
        · cases e
      · unfold RD.follow at e
        split at e
        · cases e
        · rename_i o ho
          split at e
          · cases e
          · split at e
            · split at e
              · cases e; exact hupd o _ ho
              · cases e
            · split at e
              · split at e
                · cases e; exact hupd o _ ho
                · cases e
              · cases e
theorem readTo_weak {l : List Rec} : ∀ {n : Nat} {s : RD}, readTo l n = some s → RW n s
  | 0, s, h => by cases h; exact ⟨Nat.le_refl _, fun t o h => (by cases h)⟩
  | n + 1, s', h => by
    obtain ⟨s, h1, h2⟩ := Option.bind_eq_some_iff.1 h
    exact (readTo_weak h1).step h2

theorem body42 (p : PL) (x : Nat × RD × Nat) (hi : x.1 ≤ p.l.length) (W : RW x.1 x.2.1) (Q : EX → St V → Prop) (F : AV → Heap V → Nat → Prop)
    (hrt : ∀ ST : St V, x.1 < p.l.length → x.2.1.step (p.l.getD x.1 r0) x.1 = none → Wk 3 [] ST (R42 p) → Q .rt ST)
    (hnx : ∀ (ST : St V) (s' : RD) (sp : Nat) (b : Nat), x.1 < p.l.length → x.2.1.step (p.l.getD x.1 r0) x.1 = some s' → Wk 3 [(3, b)] ST (I42 p (x.1 + 1, s', sp)) → Q .nx ST)
    (hex : ∀ ST : St V, x.1 = p.l.length → Wk 3 [(3, 3)] ST (I42 p x) → Q (.ex 0) ST) :
    (runCode cfgA 60 42 (loopOf Try.f42 0) (I42 p x) (stopT (trimSt [2, 3, 4, 10, 11, 12] [0, 1, 2, 3, 12]))).holds ⟨Q, F⟩ := by
  rw [b42]
  have hb := p.hb
  have hlen := W.len
  obtain ⟨i, s, sp⟩ := x
  simp only at hi W hrt hnx hex hlen ⊢
  simp only [Nat.zero_add]
  change ∀ ST : St V, i < p.l.length → s.step (p.l.getD i (V.enc Kd.rcd).dflt) i = none → Wk 3 [] ST (R42 p) → Q .rt ST at hrt
  change ∀ (ST : St V) (s' : RD) (sp : Nat) (b : Nat), i < p.l.length → s.step (p.l.getD i (V.enc Kd.rcd).dflt) i = some s' → Wk 3 [(3, b)] ST (I42 p (i + 1, s', sp)) → Q .nx ST at hnx
  generalize p.l.getD i (V.enc Kd.rcd).dflt = r at hrt hnx ⊢
  have hw : i < p.l.length → IntKind.wrap .i64 ((i : Int) + 1) = ((i + 1 : Nat) : Int) := fun h => wrap_nat (by omega)
  cases hg : mget s.at_ r.thread with
  | none =>
    simp only [Out.holds, Option.isSome_none, Bool.not_false, Bool.not_true, decide_eq_true_eq, decide_eq_false_iff_not, beq_iff_eq, beq_eq_false_iff_ne, bne_iff_ne, bne_eq_false_iff_eq, Bool.not_eq_true', Bool.not_eq_false', Bool.false_eq_true, false_implies, forall_const, true_implies, and_true, true_and, reduceCtorEq]
    repeat' first | apply And.intro | intro _
    all_goals first
      | trivial
      | omega
      | exact hrt _ (by omega) (by simp [RD.step, RD.invoke, RD.may, RD.follow, *] <;> intros <;> first | omega | simp_all) ⟨⟨AV.sub_same _, AV.sub_same _, trivial⟩, ⟨.same _, trivial⟩, rfl, tl_ok rfl, ⟨.inl (in_ok rfl), .inl (in_ok rfl), .inr rfl, trivial⟩, ⟨Nat.le_of_ble_eq_true rfl, rfl⟩⟩
      | exact hrt _ (by omega) (by simp [RD.step, RD.invoke, RD.may, RD.follow, *] <;> intros <;> first | omega | simp_all) ⟨⟨AV.sub_same _, AV.sub_same _, trivial⟩, ⟨.same _, trivial⟩, rfl, tl_ok rfl, ⟨.inl (in_ok rfl), .inl (in_ok rfl), .inl (in_ok rfl), .inr rfl, trivial⟩, ⟨Nat.le_of_ble_eq_true rfl, rfl⟩⟩
      | exact hrt _ (by omega) (by simp [RD.step, RD.invoke, RD.may, RD.follow, *] <;> intros <;> first | omega | simp_all) ⟨⟨AV.sub_same _, AV.sub_same _, trivial⟩, ⟨.same _, trivial⟩, rfl, tl_ok rfl, ⟨.inl (in_ok rfl), .inl (in_ok rfl), .inl (in_ok rfl), .inr rfl, trivial⟩, ⟨Nat.le_of_ble_eq_true rfl, rfl⟩⟩
      | exact hex _ (by show i = _; omega) ⟨⟨AV.sub_same _, AV.sub_same _, AV.sub_same _, AV.sub_same _, trivial⟩, ⟨.same _, .same _, .same _, .same _, trivial⟩, rfl, tl_ok rfl, ⟨.inl (in_ok rfl), .inl (in_ok rfl), .inl (in_ok rfl), .inr rfl, trivial⟩, ⟨Nat.le_of_ble_eq_true rfl, rfl⟩⟩
      | exact hnx _ (s) sp 3 (by omega) (by simp [RD.step, RD.invoke, RD.may, RD.follow, *] <;> intros <;> first | omega | simp_all) ⟨⟨AV.sub_same _, AV.sub_same _, AV.sub_same _, AV.sub_int (hw (by omega)), trivial⟩, ⟨BSub.cells 67 _ _ (AV.subL_cons (AV.sub_same _) (AV.subL_cons (AV.sub_sl (by simp [RD.push, RD.upd]) (by simp [RD.push, RD.upd])) AV.subL_nil)), .same _, .same _, .same _, trivial⟩, rfl, tl_ok rfl, ⟨.inl (in_ok rfl), .inl (in_ok rfl), .inl (in_ok rfl), .inr rfl, trivial⟩, ⟨Nat.le_of_ble_eq_true rfl, rfl⟩⟩
      | exact hnx _ (s.push r i) _ 12 (by omega) (by simp [RD.step, RD.invoke, RD.may, RD.follow, *] <;> intros <;> first | omega | simp_all) ⟨⟨AV.sub_same _, AV.sub_same _, AV.sub_same _, AV.sub_int (hw (by omega)), trivial⟩, ⟨BSub.cells 67 _ _ (AV.subL_cons (AV.sub_same _) (AV.subL_cons (AV.sub_sl (by simp [RD.push, RD.upd]) (by simp [RD.push, RD.upd])) AV.subL_nil)), .same _, .same _, .same _, trivial⟩, rfl, tl_ok rfl, ⟨.inl (in_ok rfl), .inl (in_ok rfl), .inl (in_ok rfl), .inr rfl, trivial⟩, ⟨Nat.le_of_ble_eq_true rfl, rfl⟩⟩
      | skip
  | some o =>
    obtain ⟨hc0, hc1⟩ := W.at_ _ _ hg
    simp only [Out.holds, Option.isSome_some, Option.getD_some, Bool.not_false, Bool.not_true, decide_eq_true_eq, decide_eq_false_iff_not, beq_iff_eq, beq_eq_false_iff_ne, bne_iff_ne, bne_eq_false_iff_eq, Bool.not_eq_true', Bool.not_eq_false', Bool.false_eq_true, false_implies, forall_const, true_implies, and_true, true_and, reduceCtorEq]
    repeat' first | apply And.intro | intro _
    all_goals first
      | trivial
      | omega
      | exact hrt _ (by omega) (by simp [RD.step, RD.invoke, RD.may, RD.follow, *] <;> intros <;> first | omega | simp_all) ⟨⟨AV.sub_same _, AV.sub_same _, trivial⟩, ⟨.same _, trivial⟩, rfl, tl_ok rfl, ⟨.inl (in_ok rfl), .inl (in_ok rfl), .inr rfl, trivial⟩, ⟨Nat.le_of_ble_eq_true rfl, rfl⟩⟩
      | exact hrt _ (by omega) (by simp [RD.step, RD.invoke, RD.may, RD.follow, *] <;> intros <;> first | omega | simp_all) ⟨⟨AV.sub_same _, AV.sub_same _, trivial⟩, ⟨.same _, trivial⟩, rfl, tl_ok rfl, ⟨.inl (in_ok rfl), .inl (in_ok rfl), .inl (in_ok rfl), .inr rfl, trivial⟩, ⟨Nat.le_of_ble_eq_true rfl, rfl⟩⟩
      | exact hrt _ (by omega) (by simp [RD.step, RD.invoke, RD.may, RD.follow, *] <;> intros <;> first | omega | simp_all) ⟨⟨AV.sub_same _, AV.sub_same _, trivial⟩, ⟨.same _, trivial⟩, rfl, tl_ok rfl, ⟨.inl (in_ok rfl), .inl (in_ok rfl), .inl (in_ok rfl), .inr rfl, trivial⟩, ⟨Nat.le_of_ble_eq_true rfl, rfl⟩⟩
      | exact hex _ (by show i = _; omega) ⟨⟨AV.sub_same _, AV.sub_same _, AV.sub_same _, AV.sub_same _, trivial⟩, ⟨.same _, .same _, .same _, .same _, trivial⟩, rfl, tl_ok rfl, ⟨.inl (in_ok rfl), .inl (in_ok rfl), .inl (in_ok rfl), .inr rfl, trivial⟩, ⟨Nat.le_of_ble_eq_true rfl, rfl⟩⟩
      | exact hnx _ (s) sp 3 (by omega) (by simp [RD.step, RD.invoke, RD.may, RD.follow, *] <;> intros <;> first | omega | simp_all) ⟨⟨AV.sub_same _, AV.sub_same _, AV.sub_same _, AV.sub_int (hw (by omega)), trivial⟩, ⟨BSub.cells 67 _ _ (AV.subL_cons (AV.sub_same _) (AV.subL_cons (AV.sub_sl (by simp [RD.push, RD.upd]) (by simp [RD.push, RD.upd])) AV.subL_nil)), .same _, .same _, .same _, trivial⟩, rfl, tl_ok rfl, ⟨.inl (in_ok rfl), .inl (in_ok rfl), .inl (in_ok rfl), .inr rfl, trivial⟩, ⟨Nat.le_of_ble_eq_true rfl, rfl⟩⟩
      | exact hnx _ (s.push r i) _ 12 (by omega) (by simp [RD.step, RD.invoke, RD.may, RD.follow, *] <;> intros <;> first | omega | simp_all) ⟨⟨AV.sub_same _, AV.sub_same _, AV.sub_same _, AV.sub_int (hw (by omega)), trivial⟩, ⟨BSub.cells 67 _ _ (AV.subL_cons (AV.sub_same _) (AV.subL_cons (AV.sub_sl (by simp [RD.push, RD.upd]) (by simp [RD.push, RD.upd])) AV.subL_nil)), .same _, .same _, .same _, trivial⟩, rfl, tl_ok rfl, ⟨.inl (in_ok rfl), .inl (in_ok rfl), .inl (in_ok rfl), .inr rfl, trivial⟩, ⟨Nat.le_of_ble_eq_true rfl, rfl⟩⟩
      | exact hnx _ (s.upd r o fun c => { c with at_ := i }) sp 3 (by omega) (by simp [RD.step, RD.invoke, RD.may, RD.follow, *] <;> intros <;> first | omega | simp_all) ⟨⟨AV.sub_same _, AV.sub_same _, AV.sub_same _, AV.sub_int (hw (by omega)), trivial⟩, ⟨BSub.cells 67 _ _ (AV.subL_cons (AV.sub_same _) (AV.subL_cons (AV.sub_sl (by simp [RD.push, RD.upd]) (by simp [RD.push, RD.upd])) AV.subL_nil)), .same _, .same _, .same _, trivial⟩, rfl, tl_ok rfl, ⟨.inl (in_ok rfl), .inl (in_ok rfl), .inl (in_ok rfl), .inr rfl, trivial⟩, ⟨Nat.le_of_ble_eq_true rfl, rfl⟩⟩
      | exact hnx _ (s.upd r o fun c => { c with to_ := i }) sp 3 (by omega) (by simp [RD.step, RD.invoke, RD.may, RD.follow, *] <;> intros <;> first | omega | simp_all) ⟨⟨AV.sub_same _, AV.sub_same _, AV.sub_same _, AV.sub_int (hw (by omega)), trivial⟩, ⟨BSub.cells 67 _ _ (AV.subL_cons (AV.sub_same _) (AV.subL_cons (AV.sub_sl (by simp [RD.push, RD.upd]) (by simp [RD.push, RD.upd])) AV.subL_nil)), .same _, .same _, .same _, trivial⟩, rfl, tl_ok rfl, ⟨.inl (in_ok rfl), .inl (in_ok rfl), .inl (in_ok rfl), .inr rfl, trivial⟩, ⟨Nat.le_of_ble_eq_true rfl, rfl⟩⟩
      | skip

theorem l42_ok : LoopOk Try.prog 0 (loopOf Try.f42 0) L42 := by
  refine trimLoop_ok (trim_ok _ _) (loopT_ok (C := cfgA) cfgA_ok (f := 42) (n := 60) (trim_ok [2, 3, 4, 10, 11, 12] [0, 1, 2, 3, 12]) 3 I42 (fun p x => x.1 ≤ p.l.length ∧ readTo p.l x.1 = some x.2.1) (fun p => (0, ⟨[], []⟩, 0)) (fun p x => p.l.length - x.1)
    (fun p (x : RD × Nat) => readTo p.l p.l.length = some x.1) (fun p x => I42 p (p.l.length, x)) (fun p (_ : Unit) => readTo p.l p.l.length = none) (fun p _ => R42 p) (fun p => ⟨Nat.zero_le _, rfl⟩) ?_)
  intro p x ⟨hi, hx⟩
  refine body42 p x hi (readTo_weak hx) _ _ (fun ST hlt hs hw => SImp.of_wk (ren := []) () hw ?_) (fun ST s' sp b hlt hs hw => SImp.of_wk (x.1 + 1, s', sp) hw ⟨⟨hlt, ?_⟩, ?_⟩) (fun ST he hw => ⟨rfl, SImp.of_wk (ren := [(3, 3)]) x.2 ?_ ?_⟩)
  · refine readTo_none (n := x.1 + 1) ?_ hlt
    show (readTo p.l x.1).bind _ = none
    rw [hx]; exact hs
  · show (readTo p.l x.1).bind _ = some s'
    rw [hx]; exact hs
  · show p.l.length - (x.1 + 1) < p.l.length - x.1; omega
  · obtain ⟨i, x⟩ := x
    simp only at he
    subst he; exact hw
  · rw [← he]; exact hx

def runCalls : RunFree V := fun ar K => match ar with
  | [.rows .rcd l c] => .need (l.length ≤ 1099511627776) (.ite (hRight l) (.all Nat fun sp => K (.tup [.sl false 0 0 5 (hCallsOf l).length ((hCallsOf l).length + sp), .tt]) [.arr 35 Kd.cal (hCallsOf l) sp]) (K (.tup [.nilS, .ff]) []))
  | _ => .bad 500

theorem right_some {l : List Rec} {s : RD} (h : readTo l l.length = some s) : hRight l = true ∧ hCallsOf l = s.cs := by
  unfold hRight hCallsOf hCalls; rw [h]; exact ⟨rfl, rfl⟩
theorem right_none {l : List Rec} (h : readTo l l.length = none) : hRight l = false ∧ hCallsOf l = [] := by
  unfold hRight hCallsOf hCalls; rw [h]; exact ⟨rfl, rfl⟩

theorem hCallsHook : HookOk Try.prog 42 (hookFree [.rows Kd.rcd] runCalls) := by
  refine free_hook (C := cfgB) cfgB_ok (n := 40) (fn := Try.f42) ⟨by kernel_rfl, by kernel_rfl⟩ (by kernel_rfl) ?_
  intro M ar K0 H
  unfold runCalls at H
  split at H
  · rename_i l c
    obtain ⟨hb, H1, H2⟩ := H
    refine ⟨show 1 ≤ _ by decide +kernel, ?_⟩
    show (runF cfgB 40 42 Try.f42 [.sl false 0 0 8 l.length c] [(0, .ro Kd.rcd l)] 1).holds _
    rw [t42]
    refine ⟨l42_ok, fun p => p = ⟨l, c, hb⟩, ⟨Nat.le_refl _, SImp.of_wk (ren := [(3, 99)]) ⟨l, c, hb⟩ ?_ rfl⟩, ?_⟩
    · exact ⟨⟨AV.sub_same _, AV.sub_same _, AV.sub_same _, AV.sub_lit', trivial⟩, ⟨BSub.cells 67 _ _ (AV.subL_cons (AV.sub_same _) (AV.subL_cons AV.sub_nilS AV.subL_nil)), .same _, .none _ _, .same _, trivial⟩, rfl, tl_ok rfl, ⟨.inl (in_ok rfl), .inl (in_ok rfl), .inr rfl, trivial⟩, ⟨Nat.le_of_ble_eq_true rfl, rfl⟩⟩
    · rintro _ rfl
      refine ⟨fun x hx => ?_, fun _ hx => ?_⟩
      · obtain ⟨e1, e2⟩ := right_some hx
        have h := H1 e1 x.2
        rw [e2] at h
        exact ⟨_, _, h, _, HImp.refl _ _, ⟨⟨fun _ => 3, ⟨.same _, trivial⟩, AV.sub_same _⟩, rfl, rfl⟩⟩
      · obtain ⟨e1, e2⟩ := right_none hx
        exact ⟨_, _, H2 e1, endPlain (AV.sub_same _) rfl⟩
  · exact H.elim

end Sx
end Go.Proofs.Ytemcdjdglcceiaa
