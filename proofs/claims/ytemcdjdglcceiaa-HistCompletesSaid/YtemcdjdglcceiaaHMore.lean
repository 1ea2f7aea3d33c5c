/-
  What the functions over records tell.
-/
import Derived.Test.YtemcdjdglcceiaaHTrees4
namespace Go.Proofs.Ytemcdjdglcceiaa
namespace Sx
open Go
set_option linter.unusedSimpArgs false
set_option linter.unusedVariables false

theorem hooksE_ok : ∀ g H, hooksE g = some H → HookOk Try.prog g H := by
  intro g H h
  unfold hooksE at h
  split at h <;> cases h
  · exact hCallsHook
  · exact hRecords
  · exact hComs
  · exact hSame
theorem cfgE_ok : cfgE.ok := ⟨tab_met, kinds_met, mixed_met, fun g fn h => (by cases h), hooksE_ok⟩

theorem hRightHook : HookOk Try.prog 19 (hookFree [.rows Kd.rcd] runRight) := by
  refine free_hook (C := cfgE) cfgE_ok (n := 40) (fn := Try.f19) ⟨by kernel_rfl, by kernel_rfl⟩ (by kernel_rfl) ?_
  intro M ar K0 H
  unfold runRight at H
  split at H
  · rename_i l c
    obtain ⟨hb, H⟩ := H
    refine ⟨show 1 ≤ _ by decide +kernel, ?_⟩
    show (runF cfgE 40 19 Try.f19 [.sl false 0 0 8 l.length c] [(0, .ro Kd.rcd l)] 1).holds _
    rw [t19]
    simp only [List.drop_zero, List.take_length]
    exact ⟨by omega, hb, fun h => fun _ => ⟨_, _, H, endPlain (AV.sub_tt h) rfl⟩, fun h => ⟨_, _, H, endPlain (AV.sub_ff h) rfl⟩⟩
  · exact H.elim
theorem not_right {l : List Rec} (h : hRight l = false) : hCallsOf l = [] := by
  unfold hRight at h
  unfold hCallsOf
  cases e : hCalls l with
  | none => rfl
  | some cs => rw [e] at h; cases h
theorem hCallsOfHook : HookOk Try.prog 15 (hookFree [.rows Kd.rcd] runCallsOf) := by
  refine free_hook (C := cfgE) cfgE_ok (n := 40) (fn := Try.f15) ⟨by kernel_rfl, by kernel_rfl⟩ (by kernel_rfl) ?_
  intro M ar K0 H
  unfold runCallsOf at H
  split at H
  · rename_i l c
    obtain ⟨hb, H⟩ := H
    refine ⟨show 1 ≤ _ by decide +kernel, ?_⟩
    show (runF cfgE 40 15 Try.f15 [.sl false 0 0 8 l.length c] [(0, .ro Kd.rcd l)] 1).holds _
    rw [t15]
    simp only [List.drop_zero, List.take_length]
    refine ⟨by omega, hb, fun h => fun sp => ⟨_, _, H sp, _, HImp.refl _ _, ⟨⟨fun _ => 1, ⟨.same _, trivial⟩, AV.sub_same _⟩, rfl, rfl⟩⟩, fun h => ?_⟩
    have h0 := H 0
    rw [not_right h] at h0
    exact ⟨_, _, h0, _, HImp.refl _ _, ⟨⟨fun _ => 99, ⟨.none _ _, trivial⟩, AV.sub_nilS⟩, rfl, rfl⟩⟩
  · exact H.elim
theorem hBeforeHook : HookOk Try.prog 17 (hookFree [.el Kd.cal, .el Kd.cal] runBefore) := by
  refine free_hook (C := cfgE) cfgE_ok (n := 40) (fn := Try.f17) ⟨by kernel_rfl, by kernel_rfl⟩ (by kernel_rfl) ?_
  intro M ar K0 H
  unfold runBefore at H
  split at H
  · rename_i a b
    refine ⟨show 2 ≤ _ by decide +kernel, ?_⟩
    show (runF cfgE 40 17 Try.f17 [.agg (Cal.lay.enc a), .agg (Cal.lay.enc b)] [] 2).holds _
    rw [t17]
    refine ⟨fun h => ⟨_, _, H, endPlain (AV.sub_bool ?_) rfl⟩, fun h => ⟨_, _, H, endPlain (AV.sub_ff ?_) rfl⟩⟩
    · unfold hBefore; rw [h, Bool.true_and]
    · unfold hBefore; rw [h, Bool.false_and]
  · exact H.elim
theorem hooksF_ok : ∀ g H, hooksF g = some H → HookOk Try.prog g H := by
  intro g H h
  unfold hooksF at h
  split at h
  · cases h; exact hRightHook
  · cases h; exact hCallsOfHook
  · cases h; exact hBeforeHook
  · exact hooksE_ok _ H h
theorem cfgF_ok : cfgF.ok := ⟨tab_met, kinds_met, mixed_met, fun g fn h => (by cases h), hooksF_ok⟩
theorem cfgG_ok : cfgG.ok := ⟨tab_met, kinds_met, mixed_met, fun g fn h => (by cases h), hooksF_ok⟩

/-! ## Left -/
theorem getD_el {α : Type} {l : List α} {i : Nat} (d : α) (h : i < l.length) : l.getD i d = l[i] := by rw [List.getD_eq_getElem?_getD, List.getElem?_eq_getElem h]; rfl
theorem leftTo_succ {cs : List Cal} {i : Nat} (h : i < cs.length) : leftTo cs (i + 1) = leftTo cs i + if (cs.getD i c0).to_ = -1 then 1 else 0 := by
  unfold leftTo hLeftOf
  rw [List.take_succ_eq_append_getElem h, List.filter_append, List.length_append, getD_el c0 h]
  congr 1
  by_cases e : (cs[i]).to_ = -1 <;> simp [e]
theorem leftTo_le (cs : List Cal) (i : Nat) : leftTo cs i ≤ cs.length := by
  unfold leftTo hLeftOf
  exact Nat.le_trans (List.length_filter_le _ _) (by rw [List.length_take]; omega)
theorem body25 (p : PC) (i : Nat) (hi : i ≤ p.cs.length) (Q : EX → St V → Prop) (F : AV → Heap V → Nat → Prop)
    (hnx : ∀ ST : St V, i < p.cs.length → Wk 2 [] ST (I25 p (i + 1)) → Q .nx ST) (hex : ∀ ST : St V, i = p.cs.length → Wk 2 [] ST (I25 p i) → Q (.ex 0) ST) :
    (runCode cfgF 40 25 (loopOf Try.f25 0) (I25 p i) (stopT (trimSt [3, 7, 8, 9] [0, 1]))).holds ⟨Q, F⟩ := by
  rw [b25]
  have hb := p.hb
  have hle := leftTo_le p.cs i
  have hw : i < p.cs.length → IntKind.wrap .i64 ((i : Int) + 1) = ((i + 1 : Nat) : Int) := fun h => wrap_nat (by omega)
  have hs : i < p.cs.length → leftTo p.cs (i + 1) = leftTo p.cs i + if (p.cs.getD i (V.enc Kd.cal).dflt).to_ = -1 then 1 else 0 := leftTo_succ
  have hv : IntKind.wrap .i64 ((leftTo p.cs i : Int) + 1) = ((leftTo p.cs i + 1 : Nat) : Int) := wrap_nat (by omega)
  simp only [Out.holds, Nat.zero_add, decide_eq_true_eq, decide_eq_false_iff_not, beq_iff_eq, beq_eq_false_iff_ne]
  refine ⟨fun h => ⟨by omega, by omega, fun h2 => hnx _ (by omega) ?_, fun h2 => hnx _ (by omega) ?_⟩, fun h => hex _ (by omega) ?_⟩
  · exact ⟨⟨AV.sub_int (by rw [hv, hs (by omega), if_pos h2]), AV.sub_same _, AV.sub_same _, AV.sub_int (hw (by omega)), trivial⟩, ⟨.same _, .same _, trivial⟩, rfl, tl_ok rfl, ⟨.inr rfl, .inr rfl, trivial⟩, ⟨Nat.le_of_ble_eq_true rfl, rfl⟩⟩
  · exact ⟨⟨AV.sub_int (by rw [hs (by omega), if_neg h2]; rfl), AV.sub_same _, AV.sub_same _, AV.sub_int (hw (by omega)), trivial⟩, ⟨.same _, .same _, trivial⟩, rfl, tl_ok rfl, ⟨.inr rfl, .inr rfl, trivial⟩, ⟨Nat.le_of_ble_eq_true rfl, rfl⟩⟩
  · exact ⟨⟨AV.sub_same _, AV.sub_same _, AV.sub_same _, AV.sub_same _, trivial⟩, ⟨.same _, .same _, trivial⟩, rfl, tl_ok rfl, ⟨.inr rfl, .inr rfl, trivial⟩, ⟨Nat.le_of_ble_eq_true rfl, rfl⟩⟩
theorem l25_ok : LoopOk Try.prog 0 (loopOf Try.f25 0) L25 := by
  refine trimLoop_ok (trim_ok _ _) (loopTH_ok (C := cfgF) cfgF_ok (f := 25) (n := 40) (trim_ok [3, 7, 8, 9] [0, 1]) 2 I25 (fun p i => i ≤ p.cs.length) (fun _ => 0) (fun p i => p.cs.length - i) (fun _ (_ : Unit) => True) (fun p _ => I25 p p.cs.length) (fun p => Nat.zero_le _) ?_)
  intro p i hi
  exact body25 p i hi _ _ (fun ST hlt hw => SImp.of_wk (i + 1) hw ⟨hlt, by omega⟩) (fun ST he hw => ⟨rfl, SImp.of_wk () (by subst he; exact hw) trivial⟩)
def runLeft : RunFree V := fun ar K => match ar with
  | [.rows .rcd l c] => .need (l.length ≤ 1099511627776) (K (.int .i64 (hLeft l : Int)) [])
  | _ => .bad 500
theorem calls_len (l : List Rec) : (hCallsOf l).length ≤ l.length := by
  unfold hCallsOf hCalls
  cases e : readTo l l.length with
  | none => exact Nat.zero_le _
  | some s => exact (readTo_weak e).len
theorem hLeftHook : HookOk Try.prog 25 (hookFree [.rows Kd.rcd] runLeft) := by
  refine free_hook (C := cfgG) cfgG_ok (n := 40) (fn := Try.f25) ⟨by kernel_rfl, by kernel_rfl⟩ (by kernel_rfl) ?_
  intro M ar K0 H
  unfold runLeft at H
  split at H
  · rename_i l c
    obtain ⟨hb, H⟩ := H
    refine ⟨show 1 ≤ _ by decide +kernel, ?_⟩
    show (runF cfgG 40 25 Try.f25 [.sl false 0 0 8 l.length c] [(0, .ro Kd.rcd l)] 1).holds _
    rw [t25]
    simp only [List.drop_zero, List.take_length]
    have hcl := calls_len l
    refine ⟨by omega, hb, fun sp => ⟨l25_ok, fun p => p = ⟨l, c, hCallsOf l, sp, by omega⟩, ⟨Nat.le_refl _, SImp.of_wk (ren := []) ⟨l, c, hCallsOf l, sp, by omega⟩ ?_ rfl⟩, ?_⟩⟩
    · exact ⟨⟨AV.sub_lit rfl, AV.sub_same _, AV.sub_same _, AV.sub_lit', trivial⟩, ⟨.same _, .same _, trivial⟩, rfl, tl_ok rfl, ⟨.inr rfl, .inr rfl, trivial⟩, ⟨Nat.le_of_ble_eq_true rfl, rfl⟩⟩
    · rintro _ rfl _ _
      refine ⟨_, _, H, endPlain (AV.sub_int ?_) rfl⟩
      unfold hLeft leftTo
      rw [List.take_length]
  · exact H.elim

/-! ## Commits -/
theorem takesTo_succ {l : List Rec} {i : Nat} (h : i < l.length) : takesTo l (i + 1) = takesTo l i ++ if (l.getD i r0).what = 2 then [(l.getD i r0).com] else [] := by
  unfold takesTo
  rw [List.take_succ_eq_append_getElem h, List.filter_append, List.map_append, getD_el r0 h]
  congr 1
  by_cases e : (l[i]).what = 2 <;> simp [e]
theorem takesTo_le (l : List Rec) (i : Nat) : (takesTo l i).length ≤ l.length := by
  unfold takesTo
  rw [List.length_map]
  exact Nat.le_trans (List.length_filter_le _ _) (by rw [List.length_take]; omega)
theorem body23 (p : PL) (x : Nat × Nat) (hi : x.1 ≤ p.l.length) (Q : EX → St V → Prop) (F : AV → Heap V → Nat → Prop)
    (hnx : ∀ (ST : St V) (sp b : Nat), x.1 < p.l.length → Wk 1 [(1, b)] ST (I23 p (x.1 + 1, sp)) → Q .nx ST) (hex : ∀ ST : St V, x.1 = p.l.length → Wk 1 [(1, 1)] ST (I23 p x) → Q (.ex 0) ST) :
    (runCode cfgF 40 23 (loopOf Try.f23 0) (I23 p x) (stopT (trimSt [3, 9, 10, 11] [0, 1, 2, 3, 4, 5, 6]))).holds ⟨Q, F⟩ := by
  rw [b23]
  have hb := p.hb
  have hle := takesTo_le p.l x.1
  have hw : x.1 < p.l.length → IntKind.wrap .i64 ((x.1 : Int) + 1) = ((x.1 + 1 : Nat) : Int) := fun h => wrap_nat (by omega)
  have hs : x.1 < p.l.length → takesTo p.l (x.1 + 1) = takesTo p.l x.1 ++ if (p.l.getD x.1 (V.enc Kd.rcd).dflt).what = 2 then [(p.l.getD x.1 (V.enc Kd.rcd).dflt).com] else [] := takesTo_succ
  simp only [Out.holds, Nat.zero_add, decide_eq_true_eq, decide_eq_false_iff_not, beq_iff_eq, beq_eq_false_iff_ne]
  refine ⟨fun h => ⟨by omega, by omega, fun h2 => ⟨⟨trivial, trivial, trivial, by omega⟩, fun y => hnx _ y 5 (by omega) ?_⟩, fun h2 => hnx _ x.2 1 (by omega) ?_⟩, fun h => hex _ (by omega) ?_⟩
  · have e := hs (by omega)
    rw [if_pos h2] at e
    have el : (takesTo p.l x.1).length + 1 = (takesTo p.l (x.1 + 1)).length := by rw [e]; simp
    exact ⟨⟨AV.sub_sl el (by rw [el]), AV.sub_same _, AV.sub_same _, AV.sub_int (hw (by omega)), trivial⟩, ⟨BSub.of_eq (congrArg (fun z => some (Blk.arr 27 Kd.com z y : Blk V)) e.symm), .same _, trivial⟩, rfl, tl_ok rfl, ⟨.inl (in_ok rfl), .inl (in_ok rfl), .inl (in_ok rfl), .inr rfl, trivial⟩, ⟨Nat.le_of_ble_eq_true rfl, rfl⟩⟩
  · have e := hs (by omega)
    rw [if_neg h2, List.append_nil] at e
    exact ⟨⟨AV.sub_sl (by rw [e]) (by rw [e]), AV.sub_same _, AV.sub_same _, AV.sub_int (hw (by omega)), trivial⟩, ⟨BSub.of_eq (congrArg (fun z => some (Blk.arr 27 Kd.com z x.2 : Blk V)) e.symm), .same _, trivial⟩, rfl, tl_ok rfl, ⟨.inl (in_ok rfl), .inl (in_ok rfl), .inr rfl, trivial⟩, ⟨Nat.le_of_ble_eq_true rfl, rfl⟩⟩
  · exact ⟨⟨AV.sub_same _, AV.sub_same _, AV.sub_same _, AV.sub_same _, trivial⟩, ⟨.same _, .same _, trivial⟩, rfl, tl_ok rfl, ⟨.inl (in_ok rfl), .inr rfl, trivial⟩, ⟨Nat.le_of_ble_eq_true rfl, rfl⟩⟩
theorem l23_ok : LoopOk Try.prog 0 (loopOf Try.f23 0) L23 := by
  refine trimLoop_ok (trim_ok _ _) (loopTH_ok (C := cfgF) cfgF_ok (f := 23) (n := 40) (trim_ok [3, 9, 10, 11] [0, 1, 2, 3, 4, 5, 6]) 1 I23 (fun p x => x.1 ≤ p.l.length) (fun _ => (0, 0)) (fun p x => p.l.length - x.1) (fun _ (_ : Nat) => True) (fun p sp => I23 p (p.l.length, sp)) (fun p => Nat.zero_le _) ?_)
  intro p x hi
  refine body23 p x hi _ _ (fun ST sp b hlt hw => SImp.of_wk (x.1 + 1, sp) hw ⟨hlt, ?_⟩) (fun ST he hw => ⟨rfl, SImp.of_wk (ren := [(1, 1)]) x.2 ?_ trivial⟩)
  · show p.l.length - (x.1 + 1) < p.l.length - x.1; omega
  · obtain ⟨i, x⟩ := x; simp only at he; subst he; exact hw
def runCommits : RunFree V := fun ar K => match ar with
  | [.rows .rcd l c] => .need (l.length ≤ 1099511627776) (.all Nat fun sp => K (.sl false 0 0 4 (hCommits l).length ((hCommits l).length + sp)) [.arr 27 Kd.com (hCommits l) sp])
  | _ => .bad 500
theorem hCommitsHook : HookOk Try.prog 23 (hookFree [.rows Kd.rcd] runCommits) := by
  refine free_hook (C := cfgG) cfgG_ok (n := 40) (fn := Try.f23) ⟨by kernel_rfl, by kernel_rfl⟩ (by kernel_rfl) ?_
  intro M ar K0 H
  unfold runCommits at H
  split at H
  · rename_i l c
    obtain ⟨hb, H⟩ := H
    refine ⟨show 1 ≤ _ by decide +kernel, ?_⟩
    show (runF cfgG 40 23 Try.f23 [.sl false 0 0 8 l.length c] [(0, .ro Kd.rcd l)] 1).holds _
    rw [t23]
    simp only [List.drop_zero, List.take_length]
    refine ⟨by omega, hb, fun h => ?_, fun h => ⟨l23_ok, fun p => p = ⟨l, c, hb⟩, ⟨Nat.le_refl _, SImp.of_wk (ren := [(1, 99)]) ⟨l, c, hb⟩ ?_ rfl⟩, ?_⟩⟩
    · have h0 := H 0
      have e : hCommits l = [] := by unfold hCommits; rw [if_neg (by simpa using h)]
      rw [e] at h0
      exact ⟨_, _, h0, _, HImp.refl _ _, ⟨⟨fun _ => 99, ⟨.none _ _, trivial⟩, AV.sub_nilS⟩, rfl, rfl⟩⟩
    · exact ⟨⟨AV.sub_nilS, AV.sub_same _, AV.sub_same _, AV.sub_lit', trivial⟩, ⟨.none _ _, .same _, trivial⟩, rfl, tl_ok rfl, ⟨.inr rfl, trivial⟩, ⟨Nat.le_of_ble_eq_true rfl, rfl⟩⟩
    · rintro _ rfl sp _
      have e : takesTo l l.length = hCommits l := by unfold takesTo hCommits; rw [List.take_length, if_pos (by simpa using h)]
      have h0 := H sp
      rw [← e] at h0
      exact ⟨_, _, h0, _, HImp.refl _ _, ⟨⟨fun _ => 1, ⟨.same _, trivial⟩, AV.sub_same _⟩, rfl, rfl⟩⟩
  · exact H.elim

end Sx
end Go.Proofs.Ytemcdjdglcceiaa
