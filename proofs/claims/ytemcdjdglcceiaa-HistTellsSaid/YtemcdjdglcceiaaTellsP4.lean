/-
  What the functions over records tell.
-/
import Derived.Test.YtemcdjdglcceiaaTellsP3
namespace Go.Proofs.Ytemcdjdglcceiaa
namespace Sx
open Go
set_option linter.unusedSimpArgs false
set_option linter.unusedVariables false

theorem hooksE_ok : ∀ g H, hooksE g = some H → HookOk Try.prog g H := by
  intro g H h
  unfold hooksE at h
  split at h <;> cases h
  · exact hCallsHook
  · exact hRecords
  · exact hComs
  · exact hSame
theorem cfgE_ok : cfgE.ok := ⟨tab_met, kinds_met, mixed_met, fun g fn h => (by cases h), hooksE_ok⟩

theorem hRightHook : HookOk Try.prog 19 (hookFree [.rows Kd.rcd] runRight) := by
  refine free_hook (C := cfgE) cfgE_ok (n := 40) (fn := Try.f19) ⟨by kernel_rfl, by kernel_rfl⟩ (by kernel_rfl) ?_
  intro M ar K0 H
  unfold runRight at H
  split at H
  · rename_i l c
    obtain ⟨hb, H⟩ := H
    refine ⟨show 1 ≤ _ by decide +kernel, ?_⟩
    show (runF cfgE 40 19 Try.f19 [.sl false 0 0 8 l.length c] [(0, .ro Kd.rcd l)] 1).holds _
    rw [t19]
    simp only [List.drop_zero, List.take_length]
    exact ⟨by omega, hb, fun h => fun _ => ⟨_, _, H, endPlain (AV.sub_tt h) rfl⟩, fun h => ⟨_, _, H, endPlain (AV.sub_ff h) rfl⟩⟩
  · exact H.elim
theorem not_right {l : List Rec} (h : hRight l = false) : hCallsOf l = [] := by
  unfold hRight at h
  unfold hCallsOf
  cases e : hCalls l with
  | none => rfl
  | some cs => rw [e] at h; cases h
theorem hCallsOfHook : HookOk Try.prog 15 (hookFree [.rows Kd.rcd] runCallsOf) := by
  refine free_hook (C := cfgE) cfgE_ok (n := 40) (fn := Try.f15) ⟨by kernel_rfl, by kernel_rfl⟩ (by kernel_rfl) ?_
  intro M ar K0 H
  unfold runCallsOf at H
  split at H
  · rename_i l c
    obtain ⟨hb, H⟩ := H
    refine ⟨show 1 ≤ _ by decide +kernel, ?_⟩
    show (runF cfgE 40 15 Try.f15 [.sl false 0 0 8 l.length c] [(0, .ro Kd.rcd l)] 1).holds _
    rw [t15]
    simp only [List.drop_zero, List.take_length]
    refine ⟨by omega, hb, fun h => fun sp => ⟨_, _, H sp, _, HImp.refl _ _, ⟨⟨fun _ => 1, ⟨.same _, trivial⟩, AV.sub_same _⟩, rfl, rfl⟩⟩, fun h => ?_⟩
    have h0 := H 0
    rw [not_right h] at h0
    exact ⟨_, _, h0, _, HImp.refl _ _, ⟨⟨fun _ => 99, ⟨.none _ _, trivial⟩, AV.sub_nilS⟩, rfl, rfl⟩⟩
  · exact H.elim
theorem hBeforeHook : HookOk Try.prog 17 (hookFree [.el Kd.cal, .el Kd.cal] runBefore) := by
  refine free_hook (C := cfgE) cfgE_ok (n := 40) (fn := Try.f17) ⟨by kernel_rfl, by kernel_rfl⟩ (by kernel_rfl) ?_
  intro M ar K0 H
  unfold runBefore at H
  split at H
  · rename_i a b
    refine ⟨show 2 ≤ _ by decide +kernel, ?_⟩
    show (runF cfgE 40 17 Try.f17 [.agg (Cal.lay.enc a), .agg (Cal.lay.enc b)] [] 2).holds _
    rw [t17]
    refine ⟨fun h => ⟨_, _, H, endPlain (AV.sub_bool ?_) rfl⟩, fun h => ⟨_, _, H, endPlain (AV.sub_ff ?_) rfl⟩⟩
    · unfold hBefore; rw [h, Bool.true_and]
    · unfold hBefore; rw [h, Bool.false_and]
  · exact H.elim
theorem hooksF_ok : ∀ g H, hooksF g = some H → HookOk Try.prog g H := by
  intro g H h
  unfold hooksF at h
  split at h
  · cases h; exact hRightHook
  · cases h; exact hCallsOfHook
  · cases h; exact hBeforeHook
  · exact hooksE_ok _ H h
theorem cfgF_ok : cfgF.ok := ⟨tab_met, kinds_met, mixed_met, fun g fn h => (by cases h), hooksF_ok⟩
theorem cfgG_ok : cfgG.ok := ⟨tab_met, kinds_met, mixed_met, fun g fn h => (by cases h), hooksF_ok⟩

/-! ## Left -/
theorem getD_el {α : Type} {l : List α} {i : Nat} (d : α) (h : i < l.length) : l.getD i d = l[i] := by rw [List.getD_eq_getElem?_getD, List.getElem?_eq_getElem h]; rfl
theorem leftTo_succ {cs : List Cal} {i : Nat} (h : i < cs.length) : leftTo cs (i + 1) = leftTo cs i + if (cs.getD i c0).to_ = -1 then 1 else 0 := by
  unfold leftTo hLeftOf
  rw [List.take_succ_eq_append_getElem h, List.filter_append, List.length_append, getD_el c0 h]
  congr 1
  by_cases e : (cs[i]).to_ = -1 <;> simp [e]
theorem leftTo_le (cs : List Cal) (i : Nat) : leftTo cs i ≤ cs.length := by
  unfold leftTo hLeftOf
  exact Nat.le_trans (List.length_filter_le _ _) (by rw [List.length_take]; omega)
theorem body25 (p : PC) (i : Nat) (hi : i ≤ p.cs.length) (Q : EX → St V → Prop) (F : AV → Heap V → Nat → Prop)
    (hnx : ∀ ST : St V, i < p.cs.length → Wk 2 [] ST (I25 p (i + 1)) → Q .nx ST) (hex : ∀ ST : St V, i = p.cs.length → Wk 2 [] ST (I25 p i) → Q (.ex 0) ST) :
    (runCode cfgF 40 25 (loopOf Try.f25 0) (I25 p i) (stopT (trimSt [3, 7, 8, 9] [0, 1]))).holds ⟨Q, F⟩ := by
  rw [b25]
  have hb := p.hb
  have hle := leftTo_le p.cs i
  have hw : i < p.cs.length → IntKind.wrap .i64 ((i : Int) + 1) = ((i + 1 : Nat) : Int) := fun h => wrap_nat (by omega)
  have hs : i < p.cs.length → leftTo p.cs (i + 1) = leftTo p.cs i + if (p.cs.getD i (V.enc Kd.cal).dflt).to_ = -1 then 1 else 0 := leftTo_succ
  have hv : IntKind.wrap .i64 ((leftTo p.cs i : Int) + 1) = ((leftTo p.cs i + 1 : Nat) : Int) := wrap_nat (by omega)
  simp only [Out.holds, Nat.zero_add, decide_eq_true_eq, decide_eq_false_iff_not, beq_iff_eq, beq_eq_false_iff_ne]
  refine ⟨fun h => ⟨by omega, by omega, fun h2 => hnx _ (by omega) ?_, fun h2 => hnx _ (by omega) ?_⟩, fun h => hex _ (by omega) ?_⟩
  · exact ⟨⟨AV.sub_int (by rw [hv, hs (by omega), if_pos h2]), AV.sub_same _, AV.sub_same _, AV.sub_int (hw (by omega)), trivial⟩, ⟨.same _, .same _, trivial⟩, rfl, tl_ok rfl, ⟨.inr rfl, .inr rfl, trivial⟩, ⟨Nat.le_of_ble_eq_true rfl, rfl⟩⟩
  · exact ⟨⟨AV.sub_int (by rw [hs (by omega), if_neg h2]; rfl), AV.sub_same _, AV.sub_same _, AV.sub_int (hw (by omega)), trivial⟩, ⟨.same _, .same _, trivial⟩, rfl, tl_ok rfl, ⟨.inr rfl, .inr rfl, trivial⟩, ⟨Nat.le_of_ble_eq_true rfl, rfl⟩⟩
  · exact ⟨⟨AV.sub_same _, AV.sub_same _, AV.sub_same _, AV.sub_same _, trivial⟩, ⟨.same _, .same _, trivial⟩, rfl, tl_ok rfl, ⟨.inr rfl, .inr rfl, trivial⟩, ⟨Nat.le_of_ble_eq_true rfl, rfl⟩⟩
theorem l25_ok : LoopOk Try.prog 0 (loopOf Try.f25 0) L25 := by
  refine trimLoop_ok (trim_ok _ _) (loopTH_ok (C := cfgF) cfgF_ok (f := 25) (n := 40) (trim_ok [3, 7, 8, 9] [0, 1]) 2 I25 (fun p i => i ≤ p.cs.length) (fun _ => 0) (fun p i => p.cs.length - i) (fun _ (_ : Unit) => True) (fun p _ => I25 p p.cs.length) (fun p => Nat.zero_le _) ?_)
  intro p i hi
  exact body25 p i hi _ _ (fun ST hlt hw => SImp.of_wk (i + 1) hw ⟨hlt, by omega⟩) (fun ST he hw => ⟨rfl, SImp.of_wk () (by subst he; exact hw) trivial⟩)
def runLeft : RunFree V := fun ar K => match ar with
  | [.rows .rcd l c] => .need (l.length ≤ 1099511627776) (K (.int .i64 (hLeft l : Int)) [])
  | _ => .bad 500
theorem calls_len (l : List Rec) : (hCallsOf l).length ≤ l.length := by
  unfold hCallsOf hCalls
  cases e : readTo l l.length with
  | none => exact Nat.zero_le _
  | some s => exact (readTo_weak e).len
theorem hLeftHook : HookOk Try.prog 25 (hookFree [.rows Kd.rcd] runLeft) := by
  refine free_hook (C := cfgG) cfgG_ok (n := 40) (fn := Try.f25) ⟨by kernel_rfl, by kernel_rfl⟩ (by kernel_rfl) ?_
  intro M ar K0 H
  unfold runLeft at H
  split at H
  · rename_i l c
    obtain ⟨hb, H⟩ := H
    refine ⟨show 1 ≤ _ by decide +kernel, ?_⟩
    show (runF cfgG 40 25 Try.f25 [.sl false 0 0 8 l.length c] [(0, .ro Kd.rcd l)] 1).holds _
    rw [t25]
    simp only [List.drop_zero, List.take_length]
    have hcl := calls_len l
    refine ⟨by omega, hb, fun sp => ⟨l25_ok, fun p => p = ⟨l, c, hCallsOf l, sp, by omega⟩, ⟨Nat.le_refl _, SImp.of_wk (ren := []) ⟨l, c, hCallsOf l, sp, by omega⟩ ?_ rfl⟩, ?_⟩⟩
    · exact ⟨⟨AV.sub_lit rfl, AV.sub_same _, AV.sub_same _, AV.sub_lit', trivial⟩, ⟨.same _, .same _, trivial⟩, rfl, tl_ok rfl, ⟨.inr rfl, .inr rfl, trivial⟩, ⟨Nat.le_of_ble_eq_true rfl, rfl⟩⟩
    · rintro _ rfl _ _
      refine ⟨_, _, H, endPlain (AV.sub_int ?_) rfl⟩
      unfold hLeft leftTo
      rw [List.take_length]
  · exact H.elim

/-! ## Commits -/
theorem takesTo_succ {l : List Rec} {i : Nat} (h : i < l.length) : takesTo l (i + 1) = takesTo l i ++ if (l.getD i r0).what = 2 then [(l.getD i r0).com] else [] := by
  unfold takesTo
  rw [List.take_succ_eq_append_getElem h, List.filter_append, List.map_append, getD_el r0 h]
  congr 1
  by_cases e : (l[i]).what = 2 <;> simp [e]
theorem takesTo_le (l : List Rec) (i : Nat) : (takesTo l i).length ≤ l.length := by
  unfold takesTo
  rw [List.length_map]
  exact Nat.le_trans (List.length_filter_le _ _) (by rw [List.length_take]; omega)
theorem body23 (p : PL) (x : Nat × Nat) (hi : x.1 ≤ p.l.length) (Q : EX → St V → Prop) (F : AV → Heap V → Nat → Prop)
    (hnx : ∀ (ST : St V) (sp b : Nat), x.1 < p.l.length → Wk 1 [(1, b)] ST (I23 p (x.1 + 1, sp)) → Q .nx ST) (hex : ∀ ST : St V, x.1 = p.l.length → Wk 1 [(1, 1)] ST (I23 p x) → Q (.ex 0) ST) :
    (runCode cfgF 40 23 (loopOf Try.f23 0) (I23 p x) (stopT (trimSt [3, 9, 10, 11] [0, 1, 2, 3, 4, 5, 6]))).holds ⟨Q, F⟩ := by
  rw [b23]
  have hb := p.hb
  have hle := takesTo_le p.l x.1
  have hw : x.1 < p.l.length → IntKind.wrap .i64 ((x.1 : Int) + 1) = ((x.1 + 1 : Nat) : Int) := fun h => wrap_nat (by omega)
  have hs : x.1 < p.l.length → takesTo p.l (x.1 + 1) = takesTo p.l x.1 ++ if (p.l.getD x.1 (V.enc Kd.rcd).dflt).what = 2 then [(p.l.getD x.1 (V.enc Kd.rcd).dflt).com] else [] := takesTo_succ
  simp only [Out.holds, Nat.zero_add, decide_eq_true_eq, decide_eq_false_iff_not, beq_iff_eq, beq_eq_false_iff_ne]
  refine ⟨fun h => ⟨by omega, by omega, fun h2 => ⟨⟨trivial, trivial, trivial, by omega⟩, fun y => hnx _ y 5 (by omega) ?_⟩, fun h2 => hnx _ x.2 1 (by omega) ?_⟩, fun h => hex _ (by omega) ?_⟩
  · have e := hs (by omega)
    rw [if_pos h2] at e
    have el : (takesTo p.l x.1).length + 1 = (takesTo p.l (x.1 + 1)).length := by rw [e]; simp
    exact ⟨⟨AV.sub_sl el (by rw [el]), AV.sub_same _, AV.sub_same _, AV.sub_int (hw (by omega)), trivial⟩, ⟨BSub.of_eq (congrArg (fun z => some (Blk.arr 27 Kd.com z y : Blk V)) e.symm), .same _, trivial⟩, rfl, tl_ok rfl, ⟨.inl (in_ok rfl), .inl (in_ok rfl), .inl (in_ok rfl), .inr rfl, trivial⟩, ⟨Nat.le_of_ble_eq_true rfl, rfl⟩⟩
  · have e := hs (by omega)
    rw [if_neg h2, List.append_nil] at e
    exact ⟨⟨AV.sub_sl (by rw [e]) (by rw [e]), AV.sub_same _, AV.sub_same _, AV.sub_int (hw (by omega)), trivial⟩, ⟨BSub.of_eq (congrArg (fun z => some (Blk.arr 27 Kd.com z x.2 : Blk V)) e.symm), .same _, trivial⟩, rfl, tl_ok rfl, ⟨.inl (in_ok rfl), .inl (in_ok rfl), .inr rfl, trivial⟩, ⟨Nat.le_of_ble_eq_true rfl, rfl⟩⟩
  · exact ⟨⟨AV.sub_same _, AV.sub_same _, AV.sub_same _, AV.sub_same _, trivial⟩, ⟨.same _, .same _, trivial⟩, rfl, tl_ok rfl, ⟨.inl (in_ok rfl), .inr rfl, trivial⟩, ⟨Nat.le_of_ble_eq_true rfl, rfl⟩⟩
theorem l23_ok : LoopOk Try.prog 0 (loopOf Try.f23 0) L23 := by
  refine trimLoop_ok (trim_ok _ _) (loopTH_ok (C := cfgF) cfgF_ok (f := 23) (n := 40) (trim_ok [3, 9, 10, 11] [0, 1, 2, 3, 4, 5, 6]) 1 I23 (fun p x => x.1 ≤ p.l.length) (fun _ => (0, 0)) (fun p x => p.l.length - x.1) (fun _ (_ : Nat) => True) (fun p sp => I23 p (p.l.length, sp)) (fun p => Nat.zero_le _) ?_)
  intro p x hi
  refine body23 p x hi _ _ (fun ST sp b hlt hw => SImp.of_wk (x.1 + 1, sp) hw ⟨hlt, ?_⟩) (fun ST he hw => ⟨rfl, SImp.of_wk (ren := [(1, 1)]) x.2 ?_ trivial⟩)
  · show p.l.length - (x.1 + 1) < p.l.length - x.1; omega
  · obtain ⟨i, x⟩ := x; simp only at he; subst he; exact hw
def runCommits : RunFree V := fun ar K => match ar with
  | [.rows .rcd l c] => .need (l.length ≤ 1099511627776) (.all Nat fun sp => K (.sl false 0 0 4 (hCommits l).length ((hCommits l).length + sp)) [.arr 27 Kd.com (hCommits l) sp])
  | _ => .bad 500
theorem hCommitsHook : HookOk Try.prog 23 (hookFree [.rows Kd.rcd] runCommits) := by
  refine free_hook (C := cfgG) cfgG_ok (n := 40) (fn := Try.f23) ⟨by kernel_rfl, by kernel_rfl⟩ (by kernel_rfl) ?_
  intro M ar K0 H
  unfold runCommits at H
  split at H
  · rename_i l c
    obtain ⟨hb, H⟩ := H
    refine ⟨show 1 ≤ _ by decide +kernel, ?_⟩
    show (runF cfgG 40 23 Try.f23 [.sl false 0 0 8 l.length c] [(0, .ro Kd.rcd l)] 1).holds _
    rw [t23]
    simp only [List.drop_zero, List.take_length]
    refine ⟨by omega, hb, fun h => ?_, fun h => ⟨l23_ok, fun p => p = ⟨l, c, hb⟩, ⟨Nat.le_refl _, SImp.of_wk (ren := [(1, 99)]) ⟨l, c, hb⟩ ?_ rfl⟩, ?_⟩⟩
    · have h0 := H 0
      have e : hCommits l = [] := by unfold hCommits; rw [if_neg (by simpa using h)]
      rw [e] at h0
      exact ⟨_, _, h0, _, HImp.refl _ _, ⟨⟨fun _ => 99, ⟨.none _ _, trivial⟩, AV.sub_nilS⟩, rfl, rfl⟩⟩
    · exact ⟨⟨AV.sub_nilS, AV.sub_same _, AV.sub_same _, AV.sub_lit', trivial⟩, ⟨.none _ _, .same _, trivial⟩, rfl, tl_ok rfl, ⟨.inr rfl, trivial⟩, ⟨Nat.le_of_ble_eq_true rfl, rfl⟩⟩
    · rintro _ rfl sp _
      have e : takesTo l l.length = hCommits l := by unfold takesTo hCommits; rw [List.take_length, if_pos (by simpa using h)]
      have h0 := H sp
      rw [← e] at h0
      exact ⟨_, _, h0, _, HImp.refl _ _, ⟨⟨fun _ => 1, ⟨.same _, trivial⟩, AV.sub_same _⟩, rfl, rfl⟩⟩
  · exact H.elim

end Sx
end Go.Proofs.Ytemcdjdglcceiaa

/-
  What Complete does.
-/
namespace Go.Proofs.Ytemcdjdglcceiaa
namespace Sx
open Go
set_option linter.unusedSimpArgs false
set_option linter.unusedVariables false

theorem dropTo_succ {cs : List Cal} {i : Nat} (h : i < cs.length) (k : Int) : dropTo cs (i + 1) k = (dropTo cs i k || decide ((cs.getD i c0).to_ = -1 ∧ (cs.getD i c0).at_ = -1 ∧ (cs.getD i c0).frm = k)) := by
  unfold dropTo
  rw [List.take_succ_eq_append_getElem h, List.any_append, getD_el c0 h]
  simp
theorem lateTo_succ {cs : List Cal} {i : Nat} (h : i < cs.length) (k : Int) : lateTo cs (i + 1) k = (lateTo cs i k || decide ((cs.getD i c0).to_ = -1 ∧ (cs.getD i c0).at_ ≠ -1 ∧ (cs.getD i c0).at_ = k)) := by
  unfold lateTo
  rw [List.take_succ_eq_append_getElem h, List.any_append, getD_el c0 h]
  simp
theorem marks_keep {m : List (Int × Bool)} {f g : Int → Bool} (h : marks m f) (e : ∀ k, g k = f k) : marks m g := fun k => by rw [h k, e k]
theorem marks_put {m : List (Int × Bool)} {f g : Int → Bool} {n : Int} (h : marks m f) (e : ∀ k, g k = (f k || decide (n = k))) : marks (mput m n true) g := fun k => by
  rw [mget_put, h k, e k]
  by_cases hk : k = n
  · subst hk; simp
  · rw [if_neg hk]
    have : ¬ n = k := fun hh => hk hh.symm
    simp [this]

theorem body12 (p : PC) (x : Nat × List (Int × Bool) × List (Int × Bool)) (hi : x.1 ≤ p.cs.length) (h1 : marks x.2.1 (dropTo p.cs x.1)) (h2 : marks x.2.2 (lateTo p.cs x.1)) (Q : EX → St V → Prop) (F : AV → Heap V → Nat → Prop)
    (hnx : ∀ (ST : St V) (md ml : List (Int × Bool)), x.1 < p.cs.length → marks md (dropTo p.cs (x.1 + 1)) → marks ml (lateTo p.cs (x.1 + 1)) → Wk 4 [] ST (I12 p (x.1 + 1, md, ml)) → Q .nx ST) (hex : ∀ ST : St V, x.1 = p.cs.length → Wk 4 [] ST (I12 p x) → Q (.ex 0) ST) :
    (runCode cfgF 40 12 (loopOf Try.f12 0) (I12 p x) (stopT (trimSt [0, 5, 6, 22, 23, 24] [0, 1, 2, 3]))).holds ⟨Q, F⟩ := by
  rw [b12]
  have hb := p.hb
  have hw : x.1 < p.cs.length → IntKind.wrap .i64 ((x.1 : Int) + 1) = ((x.1 + 1 : Nat) : Int) := fun h => wrap_nat (by omega)
  simp only [Out.holds, Nat.zero_add, decide_eq_true_eq, decide_eq_false_iff_not, beq_iff_eq, beq_eq_false_iff_ne, bne_iff_ne, bne_eq_false_iff_eq]
  have hD : x.1 < p.cs.length → ∀ k, dropTo p.cs (x.1 + 1) k = (dropTo p.cs x.1 k || decide ((p.cs.getD x.1 (V.enc Kd.cal).dflt).to_ = -1 ∧ (p.cs.getD x.1 (V.enc Kd.cal).dflt).at_ = -1 ∧ (p.cs.getD x.1 (V.enc Kd.cal).dflt).frm = k)) := fun h k => dropTo_succ h k
  have hL : x.1 < p.cs.length → ∀ k, lateTo p.cs (x.1 + 1) k = (lateTo p.cs x.1 k || decide ((p.cs.getD x.1 (V.enc Kd.cal).dflt).to_ = -1 ∧ (p.cs.getD x.1 (V.enc Kd.cal).dflt).at_ ≠ -1 ∧ (p.cs.getD x.1 (V.enc Kd.cal).dflt).at_ = k)) := fun h k => lateTo_succ h k
  generalize p.cs.getD x.1 (V.enc Kd.cal).dflt = c at hD hL
  refine ⟨fun h => ⟨by omega, by omega, fun h3 => hnx _ x.2.1 x.2.2 (by omega) (marks_keep h1 fun k => ?_) (marks_keep h2 fun k => ?_) ?_, fun h3 => ⟨fun h4 => hnx _ (mput x.2.1 c.frm true) x.2.2 (by omega) (marks_put h1 fun k => ?_) (marks_keep h2 fun k => ?_) ?_, fun h4 => hnx _ x.2.1 (mput x.2.2 c.at_ true) (by omega) (marks_keep h1 fun k => ?_) (marks_put h2 fun k => ?_) ?_⟩⟩, fun h => hex _ (by omega) ?_⟩
  · rw [hD (by omega)]; simp [h3]
  · rw [hL (by omega)]; simp [h3]
  · exact ⟨⟨AV.sub_same _, AV.sub_same _, AV.sub_same _, AV.sub_same _, AV.sub_same _, AV.sub_int (hw (by omega)), trivial⟩, ⟨.same _, .same _, .same _, .same _, trivial⟩, rfl, tl_ok rfl, ⟨.inl (in_ok rfl), .inl (in_ok rfl), .inr rfl, .inr rfl, trivial⟩, ⟨Nat.le_of_ble_eq_true rfl, rfl⟩⟩
  · rw [hD (by omega)]; simp [h3, h4]
  · rw [hL (by omega)]; simp [h3, h4]
  · exact ⟨⟨AV.sub_same _, AV.sub_same _, AV.sub_same _, AV.sub_same _, AV.sub_same _, AV.sub_int (hw (by omega)), trivial⟩, ⟨.same _, .same _, .same _, .same _, trivial⟩, rfl, tl_ok rfl, ⟨.inl (in_ok rfl), .inl (in_ok rfl), .inr rfl, .inr rfl, trivial⟩, ⟨Nat.le_of_ble_eq_true rfl, rfl⟩⟩
  · rw [hD (by omega)]; simp [h3, h4]
  · rw [hL (by omega)]; simp [h3, h4]
  · exact ⟨⟨AV.sub_same _, AV.sub_same _, AV.sub_same _, AV.sub_same _, AV.sub_same _, AV.sub_int (hw (by omega)), trivial⟩, ⟨.same _, .same _, .same _, .same _, trivial⟩, rfl, tl_ok rfl, ⟨.inl (in_ok rfl), .inl (in_ok rfl), .inr rfl, .inr rfl, trivial⟩, ⟨Nat.le_of_ble_eq_true rfl, rfl⟩⟩
  · exact ⟨⟨AV.sub_same _, AV.sub_same _, AV.sub_same _, AV.sub_same _, AV.sub_same _, AV.sub_same _, trivial⟩, ⟨.same _, .same _, .same _, .same _, trivial⟩, rfl, tl_ok rfl, ⟨.inl (in_ok rfl), .inl (in_ok rfl), .inr rfl, .inr rfl, trivial⟩, ⟨Nat.le_of_ble_eq_true rfl, rfl⟩⟩
theorem l12_ok : LoopOk Try.prog 0 (loopOf Try.f12 0) L12 := by
  refine trimLoop_ok (trim_ok _ _) (loopTH_ok (C := cfgF) cfgF_ok (f := 12) (n := 40) (trim_ok [0, 5, 6, 22, 23, 24] [0, 1, 2, 3]) 4 I12 (fun p x => x.1 ≤ p.cs.length ∧ marks x.2.1 (dropTo p.cs x.1) ∧ marks x.2.2 (lateTo p.cs x.1)) (fun _ => (0, [], [])) (fun p x => p.cs.length - x.1)
    (fun p (q : List (Int × Bool) × List (Int × Bool)) => marks q.1 (dropTo p.cs p.cs.length) ∧ marks q.2 (lateTo p.cs p.cs.length)) (fun p q => I12 p (p.cs.length, q)) (fun p => ⟨Nat.zero_le _, fun k => rfl, fun k => rfl⟩) ?_)
  intro p x ⟨hi, h1, h2⟩
  refine body12 p x hi h1 h2 _ _ (fun ST md ml hlt k1 k2 hw => SImp.of_wk (x.1 + 1, md, ml) hw ⟨⟨hlt, k1, k2⟩, ?_⟩) (fun ST he hw => ⟨rfl, SImp.of_wk (ren := []) x.2 ?_ ?_⟩)
  · show p.cs.length - (x.1 + 1) < p.cs.length - x.1; omega
  · obtain ⟨i, x⟩ := x; simp only at he; subst he; exact hw
  · rw [← he]; exact ⟨h1, h2⟩

theorem hOut_succ (l : List Rec) (cs : List Cal) (i : Nat) : hOut l cs (i + 1) = hOut l cs i ++ if hDrop cs i = true then [] else [l.getD i r0] := by
  unfold hOut
  rw [List.range_succ, List.filter_append, List.map_append]
  congr 1
  cases h : hDrop cs i <;> simp [h]
theorem hMore_succ (l : List Rec) (cs : List Cal) (i : Nat) : hMore l cs (i + 1) = hMore l cs i ++ if hLate cs i = true then [{ l.getD i r0 with what := 3 }] else [] := by
  unfold hMore
  rw [List.range_succ, List.filter_append, List.map_append]
  congr 1
  cases h : hLate cs i <;> simp [h]
theorem hOut_le (l : List Rec) (cs : List Cal) (i : Nat) : (hOut l cs i).length ≤ i := by
  unfold hOut
  rw [List.length_map]
  exact Nat.le_trans (List.length_filter_le _ _) (by simp)
theorem hMore_le (l : List Rec) (cs : List Cal) (i : Nat) : (hMore l cs i).length ≤ i := by
  unfold hMore
  rw [List.length_map]
  exact Nat.le_trans (List.length_filter_le _ _) (by simp)

theorem bodyc12 (p : PD) (x : Nat × Nat × Nat) (hi : x.1 ≤ p.l.length) (Q : EX → St V → Prop) (F : AV → Heap V → Nat → Prop)
    (hnx : ∀ (ST : St V) (a b c d : Nat), x.1 < p.l.length → Wk 4 [(4, c), (5, d)] ST (J12 p (x.1 + 1, a, b)) → Q .nx ST) (hex : ∀ ST : St V, x.1 = p.l.length → Wk 4 [(4, 4), (5, 5)] ST (J12 p x) → Q (.ex 3) ST) :
    (runCode cfgF 40 12 (loopOf Try.f12 3) (J12 p x) (stopT (trimSt [5, 6, 9, 10, 43, 44, 45] [0, 2, 3, 4, 5, 9, 10, 11, 12]))).holds ⟨Q, F⟩ := by
  rw [c12]
  have hb := p.hb
  have ho := hOut_le p.l p.cs x.1
  have hm := hMore_le p.l p.cs x.1
  have hw : x.1 < p.l.length → IntKind.wrap .i64 ((x.1 : Int) + 1) = ((x.1 + 1 : Nat) : Int) := fun h => wrap_nat (by omega)
  have eD : (mget p.md (x.1 : Int)).getD (V.enc Kd.bool).dflt = hDrop p.cs x.1 := by
    rw [p.hd]; unfold dropTo hDrop; rw [List.take_length]
    generalize p.cs.any _ = b
    cases b <;> rfl
  have eL : (mget p.ml (x.1 : Int)).getD (V.enc Kd.bool).dflt = hLate p.cs x.1 := by
    rw [p.hm]; unfold lateTo hLate; rw [List.take_length]
    generalize p.cs.any _ = b
    cases b <;> rfl
  rw [eD, eL]
  have sO := hOut_succ p.l p.cs x.1
  have sM := hMore_succ p.l p.cs x.1
  change hOut p.l p.cs (x.1 + 1) = _ ++ if _ then [] else [p.l.getD x.1 (V.enc Kd.rcd).dflt] at sO
  change hMore p.l p.cs (x.1 + 1) = _ ++ if _ then [{ p.l.getD x.1 (V.enc Kd.rcd).dflt with what := 3 }] else [] at sM
  simp only [Out.holds, Nat.zero_add, decide_eq_true_eq, decide_eq_false_iff_not, Bool.not_eq_true', Bool.not_eq_false']
  have oY : hDrop p.cs x.1 = true → hOut p.l p.cs (x.1 + 1) = hOut p.l p.cs x.1 := fun h => by rw [sO, if_pos h, List.append_nil]
  have oN : hDrop p.cs x.1 = false → hOut p.l p.cs (x.1 + 1) = hOut p.l p.cs x.1 ++ [p.l.getD x.1 (V.enc Kd.rcd).dflt] := fun h => by rw [sO, if_neg (by rw [h]; decide)]
  have mY : hLate p.cs x.1 = true → hMore p.l p.cs (x.1 + 1) = hMore p.l p.cs x.1 ++ [{ p.l.getD x.1 (V.enc Kd.rcd).dflt with what := 3 }] := fun h => by rw [sM, if_pos h]
  have mN : hLate p.cs x.1 = false → hMore p.l p.cs (x.1 + 1) = hMore p.l p.cs x.1 := fun h => by rw [sM, if_neg (by rw [h]; decide), List.append_nil]
  have len1 : ∀ {a b : List Rec} {r : Rec}, b = a ++ [r] → a.length + 1 = b.length := fun h => by rw [h]; simp
  have blk : ∀ {a b : List Rec} {y : Nat}, a = b → BSub (some (.arr 30 Kd.rcd a y : Blk V)) (.arr 30 Kd.rcd b y) := fun h => by rw [h]; exact .same _
  refine ⟨fun h => ⟨by omega, by omega, fun d => ⟨⟨trivial, trivial, trivial, by omega⟩, fun y => ⟨fun t => ⟨⟨trivial, trivial, trivial, by omega⟩, fun z => hnx _ y z 9 12 (by omega) ?_⟩, fun t => hnx _ y x.2.2 9 5 (by omega) ?_⟩⟩, fun d => ⟨fun t => ⟨⟨trivial, trivial, trivial, by omega⟩, fun z => hnx _ x.2.1 z 4 10 (by omega) ?_⟩, fun t => hnx _ x.2.1 x.2.2 4 5 (by omega) ?_⟩⟩, fun h => hex _ (by omega) ?_⟩
  · have e1 := oN d
    have e2 := mY t
    exact ⟨⟨AV.sub_same _, AV.sub_same _, AV.sub_sl (len1 e1) (by rw [len1 e1]), AV.sub_sl (len1 e2) (by rw [len1 e2]), AV.sub_same _, AV.sub_same _, AV.sub_int (hw (by omega)), trivial⟩, ⟨blk e1.symm, blk e2.symm, .same _, .same _, .same _, trivial⟩, rfl, tl_ok rfl, ⟨.inl (in_ok rfl), .inl (in_ok rfl), .inl (in_ok rfl), .inr rfl, .inr rfl, .inr rfl, trivial⟩, ⟨Nat.le_of_ble_eq_true rfl, rfl⟩⟩
  · have e1 := oN d
    have e2 := mN t
    exact ⟨⟨AV.sub_same _, AV.sub_same _, AV.sub_sl (len1 e1) (by rw [len1 e1]), AV.sub_sl (by rw [e2]) (by rw [e2]), AV.sub_same _, AV.sub_same _, AV.sub_int (hw (by omega)), trivial⟩, ⟨blk e1.symm, blk e2.symm, .same _, .same _, .same _, trivial⟩, rfl, tl_ok rfl, ⟨.inl (in_ok rfl), .inl (in_ok rfl), .inr rfl, .inr rfl, .inr rfl, trivial⟩, ⟨Nat.le_of_ble_eq_true rfl, rfl⟩⟩
  · have e1 := oY d
    have e2 := mY t
    exact ⟨⟨AV.sub_same _, AV.sub_same _, AV.sub_sl (by rw [e1]) (by rw [e1]), AV.sub_sl (len1 e2) (by rw [len1 e2]), AV.sub_same _, AV.sub_same _, AV.sub_int (hw (by omega)), trivial⟩, ⟨blk e1.symm, blk e2.symm, .same _, .same _, .same _, trivial⟩, rfl, tl_ok rfl, ⟨.inl (in_ok rfl), .inl (in_ok rfl), .inl (in_ok rfl), .inr rfl, .inr rfl, .inr rfl, trivial⟩, ⟨Nat.le_of_ble_eq_true rfl, rfl⟩⟩
  · have e1 := oY d
    have e2 := mN t
    exact ⟨⟨AV.sub_same _, AV.sub_same _, AV.sub_sl (by rw [e1]) (by rw [e1]), AV.sub_sl (by rw [e2]) (by rw [e2]), AV.sub_same _, AV.sub_same _, AV.sub_int (hw (by omega)), trivial⟩, ⟨blk e1.symm, blk e2.symm, .same _, .same _, .same _, trivial⟩, rfl, tl_ok rfl, ⟨.inl (in_ok rfl), .inl (in_ok rfl), .inr rfl, .inr rfl, .inr rfl, trivial⟩, ⟨Nat.le_of_ble_eq_true rfl, rfl⟩⟩
  · exact ⟨⟨AV.sub_same _, AV.sub_same _, AV.sub_same _, AV.sub_same _, AV.sub_same _, AV.sub_same _, AV.sub_same _, trivial⟩, ⟨.same _, .same _, .same _, .same _, .same _, trivial⟩, rfl, tl_ok rfl, ⟨.inl (in_ok rfl), .inl (in_ok rfl), .inr rfl, .inr rfl, .inr rfl, trivial⟩, ⟨Nat.le_of_ble_eq_true rfl, rfl⟩⟩
theorem m12_ok : LoopOk Try.prog 3 (loopOf Try.f12 3) M12 := by
  refine trimLoop_ok (trim_ok _ _) (loopTH_ok (C := cfgF) cfgF_ok (f := 12) (n := 40) (trim_ok [5, 6, 9, 10, 43, 44, 45] [0, 2, 3, 4, 5, 9, 10, 11, 12]) 4 J12 (fun p x => x.1 ≤ p.l.length) (fun _ => (0, 0, 0)) (fun p x => p.l.length - x.1)
    (fun _ (_ : Nat × Nat) => True) (fun p q => J12 p (p.l.length, q)) (fun p => Nat.zero_le _) ?_)
  intro p x hi
  refine bodyc12 p x hi _ _ (fun ST a b c d hlt hw => SImp.of_wk (x.1 + 1, a, b) hw ⟨hlt, ?_⟩) (fun ST he hw => ⟨rfl, SImp.of_wk (ren := [(4, 4), (5, 5)]) x.2 ?_ trivial⟩)
  · show p.l.length - (x.1 + 1) < p.l.length - x.1; omega
  · obtain ⟨i, x⟩ := x; simp only at he; subst he; exact hw

def runComplete : RunFree V := fun ar K => match ar with
  | [.rows .rcd l c] => .need (l.length ≤ 1099511627776) (.all Nat fun sp => K (.sl false 0 0 8 (hComplete l).length ((hComplete l).length + sp)) [.arr 30 Kd.rcd (hComplete l) sp])
  | _ => .bad 500
theorem hComplete_eq {l : List Rec} (h : hRight l = true) : hComplete l = hOut l (hCallsOf l) l.length ++ hMore l (hCallsOf l) l.length := by
  unfold hRight at h
  unfold hComplete hCallsOf
  cases e : hCalls l with
  | none => rw [e] at h; cases h
  | some cs => rfl
theorem hComplete_not {l : List Rec} (h : hRight l = false) : hComplete l = [] := by
  unfold hRight at h
  unfold hComplete
  cases e : hCalls l with
  | none => rfl
  | some cs => rw [e] at h; cases h
theorem hCompleteHook : HookOk Try.prog 12 (hookFree [.rows Kd.rcd] runComplete) := by
  refine free_hook (C := cfgG) cfgG_ok (n := 40) (fn := Try.f12) ⟨by kernel_rfl, by kernel_rfl⟩ (by kernel_rfl) ?_
  intro M ar K0 H
  unfold runComplete at H
  split at H
  · rename_i l c
    obtain ⟨hb, H⟩ := H
    refine ⟨show 1 ≤ _ by decide +kernel, ?_⟩
    show (runF cfgG 40 12 Try.f12 [.sl false 0 0 8 l.length c] [(0, .ro Kd.rcd l)] 1).holds _
    rw [t12]
    simp only [List.drop_zero, List.take_length]
    have hcl := calls_len l
    have ho := hOut_le l (hCallsOf l) l.length
    have hm := hMore_le l (hCallsOf l) l.length
    refine ⟨by omega, hb, fun h => fun sp => ⟨l12_ok, fun p => p = ⟨l, c, hCallsOf l, sp, by omega⟩, ⟨Nat.le_refl _, SImp.of_wk (ren := []) ⟨l, c, hCallsOf l, sp, by omega⟩ ?_ rfl⟩, ?_⟩, fun h => ?_⟩
    · exact ⟨⟨AV.sub_same _, AV.sub_same _, AV.sub_same _, AV.sub_same _, AV.sub_same _, AV.sub_lit', trivial⟩, ⟨.same _, .same _, .same _, .same _, trivial⟩, rfl, tl_ok rfl, ⟨.inr rfl, .inr rfl, .inr rfl, .inr rfl, trivial⟩, ⟨Nat.le_of_ble_eq_true rfl, rfl⟩⟩
    · rintro _ rfl q ⟨h1, h2⟩
      refine ⟨m12_ok, fun p => p = ⟨l, c, hCallsOf l, sp, q.1, q.2, hb, h1, h2⟩, ⟨Nat.le_refl _, SImp.of_wk (ren := [(4, 98), (5, 99)]) ⟨l, c, hCallsOf l, sp, q.1, q.2, hb, h1, h2⟩ ?_ rfl⟩, ?_⟩
      · exact ⟨⟨AV.sub_same _, AV.sub_same _, AV.sub_nilS, AV.sub_nilS, AV.sub_same _, AV.sub_same _, AV.sub_lit', trivial⟩, ⟨.none _ _, .none _ _, .same _, .same _, .same _, trivial⟩, rfl, tl_ok rfl, ⟨.inr rfl, .inr rfl, .inr rfl, trivial⟩, ⟨Nat.le_of_ble_eq_true rfl, rfl⟩⟩
      · rintro _ rfl y _
        refine ⟨by omega, ⟨trivial, trivial, trivial, ?_⟩, fun z => ?_⟩
        · show ((hOut l (hCallsOf l) l.length).length + (hMore l (hCallsOf l) l.length).length) * 64 ≤ _
          omega
        · have h0 := H z
          have e := hComplete_eq h
          have el : (hComplete l).length = (hOut l (hCallsOf l) l.length).length + (hMore l (hCallsOf l) l.length).length := by rw [e, List.length_append]
          rw [el, e] at h0
          exact ⟨_, _, h0, _, HImp.refl _ _, ⟨⟨fun _ => 6, ⟨.same _, trivial⟩, AV.sub_same _⟩, rfl, rfl⟩⟩
    · have h0 := H 0
      rw [hComplete_not h] at h0
      exact ⟨_, _, h0, _, HImp.refl _ _, ⟨⟨fun _ => 99, ⟨.none _ _, trivial⟩, AV.sub_nilS⟩, rfl, rfl⟩⟩
  · exact H.elim

end Sx
end Go.Proofs.Ytemcdjdglcceiaa

/-
  The small case: the runs of the machine.
-/
namespace Go.Proofs.Ytemcdjdglcceiaa
namespace Sx
open Go
set_option maxRecDepth 100000
set_option linter.unusedVariables false

def hooksH : Nat → Option (HookS V) := fun g => match g with
  | 25 => some (hookFree [.rows Kd.rcd] runLeft)
  | 23 => some (hookFree [.rows Kd.rcd] runCommits)
  | 12 => some (hookFree [.rows Kd.rcd] runComplete)
  | g => hooksF g
noncomputable def fnsH : Nat → Option Func := fun g => match g with | 41 => some Try.f41 | _ => none
noncomputable def cfgH : Cfg Try.prog V := ⟨tab, kinds, fnsH, hooksH, fun _ _ => none⟩
def runSmall : RunFree V := fun ar K => match ar with
  | [] => K .tt []
  | _ => .bad 500
def hooksI : Nat → Option (HookS V) := fun g => match g with
  | 11 => some (hookFree [] runSmall)
  | g => hooksH g
noncomputable def cfgI : Cfg Try.prog V := ⟨tab, kinds, fun _ => none, hooksI, fun _ _ => none⟩
theorem t11  : runF cfgH 60 11 Try.f11 [] [] 0 =
  Out.need ((4 : Nat) ≤ (1099511627776 : Nat))
    (Out.all Nat fun y =>
      Out.need ((4 : Nat) ≤ (1099511627776 : Nat))
        (Out.ite
          (hRight
            [{ thread := (0 : Int), op := (0 : Int), what := (1 : Int), act := (2 : Int), key := (7 : Int), value := (1 : Int), hit := false, err := (0 : Int) :
                Rec },
              { thread := (0 : Int), op := (0 : Int), what := (2 : Int), act := (2 : Int), key := (7 : Int), value := (1 : Int), hit := false, err := (0 : Int) :
                Rec },
              { thread := (0 : Int), op := (0 : Int), what := (3 : Int), act := (2 : Int), key := (7 : Int), value := (1 : Int), hit := false, err := (0 : Int) :
                Rec },
              { thread := (0 : Int), op := (1 : Int), what := (1 : Int), act := (2 : Int), key := (7 : Int), value := (1 : Int), hit := false, err := (0 : Int) :
                Rec }])
          (Out.need ((2 : Nat) ≤ (2 : Nat))
            (Out.need ((2 : Nat) ≤ (1099511627776 : Nat))
              (Out.ite
                (decide
                  (List.take (2 : Nat)
                      (List.drop (0 : Nat)
                        (hCallsOf
                          [{ thread := (0 : Int), op := (0 : Int), what := (1 : Int), act := (2 : Int), key := (7 : Int), value := (1 : Int), hit := false,
                              err := (0 : Int) : Rec },
                            { thread := (0 : Int), op := (0 : Int), what := (2 : Int), act := (2 : Int), key := (7 : Int), value := (1 : Int), hit := false,
                              err := (0 : Int) : Rec },
                            { thread := (0 : Int), op := (0 : Int), what := (3 : Int), act := (2 : Int), key := (7 : Int), value := (1 : Int), hit := false,
                              err := (0 : Int) : Rec },
                            { thread := (0 : Int), op := (1 : Int), what := (1 : Int), act := (2 : Int), key := (7 : Int), value := (1 : Int), hit := false,
                              err := (0 : Int) : Rec }])) =
                    [{ thread := (0 : Int), op := (0 : Int), frm := (0 : Int), at_ := (1 : Int), to_ := (2 : Int) : Cal },
                      { thread := (0 : Int), op := (1 : Int), frm := (3 : Int), at_ := (-1 : Int), to_ := (-1 : Int) : Cal }]))
                (Out.need ((4 : Nat) ≤ (1099511627776 : Nat))
                  (Out.ite ((1 : Int) == (1 : Int))
                    (Out.need ((4 : Nat) ≤ (1099511627776 : Nat))
                      (Out.all Nat fun y_1 =>
                        Out.ite ((3 : Int) == (3 : Int))
                          (Out.need ((4 : Nat) ≤ (1099511627776 : Nat))
                            (Out.all Nat fun y_2 =>
                              Out.ite ((1 : Int) == (1 : Int))
                                (Out.ite ((2 : Int) == (2 : Int))
                                  (Out.need ((0 : Int) ≤ (0 : Int) ∧ (0 : Int) < (2 : Int))
                                    (Out.need ((0 : Nat) < (2 : Nat))
                                      (Out.need ((0 : Int) ≤ (1 : Int) ∧ (1 : Int) < (2 : Int))
                                        (Out.need ((1 : Nat) < (2 : Nat))
                                          (Out.ite
                                            (hBefore { thread := (0 : Int), op := (0 : Int), frm := (0 : Int), at_ := (1 : Int), to_ := (2 : Int) : Cal }
                                              { thread := (0 : Int), op := (1 : Int), frm := (3 : Int), at_ := (-1 : Int), to_ := (-1 : Int) : Cal })
                                            (Out.need ((0 : Int) ≤ (1 : Int) ∧ (1 : Int) ≤ (4 : Int))
                                              (Out.need ((3 : Nat) ≤ (1099511627776 : Nat))
                                                (Out.fin
                                                  (AV.bool
                                                    !hRight
                                                        [{ thread := (0 : Int), op := (0 : Int), what := (2 : Int), act := (2 : Int), key := (7 : Int),
                                                            value := (1 : Int), hit := false, err := (0 : Int) : Rec },
                                                          { thread := (0 : Int), op := (0 : Int), what := (3 : Int), act := (2 : Int), key := (7 : Int),
                                                            value := (1 : Int), hit := false, err := (0 : Int) : Rec },
                                                          { thread := (0 : Int), op := (1 : Int), what := (1 : Int), act := (2 : Int), key := (7 : Int),
                                                            value := (1 : Int), hit := false, err := (0 : Int) : Rec }])
                                                  [((6 : Nat),
                                                      Blk.arr (27 : Nat) Kd.com
                                                        (hCommits
                                                          [{ thread := (0 : Int), op := (0 : Int), what := (1 : Int), act := (2 : Int), key := (7 : Int),
                                                              value := (1 : Int), hit := false, err := (0 : Int) : Rec },
                                                            { thread := (0 : Int), op := (0 : Int), what := (2 : Int), act := (2 : Int), key := (7 : Int),
                                                              value := (1 : Int), hit := false, err := (0 : Int) : Rec },
                                                            { thread := (0 : Int), op := (0 : Int), what := (3 : Int), act := (2 : Int), key := (7 : Int),
                                                              value := (1 : Int), hit := false, err := (0 : Int) : Rec },
                                                            { thread := (0 : Int), op := (1 : Int), what := (1 : Int), act := (2 : Int), key := (7 : Int),
                                                              value := (1 : Int), hit := false, err := (0 : Int) : Rec }])
                                                        y_2),
                                                    ((5 : Nat),
                                                      Blk.arr (30 : Nat) Kd.rcd
                                                        (hComplete
                                                          [{ thread := (0 : Int), op := (0 : Int), what := (1 : Int), act := (2 : Int), key := (7 : Int),
                                                              value := (1 : Int), hit := false, err := (0 : Int) : Rec },
                                                            { thread := (0 : Int), op := (0 : Int), what := (2 : Int), act := (2 : Int), key := (7 : Int),
                                                              value := (1 : Int), hit := false, err := (0 : Int) : Rec },
                                                            { thread := (0 : Int), op := (0 : Int), what := (3 : Int), act := (2 : Int), key := (7 : Int),
                                                              value := (1 : Int), hit := false, err := (0 : Int) : Rec },
                                                            { thread := (0 : Int), op := (1 : Int), what := (1 : Int), act := (2 : Int), key := (7 : Int),
                                                              value := (1 : Int), hit := false, err := (0 : Int) : Rec }])
                                                        y_1),
                                                    ((4 : Nat),
                                                      Blk.cells (35 : Nat)
                                                        [AV.lit IntKind.i64 (0 : Int), AV.lit IntKind.i64 (0 : Int), AV.lit IntKind.i64 (0 : Int),
                                                          AV.lit IntKind.i64 (1 : Int), AV.lit IntKind.i64 (2 : Int), AV.lit IntKind.i64 (0 : Int),
                                                          AV.lit IntKind.i64 (1 : Int), AV.lit IntKind.i64 (3 : Int), AV.lit IntKind.i64 (-1 : Int),
                                                          AV.lit IntKind.i64 (-1 : Int)]),
                                                    ((3 : Nat),
                                                      Blk.arr (35 : Nat) Kd.cal
                                                        (hCallsOf
                                                          [{ thread := (0 : Int), op := (0 : Int), what := (1 : Int), act := (2 : Int), key := (7 : Int),
                                                              value := (1 : Int), hit := false, err := (0 : Int) : Rec },
                                                            { thread := (0 : Int), op := (0 : Int), what := (2 : Int), act := (2 : Int), key := (7 : Int),
                                                              value := (1 : Int), hit := false, err := (0 : Int) : Rec },
                                                            { thread := (0 : Int), op := (0 : Int), what := (3 : Int), act := (2 : Int), key := (7 : Int),
                                                              value := (1 : Int), hit := false, err := (0 : Int) : Rec },
                                                            { thread := (0 : Int), op := (1 : Int), what := (1 : Int), act := (2 : Int), key := (7 : Int),
                                                              value := (1 : Int), hit := false, err := (0 : Int) : Rec }])
                                                        y),
                                                    ((2 : Nat),
                                                      Blk.cells (30 : Nat)
                                                        [AV.lit IntKind.i64 (0 : Int), AV.lit IntKind.i64 (0 : Int), AV.lit IntKind.i64 (1 : Int),
                                                          AV.lit IntKind.i64 (2 : Int), AV.lit IntKind.i64 (7 : Int), AV.lit IntKind.i64 (1 : Int), AV.ff,
                                                          AV.lit IntKind.i64 (0 : Int), AV.lit IntKind.i64 (0 : Int), AV.lit IntKind.i64 (0 : Int),
                                                          AV.lit IntKind.i64 (2 : Int), AV.lit IntKind.i64 (2 : Int), AV.lit IntKind.i64 (7 : Int),
                                                          AV.lit IntKind.i64 (1 : Int), AV.ff, AV.lit IntKind.i64 (0 : Int), AV.lit IntKind.i64 (0 : Int),
                                                          AV.lit IntKind.i64 (0 : Int), AV.lit IntKind.i64 (3 : Int), AV.lit IntKind.i64 (2 : Int),
                                                          AV.lit IntKind.i64 (7 : Int), AV.lit IntKind.i64 (1 : Int), AV.ff, AV.lit IntKind.i64 (0 : Int),
                                                          AV.lit IntKind.i64 (0 : Int), AV.lit IntKind.i64 (1 : Int), AV.lit IntKind.i64 (1 : Int),
                                                          AV.lit IntKind.i64 (2 : Int), AV.lit IntKind.i64 (7 : Int), AV.lit IntKind.i64 (1 : Int), AV.ff,
                                                          AV.lit IntKind.i64 (0 : Int)]),
                                                    ((0 : Nat),
                                                      Blk.cells (27 : Nat)
                                                        [AV.lit IntKind.i64 (2 : Int), AV.lit IntKind.i64 (7 : Int), AV.lit IntKind.i64 (1 : Int), AV.ff])]
                                                  (7 : Nat))))
                                            (Out.fin AV.ff
                                              [((6 : Nat),
                                                  Blk.arr (27 : Nat) Kd.com
                                                    (hCommits
                                                      [{ thread := (0 : Int), op := (0 : Int), what := (1 : Int), act := (2 : Int), key := (7 : Int),
                                                          value := (1 : Int), hit := false, err := (0 : Int) : Rec },
                                                        { thread := (0 : Int), op := (0 : Int), what := (2 : Int), act := (2 : Int), key := (7 : Int),
                                                          value := (1 : Int), hit := false, err := (0 : Int) : Rec },
                                                        { thread := (0 : Int), op := (0 : Int), what := (3 : Int), act := (2 : Int), key := (7 : Int),
                                                          value := (1 : Int), hit := false, err := (0 : Int) : Rec },
                                                        { thread := (0 : Int), op := (1 : Int), what := (1 : Int), act := (2 : Int), key := (7 : Int),
                                                          value := (1 : Int), hit := false, err := (0 : Int) : Rec }])
                                                    y_2),
                                                ((5 : Nat),
                                                  Blk.arr (30 : Nat) Kd.rcd
                                                    (hComplete
                                                      [{ thread := (0 : Int), op := (0 : Int), what := (1 : Int), act := (2 : Int), key := (7 : Int),
                                                          value := (1 : Int), hit := false, err := (0 : Int) : Rec },
                                                        { thread := (0 : Int), op := (0 : Int), what := (2 : Int), act := (2 : Int), key := (7 : Int),
                                                          value := (1 : Int), hit := false, err := (0 : Int) : Rec },
                                                        { thread := (0 : Int), op := (0 : Int), what := (3 : Int), act := (2 : Int), key := (7 : Int),
                                                          value := (1 : Int), hit := false, err := (0 : Int) : Rec },
                                                        { thread := (0 : Int), op := (1 : Int), what := (1 : Int), act := (2 : Int), key := (7 : Int),
                                                          value := (1 : Int), hit := false, err := (0 : Int) : Rec }])
                                                    y_1),
                                                ((4 : Nat),
                                                  Blk.cells (35 : Nat)
                                                    [AV.lit IntKind.i64 (0 : Int), AV.lit IntKind.i64 (0 : Int), AV.lit IntKind.i64 (0 : Int),
                                                      AV.lit IntKind.i64 (1 : Int), AV.lit IntKind.i64 (2 : Int), AV.lit IntKind.i64 (0 : Int),
                                                      AV.lit IntKind.i64 (1 : Int), AV.lit IntKind.i64 (3 : Int), AV.lit IntKind.i64 (-1 : Int),
                                                      AV.lit IntKind.i64 (-1 : Int)]),
                                                ((3 : Nat),
                                                  Blk.arr (35 : Nat) Kd.cal
                                                    (hCallsOf
                                                      [{ thread := (0 : Int), op := (0 : Int), what := (1 : Int), act := (2 : Int), key := (7 : Int),
                                                          value := (1 : Int), hit := false, err := (0 : Int) : Rec },
                                                        { thread := (0 : Int), op := (0 : Int), what := (2 : Int), act := (2 : Int), key := (7 : Int),
                                                          value := (1 : Int), hit := false, err := (0 : Int) : Rec },
                                                        { thread := (0 : Int), op := (0 : Int), what := (3 : Int), act := (2 : Int), key := (7 : Int),
                                                          value := (1 : Int), hit := false, err := (0 : Int) : Rec },
                                                        { thread := (0 : Int), op := (1 : Int), what := (1 : Int), act := (2 : Int), key := (7 : Int),
                                                          value := (1 : Int), hit := false, err := (0 : Int) : Rec }])
                                                    y),
                                                ((2 : Nat),
                                                  Blk.cells (30 : Nat)
                                                    [AV.lit IntKind.i64 (0 : Int), AV.lit IntKind.i64 (0 : Int), AV.lit IntKind.i64 (1 : Int),
                                                      AV.lit IntKind.i64 (2 : Int), AV.lit IntKind.i64 (7 : Int), AV.lit IntKind.i64 (1 : Int), AV.ff,
                                                      AV.lit IntKind.i64 (0 : Int), AV.lit IntKind.i64 (0 : Int), AV.lit IntKind.i64 (0 : Int),
                                                      AV.lit IntKind.i64 (2 : Int), AV.lit IntKind.i64 (2 : Int), AV.lit IntKind.i64 (7 : Int),
                                                      AV.lit IntKind.i64 (1 : Int), AV.ff, AV.lit IntKind.i64 (0 : Int), AV.lit IntKind.i64 (0 : Int),
                                                      AV.lit IntKind.i64 (0 : Int), AV.lit IntKind.i64 (3 : Int), AV.lit IntKind.i64 (2 : Int),
                                                      AV.lit IntKind.i64 (7 : Int), AV.lit IntKind.i64 (1 : Int), AV.ff, AV.lit IntKind.i64 (0 : Int),
                                                      AV.lit IntKind.i64 (0 : Int), AV.lit IntKind.i64 (1 : Int), AV.lit IntKind.i64 (1 : Int),
                                                      AV.lit IntKind.i64 (2 : Int), AV.lit IntKind.i64 (7 : Int), AV.lit IntKind.i64 (1 : Int), AV.ff,
                                                      AV.lit IntKind.i64 (0 : Int)]),
                                                ((0 : Nat),
                                                  Blk.cells (27 : Nat)
                                                    [AV.lit IntKind.i64 (2 : Int), AV.lit IntKind.i64 (7 : Int), AV.lit IntKind.i64 (1 : Int), AV.ff])]
                                              (7 : Nat)))))))
                                  (Out.fin AV.ff
                                    [((6 : Nat),
                                        Blk.arr (27 : Nat) Kd.com
                                          (hCommits
                                            [{ thread := (0 : Int), op := (0 : Int), what := (1 : Int), act := (2 : Int), key := (7 : Int), value := (1 : Int),
                                                hit := false, err := (0 : Int) : Rec },
                                              { thread := (0 : Int), op := (0 : Int), what := (2 : Int), act := (2 : Int), key := (7 : Int), value := (1 : Int),
                                                hit := false, err := (0 : Int) : Rec },
                                              { thread := (0 : Int), op := (0 : Int), what := (3 : Int), act := (2 : Int), key := (7 : Int), value := (1 : Int),
                                                hit := false, err := (0 : Int) : Rec },
                                              { thread := (0 : Int), op := (1 : Int), what := (1 : Int), act := (2 : Int), key := (7 : Int), value := (1 : Int),
                                                hit := false, err := (0 : Int) : Rec }])
                                          y_2),
                                      ((5 : Nat),
                                        Blk.arr (30 : Nat) Kd.rcd
                                          (hComplete
                                            [{ thread := (0 : Int), op := (0 : Int), what := (1 : Int), act := (2 : Int), key := (7 : Int), value := (1 : Int),
                                                hit := false, err := (0 : Int) : Rec },
                                              { thread := (0 : Int), op := (0 : Int), what := (2 : Int), act := (2 : Int), key := (7 : Int), value := (1 : Int),
                                                hit := false, err := (0 : Int) : Rec },
                                              { thread := (0 : Int), op := (0 : Int), what := (3 : Int), act := (2 : Int), key := (7 : Int), value := (1 : Int),
                                                hit := false, err := (0 : Int) : Rec },
                                              { thread := (0 : Int), op := (1 : Int), what := (1 : Int), act := (2 : Int), key := (7 : Int), value := (1 : Int),
                                                hit := false, err := (0 : Int) : Rec }])
                                          y_1),
                                      ((4 : Nat),
                                        Blk.cells (35 : Nat)
                                          [AV.lit IntKind.i64 (0 : Int), AV.lit IntKind.i64 (0 : Int), AV.lit IntKind.i64 (0 : Int), AV.lit IntKind.i64 (1 : Int),
                                            AV.lit IntKind.i64 (2 : Int), AV.lit IntKind.i64 (0 : Int), AV.lit IntKind.i64 (1 : Int),
                                            AV.lit IntKind.i64 (3 : Int), AV.lit IntKind.i64 (-1 : Int), AV.lit IntKind.i64 (-1 : Int)]),
                                      ((3 : Nat),
                                        Blk.arr (35 : Nat) Kd.cal
                                          (hCallsOf
                                            [{ thread := (0 : Int), op := (0 : Int), what := (1 : Int), act := (2 : Int), key := (7 : Int), value := (1 : Int),
                                                hit := false, err := (0 : Int) : Rec },
                                              { thread := (0 : Int), op := (0 : Int), what := (2 : Int), act := (2 : Int), key := (7 : Int), value := (1 : Int),
                                                hit := false, err := (0 : Int) : Rec },
                                              { thread := (0 : Int), op := (0 : Int), what := (3 : Int), act := (2 : Int), key := (7 : Int), value := (1 : Int),
                                                hit := false, err := (0 : Int) : Rec },
                                              { thread := (0 : Int), op := (1 : Int), what := (1 : Int), act := (2 : Int), key := (7 : Int), value := (1 : Int),
                                                hit := false, err := (0 : Int) : Rec }])
                                          y),
                                      ((2 : Nat),
                                        Blk.cells (30 : Nat)
                                          [AV.lit IntKind.i64 (0 : Int), AV.lit IntKind.i64 (0 : Int), AV.lit IntKind.i64 (1 : Int), AV.lit IntKind.i64 (2 : Int),
                                            AV.lit IntKind.i64 (7 : Int), AV.lit IntKind.i64 (1 : Int), AV.ff, AV.lit IntKind.i64 (0 : Int),
                                            AV.lit IntKind.i64 (0 : Int), AV.lit IntKind.i64 (0 : Int), AV.lit IntKind.i64 (2 : Int),
                                            AV.lit IntKind.i64 (2 : Int), AV.lit IntKind.i64 (7 : Int), AV.lit IntKind.i64 (1 : Int), AV.ff,
                                            AV.lit IntKind.i64 (0 : Int), AV.lit IntKind.i64 (0 : Int), AV.lit IntKind.i64 (0 : Int),
                                            AV.lit IntKind.i64 (3 : Int), AV.lit IntKind.i64 (2 : Int), AV.lit IntKind.i64 (7 : Int),
                                            AV.lit IntKind.i64 (1 : Int), AV.ff, AV.lit IntKind.i64 (0 : Int), AV.lit IntKind.i64 (0 : Int),
                                            AV.lit IntKind.i64 (1 : Int), AV.lit IntKind.i64 (1 : Int), AV.lit IntKind.i64 (2 : Int),
                                            AV.lit IntKind.i64 (7 : Int), AV.lit IntKind.i64 (1 : Int), AV.ff, AV.lit IntKind.i64 (0 : Int)]),
                                      ((0 : Nat),
                                        Blk.cells (27 : Nat) [AV.lit IntKind.i64 (2 : Int), AV.lit IntKind.i64 (7 : Int), AV.lit IntKind.i64 (1 : Int), AV.ff])]
                                    (7 : Nat)))
                                (Out.fin AV.ff
                                  [((6 : Nat),
                                      Blk.arr (27 : Nat) Kd.com
                                        (hCommits
                                          [{ thread := (0 : Int), op := (0 : Int), what := (1 : Int), act := (2 : Int), key := (7 : Int), value := (1 : Int),
                                              hit := false, err := (0 : Int) : Rec },
                                            { thread := (0 : Int), op := (0 : Int), what := (2 : Int), act := (2 : Int), key := (7 : Int), value := (1 : Int),
                                              hit := false, err := (0 : Int) : Rec },
                                            { thread := (0 : Int), op := (0 : Int), what := (3 : Int), act := (2 : Int), key := (7 : Int), value := (1 : Int),
                                              hit := false, err := (0 : Int) : Rec },
                                            { thread := (0 : Int), op := (1 : Int), what := (1 : Int), act := (2 : Int), key := (7 : Int), value := (1 : Int),
                                              hit := false, err := (0 : Int) : Rec }])
                                        y_2),
                                    ((5 : Nat),
                                      Blk.arr (30 : Nat) Kd.rcd
                                        (hComplete
                                          [{ thread := (0 : Int), op := (0 : Int), what := (1 : Int), act := (2 : Int), key := (7 : Int), value := (1 : Int),
                                              hit := false, err := (0 : Int) : Rec },
                                            { thread := (0 : Int), op := (0 : Int), what := (2 : Int), act := (2 : Int), key := (7 : Int), value := (1 : Int),
                                              hit := false, err := (0 : Int) : Rec },
                                            { thread := (0 : Int), op := (0 : Int), what := (3 : Int), act := (2 : Int), key := (7 : Int), value := (1 : Int),
                                              hit := false, err := (0 : Int) : Rec },
                                            { thread := (0 : Int), op := (1 : Int), what := (1 : Int), act := (2 : Int), key := (7 : Int), value := (1 : Int),
                                              hit := false, err := (0 : Int) : Rec }])
                                        y_1),
                                    ((4 : Nat),
                                      Blk.cells (35 : Nat)
                                        [AV.lit IntKind.i64 (0 : Int), AV.lit IntKind.i64 (0 : Int), AV.lit IntKind.i64 (0 : Int), AV.lit IntKind.i64 (1 : Int),
                                          AV.lit IntKind.i64 (2 : Int), AV.lit IntKind.i64 (0 : Int), AV.lit IntKind.i64 (1 : Int), AV.lit IntKind.i64 (3 : Int),
                                          AV.lit IntKind.i64 (-1 : Int), AV.lit IntKind.i64 (-1 : Int)]),
                                    ((3 : Nat),
                                      Blk.arr (35 : Nat) Kd.cal
                                        (hCallsOf
                                          [{ thread := (0 : Int), op := (0 : Int), what := (1 : Int), act := (2 : Int), key := (7 : Int), value := (1 : Int),
                                              hit := false, err := (0 : Int) : Rec },
                                            { thread := (0 : Int), op := (0 : Int), what := (2 : Int), act := (2 : Int), key := (7 : Int), value := (1 : Int),
                                              hit := false, err := (0 : Int) : Rec },
                                            { thread := (0 : Int), op := (0 : Int), what := (3 : Int), act := (2 : Int), key := (7 : Int), value := (1 : Int),
                                              hit := false, err := (0 : Int) : Rec },
                                            { thread := (0 : Int), op := (1 : Int), what := (1 : Int), act := (2 : Int), key := (7 : Int), value := (1 : Int),
                                              hit := false, err := (0 : Int) : Rec }])
                                        y),
                                    ((2 : Nat),
                                      Blk.cells (30 : Nat)
                                        [AV.lit IntKind.i64 (0 : Int), AV.lit IntKind.i64 (0 : Int), AV.lit IntKind.i64 (1 : Int), AV.lit IntKind.i64 (2 : Int),
                                          AV.lit IntKind.i64 (7 : Int), AV.lit IntKind.i64 (1 : Int), AV.ff, AV.lit IntKind.i64 (0 : Int),
                                          AV.lit IntKind.i64 (0 : Int), AV.lit IntKind.i64 (0 : Int), AV.lit IntKind.i64 (2 : Int), AV.lit IntKind.i64 (2 : Int),
                                          AV.lit IntKind.i64 (7 : Int), AV.lit IntKind.i64 (1 : Int), AV.ff, AV.lit IntKind.i64 (0 : Int),
                                          AV.lit IntKind.i64 (0 : Int), AV.lit IntKind.i64 (0 : Int), AV.lit IntKind.i64 (3 : Int), AV.lit IntKind.i64 (2 : Int),
                                          AV.lit IntKind.i64 (7 : Int), AV.lit IntKind.i64 (1 : Int), AV.ff, AV.lit IntKind.i64 (0 : Int),
                                          AV.lit IntKind.i64 (0 : Int), AV.lit IntKind.i64 (1 : Int), AV.lit IntKind.i64 (1 : Int), AV.lit IntKind.i64 (2 : Int),
                                          AV.lit IntKind.i64 (7 : Int), AV.lit IntKind.i64 (1 : Int), AV.ff, AV.lit IntKind.i64 (0 : Int)]),
                                    ((0 : Nat),
                                      Blk.cells (27 : Nat) [AV.lit IntKind.i64 (2 : Int), AV.lit IntKind.i64 (7 : Int), AV.lit IntKind.i64 (1 : Int), AV.ff])]
                                  (7 : Nat))))
                          (Out.fin AV.ff
                            [((5 : Nat),
                                Blk.arr (30 : Nat) Kd.rcd
                                  (hComplete
                                    [{ thread := (0 : Int), op := (0 : Int), what := (1 : Int), act := (2 : Int), key := (7 : Int), value := (1 : Int),
                                        hit := false, err := (0 : Int) : Rec },
                                      { thread := (0 : Int), op := (0 : Int), what := (2 : Int), act := (2 : Int), key := (7 : Int), value := (1 : Int),
                                        hit := false, err := (0 : Int) : Rec },
                                      { thread := (0 : Int), op := (0 : Int), what := (3 : Int), act := (2 : Int), key := (7 : Int), value := (1 : Int),
                                        hit := false, err := (0 : Int) : Rec },
                                      { thread := (0 : Int), op := (1 : Int), what := (1 : Int), act := (2 : Int), key := (7 : Int), value := (1 : Int),
                                        hit := false, err := (0 : Int) : Rec }])
                                  y_1),
                              ((4 : Nat),
                                Blk.cells (35 : Nat)
                                  [AV.lit IntKind.i64 (0 : Int), AV.lit IntKind.i64 (0 : Int), AV.lit IntKind.i64 (0 : Int), AV.lit IntKind.i64 (1 : Int),
                                    AV.lit IntKind.i64 (2 : Int), AV.lit IntKind.i64 (0 : Int), AV.lit IntKind.i64 (1 : Int), AV.lit IntKind.i64 (3 : Int),
                                    AV.lit IntKind.i64 (-1 : Int), AV.lit IntKind.i64 (-1 : Int)]),
                              ((3 : Nat),
                                Blk.arr (35 : Nat) Kd.cal
                                  (hCallsOf
                                    [{ thread := (0 : Int), op := (0 : Int), what := (1 : Int), act := (2 : Int), key := (7 : Int), value := (1 : Int),
                                        hit := false, err := (0 : Int) : Rec },
                                      { thread := (0 : Int), op := (0 : Int), what := (2 : Int), act := (2 : Int), key := (7 : Int), value := (1 : Int),
                                        hit := false, err := (0 : Int) : Rec },
                                      { thread := (0 : Int), op := (0 : Int), what := (3 : Int), act := (2 : Int), key := (7 : Int), value := (1 : Int),
                                        hit := false, err := (0 : Int) : Rec },
                                      { thread := (0 : Int), op := (1 : Int), what := (1 : Int), act := (2 : Int), key := (7 : Int), value := (1 : Int),
                                        hit := false, err := (0 : Int) : Rec }])
                                  y),
                              ((2 : Nat),
                                Blk.cells (30 : Nat)
                                  [AV.lit IntKind.i64 (0 : Int), AV.lit IntKind.i64 (0 : Int), AV.lit IntKind.i64 (1 : Int), AV.lit IntKind.i64 (2 : Int),
                                    AV.lit IntKind.i64 (7 : Int), AV.lit IntKind.i64 (1 : Int), AV.ff, AV.lit IntKind.i64 (0 : Int), AV.lit IntKind.i64 (0 : Int),
                                    AV.lit IntKind.i64 (0 : Int), AV.lit IntKind.i64 (2 : Int), AV.lit IntKind.i64 (2 : Int), AV.lit IntKind.i64 (7 : Int),
                                    AV.lit IntKind.i64 (1 : Int), AV.ff, AV.lit IntKind.i64 (0 : Int), AV.lit IntKind.i64 (0 : Int), AV.lit IntKind.i64 (0 : Int),
                                    AV.lit IntKind.i64 (3 : Int), AV.lit IntKind.i64 (2 : Int), AV.lit IntKind.i64 (7 : Int), AV.lit IntKind.i64 (1 : Int), AV.ff,
                                    AV.lit IntKind.i64 (0 : Int), AV.lit IntKind.i64 (0 : Int), AV.lit IntKind.i64 (1 : Int), AV.lit IntKind.i64 (1 : Int),
                                    AV.lit IntKind.i64 (2 : Int), AV.lit IntKind.i64 (7 : Int), AV.lit IntKind.i64 (1 : Int), AV.ff,
                                    AV.lit IntKind.i64 (0 : Int)]),
                              ((0 : Nat), Blk.cells (27 : Nat) [AV.lit IntKind.i64 (2 : Int), AV.lit IntKind.i64 (7 : Int), AV.lit IntKind.i64 (1 : Int), AV.ff])]
                            (6 : Nat))))
                    (Out.fin AV.ff
                      [((4 : Nat),
                          Blk.cells (35 : Nat)
                            [AV.lit IntKind.i64 (0 : Int), AV.lit IntKind.i64 (0 : Int), AV.lit IntKind.i64 (0 : Int), AV.lit IntKind.i64 (1 : Int),
                              AV.lit IntKind.i64 (2 : Int), AV.lit IntKind.i64 (0 : Int), AV.lit IntKind.i64 (1 : Int), AV.lit IntKind.i64 (3 : Int),
                              AV.lit IntKind.i64 (-1 : Int), AV.lit IntKind.i64 (-1 : Int)]),
                        ((3 : Nat),
                          Blk.arr (35 : Nat) Kd.cal
                            (hCallsOf
                              [{ thread := (0 : Int), op := (0 : Int), what := (1 : Int), act := (2 : Int), key := (7 : Int), value := (1 : Int), hit := false,
                                  err := (0 : Int) : Rec },
                                { thread := (0 : Int), op := (0 : Int), what := (2 : Int), act := (2 : Int), key := (7 : Int), value := (1 : Int), hit := false,
                                  err := (0 : Int) : Rec },
                                { thread := (0 : Int), op := (0 : Int), what := (3 : Int), act := (2 : Int), key := (7 : Int), value := (1 : Int), hit := false,
                                  err := (0 : Int) : Rec },
                                { thread := (0 : Int), op := (1 : Int), what := (1 : Int), act := (2 : Int), key := (7 : Int), value := (1 : Int), hit := false,
                                  err := (0 : Int) : Rec }])
                            y),
                        ((2 : Nat),
                          Blk.cells (30 : Nat)
                            [AV.lit IntKind.i64 (0 : Int), AV.lit IntKind.i64 (0 : Int), AV.lit IntKind.i64 (1 : Int), AV.lit IntKind.i64 (2 : Int),
                              AV.lit IntKind.i64 (7 : Int), AV.lit IntKind.i64 (1 : Int), AV.ff, AV.lit IntKind.i64 (0 : Int), AV.lit IntKind.i64 (0 : Int),
                              AV.lit IntKind.i64 (0 : Int), AV.lit IntKind.i64 (2 : Int), AV.lit IntKind.i64 (2 : Int), AV.lit IntKind.i64 (7 : Int),
                              AV.lit IntKind.i64 (1 : Int), AV.ff, AV.lit IntKind.i64 (0 : Int), AV.lit IntKind.i64 (0 : Int), AV.lit IntKind.i64 (0 : Int),
                              AV.lit IntKind.i64 (3 : Int), AV.lit IntKind.i64 (2 : Int), AV.lit IntKind.i64 (7 : Int), AV.lit IntKind.i64 (1 : Int), AV.ff,
                              AV.lit IntKind.i64 (0 : Int), AV.lit IntKind.i64 (0 : Int), AV.lit IntKind.i64 (1 : Int), AV.lit IntKind.i64 (1 : Int),
                              AV.lit IntKind.i64 (2 : Int), AV.lit IntKind.i64 (7 : Int), AV.lit IntKind.i64 (1 : Int), AV.ff, AV.lit IntKind.i64 (0 : Int)]),
                        ((0 : Nat), Blk.cells (27 : Nat) [AV.lit IntKind.i64 (2 : Int), AV.lit IntKind.i64 (7 : Int), AV.lit IntKind.i64 (1 : Int), AV.ff])]
                      (5 : Nat))))
                (Out.fin AV.ff
                  [((4 : Nat),
                      Blk.cells (35 : Nat)
                        [AV.lit IntKind.i64 (0 : Int), AV.lit IntKind.i64 (0 : Int), AV.lit IntKind.i64 (0 : Int), AV.lit IntKind.i64 (1 : Int),
                          AV.lit IntKind.i64 (2 : Int), AV.lit IntKind.i64 (0 : Int), AV.lit IntKind.i64 (1 : Int), AV.lit IntKind.i64 (3 : Int),
                          AV.lit IntKind.i64 (-1 : Int), AV.lit IntKind.i64 (-1 : Int)]),
                    ((3 : Nat),
                      Blk.arr (35 : Nat) Kd.cal
                        (hCallsOf
                          [{ thread := (0 : Int), op := (0 : Int), what := (1 : Int), act := (2 : Int), key := (7 : Int), value := (1 : Int), hit := false,
                              err := (0 : Int) : Rec },
                            { thread := (0 : Int), op := (0 : Int), what := (2 : Int), act := (2 : Int), key := (7 : Int), value := (1 : Int), hit := false,
                              err := (0 : Int) : Rec },
                            { thread := (0 : Int), op := (0 : Int), what := (3 : Int), act := (2 : Int), key := (7 : Int), value := (1 : Int), hit := false,
                              err := (0 : Int) : Rec },
                            { thread := (0 : Int), op := (1 : Int), what := (1 : Int), act := (2 : Int), key := (7 : Int), value := (1 : Int), hit := false,
                              err := (0 : Int) : Rec }])
                        y),
                    ((2 : Nat),
                      Blk.cells (30 : Nat)
                        [AV.lit IntKind.i64 (0 : Int), AV.lit IntKind.i64 (0 : Int), AV.lit IntKind.i64 (1 : Int), AV.lit IntKind.i64 (2 : Int),
                          AV.lit IntKind.i64 (7 : Int), AV.lit IntKind.i64 (1 : Int), AV.ff, AV.lit IntKind.i64 (0 : Int), AV.lit IntKind.i64 (0 : Int),
                          AV.lit IntKind.i64 (0 : Int), AV.lit IntKind.i64 (2 : Int), AV.lit IntKind.i64 (2 : Int), AV.lit IntKind.i64 (7 : Int),
                          AV.lit IntKind.i64 (1 : Int), AV.ff, AV.lit IntKind.i64 (0 : Int), AV.lit IntKind.i64 (0 : Int), AV.lit IntKind.i64 (0 : Int),
                          AV.lit IntKind.i64 (3 : Int), AV.lit IntKind.i64 (2 : Int), AV.lit IntKind.i64 (7 : Int), AV.lit IntKind.i64 (1 : Int), AV.ff,
                          AV.lit IntKind.i64 (0 : Int), AV.lit IntKind.i64 (0 : Int), AV.lit IntKind.i64 (1 : Int), AV.lit IntKind.i64 (1 : Int),
                          AV.lit IntKind.i64 (2 : Int), AV.lit IntKind.i64 (7 : Int), AV.lit IntKind.i64 (1 : Int), AV.ff, AV.lit IntKind.i64 (0 : Int)]),
                    ((0 : Nat), Blk.cells (27 : Nat) [AV.lit IntKind.i64 (2 : Int), AV.lit IntKind.i64 (7 : Int), AV.lit IntKind.i64 (1 : Int), AV.ff])]
                  (5 : Nat)))))
          (Out.fin AV.ff
            [((3 : Nat),
                Blk.arr (35 : Nat) Kd.cal
                  (hCallsOf
                    [{ thread := (0 : Int), op := (0 : Int), what := (1 : Int), act := (2 : Int), key := (7 : Int), value := (1 : Int), hit := false,
                        err := (0 : Int) : Rec },
                      { thread := (0 : Int), op := (0 : Int), what := (2 : Int), act := (2 : Int), key := (7 : Int), value := (1 : Int), hit := false,
                        err := (0 : Int) : Rec },
                      { thread := (0 : Int), op := (0 : Int), what := (3 : Int), act := (2 : Int), key := (7 : Int), value := (1 : Int), hit := false,
                        err := (0 : Int) : Rec },
                      { thread := (0 : Int), op := (1 : Int), what := (1 : Int), act := (2 : Int), key := (7 : Int), value := (1 : Int), hit := false,
                        err := (0 : Int) : Rec }])
                  y),
              ((2 : Nat),
                Blk.cells (30 : Nat)
                  [AV.lit IntKind.i64 (0 : Int), AV.lit IntKind.i64 (0 : Int), AV.lit IntKind.i64 (1 : Int), AV.lit IntKind.i64 (2 : Int),
                    AV.lit IntKind.i64 (7 : Int), AV.lit IntKind.i64 (1 : Int), AV.ff, AV.lit IntKind.i64 (0 : Int), AV.lit IntKind.i64 (0 : Int),
                    AV.lit IntKind.i64 (0 : Int), AV.lit IntKind.i64 (2 : Int), AV.lit IntKind.i64 (2 : Int), AV.lit IntKind.i64 (7 : Int),
                    AV.lit IntKind.i64 (1 : Int), AV.ff, AV.lit IntKind.i64 (0 : Int), AV.lit IntKind.i64 (0 : Int), AV.lit IntKind.i64 (0 : Int),
                    AV.lit IntKind.i64 (3 : Int), AV.lit IntKind.i64 (2 : Int), AV.lit IntKind.i64 (7 : Int), AV.lit IntKind.i64 (1 : Int), AV.ff,
                    AV.lit IntKind.i64 (0 : Int), AV.lit IntKind.i64 (0 : Int), AV.lit IntKind.i64 (1 : Int), AV.lit IntKind.i64 (1 : Int),
                    AV.lit IntKind.i64 (2 : Int), AV.lit IntKind.i64 (7 : Int), AV.lit IntKind.i64 (1 : Int), AV.ff, AV.lit IntKind.i64 (0 : Int)]),
              ((0 : Nat), Blk.cells (27 : Nat) [AV.lit IntKind.i64 (2 : Int), AV.lit IntKind.i64 (7 : Int), AV.lit IntKind.i64 (1 : Int), AV.ff])]
            (4 : Nat)))) := by kernel_rfl

end Sx
end Go.Proofs.Ytemcdjdglcceiaa

/-
  The small case comes out right.
-/
namespace Go.Proofs.Ytemcdjdglcceiaa
namespace Sx
open Go
set_option linter.unusedSimpArgs false
set_option linter.unusedVariables false

theorem hooksH_ok : ∀ g H, hooksH g = some H → HookOk Try.prog g H := by
  intro g H h
  unfold hooksH at h
  split at h
  · cases h; exact hLeftHook
  · cases h; exact hCommitsHook
  · cases h; exact hCompleteHook
  · exact hooksF_ok _ H h
theorem cfgH_ok : cfgH.ok := by
  refine ⟨tab_met, kinds_met, mixed_met, fun g fn h => ?_, hooksH_ok⟩
  unfold cfgH fnsH at h
  simp only at h
  split at h <;> cases h
  exact ⟨by kernel_rfl, by kernel_rfl⟩

theorem hSmall : HookOk Try.prog 11 (hookFree [] runSmall) := by
  refine free_hook (C := cfgH) cfgH_ok (n := 60) (fn := Try.f11) ⟨by kernel_rfl, by kernel_rfl⟩ (by kernel_rfl) ?_
  intro M ar K0 H
  unfold runSmall at H
  split at H
  · refine ⟨Nat.zero_le _, ?_⟩
    show (runF cfgH 60 11 Try.f11 [] [] 0).holds _
    rw [t11]
    have no : ∀ {p : Prop} {b : Bool}, b = true → b = false → p := fun h k => absurd (h.symm.trans k) (by decide)
    refine ⟨by decide, fun y => ⟨by decide, fun _ => ?_, fun h => no (by decide +kernel) h⟩⟩
    refine ⟨by decide, by decide, fun _ => ?_, fun h => no (by decide +kernel) h⟩
    refine ⟨by decide, fun _ => ?_, fun h => no (by decide +kernel) h⟩
    refine ⟨by decide, fun y1 => ⟨fun _ => ?_, fun h => no (by decide +kernel) h⟩⟩
    refine ⟨by decide, fun y2 => ⟨fun _ => ?_, fun h => no (by decide +kernel) h⟩⟩
    refine ⟨fun _ => ?_, fun h => no (by decide +kernel) h⟩
    refine ⟨by decide, by decide, by decide, by decide, fun _ => ?_, fun h => no (by decide +kernel) h⟩
    exact ⟨by decide, by decide, _, _, H, endPlain (fun r z hz => hz.trans (congrArg Value.bool (by decide +kernel))) rfl⟩
  · exact H.elim
theorem hooksI_ok : ∀ g H, hooksI g = some H → HookOk Try.prog g H := by
  intro g H h
  unfold hooksI at h
  split at h
  · cases h; exact hSmall
  · exact hooksH_ok _ H h
theorem cfgI_ok : cfgI.ok := ⟨tab_met, kinds_met, mixed_met, fun g fn h => (by cases h), hooksI_ok⟩

end Sx
end Go.Proofs.Ytemcdjdglcceiaa

/-
  The law of orders: the runs of the machine.
-/
namespace Go.Proofs.Ytemcdjdglcceiaa
namespace Sx
open Go
set_option maxRecDepth 100000
set_option linter.unusedVariables false

/-- What holds of all calls of a row. -/
structure Ord (cs : List Cal) : Prop where
  one : ∀ (i : Nat) (c : Cal), cs[i]? = some c → 0 ≤ c.frm ∧ (0 ≤ c.at_ → c.frm < c.at_) ∧ (0 ≤ c.to_ → c.frm < c.to_ ∧ c.at_ < c.to_)
  two : ∀ (i k : Nat) (c d : Cal), cs[i]? = some c → cs[k]? = some d → c.thread = d.thread → c.op < d.op → 0 ≤ c.to_ ∧ c.to_ < d.frm
structure PO where
  l : List Rec
  c : Nat
  cs : List Cal
  sp : Nat
  hb : cs.length ≤ 1099511627776
  O : Ord cs
structure PK extends PO where
  i : Nat
  hi : i < cs.length
structure PJ extends PK where
  k : Nat
  hk : k < cs.length
def H5 (p : PO) : Heap V := [(1, .arr 35 Kd.cal p.cs p.sp), (0, .ro Kd.rcd p.l)]
def I50 (p : PO) (i : Nat) : St V := ⟨[(0, .sl false 0 0 8 p.l.length p.c), (3, .tt), (4, .sl false 1 0 5 p.cs.length (p.cs.length + p.sp)), (5, .int .i64 (i : Int))], H5 p, 2, 193, [0, 1, 2, 3, 4, 5, 6, 7, 8]⟩
def I52 (p : PK) (k : Nat) : St V := ⟨[(0, .sl false 0 0 8 p.l.length p.c), (3, .tt), (4, .sl false 1 0 5 p.cs.length (p.cs.length + p.sp)), (5, .int .i64 (p.i : Int)), (6, .int .i64 (k : Int))], H5 p.toPO, 2, 193, [0, 1, 2, 3, 4, 5, 6, 7, 8]⟩
def I54 (p : PJ) (j : Nat) : St V := ⟨[(0, .sl false 0 0 8 p.l.length p.c), (3, .tt), (4, .sl false 1 0 5 p.cs.length (p.cs.length + p.sp)), (5, .int .i64 (p.i : Int)), (6, .int .i64 (p.k : Int)), (7, .int .i64 (j : Int))], H5 p.toPO, 2, 193, [0, 1, 2, 3, 4, 5, 6, 7, 8]⟩
def L54 : LoopS V := trimLoop (trimSt [0, 3, 4, 5, 6, 7] [0, 1]) (loopH 2 (fun p : PJ => I54 p 0) (fun _ (_ : Unit) => True) (fun p _ => I52 p.toPK p.k))
def L52 : LoopS V := trimLoop (trimSt [0, 3, 4, 5, 6] [0, 1]) (loopH 2 (fun p : PK => I52 p 0) (fun _ (_ : Unit) => True) (fun p _ => I50 p.toPO p.i))
def L50 : LoopS V := trimLoop (trimSt [0, 3, 4, 5] [0, 1]) (loopH 2 (fun p : PO => I50 p 0) (fun _ (_ : Unit) => True) (fun p _ => I50 p p.cs.length))
noncomputable def cfg54 : Cfg Try.prog V := ⟨tab, kinds, fun _ => none, hooksI, fun f id => match f, id with | 5, 4 => some L54 | _, _ => none⟩
noncomputable def cfg52 : Cfg Try.prog V := ⟨tab, kinds, fun _ => none, hooksI, fun f id => match f, id with | 5, 2 => some L52 | _, _ => none⟩
noncomputable def cfg50 : Cfg Try.prog V := ⟨tab, kinds, fun _ => none, hooksI, fun f id => match f, id with | 5, 0 => some L50 | _, _ => none⟩
theorem b54 (p : PJ) (j : Nat) : runCode cfgI 60 5 (loopOf Try.f5 4) (I54 p j) (stopT (trimSt [0, 3, 4, 5, 6, 7] [0, 1])) =
  Out.ite (decide ((↑j : Int) < (↑p.cs.length : Int)))
    (Out.ite (decide ((↑j : Int) < 12))
      (Out.need (0 ≤ (↑p.toPK.2 : Int) ∧ (↑p.toPK.2 : Int) < (↑p.cs.length : Int))
        (Out.need (0 + p.toPK.2 < p.cs.length)
          (Out.need (0 ≤ (↑p.2 : Int) ∧ (↑p.2 : Int) < (↑p.cs.length : Int))
            (Out.need (0 + p.2 < p.cs.length)
              (Out.ite
                (hBefore
                  { thread := (p.cs.getD (0 + p.toPK.2) (V.enc Kd.cal).dflt).thread, op := (p.cs.getD (0 + p.toPK.2) (V.enc Kd.cal).dflt).op,
                    frm := (p.cs.getD (0 + p.toPK.2) (V.enc Kd.cal).dflt).frm, at_ := (p.cs.getD (0 + p.toPK.2) (V.enc Kd.cal).dflt).at_,
                    to_ := (p.cs.getD (0 + p.toPK.2) (V.enc Kd.cal).dflt).to_ : Cal }
                  { thread := (p.cs.getD (0 + p.2) (V.enc Kd.cal).dflt).thread, op := (p.cs.getD (0 + p.2) (V.enc Kd.cal).dflt).op,
                    frm := (p.cs.getD (0 + p.2) (V.enc Kd.cal).dflt).frm, at_ := (p.cs.getD (0 + p.2) (V.enc Kd.cal).dflt).at_,
                    to_ := (p.cs.getD (0 + p.2) (V.enc Kd.cal).dflt).to_ : Cal })
                (Out.need (0 ≤ (↑p.2 : Int) ∧ (↑p.2 : Int) < (↑p.cs.length : Int))
                  (Out.need (0 + p.2 < p.cs.length)
                    (Out.need (0 ≤ (↑j : Int) ∧ (↑j : Int) < (↑p.cs.length : Int))
                      (Out.need (0 + j < p.cs.length)
                        (Out.ite
                          (hBefore
                            { thread := (p.cs.getD (0 + p.2) (V.enc Kd.cal).dflt).thread, op := (p.cs.getD (0 + p.2) (V.enc Kd.cal).dflt).op,
                              frm := (p.cs.getD (0 + p.2) (V.enc Kd.cal).dflt).frm, at_ := (p.cs.getD (0 + p.2) (V.enc Kd.cal).dflt).at_,
                              to_ := (p.cs.getD (0 + p.2) (V.enc Kd.cal).dflt).to_ : Cal }
                            { thread := (p.cs.getD (0 + j) (V.enc Kd.cal).dflt).thread, op := (p.cs.getD (0 + j) (V.enc Kd.cal).dflt).op,
                              frm := (p.cs.getD (0 + j) (V.enc Kd.cal).dflt).frm, at_ := (p.cs.getD (0 + j) (V.enc Kd.cal).dflt).at_,
                              to_ := (p.cs.getD (0 + j) (V.enc Kd.cal).dflt).to_ : Cal })
                          (Out.need (0 ≤ (↑p.toPK.2 : Int) ∧ (↑p.toPK.2 : Int) < (↑p.cs.length : Int))
                            (Out.need (0 + p.toPK.2 < p.cs.length)
                              (Out.need (0 ≤ (↑j : Int) ∧ (↑j : Int) < (↑p.cs.length : Int))
                                (Out.need (0 + j < p.cs.length)
                                  (Out.ite
                                    (!hBefore
                                        { thread := (p.cs.getD (0 + p.toPK.2) (V.enc Kd.cal).dflt).thread,
                                          op := (p.cs.getD (0 + p.toPK.2) (V.enc Kd.cal).dflt).op, frm := (p.cs.getD (0 + p.toPK.2) (V.enc Kd.cal).dflt).frm,
                                          at_ := (p.cs.getD (0 + p.toPK.2) (V.enc Kd.cal).dflt).at_, to_ := (p.cs.getD (0 + p.toPK.2) (V.enc Kd.cal).dflt).to_ :
                                          Cal }
                                        { thread := (p.cs.getD (0 + j) (V.enc Kd.cal).dflt).thread, op := (p.cs.getD (0 + j) (V.enc Kd.cal).dflt).op,
                                          frm := (p.cs.getD (0 + j) (V.enc Kd.cal).dflt).frm, at_ := (p.cs.getD (0 + j) (V.enc Kd.cal).dflt).at_,
                                          to_ := (p.cs.getD (0 + j) (V.enc Kd.cal).dflt).to_ : Cal })
                                    (Out.stop EX.rt
                                      {
                                        env :=
                                          [(0, AV.sl false 0 0 8 p.l.length p.toPO.2), (3, AV.tt), (4, AV.sl false 1 0 5 p.cs.length (p.cs.length + p.toPO.4)),
                                            (5, AV.int IntKind.i64 (↑p.toPK.2 : Int)), (6, AV.int IntKind.i64 (↑p.2 : Int)), (7, AV.int IntKind.i64 (↑j : Int))],
                                        heap := [(1, Blk.arr 35 Kd.cal p.cs p.toPO.4), (0, Blk.ro Kd.rcd p.l)], nx := 2, nt := 193,
                                        tl := [0, 1, 2, 3, 4, 5, 6, 7, 8] : St V })
                                    (Out.stop EX.nx
                                      {
                                        env :=
                                          [(0, AV.sl false 0 0 8 p.l.length p.toPO.2), (3, AV.tt), (4, AV.sl false 1 0 5 p.cs.length (p.cs.length + p.toPO.4)),
                                            (5, AV.int IntKind.i64 (↑p.toPK.2 : Int)), (6, AV.int IntKind.i64 (↑p.2 : Int)),
                                            (7, AV.int IntKind.i64 (IntKind.i64.wrap ((↑j : Int) + 1)))],
                                        heap := [(1, Blk.arr 35 Kd.cal p.cs p.toPO.4), (0, Blk.ro Kd.rcd p.l)], nx := 2, nt := 193,
                                        tl := [0, 1, 2, 3, 4, 5, 6, 7, 8] : St V }))))))
                          (Out.stop EX.nx
                            {
                              env :=
                                [(0, AV.sl false 0 0 8 p.l.length p.toPO.2), (3, AV.tt), (4, AV.sl false 1 0 5 p.cs.length (p.cs.length + p.toPO.4)),
                                  (5, AV.int IntKind.i64 (↑p.toPK.2 : Int)), (6, AV.int IntKind.i64 (↑p.2 : Int)),
                                  (7, AV.int IntKind.i64 (IntKind.i64.wrap ((↑j : Int) + 1)))],
                              heap := [(1, Blk.arr 35 Kd.cal p.cs p.toPO.4), (0, Blk.ro Kd.rcd p.l)], nx := 2, nt := 193, tl := [0, 1, 2, 3, 4, 5, 6, 7, 8] :
                              St V }))))))
                (Out.stop EX.nx
                  {
                    env :=
                      [(0, AV.sl false 0 0 8 p.l.length p.toPO.2), (3, AV.tt), (4, AV.sl false 1 0 5 p.cs.length (p.cs.length + p.toPO.4)),
                        (5, AV.int IntKind.i64 (↑p.toPK.2 : Int)), (6, AV.int IntKind.i64 (↑p.2 : Int)),
                        (7, AV.int IntKind.i64 (IntKind.i64.wrap ((↑j : Int) + 1)))],
                    heap := [(1, Blk.arr 35 Kd.cal p.cs p.toPO.4), (0, Blk.ro Kd.rcd p.l)], nx := 2, nt := 193, tl := [0, 1, 2, 3, 4, 5, 6, 7, 8] : St V }))))))
      (Out.stop (EX.ex 4)
        {
          env :=
            [(0, AV.sl false 0 0 8 p.l.length p.toPO.2), (3, AV.tt), (4, AV.sl false 1 0 5 p.cs.length (p.cs.length + p.toPO.4)),
              (5, AV.int IntKind.i64 (↑p.toPK.2 : Int)), (6, AV.int IntKind.i64 (↑p.2 : Int)), (7, AV.int IntKind.i64 (↑j : Int))],
          heap := [(1, Blk.arr 35 Kd.cal p.cs p.toPO.4), (0, Blk.ro Kd.rcd p.l)], nx := 2, nt := 193, tl := [0, 1, 2, 3, 4, 5, 6, 7, 8] : St V }))
    (Out.stop (EX.ex 4)
      {
        env :=
          [(0, AV.sl false 0 0 8 p.l.length p.toPO.2), (3, AV.tt), (4, AV.sl false 1 0 5 p.cs.length (p.cs.length + p.toPO.4)),
            (5, AV.int IntKind.i64 (↑p.toPK.2 : Int)), (6, AV.int IntKind.i64 (↑p.2 : Int)), (7, AV.int IntKind.i64 (↑j : Int))],
        heap := [(1, Blk.arr 35 Kd.cal p.cs p.toPO.4), (0, Blk.ro Kd.rcd p.l)], nx := 2, nt := 193, tl := [0, 1, 2, 3, 4, 5, 6, 7, 8] : St V }) := by kernel_rfl

theorem b52 (p : PK) (k : Nat) : runCode cfg54 60 5 (loopOf Try.f5 2) (I52 p k) (stopT (trimSt [0, 3, 4, 5, 6] [0, 1])) =
  Out.ite (decide ((↑k : Int) < (↑p.cs.length : Int)))
    (Out.need (0 ≤ (↑p.2 : Int) ∧ (↑p.2 : Int) < (↑p.cs.length : Int))
      (Out.need (0 + p.2 < p.cs.length)
        (Out.need (0 ≤ (↑k : Int) ∧ (↑k : Int) < (↑p.cs.length : Int))
          (Out.need (0 + k < p.cs.length)
            (Out.ite ((p.cs.getD (0 + p.2) (V.enc Kd.cal).dflt).thread == (p.cs.getD (0 + k) (V.enc Kd.cal).dflt).thread)
              (Out.need (0 ≤ (↑p.2 : Int) ∧ (↑p.2 : Int) < (↑p.cs.length : Int))
                (Out.need (0 + p.2 < p.cs.length)
                  (Out.need (0 ≤ (↑k : Int) ∧ (↑k : Int) < (↑p.cs.length : Int))
                    (Out.need (0 + k < p.cs.length)
                      (Out.ite (decide ((p.cs.getD (0 + p.2) (V.enc Kd.cal).dflt).op < (p.cs.getD (0 + k) (V.enc Kd.cal).dflt).op))
                        (Out.need (0 ≤ (↑p.2 : Int) ∧ (↑p.2 : Int) < (↑p.cs.length : Int))
                          (Out.need (0 + p.2 < p.cs.length)
                            (Out.need (0 ≤ (↑k : Int) ∧ (↑k : Int) < (↑p.cs.length : Int))
                              (Out.need (0 + k < p.cs.length)
                                (Out.ite
                                  (!hBefore
                                      { thread := (p.cs.getD (0 + p.2) (V.enc Kd.cal).dflt).thread, op := (p.cs.getD (0 + p.2) (V.enc Kd.cal).dflt).op,
                                        frm := (p.cs.getD (0 + p.2) (V.enc Kd.cal).dflt).frm, at_ := (p.cs.getD (0 + p.2) (V.enc Kd.cal).dflt).at_,
                                        to_ := (p.cs.getD (0 + p.2) (V.enc Kd.cal).dflt).to_ : Cal }
                                      { thread := (p.cs.getD (0 + k) (V.enc Kd.cal).dflt).thread, op := (p.cs.getD (0 + k) (V.enc Kd.cal).dflt).op,
                                        frm := (p.cs.getD (0 + k) (V.enc Kd.cal).dflt).frm, at_ := (p.cs.getD (0 + k) (V.enc Kd.cal).dflt).at_,
                                        to_ := (p.cs.getD (0 + k) (V.enc Kd.cal).dflt).to_ : Cal })
                                  (Out.stop EX.rt
                                    {
                                      env :=
                                        [(0, AV.sl false 0 0 8 p.l.length p.toPO.2), (3, AV.tt), (4, AV.sl false 1 0 5 p.cs.length (p.cs.length + p.toPO.4)),
                                          (5, AV.int IntKind.i64 (↑p.2 : Int)), (6, AV.int IntKind.i64 (↑k : Int))],
                                      heap := [(1, Blk.arr 35 Kd.cal p.cs p.toPO.4), (0, Blk.ro Kd.rcd p.l)], nx := 2, nt := 193,
                                      tl := [0, 1, 2, 3, 4, 5, 6, 7, 8] : St V })
                                  (Out.need (0 ≤ (↑p.2 : Int) ∧ (↑p.2 : Int) < (↑p.cs.length : Int))
                                    (Out.need (0 + p.2 < p.cs.length)
                                      (Out.need (0 ≤ (↑k : Int) ∧ (↑k : Int) < (↑p.cs.length : Int))
                                        (Out.need (0 + k < p.cs.length)
                                          (Out.ite
                                            (hBefore
                                              { thread := (p.cs.getD (0 + p.2) (V.enc Kd.cal).dflt).thread, op := (p.cs.getD (0 + p.2) (V.enc Kd.cal).dflt).op,
                                                frm := (p.cs.getD (0 + p.2) (V.enc Kd.cal).dflt).frm, at_ := (p.cs.getD (0 + p.2) (V.enc Kd.cal).dflt).at_,
                                                to_ := (p.cs.getD (0 + p.2) (V.enc Kd.cal).dflt).to_ : Cal }
                                              { thread := (p.cs.getD (0 + k) (V.enc Kd.cal).dflt).thread, op := (p.cs.getD (0 + k) (V.enc Kd.cal).dflt).op,
                                                frm := (p.cs.getD (0 + k) (V.enc Kd.cal).dflt).frm, at_ := (p.cs.getD (0 + k) (V.enc Kd.cal).dflt).at_,
                                                to_ := (p.cs.getD (0 + k) (V.enc Kd.cal).dflt).to_ : Cal })
                                            (Out.need (0 ≤ (↑k : Int) ∧ (↑k : Int) < (↑p.cs.length : Int))
                                              (Out.need (0 + k < p.cs.length)
                                                (Out.need (0 ≤ (↑p.2 : Int) ∧ (↑p.2 : Int) < (↑p.cs.length : Int))
                                                  (Out.need (0 + p.2 < p.cs.length)
                                                    (Out.ite
                                                      (hBefore
                                                        { thread := (p.cs.getD (0 + k) (V.enc Kd.cal).dflt).thread,
                                                          op := (p.cs.getD (0 + k) (V.enc Kd.cal).dflt).op, frm := (p.cs.getD (0 + k) (V.enc Kd.cal).dflt).frm,
                                                          at_ := (p.cs.getD (0 + k) (V.enc Kd.cal).dflt).at_, to_ := (p.cs.getD (0 + k) (V.enc Kd.cal).dflt).to_ :
                                                          Cal }
                                                        { thread := (p.cs.getD (0 + p.2) (V.enc Kd.cal).dflt).thread,
                                                          op := (p.cs.getD (0 + p.2) (V.enc Kd.cal).dflt).op,
                                                          frm := (p.cs.getD (0 + p.2) (V.enc Kd.cal).dflt).frm,
                                                          at_ := (p.cs.getD (0 + p.2) (V.enc Kd.cal).dflt).at_,
                                                          to_ := (p.cs.getD (0 + p.2) (V.enc Kd.cal).dflt).to_ : Cal })
                                                      (Out.stop EX.rt
                                                        {
                                                          env :=
                                                            [(0, AV.sl false 0 0 8 p.l.length p.toPO.2), (3, AV.tt),
                                                              (4, AV.sl false 1 0 5 p.cs.length (p.cs.length + p.toPO.4)), (5, AV.int IntKind.i64 (↑p.2 : Int)),
                                                              (6, AV.int IntKind.i64 (↑k : Int))],
                                                          heap := [(1, Blk.arr 35 Kd.cal p.cs p.toPO.4), (0, Blk.ro Kd.rcd p.l)], nx := 2, nt := 193,
                                                          tl := [0, 1, 2, 3, 4, 5, 6, 7, 8] : St V })
                                                      (Out.need (LoopFor Try.prog 5 4 (loopOf Try.f5 4) L54)
                                                        (Out.ex (PJ → Prop) fun y =>
                                                          Out.need
                                                            (2 ≤ 2 ∧
                                                              SImp 2
                                                                {
                                                                  env :=
                                                                    [(0, AV.sl false 0 0 8 p.l.length p.toPO.2), (3, AV.tt),
                                                                      (4, AV.sl false 1 0 5 p.cs.length (p.cs.length + p.toPO.4)),
                                                                      (5, AV.int IntKind.i64 (↑p.2 : Int)), (6, AV.int IntKind.i64 (↑k : Int)),
                                                                      (7, AV.lit IntKind.i64 0)],
                                                                  heap := [(1, Blk.arr 35 Kd.cal p.cs p.toPO.4), (0, Blk.ro Kd.rcd p.l)], nx := 2, nt := 193,
                                                                  tl := [0, 1, 2, 3, 4, 5, 6, 7, 8] : St V }
                                                                (fun p => I54 p 0) y)
                                                            (Out.all PJ fun y_1 =>
                                                              Out.asm (y y_1)
                                                                (Out.all Unit fun y =>
                                                                  Out.asm ((fun x x_1 => True) y_1 y)
                                                                    (Out.stop EX.nx
                                                                      {
                                                                        env :=
                                                                          [(0, AV.sl false 0 0 8 y_1.l.length y_1.toPO.2), (3, AV.tt),
                                                                            (4, AV.sl false 1 0 5 y_1.cs.length (y_1.cs.length + y_1.toPO.4)),
                                                                            (5, AV.int IntKind.i64 (↑y_1.toPK.2 : Int)),
                                                                            (6, AV.int IntKind.i64 (IntKind.i64.wrap ((↑y_1.2 : Int) + 1)))],
                                                                        heap := [(1, Blk.arr 35 Kd.cal y_1.cs y_1.toPO.4), (0, Blk.ro Kd.rcd y_1.l)], nx := 2,
                                                                        nt := 193, tl := [0, 1, 2, 3, 4, 5, 6, 7, 8] : St V }))))))))))
                                            (Out.need (LoopFor Try.prog 5 4 (loopOf Try.f5 4) L54)
                                              (Out.ex (PJ → Prop) fun y =>
                                                Out.need
                                                  (2 ≤ 2 ∧
                                                    SImp 2
                                                      {
                                                        env :=
                                                          [(0, AV.sl false 0 0 8 p.l.length p.toPO.2), (3, AV.tt),
                                                            (4, AV.sl false 1 0 5 p.cs.length (p.cs.length + p.toPO.4)), (5, AV.int IntKind.i64 (↑p.2 : Int)),
                                                            (6, AV.int IntKind.i64 (↑k : Int)), (7, AV.lit IntKind.i64 0)],
                                                        heap := [(1, Blk.arr 35 Kd.cal p.cs p.toPO.4), (0, Blk.ro Kd.rcd p.l)], nx := 2, nt := 193,
                                                        tl := [0, 1, 2, 3, 4, 5, 6, 7, 8] : St V }
                                                      (fun p => I54 p 0) y)
                                                  (Out.all PJ fun y_1 =>
                                                    Out.asm (y y_1)
                                                      (Out.all Unit fun y =>
                                                        Out.asm ((fun x x_1 => True) y_1 y)
                                                          (Out.stop EX.nx
                                                            {
                                                              env :=
                                                                [(0, AV.sl false 0 0 8 y_1.l.length y_1.toPO.2), (3, AV.tt),
                                                                  (4, AV.sl false 1 0 5 y_1.cs.length (y_1.cs.length + y_1.toPO.4)),
                                                                  (5, AV.int IntKind.i64 (↑y_1.toPK.2 : Int)),
                                                                  (6, AV.int IntKind.i64 (IntKind.i64.wrap ((↑y_1.2 : Int) + 1)))],
                                                              heap := [(1, Blk.arr 35 Kd.cal y_1.cs y_1.toPO.4), (0, Blk.ro Kd.rcd y_1.l)], nx := 2, nt := 193,
                                                              tl := [0, 1, 2, 3, 4, 5, 6, 7, 8] : St V })))))))))))))))
                        (Out.need (0 ≤ (↑p.2 : Int) ∧ (↑p.2 : Int) < (↑p.cs.length : Int))
                          (Out.need (0 + p.2 < p.cs.length)
                            (Out.need (0 ≤ (↑k : Int) ∧ (↑k : Int) < (↑p.cs.length : Int))
                              (Out.need (0 + k < p.cs.length)
                                (Out.ite
                                  (hBefore
                                    { thread := (p.cs.getD (0 + p.2) (V.enc Kd.cal).dflt).thread, op := (p.cs.getD (0 + p.2) (V.enc Kd.cal).dflt).op,
                                      frm := (p.cs.getD (0 + p.2) (V.enc Kd.cal).dflt).frm, at_ := (p.cs.getD (0 + p.2) (V.enc Kd.cal).dflt).at_,
                                      to_ := (p.cs.getD (0 + p.2) (V.enc Kd.cal).dflt).to_ : Cal }
                                    { thread := (p.cs.getD (0 + k) (V.enc Kd.cal).dflt).thread, op := (p.cs.getD (0 + k) (V.enc Kd.cal).dflt).op,
                                      frm := (p.cs.getD (0 + k) (V.enc Kd.cal).dflt).frm, at_ := (p.cs.getD (0 + k) (V.enc Kd.cal).dflt).at_,
                                      to_ := (p.cs.getD (0 + k) (V.enc Kd.cal).dflt).to_ : Cal })
                                  (Out.need (0 ≤ (↑k : Int) ∧ (↑k : Int) < (↑p.cs.length : Int))
                                    (Out.need (0 + k < p.cs.length)
                                      (Out.need (0 ≤ (↑p.2 : Int) ∧ (↑p.2 : Int) < (↑p.cs.length : Int))
                                        (Out.need (0 + p.2 < p.cs.length)
                                          (Out.ite
                                            (hBefore
                                              { thread := (p.cs.getD (0 + k) (V.enc Kd.cal).dflt).thread, op := (p.cs.getD (0 + k) (V.enc Kd.cal).dflt).op,
                                                frm := (p.cs.getD (0 + k) (V.enc Kd.cal).dflt).frm, at_ := (p.cs.getD (0 + k) (V.enc Kd.cal).dflt).at_,
                                                to_ := (p.cs.getD (0 + k) (V.enc Kd.cal).dflt).to_ : Cal }
                                              { thread := (p.cs.getD (0 + p.2) (V.enc Kd.cal).dflt).thread, op := (p.cs.getD (0 + p.2) (V.enc Kd.cal).dflt).op,
                                                frm := (p.cs.getD (0 + p.2) (V.enc Kd.cal).dflt).frm, at_ := (p.cs.getD (0 + p.2) (V.enc Kd.cal).dflt).at_,
                                                to_ := (p.cs.getD (0 + p.2) (V.enc Kd.cal).dflt).to_ : Cal })
                                            (Out.stop EX.rt
                                              {
                                                env :=
                                                  [(0, AV.sl false 0 0 8 p.l.length p.toPO.2), (3, AV.tt),
                                                    (4, AV.sl false 1 0 5 p.cs.length (p.cs.length + p.toPO.4)), (5, AV.int IntKind.i64 (↑p.2 : Int)),
                                                    (6, AV.int IntKind.i64 (↑k : Int))],
                                                heap := [(1, Blk.arr 35 Kd.cal p.cs p.toPO.4), (0, Blk.ro Kd.rcd p.l)], nx := 2, nt := 193,
                                                tl := [0, 1, 2, 3, 4, 5, 6, 7, 8] : St V })
                                            (Out.need (LoopFor Try.prog 5 4 (loopOf Try.f5 4) L54)
                                              (Out.ex (PJ → Prop) fun y =>
                                                Out.need
                                                  (2 ≤ 2 ∧
                                                    SImp 2
                                                      {
                                                        env :=
                                                          [(0, AV.sl false 0 0 8 p.l.length p.toPO.2), (3, AV.tt),
                                                            (4, AV.sl false 1 0 5 p.cs.length (p.cs.length + p.toPO.4)), (5, AV.int IntKind.i64 (↑p.2 : Int)),
                                                            (6, AV.int IntKind.i64 (↑k : Int)), (7, AV.lit IntKind.i64 0)],
                                                        heap := [(1, Blk.arr 35 Kd.cal p.cs p.toPO.4), (0, Blk.ro Kd.rcd p.l)], nx := 2, nt := 193,
                                                        tl := [0, 1, 2, 3, 4, 5, 6, 7, 8] : St V }
                                                      (fun p => I54 p 0) y)
                                                  (Out.all PJ fun y_1 =>
                                                    Out.asm (y y_1)
                                                      (Out.all Unit fun y =>
                                                        Out.asm ((fun x x_1 => True) y_1 y)
                                                          (Out.stop EX.nx
                                                            {
                                                              env :=
                                                                [(0, AV.sl false 0 0 8 y_1.l.length y_1.toPO.2), (3, AV.tt),
                                                                  (4, AV.sl false 1 0 5 y_1.cs.length (y_1.cs.length + y_1.toPO.4)),
                                                                  (5, AV.int IntKind.i64 (↑y_1.toPK.2 : Int)),
                                                                  (6, AV.int IntKind.i64 (IntKind.i64.wrap ((↑y_1.2 : Int) + 1)))],
                                                              heap := [(1, Blk.arr 35 Kd.cal y_1.cs y_1.toPO.4), (0, Blk.ro Kd.rcd y_1.l)], nx := 2, nt := 193,
                                                              tl := [0, 1, 2, 3, 4, 5, 6, 7, 8] : St V }))))))))))
                                  (Out.need (LoopFor Try.prog 5 4 (loopOf Try.f5 4) L54)
                                    (Out.ex (PJ → Prop) fun y =>
                                      Out.need
                                        (2 ≤ 2 ∧
                                          SImp 2
                                            {
                                              env :=
                                                [(0, AV.sl false 0 0 8 p.l.length p.toPO.2), (3, AV.tt),
                                                  (4, AV.sl false 1 0 5 p.cs.length (p.cs.length + p.toPO.4)), (5, AV.int IntKind.i64 (↑p.2 : Int)),
                                                  (6, AV.int IntKind.i64 (↑k : Int)), (7, AV.lit IntKind.i64 0)],
                                              heap := [(1, Blk.arr 35 Kd.cal p.cs p.toPO.4), (0, Blk.ro Kd.rcd p.l)], nx := 2, nt := 193,
                                              tl := [0, 1, 2, 3, 4, 5, 6, 7, 8] : St V }
                                            (fun p => I54 p 0) y)
                                        (Out.all PJ fun y_1 =>
                                          Out.asm (y y_1)
                                            (Out.all Unit fun y =>
                                              Out.asm ((fun x x_1 => True) y_1 y)
                                                (Out.stop EX.nx
                                                  {
                                                    env :=
                                                      [(0, AV.sl false 0 0 8 y_1.l.length y_1.toPO.2), (3, AV.tt),
                                                        (4, AV.sl false 1 0 5 y_1.cs.length (y_1.cs.length + y_1.toPO.4)),
                                                        (5, AV.int IntKind.i64 (↑y_1.toPK.2 : Int)),
                                                        (6, AV.int IntKind.i64 (IntKind.i64.wrap ((↑y_1.2 : Int) + 1)))],
                                                    heap := [(1, Blk.arr 35 Kd.cal y_1.cs y_1.toPO.4), (0, Blk.ro Kd.rcd y_1.l)], nx := 2, nt := 193,
                                                    tl := [0, 1, 2, 3, 4, 5, 6, 7, 8] : St V })))))))))))))))
              (Out.need (0 ≤ (↑p.2 : Int) ∧ (↑p.2 : Int) < (↑p.cs.length : Int))
                (Out.need (0 + p.2 < p.cs.length)
                  (Out.need (0 ≤ (↑k : Int) ∧ (↑k : Int) < (↑p.cs.length : Int))
                    (Out.need (0 + k < p.cs.length)
                      (Out.ite
                        (hBefore
                          { thread := (p.cs.getD (0 + p.2) (V.enc Kd.cal).dflt).thread, op := (p.cs.getD (0 + p.2) (V.enc Kd.cal).dflt).op,
                            frm := (p.cs.getD (0 + p.2) (V.enc Kd.cal).dflt).frm, at_ := (p.cs.getD (0 + p.2) (V.enc Kd.cal).dflt).at_,
                            to_ := (p.cs.getD (0 + p.2) (V.enc Kd.cal).dflt).to_ : Cal }
                          { thread := (p.cs.getD (0 + k) (V.enc Kd.cal).dflt).thread, op := (p.cs.getD (0 + k) (V.enc Kd.cal).dflt).op,
                            frm := (p.cs.getD (0 + k) (V.enc Kd.cal).dflt).frm, at_ := (p.cs.getD (0 + k) (V.enc Kd.cal).dflt).at_,
                            to_ := (p.cs.getD (0 + k) (V.enc Kd.cal).dflt).to_ : Cal })
                        (Out.need (0 ≤ (↑k : Int) ∧ (↑k : Int) < (↑p.cs.length : Int))
                          (Out.need (0 + k < p.cs.length)
                            (Out.need (0 ≤ (↑p.2 : Int) ∧ (↑p.2 : Int) < (↑p.cs.length : Int))
                              (Out.need (0 + p.2 < p.cs.length)
                                (Out.ite
                                  (hBefore
                                    { thread := (p.cs.getD (0 + k) (V.enc Kd.cal).dflt).thread, op := (p.cs.getD (0 + k) (V.enc Kd.cal).dflt).op,
                                      frm := (p.cs.getD (0 + k) (V.enc Kd.cal).dflt).frm, at_ := (p.cs.getD (0 + k) (V.enc Kd.cal).dflt).at_,
                                      to_ := (p.cs.getD (0 + k) (V.enc Kd.cal).dflt).to_ : Cal }
                                    { thread := (p.cs.getD (0 + p.2) (V.enc Kd.cal).dflt).thread, op := (p.cs.getD (0 + p.2) (V.enc Kd.cal).dflt).op,
                                      frm := (p.cs.getD (0 + p.2) (V.enc Kd.cal).dflt).frm, at_ := (p.cs.getD (0 + p.2) (V.enc Kd.cal).dflt).at_,
                                      to_ := (p.cs.getD (0 + p.2) (V.enc Kd.cal).dflt).to_ : Cal })
                                  (Out.stop EX.rt
                                    {
                                      env :=
                                        [(0, AV.sl false 0 0 8 p.l.length p.toPO.2), (3, AV.tt), (4, AV.sl false 1 0 5 p.cs.length (p.cs.length + p.toPO.4)),
                                          (5, AV.int IntKind.i64 (↑p.2 : Int)), (6, AV.int IntKind.i64 (↑k : Int))],
                                      heap := [(1, Blk.arr 35 Kd.cal p.cs p.toPO.4), (0, Blk.ro Kd.rcd p.l)], nx := 2, nt := 193,
                                      tl := [0, 1, 2, 3, 4, 5, 6, 7, 8] : St V })
                                  (Out.need (LoopFor Try.prog 5 4 (loopOf Try.f5 4) L54)
                                    (Out.ex (PJ → Prop) fun y =>
                                      Out.need
                                        (2 ≤ 2 ∧
                                          SImp 2
                                            {
                                              env :=
                                                [(0, AV.sl false 0 0 8 p.l.length p.toPO.2), (3, AV.tt),
                                                  (4, AV.sl false 1 0 5 p.cs.length (p.cs.length + p.toPO.4)), (5, AV.int IntKind.i64 (↑p.2 : Int)),
                                                  (6, AV.int IntKind.i64 (↑k : Int)), (7, AV.lit IntKind.i64 0)],
                                              heap := [(1, Blk.arr 35 Kd.cal p.cs p.toPO.4), (0, Blk.ro Kd.rcd p.l)], nx := 2, nt := 193,
                                              tl := [0, 1, 2, 3, 4, 5, 6, 7, 8] : St V }
                                            (fun p => I54 p 0) y)
                                        (Out.all PJ fun y_1 =>
                                          Out.asm (y y_1)
                                            (Out.all Unit fun y =>
                                              Out.asm ((fun x x_1 => True) y_1 y)
                                                (Out.stop EX.nx
                                                  {
                                                    env :=
                                                      [(0, AV.sl false 0 0 8 y_1.l.length y_1.toPO.2), (3, AV.tt),
                                                        (4, AV.sl false 1 0 5 y_1.cs.length (y_1.cs.length + y_1.toPO.4)),
                                                        (5, AV.int IntKind.i64 (↑y_1.toPK.2 : Int)),
                                                        (6, AV.int IntKind.i64 (IntKind.i64.wrap ((↑y_1.2 : Int) + 1)))],
                                                    heap := [(1, Blk.arr 35 Kd.cal y_1.cs y_1.toPO.4), (0, Blk.ro Kd.rcd y_1.l)], nx := 2, nt := 193,
                                                    tl := [0, 1, 2, 3, 4, 5, 6, 7, 8] : St V }))))))))))
                        (Out.need (LoopFor Try.prog 5 4 (loopOf Try.f5 4) L54)
                          (Out.ex (PJ → Prop) fun y =>
                            Out.need
                              (2 ≤ 2 ∧
                                SImp 2
                                  {
                                    env :=
                                      [(0, AV.sl false 0 0 8 p.l.length p.toPO.2), (3, AV.tt), (4, AV.sl false 1 0 5 p.cs.length (p.cs.length + p.toPO.4)),
                                        (5, AV.int IntKind.i64 (↑p.2 : Int)), (6, AV.int IntKind.i64 (↑k : Int)), (7, AV.lit IntKind.i64 0)],
                                    heap := [(1, Blk.arr 35 Kd.cal p.cs p.toPO.4), (0, Blk.ro Kd.rcd p.l)], nx := 2, nt := 193,
                                    tl := [0, 1, 2, 3, 4, 5, 6, 7, 8] : St V }
                                  (fun p => I54 p 0) y)
                              (Out.all PJ fun y_1 =>
                                Out.asm (y y_1)
                                  (Out.all Unit fun y =>
                                    Out.asm ((fun x x_1 => True) y_1 y)
                                      (Out.stop EX.nx
                                        {
                                          env :=
                                            [(0, AV.sl false 0 0 8 y_1.l.length y_1.toPO.2), (3, AV.tt),
                                              (4, AV.sl false 1 0 5 y_1.cs.length (y_1.cs.length + y_1.toPO.4)), (5, AV.int IntKind.i64 (↑y_1.toPK.2 : Int)),
                                              (6, AV.int IntKind.i64 (IntKind.i64.wrap ((↑y_1.2 : Int) + 1)))],
                                          heap := [(1, Blk.arr 35 Kd.cal y_1.cs y_1.toPO.4), (0, Blk.ro Kd.rcd y_1.l)], nx := 2, nt := 193,
                                          tl := [0, 1, 2, 3, 4, 5, 6, 7, 8] : St V })))))))))))))))
    (Out.stop (EX.ex 2)
      {
        env :=
          [(0, AV.sl false 0 0 8 p.l.length p.toPO.2), (3, AV.tt), (4, AV.sl false 1 0 5 p.cs.length (p.cs.length + p.toPO.4)),
            (5, AV.int IntKind.i64 (↑p.2 : Int)), (6, AV.int IntKind.i64 (↑k : Int))],
        heap := [(1, Blk.arr 35 Kd.cal p.cs p.toPO.4), (0, Blk.ro Kd.rcd p.l)], nx := 2, nt := 193, tl := [0, 1, 2, 3, 4, 5, 6, 7, 8] : St V }) := by kernel_rfl

theorem b50 (p : PO) (i : Nat) : runCode cfg52 60 5 (loopOf Try.f5 0) (I50 p i) (stopT (trimSt [0, 3, 4, 5] [0, 1])) =
  Out.ite (decide ((↑i : Int) < (↑p.cs.length : Int)))
    (Out.need (0 ≤ (↑i : Int) ∧ (↑i : Int) < (↑p.cs.length : Int))
      (Out.need (0 + i < p.cs.length)
        (Out.need (0 ≤ (↑i : Int) ∧ (↑i : Int) < (↑p.cs.length : Int))
          (Out.need (0 + i < p.cs.length)
            (Out.ite
              (hBefore
                { thread := (p.cs.getD (0 + i) (V.enc Kd.cal).dflt).thread, op := (p.cs.getD (0 + i) (V.enc Kd.cal).dflt).op,
                  frm := (p.cs.getD (0 + i) (V.enc Kd.cal).dflt).frm, at_ := (p.cs.getD (0 + i) (V.enc Kd.cal).dflt).at_,
                  to_ := (p.cs.getD (0 + i) (V.enc Kd.cal).dflt).to_ : Cal }
                { thread := (p.cs.getD (0 + i) (V.enc Kd.cal).dflt).thread, op := (p.cs.getD (0 + i) (V.enc Kd.cal).dflt).op,
                  frm := (p.cs.getD (0 + i) (V.enc Kd.cal).dflt).frm, at_ := (p.cs.getD (0 + i) (V.enc Kd.cal).dflt).at_,
                  to_ := (p.cs.getD (0 + i) (V.enc Kd.cal).dflt).to_ : Cal })
              (Out.stop EX.rt
                {
                  env :=
                    [(0, AV.sl false 0 0 8 p.l.length p.2), (3, AV.tt), (4, AV.sl false 1 0 5 p.cs.length (p.cs.length + p.4)),
                      (5, AV.int IntKind.i64 (↑i : Int))],
                  heap := [(1, Blk.arr 35 Kd.cal p.cs p.4), (0, Blk.ro Kd.rcd p.l)], nx := 2, nt := 193, tl := [0, 1, 2, 3, 4, 5, 6, 7, 8] : St V })
              (Out.need (0 ≤ (↑i : Int) ∧ (↑i : Int) < (↑p.cs.length : Int))
                (Out.need (0 + i < p.cs.length)
                  (Out.ite (decide ((p.cs.getD (0 + i) (V.enc Kd.cal).dflt).frm < 0))
                    (Out.stop EX.rt
                      {
                        env :=
                          [(0, AV.sl false 0 0 8 p.l.length p.2), (3, AV.tt), (4, AV.sl false 1 0 5 p.cs.length (p.cs.length + p.4)),
                            (5, AV.int IntKind.i64 (↑i : Int))],
                        heap := [(1, Blk.arr 35 Kd.cal p.cs p.4), (0, Blk.ro Kd.rcd p.l)], nx := 2, nt := 193, tl := [0, 1, 2, 3, 4, 5, 6, 7, 8] : St V })
                    (Out.need (0 ≤ (↑i : Int) ∧ (↑i : Int) < (↑p.cs.length : Int))
                      (Out.need (0 + i < p.cs.length)
                        (Out.ite (decide ((p.cs.getD (0 + i) (V.enc Kd.cal).dflt).at_ ≥ 0))
                          (Out.need (0 ≤ (↑i : Int) ∧ (↑i : Int) < (↑p.cs.length : Int))
                            (Out.need (0 + i < p.cs.length)
                              (Out.need (0 ≤ (↑i : Int) ∧ (↑i : Int) < (↑p.cs.length : Int))
                                (Out.need (0 + i < p.cs.length)
                                  (Out.ite (decide ((p.cs.getD (0 + i) (V.enc Kd.cal).dflt).at_ ≤ (p.cs.getD (0 + i) (V.enc Kd.cal).dflt).frm))
                                    (Out.stop EX.rt
                                      {
                                        env :=
                                          [(0, AV.sl false 0 0 8 p.l.length p.2), (3, AV.tt), (4, AV.sl false 1 0 5 p.cs.length (p.cs.length + p.4)),
                                            (5, AV.int IntKind.i64 (↑i : Int))],
                                        heap := [(1, Blk.arr 35 Kd.cal p.cs p.4), (0, Blk.ro Kd.rcd p.l)], nx := 2, nt := 193, tl := [0, 1, 2, 3, 4, 5, 6, 7, 8] :
                                        St V })
                                    (Out.need (0 ≤ (↑i : Int) ∧ (↑i : Int) < (↑p.cs.length : Int))
                                      (Out.need (0 + i < p.cs.length)
                                        (Out.ite (decide ((p.cs.getD (0 + i) (V.enc Kd.cal).dflt).to_ ≥ 0))
                                          (Out.need (0 ≤ (↑i : Int) ∧ (↑i : Int) < (↑p.cs.length : Int))
                                            (Out.need (0 + i < p.cs.length)
                                              (Out.need (0 ≤ (↑i : Int) ∧ (↑i : Int) < (↑p.cs.length : Int))
                                                (Out.need (0 + i < p.cs.length)
                                                  (Out.need (0 ≤ (↑i : Int) ∧ (↑i : Int) < (↑p.cs.length : Int))
                                                    (Out.need (0 + i < p.cs.length)
                                                      (Out.ite
                                                        (decide
                                                          ((p.cs.getD (0 + i) (V.enc Kd.cal).dflt).to_ ≤
                                                            if (p.cs.getD (0 + i) (V.enc Kd.cal).dflt).at_ > (p.cs.getD (0 + i) (V.enc Kd.cal).dflt).frm then
                                                              (p.cs.getD (0 + i) (V.enc Kd.cal).dflt).at_
                                                            else (p.cs.getD (0 + i) (V.enc Kd.cal).dflt).frm))
                                                        (Out.stop EX.rt
                                                          {
                                                            env :=
                                                              [(0, AV.sl false 0 0 8 p.l.length p.2), (3, AV.tt),
                                                                (4, AV.sl false 1 0 5 p.cs.length (p.cs.length + p.4)), (5, AV.int IntKind.i64 (↑i : Int))],
                                                            heap := [(1, Blk.arr 35 Kd.cal p.cs p.4), (0, Blk.ro Kd.rcd p.l)], nx := 2, nt := 193,
                                                            tl := [0, 1, 2, 3, 4, 5, 6, 7, 8] : St V })
                                                        (Out.need (LoopFor Try.prog 5 2 (loopOf Try.f5 2) L52)
                                                          (Out.ex (PK → Prop) fun y =>
                                                            Out.need
                                                              (2 ≤ 2 ∧
                                                                SImp 2
                                                                  {
                                                                    env :=
                                                                      [(0, AV.sl false 0 0 8 p.l.length p.2), (3, AV.tt),
                                                                        (4, AV.sl false 1 0 5 p.cs.length (p.cs.length + p.4)),
                                                                        (5, AV.int IntKind.i64 (↑i : Int)), (6, AV.lit IntKind.i64 0)],
                                                                    heap := [(1, Blk.arr 35 Kd.cal p.cs p.4), (0, Blk.ro Kd.rcd p.l)], nx := 2, nt := 193,
                                                                    tl := [0, 1, 2, 3, 4, 5, 6, 7, 8] : St V }
                                                                  (fun p => I52 p 0) y)
                                                              (Out.all PK fun y_1 =>
                                                                Out.asm (y y_1)
                                                                  (Out.all Unit fun y =>
                                                                    Out.asm ((fun x x_1 => True) y_1 y)
                                                                      (Out.stop EX.nx
                                                                        {
                                                                          env :=
                                                                            [(0, AV.sl false 0 0 8 y_1.l.length y_1.toPO.2), (3, AV.tt),
                                                                              (4, AV.sl false 1 0 5 y_1.cs.length (y_1.cs.length + y_1.toPO.4)),
                                                                              (5, AV.int IntKind.i64 (IntKind.i64.wrap ((↑y_1.2 : Int) + 1)))],
                                                                          heap := [(1, Blk.arr 35 Kd.cal y_1.cs y_1.toPO.4), (0, Blk.ro Kd.rcd y_1.l)], nx := 2,
                                                                          nt := 193, tl := [0, 1, 2, 3, 4, 5, 6, 7, 8] : St V }))))))))))))
                                          (Out.need (LoopFor Try.prog 5 2 (loopOf Try.f5 2) L52)
                                            (Out.ex (PK → Prop) fun y =>
                                              Out.need
                                                (2 ≤ 2 ∧
                                                  SImp 2
                                                    {
                                                      env :=
                                                        [(0, AV.sl false 0 0 8 p.l.length p.2), (3, AV.tt),
                                                          (4, AV.sl false 1 0 5 p.cs.length (p.cs.length + p.4)), (5, AV.int IntKind.i64 (↑i : Int)),
                                                          (6, AV.lit IntKind.i64 0)],
                                                      heap := [(1, Blk.arr 35 Kd.cal p.cs p.4), (0, Blk.ro Kd.rcd p.l)], nx := 2, nt := 193,
                                                      tl := [0, 1, 2, 3, 4, 5, 6, 7, 8] : St V }
                                                    (fun p => I52 p 0) y)
                                                (Out.all PK fun y_1 =>
                                                  Out.asm (y y_1)
                                                    (Out.all Unit fun y =>
                                                      Out.asm ((fun x x_1 => True) y_1 y)
                                                        (Out.stop EX.nx
                                                          {
                                                            env :=
                                                              [(0, AV.sl false 0 0 8 y_1.l.length y_1.toPO.2), (3, AV.tt),
                                                                (4, AV.sl false 1 0 5 y_1.cs.length (y_1.cs.length + y_1.toPO.4)),
                                                                (5, AV.int IntKind.i64 (IntKind.i64.wrap ((↑y_1.2 : Int) + 1)))],
                                                            heap := [(1, Blk.arr 35 Kd.cal y_1.cs y_1.toPO.4), (0, Blk.ro Kd.rcd y_1.l)], nx := 2, nt := 193,
                                                            tl := [0, 1, 2, 3, 4, 5, 6, 7, 8] : St V })))))))))))))
                          (Out.need (0 ≤ (↑i : Int) ∧ (↑i : Int) < (↑p.cs.length : Int))
                            (Out.need (0 + i < p.cs.length)
                              (Out.ite (decide ((p.cs.getD (0 + i) (V.enc Kd.cal).dflt).to_ ≥ 0))
                                (Out.need (0 ≤ (↑i : Int) ∧ (↑i : Int) < (↑p.cs.length : Int))
                                  (Out.need (0 + i < p.cs.length)
                                    (Out.need (0 ≤ (↑i : Int) ∧ (↑i : Int) < (↑p.cs.length : Int))
                                      (Out.need (0 + i < p.cs.length)
                                        (Out.need (0 ≤ (↑i : Int) ∧ (↑i : Int) < (↑p.cs.length : Int))
                                          (Out.need (0 + i < p.cs.length)
                                            (Out.ite
                                              (decide
                                                ((p.cs.getD (0 + i) (V.enc Kd.cal).dflt).to_ ≤
                                                  if (p.cs.getD (0 + i) (V.enc Kd.cal).dflt).at_ > (p.cs.getD (0 + i) (V.enc Kd.cal).dflt).frm then
                                                    (p.cs.getD (0 + i) (V.enc Kd.cal).dflt).at_
                                                  else (p.cs.getD (0 + i) (V.enc Kd.cal).dflt).frm))
                                              (Out.stop EX.rt
                                                {
                                                  env :=
                                                    [(0, AV.sl false 0 0 8 p.l.length p.2), (3, AV.tt), (4, AV.sl false 1 0 5 p.cs.length (p.cs.length + p.4)),
                                                      (5, AV.int IntKind.i64 (↑i : Int))],
                                                  heap := [(1, Blk.arr 35 Kd.cal p.cs p.4), (0, Blk.ro Kd.rcd p.l)], nx := 2, nt := 193,
                                                  tl := [0, 1, 2, 3, 4, 5, 6, 7, 8] : St V })
                                              (Out.need (LoopFor Try.prog 5 2 (loopOf Try.f5 2) L52)
                                                (Out.ex (PK → Prop) fun y =>
                                                  Out.need
                                                    (2 ≤ 2 ∧
                                                      SImp 2
                                                        {
                                                          env :=
                                                            [(0, AV.sl false 0 0 8 p.l.length p.2), (3, AV.tt),
                                                              (4, AV.sl false 1 0 5 p.cs.length (p.cs.length + p.4)), (5, AV.int IntKind.i64 (↑i : Int)),
                                                              (6, AV.lit IntKind.i64 0)],
                                                          heap := [(1, Blk.arr 35 Kd.cal p.cs p.4), (0, Blk.ro Kd.rcd p.l)], nx := 2, nt := 193,
                                                          tl := [0, 1, 2, 3, 4, 5, 6, 7, 8] : St V }
                                                        (fun p => I52 p 0) y)
                                                    (Out.all PK fun y_1 =>
                                                      Out.asm (y y_1)
                                                        (Out.all Unit fun y =>
                                                          Out.asm ((fun x x_1 => True) y_1 y)
                                                            (Out.stop EX.nx
                                                              {
                                                                env :=
                                                                  [(0, AV.sl false 0 0 8 y_1.l.length y_1.toPO.2), (3, AV.tt),
                                                                    (4, AV.sl false 1 0 5 y_1.cs.length (y_1.cs.length + y_1.toPO.4)),
                                                                    (5, AV.int IntKind.i64 (IntKind.i64.wrap ((↑y_1.2 : Int) + 1)))],
                                                                heap := [(1, Blk.arr 35 Kd.cal y_1.cs y_1.toPO.4), (0, Blk.ro Kd.rcd y_1.l)], nx := 2, nt := 193,
                                                                tl := [0, 1, 2, 3, 4, 5, 6, 7, 8] : St V }))))))))))))
                                (Out.need (LoopFor Try.prog 5 2 (loopOf Try.f5 2) L52)
                                  (Out.ex (PK → Prop) fun y =>
                                    Out.need
                                      (2 ≤ 2 ∧
                                        SImp 2
                                          {
                                            env :=
                                              [(0, AV.sl false 0 0 8 p.l.length p.2), (3, AV.tt), (4, AV.sl false 1 0 5 p.cs.length (p.cs.length + p.4)),
                                                (5, AV.int IntKind.i64 (↑i : Int)), (6, AV.lit IntKind.i64 0)],
                                            heap := [(1, Blk.arr 35 Kd.cal p.cs p.4), (0, Blk.ro Kd.rcd p.l)], nx := 2, nt := 193,
                                            tl := [0, 1, 2, 3, 4, 5, 6, 7, 8] : St V }
                                          (fun p => I52 p 0) y)
                                      (Out.all PK fun y_1 =>
                                        Out.asm (y y_1)
                                          (Out.all Unit fun y =>
                                            Out.asm ((fun x x_1 => True) y_1 y)
                                              (Out.stop EX.nx
                                                {
                                                  env :=
                                                    [(0, AV.sl false 0 0 8 y_1.l.length y_1.toPO.2), (3, AV.tt),
                                                      (4, AV.sl false 1 0 5 y_1.cs.length (y_1.cs.length + y_1.toPO.4)),
                                                      (5, AV.int IntKind.i64 (IntKind.i64.wrap ((↑y_1.2 : Int) + 1)))],
                                                  heap := [(1, Blk.arr 35 Kd.cal y_1.cs y_1.toPO.4), (0, Blk.ro Kd.rcd y_1.l)], nx := 2, nt := 193,
                                                  tl := [0, 1, 2, 3, 4, 5, 6, 7, 8] : St V })))))))))))))))))))
    (Out.stop (EX.ex 0)
      { env := [(0, AV.sl false 0 0 8 p.l.length p.2), (3, AV.tt), (4, AV.sl false 1 0 5 p.cs.length (p.cs.length + p.4)), (5, AV.int IntKind.i64 (↑i : Int))],
        heap := [(1, Blk.arr 35 Kd.cal p.cs p.4), (0, Blk.ro Kd.rcd p.l)], nx := 2, nt := 193, tl := [0, 1, 2, 3, 4, 5, 6, 7, 8] : St V }) := by kernel_rfl

theorem t5 (l : List Rec) (c : Nat) : runL cfg50 60 5 Try.f5 [.sl false 0 0 8 l.length c] [(0, .ro Kd.rcd l)] 1 =
  Out.ite (decide ((↑l.length : Int) > 120)) (Out.fin AV.tt [] 0)
    (Out.need (0 + l.length ≤ l.length)
      (Out.need ((List.take l.length (List.drop 0 l)).length ≤ 1099511627776)
        (Out.all Nat fun y =>
          Out.need (LoopFor Try.prog 5 0 (loopOf Try.f5 0) L50)
            (Out.ex (PO → Prop) fun y_1 =>
              Out.need
                (2 ≤ 2 ∧
                  SImp 2
                    {
                      env :=
                        [(0, AV.sl false 0 0 8 l.length c), (3, AV.tt),
                          (4,
                            AV.sl false 1 0 5 (hCallsOf (List.take l.length (List.drop 0 l))).length
                              ((hCallsOf (List.take l.length (List.drop 0 l))).length + y)),
                          (5, AV.lit IntKind.i64 0)],
                      heap := [(1, Blk.arr 35 Kd.cal (hCallsOf (List.take l.length (List.drop 0 l))) y), (0, Blk.ro Kd.rcd l)], nx := 2, nt := 193, tl := [] :
                      St V }
                    (fun p => I50 p 0) y_1)
                (Out.all PO fun y => Out.asm (y_1 y) (Out.all Unit fun y_2 => Out.asm ((fun x x_1 => True) y y_2) (Out.fin AV.tt [] 0))))))) := by kernel_rfl

end Sx
end Go.Proofs.Ytemcdjdglcceiaa

/-
  Before is a strict order, and of one thread's calls each is Before the next.
-/
namespace Go.Proofs.Ytemcdjdglcceiaa
namespace Sx
open Go
set_option linter.unusedSimpArgs false
set_option linter.unusedVariables false

theorem hB_true (a b : Cal) : (hBefore a b = true) = (0 ≤ a.to_ ∧ a.to_ < b.frm) := by simp [hBefore]
theorem hB_false (a b : Cal) : (hBefore a b = false) = ¬ (0 ≤ a.to_ ∧ a.to_ < b.frm) := by
  rw [← hB_true]; simp
theorem RInv.ord {l : List Rec} {n : Nat} {s : RD} (I : RInv l n s) : Ord s.cs := by
  refine ⟨fun i c h => ?_, fun i k c d h1 h2 ht ho => ?_⟩
  · obtain ⟨f1, _⟩ := I.frm i c h
    refine ⟨f1, fun h0 => ?_, fun h0 => ?_⟩
    · rcases I.at_ i c h with e | ⟨e, _⟩
      · omega
      · exact e
    · rcases I.to_ i c h with e | ⟨e1, e2, _⟩
      · omega
      · exact ⟨e1, e2⟩
  · obtain ⟨f1, _⟩ := I.frm i c h1
    rcases Nat.lt_trichotomy i k with hik | hik | hik
    · obtain ⟨t1, t2, _⟩ := I.two i k c d hik h1 h2 ht
      rcases I.to_ i c h1 with e | ⟨e1, _⟩
      · exact absurd e t1
      · exact ⟨by omega, t2⟩
    · subst hik; rw [h1] at h2; cases h2; omega
    · obtain ⟨_, _, t3⟩ := I.two k i d c hik h2 h1 ht.symm
      omega
theorem get_bound {l : List Rec} (hb : ∀ r ∈ l, r.op < 9223372036854775808) (i : Nat) : (l.getD i r0).op < 9223372036854775808 := by
  rcases Nat.lt_or_ge i l.length with h | h
  · rw [getD_el r0 h]; exact hb _ (List.getElem_mem h)
  · rw [List.getD_eq_getElem?_getD, List.getElem?_eq_none h]; decide
theorem ord_calls {l : List Rec} (hb : ∀ r ∈ l, r.op < 9223372036854775808) : Ord (hCallsOf l) := by
  unfold hCallsOf hCalls
  cases e : readTo l l.length with
  | none => exact ⟨fun i c h => (by simp at h), fun i k c d h => (by simp at h)⟩
  | some s =>
    refine (readTo_inv (fun i => ?_) e).ord
    rcases Nat.lt_or_ge i l.length with h | h
    · rw [getD_el r0 h]; exact hb _ (List.getElem_mem h)
    · rw [List.getD_eq_getElem?_getD, List.getElem?_eq_none h]; decide
theorem Ord.at1 {cs : List Cal} (O : Ord cs) {i : Nat} (h : i < cs.length) : 0 ≤ (cs.getD i c0).frm ∧ (0 ≤ (cs.getD i c0).at_ → (cs.getD i c0).frm < (cs.getD i c0).at_) ∧ (0 ≤ (cs.getD i c0).to_ → (cs.getD i c0).frm < (cs.getD i c0).to_ ∧ (cs.getD i c0).at_ < (cs.getD i c0).to_) :=
  O.one i _ (by rw [getD_el c0 h]; exact List.getElem?_eq_getElem h)
theorem Ord.at2 {cs : List Cal} (O : Ord cs) {i k : Nat} (h : i < cs.length) (hk : k < cs.length) : (cs.getD i c0).thread = (cs.getD k c0).thread → (cs.getD i c0).op < (cs.getD k c0).op → 0 ≤ (cs.getD i c0).to_ ∧ (cs.getD i c0).to_ < (cs.getD k c0).frm :=
  O.two i k _ _ (by rw [getD_el c0 h]; exact List.getElem?_eq_getElem h) (by rw [getD_el c0 hk]; exact List.getElem?_eq_getElem hk)

theorem body54 (p : PJ) (j : Nat) (hj : j ≤ p.cs.length) (Q : EX → St V → Prop) (F : AV → Heap V → Nat → Prop)
    (hnx : ∀ ST : St V, j < p.cs.length → Wk 2 [] ST (I54 p (j + 1)) → Q .nx ST) (hex : ∀ ST : St V, Wk 2 [] ST (I52 p.toPK p.k) → Q (.ex 4) ST) :
    (runCode cfgI 60 5 (loopOf Try.f5 4) (I54 p j) (stopT (trimSt [0, 3, 4, 5, 6, 7] [0, 1]))).holds ⟨Q, F⟩ := by
  rw [b54]
  have hb := p.hb
  have hi := p.hi
  have hk := p.hk
  have hw : j < p.cs.length → IntKind.wrap .i64 ((j : Int) + 1) = ((j + 1 : Nat) : Int) := fun h => wrap_nat (by omega)
  have h1 : 0 ≤ (p.cs.getD p.k (V.enc Kd.cal).dflt).to_ → (p.cs.getD p.k (V.enc Kd.cal).dflt).frm < (p.cs.getD p.k (V.enc Kd.cal).dflt).to_ := fun h => ((p.O.at1 hk).2.2 h).1
  simp only [Nat.zero_add]
  generalize p.cs.getD p.i (V.enc Kd.cal).dflt = a at *
  generalize p.cs.getD p.k (V.enc Kd.cal).dflt = b at *
  generalize p.cs.getD j (V.enc Kd.cal).dflt = c at *
  simp only [Out.holds, decide_eq_true_eq, decide_eq_false_iff_not, Bool.not_eq_true', Bool.not_eq_false', hB_true, hB_false]
  repeat' first | apply And.intro | intro _
  all_goals first
    | omega
    | exact hnx _ (by omega) ⟨⟨AV.sub_same _, AV.sub_same _, AV.sub_same _, AV.sub_same _, AV.sub_same _, AV.sub_int (hw (by omega)), trivial⟩, ⟨.same _, .same _, trivial⟩, rfl, tl_ok rfl, ⟨.inr rfl, .inr rfl, trivial⟩, ⟨Nat.le_of_ble_eq_true rfl, rfl⟩⟩
    | exact hex _ ⟨⟨AV.sub_same _, AV.sub_same _, AV.sub_same _, AV.sub_same _, AV.sub_same _, trivial⟩, ⟨.same _, .same _, trivial⟩, rfl, tl_ok rfl, ⟨.inr rfl, .inr rfl, trivial⟩, ⟨Nat.le_of_ble_eq_true rfl, rfl⟩⟩
    | skip

theorem l54_ok : LoopOk Try.prog 4 (loopOf Try.f5 4) L54 := by
  refine trimLoop_ok (trim_ok _ _) (loopTH_ok (C := cfgI) cfgI_ok (f := 5) (n := 60) (trim_ok [0, 3, 4, 5, 6, 7] [0, 1]) 2 I54 (fun p j => j ≤ p.cs.length) (fun _ => 0) (fun p j => p.cs.length - j) (fun _ (_ : Unit) => True) (fun p _ => I52 p.toPK p.k) (fun p => Nat.zero_le _) ?_)
  intro p j hj
  exact body54 p j hj _ _ (fun ST hlt hw => SImp.of_wk (j + 1) hw ⟨hlt, by omega⟩) (fun ST hw => ⟨rfl, SImp.of_wk () hw trivial⟩)
theorem cfg54_ok : cfg54.ok := ⟨cfgI_ok.τ, cfgI_ok.κ, cfgI_ok.mixed, cfgI_ok.fns, cfgI_ok.hooks⟩
theorem cfg52_ok : cfg52.ok := ⟨cfgI_ok.τ, cfgI_ok.κ, cfgI_ok.mixed, cfgI_ok.fns, cfgI_ok.hooks⟩
theorem cfg50_ok : cfg50.ok := ⟨cfgI_ok.τ, cfgI_ok.κ, cfgI_ok.mixed, cfgI_ok.fns, cfgI_ok.hooks⟩

theorem body52 (p : PK) (k : Nat) (hj : k ≤ p.cs.length) (Q : EX → St V → Prop) (F : AV → Heap V → Nat → Prop)
    (hnx : ∀ ST : St V, k < p.cs.length → Wk 2 [] ST (I52 p (k + 1)) → Q .nx ST) (hex : ∀ ST : St V, Wk 2 [] ST (I50 p.toPO p.i) → Q (.ex 2) ST) :
    (runCode cfg54 60 5 (loopOf Try.f5 2) (I52 p k) (stopT (trimSt [0, 3, 4, 5, 6] [0, 1]))).holds ⟨Q, F⟩ := by
  rw [b52]
  have hb := p.hb
  have hi := p.hi
  have hw : k < p.cs.length → IntKind.wrap .i64 ((k : Int) + 1) = ((k + 1 : Nat) : Int) := fun h => wrap_nat (by omega)
  have h1 : k < p.cs.length → 0 ≤ (p.cs.getD k (V.enc Kd.cal).dflt).to_ → (p.cs.getD k (V.enc Kd.cal).dflt).frm < (p.cs.getD k (V.enc Kd.cal).dflt).to_ := fun h h' => ((p.O.at1 h).2.2 h').1
  have h2 : 0 ≤ (p.cs.getD p.i (V.enc Kd.cal).dflt).to_ → (p.cs.getD p.i (V.enc Kd.cal).dflt).frm < (p.cs.getD p.i (V.enc Kd.cal).dflt).to_ := fun h' => ((p.O.at1 hi).2.2 h').1
  have h3 : k < p.cs.length → (p.cs.getD p.i (V.enc Kd.cal).dflt).thread = (p.cs.getD k (V.enc Kd.cal).dflt).thread → (p.cs.getD p.i (V.enc Kd.cal).dflt).op < (p.cs.getD k (V.enc Kd.cal).dflt).op → 0 ≤ (p.cs.getD p.i (V.enc Kd.cal).dflt).to_ ∧ (p.cs.getD p.i (V.enc Kd.cal).dflt).to_ < (p.cs.getD k (V.enc Kd.cal).dflt).frm := fun h => p.O.at2 hi h
  simp only [Nat.zero_add]
  generalize p.cs.getD p.i (V.enc Kd.cal).dflt = a at *
  generalize p.cs.getD k (V.enc Kd.cal).dflt = b at *
  simp only [Out.holds, decide_eq_true_eq, decide_eq_false_iff_not, Bool.not_eq_true', Bool.not_eq_false', hB_true, hB_false, beq_iff_eq, beq_eq_false_iff_ne]
  repeat' first | exact l54_ok | apply And.intro | intro _
  all_goals first
    | omega
    | exact l54_ok
    | exact ⟨fun q => q = ⟨p, k, by omega⟩, ⟨Nat.le_refl _, SImp.of_wk (ren := []) ⟨p, k, by omega⟩ ⟨⟨AV.sub_same _, AV.sub_same _, AV.sub_same _, AV.sub_same _, AV.sub_same _, AV.sub_lit', trivial⟩, ⟨.same _, .same _, trivial⟩, rfl, tl_ok rfl, ⟨.inr rfl, .inr rfl, trivial⟩, ⟨Nat.le_of_ble_eq_true rfl, rfl⟩⟩ rfl⟩, fun q hq _ _ => by
        subst hq
        exact hnx _ (by omega) ⟨⟨AV.sub_same _, AV.sub_same _, AV.sub_same _, AV.sub_same _, AV.sub_int (hw (by omega)), trivial⟩, ⟨.same _, .same _, trivial⟩, rfl, tl_ok rfl, ⟨.inr rfl, .inr rfl, trivial⟩, ⟨Nat.le_of_ble_eq_true rfl, rfl⟩⟩⟩
    | exact hex _ ⟨⟨AV.sub_same _, AV.sub_same _, AV.sub_same _, AV.sub_same _, trivial⟩, ⟨.same _, .same _, trivial⟩, rfl, tl_ok rfl, ⟨.inr rfl, .inr rfl, trivial⟩, ⟨Nat.le_of_ble_eq_true rfl, rfl⟩⟩
    | skip
theorem l52_ok : LoopOk Try.prog 2 (loopOf Try.f5 2) L52 := by
  refine trimLoop_ok (trim_ok _ _) (loopTH_ok (C := cfg54) cfg54_ok (f := 5) (n := 60) (trim_ok [0, 3, 4, 5, 6] [0, 1]) 2 I52 (fun p j => j ≤ p.cs.length) (fun _ => 0) (fun p j => p.cs.length - j) (fun _ (_ : Unit) => True) (fun p _ => I50 p.toPO p.i) (fun p => Nat.zero_le _) ?_)
  intro p j hj
  exact body52 p j hj _ _ (fun ST hlt hw => SImp.of_wk (j + 1) hw ⟨hlt, by omega⟩) (fun ST hw => ⟨rfl, SImp.of_wk () hw trivial⟩)

theorem body50 (p : PO) (i : Nat) (hj : i ≤ p.cs.length) (Q : EX → St V → Prop) (F : AV → Heap V → Nat → Prop)
    (hnx : ∀ ST : St V, i < p.cs.length → Wk 2 [] ST (I50 p (i + 1)) → Q .nx ST) (hex : ∀ ST : St V, i = p.cs.length → Wk 2 [] ST (I50 p i) → Q (.ex 0) ST) :
    (runCode cfg52 60 5 (loopOf Try.f5 0) (I50 p i) (stopT (trimSt [0, 3, 4, 5] [0, 1]))).holds ⟨Q, F⟩ := by
  rw [b50]
  have hb := p.hb
  have hw : i < p.cs.length → IntKind.wrap .i64 ((i : Int) + 1) = ((i + 1 : Nat) : Int) := fun h => wrap_nat (by omega)
  have h1 : i < p.cs.length → 0 ≤ (p.cs.getD i (V.enc Kd.cal).dflt).frm ∧ (0 ≤ (p.cs.getD i (V.enc Kd.cal).dflt).at_ → (p.cs.getD i (V.enc Kd.cal).dflt).frm < (p.cs.getD i (V.enc Kd.cal).dflt).at_) ∧ (0 ≤ (p.cs.getD i (V.enc Kd.cal).dflt).to_ → (p.cs.getD i (V.enc Kd.cal).dflt).frm < (p.cs.getD i (V.enc Kd.cal).dflt).to_ ∧ (p.cs.getD i (V.enc Kd.cal).dflt).at_ < (p.cs.getD i (V.enc Kd.cal).dflt).to_) := fun h => p.O.at1 h
  simp only [Nat.zero_add]
  generalize p.cs.getD i (V.enc Kd.cal).dflt = a at *
  simp only [Out.holds, decide_eq_true_eq, decide_eq_false_iff_not, Bool.not_eq_true', Bool.not_eq_false', hB_true, hB_false, beq_iff_eq, beq_eq_false_iff_ne]
  have hmax : 0 ≤ a.to_ → a.frm < a.to_ ∧ a.at_ < a.to_ → ¬ a.to_ ≤ (if a.at_ > a.frm then a.at_ else a.frm) := fun _ h => by split <;> omega
  repeat' first | exact l52_ok | apply And.intro | intro _
  all_goals first
    | omega
    | exact l52_ok
    | exact ⟨fun q => q = ⟨p, i, by omega⟩, ⟨Nat.le_refl _, SImp.of_wk (ren := []) ⟨p, i, by omega⟩ ⟨⟨AV.sub_same _, AV.sub_same _, AV.sub_same _, AV.sub_same _, AV.sub_lit', trivial⟩, ⟨.same _, .same _, trivial⟩, rfl, tl_ok rfl, ⟨.inr rfl, .inr rfl, trivial⟩, ⟨Nat.le_of_ble_eq_true rfl, rfl⟩⟩ rfl⟩, fun q hq _ _ => by
        subst hq
        exact hnx _ (by omega) ⟨⟨AV.sub_same _, AV.sub_same _, AV.sub_same _, AV.sub_int (hw (by omega)), trivial⟩, ⟨.same _, .same _, trivial⟩, rfl, tl_ok rfl, ⟨.inr rfl, .inr rfl, trivial⟩, ⟨Nat.le_of_ble_eq_true rfl, rfl⟩⟩⟩
    | exact hex _ (by omega) ⟨⟨AV.sub_same _, AV.sub_same _, AV.sub_same _, AV.sub_same _, trivial⟩, ⟨.same _, .same _, trivial⟩, rfl, tl_ok rfl, ⟨.inr rfl, .inr rfl, trivial⟩, ⟨Nat.le_of_ble_eq_true rfl, rfl⟩⟩
    | (exfalso; exact hmax (by omega) ((h1 (by omega)).2.2 (by omega)) (by assumption))
    | skip
theorem l50_ok : LoopOk Try.prog 0 (loopOf Try.f5 0) L50 := by
  refine trimLoop_ok (trim_ok _ _) (loopTH_ok (C := cfg52) cfg52_ok (f := 5) (n := 60) (trim_ok [0, 3, 4, 5] [0, 1]) 2 I50 (fun p j => j ≤ p.cs.length) (fun _ => 0) (fun p j => p.cs.length - j) (fun _ (_ : Unit) => True) (fun p _ => I50 p p.cs.length) (fun p => Nat.zero_le _) ?_)
  intro p j hj
  exact body50 p j hj _ _ (fun ST hlt hw => SImp.of_wk (j + 1) hw ⟨hlt, by omega⟩) (fun ST he hw => ⟨rfl, SImp.of_wk () (by subst he; exact hw) trivial⟩)

theorem orders_law (l : List Rec) (c : Nat) (hb : ∀ r ∈ l, r.op < 9223372036854775808) : CallsSx Try.prog 5 [.sl false 0 0 8 l.length c] ([(0, .ro Kd.rcd l)] : Heap V) 1 (fun v _ _ _ => v.sub .tt) := by
  refine calls_runL (args := [.sl false 0 0 8 l.length c]) cfg50_ok (n := 60) (fn := Try.f5) ⟨by kernel_rfl, by kernel_rfl⟩ (by kernel_rfl) (show 1 ≤ _ by decide +kernel) ?_
  rw [t5]
  simp only [List.drop_zero, List.take_length]
  refine ⟨fun _ => AV.sub_same _, fun h1 => ?_⟩
  have hl : l.length ≤ 120 := by have := of_decide_eq_false h1; omega
  have hcl := calls_len l
  refine ⟨by omega, by omega, fun sp => ⟨l50_ok, fun q => q = ⟨l, c, hCallsOf l, sp, by omega, ord_calls hb⟩, ⟨Nat.le_refl _, SImp.of_wk (ren := []) ⟨l, c, hCallsOf l, sp, by omega, ord_calls hb⟩ ?_ rfl⟩, fun _ _ _ _ => AV.sub_same _⟩⟩
  exact ⟨⟨AV.sub_same _, AV.sub_same _, AV.sub_same _, AV.sub_lit', trivial⟩, ⟨.same _, .same _, trivial⟩, rfl, tl_ok rfl, ⟨.inr rfl, .inr rfl, trivial⟩, ⟨Nat.le_of_ble_eq_true rfl, rfl⟩⟩

end Sx
end Go.Proofs.Ytemcdjdglcceiaa

/-
  The law of cuts: the runs of the machine.
-/
namespace Go.Proofs.Ytemcdjdglcceiaa
namespace Sx
open Go
set_option maxRecDepth 100000
set_option linter.unusedVariables false

def cut (c : Cal) (k : Nat) : Cal := { c with at_ := if c.at_ ≥ k then -1 else c.at_, to_ := if c.to_ ≥ k then -1 else c.to_ }
structure PU where
  k : Nat
  ar : List Cal
  bs : List Cal
  spa : Nat
  spb : Nat
  hb : ar.length ≤ 1000
  hk : k ≤ 1000
  hl : bs.length ≤ ar.length
  C : ∀ i, i < ar.length → (i < bs.length → (ar.getD i c0).frm < k ∧ bs.getD i c0 = cut (ar.getD i c0) k) ∧ (bs.length ≤ i → (k : Int) ≤ (ar.getD i c0).frm)
def I60 (p : PU) (i : Nat) : St V := ⟨[(1, .int .i64 (p.k : Int)), (5, .tt), (6, .sl false 1 0 5 p.ar.length (p.ar.length + p.spa)), (7, .sl false 2 0 5 p.bs.length (p.bs.length + p.spb)), (8, .int .i64 (i : Int))], [(2, .arr 35 Kd.cal p.bs p.spb), (1, .arr 35 Kd.cal p.ar p.spa)], 5, 110, [0, 1, 2, 3, 4, 5, 6, 7, 8, 9, 10, 11, 12]⟩
def R60 (p : PU) : St V := ⟨[(4, .tt)], [], 5, 110, [0, 1, 2, 3, 4, 5, 6, 7, 8, 9, 10, 11, 12]⟩
def L60 : LoopS V := trimLoop (trimSt [1, 4, 5, 6, 7, 8] [1, 2]) (loopG 5 (fun p : PU => I60 p 0) (fun p (_ : Unit) => p.ar.length ≤ p.bs.length) (fun p _ => I60 p p.ar.length) (fun _ (_ : Unit) => True) (fun p _ => R60 p))
noncomputable def cfg60 : Cfg Try.prog V := ⟨tab, kinds, fun _ => none, hooksI, fun f id => match f, id with | 6, 0 => some L60 | _, _ => none⟩
theorem b60 (p : PU) (i : Nat) : runCode cfgI 60 6 (loopOf Try.f6 0) (I60 p i) (stopT (trimSt [1, 4, 5, 6, 7, 8] [1, 2])) =
  Out.ite (decide ((↑i : Int) < (↑p.ar.length : Int)))
    (Out.need (0 ≤ (↑i : Int) ∧ (↑i : Int) < (↑p.ar.length : Int))
      (Out.need (0 + i < p.ar.length)
        (Out.ite (decide ((p.ar.getD (0 + i) (V.enc Kd.cal).dflt).frm ≥ (↑p.1 : Int)))
          (Out.stop EX.rt
            {
              env :=
                [(1, AV.int IntKind.i64 (↑p.1 : Int)), (4, AV.bool ((↑p.bs.length : Int) == (↑i : Int))), (5, AV.tt),
                  (6, AV.sl false 1 0 5 p.ar.length (p.ar.length + p.4)), (7, AV.sl false 2 0 5 p.bs.length (p.bs.length + p.5)),
                  (8, AV.int IntKind.i64 (↑i : Int))],
              heap := [(2, Blk.arr 35 Kd.cal p.bs p.5), (1, Blk.arr 35 Kd.cal p.ar p.4)], nx := 7, nt := 110,
              tl := [5, 5, 0, 1, 2, 3, 4, 5, 6, 7, 8, 9, 10, 11, 12] : St V })
          (Out.ite (decide ((p.ar.getD (0 + i) (V.enc Kd.cal).dflt).at_ ≥ (↑p.1 : Int)))
            (Out.ite (decide ((p.ar.getD (0 + i) (V.enc Kd.cal).dflt).to_ ≥ (↑p.1 : Int)))
              (Out.ite (decide ((↑i : Int) ≥ (↑p.bs.length : Int)))
                (Out.stop EX.rt
                  {
                    env :=
                      [(1, AV.int IntKind.i64 (↑p.1 : Int)), (4, AV.ff), (5, AV.tt), (6, AV.sl false 1 0 5 p.ar.length (p.ar.length + p.4)),
                        (7, AV.sl false 2 0 5 p.bs.length (p.bs.length + p.5)), (8, AV.int IntKind.i64 (↑i : Int))],
                    heap := [(2, Blk.arr 35 Kd.cal p.bs p.5), (1, Blk.arr 35 Kd.cal p.ar p.4)], nx := 9, nt := 110,
                    tl := [5, 5, 5, 5, 0, 1, 2, 3, 4, 5, 6, 7, 8, 9, 10, 11, 12] : St V })
                (Out.need (0 ≤ (↑i : Int) ∧ (↑i : Int) < (↑p.bs.length : Int))
                  (Out.need (0 + i < p.bs.length)
                    (Out.ite
                      (!((p.bs.getD (0 + i) (V.enc Kd.cal).dflt).thread == (p.ar.getD (0 + i) (V.enc Kd.cal).dflt).thread &&
                          ((p.bs.getD (0 + i) (V.enc Kd.cal).dflt).op == (p.ar.getD (0 + i) (V.enc Kd.cal).dflt).op &&
                            ((p.bs.getD (0 + i) (V.enc Kd.cal).dflt).frm == (p.ar.getD (0 + i) (V.enc Kd.cal).dflt).frm &&
                              ((p.bs.getD (0 + i) (V.enc Kd.cal).dflt).at_ == -1 && ((p.bs.getD (0 + i) (V.enc Kd.cal).dflt).to_ == -1 && true))))))
                      (Out.stop EX.rt
                        {
                          env :=
                            [(1, AV.int IntKind.i64 (↑p.1 : Int)), (4, AV.ff), (5, AV.tt), (6, AV.sl false 1 0 5 p.ar.length (p.ar.length + p.4)),
                              (7, AV.sl false 2 0 5 p.bs.length (p.bs.length + p.5)), (8, AV.int IntKind.i64 (↑i : Int))],
                          heap := [(2, Blk.arr 35 Kd.cal p.bs p.5), (1, Blk.arr 35 Kd.cal p.ar p.4)], nx := 9, nt := 110,
                          tl := [5, 5, 5, 5, 0, 1, 2, 3, 4, 5, 6, 7, 8, 9, 10, 11, 12] : St V })
                      (Out.stop EX.nx
                        {
                          env :=
                            [(1, AV.int IntKind.i64 (↑p.1 : Int)), (4, AV.und), (5, AV.tt), (6, AV.sl false 1 0 5 p.ar.length (p.ar.length + p.4)),
                              (7, AV.sl false 2 0 5 p.bs.length (p.bs.length + p.5)), (8, AV.int IntKind.i64 (IntKind.i64.wrap ((↑i : Int) + 1)))],
                          heap := [(2, Blk.arr 35 Kd.cal p.bs p.5), (1, Blk.arr 35 Kd.cal p.ar p.4)], nx := 9, nt := 110,
                          tl := [5, 5, 5, 5, 0, 1, 2, 3, 4, 5, 6, 7, 8, 9, 10, 11, 12] : St V })))))
              (Out.ite (decide ((↑i : Int) ≥ (↑p.bs.length : Int)))
                (Out.stop EX.rt
                  {
                    env :=
                      [(1, AV.int IntKind.i64 (↑p.1 : Int)), (4, AV.ff), (5, AV.tt), (6, AV.sl false 1 0 5 p.ar.length (p.ar.length + p.4)),
                        (7, AV.sl false 2 0 5 p.bs.length (p.bs.length + p.5)), (8, AV.int IntKind.i64 (↑i : Int))],
                    heap := [(2, Blk.arr 35 Kd.cal p.bs p.5), (1, Blk.arr 35 Kd.cal p.ar p.4)], nx := 8, nt := 110,
                    tl := [5, 5, 5, 0, 1, 2, 3, 4, 5, 6, 7, 8, 9, 10, 11, 12] : St V })
                (Out.need (0 ≤ (↑i : Int) ∧ (↑i : Int) < (↑p.bs.length : Int))
                  (Out.need (0 + i < p.bs.length)
                    (Out.ite
                      (!((p.bs.getD (0 + i) (V.enc Kd.cal).dflt).thread == (p.ar.getD (0 + i) (V.enc Kd.cal).dflt).thread &&
                          ((p.bs.getD (0 + i) (V.enc Kd.cal).dflt).op == (p.ar.getD (0 + i) (V.enc Kd.cal).dflt).op &&
                            ((p.bs.getD (0 + i) (V.enc Kd.cal).dflt).frm == (p.ar.getD (0 + i) (V.enc Kd.cal).dflt).frm &&
                              ((p.bs.getD (0 + i) (V.enc Kd.cal).dflt).at_ == -1 &&
                                ((p.bs.getD (0 + i) (V.enc Kd.cal).dflt).to_ == (p.ar.getD (0 + i) (V.enc Kd.cal).dflt).to_ && true))))))
                      (Out.stop EX.rt
                        {
                          env :=
                            [(1, AV.int IntKind.i64 (↑p.1 : Int)), (4, AV.ff), (5, AV.tt), (6, AV.sl false 1 0 5 p.ar.length (p.ar.length + p.4)),
                              (7, AV.sl false 2 0 5 p.bs.length (p.bs.length + p.5)), (8, AV.int IntKind.i64 (↑i : Int))],
                          heap := [(2, Blk.arr 35 Kd.cal p.bs p.5), (1, Blk.arr 35 Kd.cal p.ar p.4)], nx := 8, nt := 110,
                          tl := [5, 5, 5, 0, 1, 2, 3, 4, 5, 6, 7, 8, 9, 10, 11, 12] : St V })
                      (Out.stop EX.nx
                        {
                          env :=
                            [(1, AV.int IntKind.i64 (↑p.1 : Int)), (4, AV.und), (5, AV.tt), (6, AV.sl false 1 0 5 p.ar.length (p.ar.length + p.4)),
                              (7, AV.sl false 2 0 5 p.bs.length (p.bs.length + p.5)), (8, AV.int IntKind.i64 (IntKind.i64.wrap ((↑i : Int) + 1)))],
                          heap := [(2, Blk.arr 35 Kd.cal p.bs p.5), (1, Blk.arr 35 Kd.cal p.ar p.4)], nx := 8, nt := 110,
                          tl := [5, 5, 5, 0, 1, 2, 3, 4, 5, 6, 7, 8, 9, 10, 11, 12] : St V }))))))
            (Out.ite (decide ((p.ar.getD (0 + i) (V.enc Kd.cal).dflt).to_ ≥ (↑p.1 : Int)))
              (Out.ite (decide ((↑i : Int) ≥ (↑p.bs.length : Int)))
                (Out.stop EX.rt
                  {
                    env :=
                      [(1, AV.int IntKind.i64 (↑p.1 : Int)), (4, AV.ff), (5, AV.tt), (6, AV.sl false 1 0 5 p.ar.length (p.ar.length + p.4)),
                        (7, AV.sl false 2 0 5 p.bs.length (p.bs.length + p.5)), (8, AV.int IntKind.i64 (↑i : Int))],
                    heap := [(2, Blk.arr 35 Kd.cal p.bs p.5), (1, Blk.arr 35 Kd.cal p.ar p.4)], nx := 8, nt := 110,
                    tl := [5, 5, 5, 0, 1, 2, 3, 4, 5, 6, 7, 8, 9, 10, 11, 12] : St V })
                (Out.need (0 ≤ (↑i : Int) ∧ (↑i : Int) < (↑p.bs.length : Int))
                  (Out.need (0 + i < p.bs.length)
                    (Out.ite
                      (!((p.bs.getD (0 + i) (V.enc Kd.cal).dflt).thread == (p.ar.getD (0 + i) (V.enc Kd.cal).dflt).thread &&
                          ((p.bs.getD (0 + i) (V.enc Kd.cal).dflt).op == (p.ar.getD (0 + i) (V.enc Kd.cal).dflt).op &&
                            ((p.bs.getD (0 + i) (V.enc Kd.cal).dflt).frm == (p.ar.getD (0 + i) (V.enc Kd.cal).dflt).frm &&
                              ((p.bs.getD (0 + i) (V.enc Kd.cal).dflt).at_ == (p.ar.getD (0 + i) (V.enc Kd.cal).dflt).at_ &&
                                ((p.bs.getD (0 + i) (V.enc Kd.cal).dflt).to_ == -1 && true))))))
                      (Out.stop EX.rt
                        {
                          env :=
                            [(1, AV.int IntKind.i64 (↑p.1 : Int)), (4, AV.ff), (5, AV.tt), (6, AV.sl false 1 0 5 p.ar.length (p.ar.length + p.4)),
                              (7, AV.sl false 2 0 5 p.bs.length (p.bs.length + p.5)), (8, AV.int IntKind.i64 (↑i : Int))],
                          heap := [(2, Blk.arr 35 Kd.cal p.bs p.5), (1, Blk.arr 35 Kd.cal p.ar p.4)], nx := 8, nt := 110,
                          tl := [5, 5, 5, 0, 1, 2, 3, 4, 5, 6, 7, 8, 9, 10, 11, 12] : St V })
                      (Out.stop EX.nx
                        {
                          env :=
                            [(1, AV.int IntKind.i64 (↑p.1 : Int)), (4, AV.und), (5, AV.tt), (6, AV.sl false 1 0 5 p.ar.length (p.ar.length + p.4)),
                              (7, AV.sl false 2 0 5 p.bs.length (p.bs.length + p.5)), (8, AV.int IntKind.i64 (IntKind.i64.wrap ((↑i : Int) + 1)))],
                          heap := [(2, Blk.arr 35 Kd.cal p.bs p.5), (1, Blk.arr 35 Kd.cal p.ar p.4)], nx := 8, nt := 110,
                          tl := [5, 5, 5, 0, 1, 2, 3, 4, 5, 6, 7, 8, 9, 10, 11, 12] : St V })))))
              (Out.ite (decide ((↑i : Int) ≥ (↑p.bs.length : Int)))
                (Out.stop EX.rt
                  {
                    env :=
                      [(1, AV.int IntKind.i64 (↑p.1 : Int)), (4, AV.ff), (5, AV.tt), (6, AV.sl false 1 0 5 p.ar.length (p.ar.length + p.4)),
                        (7, AV.sl false 2 0 5 p.bs.length (p.bs.length + p.5)), (8, AV.int IntKind.i64 (↑i : Int))],
                    heap := [(2, Blk.arr 35 Kd.cal p.bs p.5), (1, Blk.arr 35 Kd.cal p.ar p.4)], nx := 7, nt := 110,
                    tl := [5, 5, 0, 1, 2, 3, 4, 5, 6, 7, 8, 9, 10, 11, 12] : St V })
                (Out.need (0 ≤ (↑i : Int) ∧ (↑i : Int) < (↑p.bs.length : Int))
                  (Out.need (0 + i < p.bs.length)
                    (Out.ite
                      (!((p.bs.getD (0 + i) (V.enc Kd.cal).dflt).thread == (p.ar.getD (0 + i) (V.enc Kd.cal).dflt).thread &&
                          ((p.bs.getD (0 + i) (V.enc Kd.cal).dflt).op == (p.ar.getD (0 + i) (V.enc Kd.cal).dflt).op &&
                            ((p.bs.getD (0 + i) (V.enc Kd.cal).dflt).frm == (p.ar.getD (0 + i) (V.enc Kd.cal).dflt).frm &&
                              ((p.bs.getD (0 + i) (V.enc Kd.cal).dflt).at_ == (p.ar.getD (0 + i) (V.enc Kd.cal).dflt).at_ &&
                                ((p.bs.getD (0 + i) (V.enc Kd.cal).dflt).to_ == (p.ar.getD (0 + i) (V.enc Kd.cal).dflt).to_ && true))))))
                      (Out.stop EX.rt
                        {
                          env :=
                            [(1, AV.int IntKind.i64 (↑p.1 : Int)), (4, AV.ff), (5, AV.tt), (6, AV.sl false 1 0 5 p.ar.length (p.ar.length + p.4)),
                              (7, AV.sl false 2 0 5 p.bs.length (p.bs.length + p.5)), (8, AV.int IntKind.i64 (↑i : Int))],
                          heap := [(2, Blk.arr 35 Kd.cal p.bs p.5), (1, Blk.arr 35 Kd.cal p.ar p.4)], nx := 7, nt := 110,
                          tl := [5, 5, 0, 1, 2, 3, 4, 5, 6, 7, 8, 9, 10, 11, 12] : St V })
                      (Out.stop EX.nx
                        {
                          env :=
                            [(1, AV.int IntKind.i64 (↑p.1 : Int)), (4, AV.und), (5, AV.tt), (6, AV.sl false 1 0 5 p.ar.length (p.ar.length + p.4)),
                              (7, AV.sl false 2 0 5 p.bs.length (p.bs.length + p.5)), (8, AV.int IntKind.i64 (IntKind.i64.wrap ((↑i : Int) + 1)))],
                          heap := [(2, Blk.arr 35 Kd.cal p.bs p.5), (1, Blk.arr 35 Kd.cal p.ar p.4)], nx := 7, nt := 110,
                          tl := [5, 5, 0, 1, 2, 3, 4, 5, 6, 7, 8, 9, 10, 11, 12] : St V }))))))))))
    (Out.stop (EX.ex 0)
      {
        env :=
          [(1, AV.int IntKind.i64 (↑p.1 : Int)), (4, AV.und), (5, AV.tt), (6, AV.sl false 1 0 5 p.ar.length (p.ar.length + p.4)),
            (7, AV.sl false 2 0 5 p.bs.length (p.bs.length + p.5)), (8, AV.int IntKind.i64 (↑i : Int))],
        heap := [(2, Blk.arr 35 Kd.cal p.bs p.5), (1, Blk.arr 35 Kd.cal p.ar p.4)], nx := 5, nt := 110, tl := [0, 1, 2, 3, 4, 5, 6, 7, 8, 9, 10, 11, 12] : St V }) := by kernel_rfl

theorem t6 (l : List Rec) (c : Nat) (k : Int) : runL cfg60 60 6 Try.f6 [.sl false 0 0 8 l.length c, .int .i64 k] [(0, .ro Kd.rcd l)] 1 =
  Out.ite (decide ((↑l.length : Int) > 150)) (Out.fin AV.tt [] 0)
    (Out.ite (decide (k < 0)) (Out.fin AV.tt [] 0)
      (Out.ite (decide (k > (↑l.length : Int))) (Out.fin AV.tt [] 0)
        (Out.need (0 + l.length ≤ l.length)
          (Out.need ((List.take l.length (List.drop 0 l)).length ≤ 1099511627776)
            (Out.ite (!hRight (List.take l.length (List.drop 0 l))) (Out.fin AV.tt [] 0)
              (Out.need (0 + l.length ≤ l.length)
                (Out.need ((List.take l.length (List.drop 0 l)).length ≤ 1099511627776)
                  (Out.all Nat fun y =>
                    Out.need (0 ≤ k ∧ k ≤ (↑c : Int))
                      (Out.need (0 + k.toNat ≤ l.length)
                        (Out.need ((List.take k.toNat (List.drop 0 l)).length ≤ 1099511627776)
                          (Out.all Nat fun y_1 =>
                            Out.need (0 ≤ k ∧ k ≤ (↑c : Int))
                              (Out.need (0 + k.toNat ≤ l.length)
                                (Out.need ((List.take k.toNat (List.drop 0 l)).length ≤ 1099511627776)
                                  (Out.ite (!hRight (List.take k.toNat (List.drop 0 l))) (Out.fin AV.ff [] 0)
                                    (Out.ite
                                      (decide
                                        ((↑(hCallsOf (List.take k.toNat (List.drop 0 l))).length : Int) >
                                          (↑(hCallsOf (List.take l.length (List.drop 0 l))).length : Int)))
                                      (Out.fin AV.ff [] 0)
                                      (Out.need (0 ≤ k ∧ k ≤ (↑c : Int))
                                        (Out.need (0 + k.toNat ≤ l.length)
                                          (Out.need ((List.take k.toNat (List.drop 0 l)).length ≤ 1099511627776)
                                            (Out.all Nat fun y_2 =>
                                              Out.need (0 + l.length ≤ l.length)
                                                (Out.need ((List.take l.length (List.drop 0 l)).length ≤ 1099511627776)
                                                  (Out.all Nat fun y_3 =>
                                                    Out.ite
                                                      (decide
                                                        ((↑(hCommits (List.take k.toNat (List.drop 0 l))).length : Int) >
                                                          (↑(hCommits (List.take l.length (List.drop 0 l))).length : Int)))
                                                      (Out.fin AV.ff [] 0)
                                                      (Out.need (LoopFor Try.prog 6 0 (loopOf Try.f6 0) L60)
                                                        (Out.ex (PU → Prop) fun y_4 =>
                                                          Out.need
                                                            (5 ≤ 5 ∧
                                                              SImp 5
                                                                {
                                                                  env :=
                                                                    [(1, AV.int IntKind.i64 k), (4, AV.ff), (5, AV.tt),
                                                                      (6,
                                                                        AV.sl false 1 0 5 (hCallsOf (List.take l.length (List.drop 0 l))).length
                                                                          ((hCallsOf (List.take l.length (List.drop 0 l))).length + y)),
                                                                      (7,
                                                                        AV.sl false 2 0 5 (hCallsOf (List.take k.toNat (List.drop 0 l))).length
                                                                          ((hCallsOf (List.take k.toNat (List.drop 0 l))).length + y_1)),
                                                                      (8, AV.lit IntKind.i64 0)],
                                                                  heap :=
                                                                    [(2, Blk.arr 35 Kd.cal (hCallsOf (List.take k.toNat (List.drop 0 l))) y_1),
                                                                      (1, Blk.arr 35 Kd.cal (hCallsOf (List.take l.length (List.drop 0 l))) y)],
                                                                  nx := 5, nt := 110, tl := [4, 3, 0] : St V }
                                                                (fun p => I60 p 0) y_4)
                                                            (Out.all PU fun y =>
                                                              Out.asm (y_4 y)
                                                                ((Out.all Unit fun y_5 =>
                                                                      Out.asm ((fun p x => p.ar.length ≤ p.bs.length) y y_5)
                                                                        (Out.fin (AV.bool ((↑y.ar.length : Int) == (↑y.bs.length : Int))) [] 0)).both
                                                                  (Out.all Unit fun y_5 =>
                                                                    Out.asm ((fun x x_1 => True) y y_5) (Out.fin AV.tt [] 0))))))))))))))))))))))))))) := by kernel_rfl

end Sx
end Go.Proofs.Ytemcdjdglcceiaa

/-
  The beginning of a right row is right, and its calls are those that were invoked in it.
-/
namespace Go.Proofs.Ytemcdjdglcceiaa
namespace Sx
open Go
set_option linter.unusedSimpArgs false
set_option linter.unusedVariables false

theorem readTo_take {l : List Rec} {k : Nat} (hk : k ≤ l.length) : ∀ {n : Nat}, n ≤ k → readTo (l.take k) n = readTo l n
  | 0, _ => rfl
  | n + 1, h => by
    show (readTo (l.take k) n).bind _ = (readTo l n).bind _
    rw [readTo_take hk (by omega)]
    have e : (l.take k).getD n r0 = l.getD n r0 := by
      rw [List.getD_eq_getElem?_getD, List.getD_eq_getElem?_getD, List.getElem?_take, if_pos (by omega)]
    rw [e]

structure CutOf (k : Nat) (t s : List Cal) : Prop where
  le : t.length ≤ s.length
  el : ∀ (i : Nat) (c : Cal), s[i]? = some c → (i < t.length → c.frm < k ∧ t[i]? = some (cut c k)) ∧ (t.length ≤ i → (k : Int) ≤ c.frm)

theorem cut_self {l : List Rec} {k : Nat} {t : RD} (I : RInv l k t) : CutOf k t.cs t.cs := by
  refine ⟨Nat.le_refl _, fun i c h => ⟨fun _ => ?_, fun hh => absurd (get_lt h) (by omega)⟩⟩
  have f := I.frm i c h
  refine ⟨f.2.1, ?_⟩
  rw [h]
  congr 1
  have e1 : ¬ c.at_ ≥ k := by rcases I.at_ i c h with e | e <;> omega
  have e2 : ¬ c.to_ ≥ k := by
    rcases I.to_ i c h with e | ⟨_, _, e, _⟩ <;> omega
  unfold cut
  rw [if_neg e1, if_neg e2]

theorem cut_step {l : List Rec} {k n : Nat} {t : List Cal} {s s' : RD} (hkn : k ≤ n) (I : RInv l n s) (C : CutOf k t s.cs) {r : Rec} (e : s.step r n = some s') : CutOf k t s'.cs := by
  have hpush : CutOf k t (s.push r n).cs := by
    refine ⟨by show t.length ≤ (s.cs ++ [_]).length; have := C.le; simp; omega, fun i c h => ?_⟩
    rcases get_push h with h | ⟨rfl, rfl⟩
    · exact C.el i c h
    · exact ⟨fun hh => absurd C.le (by omega), fun _ => by show (k : Int) ≤ (n : Int); omega⟩
  have hupd : ∀ (o : Opn) (f : Cal → Cal) (c1 : Cal), s.cs[o.call.toNat]? = some c1 → (f c1).frm = c1.frm → cut (f c1) k = cut c1 k → CutOf k t (s.upd r o f).cs := by
    intro o f c1 h1 h2 h3
    have hd : s.cs.getD o.call.toNat c0 = c1 := by rw [List.getD_eq_getElem?_getD, h1]; rfl
    refine ⟨by show t.length ≤ (s.cs.set _ _).length; rw [List.length_set]; exact C.le, fun i c h => ?_⟩
    have h' : (s.cs.set o.call.toNat (f (s.cs.getD o.call.toNat c0)))[i]? = some c := h
    rw [hd] at h'
    rcases get_set h' with ⟨rfl, rfl⟩ | ⟨_, h'⟩
    · have := C.el _ _ h1
      rw [h2, h3]; exact this
    · exact C.el i c h'
  unfold RD.step at e
  split at e
  · cases e
  · split at e
    · split at e
      · cases e; exact C
      · cases e
    · split at e
      · unfold RD.invoke at e
        split at e
        · cases e; exact hpush
        · cases e
      · unfold RD.follow at e
        split at e
        · cases e
        · rename_i o ho
          obtain ⟨k1, k2, k3, k4, c1, k5, k6, k7, k8, k9, k10⟩ := I.last _ _ ho
          split at e
          · cases e
          · rename_i hno
            have hn3 : o.what ≠ 3 := fun h => hno (.inl h)
            have to1 : c1.to_ = -1 := Classical.byContradiction fun h => hn3 (k10.2 h)
            split at e
            · split at e
              · rename_i hm
                cases e
                obtain ⟨a1, a2⟩ := k8.1 hm.1
                refine hupd o _ c1 k5 rfl ?_
                unfold cut
                have q1 : (n : Int) ≥ k := by omega
                have q2 : ¬ (-1 : Int) ≥ k := by omega
                simp only [q1, q2, if_true, if_false, a1]
              · cases e
            · split at e
              · split at e
                · cases e
                  refine hupd o _ c1 k5 rfl ?_
                  unfold cut
                  have q1 : (n : Int) ≥ k := by omega
                  have q2 : ¬ (-1 : Int) ≥ k := by omega
                  simp only [q1, q2, if_true, if_false, to1]
                · cases e
              · cases e

theorem cut_all {l : List Rec} (hb : ∀ i, (l.getD i r0).op < 9223372036854775808) {k : Nat} {t : RD} (ht : readTo l k = some t) : ∀ {n : Nat} {s : RD}, k ≤ n → readTo l n = some s → CutOf k t.cs s.cs := by
  intro n
  induction n with
  | zero =>
    intro s hk h
    have : k = 0 := by omega
    subst this
    rw [ht] at h; cases h
    exact cut_self (readTo_inv hb ht)
  | succ n ih =>
    intro s' hk h
    rcases Nat.lt_or_ge n k with h1 | h1
    · have : k = n + 1 := by omega
      subst this
      rw [ht] at h; cases h
      exact cut_self (readTo_inv hb ht)
    · obtain ⟨s, h2, h3⟩ := Option.bind_eq_some_iff.1 h
      exact cut_step h1 (readTo_inv hb h2) (ih h1 h2) h3

theorem readTo_some {l : List Rec} {n m : Nat} {s : RD} (h : readTo l m = some s) (hn : n ≤ m) : ∃ t, readTo l n = some t := by
  cases e : readTo l n with
  | some t => exact ⟨t, rfl⟩
  | none => rw [readTo_none e hn] at h; cases h

theorem cuts {l : List Rec} (hb : ∀ r ∈ l, r.op < 9223372036854775808) (hr : hRight l = true) {k : Nat} (hk : k ≤ l.length) :
    hRight (l.take k) = true ∧ CutOf k (hCallsOf (l.take k)) (hCallsOf l) := by
  cases e : readTo l l.length with
  | none => have := right_none e; rw [this.1] at hr; cases hr
  | some s =>
    obtain ⟨t, ht⟩ := readTo_some e hk
    have ht' : readTo (l.take k) (l.take k).length = some t := by
      rw [List.length_take, Nat.min_eq_left hk, readTo_take hk (Nat.le_refl _)]; exact ht
    obtain ⟨a1, a2⟩ := right_some e
    obtain ⟨b1, b2⟩ := right_some ht'
    refine ⟨b1, ?_⟩
    rw [a2, b2]
    exact cut_all (get_bound hb) ht hk e
theorem commits_take {l : List Rec} (hr : hRight l = true) (k : Nat) : (hCommits (l.take k)).length ≤ (hCommits l).length := by
  unfold hCommits
  rw [if_pos hr]
  split
  · rw [List.length_map, List.length_map]
    have : l.filter (fun r => decide (r.what = 2)) = (l.take k).filter (fun r => decide (r.what = 2)) ++ (l.drop k).filter (fun r => decide (r.what = 2)) := by rw [← List.filter_append, List.take_append_drop]
    rw [this, List.length_append]; omega
  · exact Nat.zero_le _

theorem body60 (p : PU) (i : Nat) (hi : i ≤ p.ar.length) (hi2 : i ≤ p.bs.length) (Q : EX → St V → Prop) (F : AV → Heap V → Nat → Prop)
    (hrt : ∀ ST : St V, Wk 5 [] ST (R60 p) → Q .rt ST)
    (hnx : ∀ ST : St V, i < p.ar.length → i < p.bs.length → Wk 5 [] ST (I60 p (i + 1)) → Q .nx ST) (hex : ∀ ST : St V, i = p.ar.length → Wk 5 [] ST (I60 p i) → Q (.ex 0) ST) :
    (runCode cfgI 60 6 (loopOf Try.f6 0) (I60 p i) (stopT (trimSt [1, 4, 5, 6, 7, 8] [1, 2]))).holds ⟨Q, F⟩ := by
  rw [b60]
  have hb := p.hb
  have hl := p.hl
  have hw : i < p.ar.length → IntKind.wrap .i64 ((i : Int) + 1) = ((i + 1 : Nat) : Int) := fun h => wrap_nat (by omega)
  have hC : i < p.ar.length → (i < p.bs.length → (p.ar.getD i (V.enc Kd.cal).dflt).frm < p.k ∧ p.bs.getD i (V.enc Kd.cal).dflt = cut (p.ar.getD i (V.enc Kd.cal).dflt) p.k) ∧ (p.bs.length ≤ i → (p.k : Int) ≤ (p.ar.getD i (V.enc Kd.cal).dflt).frm) := fun h => p.C i h
  simp only [Nat.zero_add]
  generalize p.ar.getD i (V.enc Kd.cal).dflt = c at *
  generalize p.bs.getD i (V.enc Kd.cal).dflt = d at *
  simp only [Out.holds, decide_eq_true_eq, decide_eq_false_iff_not, Bool.not_eq_true', Bool.not_eq_false']
  repeat' first | apply And.intro | intro _
  all_goals first
    | omega
    | exact hnx _ (by omega) (by omega) ⟨⟨AV.sub_same _, AV.sub_same _, AV.sub_same _, AV.sub_same _, AV.sub_int (hw (by omega)), trivial⟩, ⟨.same _, .same _, trivial⟩, rfl, tl_ok rfl, ⟨.inr rfl, .inr rfl, trivial⟩, ⟨Nat.le_of_ble_eq_true rfl, rfl⟩⟩
    | exact hex _ (by omega) ⟨⟨AV.sub_same _, AV.sub_same _, AV.sub_same _, AV.sub_same _, AV.sub_same _, trivial⟩, ⟨.same _, .same _, trivial⟩, rfl, tl_ok rfl, ⟨.inr rfl, .inr rfl, trivial⟩, ⟨Nat.le_of_ble_eq_true rfl, rfl⟩⟩
    | (exfalso; have g := (hC (by omega)).2 (by omega); omega)
    | (rename_i h3 h4 h5 hh; exfalso; obtain ⟨_, g2⟩ := (hC (by omega)).1 (by omega); rw [g2] at hh; unfold cut at hh; simp [h3, h4] at hh)
    | skip
  · refine hrt _ ⟨⟨fun r z hz => hz.trans (congrArg Value.bool ?_), trivial⟩, trivial, rfl, tl_ok rfl, ⟨.inl (in_ok rfl), .inl (in_ok rfl), trivial⟩, ⟨Nat.le_of_ble_eq_true rfl, rfl⟩⟩
    have : i = p.bs.length := by
      rcases Nat.lt_or_ge i p.bs.length with h | h
      · have := ((hC (by omega)).1 h).1; omega
      · omega
    simp; omega
theorem l60_ok : LoopOk Try.prog 0 (loopOf Try.f6 0) L60 := by
  refine trimLoop_ok (trim_ok _ _) (loopT_ok (C := cfgI) cfgI_ok (f := 6) (n := 60) (trim_ok [1, 4, 5, 6, 7, 8] [1, 2]) 5 I60 (fun p i => i ≤ p.ar.length ∧ i ≤ p.bs.length) (fun _ => 0) (fun p i => p.ar.length - i) (fun p (_ : Unit) => p.ar.length ≤ p.bs.length) (fun p _ => I60 p p.ar.length) (fun _ (_ : Unit) => True) (fun p _ => R60 p) (fun p => ⟨Nat.zero_le _, Nat.zero_le _⟩) ?_)
  intro p i ⟨hi, hi2⟩
  exact body60 p i hi hi2 _ _ (fun ST hw => SImp.of_wk () hw trivial) (fun ST h1 h2 hw => SImp.of_wk (i + 1) hw ⟨⟨h1, h2⟩, by omega⟩) (fun ST he hw => ⟨rfl, SImp.of_wk () (by subst he; exact hw) (by omega)⟩)
theorem cfg60_ok : cfg60.ok := ⟨cfgI_ok.τ, cfgI_ok.κ, cfgI_ok.mixed, cfgI_ok.fns, cfgI_ok.hooks⟩

theorem CutOf.facts {k : Nat} {t s : List Cal} (C : CutOf k t s) : ∀ i, i < s.length → (i < t.length → (s.getD i c0).frm < k ∧ t.getD i c0 = cut (s.getD i c0) k) ∧ (t.length ≤ i → (k : Int) ≤ (s.getD i c0).frm) := by
  intro i hi
  have h := C.el i _ (List.getElem?_eq_getElem hi)
  rw [← getD_el c0 hi] at h
  refine ⟨fun h1 => ⟨(h.1 h1).1, ?_⟩, h.2⟩
  rw [List.getD_eq_getElem?_getD, (h.1 h1).2]; rfl

theorem cuts_law (l : List Rec) (c : Nat) (k : Int) (hb : ∀ r ∈ l, r.op < 9223372036854775808) (hc : l.length ≤ c) : CallsSx Try.prog 6 [.sl false 0 0 8 l.length c, .int .i64 k] ([(0, .ro Kd.rcd l)] : Heap V) 1 (fun v _ _ _ => v.sub .tt) := by
  refine calls_runL (args := [.sl false 0 0 8 l.length c, .int .i64 k]) cfg60_ok (n := 60) (fn := Try.f6) ⟨by kernel_rfl, by kernel_rfl⟩ (by kernel_rfl) (show 2 ≤ _ by decide +kernel) ?_
  rw [t6]
  simp only [List.drop_zero, List.take_length]
  refine ⟨fun _ => AV.sub_same _, fun h1 => ⟨fun _ => AV.sub_same _, fun h2 => ⟨fun _ => AV.sub_same _, fun h3 => ?_⟩⟩⟩
  have hl : l.length ≤ 150 := by have := of_decide_eq_false h1; omega
  have hk0 : 0 ≤ k := by have := of_decide_eq_false h2; omega
  have hk1 : k.toNat ≤ l.length := by have := of_decide_eq_false h3; omega
  have hcl := calls_len l
  have htl : (l.take k.toNat).length = k.toNat := by rw [List.length_take]; omega
  refine ⟨by omega, by omega, fun _ => AV.sub_same _, fun hr => ?_⟩
  have hr : hRight l = true := by simpa using hr
  obtain ⟨r1, C⟩ := cuts hb hr hk1
  have hcm := commits_take hr k.toNat
  have hle := C.le
  refine ⟨by omega, by omega, fun y => ⟨⟨hk0, by omega⟩, by omega, by omega, fun y1 => ⟨⟨hk0, by omega⟩, by omega, by omega, fun h => ?_, fun _ => ⟨fun h => ?_, fun _ => ⟨⟨hk0, by omega⟩, by omega, by omega, fun y2 => ⟨by omega, by omega, fun y3 => ⟨fun h => ?_, fun _ => ?_⟩⟩⟩⟩⟩⟩⟩
  · rw [r1] at h; cases h
  · have := of_decide_eq_true h; omega
  · have := of_decide_eq_true h; omega
  · refine ⟨l60_ok, fun q => q = ⟨k.toNat, hCallsOf l, hCallsOf (l.take k.toNat), y, y1, by omega, by omega, hle, C.facts⟩, ⟨Nat.le_refl _, SImp.of_wk (ren := []) ⟨k.toNat, hCallsOf l, hCallsOf (l.take k.toNat), y, y1, by omega, by omega, hle, C.facts⟩ ?_ rfl⟩, ?_⟩
    · exact ⟨⟨AV.sub_int (by show k = (k.toNat : Int); omega), AV.sub_same _, AV.sub_same _, AV.sub_same _, AV.sub_lit', trivial⟩, ⟨.same _, .same _, trivial⟩, rfl, tl_ok rfl, ⟨.inr rfl, .inr rfl, trivial⟩, ⟨Nat.le_of_ble_eq_true rfl, rfl⟩⟩
    · rintro _ rfl
      refine ⟨fun _ he => ?_, fun _ _ => AV.sub_same _⟩
      intro r z hz
      have w : (((hCallsOf l).length : Int) == ((hCallsOf (l.take k.toNat)).length : Int)) = true := by
        have he' : (hCallsOf l).length ≤ (hCallsOf (l.take k.toNat)).length := he
        simp; omega
      exact hz.trans (congrArg Value.bool w)

end Sx
end Go.Proofs.Ytemcdjdglcceiaa

/-
  What one thread records alone.
-/
namespace Go.Proofs.Ytemcdjdglcceiaa
namespace Sx
open Go
set_option linter.unusedSimpArgs false
set_option linter.unusedVariables false

def cntO : Option Opn → Nat
  | none => 0
  | some o => o.op.toNat + 1
def lfO : Option Opn → Nat
  | none => 0
  | some o => if o.what = 3 then 0 else 1
def sumT (f : Nat → Nat) (n : Nat) : Nat := ((List.range n).map f).sum
theorem sumT_succ (f : Nat → Nat) (n : Nat) : sumT f (n + 1) = sumT f n + f n := by unfold sumT; rw [List.range_succ]; simp
theorem sumT_congr {f g : Nat → Nat} : ∀ {n : Nat}, (∀ i, i < n → f i = g i) → sumT f n = sumT g n
  | 0, _ => rfl
  | n + 1, h => by rw [sumT_succ, sumT_succ, sumT_congr (fun i hi => h i (by omega)), h n (by omega)]
theorem sumT_upd {f g : Nat → Nat} {k : Nat} : ∀ {n : Nat}, k < n → (∀ i, i ≠ k → f i = g i) → sumT g n + f k = sumT f n + g k
  | 0, h, _ => by omega
  | n + 1, h, e => by
    rw [sumT_succ, sumT_succ]
    rcases Nat.lt_or_ge k n with hk | hk
    · have := sumT_upd hk e
      have := e n (by omega)
      omega
    · have : k = n := by omega
      subst this
      have := sumT_congr (n := k) (f := f) (g := g) (fun i hi => e i (by omega))
      omega

structure TSum (s : RD) : Prop where
  cnt : s.cs.length = sumT (fun t => cntO (mget s.at_ (t : Int))) 64
  lf : hLeftOf s.cs = sumT (fun t => lfO (mget s.at_ (t : Int))) 64

theorem left_set : ∀ (cs : List Cal) (k : Nat) (c x : Cal), cs[k]? = some c → hLeftOf (cs.set k x) + (if c.to_ = -1 then 1 else 0) = hLeftOf cs + (if x.to_ = -1 then 1 else 0)
  | [], k, c, x, h => by simp at h
  | d :: cs, 0, c, x, h => by
    simp at h; subst h
    unfold hLeftOf
    simp only [List.set_cons_zero, List.filter_cons]
    by_cases h1 : d.to_ = -1 <;> by_cases h2 : x.to_ = -1 <;> simp [h1, h2]
  | d :: cs, k + 1, c, x, h => by
    simp at h
    have ih := left_set cs k c x h
    unfold hLeftOf at *
    simp only [List.set_cons_succ, List.filter_cons]
    by_cases h1 : d.to_ = -1
    · simp [h1] at *; omega
    · simp [h1] at *; omega

theorem at_upd {s : RD} {t : Int} {o : Opn} {f : Option Opn → Nat} (ht : 0 ≤ t ∧ t < 64) : sumT (fun i => f (mget (mput s.at_ t o) (i : Int))) 64 + f (mget s.at_ t) = sumT (fun i => f (mget s.at_ (i : Int))) 64 + f (some o) := by
  have e : ((t.toNat : Nat) : Int) = t := by omega
  have := sumT_upd (f := fun i => f (mget s.at_ (i : Int))) (g := fun i => f (mget (mput s.at_ t o) (i : Int))) (k := t.toNat) (n := 64) (by omega) (fun i hi => by
    show f (mget s.at_ (i : Int)) = f (mget (mput s.at_ t o) (i : Int))
    rw [mget_put, if_neg (by omega)])
  simp only [e] at this
  rw [mget_put, if_pos rfl] at this
  exact this

theorem TSum.step {l : List Rec} {n : Nat} {s s' : RD} (T : TSum s) (I : RInv l n s) (hb : ∀ i, (l.getD i r0).op < 9223372036854775808) {r : Rec} {i : Nat} (hi : i = n) (e : s.step r i = some s') : TSum s' := by
  unfold RD.step at e
  split at e
  · cases e
  · rename_i hthr
    have ht : 0 ≤ r.thread ∧ r.thread < 64 := by omega
    split at e
    · split at e
      · cases e; exact T
      · cases e
    · rename_i hop
      split at e
      · rename_i hw
        unfold RD.invoke at e
        split at e
        · rename_i hm
          cases e
          have hm := hm.1
          unfold RD.may at hm
          have hlen : (s.cs ++ [(⟨r.thread, r.op, i, -1, -1⟩ : Cal)]).length = s.cs.length + 1 := by simp
          have hlf : hLeftOf (s.cs ++ [(⟨r.thread, r.op, i, -1, -1⟩ : Cal)]) = hLeftOf s.cs + 1 := by unfold hLeftOf; rw [List.filter_append]; simp
          have l1 : lfO (some (Opn.of r s.cs.length)) = 1 := by
            show (if r.what = 3 then 0 else 1) = 1
            rw [if_neg (by omega)]
          have u1 := at_upd (s := s) (t := r.thread) (o := Opn.of r s.cs.length) (f := cntO) ht
          have u2 := at_upd (s := s) (t := r.thread) (o := Opn.of r s.cs.length) (f := lfO) ht
          have T1 := T.cnt
          have T2 := T.lf
          refine ⟨?_, ?_⟩
          · show (s.cs ++ [(⟨r.thread, r.op, i, -1, -1⟩ : Cal)]).length = sumT (fun j => cntO (mget (mput s.at_ r.thread (Opn.of r s.cs.length)) (j : Int))) 64
            have c1 : cntO (some (Opn.of r s.cs.length)) = r.op.toNat + 1 := rfl
            cases hg : mget s.at_ r.thread with
            | none =>
              rw [hg] at hm u1
              have : cntO none = 0 := rfl
              have hm' : r.op = 0 := hm
              rw [hm'] at c1
              omega
            | some o =>
              rw [hg] at hm u1
              obtain ⟨m1, m2⟩ := hm
              obtain ⟨k1, k2, k3, k4, c', k5, k6, k7, k8, k9, k10⟩ := I.last _ _ hg
              obtain ⟨f1, f2, f3, f4, f5, f6⟩ := I.frm _ _ k5
              have hop1 : o.op < 9223372036854775808 := by rw [← k7, ← f5]; exact hb _
              have hop0 : 0 ≤ o.op := by rw [← k7]; exact f6
              have e : r.op = o.op + 1 := by
                have := m2
                simp only [IntKind.wrap, IntKind.bits, IntKind.signed] at this
                simp at this
                omega
              have : cntO (some o) = o.op.toNat + 1 := rfl
              omega
          · show hLeftOf (s.cs ++ [(⟨r.thread, r.op, i, -1, -1⟩ : Cal)]) = sumT (fun j => lfO (mget (mput s.at_ r.thread (Opn.of r s.cs.length)) (j : Int))) 64
            cases hg : mget s.at_ r.thread with
            | none =>
              rw [hg] at u2
              have : lfO none = 0 := rfl
              omega
            | some o =>
              rw [hg] at hm u2
              have : lfO (some o) = 0 := by show (if o.what = 3 then 0 else 1) = 0; rw [if_pos hm.1]
              omega
        · cases e
      · unfold RD.follow at e
        split at e
        · cases e
        · rename_i o ho
          obtain ⟨k1, k2, k3, k4, c1, k5, k6, k7, k8, k9, k10⟩ := I.last _ _ ho
          have hd : s.cs.getD o.call.toNat c0 = c1 := by rw [List.getD_eq_getElem?_getD, k5]; rfl
          split at e
          · cases e
          · rename_i hno
            have hn3 : o.what ≠ 3 := fun h => hno (.inl h)
            have hoo : r.op = o.op := Classical.byContradiction fun h => hno (.inr (.inl h))
            have to1 : c1.to_ = -1 := Classical.byContradiction fun h => hn3 (k10.2 h)
            have u1 := at_upd (s := s) (t := r.thread) (o := Opn.of r o.call) (f := cntO) ht
            have u2 := at_upd (s := s) (t := r.thread) (o := Opn.of r o.call) (f := lfO) ht
            rw [ho] at u1 u2
            have q1 : cntO (some (Opn.of r o.call)) = cntO (some o) := by show r.op.toNat + 1 = o.op.toNat + 1; rw [hoo]
            have q2 : lfO (some o) = 1 := by show (if o.what = 3 then 0 else 1) = 1; rw [if_neg hn3]
            have T1 := T.cnt
            have T2 := T.lf
            have gen : ∀ f : Cal → Cal, hLeftOf (s.cs.set o.call.toNat (f c1)) = sumT (fun j => lfO (mget (mput s.at_ r.thread (Opn.of r o.call)) (j : Int))) 64 → TSum (s.upd r o f) := by
              intro f hf
              refine ⟨?_, ?_⟩
              · show (s.cs.set o.call.toNat (f (s.cs.getD o.call.toNat c0))).length = sumT (fun j => cntO (mget (mput s.at_ r.thread (Opn.of r o.call)) (j : Int))) 64
                rw [List.length_set]; omega
              · show hLeftOf (s.cs.set o.call.toNat (f (s.cs.getD o.call.toNat c0))) = _
                rw [hd]; exact hf
            split at e
            · rename_i hw2
              split at e
              · cases e
                refine gen _ ?_
                have := left_set s.cs _ c1 { c1 with at_ := (i : Int) } k5
                simp only [to1, if_true] at this
                have q3 : lfO (some (Opn.of r o.call)) = 1 := by show (if r.what = 3 then 0 else 1) = 1; rw [if_neg (by omega)]
                simp only [to1] at *
                omega
              · cases e
            · split at e
              · rename_i hw3
                split at e
                · cases e
                  refine gen _ ?_
                  have := left_set s.cs _ c1 { c1 with to_ := (i : Int) } k5
                  have hne : ¬ (i : Int) = -1 := by omega
                  simp only [to1, hne, if_true, if_false] at this
                  have q3 : lfO (some (Opn.of r o.call)) = 0 := by show (if r.what = 3 then 0 else 1) = 0; rw [if_pos hw3]
                  omega
                · cases e
              · cases e
theorem readTo_sum {l : List Rec} (hb : ∀ i, (l.getD i r0).op < 9223372036854775808) : ∀ {n : Nat} {s : RD}, readTo l n = some s → TSum s
  | 0, s, h => by cases h; exact ⟨rfl, rfl⟩
  | n + 1, s', h => by
    obtain ⟨s, h1, h2⟩ := Option.bind_eq_some_iff.1 h
    exact (readTo_sum hb h1).step (readTo_inv hb h1) hb rfl h2

/-! ## one thread alone -/
def ownOf (l : List Rec) (t : Int) : List Rec := l.filter fun r => decide (r.thread = t)
def strip (o : Opn) : Opn := { o with call := 0 }
structure Own (t : Int) (s u : RD) : Prop where
  same : (mget u.at_ t).map strip = (mget s.at_ t).map strip
  other : ∀ j, j ≠ t → mget u.at_ j = none

theorem own_step {t : Int} {s s' u : RD} (O : Own t s u) {r : Rec} {i j : Nat} (ht : r.thread = t) (e : s.step r i = some s') : ∃ u', u.step r j = some u' ∧ Own t s' u' := by
  have hs := O.same
  rw [← ht] at hs
  have put : ∀ (a b : Int), (mget (mput u.at_ r.thread (Opn.of r a)) t).map strip = (mget (mput s.at_ r.thread (Opn.of r b)) t).map strip := by
    intro a b
    rw [mget_put, mget_put, if_pos ht.symm, if_pos ht.symm]
    rfl
  have oth : ∀ (a : Int) (k : Int), k ≠ t → mget (mput u.at_ r.thread (Opn.of r a)) k = none := by
    intro a k hk
    rw [mget_put, if_neg (by rw [ht]; exact hk)]
    exact O.other k hk
  unfold RD.step at e ⊢
  split at e
  · cases e
  · rename_i h1
    rw [if_neg h1]
    split at e
    · rename_i h2
      rw [if_pos h2]
      split at e
      · rename_i h3
        cases e
        exact ⟨u, if_pos h3, O⟩
      · cases e
    · rename_i h2
      rw [if_neg h2]
      split at e
      · rename_i h3
        rw [if_pos h3]
        unfold RD.invoke at e ⊢
        split at e
        · rename_i h4
          cases e
          have hm : u.may r := by
            have hm := h4.1
            unfold RD.may at hm ⊢
            cases hg : mget s.at_ r.thread with
            | none =>
              rw [hg] at hm hs
              cases hu : mget u.at_ r.thread with
              | none => exact hm
              | some o' => rw [hu] at hs; cases hs
            | some o =>
              rw [hg] at hm hs
              cases hu : mget u.at_ r.thread with
              | none => rw [hu] at hs; cases hs
              | some o' =>
                rw [hu] at hs
                have e := Option.some.inj hs
                have e1 : o'.what = o.what := (by have q := congrArg Opn.what e; exact q)
                have e2 : o'.op = o.op := (by have q := congrArg Opn.op e; exact q)
                show o'.what = 3 ∧ r.op = IntKind.wrap .i64 (o'.op + 1)
                rw [e1, e2]; exact hm
          exact ⟨_, if_pos ⟨hm, h4.2⟩, ⟨put _ _, oth _⟩⟩
        · cases e
      · rename_i h3
        rw [if_neg h3]
        unfold RD.follow at e ⊢
        split at e
        · cases e
        · rename_i o ho
          rw [ho] at hs
          cases hu : mget u.at_ r.thread with
          | none => rw [hu] at hs; cases hs
          | some o' =>
            rw [hu] at hs
            have es := Option.some.inj hs
            have e1 : o'.what = o.what := (by have q := congrArg Opn.what es; exact q)
            have e2 : o'.op = o.op := (by have q := congrArg Opn.op es; exact q)
            have e3 : o'.act = o.act := (by have q := congrArg Opn.act es; exact q)
            have e4 : o'.key = o.key := (by have q := congrArg Opn.key es; exact q)
            have e5 : o'.value = o.value := (by have q := congrArg Opn.value es; exact q)
            have e6 : o'.hit = o.hit := (by have q := congrArg Opn.hit es; exact q)
            show ∃ u', (if o'.what = 3 ∨ r.op ≠ o'.op ∨ r.act ≠ o'.act ∨ r.key ≠ o'.key then none
              else if r.what = 2 then (if o'.what = 1 ∧ r.err = 0 then some (u.upd r o' fun c => { c with at_ := j }) else none)
              else if r.what = 3 then (if o'.what = 1 ∨ (r.value = o'.value ∧ r.hit = o'.hit ∧ r.err = 0) then some (u.upd r o' fun c => { c with to_ := j }) else none)
              else none) = some u' ∧ Own t s' u'
            rw [e1, e2, e3, e4, e5, e6]
            split at e
            · cases e
            · rename_i g1
              rw [if_neg g1]
              split at e
              · rename_i g2
                rw [if_pos g2]
                split at e
                · rename_i g3
                  rw [if_pos g3]
                  cases e
                  exact ⟨_, rfl, ⟨put _ _, oth _⟩⟩
                · cases e
              · rename_i g2
                rw [if_neg g2]
                split at e
                · rename_i g3
                  rw [if_pos g3]
                  split at e
                  · rename_i g4
                    rw [if_pos g4]
                    cases e
                    exact ⟨_, rfl, ⟨put _ _, oth _⟩⟩
                  · cases e
                · cases e

theorem other_step {s s' : RD} {r : Rec} {i : Nat} {t : Int} (ht : r.thread ≠ t) (e : s.step r i = some s') : mget s'.at_ t = mget s.at_ t := by
  have put : ∀ o, mget (mput s.at_ r.thread o) t = mget s.at_ t := fun o => by rw [mget_put, if_neg (fun h => ht h.symm)]
  unfold RD.step at e
  split at e
  · cases e
  · split at e
    · split at e
      · cases e; rfl
      · cases e
    · split at e
      · unfold RD.invoke at e
        split at e
        · cases e; exact put _
        · cases e
      · unfold RD.follow at e
        split at e
        · cases e
        · split at e
          · cases e
          · split at e
            · split at e
              · cases e; exact put _
              · cases e
            · split at e
              · split at e
                · cases e; exact put _
                · cases e
              · cases e

theorem readTo_append {l : List Rec} {r : Rec} : ∀ {n : Nat}, n ≤ l.length → readTo (l ++ [r]) n = readTo l n
  | 0, _ => rfl
  | n + 1, h => by
    show (readTo (l ++ [r]) n).bind _ = (readTo l n).bind _
    rw [readTo_append (by omega)]
    have e : (l ++ [r]).getD n r0 = l.getD n r0 := by
      rw [List.getD_eq_getElem?_getD, List.getD_eq_getElem?_getD, List.getElem?_append_left (by omega)]
    rw [e]

theorem own_read {l : List Rec} (t : Int) : ∀ {n : Nat} {s : RD}, n ≤ l.length → readTo l n = some s → ∃ u, readTo (ownOf (l.take n) t) (ownOf (l.take n) t).length = some u ∧ Own t s u
  | 0, s, _, h => by cases h; exact ⟨⟨[], []⟩, rfl, ⟨rfl, fun _ _ => rfl⟩⟩
  | n + 1, s', hn, h => by
    obtain ⟨s, h1, e⟩ := Option.bind_eq_some_iff.1 h
    obtain ⟨u, hu, O⟩ := own_read t (by omega) h1
    have hlt : n < l.length := by omega
    have et : ownOf (l.take (n + 1)) t = ownOf (l.take n) t ++ if (l.getD n r0).thread = t then [l.getD n r0] else [] := by
      unfold ownOf
      rw [List.take_succ_eq_append_getElem hlt, List.filter_append, getD_el r0 hlt]
      congr 1
      by_cases e : (l[n]).thread = t <;> simp [e]
    by_cases ht : (l.getD n r0).thread = t
    · rw [if_pos ht] at et
      obtain ⟨u', g1, g2⟩ := own_step O (j := (ownOf (l.take n) t).length) ht e
      refine ⟨u', ?_, g2⟩
      rw [et, List.length_append]
      show (readTo (ownOf (l.take n) t ++ [l.getD n r0]) (ownOf (l.take n) t).length).bind _ = some u'
      rw [readTo_append (Nat.le_refl _), hu]
      show u.step ((ownOf (l.take n) t ++ [l.getD n r0]).getD (ownOf (l.take n) t).length r0) _ = some u'
      have : (ownOf (l.take n) t ++ [l.getD n r0]).getD (ownOf (l.take n) t).length r0 = l.getD n r0 := by
        rw [List.getD_eq_getElem?_getD, List.getElem?_append_right (Nat.le_refl _), Nat.sub_self]; rfl
      rw [this]; exact g1
    · rw [if_neg ht, List.append_nil] at et
      refine ⟨u, by rw [et]; exact hu, ⟨by rw [other_step ht e]; exact O.same, O.other⟩⟩

theorem cnt_strip {a b : Option Opn} (h : a.map strip = b.map strip) : cntO a = cntO b ∧ lfO a = lfO b := by
  cases a with
  | none => cases b with
    | none => exact ⟨rfl, rfl⟩
    | some o => cases h
  | some o => cases b with
    | none => cases h
    | some o' =>
      have e := Option.some.inj h
      have e1 : o.what = o'.what := (by have q := congrArg Opn.what e; exact q)
      have e2 : o.op = o'.op := (by have q := congrArg Opn.op e; exact q)
      exact ⟨by show o.op.toNat + 1 = o'.op.toNat + 1; rw [e2], by show (if o.what = 3 then 0 else 1) = (if o'.what = 3 then 0 else 1); rw [e1]⟩

structure Threads (l : List Rec) : Prop where
  right : ∀ t : Nat, t < 64 → hRight (ownOf l t) = true
  left1 : ∀ t : Nat, t < 64 → hLeft (ownOf l t) ≤ 1
  calls : sumT (fun t => (hCallsOf (ownOf l (t : Int))).length) 64 = (hCallsOf l).length
  left : sumT (fun t => hLeft (ownOf l (t : Int))) 64 = hLeft l
theorem threads_all {l : List Rec} (hb : ∀ r ∈ l, r.op < 9223372036854775808) (hr : hRight l = true) : Threads l := by
  cases e : readTo l l.length with
  | none => have := right_none e; rw [this.1] at hr; cases hr
  | some s =>
    obtain ⟨a1, a2⟩ := right_some e
    have T := readTo_sum (get_bound hb) e
    have each : ∀ t : Nat, t < 64 → hRight (ownOf l t) = true ∧ (hCallsOf (ownOf l (t : Int))).length = cntO (mget s.at_ (t : Int)) ∧ hLeft (ownOf l (t : Int)) = lfO (mget s.at_ (t : Int)) := by
      intro t ht
      obtain ⟨u, hu, O⟩ := own_read (t : Int) (Nat.le_refl _) e
      rw [List.take_length] at hu
      obtain ⟨b1, b2⟩ := right_some hu
      have hb' : ∀ r ∈ ownOf l (t : Int), r.op < 9223372036854775808 := fun r hr => hb r (List.mem_filter.1 hr).1
      have TU := readTo_sum (get_bound hb') hu
      obtain ⟨s1, s2⟩ := cnt_strip O.same
      have one : ∀ f : Option Opn → Nat, f none = 0 → sumT (fun i => f (mget u.at_ (i : Int))) 64 = f (mget u.at_ (t : Int)) := by
        intro f hf
        have := sumT_upd (f := fun i => f (mget u.at_ (i : Int))) (g := fun _ => 0) (k := t) (n := 64) ht (fun i hi => by
          show f (mget u.at_ (i : Int)) = 0
          rw [O.other _ (by omega), hf])
        have z : ∀ n, sumT (fun _ => 0) n = 0 := by
          intro n
          induction n with
          | zero => rfl
          | succ n ih => rw [sumT_succ, ih]
        rw [z] at this
        omega
      refine ⟨b1, ?_, ?_⟩
      · rw [b2, TU.cnt, one cntO rfl, s1]
      · unfold hLeft
        rw [b2, TU.lf, one lfO rfl, s2]
    have l1 : ∀ o, lfO o ≤ 1 := by
      intro o
      cases o with
      | none => exact Nat.zero_le _
      | some o => show (if o.what = 3 then 0 else 1) ≤ 1; split <;> omega
    refine ⟨fun t ht => (each t ht).1, fun t ht => by rw [(each t ht).2.2]; exact l1 _, ?_, ?_⟩
    · rw [a2, T.cnt]; exact sumT_congr fun t ht => (each t ht).2.1
    · unfold hLeft at each ⊢
      rw [a2, T.lf]; exact sumT_congr fun t ht => (each t ht).2.2

end Sx
end Go.Proofs.Ytemcdjdglcceiaa

/-
  What is completed is right, has none left, and stays.
-/
namespace Go.Proofs.Ytemcdjdglcceiaa
namespace Sx
open Go
set_option linter.unusedSimpArgs false
set_option linter.unusedVariables false

/-- A record is read alike where its thread is at the same. -/
theorem sim_step {s s' u : RD} {r : Rec} {i j : Nat} (hs : (mget u.at_ r.thread).map strip = (mget s.at_ r.thread).map strip) (e : s.step r i = some s') :
    ∃ u', u.step r j = some u' ∧ (mget u'.at_ r.thread).map strip = (mget s'.at_ r.thread).map strip ∧ ∀ k, k ≠ r.thread → mget u'.at_ k = mget u.at_ k := by
  have put : ∀ (a b : Int), (mget (mput u.at_ r.thread (Opn.of r a)) r.thread).map strip = (mget (mput s.at_ r.thread (Opn.of r b)) r.thread).map strip := by
    intro a b
    rw [mget_put, mget_put, if_pos rfl, if_pos rfl]
    rfl
  have oth : ∀ (a : Int) (k : Int), k ≠ r.thread → mget (mput u.at_ r.thread (Opn.of r a)) k = mget u.at_ k := by
    intro a k hk
    rw [mget_put, if_neg hk]
  unfold RD.step at e ⊢
  split at e
  · cases e
  · rename_i h1
    rw [if_neg h1]
    split at e
    · rename_i h2
      rw [if_pos h2]
      split at e
      · rename_i h3
        cases e
        exact ⟨u, if_pos h3, hs, fun _ _ => rfl⟩
      · cases e
    · rename_i h2
      rw [if_neg h2]
      split at e
      · rename_i h3
        rw [if_pos h3]
        unfold RD.invoke at e ⊢
        split at e
        · rename_i h4
          cases e
          have hm : u.may r := by
            have hm := h4.1
            unfold RD.may at hm ⊢
            cases hg : mget s.at_ r.thread with
            | none =>
              rw [hg] at hm hs
              cases hu : mget u.at_ r.thread with
              | none => exact hm
              | some o' => rw [hu] at hs; cases hs
            | some o =>
              rw [hg] at hm hs
              cases hu : mget u.at_ r.thread with
              | none => rw [hu] at hs; cases hs
              | some o' =>
                rw [hu] at hs
                have e := Option.some.inj hs
                have e1 : o'.what = o.what := (by have q := congrArg Opn.what e; exact q)
                have e2 : o'.op = o.op := (by have q := congrArg Opn.op e; exact q)
                show o'.what = 3 ∧ r.op = IntKind.wrap .i64 (o'.op + 1)
                rw [e1, e2]; exact hm
          exact ⟨_, if_pos ⟨hm, h4.2⟩, put _ _, oth _⟩
        · cases e
      · rename_i h3
        rw [if_neg h3]
        unfold RD.follow at e ⊢
        split at e
        · cases e
        · rename_i o ho
          rw [ho] at hs
          cases hu : mget u.at_ r.thread with
          | none => rw [hu] at hs; cases hs
          | some o' =>
            rw [hu] at hs
            have es := Option.some.inj hs
            have e1 : o'.what = o.what := (by have q := congrArg Opn.what es; exact q)
            have e2 : o'.op = o.op := (by have q := congrArg Opn.op es; exact q)
            have e3 : o'.act = o.act := (by have q := congrArg Opn.act es; exact q)
            have e4 : o'.key = o.key := (by have q := congrArg Opn.key es; exact q)
            have e5 : o'.value = o.value := (by have q := congrArg Opn.value es; exact q)
            have e6 : o'.hit = o.hit := (by have q := congrArg Opn.hit es; exact q)
            show ∃ u', (if o'.what = 3 ∨ r.op ≠ o'.op ∨ r.act ≠ o'.act ∨ r.key ≠ o'.key then none
              else if r.what = 2 then (if o'.what = 1 ∧ r.err = 0 then some (u.upd r o' fun c => { c with at_ := j }) else none)
              else if r.what = 3 then (if o'.what = 1 ∨ (r.value = o'.value ∧ r.hit = o'.hit ∧ r.err = 0) then some (u.upd r o' fun c => { c with to_ := j }) else none)
              else none) = some u' ∧ (mget u'.at_ r.thread).map strip = (mget s'.at_ r.thread).map strip ∧ ∀ k, k ≠ r.thread → mget u'.at_ k = mget u.at_ k
            rw [e1, e2, e3, e4, e5, e6]
            split at e
            · cases e
            · rename_i g1
              rw [if_neg g1]
              split at e
              · rename_i g2
                rw [if_pos g2]
                split at e
                · rename_i g3
                  rw [if_pos g3]
                  cases e
                  exact ⟨_, rfl, put _ _, oth _⟩
                · cases e
              · rename_i g2
                rw [if_neg g2]
                split at e
                · rename_i g3
                  rw [if_pos g3]
                  split at e
                  · rename_i g4
                    rw [if_pos g4]
                    cases e
                    exact ⟨_, rfl, put _ _, oth _⟩
                  · cases e
                · cases e

/-- What a record that is read leaves its thread at. -/
theorem step_sets {s s' : RD} {r : Rec} {i : Nat} (hop : ¬ r.op < 0) (e : s.step r i = some s') :
    (0 ≤ r.thread ∧ r.thread < 64) ∧ (r.what = 1 ∨ r.what = 2 ∨ r.what = 3) ∧ ∃ o', mget s'.at_ r.thread = some o' ∧ strip o' = Opn.of r 0 ∧ (r.what = 1 → o'.call = s.cs.length ∧ s.may r) ∧ (r.what = 2 → r.err = 0 ∧ ∀ c, s'.cs[o'.call.toNat]? = some c → c.at_ = i) := by
  unfold RD.step at e
  split at e
  · cases e
  · rename_i h1
    refine ⟨by omega, ?_⟩
    split at e
    · rename_i h3
      unfold RD.invoke at e
      split at e
      · rename_i h4
        cases e
        refine ⟨.inl h3, _, by show mget (mput s.at_ r.thread _) r.thread = _; rw [mget_put, if_pos rfl], rfl, fun _ => ⟨rfl, h4.1⟩, fun h => by omega⟩
      · cases e
    · rename_i h3
      unfold RD.follow at e
      split at e
      · cases e
      · rename_i o ho
        split at e
        · cases e
        · split at e
          · rename_i g2
            split at e
            · rename_i g3
              cases e
              refine ⟨.inr (.inl g2), _, by show mget (mput s.at_ r.thread _) r.thread = _; rw [mget_put, if_pos rfl], rfl, fun h => absurd h h3, fun _ => ⟨g3.2, fun c hc => ?_⟩⟩
              have hc' : (s.cs.set o.call.toNat { s.cs.getD o.call.toNat c0 with at_ := (i : Int) })[o.call.toNat]? = some c := hc
              rcases get_set hc' with ⟨_, rfl⟩ | ⟨h, _⟩
              · rfl
              · exact absurd rfl h
            · cases e
          · split at e
            · rename_i g3
              split at e
              · cases e
                exact ⟨.inr (.inr g3), _, by show mget (mput s.at_ r.thread _) r.thread = _; rw [mget_put, if_pos rfl], rfl, fun h => absurd h h3, fun h => by omega⟩
              · cases e
            · cases e

/-- Where the record lies that came last of a thread. -/
structure LRec (l : List Rec) (n : Nat) (s : RD) : Prop where
  rcd : ∀ t o, mget s.at_ t = some o → ∃ p, p < n ∧ strip o = Opn.of (l.getD p r0) 0 ∧ (l.getD p r0).thread = t ∧ (o.what = 2 → (l.getD p r0).err = 0 ∧ ∀ c, s.cs[o.call.toNat]? = some c → c.at_ = p)
theorem other_cs {s s' : RD} {r : Rec} {i : Nat} (e : s.step r i = some s') : ∀ (k : Nat), (∀ o, mget s.at_ r.thread = some o → k ≠ o.call.toNat) → k < s.cs.length → s'.cs[k]? = s.cs[k]? := by
  intro k hk hl
  unfold RD.step at e
  split at e
  · cases e
  · split at e
    · split at e
      · cases e; rfl
      · cases e
    · split at e
      · unfold RD.invoke at e
        split at e
        · cases e; exact List.getElem?_append_left hl
        · cases e
      · unfold RD.follow at e
        split at e
        · cases e
        · rename_i o ho
          have hne := hk o ho
          have hset : ∀ x, (s.cs.set o.call.toNat x)[k]? = s.cs[k]? := fun x => List.getElem?_set_ne (fun h => hne h.symm)
          split at e
          · cases e
          · split at e
            · split at e
              · cases e; exact hset _
              · cases e
            · split at e
              · split at e
                · cases e; exact hset _
                · cases e
              · cases e
theorem evict_same {s s' : RD} {r : Rec} {i : Nat} (hop : r.op < 0) (e : s.step r i = some s') : s' = s ∧ ∀ (u : RD) (j : Nat), u.step r j = some u := by
  unfold RD.step at e
  split at e
  · cases e
  · rename_i h1
    split at e
    · rename_i h2
      cases e
      refine ⟨rfl, fun u j => ?_⟩
      unfold RD.step
      rw [if_neg h1, if_pos hop, if_pos h2]
    · cases e
theorem LRec.step {l : List Rec} {n : Nat} {s s' : RD} (L : LRec l n s) (I : RInv l n s) (e : s.step (l.getD n r0) n = some s') : LRec l (n + 1) s' := by
  refine ⟨fun t o h => ?_⟩
  by_cases hop : (l.getD n r0).op < 0
  · obtain ⟨rfl, _⟩ := evict_same hop e
    obtain ⟨p, h1, h2⟩ := L.rcd t o h
    exact ⟨p, by omega, h2⟩
  · obtain ⟨_, _, o', g1, g2, g3, g4⟩ := step_sets hop e
    by_cases ht : t = (l.getD n r0).thread
    · subst ht
      rw [g1] at h; cases h
      refine ⟨n, by omega, g2, rfl, fun h2 => ?_⟩
      have : (strip o).what = (l.getD n r0).what := by rw [g2]; rfl
      exact g4 (by have h3 : (strip o).what = 2 := h2; omega)
    · rw [other_step (fun h => ht h.symm) e] at h
      obtain ⟨p, h1, h2, h3, h4⟩ := L.rcd t o h
      obtain ⟨k1, k2, k3, k4, c1, k5, k6, _⟩ := I.last _ _ h
      refine ⟨p, by omega, h2, h3, fun hw => ⟨(h4 hw).1, fun c hc => ?_⟩⟩
      rw [other_cs e _ (fun o2 ho2 hh => ?_) k3] at hc
      · exact (h4 hw).2 c hc
      · obtain ⟨q1, q2, q3, q4, c2, q5, q6, _⟩ := I.last _ _ ho2
        rw [← hh, k5] at q5
        cases q5
        exact ht (k6.symm.trans q6)
theorem readTo_lrec {l : List Rec} (hb : ∀ i, (l.getD i r0).op < 9223372036854775808) : ∀ {n : Nat} {s : RD}, readTo l n = some s → LRec l n s
  | 0, s, h => by cases h; exact ⟨fun t o h => by cases h⟩
  | n + 1, s', h => by
    obtain ⟨s, h1, h2⟩ := Option.bind_eq_some_iff.1 h
    exact (readTo_lrec hb h1).step (readTo_inv hb h1) h2

def Dropped (cs : List Cal) (n : Nat) (t : Int) : Prop := ∃ (j : Nat) (c : Cal), cs[j]? = some c ∧ c.thread = t ∧ c.frm < n ∧ c.at_ = -1 ∧ c.to_ = -1
def idle : Option Opn → Prop
  | none => True
  | some o => o.what = 3
def Kept1 (cs : List Cal) (n : Nat) (sn u : RD) (t : Int) : Prop :=
  (¬ Dropped cs n t ∧ (mget u.at_ t).map strip = (mget sn.at_ t).map strip) ∨ (Dropped cs n t ∧ idle (mget u.at_ t) ∧ cntO (mget u.at_ t) ≤ cntO (mget sn.at_ t))

theorem idle_strip {a b : Option Opn} (h : a.map strip = b.map strip) (hb : idle b) : idle a := by
  cases a with
  | none => trivial
  | some o => cases b with
    | none => cases h
    | some o' =>
      have e := Option.some.inj h
      have e1 : o.what = o'.what := (by have q := congrArg Opn.what e; exact q)
      show o.what = 3
      rw [e1]; exact hb

theorem hDrop_iff (cs : List Cal) (n : Nat) : hDrop cs n = true ↔ ∃ (j : Nat) (c : Cal), cs[j]? = some c ∧ c.frm = n ∧ c.at_ = -1 ∧ c.to_ = -1 := by
  unfold hDrop
  rw [List.any_eq_true]
  constructor
  · rintro ⟨c, hc, h⟩
    obtain ⟨j, hj⟩ := List.getElem?_of_mem hc
    have h := of_decide_eq_true h
    exact ⟨j, c, hj, h.2.2, h.2.1, h.1⟩
  · rintro ⟨j, c, h1, h2, h3, h4⟩
    exact ⟨c, List.mem_of_getElem? h1, decide_eq_true ⟨h4, h3, h2⟩⟩
theorem hLate_iff (cs : List Cal) (n : Nat) : hLate cs n = true ↔ ∃ (j : Nat) (c : Cal), cs[j]? = some c ∧ c.at_ = n ∧ c.to_ = -1 := by
  unfold hLate
  rw [List.any_eq_true]
  constructor
  · rintro ⟨c, hc, h⟩
    obtain ⟨j, hj⟩ := List.getElem?_of_mem hc
    have h := of_decide_eq_true h
    exact ⟨j, c, hj, h.2.2, h.1⟩
  · rintro ⟨j, c, h1, h2, h3⟩
    exact ⟨c, List.mem_of_getElem? h1, decide_eq_true ⟨h3, by omega, h2⟩⟩

theorem frm_order {l : List Rec} {n : Nat} {s : RD} (I : RInv l n s) {j k : Nat} {c d : Cal} (h1 : s.cs[j]? = some c) (h2 : s.cs[k]? = some d) (h : c.frm < d.frm) : j < k := by
  rcases Nat.lt_trichotomy j k with h3 | h3 | h3
  · exact h3
  · subst h3; rw [h1] at h2; cases h2; omega
  · have := I.up k j d c h3 h2 h1; omega

theorem op_next {o r : Int} (h : r = IntKind.wrap .i64 (o + 1)) (h0 : 0 ≤ o) (h1 : o < 9223372036854775808) (h2 : 0 ≤ r) : r = o + 1 := by
  simp only [IntKind.wrap, IntKind.bits, IntKind.signed] at h
  simp at h
  omega

/-- What is kept is read as before, but for the calls that are dropped. -/
theorem out_sim {l : List Rec} (hb : ∀ i, (l.getD i r0).op < 9223372036854775808) {s : RD} (hs : readTo l l.length = some s) :
    ∀ {n : Nat} {sn : RD}, n ≤ l.length → readTo l n = some sn → ∃ u, readTo (hOut l s.cs n) (hOut l s.cs n).length = some u ∧ ∀ t, Kept1 s.cs n sn u t
  | 0, sn, _, h => by
    cases h
    refine ⟨⟨[], []⟩, rfl, fun t => .inl ⟨?_, rfl⟩⟩
    rintro ⟨j, c, h1, h2, h3, _⟩
    have := ((readTo_inv hb hs).frm j c h1).1
    omega
  | n + 1, s', hn, h => by
    obtain ⟨sn, h1, e⟩ := Option.bind_eq_some_iff.1 h
    obtain ⟨u, hu, K⟩ := out_sim hb hs (by omega) h1
    have I := readTo_inv hb h1
    have I' := readTo_inv hb h
    have If := readTo_inv hb hs
    have C := cut_all hb h1 (by omega) hs
    have C' := cut_all hb h hn hs
    have hbn := hb n
    have hr : ∀ {j : Nat} {c : Cal}, s.cs[j]? = some c → c.frm = n → (l.getD n r0).what = 1 ∧ (l.getD n r0).thread = c.thread ∧ (l.getD n r0).op = c.op ∧ 0 ≤ c.op := by
      intro j c hj hc
      obtain ⟨_, _, a, b, d, f⟩ := If.frm j c hj
      rw [hc, Int.toNat_natCast] at a b d
      exact ⟨a, b, d, f⟩
    have dn : ∀ t, Dropped s.cs (n + 1) t ↔ Dropped s.cs n t ∨ (hDrop s.cs n = true ∧ (l.getD n r0).thread = t) := by
      intro t
      constructor
      · rintro ⟨j, c, g1, g2, g3, g4, g5⟩
        by_cases hc : c.frm = n
        · exact .inr ⟨(hDrop_iff _ _).2 ⟨j, c, g1, hc, g4, g5⟩, (hr g1 hc).2.1.trans g2⟩
        · exact .inl ⟨j, c, g1, g2, by omega, g4, g5⟩
      · rintro (⟨j, c, g1, g2, g3, g4, g5⟩ | ⟨g, ht⟩)
        · exact ⟨j, c, g1, g2, by omega, g4, g5⟩
        · obtain ⟨j, c, g1, g2, g4, g5⟩ := (hDrop_iff _ _).1 g
          exact ⟨j, c, g1, (hr g1 g2).2.1.symm.trans ht, by omega, g4, g5⟩
    generalize hrr : l.getD n r0 = r at e hr dn hbn
    have keepOther : ∀ {u' : RD} (t : Int), t ≠ r.thread → mget u'.at_ t = mget u.at_ t → Kept1 s.cs (n + 1) s' u' t := by
      intro u' t ht hu'
      have hd : Dropped s.cs (n + 1) t ↔ Dropped s.cs n t := by
        rw [dn]
        exact ⟨fun h => h.resolve_right (fun h => ht h.2.symm), .inl⟩
      unfold Kept1
      rw [hd, other_step (fun h => ht h.symm) e, hu']
      exact K t
    cases hD : hDrop s.cs n with
    | true =>
      refine ⟨u, by rw [hOut_succ, if_pos hD, List.append_nil]; exact hu, fun t => ?_⟩
      by_cases ht : t = r.thread
      · subst ht
        obtain ⟨j, c, g1, g2, g4, g5⟩ := (hDrop_iff _ _).1 hD
        obtain ⟨w1, w2, w3, w4⟩ := hr g1 g2
        have hop : ¬ r.op < 0 := by omega
        obtain ⟨_, _, o', q1, q2, q3, _⟩ := step_sets hop e
        have hm := (q3 w1).2
        have hnd : ¬ Dropped s.cs n r.thread := by
          rintro ⟨j2, c2, f1, f2, f3, f4, f5⟩
          have hlt := frm_order If f1 g1 (by omega)
          have := (If.two j2 j c2 c hlt f1 g1 (by rw [f2, w2])).1
          exact this f5
        have hk := (K r.thread).resolve_right (fun h => hnd h.1)
        refine .inr ⟨(dn _).2 (.inr ⟨hD, rfl⟩), ?_, ?_⟩
        · refine idle_strip hk.2 ?_
          unfold RD.may at hm
          cases hg : mget sn.at_ r.thread with
          | none => trivial
          | some o => rw [hg] at hm; exact hm.1
        · rw [(cnt_strip hk.2).1, q1]
          have e2 : (strip o').op = r.op := by rw [q2]; rfl
          have e3 : cntO (some o') = r.op.toNat + 1 := by show (strip o').op.toNat + 1 = _; rw [e2]
          rw [e3]
          unfold RD.may at hm
          cases hg : mget sn.at_ r.thread with
          | none => exact Nat.zero_le _
          | some o =>
            rw [hg] at hm
            obtain ⟨k1, k2, k3, k4, c', k5, k6, k7, _⟩ := I.last _ _ hg
            obtain ⟨f1, f2, f3, f4, f5, f6⟩ := I.frm _ _ k5
            have := op_next hm.2 (by rw [← k7]; exact f6) (by rw [← k7, ← f5]; exact hb _) (by omega)
            show o.op.toNat + 1 ≤ _
            omega
      · exact keepOther t ht rfl
    | false =>
      have hout : hOut l s.cs (n + 1) = hOut l s.cs n ++ [r] := by rw [hOut_succ, if_neg (by rw [hD]; decide), hrr]
      have hread : ∀ u', u.step r (hOut l s.cs n).length = some u' → readTo (hOut l s.cs (n + 1)) (hOut l s.cs (n + 1)).length = some u' := by
        intro u' h
        rw [hout, List.length_append]
        show (readTo (hOut l s.cs n ++ [r]) (hOut l s.cs n).length).bind _ = some u'
        rw [readTo_append (Nat.le_refl _), hu]
        show u.step ((hOut l s.cs n ++ [r]).getD (hOut l s.cs n).length r0) _ = some u'
        have : (hOut l s.cs n ++ [r]).getD (hOut l s.cs n).length r0 = r := by
          rw [List.getD_eq_getElem?_getD, List.getElem?_append_right (Nat.le_refl _), Nat.sub_self]; rfl
        rw [this]; exact h
      have dn' : ∀ t, Dropped s.cs (n + 1) t ↔ Dropped s.cs n t := fun t => by
        rw [dn]
        exact ⟨fun h => h.resolve_right (fun h => by rw [hD] at h; cases h.1), .inl⟩
      by_cases hop : r.op < 0
      · obtain ⟨rfl, hu'⟩ := evict_same hop e
        refine ⟨u, hread u (hu' u _), fun t => ?_⟩
        unfold Kept1
        rw [dn']
        exact K t
      · obtain ⟨_, q0, o', q1, q2, q3, _⟩ := step_sets hop e
        have hnd : ¬ Dropped s.cs n r.thread := by
          rintro ⟨j2, c2, f1, f2, f3, f4, f5⟩
          have hin : j2 < sn.cs.length := by
            rcases Nat.lt_or_ge j2 sn.cs.length with h | h
            · exact h
            · have := (C.el j2 c2 f1).2 h; omega
          have hin' : j2 < s'.cs.length := by
            rcases Nat.lt_or_ge j2 s'.cs.length with h | h
            · exact h
            · have := (C'.el j2 c2 f1).2 h; omega
          have hc2 := ((C'.el j2 c2 f1).1 hin').2
          have z1 : (cut c2 (n + 1)).at_ = -1 := by show (if c2.at_ ≥ ((n + 1 : Nat) : Int) then -1 else c2.at_) = -1; rw [f4]; split <;> rfl
          have z2 : (cut c2 (n + 1)).to_ = -1 := by show (if c2.to_ ≥ ((n + 1 : Nat) : Int) then -1 else c2.to_) = -1; rw [f5]; split <;> rfl
          have z3 : (cut c2 (n + 1)).thread = r.thread := f2
          obtain ⟨o2, p1, p2, p3⟩ := I'.own j2 _ hc2
          rw [z3, q1] at p1; cases p1
          obtain ⟨k1, k2, k3, k4, c', k5, k6, k7, k8, k9, k10⟩ := I'.last _ _ q1
          rcases Nat.lt_or_ge j2 o'.call.toNat with hlt | hge
          · exact (I'.two j2 _ _ c' hlt hc2 k5 (by rw [z3, k6])).1 z2
          · have ej : j2 = o'.call.toNat := by omega
            rw [ej, k5] at hc2
            cases hc2
            have hw : o'.what = 1 := k8.2 ⟨z1, z2⟩
            have hw2 : r.what = 1 := by
              have : (strip o').what = r.what := by rw [q2]; rfl
              rw [← this]; exact hw
            have := (q3 hw2).1
            omega
        have hk := (K r.thread).resolve_right (fun h => hnd h.1)
        obtain ⟨u', v1, v2, v3⟩ := sim_step (j := (hOut l s.cs n).length) hk.2 e
        refine ⟨u', hread u' v1, fun t => ?_⟩
        by_cases ht : t = r.thread
        · subst ht
          exact .inl ⟨fun h => hnd ((dn' _).1 h), v2⟩
        · exact keepOther t ht (v3 t ht)

def LateTo (cs : List Cal) (n : Nat) (t : Int) : Prop := ∃ (j : Nat) (c : Cal), cs[j]? = some c ∧ c.thread = t ∧ c.at_ < n ∧ c.at_ ≠ -1 ∧ c.to_ = -1
def Kept2 (cs : List Cal) (n : Nat) (v u : RD) (t : Int) : Prop :=
  (¬ LateTo cs n t ∧ mget u.at_ t = mget v.at_ t) ∨ (LateTo cs n t ∧ (∃ o, mget u.at_ t = some o ∧ o.what = 3) ∧ cntO (mget u.at_ t) = cntO (mget v.at_ t))

theorem readTo_left {a b : List Rec} : ∀ {n : Nat}, n ≤ a.length → readTo (a ++ b) n = readTo a n
  | 0, _ => rfl
  | n + 1, h => by
    show (readTo (a ++ b) n).bind _ = (readTo a n).bind _
    rw [readTo_left (by omega)]
    have e : (a ++ b).getD n r0 = a.getD n r0 := by
      rw [List.getD_eq_getElem?_getD, List.getD_eq_getElem?_getD, List.getElem?_append_left (by omega)]
    rw [e]

/-- A late call's own record is what its thread is at. -/
theorem late_at {l : List Rec} (hb : ∀ i, (l.getD i r0).op < 9223372036854775808) {s : RD} (hs : readTo l l.length = some s) {j n : Nat} {c : Cal} (hj : s.cs[j]? = some c) (h1 : c.at_ = n) (h2 : c.to_ = -1) :
    (l.getD n r0).thread = c.thread ∧ 0 ≤ (l.getD n r0).op ∧ (l.getD n r0).err = 0 ∧ (0 ≤ c.thread ∧ c.thread < 64) ∧ ∃ o, mget s.at_ c.thread = some o ∧ strip o = Opn.of (l.getD n r0) 0 ∧ o.what = 2 ∧ o.call.toNat = j := by
  have I := readTo_inv hb hs
  obtain ⟨o, p1, p2, p3⟩ := I.own j c hj
  obtain ⟨k1, k2, k3, k4, c', k5, k6, k7, k8, k9, k10⟩ := I.last _ _ p1
  have ej : j = o.call.toNat := by
    rcases Nat.lt_or_ge j o.call.toNat with hlt | hge
    · exact absurd h2 (I.two j _ c c' hlt hj k5 (by rw [k6])).1
    · omega
  rw [← ej, hj] at k5
  cases k5
  have hw : o.what = 2 := k9.2 ⟨by omega, h2⟩
  obtain ⟨p, q1, q2, q3, q4⟩ := (readTo_lrec hb hs).rcd _ _ p1
  obtain ⟨q5, q6⟩ := q4 hw
  have hp := q6 c (by rw [← ej]; exact hj)
  have : p = n := by omega
  subst this
  obtain ⟨f1, f2, f3, f4, f5, f6⟩ := I.frm j c hj
  have hop : (l.getD p r0).op = c.op := by
    have : (strip o).op = (l.getD p r0).op := by rw [q2]; rfl
    rw [← this]; exact k7.symm
  have hthr : 0 ≤ c.thread ∧ c.thread < 64 := by
    -- the thread of a record that was read
    obtain ⟨t1, ht1⟩ := readTo_some hs (show p + 1 ≤ l.length by omega)
    obtain ⟨t0, ht0, e⟩ := Option.bind_eq_some_iff.1 ht1
    obtain ⟨b, _⟩ := step_sets (r := l.getD p r0) (by omega) e
    rw [← q3]; exact b
  exact ⟨q3, by omega, q5, hthr, o, p1, q2, hw, ej.symm⟩

theorem more_sim {l : List Rec} (hb : ∀ i, (l.getD i r0).op < 9223372036854775808) {s : RD} (hs : readTo l l.length = some s) {v : RD} (hv : readTo (hOut l s.cs l.length) (hOut l s.cs l.length).length = some v) (K : ∀ t, Kept1 s.cs l.length s v t) :
    ∀ {n : Nat}, n ≤ l.length → ∃ u, readTo (hOut l s.cs l.length ++ hMore l s.cs n) ((hOut l s.cs l.length).length + (hMore l s.cs n).length) = some u ∧ ∀ t, Kept2 s.cs n v u t
  | 0, _ => by
    refine ⟨v, ?_, fun t => .inl ⟨?_, rfl⟩⟩
    · show readTo (hOut l s.cs l.length ++ []) _ = some v
      rw [List.append_nil]; exact hv
    · rintro ⟨j, c, h1, h2, h3, h4, h5⟩
      have I := readTo_inv hb hs
      rcases I.at_ j c h1 with e | ⟨e, _⟩
      · exact h4 e
      · have := (I.frm j c h1).1; omega
  | n + 1, hn => by
    obtain ⟨u, hu, Kn⟩ := more_sim hb hs hv K (n := n) (by omega)
    have I := readTo_inv hb hs
    cases hL : hLate s.cs n with
    | false =>
      refine ⟨u, by rw [hMore_succ, if_neg (by rw [hL]; decide), List.append_nil]; exact hu, fun t => ?_⟩
      have : LateTo s.cs (n + 1) t ↔ LateTo s.cs n t := by
        constructor
        · rintro ⟨j, c, h1, h2, h3, h4, h5⟩
          refine ⟨j, c, h1, h2, ?_, h4, h5⟩
          by_cases e : c.at_ = n
          · have := (hLate_iff s.cs n).2 ⟨j, c, h1, e, h5⟩
            rw [hL] at this; cases this
          · omega
        · rintro ⟨j, c, h1, h2, h3, h4, h5⟩
          exact ⟨j, c, h1, h2, by omega, h4, h5⟩
      unfold Kept2
      rw [this]
      exact Kn t
    | true =>
      obtain ⟨j, c, h1, h2, h3⟩ := (hLate_iff _ _).1 hL
      obtain ⟨a1, a2, a3, a4, o, b1, b2, b3, b4⟩ := late_at hb hs h1 h2 h3
      -- one late call of a thread at most
      have uniq : ∀ (j2 : Nat) (c2 : Cal), s.cs[j2]? = some c2 → c2.thread = c.thread → c2.to_ = -1 → j2 = j := by
        intro j2 c2 g1 g2 g3
        rcases Nat.lt_trichotomy j2 j with h | h | h
        · exact absurd g3 (I.two j2 j c2 c h g1 h1 g2).1
        · exact h
        · exact absurd h3 (I.two j j2 c c2 h h1 g1 g2.symm).1
      have hnl : ¬ LateTo s.cs n c.thread := by
        rintro ⟨j2, c2, g1, g2, g3, g4, g5⟩
        have := uniq j2 c2 g1 g2 g5
        subst this
        rw [h1] at g1; cases g1
        omega
      have hnd : ¬ Dropped s.cs l.length c.thread := by
        rintro ⟨j2, c2, g1, g2, g3, g4, g5⟩
        have := uniq j2 c2 g1 g2 g5
        subst this
        rw [h1] at g1; cases g1
        omega
      have hk1 := (K c.thread).resolve_right (fun h => hnd h.1)
      have hk2 := (Kn c.thread).resolve_right (fun h => hnl h.1)
      have hst : (mget u.at_ c.thread).map strip = some (Opn.of (l.getD n r0) 0) := by
        rw [hk2.2, hk1.2, b1]; exact congrArg some b2
      generalize hrr : l.getD n r0 = r at a1 a2 a3 b2 hst
      cases hm : mget u.at_ c.thread with
      | none => rw [hm] at hst; cases hst
      | some o' =>
        rw [hm] at hst
        have es := Option.some.inj hst
        have e1 : o'.what = r.what := (by have q := congrArg Opn.what es; exact q)
        have e2 : o'.op = r.op := (by have q := congrArg Opn.op es; exact q)
        have e3 : o'.act = r.act := (by have q := congrArg Opn.act es; exact q)
        have e4 : o'.key = r.key := (by have q := congrArg Opn.key es; exact q)
        have e5 : o'.value = r.value := (by have q := congrArg Opn.value es; exact q)
        have e6 : o'.hit = r.hit := (by have q := congrArg Opn.hit es; exact q)
        have e7 : r.what = 2 := by
          have : (strip o).what = r.what := by rw [b2]; rfl
          rw [← this]; exact b3
        have hstep : ∀ i, ({ r with what := 3 } : Rec).thread = r.thread → u.step { r with what := 3 } i = some (u.upd { r with what := 3 } o' fun c => { c with to_ := i }) := by
          intro i _
          unfold RD.step
          rw [if_neg (by show ¬ (r.thread < 0 ∨ r.thread ≥ 64); omega), if_neg (by show ¬ r.op < 0; omega), if_neg (by show ¬ (3 : Int) = 1; decide)]
          unfold RD.follow
          show (match mget u.at_ r.thread with | none => none | some o => _) = _
          rw [a1, hm]
          show (if o'.what = 3 ∨ r.op ≠ o'.op ∨ r.act ≠ o'.act ∨ r.key ≠ o'.key then none else if (3 : Int) = 2 then _ else if (3 : Int) = 3 then (if o'.what = 1 ∨ (r.value = o'.value ∧ r.hit = o'.hit ∧ r.err = 0) then some _ else none) else none) = _
          rw [if_neg (by rw [e1, e2, e3, e4, e7]; simp), if_neg (by decide), if_pos rfl, if_pos (.inr ⟨e5.symm, e6.symm, a3⟩)]
        refine ⟨u.upd { r with what := 3 } o' fun c => { c with to_ := ((hOut l s.cs l.length).length + (hMore l s.cs n).length : Nat) }, ?_, fun t => ?_⟩
        · rw [hMore_succ, if_pos hL, hrr, ← List.append_assoc, List.length_append, ← Nat.add_assoc]
          show (readTo _ ((hOut l s.cs l.length).length + (hMore l s.cs n).length)).bind _ = _
          rw [readTo_left (by rw [List.length_append]; exact Nat.le_refl _), hu]
          show u.step ((hOut l s.cs l.length ++ hMore l s.cs n ++ [{ r with what := 3 }]).getD ((hOut l s.cs l.length).length + (hMore l s.cs n).length) r0) _ = _
          have : (hOut l s.cs l.length ++ hMore l s.cs n ++ [{ r with what := 3 }]).getD ((hOut l s.cs l.length).length + (hMore l s.cs n).length) r0 = { r with what := 3 } := by
            rw [List.getD_eq_getElem?_getD, List.getElem?_append_right (by rw [List.length_append]; exact Nat.le_refl _), List.length_append, Nat.sub_self]; rfl
          rw [this]; exact hstep _ rfl
        · have hget : mget (u.upd { r with what := 3 } o' fun c => { c with to_ := ((hOut l s.cs l.length).length + (hMore l s.cs n).length : Nat) }).at_ t = if t = r.thread then some (Opn.of { r with what := 3 } o'.call) else mget u.at_ t := mget_put ..
          by_cases ht : t = r.thread
          · refine .inr ⟨⟨j, c, h1, by rw [ht, a1], by omega, by omega, h3⟩, ⟨_, by rw [hget, if_pos ht], rfl⟩, ?_⟩
            rw [hget, if_pos ht, ht, a1, ← hk2.2, hm]
            show r.op.toNat + 1 = o'.op.toNat + 1
            rw [e2]
          · have : LateTo s.cs (n + 1) t ↔ LateTo s.cs n t := by
              constructor
              · rintro ⟨j2, c2, g1, g2, g3, g4, g5⟩
                refine ⟨j2, c2, g1, g2, ?_, g4, g5⟩
                by_cases e : c2.at_ = n
                · obtain ⟨f1, _⟩ := late_at hb hs g1 e g5
                  rw [hrr] at f1
                  exact absurd (g2.symm.trans f1.symm) ht
                · omega
              · rintro ⟨j2, c2, g1, g2, g3, g4, g5⟩
                exact ⟨j2, c2, g1, g2, by omega, g4, g5⟩
            unfold Kept2
            rw [this, hget, if_neg ht]
            exact Kn t

structure Completed (l c : List Rec) : Prop where
  right : hRight c = true
  left : hLeft c = 0
  coms : hCommits c = hCommits l
  again : hComplete c = c
  calls : (hCallsOf c).length ≤ (hCallsOf l).length
  small : c.length ≤ 2 * l.length

theorem mem_getD {l : List Rec} {i : Nat} : l.getD i r0 ∈ l ∨ l.getD i r0 = r0 := by
  rcases Nat.lt_or_ge i l.length with h | h
  · rw [getD_el r0 h]; exact .inl (List.getElem_mem h)
  · rw [List.getD_eq_getElem?_getD, List.getElem?_eq_none h]; exact .inr rfl

theorem completed {l : List Rec} (hl : ∀ r ∈ l, r.op < 9223372036854775808) (hr : hRight l = true) : Completed l (hComplete l) := by
  have hb := get_bound hl
  cases hs : readTo l l.length with
  | none => have := right_none hs; rw [this.1] at hr; cases hr
  | some s =>
    obtain ⟨a1, a2⟩ := right_some hs
    have hc : hComplete l = hOut l s.cs l.length ++ hMore l s.cs l.length := by rw [hComplete_eq hr, a2]
    obtain ⟨v, hv, K⟩ := out_sim hb hs (Nat.le_refl _) hs
    obtain ⟨u, hu, K2⟩ := more_sim hb hs hv K (Nat.le_refl _)
    rw [← List.length_append, ← hc] at hu
    obtain ⟨b1, b2⟩ := right_some hu
    have I := readTo_inv hb hs
    have hbc : ∀ r ∈ hComplete l, r.op < 9223372036854775808 := by
      intro r hr'
      rw [hc] at hr'
      rcases List.mem_append.1 hr' with h | h
      · unfold hOut at h
        obtain ⟨i, _, rfl⟩ := List.mem_map.1 h
        exact hb i
      · unfold hMore at h
        obtain ⟨i, _, rfl⟩ := List.mem_map.1 h
        exact hb i
    have TU := readTo_sum (get_bound hbc) hu
    have TS := readTo_sum hb hs
    have fin : ∀ t, idle (mget u.at_ t) ∧ cntO (mget u.at_ t) ≤ cntO (mget s.at_ t) := by
      intro t
      rcases K2 t with ⟨h1, h2⟩ | ⟨h1, ⟨o, h2, h3⟩, h4⟩
      · rw [h2]
        rcases K t with ⟨g1, g2⟩ | ⟨g1, g2, g3⟩
        · refine ⟨idle_strip g2 ?_, Nat.le_of_eq (cnt_strip g2).1⟩
          cases hg : mget s.at_ t with
          | none => trivial
          | some o =>
            obtain ⟨k1, k2, k3, k4, c', k5, k6, k7, k8, k9, k10⟩ := I.last _ _ hg
            obtain ⟨f1, f2, _⟩ := I.frm _ _ k5
            rcases k4 with w | w | w
            · obtain ⟨w1, w2⟩ := k8.1 w
              exact absurd ⟨_, c', k5, k6, f2, w1, w2⟩ g1
            · obtain ⟨w1, w2⟩ := k9.1 w
              rcases I.at_ _ _ k5 with e | ⟨_, e, _⟩
              · exact absurd e w1
              · exact absurd ⟨_, c', k5, k6, e, w1, w2⟩ h1
            · exact w
        · exact ⟨g2, g3⟩
      · refine ⟨by rw [h2]; exact h3, ?_⟩
        rw [h4]
        rcases K t with ⟨g1, g2⟩ | ⟨g1, g2, g3⟩
        · exact Nat.le_of_eq (cnt_strip g2).1
        · exact g3
    have hleft : hLeftOf u.cs = 0 := by
      rw [TU.lf]
      have : sumT (fun t => lfO (mget u.at_ (t : Int))) 64 = sumT (fun _ => 0) 64 := sumT_congr fun t _ => by
        have := (fin (t : Int)).1
        cases hg : mget u.at_ (t : Int) with
        | none => rfl
        | some o => rw [hg] at this; show (if o.what = 3 then 0 else 1) = 0; rw [if_pos (show o.what = 3 from this)]
      rw [this]; rfl
    have hto : ∀ c ∈ u.cs, c.to_ ≠ -1 := by
      intro c hc' h
      unfold hLeftOf at hleft
      have : c ∈ u.cs.filter fun c => decide (c.to_ = -1) := List.mem_filter.2 ⟨hc', decide_eq_true h⟩
      rw [List.eq_nil_of_length_eq_zero hleft] at this
      cases this
    have hdrop : ∀ i, hDrop u.cs i = false := by
      intro i
      unfold hDrop
      rw [List.any_eq_false]
      intro c hc'
      simp [hto c hc']
    have hlate : ∀ i, hLate u.cs i = false := by
      intro i
      unfold hLate
      rw [List.any_eq_false]
      intro c hc'
      simp [hto c hc']
    refine ⟨b1, by unfold hLeft; rw [b2]; exact hleft, ?_, ?_, ?_, ?_⟩
    · unfold hCommits
      rw [if_pos b1, if_pos hr]
      congr 1
      rw [hc, List.filter_append]
      have m0 : (hMore l s.cs l.length).filter (fun r => decide (r.what = 2)) = [] := by
        rw [List.filter_eq_nil_iff]
        intro r hr'
        unfold hMore at hr'
        obtain ⟨i, _, rfl⟩ := List.mem_map.1 hr'
        simp
      rw [m0, List.append_nil]
      have key : ∀ n, n ≤ l.length → (hOut l s.cs n).filter (fun r => decide (r.what = 2)) = (l.take n).filter (fun r => decide (r.what = 2)) := by
        intro n
        induction n with
        | zero => intro _; rfl
        | succ n ih =>
          intro hn
          rw [hOut_succ, List.filter_append, ih (by omega), List.take_succ_eq_append_getElem (show n < l.length by omega), List.filter_append, ← getD_el r0 (show n < l.length by omega)]
          congr 1
          cases hD : hDrop s.cs n with
          | false => rfl
          | true =>
            obtain ⟨j, c, g1, g2, g3, g4⟩ := (hDrop_iff _ _).1 hD
            obtain ⟨_, _, w, _⟩ := I.frm j c g1
            rw [g2, Int.toNat_natCast] at w
            simp only [if_true, List.filter_cons, w]
            rfl
      rw [key _ (Nat.le_refl _), List.take_length]
    · rw [hComplete_eq b1, b2]
      have o1 : hOut (hComplete l) u.cs (hComplete l).length = hComplete l := by
        unfold hOut
        rw [List.filter_eq_self.2 (fun i _ => by rw [hdrop i]; rfl)]
        apply List.ext_getElem?
        intro i
        rcases Nat.lt_or_ge i (hComplete l).length with h | h
        · rw [List.getElem?_map, List.getElem?_range h, List.getElem?_eq_getElem h]
          show some ((hComplete l).getD i r0) = _
          rw [getD_el r0 h]
        · rw [List.getElem?_eq_none h, List.getElem?_eq_none (by rw [List.length_map, List.length_range]; exact h)]
      have o2 : hMore (hComplete l) u.cs (hComplete l).length = [] := by
        unfold hMore
        rw [List.filter_eq_nil_iff.2 (fun i _ => by rw [hlate i]; decide)]
        rfl
      rw [o1, o2, List.append_nil]
    · rw [b2, a2, TU.cnt, TS.cnt]
      have mono : ∀ n, sumT (fun t => cntO (mget u.at_ (t : Int))) n ≤ sumT (fun t => cntO (mget s.at_ (t : Int))) n := by
        intro n
        induction n with
        | zero => exact Nat.le_refl _
        | succ n ih => rw [sumT_succ, sumT_succ]; have := (fin (n : Int)).2; omega
      exact mono 64
    · have := hOut_le l s.cs l.length
      have := hMore_le l s.cs l.length
      rw [hc, List.length_append]; omega

end Sx
end Go.Proofs.Ytemcdjdglcceiaa

/-
  The document's answer for rows of records, as plain data: the same as what is read.
-/
namespace Go.Proofs.Ytemcdjdglcceiaa
namespace Sx
open Go
set_option linter.unusedSimpArgs false
set_option linter.unusedVariables false

/-- The last record of a thread, but evictions. -/
def lastTo (l : List Rec) : Nat → Int → Option Rec
  | 0, _ => none
  | n + 1, t => if (l.getD n r0).thread = t ∧ 0 ≤ (l.getD n r0).op then some (l.getD n r0) else lastTo l n t
def nextOk (last : Option Rec) (r : Rec) : Prop :=
  if r.what = 1 then (match last with | none => r.op = 0 ∧ r.err = 0 | some o => o.what = 3 ∧ r.op = IntKind.wrap .i64 (o.op + 1) ∧ r.err = 0)
  else match last with
    | none => False
    | some o => ¬ (o.what = 3 ∨ r.op ≠ o.op ∨ r.act ≠ o.act ∨ r.key ≠ o.key) ∧ ((r.what = 2 ∧ o.what = 1 ∧ r.err = 0) ∨ (r.what = 3 ∧ (o.what = 1 ∨ (r.value = o.value ∧ r.hit = o.hit ∧ r.err = 0))))
def okAt (l : List Rec) (i : Nat) : Prop :=
  (0 ≤ (l.getD i r0).thread ∧ (l.getD i r0).thread ≤ 63) ∧
    (if (l.getD i r0).op < 0 then (l.getD i r0).op = -1 ∧ (l.getD i r0).what = 2 ∧ (l.getD i r0).act = 4 ∧ (l.getD i r0).err = 0 else nextOk (lastTo l i (l.getD i r0).thread) (l.getD i r0))

def LastIs (l : List Rec) (n : Nat) (s : RD) : Prop := ∀ t, (mget s.at_ t).map strip = (lastTo l n t).map fun r => Opn.of r 0

theorem last_step {l : List Rec} {n : Nat} {s s' : RD} (L : LastIs l n s) (e : s.step (l.getD n r0) n = some s') : LastIs l (n + 1) s' := by
  intro t
  show _ = (if (l.getD n r0).thread = t ∧ 0 ≤ (l.getD n r0).op then some (l.getD n r0) else lastTo l n t).map fun r => Opn.of r 0
  by_cases hop : (l.getD n r0).op < 0
  · obtain ⟨rfl, _⟩ := evict_same hop e
    rw [if_neg (fun h => by omega)]
    exact L t
  · obtain ⟨_, _, o', g1, g2, _⟩ := step_sets hop e
    by_cases ht : (l.getD n r0).thread = t
    · rw [if_pos ⟨ht, by omega⟩, ← ht, g1]
      exact congrArg some g2
    · rw [if_neg (fun h => ht h.1), other_step ht e]
      exact L t

theorem step_ok {l : List Rec} {n : Nat} {s : RD} (L : LastIs l n s) : (s.step (l.getD n r0) n).isSome = true ↔ okAt l n := by
  have Lt := L (l.getD n r0).thread
  unfold okAt RD.step
  generalize l.getD n r0 = r at Lt
  by_cases h1 : r.thread < 0 ∨ r.thread ≥ 64
  · rw [if_pos h1]
    exact ⟨(fun h => by cases h), fun h => by omega⟩
  rw [if_neg h1]
  have ht : 0 ≤ r.thread ∧ r.thread ≤ 63 := by omega
  by_cases h2 : r.op < 0
  · rw [if_pos h2, if_pos h2]
    by_cases h3 : r.op = -1 ∧ r.what = 2 ∧ r.act = 4 ∧ r.err = 0
    · rw [if_pos h3]; exact ⟨fun _ => ⟨ht, h3⟩, fun _ => rfl⟩
    · rw [if_neg h3]; exact ⟨(fun h => by cases h), fun h => absurd h.2 h3⟩
  rw [if_neg h2, if_neg h2]
  unfold nextOk
  by_cases h3 : r.what = 1
  · rw [if_pos h3, if_pos h3]
    unfold RD.invoke
    cases hg : mget s.at_ r.thread with
    | none =>
      rw [hg] at Lt
      have hm : s.may r ↔ r.op = 0 := by unfold RD.may; rw [hg]
      cases hl : lastTo l n r.thread with
      | some x => rw [hl] at Lt; cases Lt
      | none =>
        show _ ↔ (0 ≤ r.thread ∧ r.thread ≤ 63) ∧ (r.op = 0 ∧ r.err = 0)
        by_cases h4 : s.may r ∧ r.err = 0
        · rw [if_pos h4]; exact ⟨fun _ => ⟨ht, hm.1 h4.1, h4.2⟩, fun _ => rfl⟩
        · rw [if_neg h4]; exact ⟨(fun h => by cases h), fun h => absurd ⟨hm.2 h.2.1, h.2.2⟩ h4⟩
    | some o =>
      rw [hg] at Lt
      have hm : s.may r ↔ (o.what = 3 ∧ r.op = IntKind.wrap .i64 (o.op + 1)) := by unfold RD.may; rw [hg]
      cases hl : lastTo l n r.thread with
      | none => rw [hl] at Lt; cases Lt
      | some x =>
        rw [hl] at Lt
        have es := Option.some.inj Lt
        have e1 : o.what = x.what := (by have q := congrArg Opn.what es; exact q)
        have e2 : o.op = x.op := (by have q := congrArg Opn.op es; exact q)
        show _ ↔ (0 ≤ r.thread ∧ r.thread ≤ 63) ∧ (x.what = 3 ∧ r.op = IntKind.wrap .i64 (x.op + 1) ∧ r.err = 0)
        rw [← e1, ← e2]
        by_cases h4 : s.may r ∧ r.err = 0
        · rw [if_pos h4]
          exact ⟨fun _ => ⟨ht, (hm.1 h4.1).1, (hm.1 h4.1).2, h4.2⟩, fun _ => rfl⟩
        · rw [if_neg h4]
          exact ⟨(fun h => by cases h), fun h => absurd ⟨hm.2 ⟨h.2.1, h.2.2.1⟩, h.2.2.2⟩ h4⟩
  · rw [if_neg h3, if_neg h3]
    unfold RD.follow
    cases hg : mget s.at_ r.thread with
    | none =>
      rw [hg] at Lt
      cases hl : lastTo l n r.thread with
      | some x => rw [hl] at Lt; cases Lt
      | none => exact ⟨(fun h => by cases h), fun h => h.2.elim⟩
    | some o =>
      rw [hg] at Lt
      cases hl : lastTo l n r.thread with
      | none => rw [hl] at Lt; cases Lt
      | some x =>
        rw [hl] at Lt
        have es := Option.some.inj Lt
        have e1 : o.what = x.what := (by have q := congrArg Opn.what es; exact q)
        have e2 : o.op = x.op := (by have q := congrArg Opn.op es; exact q)
        have e3 : o.act = x.act := (by have q := congrArg Opn.act es; exact q)
        have e4 : o.key = x.key := (by have q := congrArg Opn.key es; exact q)
        have e5 : o.value = x.value := (by have q := congrArg Opn.value es; exact q)
        have e6 : o.hit = x.hit := (by have q := congrArg Opn.hit es; exact q)
        show _ ↔ (0 ≤ r.thread ∧ r.thread ≤ 63) ∧ (¬ (x.what = 3 ∨ r.op ≠ x.op ∨ r.act ≠ x.act ∨ r.key ≠ x.key) ∧ ((r.what = 2 ∧ x.what = 1 ∧ r.err = 0) ∨ (r.what = 3 ∧ (x.what = 1 ∨ (r.value = x.value ∧ r.hit = x.hit ∧ r.err = 0)))))
        rw [← e1, ← e2, ← e3, ← e4, ← e5, ← e6]
        show (if o.what = 3 ∨ r.op ≠ o.op ∨ r.act ≠ o.act ∨ r.key ≠ o.key then none
              else if r.what = 2 then (if o.what = 1 ∧ r.err = 0 then some (s.upd r o fun c => { c with at_ := n }) else none)
              else if r.what = 3 then (if o.what = 1 ∨ (r.value = o.value ∧ r.hit = o.hit ∧ r.err = 0) then some (s.upd r o fun c => { c with to_ := n }) else none)
              else none).isSome = true ↔ _
        by_cases h4 : o.what = 3 ∨ r.op ≠ o.op ∨ r.act ≠ o.act ∨ r.key ≠ o.key
        · rw [if_pos h4]
          exact ⟨(fun h => by cases h), fun h => absurd h4 h.2.1⟩
        rw [if_neg h4]
        by_cases h5 : r.what = 2
        · rw [if_pos h5]
          by_cases h6 : o.what = 1 ∧ r.err = 0
          · rw [if_pos h6]; exact ⟨fun _ => ⟨ht, h4, .inl ⟨h5, h6⟩⟩, fun _ => rfl⟩
          · rw [if_neg h6]
            refine ⟨(fun h => by cases h), fun h => ?_⟩
            rcases h.2.2 with ⟨_, h7⟩ | ⟨h7, _⟩
            · exact absurd h7 h6
            · omega
        · rw [if_neg h5]
          by_cases h6 : r.what = 3
          · rw [if_pos h6]
            by_cases h7 : o.what = 1 ∨ (r.value = o.value ∧ r.hit = o.hit ∧ r.err = 0)
            · rw [if_pos h7]; exact ⟨fun _ => ⟨ht, h4, .inr ⟨h6, h7⟩⟩, fun _ => rfl⟩
            · rw [if_neg h7]
              refine ⟨(fun h => by cases h), fun h => ?_⟩
              rcases h.2.2 with ⟨h8, _⟩ | ⟨_, h8⟩
              · exact absurd h8 h5
              · exact absurd h8 h7
          · rw [if_neg h6]
            refine ⟨(fun h => by cases h), fun h => ?_⟩
            rcases h.2.2 with ⟨h8, _⟩ | ⟨h8, _⟩
            · exact absurd h8 h5
            · exact absurd h8 h6

theorem readTo_last {l : List Rec} : ∀ {n : Nat} {s : RD}, readTo l n = some s → LastIs l n s
  | 0, s, h => by cases h; exact fun t => rfl
  | n + 1, s', h => by
    obtain ⟨s, h1, h2⟩ := Option.bind_eq_some_iff.1 h
    exact last_step (readTo_last h1) h2
theorem readTo_ok {l : List Rec} : ∀ (n : Nat), (readTo l n).isSome = true ↔ ∀ i, i < n → okAt l i
  | 0 => ⟨fun _ i h => by omega, fun _ => rfl⟩
  | n + 1 => by
    have ih := readTo_ok (l := l) n
    show ((readTo l n).bind _).isSome = true ↔ _
    cases e : readTo l n with
    | none =>
      rw [e] at ih
      refine ⟨(fun h => by cases h), fun h => ?_⟩
      have := ih.2 (fun i hi => h i (by omega))
      cases this
    | some s =>
      rw [e] at ih
      have h1 := step_ok (readTo_last e)
      show (s.step (l.getD n r0) n).isSome = true ↔ _
      rw [h1]
      refine ⟨fun h i hi => ?_, fun h => h n (by omega)⟩
      rcases Nat.lt_or_ge i n with h2 | h2
      · exact ih.1 rfl i h2
      · have : i = n := by omega
        subst this; exact h
theorem right_ok {l : List Rec} : hRight l = true ↔ ∀ i, i < l.length → okAt l i := by
  rw [← readTo_ok]
  unfold hRight hCalls
  cases readTo l l.length <;> rfl

/-- What a record does to the calls of a row, in the document's way. -/
def refUpd (r : Rec) (n : Nat) (c : Cal) : Cal := if c.thread = r.thread ∧ c.op = r.op then (if r.what = 2 then { c with at_ := n } else { c with to_ := n }) else c
def refCallsTo (l : List Rec) : Nat → List Cal
  | 0 => []
  | n + 1 => if (l.getD n r0).op < 0 then refCallsTo l n
    else if (l.getD n r0).what = 1 then refCallsTo l n ++ [⟨(l.getD n r0).thread, (l.getD n r0).op, n, -1, -1⟩]
    else (refCallsTo l n).map (refUpd (l.getD n r0) n)
theorem upd_map {l : List Rec} {n : Nat} {s : RD} (I : RInv l n s) {r : Rec} {o : Opn} (ho : mget s.at_ r.thread = some o) (hop : r.op = o.op) (f : Cal → Cal) (hf : ∀ c, c.thread = r.thread → c.op = r.op → f c = refUpd r n c) :
    (s.upd r o f).cs = s.cs.map (refUpd r n) := by
  obtain ⟨k1, k2, k3, k4, c1, k5, k6, k7, _⟩ := I.last _ _ ho
  have hd : s.cs.getD o.call.toNat c0 = c1 := by rw [List.getD_eq_getElem?_getD, k5]; rfl
  show s.cs.set o.call.toNat (f (s.cs.getD o.call.toNat c0)) = _
  rw [hd, hf c1 k6 (by omega)]
  apply List.ext_getElem?
  intro j
  rw [List.getElem?_map, List.getElem?_set]
  by_cases hj : o.call.toNat = j
  · subst hj
    rw [if_pos rfl, if_pos k3, k5]; rfl
  · rw [if_neg hj]
    cases hc : s.cs[j]? with
    | none => rfl
    | some c =>
      show some c = some (refUpd r n c)
      congr 1
      unfold refUpd
      rw [if_neg]
      rintro ⟨g1, g2⟩
      obtain ⟨o2, p1, p2, p3⟩ := I.own j c hc
      rw [g1, ho] at p1
      cases p1
      have := (I.two j _ c c1 (by omega) hc k5 (by rw [g1, k6])).2.2
      omega
theorem readTo_ref {l : List Rec} (hb : ∀ i, (l.getD i r0).op < 9223372036854775808) : ∀ {n : Nat} {s : RD}, readTo l n = some s → s.cs = refCallsTo l n
  | 0, s, h => by cases h; rfl
  | n + 1, s', h => by
    obtain ⟨s, h1, e⟩ := Option.bind_eq_some_iff.1 h
    have ih := readTo_ref hb h1
    have I := readTo_inv hb h1
    show s'.cs = if (l.getD n r0).op < 0 then refCallsTo l n else if (l.getD n r0).what = 1 then _ else _
    rw [← ih]
    generalize l.getD n r0 = r at e
    by_cases hop : r.op < 0
    · obtain ⟨rfl, _⟩ := evict_same hop e
      rw [if_pos hop]
    · rw [if_neg hop]
      unfold RD.step at e
      split at e
      · cases e
      · split at e
        · rename_i h3
          rw [if_pos h3]
          unfold RD.invoke at e
          split at e
          · cases e; rfl
          · cases e
        · rename_i h3
          rw [if_neg h3]
          unfold RD.follow at e
          split at e
          · cases e
          · rename_i o ho
            split at e
            · cases e
            · rename_i hno
              have hoo : r.op = o.op := Classical.byContradiction fun h => hno (.inr (.inl h))
              split at e
              · rename_i h5
                split at e
                · cases e
                  exact upd_map I ho hoo _ (fun c g1 g2 => by unfold refUpd; rw [if_pos ⟨g1, g2⟩, if_pos h5])
                · cases e
              · rename_i h5
                split at e
                · split at e
                  · cases e
                    exact upd_map I ho hoo _ (fun c g1 g2 => by unfold refUpd; rw [if_pos ⟨g1, g2⟩, if_neg h5])
                  · cases e
                · cases e
theorem calls_ref {l : List Rec} (hl : ∀ r ∈ l, r.op < 9223372036854775808) (hr : hRight l = true) : hCallsOf l = refCallsTo l l.length := by
  cases hs : readTo l l.length with
  | none => have := right_none hs; rw [this.1] at hr; cases hr
  | some s => rw [(right_some hs).2]; exact readTo_ref (get_bound hl) hs

end Sx
end Go.Proofs.Ytemcdjdglcceiaa

