/-
  What Complete does.
-/
import Derived.Test.YtemcdjdglcceiaaHMore
namespace Go.Proofs.Ytemcdjdglcceiaa
namespace Sx
open Go
set_option linter.unusedSimpArgs false
set_option linter.unusedVariables false

theorem dropTo_succ {cs : List Cal} {i : Nat} (h : i < cs.length) (k : Int) : dropTo cs (i + 1) k = (dropTo cs i k || decide ((cs.getD i c0).to_ = -1 ∧ (cs.getD i c0).at_ = -1 ∧ (cs.getD i c0).frm = k)) := by
  unfold dropTo
  rw [List.take_succ_eq_append_getElem h, List.any_append, getD_el c0 h]
  simp
theorem lateTo_succ {cs : List Cal} {i : Nat} (h : i < cs.length) (k : Int) : lateTo cs (i + 1) k = (lateTo cs i k || decide ((cs.getD i c0).to_ = -1 ∧ (cs.getD i c0).at_ ≠ -1 ∧ (cs.getD i c0).at_ = k)) := by
  unfold lateTo
  rw [List.take_succ_eq_append_getElem h, List.any_append, getD_el c0 h]
  simp
theorem marks_keep {m : List (Int × Bool)} {f g : Int → Bool} (h : marks m f) (e : ∀ k, g k = f k) : marks m g := fun k => by rw [h k, e k]
theorem marks_put {m : List (Int × Bool)} {f g : Int → Bool} {n : Int} (h : marks m f) (e : ∀ k, g k = (f k || decide (n = k))) : marks (mput m n true) g := fun k => by
  rw [mget_put, h k, e k]
  by_cases hk : k = n
  · subst hk; simp
  · rw [if_neg hk]
    have : ¬ n = k := fun hh => hk hh.symm
    simp [this]

theorem body12 (p : PC) (x : Nat × List (Int × Bool) × List (Int × Bool)) (hi : x.1 ≤ p.cs.length) (h1 : marks x.2.1 (dropTo p.cs x.1)) (h2 : marks x.2.2 (lateTo p.cs x.1)) (Q : EX → St V → Prop) (F : AV → Heap V → Nat → Prop)
    (hnx : ∀ (ST : St V) (md ml : List (Int × Bool)), x.1 < p.cs.length → marks md (dropTo p.cs (x.1 + 1)) → marks ml (lateTo p.cs (x.1 + 1)) → Wk 4 [] ST (I12 p (x.1 + 1, md, ml)) → Q .nx ST) (hex : ∀ ST : St V, x.1 = p.cs.length → Wk 4 [] ST (I12 p x) → Q (.ex 0) ST) :
    (runCode cfgF 40 12 (loopOf Try.f12 0) (I12 p x) (stopT (trimSt [0, 5, 6, 22, 23, 24] [0, 1, 2, 3]))).holds ⟨Q, F⟩ := by
  rw [b12]
  have hb := p.hb
  have hw : x.1 < p.cs.length → IntKind.wrap .i64 ((x.1 : Int) + 1) = ((x.1 + 1 : Nat) : Int) := fun h => wrap_nat (by omega)
  simp only [Out.holds, Nat.zero_add, decide_eq_true_eq, decide_eq_false_iff_not, beq_iff_eq, beq_eq_false_iff_ne, bne_iff_ne, bne_eq_false_iff_eq]
  have hD : x.1 < p.cs.length → ∀ k, dropTo p.cs (x.1 + 1) k = (dropTo p.cs x.1 k || decide ((p.cs.getD x.1 (V.enc Kd.cal).dflt).to_ = -1 ∧ (p.cs.getD x.1 (V.enc Kd.cal).dflt).at_ = -1 ∧ (p.cs.getD x.1 (V.enc Kd.cal).dflt).frm = k)) := fun h k => dropTo_succ h k
  have hL : x.1 < p.cs.length → ∀ k, lateTo p.cs (x.1 + 1) k = (lateTo p.cs x.1 k || decide ((p.cs.getD x.1 (V.enc Kd.cal).dflt).to_ = -1 ∧ (p.cs.getD x.1 (V.enc Kd.cal).dflt).at_ ≠ -1 ∧ (p.cs.getD x.1 (V.enc Kd.cal).dflt).at_ = k)) := fun h k => lateTo_succ h k
  generalize p.cs.getD x.1 (V.enc Kd.cal).dflt = c at hD hL
  refine ⟨fun h => ⟨by omega, by omega, fun h3 => hnx _ x.2.1 x.2.2 (by omega) (marks_keep h1 fun k => ?_) (marks_keep h2 fun k => ?_) ?_, fun h3 => ⟨fun h4 => hnx _ (mput x.2.1 c.frm true) x.2.2 (by omega) (marks_put h1 fun k => ?_) (marks_keep h2 fun k => ?_) ?_, fun h4 => hnx _ x.2.1 (mput x.2.2 c.at_ true) (by omega) (marks_keep h1 fun k => ?_) (marks_put h2 fun k => ?_) ?_⟩⟩, fun h => hex _ (by omega) ?_⟩
  · rw [hD (by omega)]; simp [h3]
  · rw [hL (by omega)]; simp [h3]
  · exact ⟨⟨AV.sub_same _, AV.sub_same _, AV.sub_same _, AV.sub_same _, AV.sub_same _, AV.sub_int (hw (by omega)), trivial⟩, ⟨.same _, .same _, .same _, .same _, trivial⟩, rfl, tl_ok rfl, ⟨.inl (in_ok rfl), .inl (in_ok rfl), .inr rfl, .inr rfl, trivial⟩, ⟨Nat.le_of_ble_eq_true rfl, rfl⟩⟩
  · rw [hD (by omega)]; simp [h3, h4]
  · rw [hL (by omega)]; simp [h3, h4]
  · exact ⟨⟨AV.sub_same _, AV.sub_same _, AV.sub_same _, AV.sub_same _, AV.sub_same _, AV.sub_int (hw (by omega)), trivial⟩, ⟨.same _, .same _, .same _, .same _, trivial⟩, rfl, tl_ok rfl, ⟨.inl (in_ok rfl), .inl (in_ok rfl), .inr rfl, .inr rfl, trivial⟩, ⟨Nat.le_of_ble_eq_true rfl, rfl⟩⟩
  · rw [hD (by omega)]; simp [h3, h4]
  · rw [hL (by omega)]; simp [h3, h4]
  · exact ⟨⟨AV.sub_same _, AV.sub_same _, AV.sub_same _, AV.sub_same _, AV.sub_same _, AV.sub_int (hw (by omega)), trivial⟩, ⟨.same _, .same _, .same _, .same _, trivial⟩, rfl, tl_ok rfl, ⟨.inl (in_ok rfl), .inl (in_ok rfl), .inr rfl, .inr rfl, trivial⟩, ⟨Nat.le_of_ble_eq_true rfl, rfl⟩⟩
  · exact ⟨⟨AV.sub_same _, AV.sub_same _, AV.sub_same _, AV.sub_same _, AV.sub_same _, AV.sub_same _, trivial⟩, ⟨.same _, .same _, .same _, .same _, trivial⟩, rfl, tl_ok rfl, ⟨.inl (in_ok rfl), .inl (in_ok rfl), .inr rfl, .inr rfl, trivial⟩, ⟨Nat.le_of_ble_eq_true rfl, rfl⟩⟩
theorem l12_ok : LoopOk Try.prog 0 (loopOf Try.f12 0) L12 := by
  refine trimLoop_ok (trim_ok _ _) (loopTH_ok (C := cfgF) cfgF_ok (f := 12) (n := 40) (trim_ok [0, 5, 6, 22, 23, 24] [0, 1, 2, 3]) 4 I12 (fun p x => x.1 ≤ p.cs.length ∧ marks x.2.1 (dropTo p.cs x.1) ∧ marks x.2.2 (lateTo p.cs x.1)) (fun _ => (0, [], [])) (fun p x => p.cs.length - x.1)
    (fun p (q : List (Int × Bool) × List (Int × Bool)) => marks q.1 (dropTo p.cs p.cs.length) ∧ marks q.2 (lateTo p.cs p.cs.length)) (fun p q => I12 p (p.cs.length, q)) (fun p => ⟨Nat.zero_le _, fun k => rfl, fun k => rfl⟩) ?_)
  intro p x ⟨hi, h1, h2⟩
  refine body12 p x hi h1 h2 _ _ (fun ST md ml hlt k1 k2 hw => SImp.of_wk (x.1 + 1, md, ml) hw ⟨⟨hlt, k1, k2⟩, ?_⟩) (fun ST he hw => ⟨rfl, SImp.of_wk (ren := []) x.2 ?_ ?_⟩)
  · show p.cs.length - (x.1 + 1) < p.cs.length - x.1; omega
  · obtain ⟨i, x⟩ := x; simp only at he; subst he; exact hw
  · rw [← he]; exact ⟨h1, h2⟩

theorem hOut_succ (l : List Rec) (cs : List Cal) (i : Nat) : hOut l cs (i + 1) = hOut l cs i ++ if hDrop cs i = true then [] else [l.getD i r0] := by
  unfold hOut
  rw [List.range_succ, List.filter_append, List.map_append]
  congr 1
  cases h : hDrop cs i <;> simp [h]
theorem hMore_succ (l : List Rec) (cs : List Cal) (i : Nat) : hMore l cs (i + 1) = hMore l cs i ++ if hLate cs i = true then [{ l.getD i r0 with what := 3 }] else [] := by
  unfold hMore
  rw [List.range_succ, List.filter_append, List.map_append]
  congr 1
  cases h : hLate cs i <;> simp [h]
theorem hOut_le (l : List Rec) (cs : List Cal) (i : Nat) : (hOut l cs i).length ≤ i := by
  unfold hOut
  rw [List.length_map]
  exact Nat.le_trans (List.length_filter_le _ _) (by simp)
theorem hMore_le (l : List Rec) (cs : List Cal) (i : Nat) : (hMore l cs i).length ≤ i := by
  unfold hMore
  rw [List.length_map]
  exact Nat.le_trans (List.length_filter_le _ _) (by simp)

theorem bodyc12 (p : PD) (x : Nat × Nat × Nat) (hi : x.1 ≤ p.l.length) (Q : EX → St V → Prop) (F : AV → Heap V → Nat → Prop)
    (hnx : ∀ (ST : St V) (a b c d : Nat), x.1 < p.l.length → Wk 4 [(4, c), (5, d)] ST (J12 p (x.1 + 1, a, b)) → Q .nx ST) (hex : ∀ ST : St V, x.1 = p.l.length → Wk 4 [(4, 4), (5, 5)] ST (J12 p x) → Q (.ex 3) ST) :
    (runCode cfgF 40 12 (loopOf Try.f12 3) (J12 p x) (stopT (trimSt [5, 6, 9, 10, 43, 44, 45] [0, 2, 3, 4, 5, 9, 10, 11, 12]))).holds ⟨Q, F⟩ := by
  rw [c12]
  have hb := p.hb
  have ho := hOut_le p.l p.cs x.1
  have hm := hMore_le p.l p.cs x.1
  have hw : x.1 < p.l.length → IntKind.wrap .i64 ((x.1 : Int) + 1) = ((x.1 + 1 : Nat) : Int) := fun h => wrap_nat (by omega)
  have eD : (mget p.md (x.1 : Int)).getD (V.enc Kd.bool).dflt = hDrop p.cs x.1 := by
    rw [p.hd]; unfold dropTo hDrop; rw [List.take_length]
    generalize p.cs.any _ = b
    cases b <;> rfl
  have eL : (mget p.ml (x.1 : Int)).getD (V.enc Kd.bool).dflt = hLate p.cs x.1 := by
    rw [p.hm]; unfold lateTo hLate; rw [List.take_length]
    generalize p.cs.any _ = b
    cases b <;> rfl
  rw [eD, eL]
  have sO := hOut_succ p.l p.cs x.1
  have sM := hMore_succ p.l p.cs x.1
  change hOut p.l p.cs (x.1 + 1) = _ ++ if _ then [] else [p.l.getD x.1 (V.enc Kd.rcd).dflt] at sO
  change hMore p.l p.cs (x.1 + 1) = _ ++ if _ then [{ p.l.getD x.1 (V.enc Kd.rcd).dflt with what := 3 }] else [] at sM
  simp only [Out.holds, Nat.zero_add, decide_eq_true_eq, decide_eq_false_iff_not, Bool.not_eq_true', Bool.not_eq_false']
  have oY : hDrop p.cs x.1 = true → hOut p.l p.cs (x.1 + 1) = hOut p.l p.cs x.1 := fun h => by rw [sO, if_pos h, List.append_nil]
  have oN : hDrop p.cs x.1 = false → hOut p.l p.cs (x.1 + 1) = hOut p.l p.cs x.1 ++ [p.l.getD x.1 (V.enc Kd.rcd).dflt] := fun h => by rw [sO, if_neg (by rw [h]; decide)]
  have mY : hLate p.cs x.1 = true → hMore p.l p.cs (x.1 + 1) = hMore p.l p.cs x.1 ++ [{ p.l.getD x.1 (V.enc Kd.rcd).dflt with what := 3 }] := fun h => by rw [sM, if_pos h]
  have mN : hLate p.cs x.1 = false → hMore p.l p.cs (x.1 + 1) = hMore p.l p.cs x.1 := fun h => by rw [sM, if_neg (by rw [h]; decide), List.append_nil]
  have len1 : ∀ {a b : List Rec} {r : Rec}, b = a ++ [r] → a.length + 1 = b.length := fun h => by rw [h]; simp
  have blk : ∀ {a b : List Rec} {y : Nat}, a = b → BSub (some (.arr 30 Kd.rcd a y : Blk V)) (.arr 30 Kd.rcd b y) := fun h => by rw [h]; exact .same _
  refine ⟨fun h => ⟨by omega, by omega, fun d => ⟨⟨trivial, trivial, trivial, by omega⟩, fun y => ⟨fun t => ⟨⟨trivial, trivial, trivial, by omega⟩, fun z => hnx _ y z 9 12 (by omega) ?_⟩, fun t => hnx _ y x.2.2 9 5 (by omega) ?_⟩⟩, fun d => ⟨fun t => ⟨⟨trivial, trivial, trivial, by omega⟩, fun z => hnx _ x.2.1 z 4 10 (by omega) ?_⟩, fun t => hnx _ x.2.1 x.2.2 4 5 (by omega) ?_⟩⟩, fun h => hex _ (by omega) ?_⟩
  · have e1 := oN d
    have e2 := mY t
    exact ⟨⟨AV.sub_same _, AV.sub_same _, AV.sub_sl (len1 e1) (by rw [len1 e1]), AV.sub_sl (len1 e2) (by rw [len1 e2]), AV.sub_same _, AV.sub_same _, AV.sub_int (hw (by omega)), trivial⟩, ⟨blk e1.symm, blk e2.symm, .same _, .same _, .same _, trivial⟩, rfl, tl_ok rfl, ⟨.inl (in_ok rfl), .inl (in_ok rfl), .inl (in_ok rfl), .inr rfl, .inr rfl, .inr rfl, trivial⟩, ⟨Nat.le_of_ble_eq_true rfl, rfl⟩⟩
  · have e1 := oN d
    have e2 := mN t
    exact ⟨⟨AV.sub_same _, AV.sub_same _, AV.sub_sl (len1 e1) (by rw [len1 e1]), AV.sub_sl (by rw [e2]) (by rw [e2]), AV.sub_same _, AV.sub_same _, AV.sub_int (hw (by omega)), trivial⟩, ⟨blk e1.symm, blk e2.symm, .same _, .same _, .same _, trivial⟩, rfl, tl_ok rfl, ⟨.inl (in_ok rfl), .inl (in_ok rfl), .inr rfl, .inr rfl, .inr rfl, trivial⟩, ⟨Nat.le_of_ble_eq_true rfl, rfl⟩⟩
  · have e1 := oY d
    have e2 := mY t
    exact ⟨⟨AV.sub_same _, AV.sub_same _, AV.sub_sl (by rw [e1]) (by rw [e1]), AV.sub_sl (len1 e2) (by rw [len1 e2]), AV.sub_same _, AV.sub_same _, AV.sub_int (hw (by omega)), trivial⟩, ⟨blk e1.symm, blk e2.symm, .same _, .same _, .same _, trivial⟩, rfl, tl_ok rfl, ⟨.inl (in_ok rfl), .inl (in_ok rfl), .inl (in_ok rfl), .inr rfl, .inr rfl, .inr rfl, trivial⟩, ⟨Nat.le_of_ble_eq_true rfl, rfl⟩⟩
  · have e1 := oY d
    have e2 := mN t
    exact ⟨⟨AV.sub_same _, AV.sub_same _, AV.sub_sl (by rw [e1]) (by rw [e1]), AV.sub_sl (by rw [e2]) (by rw [e2]), AV.sub_same _, AV.sub_same _, AV.sub_int (hw (by omega)), trivial⟩, ⟨blk e1.symm, blk e2.symm, .same _, .same _, .same _, trivial⟩, rfl, tl_ok rfl, ⟨.inl (in_ok rfl), .inl (in_ok rfl), .inr rfl, .inr rfl, .inr rfl, trivial⟩, ⟨Nat.le_of_ble_eq_true rfl, rfl⟩⟩
  · exact ⟨⟨AV.sub_same _, AV.sub_same _, AV.sub_same _, AV.sub_same _, AV.sub_same _, AV.sub_same _, AV.sub_same _, trivial⟩, ⟨.same _, .same _, .same _, .same _, .same _, trivial⟩, rfl, tl_ok rfl, ⟨.inl (in_ok rfl), .inl (in_ok rfl), .inr rfl, .inr rfl, .inr rfl, trivial⟩, ⟨Nat.le_of_ble_eq_true rfl, rfl⟩⟩
theorem m12_ok : LoopOk Try.prog 3 (loopOf Try.f12 3) M12 := by
  refine trimLoop_ok (trim_ok _ _) (loopTH_ok (C := cfgF) cfgF_ok (f := 12) (n := 40) (trim_ok [5, 6, 9, 10, 43, 44, 45] [0, 2, 3, 4, 5, 9, 10, 11, 12]) 4 J12 (fun p x => x.1 ≤ p.l.length) (fun _ => (0, 0, 0)) (fun p x => p.l.length - x.1)
    (fun _ (_ : Nat × Nat) => True) (fun p q => J12 p (p.l.length, q)) (fun p => Nat.zero_le _) ?_)
  intro p x hi
  refine bodyc12 p x hi _ _ (fun ST a b c d hlt hw => SImp.of_wk (x.1 + 1, a, b) hw ⟨hlt, ?_⟩) (fun ST he hw => ⟨rfl, SImp.of_wk (ren := [(4, 4), (5, 5)]) x.2 ?_ trivial⟩)
  · show p.l.length - (x.1 + 1) < p.l.length - x.1; omega
  · obtain ⟨i, x⟩ := x; simp only at he; subst he; exact hw

def runComplete : RunFree V := fun ar K => match ar with
  | [.rows .rcd l c] => .need (l.length ≤ 1099511627776) (.all Nat fun sp => K (.sl false 0 0 8 (hComplete l).length ((hComplete l).length + sp)) [.arr 30 Kd.rcd (hComplete l) sp])
  | _ => .bad 500
theorem hComplete_eq {l : List Rec} (h : hRight l = true) : hComplete l = hOut l (hCallsOf l) l.length ++ hMore l (hCallsOf l) l.length := by
  unfold hRight at h
  unfold hComplete hCallsOf
  cases e : hCalls l with
  | none => rw [e] at h; cases h
  | some cs => rfl
theorem hComplete_not {l : List Rec} (h : hRight l = false) : hComplete l = [] := by
  unfold hRight at h
  unfold hComplete
  cases e : hCalls l with
  | none => rfl
  | some cs => rw [e] at h; cases h
theorem hCompleteHook : HookOk Try.prog 12 (hookFree [.rows Kd.rcd] runComplete) := by
  refine free_hook (C := cfgG) cfgG_ok (n := 40) (fn := Try.f12) ⟨by kernel_rfl, by kernel_rfl⟩ (by kernel_rfl) ?_
  intro M ar K0 H
  unfold runComplete at H
  split at H
  · rename_i l c
    obtain ⟨hb, H⟩ := H
    refine ⟨show 1 ≤ _ by decide +kernel, ?_⟩
    show (runF cfgG 40 12 Try.f12 [.sl false 0 0 8 l.length c] [(0, .ro Kd.rcd l)] 1).holds _
    rw [t12]
    simp only [List.drop_zero, List.take_length]
    have hcl := calls_len l
    have ho := hOut_le l (hCallsOf l) l.length
    have hm := hMore_le l (hCallsOf l) l.length
    refine ⟨by omega, hb, fun h => fun sp => ⟨l12_ok, fun p => p = ⟨l, c, hCallsOf l, sp, by omega⟩, ⟨Nat.le_refl _, SImp.of_wk (ren := []) ⟨l, c, hCallsOf l, sp, by omega⟩ ?_ rfl⟩, ?_⟩, fun h => ?_⟩
    · exact ⟨⟨AV.sub_same _, AV.sub_same _, AV.sub_same _, AV.sub_same _, AV.sub_same _, AV.sub_lit', trivial⟩, ⟨.same _, .same _, .same _, .same _, trivial⟩, rfl, tl_ok rfl, ⟨.inr rfl, .inr rfl, .inr rfl, .inr rfl, trivial⟩, ⟨Nat.le_of_ble_eq_true rfl, rfl⟩⟩
    · rintro _ rfl q ⟨h1, h2⟩
      refine ⟨m12_ok, fun p => p = ⟨l, c, hCallsOf l, sp, q.1, q.2, hb, h1, h2⟩, ⟨Nat.le_refl _, SImp.of_wk (ren := [(4, 98), (5, 99)]) ⟨l, c, hCallsOf l, sp, q.1, q.2, hb, h1, h2⟩ ?_ rfl⟩, ?_⟩
      · exact ⟨⟨AV.sub_same _, AV.sub_same _, AV.sub_nilS, AV.sub_nilS, AV.sub_same _, AV.sub_same _, AV.sub_lit', trivial⟩, ⟨.none _ _, .none _ _, .same _, .same _, .same _, trivial⟩, rfl, tl_ok rfl, ⟨.inr rfl, .inr rfl, .inr rfl, trivial⟩, ⟨Nat.le_of_ble_eq_true rfl, rfl⟩⟩
      · rintro _ rfl y _
        refine ⟨by omega, ⟨trivial, trivial, trivial, ?_⟩, fun z => ?_⟩
        · show ((hOut l (hCallsOf l) l.length).length + (hMore l (hCallsOf l) l.length).length) * 64 ≤ _
          omega
        · have h0 := H z
          have e := hComplete_eq h
          have el : (hComplete l).length = (hOut l (hCallsOf l) l.length).length + (hMore l (hCallsOf l) l.length).length := by rw [e, List.length_append]
          rw [el, e] at h0
          exact ⟨_, _, h0, _, HImp.refl _ _, ⟨⟨fun _ => 6, ⟨.same _, trivial⟩, AV.sub_same _⟩, rfl, rfl⟩⟩
    · have h0 := H 0
      rw [hComplete_not h] at h0
      exact ⟨_, _, h0, _, HImp.refl _ _, ⟨⟨fun _ => 99, ⟨.none _ _, trivial⟩, AV.sub_nilS⟩, rfl, rfl⟩⟩
  · exact H.elim

end Sx
end Go.Proofs.Ytemcdjdglcceiaa
