/-
  The law of threads.
-/
import Derived.Test.YtemcdjdglcceiaaHTrees9
namespace Go.Proofs.Ytemcdjdglcceiaa
namespace Sx
open Go
set_option linter.unusedSimpArgs false
set_option linter.unusedVariables false

theorem sumT_mono (f : Nat → Nat) {n m : Nat} (h : n ≤ m) : sumT f n ≤ sumT f m := by
  obtain ⟨d, rfl⟩ := Nat.exists_eq_add_of_le h
  clear h
  induction d with
  | zero => exact Nat.le_refl _
  | succ d ih => rw [← Nat.add_assoc, sumT_succ]; omega
theorem own_succ {l : List Rec} {i : Nat} (t : Int) (h : i < l.length) : ownOf (l.take (i + 1)) t = ownOf (l.take i) t ++ if (l.getD i r0).thread = t then [l.getD i r0] else [] := by
  unfold ownOf
  rw [List.take_succ_eq_append_getElem h, List.filter_append, getD_el r0 h]
  congr 1
  by_cases e : (l[i]).thread = t <;> simp [e]
theorem own_le (l : List Rec) (t : Int) : (ownOf l t).length ≤ l.length := List.length_filter_le _ _

theorem body72 (q : PI) (x : Nat × Nat) (hi : x.1 ≤ q.l.length) (Q : EX → St V → Prop) (F : AV → Heap V → Nat → Prop)
    (hnx : ∀ (ST : St V) (sp b : Nat), x.1 < q.l.length → Wk 1 [(1, b)] ST (I72 q (x.1 + 1, sp)) → Q .nx ST) (hex : ∀ ST : St V, x.1 = q.l.length → Wk 1 [(1, 1)] ST (I72 q x) → Q (.ex 2) ST) :
    (runCode cfgI 60 7 (loopOf Try.f7 2) (I72 q x) (stopT (trimSt [0, 3, 4, 5, 6, 7, 8] [0, 1, 2, 3, 4, 5]))).holds ⟨Q, F⟩ := by
  rw [b72]
  have hb := q.hb
  have hle : (ownOf (q.l.take x.1) (q.t : Int)).length ≤ q.l.length := Nat.le_trans (own_le _ _) (by rw [List.length_take]; omega)
  have hw : x.1 < q.l.length → IntKind.wrap .i64 ((x.1 : Int) + 1) = ((x.1 + 1 : Nat) : Int) := fun h => wrap_nat (by omega)
  have hs : x.1 < q.l.length → ownOf (q.l.take (x.1 + 1)) (q.t : Int) = ownOf (q.l.take x.1) (q.t : Int) ++ if (q.l.getD x.1 (V.enc Kd.rcd).dflt).thread = (q.t : Int) then [q.l.getD x.1 (V.enc Kd.rcd).dflt] else [] := fun h => own_succ _ h
  simp only [Out.holds, Nat.zero_add, decide_eq_true_eq, decide_eq_false_iff_not, beq_iff_eq, beq_eq_false_iff_ne]
  refine ⟨fun h => ⟨by omega, by omega, fun h2 => ⟨by omega, by omega, ⟨trivial, trivial, trivial, by omega⟩, fun y => hnx _ y 3 (by omega) ?_⟩, fun h2 => hnx _ x.2 1 (by omega) ?_⟩, fun h => hex _ (by omega) ?_⟩
  · have e := hs (by omega)
    rw [if_pos h2] at e
    have el : (ownOf (q.l.take x.1) (q.t : Int)).length + 1 = (ownOf (q.l.take (x.1 + 1)) (q.t : Int)).length := by rw [e]; simp
    exact ⟨⟨AV.sub_same _, AV.sub_same _, AV.sub_same _, AV.sub_same _, AV.sub_same _, AV.sub_sl el (by rw [el]), AV.sub_int (hw (by omega)), trivial⟩, ⟨BSub.of_eq (congrArg (fun z => some (Blk.arr 30 Kd.rcd z y : Blk V)) e.symm), .same _, trivial⟩, rfl, tl_ok rfl, ⟨.inl (in_ok rfl), .inl (in_ok rfl), .inr rfl, trivial⟩, ⟨Nat.le_of_ble_eq_true rfl, rfl⟩⟩
  · have e := hs (by omega)
    rw [if_neg h2, List.append_nil] at e
    exact ⟨⟨AV.sub_same _, AV.sub_same _, AV.sub_same _, AV.sub_same _, AV.sub_same _, AV.sub_sl (by rw [e]) (by rw [e]), AV.sub_int (hw (by omega)), trivial⟩, ⟨BSub.of_eq (congrArg (fun z => some (Blk.arr 30 Kd.rcd z x.2 : Blk V)) e.symm), .same _, trivial⟩, rfl, tl_ok rfl, ⟨.inl (in_ok rfl), .inr rfl, trivial⟩, ⟨Nat.le_of_ble_eq_true rfl, rfl⟩⟩
  · exact ⟨⟨AV.sub_same _, AV.sub_same _, AV.sub_same _, AV.sub_same _, AV.sub_same _, AV.sub_same _, AV.sub_same _, trivial⟩, ⟨.same _, .same _, trivial⟩, rfl, tl_ok rfl, ⟨.inl (in_ok rfl), .inr rfl, trivial⟩, ⟨Nat.le_of_ble_eq_true rfl, rfl⟩⟩
theorem l72_ok : LoopOk Try.prog 2 (loopOf Try.f7 2) L72 := by
  refine trimLoop_ok (trim_ok _ _) (loopTH_ok (C := cfgI) cfgI_ok (f := 7) (n := 60) (trim_ok [0, 3, 4, 5, 6, 7, 8] [0, 1, 2, 3, 4, 5]) 1 I72 (fun q x => x.1 ≤ q.l.length) (fun _ => (0, 0)) (fun q x => q.l.length - x.1) (fun _ (_ : Nat) => True) (fun q sp => I72 q (q.l.length, sp)) (fun q => Nat.zero_le _) ?_)
  intro q x hi
  refine body72 q x hi _ _ (fun ST sp b hlt hw => SImp.of_wk (x.1 + 1, sp) hw ⟨hlt, ?_⟩) (fun ST he hw => ⟨rfl, SImp.of_wk (ren := [(1, 1)]) x.2 ?_ trivial⟩)
  · show q.l.length - (x.1 + 1) < q.l.length - x.1; omega
  · obtain ⟨i, x⟩ := x; simp only at he; subst he; exact hw
theorem cfg72_ok : cfg72.ok := ⟨cfgI_ok.τ, cfgI_ok.κ, cfgI_ok.mixed, cfgI_ok.fns, cfgI_ok.hooks⟩
theorem cfg70_ok : cfg70.ok := ⟨cfgI_ok.τ, cfgI_ok.κ, cfgI_ok.mixed, cfgI_ok.fns, cfgI_ok.hooks⟩

theorem body70 (p : PT) (t : Nat) (hi : t ≤ 64) (Q : EX → St V → Prop) (F : AV → Heap V → Nat → Prop)
    (hnx : ∀ ST : St V, t < 64 → Wk 1 [] ST (I70 p (t + 1)) → Q .nx ST) (hex : ∀ ST : St V, t = 64 → Wk 1 [] ST (I70 p t) → Q (.ex 0) ST) :
    (runCode cfg72 60 7 (loopOf Try.f7 0) (I70 p t) (stopT (trimSt [0, 3, 4, 5, 6] [0]))).holds ⟨Q, F⟩ := by
  rw [b70]
  have hb := p.hb
  have hw : t < 64 → IntKind.wrap .i64 ((t : Int) + 1) = ((t + 1 : Nat) : Int) := fun h => wrap_nat (by omega)
  have hn : nOf p.l (t + 1) = nOf p.l t + (hCallsOf (ownOf p.l (t : Int))).length := sumT_succ _ _
  have hf : fOf p.l (t + 1) = fOf p.l t + hLeft (ownOf p.l (t : Int)) := sumT_succ _ _
  have hcl := calls_len p.l
  have hn2 : t < 64 → nOf p.l (t + 1) ≤ p.l.length := fun h => Nat.le_trans (sumT_mono _ (show t + 1 ≤ 64 by omega)) (by rw [p.T.calls]; exact hcl)
  have hll : hLeft p.l ≤ p.l.length := Nat.le_trans (List.length_filter_le _ _) hcl
  have hf2 : t < 64 → fOf p.l (t + 1) ≤ p.l.length := fun h => Nat.le_trans (sumT_mono _ (show t + 1 ≤ 64 by omega)) (by rw [p.T.left]; exact hll)
  have hol := own_le p.l (t : Int)
  simp only [Out.holds, decide_eq_true_eq, decide_eq_false_iff_not, beq_iff_eq, beq_eq_false_iff_ne, Bool.not_eq_true', Bool.not_eq_false']
  refine ⟨fun h => ⟨l72_ok, fun q => q = ⟨p, t, by omega⟩, ⟨Nat.le_refl _, SImp.of_wk (ren := [(1, 99)]) ⟨p, t, by omega⟩ ?_ rfl⟩, ?_⟩, fun h => hex _ (by omega) ?_⟩
  · exact ⟨⟨AV.sub_same _, AV.sub_same _, AV.sub_same _, AV.sub_same _, AV.sub_same _, AV.sub_nilS, AV.sub_lit', trivial⟩, ⟨.none _ _, .same _, trivial⟩, rfl, tl_ok rfl, ⟨.inr rfl, trivial⟩, ⟨Nat.le_of_ble_eq_true rfl, rfl⟩⟩
  · rintro _ rfl sp _
    dsimp only
    simp only [List.drop_zero, List.take_length]
    have R := p.T.right t (by omega)
    have L := p.T.left1 t (by omega)
    refine ⟨fun h2 => hnx _ (by omega) ?_, fun h2 => ⟨by omega, by omega, fun h3 => ?_, fun _ => ⟨by omega, by omega, fun h4 => ?_, fun _ => ⟨by omega, by omega, fun y => ⟨by omega, by omega, hnx _ (by omega) ?_⟩⟩⟩⟩⟩
    · have e : ownOf p.l (t : Int) = [] := List.eq_nil_of_length_eq_zero (by omega)
      rw [e] at hn hf
      have c1 : (hCallsOf []).length = 0 := rfl
      have c2 : hLeft [] = 0 := rfl
      exact ⟨⟨AV.sub_same _, AV.sub_same _, AV.sub_int (by rw [hn, c1]; rfl), AV.sub_int (by rw [hf, c2]; rfl), AV.sub_int (hw (by omega)), trivial⟩, ⟨.same _, trivial⟩, rfl, tl_ok rfl, ⟨.inr rfl, trivial⟩, ⟨Nat.le_of_ble_eq_true rfl, rfl⟩⟩
    · rw [R] at h3; cases h3
    · exact absurd h4 (by omega)
    · have w1 : IntKind.wrap .i64 ((nOf p.l t : Int) + ((hCallsOf (ownOf p.l (t : Int))).length : Int)) = (nOf p.l (t + 1) : Int) := by
        have := hn2 (by omega)
        rw [wrap_low (by omega) (by omega), hn]; omega
      have w2 : IntKind.wrap .i64 ((fOf p.l t : Int) + (hLeft (ownOf p.l (t : Int)) : Int)) = (fOf p.l (t + 1) : Int) := by
        have := hf2 (by omega)
        rw [wrap_low (by omega) (by omega), hf]; omega
      exact ⟨⟨AV.sub_same _, AV.sub_same _, AV.sub_int w1, AV.sub_int w2, AV.sub_int (hw (by omega)), trivial⟩, ⟨.same _, trivial⟩, rfl, tl_ok rfl, ⟨.inr rfl, trivial⟩, ⟨Nat.le_of_ble_eq_true rfl, rfl⟩⟩
  · exact ⟨⟨AV.sub_same _, AV.sub_same _, AV.sub_same _, AV.sub_same _, AV.sub_same _, trivial⟩, ⟨.same _, trivial⟩, rfl, tl_ok rfl, ⟨.inr rfl, trivial⟩, ⟨Nat.le_of_ble_eq_true rfl, rfl⟩⟩
theorem l70_ok : LoopOk Try.prog 0 (loopOf Try.f7 0) L70 := by
  refine trimLoop_ok (trim_ok _ _) (loopTH_ok (C := cfg72) cfg72_ok (f := 7) (n := 60) (trim_ok [0, 3, 4, 5, 6] [0]) 1 I70 (fun p t => t ≤ 64) (fun _ => 0) (fun p t => 64 - t) (fun _ (_ : Unit) => True) (fun p _ => I70 p 64) (fun p => Nat.zero_le _) ?_)
  intro p t hi
  exact body70 p t hi _ _ (fun ST hlt hw => SImp.of_wk (t + 1) hw ⟨hlt, by omega⟩) (fun ST he hw => ⟨rfl, SImp.of_wk () (by subst he; exact hw) trivial⟩)

theorem threads_law (l : List Rec) (c : Nat) (hb : ∀ r ∈ l, r.op < 9223372036854775808) : CallsSx Try.prog 7 [.sl false 0 0 8 l.length c] ([(0, .ro Kd.rcd l)] : Heap V) 1 (fun v _ _ _ => v.sub .tt) := by
  refine calls_runL (args := [.sl false 0 0 8 l.length c]) cfg70_ok (n := 60) (fn := Try.f7) ⟨by kernel_rfl, by kernel_rfl⟩ (by kernel_rfl) (show 1 ≤ _ by decide +kernel) ?_
  rw [t7]
  simp only [List.drop_zero, List.take_length]
  refine ⟨fun _ => AV.sub_same _, fun h1 => ?_⟩
  have hl : l.length ≤ 150 := by have := of_decide_eq_false h1; omega
  refine ⟨by omega, by omega, fun _ => AV.sub_same _, fun hr => ?_⟩
  have hr : hRight l = true := by simpa using hr
  have T := threads_all hb hr
  refine ⟨l70_ok, fun q => q = ⟨l, c, by omega, T⟩, ⟨Nat.le_refl _, SImp.of_wk (ren := []) ⟨l, c, by omega, T⟩ ?_ rfl⟩, ?_⟩
  · exact ⟨⟨AV.sub_same _, AV.sub_same _, AV.sub_lit rfl, AV.sub_lit rfl, AV.sub_lit', trivial⟩, ⟨.same _, trivial⟩, rfl, tl_ok rfl, ⟨.inr rfl, trivial⟩, ⟨Nat.le_of_ble_eq_true rfl, rfl⟩⟩
  · rintro _ rfl _ _
    have e1 : nOf l 64 = (hCallsOf l).length := T.calls
    have e2 : fOf l 64 = hLeft l := T.left
    refine ⟨Nat.le_of_eq (Nat.zero_add _), (by show l.length ≤ _; omega), fun y => ⟨fun _ => ⟨Nat.le_of_eq (Nat.zero_add _), (by show l.length ≤ _; omega), ?_⟩, fun h => ?_⟩⟩
    · intro r z hz
      have w : ((fOf l 64 : Int) == (hLeft l : Int)) = true := by rw [e2]; simp
      exact hz.trans (congrArg Value.bool w)
    · exfalso
      have w : ((nOf l 64 : Int) == ((hCallsOf l).length : Int)) = true := by rw [e1]; simp
      exact absurd (w.symm.trans h) (by decide)

end Sx
end Go.Proofs.Ytemcdjdglcceiaa
