/-
  Before is a strict order, and of one thread's calls each is Before the next.
-/
import Derived.Test.YtemcdjdglcceiaaHTrees6
namespace Go.Proofs.Ytemcdjdglcceiaa
namespace Sx
open Go
set_option linter.unusedSimpArgs false
set_option linter.unusedVariables false

theorem hB_true (a b : Cal) : (hBefore a b = true) = (0 ≤ a.to_ ∧ a.to_ < b.frm) := by simp [hBefore]
theorem hB_false (a b : Cal) : (hBefore a b = false) = ¬ (0 ≤ a.to_ ∧ a.to_ < b.frm) := by
  rw [← hB_true]; simp
theorem RInv.ord {l : List Rec} {n : Nat} {s : RD} (I : RInv l n s) : Ord s.cs := by
  refine ⟨fun i c h => ?_, fun i k c d h1 h2 ht ho => ?_⟩
  · obtain ⟨f1, _⟩ := I.frm i c h
    refine ⟨f1, fun h0 => ?_, fun h0 => ?_⟩
    · rcases I.at_ i c h with e | ⟨e, _⟩
      · omega
      · exact e
    · rcases I.to_ i c h with e | ⟨e1, e2, _⟩
      · omega
      · exact ⟨e1, e2⟩
  · obtain ⟨f1, _⟩ := I.frm i c h1
    rcases Nat.lt_trichotomy i k with hik | hik | hik
    · obtain ⟨t1, t2, _⟩ := I.two i k c d hik h1 h2 ht
      rcases I.to_ i c h1 with e | ⟨e1, _⟩
      · exact absurd e t1
      · exact ⟨by omega, t2⟩
    · subst hik; rw [h1] at h2; cases h2; omega
    · obtain ⟨_, _, t3⟩ := I.two k i d c hik h2 h1 ht.symm
      omega
theorem get_bound {l : List Rec} (hb : ∀ r ∈ l, r.op < 9223372036854775808) (i : Nat) : (l.getD i r0).op < 9223372036854775808 := by
  rcases Nat.lt_or_ge i l.length with h | h
  · rw [getD_el r0 h]; exact hb _ (List.getElem_mem h)
  · rw [List.getD_eq_getElem?_getD, List.getElem?_eq_none h]; decide
theorem ord_calls {l : List Rec} (hb : ∀ r ∈ l, r.op < 9223372036854775808) : Ord (hCallsOf l) := by
  unfold hCallsOf hCalls
  cases e : readTo l l.length with
  | none => exact ⟨fun i c h => (by simp at h), fun i k c d h => (by simp at h)⟩
  | some s =>
    refine (readTo_inv (fun i => ?_) e).ord
    rcases Nat.lt_or_ge i l.length with h | h
    · rw [getD_el r0 h]; exact hb _ (List.getElem_mem h)
    · rw [List.getD_eq_getElem?_getD, List.getElem?_eq_none h]; decide
theorem Ord.at1 {cs : List Cal} (O : Ord cs) {i : Nat} (h : i < cs.length) : 0 ≤ (cs.getD i c0).frm ∧ (0 ≤ (cs.getD i c0).at_ → (cs.getD i c0).frm < (cs.getD i c0).at_) ∧ (0 ≤ (cs.getD i c0).to_ → (cs.getD i c0).frm < (cs.getD i c0).to_ ∧ (cs.getD i c0).at_ < (cs.getD i c0).to_) :=
  O.one i _ (by rw [getD_el c0 h]; exact List.getElem?_eq_getElem h)
theorem Ord.at2 {cs : List Cal} (O : Ord cs) {i k : Nat} (h : i < cs.length) (hk : k < cs.length) : (cs.getD i c0).thread = (cs.getD k c0).thread → (cs.getD i c0).op < (cs.getD k c0).op → 0 ≤ (cs.getD i c0).to_ ∧ (cs.getD i c0).to_ < (cs.getD k c0).frm :=
  O.two i k _ _ (by rw [getD_el c0 h]; exact List.getElem?_eq_getElem h) (by rw [getD_el c0 hk]; exact List.getElem?_eq_getElem hk)

theorem body54 (p : PJ) (j : Nat) (hj : j ≤ p.cs.length) (Q : EX → St V → Prop) (F : AV → Heap V → Nat → Prop)
    (hnx : ∀ ST : St V, j < p.cs.length → Wk 2 [] ST (I54 p (j + 1)) → Q .nx ST) (hex : ∀ ST : St V, Wk 2 [] ST (I52 p.toPK p.k) → Q (.ex 4) ST) :
    (runCode cfgI 60 5 (loopOf Try.f5 4) (I54 p j) (stopT (trimSt [0, 3, 4, 5, 6, 7] [0, 1]))).holds ⟨Q, F⟩ := by
  rw [b54]
  have hb := p.hb
  have hi := p.hi
  have hk := p.hk
  have hw : j < p.cs.length → IntKind.wrap .i64 ((j : Int) + 1) = ((j + 1 : Nat) : Int) := fun h => wrap_nat (by omega)
  have h1 : 0 ≤ (p.cs.getD p.k (V.enc Kd.cal).dflt).to_ → (p.cs.getD p.k (V.enc Kd.cal).dflt).frm < (p.cs.getD p.k (V.enc Kd.cal).dflt).to_ := fun h => ((p.O.at1 hk).2.2 h).1
  simp only [Nat.zero_add]
  generalize p.cs.getD p.i (V.enc Kd.cal).dflt = a at *
  generalize p.cs.getD p.k (V.enc Kd.cal).dflt = b at *
  generalize p.cs.getD j (V.enc Kd.cal).dflt = c at *
  simp only [Out.holds, decide_eq_true_eq, decide_eq_false_iff_not, Bool.not_eq_true', Bool.not_eq_false', hB_true, hB_false]
  repeat' first | apply And.intro | intro _
  all_goals first
    | omega
    | exact hnx _ (by omega) ⟨⟨AV.sub_same _, AV.sub_same _, AV.sub_same _, AV.sub_same _, AV.sub_same _, AV.sub_int (hw (by omega)), trivial⟩, ⟨.same _, .same _, trivial⟩, rfl, tl_ok rfl, ⟨.inr rfl, .inr rfl, trivial⟩, ⟨Nat.le_of_ble_eq_true rfl, rfl⟩⟩
    | exact hex _ ⟨⟨AV.sub_same _, AV.sub_same _, AV.sub_same _, AV.sub_same _, AV.sub_same _, trivial⟩, ⟨.same _, .same _, trivial⟩, rfl, tl_ok rfl, ⟨.inr rfl, .inr rfl, trivial⟩, ⟨Nat.le_of_ble_eq_true rfl, rfl⟩⟩
    | skip

theorem l54_ok : LoopOk Try.prog 4 (loopOf Try.f5 4) L54 := by
  refine trimLoop_ok (trim_ok _ _) (loopTH_ok (C := cfgI) cfgI_ok (f := 5) (n := 60) (trim_ok [0, 3, 4, 5, 6, 7] [0, 1]) 2 I54 (fun p j => j ≤ p.cs.length) (fun _ => 0) (fun p j => p.cs.length - j) (fun _ (_ : Unit) => True) (fun p _ => I52 p.toPK p.k) (fun p => Nat.zero_le _) ?_)
  intro p j hj
  exact body54 p j hj _ _ (fun ST hlt hw => SImp.of_wk (j + 1) hw ⟨hlt, by omega⟩) (fun ST hw => ⟨rfl, SImp.of_wk () hw trivial⟩)
theorem cfg54_ok : cfg54.ok := ⟨cfgI_ok.τ, cfgI_ok.κ, cfgI_ok.mixed, cfgI_ok.fns, cfgI_ok.hooks⟩
theorem cfg52_ok : cfg52.ok := ⟨cfgI_ok.τ, cfgI_ok.κ, cfgI_ok.mixed, cfgI_ok.fns, cfgI_ok.hooks⟩
theorem cfg50_ok : cfg50.ok := ⟨cfgI_ok.τ, cfgI_ok.κ, cfgI_ok.mixed, cfgI_ok.fns, cfgI_ok.hooks⟩

theorem body52 (p : PK) (k : Nat) (hj : k ≤ p.cs.length) (Q : EX → St V → Prop) (F : AV → Heap V → Nat → Prop)
    (hnx : ∀ ST : St V, k < p.cs.length → Wk 2 [] ST (I52 p (k + 1)) → Q .nx ST) (hex : ∀ ST : St V, Wk 2 [] ST (I50 p.toPO p.i) → Q (.ex 2) ST) :
    (runCode cfg54 60 5 (loopOf Try.f5 2) (I52 p k) (stopT (trimSt [0, 3, 4, 5, 6] [0, 1]))).holds ⟨Q, F⟩ := by
  rw [b52]
  have hb := p.hb
  have hi := p.hi
  have hw : k < p.cs.length → IntKind.wrap .i64 ((k : Int) + 1) = ((k + 1 : Nat) : Int) := fun h => wrap_nat (by omega)
  have h1 : k < p.cs.length → 0 ≤ (p.cs.getD k (V.enc Kd.cal).dflt).to_ → (p.cs.getD k (V.enc Kd.cal).dflt).frm < (p.cs.getD k (V.enc Kd.cal).dflt).to_ := fun h h' => ((p.O.at1 h).2.2 h').1
  have h2 : 0 ≤ (p.cs.getD p.i (V.enc Kd.cal).dflt).to_ → (p.cs.getD p.i (V.enc Kd.cal).dflt).frm < (p.cs.getD p.i (V.enc Kd.cal).dflt).to_ := fun h' => ((p.O.at1 hi).2.2 h').1
  have h3 : k < p.cs.length → (p.cs.getD p.i (V.enc Kd.cal).dflt).thread = (p.cs.getD k (V.enc Kd.cal).dflt).thread → (p.cs.getD p.i (V.enc Kd.cal).dflt).op < (p.cs.getD k (V.enc Kd.cal).dflt).op → 0 ≤ (p.cs.getD p.i (V.enc Kd.cal).dflt).to_ ∧ (p.cs.getD p.i (V.enc Kd.cal).dflt).to_ < (p.cs.getD k (V.enc Kd.cal).dflt).frm := fun h => p.O.at2 hi h
  simp only [Nat.zero_add]
  generalize p.cs.getD p.i (V.enc Kd.cal).dflt = a at *
  generalize p.cs.getD k (V.enc Kd.cal).dflt = b at *
  simp only [Out.holds, decide_eq_true_eq, decide_eq_false_iff_not, Bool.not_eq_true', Bool.not_eq_false', hB_true, hB_false, beq_iff_eq, beq_eq_false_iff_ne]
  repeat' first | exact l54_ok | apply And.intro | intro _
  all_goals first
    | omega
    | exact l54_ok
    | exact ⟨fun q => q = ⟨p, k, by omega⟩, ⟨Nat.le_refl _, SImp.of_wk (ren := []) ⟨p, k, by omega⟩ ⟨⟨AV.sub_same _, AV.sub_same _, AV.sub_same _, AV.sub_same _, AV.sub_same _, AV.sub_lit', trivial⟩, ⟨.same _, .same _, trivial⟩, rfl, tl_ok rfl, ⟨.inr rfl, .inr rfl, trivial⟩, ⟨Nat.le_of_ble_eq_true rfl, rfl⟩⟩ rfl⟩, fun q hq _ _ => by
        subst hq
        exact hnx _ (by omega) ⟨⟨AV.sub_same _, AV.sub_same _, AV.sub_same _, AV.sub_same _, AV.sub_int (hw (by omega)), trivial⟩, ⟨.same _, .same _, trivial⟩, rfl, tl_ok rfl, ⟨.inr rfl, .inr rfl, trivial⟩, ⟨Nat.le_of_ble_eq_true rfl, rfl⟩⟩⟩
    | exact hex _ ⟨⟨AV.sub_same _, AV.sub_same _, AV.sub_same _, AV.sub_same _, trivial⟩, ⟨.same _, .same _, trivial⟩, rfl, tl_ok rfl, ⟨.inr rfl, .inr rfl, trivial⟩, ⟨Nat.le_of_ble_eq_true rfl, rfl⟩⟩
    | skip
theorem l52_ok : LoopOk Try.prog 2 (loopOf Try.f5 2) L52 := by
  refine trimLoop_ok (trim_ok _ _) (loopTH_ok (C := cfg54) cfg54_ok (f := 5) (n := 60) (trim_ok [0, 3, 4, 5, 6] [0, 1]) 2 I52 (fun p j => j ≤ p.cs.length) (fun _ => 0) (fun p j => p.cs.length - j) (fun _ (_ : Unit) => True) (fun p _ => I50 p.toPO p.i) (fun p => Nat.zero_le _) ?_)
  intro p j hj
  exact body52 p j hj _ _ (fun ST hlt hw => SImp.of_wk (j + 1) hw ⟨hlt, by omega⟩) (fun ST hw => ⟨rfl, SImp.of_wk () hw trivial⟩)

theorem body50 (p : PO) (i : Nat) (hj : i ≤ p.cs.length) (Q : EX → St V → Prop) (F : AV → Heap V → Nat → Prop)
    (hnx : ∀ ST : St V, i < p.cs.length → Wk 2 [] ST (I50 p (i + 1)) → Q .nx ST) (hex : ∀ ST : St V, i = p.cs.length → Wk 2 [] ST (I50 p i) → Q (.ex 0) ST) :
    (runCode cfg52 60 5 (loopOf Try.f5 0) (I50 p i) (stopT (trimSt [0, 3, 4, 5] [0, 1]))).holds ⟨Q, F⟩ := by
  rw [b50]
  have hb := p.hb
  have hw : i < p.cs.length → IntKind.wrap .i64 ((i : Int) + 1) = ((i + 1 : Nat) : Int) := fun h => wrap_nat (by omega)
  have h1 : i < p.cs.length → 0 ≤ (p.cs.getD i (V.enc Kd.cal).dflt).frm ∧ (0 ≤ (p.cs.getD i (V.enc Kd.cal).dflt).at_ → (p.cs.getD i (V.enc Kd.cal).dflt).frm < (p.cs.getD i (V.enc Kd.cal).dflt).at_) ∧ (0 ≤ (p.cs.getD i (V.enc Kd.cal).dflt).to_ → (p.cs.getD i (V.enc Kd.cal).dflt).frm < (p.cs.getD i (V.enc Kd.cal).dflt).to_ ∧ (p.cs.getD i (V.enc Kd.cal).dflt).at_ < (p.cs.getD i (V.enc Kd.cal).dflt).to_) := fun h => p.O.at1 h
  simp only [Nat.zero_add]
  generalize p.cs.getD i (V.enc Kd.cal).dflt = a at *
  simp only [Out.holds, decide_eq_true_eq, decide_eq_false_iff_not, Bool.not_eq_true', Bool.not_eq_false', hB_true, hB_false, beq_iff_eq, beq_eq_false_iff_ne]
  have hmax : 0 ≤ a.to_ → a.frm < a.to_ ∧ a.at_ < a.to_ → ¬ a.to_ ≤ (if a.at_ > a.frm then a.at_ else a.frm) := fun _ h => by split <;> omega
  repeat' first | exact l52_ok | apply And.intro | intro _
  all_goals first
    | omega
    | exact l52_ok
    | exact ⟨fun q => q = ⟨p, i, by omega⟩, ⟨Nat.le_refl _, SImp.of_wk (ren := []) ⟨p, i, by omega⟩ ⟨⟨AV.sub_same _, AV.sub_same _, AV.sub_same _, AV.sub_same _, AV.sub_lit', trivial⟩, ⟨.same _, .same _, trivial⟩, rfl, tl_ok rfl, ⟨.inr rfl, .inr rfl, trivial⟩, ⟨Nat.le_of_ble_eq_true rfl, rfl⟩⟩ rfl⟩, fun q hq _ _ => by
        subst hq
        exact hnx _ (by omega) ⟨⟨AV.sub_same _, AV.sub_same _, AV.sub_same _, AV.sub_int (hw (by omega)), trivial⟩, ⟨.same _, .same _, trivial⟩, rfl, tl_ok rfl, ⟨.inr rfl, .inr rfl, trivial⟩, ⟨Nat.le_of_ble_eq_true rfl, rfl⟩⟩⟩
    | exact hex _ (by omega) ⟨⟨AV.sub_same _, AV.sub_same _, AV.sub_same _, AV.sub_same _, trivial⟩, ⟨.same _, .same _, trivial⟩, rfl, tl_ok rfl, ⟨.inr rfl, .inr rfl, trivial⟩, ⟨Nat.le_of_ble_eq_true rfl, rfl⟩⟩
    | (exfalso; exact hmax (by omega) ((h1 (by omega)).2.2 (by omega)) (by assumption))
    | skip
theorem l50_ok : LoopOk Try.prog 0 (loopOf Try.f5 0) L50 := by
  refine trimLoop_ok (trim_ok _ _) (loopTH_ok (C := cfg52) cfg52_ok (f := 5) (n := 60) (trim_ok [0, 3, 4, 5] [0, 1]) 2 I50 (fun p j => j ≤ p.cs.length) (fun _ => 0) (fun p j => p.cs.length - j) (fun _ (_ : Unit) => True) (fun p _ => I50 p p.cs.length) (fun p => Nat.zero_le _) ?_)
  intro p j hj
  exact body50 p j hj _ _ (fun ST hlt hw => SImp.of_wk (j + 1) hw ⟨hlt, by omega⟩) (fun ST he hw => ⟨rfl, SImp.of_wk () (by subst he; exact hw) trivial⟩)

theorem orders_law (l : List Rec) (c : Nat) (hb : ∀ r ∈ l, r.op < 9223372036854775808) : CallsSx Try.prog 5 [.sl false 0 0 8 l.length c] ([(0, .ro Kd.rcd l)] : Heap V) 1 (fun v _ _ _ => v.sub .tt) := by
  refine calls_runL (args := [.sl false 0 0 8 l.length c]) cfg50_ok (n := 60) (fn := Try.f5) ⟨by kernel_rfl, by kernel_rfl⟩ (by kernel_rfl) (show 1 ≤ _ by decide +kernel) ?_
  rw [t5]
  simp only [List.drop_zero, List.take_length]
  refine ⟨fun _ => AV.sub_same _, fun h1 => ?_⟩
  have hl : l.length ≤ 120 := by have := of_decide_eq_false h1; omega
  have hcl := calls_len l
  refine ⟨by omega, by omega, fun sp => ⟨l50_ok, fun q => q = ⟨l, c, hCallsOf l, sp, by omega, ord_calls hb⟩, ⟨Nat.le_refl _, SImp.of_wk (ren := []) ⟨l, c, hCallsOf l, sp, by omega, ord_calls hb⟩ ?_ rfl⟩, fun _ _ _ _ => AV.sub_same _⟩⟩
  exact ⟨⟨AV.sub_same _, AV.sub_same _, AV.sub_same _, AV.sub_lit', trivial⟩, ⟨.same _, .same _, trivial⟩, rfl, tl_ok rfl, ⟨.inr rfl, .inr rfl, trivial⟩, ⟨Nat.le_of_ble_eq_true rfl, rfl⟩⟩

end Sx
end Go.Proofs.Ytemcdjdglcceiaa
