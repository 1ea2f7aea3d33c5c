/-
  The beginning of a right row is right, and its calls are those that were invoked in it.
-/
import Derived.Test.YtemcdjdglcceiaaHTrees8
namespace Go.Proofs.Ytemcdjdglcceiaa
namespace Sx
open Go
set_option linter.unusedSimpArgs false
set_option linter.unusedVariables false

theorem readTo_take {l : List Rec} {k : Nat} (hk : k ≤ l.length) : ∀ {n : Nat}, n ≤ k → readTo (l.take k) n = readTo l n
  | 0, _ => rfl
  | n + 1, h => by
    show (readTo (l.take k) n).bind _ = (readTo l n).bind _
    rw [readTo_take hk (by omega)]
    have e : (l.take k).getD n r0 = l.getD n r0 := by
      rw [List.getD_eq_getElem?_getD, List.getD_eq_getElem?_getD, List.getElem?_take, if_pos (by omega)]
    rw [e]

structure CutOf (k : Nat) (t s : List Cal) : Prop where
  le : t.length ≤ s.length
  el : ∀ (i : Nat) (c : Cal), s[i]? = some c → (i < t.length → c.frm < k ∧ t[i]? = some (cut c k)) ∧ (t.length ≤ i → (k : Int) ≤ c.frm)

theorem cut_self {l : List Rec} {k : Nat} {t : RD} (I : RInv l k t) : CutOf k t.cs t.cs := by
  refine ⟨Nat.le_refl _, fun i c h => ⟨fun _ => ?_, fun hh => absurd (get_lt h) (by omega)⟩⟩
  have f := I.frm i c h
  refine ⟨f.2.1, ?_⟩
  rw [h]
  congr 1
  have e1 : ¬ c.at_ ≥ k := by rcases I.at_ i c h with e | e <;> omega
  have e2 : ¬ c.to_ ≥ k := by
    rcases I.to_ i c h with e | ⟨_, _, e, _⟩ <;> omega
  unfold cut
  rw [if_neg e1, if_neg e2]

theorem cut_step {l : List Rec} {k n : Nat} {t : List Cal} {s s' : RD} (hkn : k ≤ n) (I : RInv l n s) (C : CutOf k t s.cs) {r : Rec} (e : s.step r n = some s') : CutOf k t s'.cs := by
  have hpush : CutOf k t (s.push r n).cs := by
    refine ⟨by show t.length ≤ (s.cs ++ [_]).length; have := C.le; simp; omega, fun i c h => ?_⟩
    rcases get_push h with h | ⟨rfl, rfl⟩
    · exact C.el i c h
    · exact ⟨fun hh => absurd C.le (by omega), fun _ => by show (k : Int) ≤ (n : Int); omega⟩
  have hupd : ∀ (o : Opn) (f : Cal → Cal) (c1 : Cal), s.cs[o.call.toNat]? = some c1 → (f c1).frm = c1.frm → cut (f c1) k = cut c1 k → CutOf k t (s.upd r o f).cs := by
    intro o f c1 h1 h2 h3
    have hd : s.cs.getD o.call.toNat c0 = c1 := by rw [List.getD_eq_getElem?_getD, h1]; rfl
    refine ⟨by show t.length ≤ (s.cs.set _ _).length; rw [List.length_set]; exact C.le, fun i c h => ?_⟩
    have h' : (s.cs.set o.call.toNat (f (s.cs.getD o.call.toNat c0)))[i]? = some c := h
    rw [hd] at h'
    rcases get_set h' with ⟨rfl, rfl⟩ | ⟨_, h'⟩
    · have := C.el _ _ h1
      rw [h2, h3]; exact this
    · exact C.el i c h'
  unfold RD.step at e
  split at e
  · cases e
  · split at e
    · split at e
      · cases e; exact C
      · cases e
    · split at e
      · unfold RD.invoke at e
        split at e
        · cases e; exact hpush
        · cases e
      · unfold RD.follow at e
        split at e
        · cases e
        · rename_i o ho
          obtain ⟨k1, k2, k3, k4, c1, k5, k6, k7, k8, k9, k10⟩ := I.last _ _ ho
          split at e
          · cases e
          · rename_i hno
            have hn3 : o.what ≠ 3 := fun h => hno (.inl h)
            have to1 : c1.to_ = -1 := Classical.byContradiction fun h => hn3 (k10.2 h)
            split at e
            · split at e
              · rename_i hm
                cases e
                obtain ⟨a1, a2⟩ := k8.1 hm.1
                refine hupd o _ c1 k5 rfl ?_
                unfold cut
                have q1 : (n : Int) ≥ k := by omega
                have q2 : ¬ (-1 : Int) ≥ k := by omega
                simp only [q1, q2, if_true, if_false, a1]
              · cases e
            · split at e
              · split at e
                · cases e
                  refine hupd o _ c1 k5 rfl ?_
                  unfold cut
                  have q1 : (n : Int) ≥ k := by omega
                  have q2 : ¬ (-1 : Int) ≥ k := by omega
                  simp only [q1, q2, if_true, if_false, to1]
                · cases e
              · cases e

theorem cut_all {l : List Rec} (hb : ∀ i, (l.getD i r0).op < 9223372036854775808) {k : Nat} {t : RD} (ht : readTo l k = some t) : ∀ {n : Nat} {s : RD}, k ≤ n → readTo l n = some s → CutOf k t.cs s.cs := by
  intro n
  induction n with
  | zero =>
    intro s hk h
    have : k = 0 := by omega
    subst this
    rw [ht] at h; cases h
    exact cut_self (readTo_inv hb ht)
  | succ n ih =>
    intro s' hk h
    rcases Nat.lt_or_ge n k with h1 | h1
    · have : k = n + 1 := by omega
      subst this
      rw [ht] at h; cases h
      exact cut_self (readTo_inv hb ht)
    · obtain ⟨s, h2, h3⟩ := Option.bind_eq_some_iff.1 h
      exact cut_step h1 (readTo_inv hb h2) (ih h1 h2) h3

theorem readTo_some {l : List Rec} {n m : Nat} {s : RD} (h : readTo l m = some s) (hn : n ≤ m) : ∃ t, readTo l n = some t := by
  cases e : readTo l n with
  | some t => exact ⟨t, rfl⟩
  | none => rw [readTo_none e hn] at h; cases h

theorem cuts {l : List Rec} (hb : ∀ r ∈ l, r.op < 9223372036854775808) (hr : hRight l = true) {k : Nat} (hk : k ≤ l.length) :
    hRight (l.take k) = true ∧ CutOf k (hCallsOf (l.take k)) (hCallsOf l) := by
  cases e : readTo l l.length with
  | none => have := right_none e; rw [this.1] at hr; cases hr
  | some s =>
    obtain ⟨t, ht⟩ := readTo_some e hk
    have ht' : readTo (l.take k) (l.take k).length = some t := by
      rw [List.length_take, Nat.min_eq_left hk, readTo_take hk (Nat.le_refl _)]; exact ht
    obtain ⟨a1, a2⟩ := right_some e
    obtain ⟨b1, b2⟩ := right_some ht'
    refine ⟨b1, ?_⟩
    rw [a2, b2]
    exact cut_all (get_bound hb) ht hk e
theorem commits_take {l : List Rec} (hr : hRight l = true) (k : Nat) : (hCommits (l.take k)).length ≤ (hCommits l).length := by
  unfold hCommits
  rw [if_pos hr]
  split
  · rw [List.length_map, List.length_map]
    have : l.filter (fun r => decide (r.what = 2)) = (l.take k).filter (fun r => decide (r.what = 2)) ++ (l.drop k).filter (fun r => decide (r.what = 2)) := by rw [← List.filter_append, List.take_append_drop]
    rw [this, List.length_append]; omega
  · exact Nat.zero_le _

theorem body60 (p : PU) (i : Nat) (hi : i ≤ p.ar.length) (hi2 : i ≤ p.bs.length) (Q : EX → St V → Prop) (F : AV → Heap V → Nat → Prop)
    (hrt : ∀ ST : St V, Wk 5 [] ST (R60 p) → Q .rt ST)
    (hnx : ∀ ST : St V, i < p.ar.length → i < p.bs.length → Wk 5 [] ST (I60 p (i + 1)) → Q .nx ST) (hex : ∀ ST : St V, i = p.ar.length → Wk 5 [] ST (I60 p i) → Q (.ex 0) ST) :
    (runCode cfgI 60 6 (loopOf Try.f6 0) (I60 p i) (stopT (trimSt [1, 4, 5, 6, 7, 8] [1, 2]))).holds ⟨Q, F⟩ := by
  rw [b60]
  have hb := p.hb
  have hl := p.hl
  have hw : i < p.ar.length → IntKind.wrap .i64 ((i : Int) + 1) = ((i + 1 : Nat) : Int) := fun h => wrap_nat (by omega)
  have hC : i < p.ar.length → (i < p.bs.length → (p.ar.getD i (V.enc Kd.cal).dflt).frm < p.k ∧ p.bs.getD i (V.enc Kd.cal).dflt = cut (p.ar.getD i (V.enc Kd.cal).dflt) p.k) ∧ (p.bs.length ≤ i → (p.k : Int) ≤ (p.ar.getD i (V.enc Kd.cal).dflt).frm) := fun h => p.C i h
  simp only [Nat.zero_add]
  generalize p.ar.getD i (V.enc Kd.cal).dflt = c at *
  generalize p.bs.getD i (V.enc Kd.cal).dflt = d at *
  simp only [Out.holds, decide_eq_true_eq, decide_eq_false_iff_not, Bool.not_eq_true', Bool.not_eq_false']
  repeat' first | apply And.intro | intro _
  all_goals first
    | omega
    | exact hnx _ (by omega) (by omega) ⟨⟨AV.sub_same _, AV.sub_same _, AV.sub_same _, AV.sub_same _, AV.sub_int (hw (by omega)), trivial⟩, ⟨.same _, .same _, trivial⟩, rfl, tl_ok rfl, ⟨.inr rfl, .inr rfl, trivial⟩, ⟨Nat.le_of_ble_eq_true rfl, rfl⟩⟩
    | exact hex _ (by omega) ⟨⟨AV.sub_same _, AV.sub_same _, AV.sub_same _, AV.sub_same _, AV.sub_same _, trivial⟩, ⟨.same _, .same _, trivial⟩, rfl, tl_ok rfl, ⟨.inr rfl, .inr rfl, trivial⟩, ⟨Nat.le_of_ble_eq_true rfl, rfl⟩⟩
    | (exfalso; have g := (hC (by omega)).2 (by omega); omega)
    | (rename_i h3 h4 h5 hh; exfalso; obtain ⟨_, g2⟩ := (hC (by omega)).1 (by omega); rw [g2] at hh; unfold cut at hh; simp [h3, h4] at hh)
    | skip
  · refine hrt _ ⟨⟨fun r z hz => hz.trans (congrArg Value.bool ?_), trivial⟩, trivial, rfl, tl_ok rfl, ⟨.inl (in_ok rfl), .inl (in_ok rfl), trivial⟩, ⟨Nat.le_of_ble_eq_true rfl, rfl⟩⟩
    have : i = p.bs.length := by
      rcases Nat.lt_or_ge i p.bs.length with h | h
      · have := ((hC (by omega)).1 h).1; omega
      · omega
    simp; omega
theorem l60_ok : LoopOk Try.prog 0 (loopOf Try.f6 0) L60 := by
  refine trimLoop_ok (trim_ok _ _) (loopT_ok (C := cfgI) cfgI_ok (f := 6) (n := 60) (trim_ok [1, 4, 5, 6, 7, 8] [1, 2]) 5 I60 (fun p i => i ≤ p.ar.length ∧ i ≤ p.bs.length) (fun _ => 0) (fun p i => p.ar.length - i) (fun p (_ : Unit) => p.ar.length ≤ p.bs.length) (fun p _ => I60 p p.ar.length) (fun _ (_ : Unit) => True) (fun p _ => R60 p) (fun p => ⟨Nat.zero_le _, Nat.zero_le _⟩) ?_)
  intro p i ⟨hi, hi2⟩
  exact body60 p i hi hi2 _ _ (fun ST hw => SImp.of_wk () hw trivial) (fun ST h1 h2 hw => SImp.of_wk (i + 1) hw ⟨⟨h1, h2⟩, by omega⟩) (fun ST he hw => ⟨rfl, SImp.of_wk () (by subst he; exact hw) (by omega)⟩)
theorem cfg60_ok : cfg60.ok := ⟨cfgI_ok.τ, cfgI_ok.κ, cfgI_ok.mixed, cfgI_ok.fns, cfgI_ok.hooks⟩

theorem CutOf.facts {k : Nat} {t s : List Cal} (C : CutOf k t s) : ∀ i, i < s.length → (i < t.length → (s.getD i c0).frm < k ∧ t.getD i c0 = cut (s.getD i c0) k) ∧ (t.length ≤ i → (k : Int) ≤ (s.getD i c0).frm) := by
  intro i hi
  have h := C.el i _ (List.getElem?_eq_getElem hi)
  rw [← getD_el c0 hi] at h
  refine ⟨fun h1 => ⟨(h.1 h1).1, ?_⟩, h.2⟩
  rw [List.getD_eq_getElem?_getD, (h.1 h1).2]; rfl

theorem cuts_law (l : List Rec) (c : Nat) (k : Int) (hb : ∀ r ∈ l, r.op < 9223372036854775808) (hc : l.length ≤ c) : CallsSx Try.prog 6 [.sl false 0 0 8 l.length c, .int .i64 k] ([(0, .ro Kd.rcd l)] : Heap V) 1 (fun v _ _ _ => v.sub .tt) := by
  refine calls_runL (args := [.sl false 0 0 8 l.length c, .int .i64 k]) cfg60_ok (n := 60) (fn := Try.f6) ⟨by kernel_rfl, by kernel_rfl⟩ (by kernel_rfl) (show 2 ≤ _ by decide +kernel) ?_
  rw [t6]
  simp only [List.drop_zero, List.take_length]
  refine ⟨fun _ => AV.sub_same _, fun h1 => ⟨fun _ => AV.sub_same _, fun h2 => ⟨fun _ => AV.sub_same _, fun h3 => ?_⟩⟩⟩
  have hl : l.length ≤ 150 := by have := of_decide_eq_false h1; omega
  have hk0 : 0 ≤ k := by have := of_decide_eq_false h2; omega
  have hk1 : k.toNat ≤ l.length := by have := of_decide_eq_false h3; omega
  have hcl := calls_len l
  have htl : (l.take k.toNat).length = k.toNat := by rw [List.length_take]; omega
  refine ⟨by omega, by omega, fun _ => AV.sub_same _, fun hr => ?_⟩
  have hr : hRight l = true := by simpa using hr
  obtain ⟨r1, C⟩ := cuts hb hr hk1
  have hcm := commits_take hr k.toNat
  have hle := C.le
  refine ⟨by omega, by omega, fun y => ⟨⟨hk0, by omega⟩, by omega, by omega, fun y1 => ⟨⟨hk0, by omega⟩, by omega, by omega, fun h => ?_, fun _ => ⟨fun h => ?_, fun _ => ⟨⟨hk0, by omega⟩, by omega, by omega, fun y2 => ⟨by omega, by omega, fun y3 => ⟨fun h => ?_, fun _ => ?_⟩⟩⟩⟩⟩⟩⟩
  · rw [r1] at h; cases h
  · have := of_decide_eq_true h; omega
  · have := of_decide_eq_true h; omega
  · refine ⟨l60_ok, fun q => q = ⟨k.toNat, hCallsOf l, hCallsOf (l.take k.toNat), y, y1, by omega, by omega, hle, C.facts⟩, ⟨Nat.le_refl _, SImp.of_wk (ren := []) ⟨k.toNat, hCallsOf l, hCallsOf (l.take k.toNat), y, y1, by omega, by omega, hle, C.facts⟩ ?_ rfl⟩, ?_⟩
    · exact ⟨⟨AV.sub_int (by show k = (k.toNat : Int); omega), AV.sub_same _, AV.sub_same _, AV.sub_same _, AV.sub_lit', trivial⟩, ⟨.same _, .same _, trivial⟩, rfl, tl_ok rfl, ⟨.inr rfl, .inr rfl, trivial⟩, ⟨Nat.le_of_ble_eq_true rfl, rfl⟩⟩
    · rintro _ rfl
      refine ⟨fun _ he => ?_, fun _ _ => AV.sub_same _⟩
      intro r z hz
      have w : (((hCallsOf l).length : Int) == ((hCallsOf (l.take k.toNat)).length : Int)) = true := by
        have he' : (hCallsOf l).length ≤ (hCallsOf (l.take k.toNat)).length := he
        simp; omega
      exact hz.trans (congrArg Value.bool w)

end Sx
end Go.Proofs.Ytemcdjdglcceiaa
