/-
  A call's places are those of its own records, and each record is a place or an eviction.
-/
import Derived.Test.YtemcdjdglcceiaaHTrees7
namespace Go.Proofs.Ytemcdjdglcceiaa
namespace Sx
open Go
set_option linter.unusedSimpArgs false
set_option linter.unusedVariables false

theorem RInv.places {l : List Rec} {s : RD} (I : RInv l l.length s) : Places l s.cs := by
  refine ⟨fun i c h => ?_, fun i c h h0 => ?_, fun i c h h0 => ?_, fun i c d h1 h2 => I.up i (i + 1) c d (by omega) h1 h2⟩
  · obtain ⟨a, b, d, e, f, _⟩ := I.frm i c h
    exact ⟨a, b, d, e, f⟩
  · rcases I.at_ i c h with e | ⟨_, b, d⟩
    · omega
    · exact ⟨b, d⟩
  · rcases I.to_ i c h with e | ⟨_, _, b, d⟩
    · omega
    · exact ⟨b, d⟩

theorem sum_set (cs : List Cal) (k : Nat) (c x : Cal) (h : cs[k]? = some c) : ((cs.set k x).map placeCount).sum + placeCount c = (cs.map placeCount).sum + placeCount x := by
  induction cs generalizing k with
  | nil => simp at h
  | cons d cs ih =>
    cases k with
    | zero => simp at h; subst h; simp only [List.set_cons_zero, List.map_cons, List.sum_cons]; omega
    | succ k => simp at h; have := ih k h; simp only [List.set_cons_succ, List.map_cons, List.sum_cons]; omega

/-- Each record has its place. -/
theorem places_count {l : List Rec} (hb : ∀ i, (l.getD i r0).op < 9223372036854775808) : ∀ {n : Nat} {s : RD}, n ≤ l.length → readTo l n = some s → (s.cs.map placeCount).sum + goneTo l n = n
  | 0, s, _, h => by cases h; rfl
  | n + 1, s', hn, h => by
    obtain ⟨s, h1, e⟩ := Option.bind_eq_some_iff.1 h
    have ih := places_count hb (by omega) h1
    have I := readTo_inv hb h1
    have hlt : n < l.length := by omega
    have hg : goneTo l (n + 1) = goneTo l n + if (l.getD n r0).op < 0 then 1 else 0 := by
      unfold goneTo
      rw [List.take_succ_eq_append_getElem hlt, List.filter_append, List.length_append, getD_el r0 hlt]
      congr 1
      by_cases e : (l[n]).op < 0 <;> simp [e]
    rw [hg]
    generalize l.getD n r0 = r at e hg
    have n1 : one01 (-1) = 0 := rfl
    have nn : one01 (n : Int) = 1 := by unfold one01; rw [if_pos (by omega)]
    unfold RD.step at e
    split at e
    · cases e
    · split at e
      · rename_i hop
        split at e
        · cases e; rw [if_pos hop]; omega
        · cases e
      · rename_i hop
        rw [if_neg hop]
        split at e
        · unfold RD.invoke at e
          split at e
          · cases e
            show ((s.cs ++ [_]).map placeCount).sum + _ = _
            rw [List.map_append, List.sum_append]
            have : placeCount ⟨r.thread, r.op, n, -1, -1⟩ = 1 := by unfold placeCount; simp only [n1, nn]
            simp [this]; omega
          · cases e
        · unfold RD.follow at e
          split at e
          · cases e
          · rename_i o ho
            obtain ⟨k1, k2, k3, k4, c1, k5, k6, k7, k8, k9, k10⟩ := I.last _ _ ho
            have hd : s.cs.getD o.call.toNat c0 = c1 := by rw [List.getD_eq_getElem?_getD, k5]; rfl
            split at e
            · cases e
            · rename_i hno
              have hn3 : o.what ≠ 3 := fun h => hno (.inl h)
              have to1 : c1.to_ = -1 := Classical.byContradiction fun h => hn3 (k10.2 h)
              split at e
              · split at e
                · rename_i hm
                  cases e
                  obtain ⟨a1, a2⟩ := k8.1 hm.1
                  have := sum_set s.cs o.call.toNat c1 { c1 with at_ := (n : Int) } k5
                  have e0 : (s.upd r o fun c => { c with at_ := (n : Int) }).cs = s.cs.set o.call.toNat { c1 with at_ := (n : Int) } := by
                    show s.cs.set _ ((fun c : Cal => { c with at_ := (n : Int) }) (s.cs.getD o.call.toNat c0)) = _
                    rw [hd]
                  rw [e0]
                  have p1 : placeCount { c1 with at_ := (n : Int) } = placeCount c1 + 1 := by unfold placeCount; simp only [a1, n1, nn]; omega
                  omega
                · cases e
              · split at e
                · split at e
                  · cases e
                    have := sum_set s.cs o.call.toNat c1 { c1 with to_ := (n : Int) } k5
                    have e0 : (s.upd r o fun c => { c with to_ := (n : Int) }).cs = s.cs.set o.call.toNat { c1 with to_ := (n : Int) } := by
                      show s.cs.set _ ((fun c : Cal => { c with to_ := (n : Int) }) (s.cs.getD o.call.toNat c0)) = _
                      rw [hd]
                    rw [e0]
                    have p1 : placeCount { c1 with to_ := (n : Int) } = placeCount c1 + 1 := by unfold placeCount; simp only [to1, n1, nn]
                    omega
                  · cases e
                · cases e

theorem get_bound {l : List Rec} (hb : ∀ r ∈ l, r.op < 9223372036854775808) (i : Nat) : (l.getD i r0).op < 9223372036854775808 := by
  rcases Nat.lt_or_ge i l.length with h | h
  · rw [getD_el r0 h]; exact hb _ (List.getElem_mem h)
  · rw [List.getD_eq_getElem?_getD, List.getElem?_eq_none h]; decide
theorem places_calls {l : List Rec} (hb : ∀ r ∈ l, r.op < 9223372036854775808) : Places l (hCallsOf l) := by
  unfold hCallsOf hCalls
  cases e : readTo l l.length with
  | none => exact ⟨fun i c h => (by simp at h), fun i c h => (by simp at h), fun i c h => (by simp at h), fun i c d h => (by simp at h)⟩
  | some s => exact (readTo_inv (get_bound hb) e).places
theorem places_all {l : List Rec} (hb : ∀ r ∈ l, r.op < 9223372036854775808) (hr : hRight l = true) : placesTo (hCallsOf l) (hCallsOf l).length + goneTo l l.length = l.length := by
  unfold hRight hCalls at hr
  unfold placesTo hCallsOf hCalls
  cases e : readTo l l.length with
  | none => rw [e] at hr; cases hr
  | some s =>
    have := places_count (get_bound hb) (Nat.le_refl _) e
    show ((s.cs.take s.cs.length).map placeCount).sum + _ = _
    rw [List.take_length]; exact this

theorem ats_fact (q : PQ) {k : Nat} (hk : k < 3) : 0 ≤ (ats q).getD k 0 → (ats q).getD k 0 < q.l.length ∧ (q.l.getD ((ats q).getD k 0).toNat r0).what = (k : Int) + 1 ∧ (q.l.getD ((ats q).getD k 0).toNat r0).thread = (q.cs.getD q.i c0).thread ∧ (q.l.getD ((ats q).getD k 0).toNat r0).op = (q.cs.getD q.i c0).op := by
  have h : q.cs[q.i]? = some (q.cs.getD q.i c0) := by rw [getD_el c0 q.hi]; exact List.getElem?_eq_getElem q.hi
  match k, hk with
  | 0, _ => intro _; exact (q.O.frm _ _ h).2
  | 1, _ => intro h0; exact q.O.at_ _ _ h h0
  | 2, _ => intro h0; exact q.O.to_ _ _ h h0
theorem cnt_succ (q : PQ) {k : Nat} (hk : k < 3) : cntTo q (k + 1) = cntTo q k + one01 ((ats q).getD k 0) := by
  match k, hk with
  | 0, _ => simp [cntTo, ats]
  | 1, _ => simp [cntTo, ats]
  | 2, _ => simp [cntTo, ats]; omega
theorem cnt_three (q : PQ) : cntTo q 3 = placeCount (q.cs.getD q.i c0) := by simp [cntTo, ats, placeCount]; omega
theorem cnt_le (q : PQ) {k : Nat} (hk : k ≤ 3) : cntTo q k ≤ 3 := by
  have o : ∀ n, one01 n ≤ 1 := fun n => by unfold one01; split <;> omega
  match k, hk with
  | 0, _ => simp [cntTo]
  | 1, _ => have := o (q.cs.getD q.i c0).frm; simp [cntTo, ats] at this ⊢; omega
  | 2, _ => have := o (q.cs.getD q.i c0).frm; have := o (q.cs.getD q.i c0).at_; simp [cntTo, ats] at *; omega
  | 3, _ => have := o (q.cs.getD q.i c0).frm; have := o (q.cs.getD q.i c0).at_; have := o (q.cs.getD q.i c0).to_; simp [cntTo, ats] at *; omega
theorem placesTo_succ {cs : List Cal} {i : Nat} (h : i < cs.length) : placesTo cs (i + 1) = placesTo cs i + placeCount (cs.getD i c0) := by
  unfold placesTo
  rw [List.take_succ_eq_append_getElem h, List.map_append, List.sum_append, getD_el c0 h]
  simp
theorem placesTo_le (cs : List Cal) (i : Nat) : placesTo cs i ≤ 3 * cs.length := by
  have o : ∀ n, one01 n ≤ 1 := fun n => by unfold one01; split <;> omega
  have key : ∀ l : List Cal, (l.map placeCount).sum ≤ 3 * l.length := by
    intro l
    induction l with
    | nil => simp
    | cons c l ih =>
      have := o c.frm; have := o c.at_; have := o c.to_
      simp only [List.map_cons, List.sum_cons, List.length_cons, placeCount]; omega
  have := key (cs.take i)
  rw [List.length_take] at this
  unfold placesTo; omega

theorem body82 (q : PQ) (k : Nat) (hk : k ≤ 3) (Q : EX → St V → Prop) (F : AV → Heap V → Nat → Prop)
    (hnx : ∀ ST : St V, k < 3 → Wk 3 [] ST (I82 q (k + 1)) → Q .nx ST) (hex : ∀ ST : St V, Wk 3 [] ST (E82 q) → Q (.ex 2) ST) :
    (runCode cfgI 60 8 (loopOf Try.f8 2) (I82 q k) (stopT (trimSt [0, 3, 4, 5, 6, 7, 8] [0, 1, 2]))).holds ⟨Q, F⟩ := by
  rw [b82]
  have hb := q.hb
  have hi := q.hi
  have hle := placesTo_le q.cs q.i
  have hcl := cnt_le q hk
  have hF : k < 3 → 0 ≤ (ats q).getD k (V.enc Kd.int).dflt → (ats q).getD k (V.enc Kd.int).dflt < q.l.length ∧ (q.l.getD ((ats q).getD k (V.enc Kd.int).dflt).toNat (V.enc Kd.rcd).dflt).what = (k : Int) + 1 ∧ (q.l.getD ((ats q).getD k (V.enc Kd.int).dflt).toNat (V.enc Kd.rcd).dflt).thread = (q.cs.getD q.i (V.enc Kd.cal).dflt).thread ∧ (q.l.getD ((ats q).getD k (V.enc Kd.int).dflt).toNat (V.enc Kd.rcd).dflt).op = (q.cs.getD q.i (V.enc Kd.cal).dflt).op := fun h => ats_fact q h
  have hC : k < 3 → cntTo q (k + 1) = cntTo q k + one01 ((ats q).getD k (V.enc Kd.int).dflt) := fun h => cnt_succ q h
  have hw : k < 3 → IntKind.wrap .i64 ((k : Int) + 1) = ((k + 1 : Nat) : Int) := fun h => wrap_nat (by omega)
  have hn : IntKind.wrap .i64 (((placesTo q.cs q.i + cntTo q k : Nat) : Int) + 1) = ((placesTo q.cs q.i + cntTo q k + 1 : Nat) : Int) := wrap_nat (by omega)
  simp only [Out.holds, Nat.zero_add, decide_eq_true_eq, decide_eq_false_iff_not, bne_iff_ne, bne_eq_false_iff_eq]
  have o0 : ∀ v : Int, v < 0 → one01 v = 0 := fun v h => by unfold one01; rw [if_neg (by omega)]
  have o1 : ∀ v : Int, ¬ v < 0 → one01 v = 1 := fun v h => by unfold one01; rw [if_pos (by omega)]
  generalize (ats q).getD k (V.enc Kd.int).dflt = v at hF hC
  generalize q.l.getD v.toNat (V.enc Kd.rcd).dflt = r at hF
  generalize q.cs.getD q.i (V.enc Kd.cal).dflt = c at hF
  repeat' first | apply And.intro | intro _
  all_goals first
    | omega
    | (exfalso; have g := hF (by omega) (by omega); have g2 := hw (by omega); omega)
    | (have g := hF (by omega) (by omega); omega)
    | exact hnx _ (by omega) ⟨⟨AV.sub_same _, AV.sub_same _, AV.sub_same _, AV.sub_int (by rw [hC (by omega), o0 v (by omega)]; rfl), AV.sub_same _, AV.sub_same _, AV.sub_int (hw (by omega)), trivial⟩, ⟨.same _, .same _, .same _, trivial⟩, rfl, tl_ok rfl, ⟨.inr rfl, .inr rfl, .inr rfl, trivial⟩, ⟨Nat.le_of_ble_eq_true rfl, rfl⟩⟩
    | exact hnx _ (by omega) ⟨⟨AV.sub_same _, AV.sub_same _, AV.sub_same _, AV.sub_int (by rw [hn, hC (by omega), o1 v (by omega), Nat.add_assoc]), AV.sub_same _, AV.sub_same _, AV.sub_int (hw (by omega)), trivial⟩, ⟨.same _, .same _, .same _, trivial⟩, rfl, tl_ok rfl, ⟨.inr rfl, .inr rfl, .inr rfl, trivial⟩, ⟨Nat.le_of_ble_eq_true rfl, rfl⟩⟩
    | skip
  have e3 : k = 3 := by omega
  subst e3
  have e : placesTo q.cs q.i + cntTo q 3 = placesTo q.cs (q.i + 1) := by rw [placesTo_succ hi, cnt_three]
  exact hex _ ⟨⟨AV.sub_same _, AV.sub_same _, AV.sub_same _, AV.sub_int (by rw [e]), AV.sub_same _, trivial⟩, ⟨.same _, .same _, trivial⟩, rfl, tl_ok rfl, ⟨.inl (in_ok rfl), .inr rfl, .inr rfl, trivial⟩, ⟨Nat.le_of_ble_eq_true rfl, rfl⟩⟩
theorem l82_ok : LoopOk Try.prog 2 (loopOf Try.f8 2) L82 := by
  refine trimLoop_ok (trim_ok _ _) (loopTH_ok (C := cfgI) cfgI_ok (f := 8) (n := 60) (trim_ok [0, 3, 4, 5, 6, 7, 8] [0, 1, 2]) 3 I82 (fun q k => k ≤ 3) (fun _ => 0) (fun q k => 3 - k) (fun _ (_ : Unit) => True) (fun q _ => E82 q) (fun q => Nat.zero_le _) ?_)
  intro q k hk
  exact body82 q k hk _ _ (fun ST hlt hw => SImp.of_wk (k + 1) hw ⟨hlt, by omega⟩) (fun ST hw => ⟨rfl, SImp.of_wk () hw trivial⟩)
theorem cfg82_ok : cfg82.ok := ⟨cfgI_ok.τ, cfgI_ok.κ, cfgI_ok.mixed, cfgI_ok.fns, cfgI_ok.hooks⟩
theorem cfg80_ok : cfg80.ok := ⟨cfgI_ok.τ, cfgI_ok.κ, cfgI_ok.mixed, cfgI_ok.fns, cfgI_ok.hooks⟩

theorem body80 (p : PP) (i : Nat) (hi : i ≤ p.cs.length) (Q : EX → St V → Prop) (F : AV → Heap V → Nat → Prop)
    (hnx : ∀ ST : St V, i < p.cs.length → Wk 2 [] ST (I80 p (i + 1)) → Q .nx ST) (hex : ∀ ST : St V, i = p.cs.length → Wk 2 [] ST (I80 p i) → Q (.ex 0) ST) :
    (runCode cfg82 60 8 (loopOf Try.f8 0) (I80 p i) (stopT (trimSt [0, 3, 4, 5, 6] [0, 1]))).holds ⟨Q, F⟩ := by
  rw [b80]
  have hb := p.hb
  have hw : i < p.cs.length → IntKind.wrap .i64 ((i : Int) + 1) = ((i + 1 : Nat) : Int) := fun h => wrap_nat (by omega)
  have hd : IntKind.wrap .i64 ((i : Int) - 1) = (i : Int) - 1 := wrap_low (by omega) (by omega)
  have hF : i < p.cs.length → 0 ≤ (p.cs.getD i (V.enc Kd.cal).dflt).frm := fun h => (p.O.frm i _ (by rw [show p.cs.getD i (V.enc Kd.cal).dflt = p.cs[i] from getD_el c0 h]; exact List.getElem?_eq_getElem h)).1
  have hU : i < p.cs.length → 0 < i → (p.cs.getD ((i : Int) - 1).toNat (V.enc Kd.cal).dflt).frm < (p.cs.getD i (V.enc Kd.cal).dflt).frm := by
    intro h h0
    obtain ⟨j, rfl⟩ : ∃ j, i = j + 1 := ⟨i - 1, by omega⟩
    have ej : (((j + 1 : Nat) : Int) - 1).toNat = j := by omega
    rw [ej]
    exact p.O.up j _ _ (by rw [show p.cs.getD j (V.enc Kd.cal).dflt = p.cs[j] from getD_el c0 (by omega)]; exact List.getElem?_eq_getElem (by omega)) (by rw [show p.cs.getD (j + 1) (V.enc Kd.cal).dflt = p.cs[j + 1] from getD_el c0 h]; exact List.getElem?_eq_getElem h)
  simp only [Out.holds, Nat.zero_add, hd, decide_eq_true_eq, decide_eq_false_iff_not, bne_iff_ne, bne_eq_false_iff_eq]
  have r0 : ∀ a b c : Int, BSub (some (.cells 3 [.int .i64 a, .int .i64 b, .int .i64 c] : Blk V)) (.arr 3 Kd.int [a, b, c] 0) := fun a b c => BSub.rows (U := V) 3 Kd.int _ _ 3 rfl (by decide)
  refine ⟨fun h => ⟨by omega, by omega, by omega, by omega, by omega, by omega, l82_ok, fun q => q = ⟨p, i, by omega⟩, ⟨Nat.le_refl _, SImp.of_wk (ren := []) ⟨p, i, by omega⟩ ?_ rfl⟩, ?_⟩, fun h => hex _ (by omega) ?_⟩
  · exact ⟨⟨AV.sub_same _, AV.sub_same _, AV.sub_same _, AV.sub_same _, AV.sub_same _, AV.sub_same _, AV.sub_lit', trivial⟩, ⟨r0 _ _ _, .same _, .same _, trivial⟩, rfl, tl_ok rfl, ⟨.inl (in_ok rfl), .inr rfl, .inr rfl, trivial⟩, ⟨Nat.le_of_ble_eq_true rfl, rfl⟩⟩
  · rintro _ rfl _ _
    dsimp only at hF hU ⊢
    simp only [hd]
    have f0 := hF (by omega)
    refine ⟨by omega, by omega, fun h2 => ?_, fun h2 => ⟨fun h3 => ⟨by omega, by omega, by omega, by omega, fun h4 => ?_, fun h4 => ?_⟩, fun h3 => ?_⟩⟩
    · exact absurd h2 (by omega)
    · have := hU (by omega) (by omega)
      exact absurd h4 (by omega)
    · exact hnx _ (by omega) ⟨⟨AV.sub_same _, AV.sub_same _, AV.sub_same _, AV.sub_same _, AV.sub_int (hw (by omega)), trivial⟩, ⟨.same _, .same _, trivial⟩, rfl, tl_ok rfl, ⟨.inr rfl, .inr rfl, trivial⟩, ⟨Nat.le_of_ble_eq_true rfl, rfl⟩⟩
    · exact hnx _ (by omega) ⟨⟨AV.sub_same _, AV.sub_same _, AV.sub_same _, AV.sub_same _, AV.sub_int (hw (by omega)), trivial⟩, ⟨.same _, .same _, trivial⟩, rfl, tl_ok rfl, ⟨.inr rfl, .inr rfl, trivial⟩, ⟨Nat.le_of_ble_eq_true rfl, rfl⟩⟩
  · exact ⟨⟨AV.sub_same _, AV.sub_same _, AV.sub_same _, AV.sub_same _, AV.sub_same _, trivial⟩, ⟨.same _, .same _, trivial⟩, rfl, tl_ok rfl, ⟨.inr rfl, .inr rfl, trivial⟩, ⟨Nat.le_of_ble_eq_true rfl, rfl⟩⟩
theorem l80_ok : LoopOk Try.prog 0 (loopOf Try.f8 0) L80 := by
  refine trimLoop_ok (trim_ok _ _) (loopTH_ok (C := cfg82) cfg82_ok (f := 8) (n := 60) (trim_ok [0, 3, 4, 5, 6] [0, 1]) 2 I80 (fun p i => i ≤ p.cs.length) (fun _ => 0) (fun p i => p.cs.length - i) (fun _ (_ : Unit) => True) (fun p _ => I80 p p.cs.length) (fun p => Nat.zero_le _) ?_)
  intro p i hi
  exact body80 p i hi _ _ (fun ST hlt hw => SImp.of_wk (i + 1) hw ⟨hlt, by omega⟩) (fun ST he hw => ⟨rfl, SImp.of_wk () (by subst he; exact hw) trivial⟩)

theorem goneTo_succ {l : List Rec} {i : Nat} (h : i < l.length) : goneTo l (i + 1) = goneTo l i + if (l.getD i r0).op < 0 then 1 else 0 := by
  unfold goneTo
  rw [List.take_succ_eq_append_getElem h, List.filter_append, List.length_append, getD_el r0 h]
  congr 1
  by_cases e : (l[i]).op < 0 <;> simp [e]
theorem goneTo_le (l : List Rec) (i : Nat) : goneTo l i ≤ l.length := by
  unfold goneTo
  exact Nat.le_trans (List.length_filter_le _ _) (by rw [List.length_take]; omega)
theorem body84 (p : PP) (i : Nat) (hi : i ≤ p.l.length) (Q : EX → St V → Prop) (F : AV → Heap V → Nat → Prop)
    (hnx : ∀ ST : St V, i < p.l.length → Wk 2 [] ST (I84 p (i + 1)) → Q .nx ST) (hex : ∀ ST : St V, i = p.l.length → Wk 2 [] ST (I84 p i) → Q (.ex 4) ST) :
    (runCode cfgI 60 8 (loopOf Try.f8 4) (I84 p i) (stopT (trimSt [0, 3, 5, 9, 10] [0]))).holds ⟨Q, F⟩ := by
  rw [b84]
  have hb := p.hb
  have hle := goneTo_le p.l i
  have hw : i < p.l.length → IntKind.wrap .i64 ((i : Int) + 1) = ((i + 1 : Nat) : Int) := fun h => wrap_nat (by omega)
  have hv : IntKind.wrap .i64 ((goneTo p.l i : Int) + 1) = ((goneTo p.l i + 1 : Nat) : Int) := wrap_nat (by omega)
  have hs : i < p.l.length → goneTo p.l (i + 1) = goneTo p.l i + if (p.l.getD i (V.enc Kd.rcd).dflt).op < 0 then 1 else 0 := goneTo_succ
  simp only [Out.holds, Nat.zero_add, decide_eq_true_eq, decide_eq_false_iff_not]
  refine ⟨fun h => ⟨by omega, by omega, fun h2 => hnx _ (by omega) ?_, fun h2 => hnx _ (by omega) ?_⟩, fun h => hex _ (by omega) ?_⟩
  · exact ⟨⟨AV.sub_same _, AV.sub_same _, AV.sub_same _, AV.sub_int (by rw [hv, hs (by omega), if_pos h2]), AV.sub_int (hw (by omega)), trivial⟩, ⟨.same _, trivial⟩, rfl, tl_ok rfl, ⟨.inr rfl, trivial⟩, ⟨Nat.le_of_ble_eq_true rfl, rfl⟩⟩
  · exact ⟨⟨AV.sub_same _, AV.sub_same _, AV.sub_same _, AV.sub_int (by rw [hs (by omega), if_neg h2]; rfl), AV.sub_int (hw (by omega)), trivial⟩, ⟨.same _, trivial⟩, rfl, tl_ok rfl, ⟨.inr rfl, trivial⟩, ⟨Nat.le_of_ble_eq_true rfl, rfl⟩⟩
  · exact ⟨⟨AV.sub_same _, AV.sub_same _, AV.sub_same _, AV.sub_same _, AV.sub_same _, trivial⟩, ⟨.same _, trivial⟩, rfl, tl_ok rfl, ⟨.inr rfl, trivial⟩, ⟨Nat.le_of_ble_eq_true rfl, rfl⟩⟩
theorem l84_ok : LoopOk Try.prog 4 (loopOf Try.f8 4) L84 := by
  refine trimLoop_ok (trim_ok _ _) (loopTH_ok (C := cfgI) cfgI_ok (f := 8) (n := 60) (trim_ok [0, 3, 5, 9, 10] [0]) 2 I84 (fun p i => i ≤ p.l.length) (fun _ => 0) (fun p i => p.l.length - i) (fun _ (_ : Unit) => True) (fun p _ => I84 p p.l.length) (fun p => Nat.zero_le _) ?_)
  intro p i hi
  exact body84 p i hi _ _ (fun ST hlt hw => SImp.of_wk (i + 1) hw ⟨hlt, by omega⟩) (fun ST he hw => ⟨rfl, SImp.of_wk () (by subst he; exact hw) trivial⟩)

theorem places_law (l : List Rec) (c : Nat) (hb : ∀ r ∈ l, r.op < 9223372036854775808) : CallsSx Try.prog 8 [.sl false 0 0 8 l.length c] ([(0, .ro Kd.rcd l)] : Heap V) 1 (fun v _ _ _ => v.sub .tt) := by
  refine calls_runL (args := [.sl false 0 0 8 l.length c]) cfg80_ok (n := 60) (fn := Try.f8) ⟨by kernel_rfl, by kernel_rfl⟩ (by kernel_rfl) (show 1 ≤ _ by decide +kernel) ?_
  rw [t8]
  simp only [List.drop_zero, List.take_length]
  refine ⟨fun _ => AV.sub_same _, fun h1 => ?_⟩
  have hl : l.length ≤ 150 := by have := of_decide_eq_false h1; omega
  have hcl := calls_len l
  refine ⟨by omega, by omega, fun sp => ⟨l80_ok, fun q => q = ⟨l, c, hCallsOf l, sp, by omega, places_calls hb⟩, ⟨Nat.le_refl _, SImp.of_wk (ren := []) ⟨l, c, hCallsOf l, sp, by omega, places_calls hb⟩ ?_ rfl⟩, ?_⟩⟩
  · exact ⟨⟨AV.sub_same _, AV.sub_same _, AV.sub_same _, AV.sub_lit rfl, AV.sub_lit', trivial⟩, ⟨.same _, .same _, trivial⟩, rfl, tl_ok rfl, ⟨.inr rfl, .inr rfl, trivial⟩, ⟨Nat.le_of_ble_eq_true rfl, rfl⟩⟩
  · rintro _ rfl _ _
    refine ⟨l84_ok, fun q => q = ⟨l, c, hCallsOf l, sp, by omega, places_calls hb⟩, ⟨Nat.le_refl _, SImp.of_wk (ren := []) ⟨l, c, hCallsOf l, sp, by omega, places_calls hb⟩ ?_ rfl⟩, ?_⟩
    · exact ⟨⟨AV.sub_same _, AV.sub_same _, AV.sub_same _, AV.sub_lit rfl, AV.sub_lit', trivial⟩, ⟨.same _, trivial⟩, rfl, tl_ok rfl, ⟨.inr rfl, trivial⟩, ⟨Nat.le_of_ble_eq_true rfl, rfl⟩⟩
    · rintro _ rfl _ _
      refine ⟨by omega, (by show l.length ≤ _; omega), fun _ => AV.sub_same _, fun h => ?_⟩
      have e := places_all hb (by simpa using h)
      intro r z hz
      have w : (IntKind.wrap .i64 ((placesTo (hCallsOf l) (hCallsOf l).length : Int) + (goneTo l l.length : Int)) == (l.length : Int)) = true := by
        rw [wrap_low (by omega) (by omega)]; simp; omega
      exact hz.trans (congrArg Value.bool w)

end Sx
end Go.Proofs.Ytemcdjdglcceiaa
