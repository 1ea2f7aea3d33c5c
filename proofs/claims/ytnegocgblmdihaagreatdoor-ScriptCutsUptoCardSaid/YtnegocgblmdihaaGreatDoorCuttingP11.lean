/-
  Scripts: the laws ScriptReads and ScriptBack.
-/
import Derived.Test.YtnegocgblmdihaaGreatDoorCuttingP10
namespace Go.Proofs.YtnegocgblmdihaaGreatDoor
namespace Sx
open Go
set_option linter.unusedSimpArgs false
set_option linter.unusedVariables false

theorem hooksL_ok : ∀ g H, hooksL g = some H → HookOk Tryz.prog g H := by
  intro g H h
  unfold hooksL at h
  split at h
  · cases h; exact hookTrue_ok small_calls
  · cases h; exact hDec
  · cases h; exact hDec2
  · cases h; exact hEnc
  · cases h; exact hEnc2
  · cases h; exact hProgs
  · cases h; exact hInts
  · cases h
theorem ok_lens {c : Conf} {rows : List (List Opr)} {l : List Int} (h : okAll c rows l = true) : rows.length ≤ 8 ∧ (∀ r ∈ rows, r.length ≤ maxLen) ∧ (encRows rows).length ≤ 1032 := by
  simp only [okAll, Bool.and_eq_true, decide_eq_true_eq] at h
  obtain ⟨⟨⟨_, h2⟩, h3⟩, _⟩ := h
  refine ⟨h2, fun r hr => ?_, by have := encRows_le h3; omega⟩
  have := List.all_eq_true.1 h3 r hr
  simp only [okRow, Bool.and_eq_true, decide_eq_true_eq] at this
  simp only [maxLen]; omega
theorem lie_at {p : Pool} {w : Rwp} {hs : List Rwp} {c : Conf} {rows : List (List Opr)} {l : List Int} {g : RPool} (h : RowsLie p w hs rows) (hok : okAll c rows l = true) : RowsAt (p.see.join g) w.1 w.2.1 w.2.2 rows := by
  obtain ⟨h1, h2, _⟩ := ok_lens hok
  refine ⟨(h.sees h2).mono fun b o d e => .inl e, by rw [h.head.len, h.len], by rw [← h.len]; exact h.head.le, by simp only [maxLen]; omega⟩
theorem arg_at {f : RPool} {o : Option (Nat × Nat)} {n rc : Nat} {rows : List (List Opr)} (h : RowsAt f o n rc rows) (g : RPool) : RowsAt (g.join (f.join RPool.nil)) o n rc rows :=
  ⟨h.1.mono fun b o d e => .inr (.inl e), h.2.1, h.2.2.1, h.2.2.2⟩
theorem conf_same (a : Conf) : (a.c0 == a.c0 && (a.c1 == a.c1 && (a.c2 == a.c2 && (a.c3 == a.c3 && (a.c4 == a.c4 && (a.c5 == a.c5 && true)))))) = true := by simp
theorem enc_len {c : Conf} {rows : List (List Opr)} {l : List Int} : (encAll c rows l).length = 7 + (encRows rows).length + l.length := by
  unfold encAll encC; simp; omega

end Sx
end Go.Proofs.YtnegocgblmdihaaGreatDoor

/-
  Scripts: the law ScriptCuts.
-/
namespace Go.Proofs.YtnegocgblmdihaaGreatDoor
namespace Sx
open Go
set_option linter.unusedSimpArgs false
set_option linter.unusedVariables false

theorem enc_app (c : Conf) (rows : List (List Opr)) (l more : List Int) : encAll c rows l ++ more = encAll c rows (l ++ more) := by simp [encAll]
theorem ok_app {c : Conf} {rows : List (List Opr)} {l more : List Int} (h : okAll c rows l = true) (hm : Bytes more) : okAll c rows (l ++ more) = true := by
  simp only [okAll, Bool.and_eq_true, decide_eq_true_eq, List.all_eq_true] at h ⊢
  refine ⟨h.1, fun x hx => ?_⟩
  rcases List.mem_append.1 hx with h1 | h1
  · exact h.2 x h1
  · exact isB_iff.2 (hm x h1)
theorem enc_take {c : Conf} {rows : List (List Opr)} {l : List Int} {i : Nat} (h : (encAll c rows l).length ≤ i + l.length) : (encAll c rows l).take i = encAll c rows (l.take (i + l.length - (encAll c rows l).length)) := by
  have e : ∀ l, encAll c rows l = (encC c ++ (rows.length : Int) :: encRows rows) ++ l := fun l => by simp [encAll]
  rw [e, e]
  rw [e, List.length_append] at h
  rw [List.take_append, List.take_of_length_le (by omega), List.length_append (bs := l)]
  rw [show i + l.length - ((encC c ++ (rows.length : Int) :: encRows rows).length + l.length) = i - (encC c ++ (rows.length : Int) :: encRows rows).length by omega]
theorem ok_take {c : Conf} {rows : List (List Opr)} {l : List Int} {k : Nat} (h : okAll c rows l = true) : okAll c rows (l.take k) = true := by
  simp only [okAll, Bool.and_eq_true, decide_eq_true_eq, List.all_eq_true] at h ⊢
  exact ⟨h.1, fun x hx => h.2 x (List.mem_of_mem_take hx)⟩

theorem l50_ok : LoopOk Tryz.prog 0 (loopOf Tryz.f5 0) L50 := by
  refine trimLoop_ok (trim_ok _ _) (loopT_ok (C := cfg0) cfg0_ok (f := 5) (n := 60) (trim_ok [1, 2, 3, 4, 9, 10, 12, 13, 14, 15] [2, 3, 4, 5, 6, 7, 11, 12]) 14 I5 (fun p i => C5 p i) (fun p => p.b.length) (fun p i => i)
    (fun p (i : Nat) => C5 p i) (fun p i => I5 p i) (fun p (_ : Unit) => False) (fun p _ => I5 p 0) (fun p => ⟨Nat.le_refl _, by omega, by simp⟩) ?_)
  intro p i hC
  have hC' := hC
  obtain ⟨hi, hl, hz⟩ := hC
  rw [b50]
  have hl0 := p.hl
  have hb0 := p.hb
  have hw : IntKind.wrap .i64 ((p.b.length : Int) - (p.l.length : Int)) = (p.b.length : Int) - (p.l.length : Int) := wrap_low (by omega) (by omega)
  have endx : SImp 14 (I5 p i) (fun j => I5 p j) (fun j => C5 p j) := by
    refine SImp.of_wk (ren := []) i ?_ hC'
    exact ⟨⟨AV.sub_same _, AV.sub_same _, AV.sub_same _, AV.sub_same _, AV.sub_same _, AV.sub_same _, AV.sub_same _, AV.sub_same _, AV.sub_same _, AV.sub_same _, trivial⟩, ⟨.same _, .same _, .same _, .same _, .same _, .same _, .same _, .same _, trivial⟩, rfl, tl_ok rfl, ⟨.inr rfl, .inr rfl, .inr rfl, .inr rfl, .inr rfl, .inr rfl, .inr rfl, .inr rfl, trivial⟩, ⟨Nat.le_of_ble_eq_true rfl, rfl⟩⟩
  refine ⟨fun h1 => ?_, fun h1 => ⟨rfl, endx⟩⟩
  have h1 := of_decide_eq_true h1
  have hw1 : IntKind.wrap .i64 ((i : Int) - 1) = ((i - 1 : Nat) : Int) := by rw [wrap_low (by omega) (by omega)]; omega
  rw [hw1]
  refine ⟨⟨by omega, by omega⟩, by omega, fun h2 => ⟨fun h3 => ?_, fun h3 => ⟨rfl, endx⟩⟩, fun h2 => ⟨rfl, endx⟩⟩
  have h3 := of_decide_eq_true h3
  rw [hw] at h3
  rw [Int.toNat_natCast, Nat.zero_add] at h2
  have h2 : p.b.getD (i - 1) 0 = 0 := eq_of_beq h2
  refine SImp.of_wk (ren := []) (i - 1) ?_ ⟨⟨by omega, by omega, ?_⟩, by omega⟩
  · exact ⟨⟨AV.sub_same _, AV.sub_same _, AV.sub_same _, AV.sub_same _, AV.sub_same _, AV.sub_same _, AV.sub_same _, AV.sub_same _, AV.sub_same _, AV.sub_same _, trivial⟩, ⟨.same _, .same _, .same _, .same _, .same _, .same _, .same _, .same _, trivial⟩, rfl, tl_ok rfl, ⟨.inr rfl, .inr rfl, .inr rfl, .inr rfl, .inr rfl, .inr rfl, .inr rfl, .inr rfl, trivial⟩, ⟨Nat.le_of_ble_eq_true rfl, rfl⟩⟩
  · have e := List.drop_eq_getElem_cons (l := p.b) (i := i - 1) (by omega)
    rw [List.getD_eq_getElem?_getD, List.getElem?_eq_getElem (by omega)] at h2
    have h2 : p.b[i - 1] = 0 := h2
    rw [e, h2, show i - 1 + 1 = i by omega, hz, show p.b.length - (i - 1) = (p.b.length - i) + 1 by omega, List.replicate_succ]
theorem l52_ok : LoopOk Tryz.prog 2 (loopOf Tryz.f5 2) L52 := by
  refine trimLoop_ok (trim_ok _ _) (loopT_ok (C := cfg0) cfg0_ok (f := 5) (n := 60) (trim_ok [2, 3, 8, 9, 14, 19] [2, 3, 11]) 20 I6 (fun p i => i ≤ p.more.length ∧ (p.q.drop p.l.length).take i = p.more.take i) (fun _ => 0) (fun p i => p.more.length - i)
    (fun p (_ : Unit) => p.q.drop p.l.length = p.more) (fun p _ => I6 p p.more.length) (fun p (_ : Unit) => p.q.drop p.l.length ≠ p.more) (fun p _ => R6 p) (fun p => ⟨Nat.zero_le _, rfl⟩) ?_)
  intro p i ⟨hi, ht⟩
  rw [b52]
  have hl := p.hl
  have hm := p.hm
  have hq := p.hq
  have hw0 : IntKind.wrap .i64 ((p.l.length : Int) + (i : Int)) = ((p.l.length + i : Nat) : Int) := by rw [wrap_low (by omega) (by omega)]; omega
  have hd : (p.q.drop p.l.length).length = p.more.length := by rw [List.length_drop]; omega
  rw [hw0]
  refine ⟨fun h1 => ?_, fun h1 => ⟨rfl, ?_⟩⟩
  · have hlt := of_decide_eq_true h1
    have hlt : i < p.more.length := by omega
    refine ⟨⟨by omega, by omega⟩, by omega, ⟨by omega, by omega⟩, by omega, fun h2 => ?_, fun h2 => ?_⟩
    · rw [Int.toNat_natCast, Nat.zero_add, Nat.zero_add] at h2
      have hbt := p.hy _ (List.getElem_mem hlt)
      have e2 : p.more.getD i (V.enc Kd.byte).dflt = p.more[i] := by rw [List.getD_eq_getElem?_getD, List.getElem?_eq_getElem hlt]; rfl
      rw [e2, wrap_low (by omega) (by omega)] at h2
      have h2 := bne_iff_ne.1 h2
      refine SImp.of_wk (ren := []) () ?_ (fun e => h2 ?_)
      · exact ⟨⟨AV.sub_same _, trivial⟩, ⟨.same _, .same _, .same _, trivial⟩, rfl, tl_ok rfl, ⟨.inr rfl, .inr rfl, .inr rfl, trivial⟩, ⟨Nat.le_of_ble_eq_true rfl, rfl⟩⟩
      · have e3 : (p.q.drop p.l.length)[i]? = p.more[i]? := by rw [e]
        rw [List.getElem?_drop, List.getElem?_eq_getElem hlt] at e3
        rw [List.getD_eq_getElem?_getD, e3]; rfl
    · rw [Int.toNat_natCast, Nat.zero_add, Nat.zero_add] at h2
      have hbt := p.hy _ (List.getElem_mem hlt)
      have e2 : p.more.getD i (V.enc Kd.byte).dflt = p.more[i] := by rw [List.getD_eq_getElem?_getD, List.getElem?_eq_getElem hlt]; rfl
      rw [e2, wrap_low (by omega) (by omega)] at h2
      have h2 := bne_eq_false_iff_eq.1 h2
      have hw : IntKind.wrap .i64 ((i : Int) + 1) = ((i + 1 : Nat) : Int) := wrap_nat (by omega)
      refine SImp.of_wk (ren := []) (i + 1) ?_ ⟨⟨hlt, take_next (d := 0) (by omega) hlt ht ?_⟩, by omega⟩
      · exact ⟨⟨AV.sub_same _, AV.sub_same _, AV.sub_same _, AV.sub_same _, AV.sub_int hw, trivial⟩, ⟨.same _, .same _, .same _, trivial⟩, rfl, tl_ok rfl, ⟨.inr rfl, .inr rfl, .inr rfl, trivial⟩, ⟨Nat.le_of_ble_eq_true rfl, rfl⟩⟩
      · rw [List.getD_eq_getElem?_getD, List.getElem?_drop, List.getD_eq_getElem?_getD, List.getElem?_eq_getElem hlt]
        rw [List.getD_eq_getElem?_getD] at h2
        exact h2
  · have hge := of_decide_eq_false h1
    have he : i = p.more.length := by omega
    refine SImp.of_wk (ren := []) () ?_ (by rwa [List.take_of_length_le (by omega), List.take_of_length_le (by omega)] at ht)
    exact ⟨⟨AV.sub_same _, AV.sub_same _, AV.sub_same _, AV.sub_same _, AV.sub_int (by rw [he]), trivial⟩, ⟨.same _, .same _, .same _, trivial⟩, rfl, tl_ok rfl, ⟨.inr rfl, .inr rfl, .inr rfl, trivial⟩, ⟨Nat.le_of_ble_eq_true rfl, rfl⟩⟩

theorem hooksC_ok : cfgC.ok := ⟨tabP_met, kindsP_met, mixed_met, fun g fn h => (by cases h), hooksL_ok⟩
theorem arg_at' {f : RPool} {o : Option (Nat × Nat)} {n rc : Nat} {rows : List (List Opr)} (h : RowsAt f o n rc rows) (g : RPool) : RowsAt (f.join g) o n rc rows :=
  ⟨h.1.mono fun b o d e => .inl e, h.2.1, h.2.2.1, h.2.2.2⟩
theorem seen_at {p : Pool} {w : Rwp} {hs : List Rwp} {c : Conf} {rows : List (List Opr)} {l : List Int} (h : RowsLie p w hs rows) (hok : okAll c rows l = true) (f : RPool) : RowsAt (f.join (p.see.join RPool.nil)) w.1 w.2.1 w.2.2 rows := by
  obtain ⟨h1, h2, h3, h4⟩ := lie_at (g := RPool.nil) h hok
  exact ⟨h1.mono fun b o d e => .inr e, h2, h3, h4⟩
theorem law5 (c : Conf) (f : RPool) (o : Option (Nat × Nat)) (n rc : Nat) (l more : List Int) (lc mc : Nat) (rows : List (List Opr)) (hm : Bytes more) (hR : RowsAt f o n rc rows) (hr : (encRows rows).length ≤ 16777216) :
    (runL cfgC 60 5 Tryz.f5 [confArg c, .rw o n rc, .sl false 2 0 1 l.length lc, .sl false 3 0 1 more.length mc] [(5, .pool Pool.nil), (2, .ro Kd.int l), (3, .ro Kd.byte more), (4, .rpool f)] 6).holds ⟨fun _ _ => False, fun v _ _ => v.sub .tt⟩ := by
  rw [ft5]
  simp only [List.drop_zero, List.take_length, ← List.length_append]
  have tt : (AV.tt).sub .tt := AV.sub_same _
  have bt : ∀ {b : Bool}, b = true → (AV.bool b).sub .tt := fun h => by subst h; exact AV.sub_same _
  refine ⟨fun _ => tt, fun h1 => ⟨fun _ => tt, fun h2 => ⟨fun _ => tt, fun h3 => ?_⟩⟩⟩
  have h1 := of_decide_eq_false h1
  have h2 := of_decide_eq_false h2
  have h3 := of_decide_eq_false h3
  refine ⟨by omega, rows, ⟨arg_at hR _, by omega, hr⟩, fun y1 sp1 e1 => ⟨fun hz => ?_, fun hz => ?_⟩⟩
  · have e1 : y1 = (encOut c rows l, encErr c rows l) := e1
    subst e1
    cases hk : okAll c rows l with
    | true =>
      have hz : (encErr c rows l != 0) = true := hz
      unfold encErr at hz; rw [hk] at hz; cases hz
    | false =>
      refine bt ?_
      show ((((encOut c rows l).length : Nat) : Int) == 0) = true
      unfold encOut; rw [hk]; rfl
  · have e1 : y1 = (encOut c rows l, encErr c rows l) := e1
    have hok : okAll c rows l = true := by
      rw [e1] at hz
      cases hk : okAll c rows l with
      | true => rfl
      | false =>
        have hz : (encErr c rows l != 0) = false := hz
        unfold encErr at hz; rw [hk] at hz; cases hz
    have e1 : y1 = (encAll c rows l, (0 : Int)) := by
      rw [e1]; unfold encOut encErr; rw [hok]; rfl
    subst e1
    obtain ⟨ol1, ol2, ol3⟩ := ok_lens hok
    have elen : (encAll c rows l).length ≤ 1048576 := by rw [enc_len]; omega
    have hok2 := ok_app hok hm
    obtain ⟨k1, k2, k3⟩ := dec_enc hok2
    have hby := enc_bytes hok2
    simp only [enc_app, k1, k2, k3]
    have elen2 : (encAll c rows (l ++ more)).length ≤ 1048576 := by rw [enc_len, List.length_append]; omega
    have wq : IntKind.wrap .i64 ((l.length : Int) + (more.length : Int)) = (l.length : Int) + (more.length : Int) := wrap_low (by omega) (by omega)
    refine ⟨by omega, by omega, fun sp2 => ⟨by omega, rfl, ⟨trivial, trivial, by omega⟩, fun sp3 => ⟨by omega, ⟨hby, by omega⟩, fun p4 s4 hp4 => ?_⟩⟩⟩
    obtain ⟨_, hs4, l4⟩ := hp4
    refine ⟨l50_ok, (fun p => p = ⟨c, o, n, rc, f, l, lc, more, mc, encAll c rows l, sp1, c, l ++ more, s4, p4, by omega, by omega⟩), ⟨Nat.le_refl _, SImp.of_wk (ren := []) _ ?_ rfl⟩, ?_⟩
    · exact ⟨⟨AV.sub_same _, AV.sub_same _, AV.sub_same _, AV.sub_same _, AV.sub_same _, AV.sub_same _, AV.sub_same _, AV.sub_same _, AV.sub_same _, AV.sub_same _, trivial⟩, ⟨.same _, .same _, .same _, .same _, .same _, .same _, .same _, .same _, trivial⟩, rfl, tl_ok rfl, ⟨.inr rfl, .inr rfl, .inr rfl, .inr rfl, .inr rfl, .inr rfl, .inr rfl, .inr rfl, trivial⟩, ⟨Nat.le_of_ble_eq_true rfl, rfl⟩⟩
    rintro _ rfl
    refine ⟨fun i hi => ?_, fun _ h => h.elim⟩
    obtain ⟨hi1, hi2, _⟩ := hi
    have hi1 : i ≤ (encAll c rows l).length := hi1
    have hi2 : (encAll c rows l).length ≤ i + l.length := hi2
    have et := enc_take (c := c) (rows := rows) (l := l) hi2
    have hok3 := ok_take (k := i + l.length - (encAll c rows l).length) hok
    obtain ⟨j1, j2, j3⟩ := dec_enc hok3
    have et3 : (List.take i (encAll c rows l)).length ≤ 1073741824 := by rw [List.length_take]; omega
    dsimp only
    rw [et] at et3 ⊢
    simp only [j1, j2]
    refine ⟨⟨by omega, .inl (by omega)⟩, by omega, ⟨enc_bytes hok3, et3⟩, fun p6 s6 hp6 => ?_⟩
    obtain ⟨le6, hs6, l6⟩ := hp6
    have hm2 : ((l ++ more).length : Int) = (l.length : Int) + (more.length : Int) := by rw [List.length_append]; omega
    refine ⟨fun hf => ?_, fun _ => ⟨fun hf => ?_, fun _ => ⟨fun hf => ?_, fun _ => ⟨(rows, rows), ⟨?_, ?_⟩, ⟨fun hf => ?_, fun _ => ⟨(rows, rows), ⟨?_, ?_⟩, ⟨fun hf => ?_, fun _ => ⟨l52_ok, (fun p => p = ⟨l, lc, more, mc, l ++ more, s4, by omega, by omega, by rw [List.length_append], hm⟩), ⟨Nat.le_of_ble_eq_true rfl, SImp.of_wk (ren := []) _ ?_ rfl⟩, ?_⟩⟩⟩⟩⟩⟩⟩⟩
    · rw [wq, hm2] at hf; simp at hf
    · rw [conf_same] at hf; cases hf
    · rw [conf_same] at hf; cases hf
    · exact seen_at (l4.le le6) hok f
    · exact arg_at' hR _
    · simp at hf
    · exact seen_at l6 hok f
    · exact arg_at' hR _
    · simp at hf
    · exact ⟨⟨AV.sub_same _, AV.sub_same _, AV.sub_same _, AV.sub_same _, AV.sub_lit', trivial⟩, ⟨.same _, .same _, .same _, trivial⟩, rfl, tl_ok rfl, ⟨.inr rfl, .inr rfl, .inr rfl, trivial⟩, ⟨Nat.le_of_ble_eq_true rfl, rfl⟩⟩
    · rintro _ rfl
      dsimp only
      have hql : l.length ≤ (l ++ more).length := by rw [List.length_append]; omega
      have hn : ((l.length : Int)).toNat = l.length := Int.toNat_natCast _
      refine ⟨fun _ _ => ⟨⟨by omega, .inl (by omega)⟩, by omega, by omega, ?_, bt (decide_eq_true ?_)⟩, fun _ e => absurd ?_ e⟩
      · rw [hn, List.take_left]; omega
      · rw [hn, List.take_left]
      · exact List.drop_left
theorem calls5 (c : Conf) (f : RPool) (o : Option (Nat × Nat)) (n rc : Nat) (l : List Int) (lc : Nat) (more : List Int) (mc : Nat) (rows : List (List Opr)) (hR : RowsAt f o n rc rows) (hr : (encRows rows).length ≤ 16777216) (hm : Bytes more) :
    CallsSx (U := V) Tryz.prog 5 [confArg c, .rw o n rc, .sl false 2 0 1 l.length lc, .sl false 3 0 1 more.length mc] [(2, .ro Kd.int l), (3, .ro Kd.byte more), (4, .rpool f)] 5 (fun v _ _ _ => v.sub .tt) :=
  CallsSx.nilPool (id := 5) (nx' := 6) (calls_runL hooksC_ok (n := 60) (fn := Tryz.f5) ⟨Tryz.func5, by kernel_rfl⟩ (by kernel_rfl) (show 4 ≤ _ by decide +kernel) (law5 c f o n rc l more lc mc rows hm hR hr)) rfl (by decide)
end Sx
end Go.Proofs.YtnegocgblmdihaaGreatDoor

