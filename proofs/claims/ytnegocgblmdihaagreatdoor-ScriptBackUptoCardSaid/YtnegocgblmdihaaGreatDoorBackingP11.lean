/-
  Scripts: the laws ScriptReads and ScriptBack.
-/
import Derived.Test.YtnegocgblmdihaaGreatDoorBackingP10
namespace Go.Proofs.YtnegocgblmdihaaGreatDoor
namespace Sx
open Go
set_option linter.unusedSimpArgs false
set_option linter.unusedVariables false

theorem hooksL_ok : ∀ g H, hooksL g = some H → HookOk Tryz.prog g H := by
  intro g H h
  unfold hooksL at h
  split at h
  · cases h; exact hookTrue_ok small_calls
  · cases h; exact hDec
  · cases h; exact hDec2
  · cases h; exact hEnc
  · cases h; exact hEnc2
  · cases h; exact hProgs
  · cases h; exact hInts
  · cases h
theorem cfgL_ok : cfgL.ok := ⟨tabP_met, kindsP_met, mixed_met, fun g fn h => (by cases h), hooksL_ok⟩

theorem ok_lens {c : Conf} {rows : List (List Opr)} {l : List Int} (h : okAll c rows l = true) : rows.length ≤ 8 ∧ (∀ r ∈ rows, r.length ≤ maxLen) ∧ (encRows rows).length ≤ 1032 := by
  simp only [okAll, Bool.and_eq_true, decide_eq_true_eq] at h
  obtain ⟨⟨⟨_, h2⟩, h3⟩, _⟩ := h
  refine ⟨h2, fun r hr => ?_, by have := encRows_le h3; omega⟩
  have := List.all_eq_true.1 h3 r hr
  simp only [okRow, Bool.and_eq_true, decide_eq_true_eq] at this
  simp only [maxLen]; omega
theorem lie_at {p : Pool} {w : Rwp} {hs : List Rwp} {c : Conf} {rows : List (List Opr)} {l : List Int} {g : RPool} (h : RowsLie p w hs rows) (hok : okAll c rows l = true) : RowsAt (p.see.join g) w.1 w.2.1 w.2.2 rows := by
  obtain ⟨h1, h2, _⟩ := ok_lens hok
  refine ⟨(h.sees h2).mono fun b o d e => .inl e, by rw [h.head.len, h.len], by rw [← h.len]; exact h.head.le, by simp only [maxLen]; omega⟩
theorem arg_at {f : RPool} {o : Option (Nat × Nat)} {n rc : Nat} {rows : List (List Opr)} (h : RowsAt f o n rc rows) (g : RPool) : RowsAt (g.join (f.join RPool.nil)) o n rc rows :=
  ⟨h.1.mono fun b o d e => .inr (.inl e), h.2.1, h.2.2.1, h.2.2.2⟩
theorem conf_same (a : Conf) : (a.c0 == a.c0 && (a.c1 == a.c1 && (a.c2 == a.c2 && (a.c3 == a.c3 && (a.c4 == a.c4 && (a.c5 == a.c5 && true)))))) = true := by simp
theorem enc_len {c : Conf} {rows : List (List Opr)} {l : List Int} : (encAll c rows l).length = 7 + (encRows rows).length + l.length := by
  unfold encAll encC; simp; omega

theorem law4 (b : List Int) (bc : Nat) (c : Conf) (f : RPool) (o : Option (Nat × Nat)) (n rc : Nat) (l : List Int) (lc : Nat) (rows : List (List Opr)) (hb : Bytes b) (hR : RowsAt f o n rc rows) (hr : (encRows rows).length ≤ 16777216) :
    (runL cfgL 60 4 Tryz.f4 [.sl false 0 0 1 b.length bc, confArg c, .rw o n rc, .sl false 3 0 1 l.length lc] [(5, .pool Pool.nil), (0, .ro Kd.byte b), (3, .ro Kd.int l), (4, .rpool f)] 6).holds ⟨fun _ _ => False, fun v _ _ => v.sub .tt⟩ := by
  rw [ft4]
  simp only [List.drop_zero, List.take_length]
  have tt : (AV.tt).sub .tt := AV.sub_same _
  have bt : ∀ {b : Bool}, b = true → (AV.bool b).sub .tt := fun h => by subst h; exact AV.sub_same _
  refine ⟨fun _ => tt, fun h1 => ⟨fun _ => tt, fun h2 => ⟨fun _ => tt, fun h3 => ?_⟩⟩⟩
  have h1 := of_decide_eq_false h1
  have h3 := of_decide_eq_false h3
  have hok := dec_ok hb
  have hpl : (picksOf b).length ≤ 2000 := by unfold picksOf; rw [List.length_drop]; omega
  have hrl : (encRows (rowsOf b)).length ≤ 16777216 := by have := (ok_lens hok).2.2; omega
  have elen : (encAll (confOf b) (rowsOf b) (picksOf b)).length ≤ 1073741824 := by rw [enc_len]; omega
  have eo : (encOut (confOf b) (rowsOf b) (picksOf b), encErr (confOf b) (rowsOf b) (picksOf b)) = (encAll (confOf b) (rowsOf b) (picksOf b), (0 : Int)) := by
    unfold encOut encErr; rw [hok]; rfl
  obtain ⟨d1, d2, d3⟩ := dec_enc hok
  refine ⟨by omega, rows, ⟨arg_at hR _, by omega, hr⟩, fun y1 sp1 e1 => ⟨fun hz => ?_, fun hz => ?_⟩⟩
  · have hok1 : okAll c rows l = true := by
      have e1 : y1 = (encOut c rows l, encErr c rows l) := e1
      rw [e1] at hz
      cases hk : okAll c rows l with
      | true => rfl
      | false =>
        have hz : (encErr c rows l == 0) = true := hz
        unfold encErr at hz; rw [hk] at hz; cases hz
    have e1 : y1 = (encAll c rows l, (0 : Int)) := by
      have e1 : y1 = (encOut c rows l, encErr c rows l) := e1
      rw [e1]; unfold encOut encErr; rw [hok1]; rfl
    subst e1
    obtain ⟨k1, k2, k3⟩ := dec_enc hok1
    simp only [k1, k2, k3]
    refine ⟨by omega, ⟨enc_bytes hok1, by rw [enc_len]; omega⟩, fun p1 s1 hp1 => ⟨fun hf => ?_, fun _ => ⟨(rows, rows), ⟨?_, arg_at hR _⟩, fun hf => ?_, fun _ => ⟨by omega, by omega, by omega, fun hf => ?_, fun _ => ?_⟩⟩⟩⟩
    · rw [conf_same] at hf; cases hf
    · obtain ⟨_, hs1, l1⟩ := hp1; exact lie_at l1 hok1
    · have hf : (!decide (rows = rows)) = true := hf
      simp at hf
    · simp at hf
    · refine ⟨by omega, ⟨hb, by omega⟩, fun p5 s5 hp5 => ⟨by omega, rowsOf b, ⟨?_, by omega, hrl⟩, fun y7 s7 e7 => ?_⟩⟩
      · obtain ⟨_, hs5, l5⟩ := hp5; exact lie_at l5 hok
      · have e7 : y7 = _ := e7.trans eo
        subst e7
        simp only [d1, d2, d3]
        refine ⟨by omega, ⟨enc_bytes hok, elen⟩, fun p9 s9 hp9 => ⟨fun _ => ⟨fun _ => ⟨(rowsOf b, rowsOf b), ⟨?_, ?_⟩, fun _ => ⟨by omega, by omega, by omega, bt (decide_eq_true trivial)⟩, fun hf => ?_⟩, fun hf => ?_⟩, fun hf => ?_⟩⟩
        · obtain ⟨_, hs9, l9⟩ := hp9; exact lie_at l9 hok
        · obtain ⟨_, hs5, l5⟩ := hp5
          obtain ⟨le9, hs9, l9⟩ := hp9; exact lie_at (l5.le le9) hok
        · exact absurd rfl (of_decide_eq_false hf)
        · rw [conf_same] at hf; cases hf
        · cases hf
  · refine ⟨by omega, ⟨hb, by omega⟩, fun p5 s5 hp5 => ⟨by omega, rowsOf b, ⟨?_, by omega, hrl⟩, fun y7 s7 e7 => ?_⟩⟩
    · obtain ⟨_, hs5, l5⟩ := hp5; exact lie_at l5 hok
    · have e7 : y7 = _ := e7.trans eo
      subst e7
      simp only [d1, d2, d3]
      refine ⟨by omega, ⟨enc_bytes hok, elen⟩, fun p9 s9 hp9 => ⟨fun _ => ⟨fun _ => ⟨(rowsOf b, rowsOf b), ⟨?_, ?_⟩, fun _ => ⟨by omega, by omega, by omega, bt (decide_eq_true trivial)⟩, fun hf => ?_⟩, fun hf => ?_⟩, fun hf => ?_⟩⟩
      · obtain ⟨_, hs9, l9⟩ := hp9; exact lie_at l9 hok
      · obtain ⟨_, hs5, l5⟩ := hp5
        obtain ⟨le9, hs9, l9⟩ := hp9; exact lie_at (l5.le le9) hok
      · exact absurd rfl (of_decide_eq_false hf)
      · rw [conf_same] at hf; cases hf
      · cases hf
theorem calls4 (b : List Int) (bc : Nat) (c : Conf) (f : RPool) (o : Option (Nat × Nat)) (n rc : Nat) (l : List Int) (lc : Nat) (rows : List (List Opr)) (hb : Bytes b) (hR : RowsAt f o n rc rows) (hr : (encRows rows).length ≤ 16777216) :
    CallsSx (U := V) Tryz.prog 4 [.sl false 0 0 1 b.length bc, confArg c, .rw o n rc, .sl false 3 0 1 l.length lc] [(0, .ro Kd.byte b), (3, .ro Kd.int l), (4, .rpool f)] 5 (fun v _ _ _ => v.sub .tt) :=
  CallsSx.nilPool (id := 5) (nx' := 6) (calls_runL cfgL_ok (n := 60) (fn := Tryz.f4) ⟨Tryz.func4, by kernel_rfl⟩ (by kernel_rfl) (show 4 ≤ _ by decide +kernel) (law4 b bc c f o n rc l lc rows hb hR hr)) rfl (by decide)
end Sx
end Go.Proofs.YtnegocgblmdihaaGreatDoor

