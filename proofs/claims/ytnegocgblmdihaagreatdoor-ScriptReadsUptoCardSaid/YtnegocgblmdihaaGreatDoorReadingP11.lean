/-
  Scripts: the laws ScriptReads and ScriptBack.
-/
import Derived.Test.YtnegocgblmdihaaGreatDoorReadingP10
namespace Go.Proofs.YtnegocgblmdihaaGreatDoor
namespace Sx
open Go
set_option linter.unusedSimpArgs false
set_option linter.unusedVariables false

theorem hooksL_ok : ∀ g H, hooksL g = some H → HookOk Tryz.prog g H := by
  intro g H h
  unfold hooksL at h
  split at h
  · cases h; exact hookTrue_ok small_calls
  · cases h; exact hDec
  · cases h; exact hDec2
  · cases h; exact hEnc
  · cases h; exact hEnc2
  · cases h; exact hProgs
  · cases h; exact hInts
  · cases h
theorem cfgL_ok : cfgL.ok := ⟨tabP_met, kindsP_met, mixed_met, fun g fn h => (by cases h), hooksL_ok⟩

theorem ok_lens {c : Conf} {rows : List (List Opr)} {l : List Int} (h : okAll c rows l = true) : rows.length ≤ 8 ∧ (∀ r ∈ rows, r.length ≤ maxLen) ∧ (encRows rows).length ≤ 1032 := by
  simp only [okAll, Bool.and_eq_true, decide_eq_true_eq] at h
  obtain ⟨⟨⟨_, h2⟩, h3⟩, _⟩ := h
  refine ⟨h2, fun r hr => ?_, by have := encRows_le h3; omega⟩
  have := List.all_eq_true.1 h3 r hr
  simp only [okRow, Bool.and_eq_true, decide_eq_true_eq] at this
  simp only [maxLen]; omega
theorem lie_at {p : Pool} {w : Rwp} {hs : List Rwp} {c : Conf} {rows : List (List Opr)} {l : List Int} {g : RPool} (h : RowsLie p w hs rows) (hok : okAll c rows l = true) : RowsAt (p.see.join g) w.1 w.2.1 w.2.2 rows := by
  obtain ⟨h1, h2, _⟩ := ok_lens hok
  refine ⟨(h.sees h2).mono fun b o d e => .inl e, by rw [h.head.len, h.len], by rw [← h.len]; exact h.head.le, by simp only [maxLen]; omega⟩
theorem arg_at {f : RPool} {o : Option (Nat × Nat)} {n rc : Nat} {rows : List (List Opr)} (h : RowsAt f o n rc rows) (g : RPool) : RowsAt (g.join (f.join RPool.nil)) o n rc rows :=
  ⟨h.1.mono fun b o d e => .inr (.inl e), h.2.1, h.2.2.1, h.2.2.2⟩
theorem conf_same (a : Conf) : (a.c0 == a.c0 && (a.c1 == a.c1 && (a.c2 == a.c2 && (a.c3 == a.c3 && (a.c4 == a.c4 && (a.c5 == a.c5 && true)))))) = true := by simp
theorem nums_ok (l : List Int) : ∀ x ∈ l, (V.enc Kd.byte).enc x = [.int .u8 (numOf ((V.enc Kd.byte).enc x))] := fun x _ => rfl
theorem law3 (b : List Int) (bc : Nat) (c : Conf) (f : RPool) (o : Option (Nat × Nat)) (n rc : Nat) (l : List Int) (lc : Nat) (rows : List (List Opr)) (hb : Bytes b) (hR : RowsAt f o n rc rows) (hr : (encRows rows).length ≤ 16777216) :
    (runL cfgL 60 3 Tryz.f3 [.sl false 0 0 1 b.length bc, confArg c, .rw o n rc, .sl false 3 0 1 l.length lc] [(5, .pool Pool.nil), (0, .ro Kd.byte b), (3, .ro Kd.int l), (4, .rpool f)] 6).holds ⟨fun _ _ => False, fun v _ _ => v.sub .tt⟩ := by
  rw [ft3]
  simp only [List.drop_zero, List.take_length]
  have tt : (AV.tt).sub .tt := AV.sub_same _
  have bt : ∀ {b : Bool}, b = true → (AV.bool b).sub .tt := fun h => by subst h; exact AV.sub_same _
  refine ⟨fun _ => tt, fun h1 => ⟨fun _ => tt, fun h2 => ⟨fun _ => tt, fun h3 => ?_⟩⟩⟩
  have h1 := of_decide_eq_false h1
  have h3 := of_decide_eq_false h3
  have hok := dec_ok hb
  refine ⟨by omega, by omega, fun y => ⟨by omega, ⟨hb, by omega⟩, fun p1 sp1 hp1 => ⟨by omega, ⟨hb, by omega⟩, fun p2 sp2 hp2 => ⟨by omega, rows, ⟨arg_at hR _, by omega, hr⟩, fun y5 sp5 e5 => ⟨by omega, rows, ⟨arg_at hR _, by omega, hr⟩, fun y8 sp8 e8 => ?_⟩⟩⟩⟩⟩
  obtain ⟨_, hs1, l1⟩ := hp1
  obtain ⟨le2, hs2, l2⟩ := hp2
  have e58 : y5 = y8 := by rw [e5, e8]
  subst e58
  refine ⟨fun _ => ⟨(rowsOf b, rowsOf b), ⟨lie_at (l1.le le2) hok, lie_at l2 hok⟩, fun _ => ⟨by omega, by omega, ?_, fun _ => ⟨⟨by omega, trivial, nums_ok _⟩, ⟨by omega, trivial, nums_ok _⟩, fun _ => ⟨fun _ => ⟨⟨by omega, trivial, nums_ok _⟩, ⟨by omega, trivial, nums_ok _⟩, bt (beq_self_eq_true _)⟩, fun hf => ?_⟩, fun hf => ?_⟩, fun hf => ?_⟩, fun hf => ?_⟩, fun hf => ?_⟩
  · show (picksOf b).length ≤ _
    unfold picksOf; rw [List.length_drop]; omega
  · rw [beq_self_eq_true] at hf; cases hf
  · rw [beq_self_eq_true] at hf; cases hf
  · exact absurd trivial (of_decide_eq_false hf)
  · exact absurd rfl (of_decide_eq_false hf)
  · rw [conf_same] at hf; cases hf
theorem calls3 (b : List Int) (bc : Nat) (c : Conf) (f : RPool) (o : Option (Nat × Nat)) (n rc : Nat) (l : List Int) (lc : Nat) (rows : List (List Opr)) (hb : Bytes b) (hR : RowsAt f o n rc rows) (hr : (encRows rows).length ≤ 16777216) :
    CallsSx (U := V) Tryz.prog 3 [.sl false 0 0 1 b.length bc, confArg c, .rw o n rc, .sl false 3 0 1 l.length lc] [(0, .ro Kd.byte b), (3, .ro Kd.int l), (4, .rpool f)] 5 (fun v _ _ _ => v.sub .tt) :=
  CallsSx.nilPool (id := 5) (nx' := 6) (calls_runL cfgL_ok (n := 60) (fn := Tryz.f3) ⟨Tryz.func3, by kernel_rfl⟩ (by kernel_rfl) (show 4 ≤ _ by decide +kernel) (law3 b bc c f o n rc l lc rows hb hR hr)) rfl (by decide)
end Sx
end Go.Proofs.YtnegocgblmdihaaGreatDoor

