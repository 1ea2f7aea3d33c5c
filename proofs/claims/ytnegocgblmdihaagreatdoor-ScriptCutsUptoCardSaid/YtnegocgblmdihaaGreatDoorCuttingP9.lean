/-
  errors.Is of two error numbers: walked once (its text, and that of errors.is), handed to the executor as a hook.
-/
import Derived.Test.YtnegocgblmdihaaGreatDoorCuttingP8
import Derived.WalkKit
import Derived.LaidEql
import Derived.Stop.Asserts
import Derived.RowKitTokens
namespace Go.Proofs.YtnegocgblmdihaaGreatDoor
open Go.RowKit Go.Extern.Stop Go.Stop Go.Extern

theorem Is.typeOf (v : Value) (w : World) : (Extern.ReflectliteType.typeOf #[.iface 30 v]).run Tryz.prog w = .ok (.iface 270 (.agg #[.pointer (some ⟨1, 30, none⟩)])) w := by kernel_rfl
theorem Is.comparable (w : World) : ((Extern.ReflectliteType.method fun t => do Go.Extern.Rtype.noPackHeld "Comparable" t; (fun a => Value.bool a.comparable) <$> typeInfo t) #[.agg #[.pointer (some ⟨1, 30, none⟩)]]).run Tryz.prog w = .ok (.bool true) w := by kernel_rfl
theorem Is.methodComparable (v : Value) (w : World) : (Go.method 481 270 v "Comparable").run Tryz.prog w = .ok (270, v) w := by kernel_rfl
theorem Is.underlyingI : Tryz.prog.underlying 272 = some (.interface #[("Is", 274)]) := by kernel_rfl
theorem Is.underlyingU : Tryz.prog.underlying 275 = some (.interface #[("Unwrap", 213)]) := by kernel_rfl
theorem Is.underlyingS : Tryz.prog.underlying 276 = some (.interface #[("Unwrap", 278)]) := by kernel_rfl
theorem Is.noIs (v : Value) (xT : TypeId) (w : World) : (Instr.typeAssert (.iface 30 v) xT 272 true).run Tryz.prog w = .ok (.tuple #[.nilIface, .bool false]) w := run_typeAssert_lacksB Is.underlyingI (by kernel_rfl) (by kernel_rfl) v xT w
theorem Is.noUnwrap (v : Value) (xT : TypeId) (w : World) : (Instr.typeAssert (.iface 30 v) xT 275 true).run Tryz.prog w = .ok (.tuple #[.nilIface, .bool false]) w := run_typeAssert_lacksB Is.underlyingU (by kernel_rfl) (by kernel_rfl) v xT w
theorem Is.noUnwraps (v : Value) (xT : TypeId) (w : World) : (Instr.typeAssert (.iface 30 v) xT 276 true).run Tryz.prog w = .ok (.tuple #[.nilIface, .bool false]) w := run_typeAssert_lacksB Is.underlyingS (by kernel_rfl) (by kernel_rfl) v xT w
theorem Is.underlyingE : Tryz.prog.underlying 212 = some (.interface #[("Error", 349)]) := by kernel_rfl
theorem Is.underlyingN : Tryz.prog.underlying 30 = some (.int .i64) := by kernel_rfl
theorem Is.infoN : (Tryz.prog.info? 30).map (·.comparable) = some true := by kernel_rfl
theorem Is.eql (a b : Int) (w : World) : (binOp .eql 212 (.iface 30 (.int .i64 a)) (.iface 30 (.int .i64 b))).run Tryz.prog w = .ok (.bool (a == b)) w := by
  obtain ⟨i, hi, hc⟩ := Option.map_eq_some_iff.1 Is.infoN
  have h : ∀ d : Nat, (Op.equalIn (d + 2) 212 (.iface 30 (.int .i64 a)) (.iface 30 (.int .i64 b))).run Tryz.prog w = .ok (a == b) w := fun d => by
    simp [Op.equalIn, run_underlying Is.underlyingE, run_underlying Is.underlyingN, typeInfo, hi, hc]
  simp only [binOp]
  simp [Op.equal, Op.maxDepth, h 9998]

set_option maxRecDepth 1000000 in
theorem is_nums (a b : Int) (w : World) : Calls Tryz.prog 127 #[.iface 30 (.int .i64 a), .iface 30 (.int .i64 b), .bool true] w fun e w' => e = .returned (.bool (a == b)) ∧ w' = w := by
  have q := Is.eql a b w
  have n1 := Is.noIs
  have n2 := Is.noUnwrap
  have n3 := Is.noUnwraps
  go_enter Tryz.func127, Tryz.ntmps127
  go_wp2
  go_loopw [0] (fun E' wl => wl = w ∧ E' = .iface 30 (.int .i64 a)) (fun _ _ => 0)
  case atStart => exact ⟨rfl, rfl⟩
  case round =>
    obtain ⟨rfl, rfl⟩ := hrel
    cases hab : a == b
    · rw [hab] at q
      go_wp2
      go_ret
      exact ⟨by rw [hab]; rfl, rfl⟩
    · rw [hab] at q
      go_wp2
      go_ret
      exact ⟨by rw [hab]; rfl, rfl⟩

set_option maxRecDepth 1000000 in
theorem errorsIs (a b : Int) (w : World) : Calls Tryz.prog 94 #[.iface 30 (.int .i64 a), .iface 30 (.int .i64 b)] w fun e w' => e = .returned (.bool (a == b)) ∧ w' = w := by
  have h10 := @run_callFunc_extern Tryz.prog 126 _ Extern.ReflectliteType.typeOf Tryz.func126 (by kernel_rfl) (by kernel_rfl) (by kernel_rfl) (by kernel_rfl)
  have h30 := @run_callFunc_extern Tryz.prog 270 _ (Extern.ReflectliteType.method fun t => do Go.Extern.Rtype.noPackHeld "Comparable" t; pure (.bool (← typeInfo t).comparable)) Tryz.func270 (by kernel_rfl) (by kernel_rfl) (by kernel_rfl) (by kernel_rfl)
  have tT := Is.typeOf
  have cT := Is.comparable
  have mR := Is.methodComparable
  have hcon := is_nums a b w
  go_enter Tryz.func94, Tryz.ntmps94
  go_wp2_with (first | (go_at_call 127; refine hcon.mono ?_; rintro e w' ⟨rfl, rfl⟩) | go_in)
  go_ret
  exact ⟨rfl, rfl⟩
theorem errorsIs_nil (t : TypeId) (v : Value) (w : World) : Calls Tryz.prog 94 #[.nilIface, .iface t v] w fun e w' => e = .returned (.bool false) ∧ w' = w := by
  have hn := run_eql_iface_nil_left (P := Tryz.prog) w t v Is.underlyingE
  go_enter Tryz.func94, Tryz.ntmps94
  go_wp2
  go_ret
  exact ⟨rfl, rfl⟩

namespace Sx
section
variable {U : Uni}
/-- errors.Is of two error numbers, or of none. -/
def hookIs : HookS U := fun args h nx K => match args with
  | [.ifc t x, .ifc u y] => bif Nat.beq t 30 && Nat.beq u 30 then (match x.num, y.num with
    | some (k, a, la), some (k', b, lb) => bif decide (k = .i64) && decide (k' = .i64) then K (mkBool (la && lb) (a == b)) h nx [] else .bad 701
    | _, _ => .bad 702) else .bad 703
  | [.nilI, .ifc _ _] => K .ff h nx []
  | _ => .bad 700
theorem hasIs : ∃ fn, Tryz.prog.funcs[94]? = some fn ∧ (fn.name == "runtime.NumGoroutine") = false ∧ fn.body.isNone = false := ⟨Tryz.f94, Tryz.func94, by kernel_rfl, by kernel_rfl⟩
theorem hookIs_ok : HookOk (U := U) Tryz.prog 94 hookIs := by
  intro M args h nx K H
  unfold hookIs at H
  split at H
  · rename_i t x u y
    cases ht : (Nat.beq t 30 && Nat.beq u 30) with
    | false => rw [ht] at H; exact H.elim
    | true =>
      rw [ht] at H
      simp only [cond_true] at H
      simp only [Bool.and_eq_true] at ht
      obtain rfl := Nat.eq_of_beq_eq_true ht.1
      obtain rfl := Nat.eq_of_beq_eq_true ht.2
      split at H
      · rename_i k a la k' b lb hx hy
        cases hk : (decide (k = IntKind.i64) && decide (k' = IntKind.i64)) with
        | false => rw [hk] at H; exact H.elim
        | true =>
          rw [hk] at H
          simp only [cond_true] at H
          simp only [Bool.and_eq_true, decide_eq_true_eq] at hk
          obtain ⟨rfl, rfl⟩ := hk
          refine ⟨hasIs, fun β r vs w hr hs hf => ?_⟩
          simp only [relL, rel] at hr
          obtain ⟨v1, us, rfl, ⟨z1, h1, rfl⟩, v2, us2, rfl, ⟨z2, h2, rfl⟩, rfl⟩ := hr
          obtain rfl := rel_num hx h1
          obtain rfl := rel_num hy h2
          refine (errorsIs a b w).mono ?_
          rintro e w' ⟨rfl, rfl⟩
          exact ⟨_, h, nx, [], _, r, rfl, H, Nm.le.refl r, hf, rel_mkBool.2 rfl, hs, Kept.refl _ _⟩
      · exact H.elim
  · rename_i t y
    refine ⟨hasIs, fun β r vs w hr hs hf => ?_⟩
    simp only [relL, rel] at hr
    obtain ⟨v1, us, rfl, rfl, v2, us2, rfl, ⟨z2, h2, rfl⟩, rfl⟩ := hr
    refine (errorsIs_nil t z2 w).mono ?_
    rintro e w' ⟨rfl, rfl⟩
    exact ⟨_, h, nx, [], _, r, rfl, H, Nm.le.refl r, hf, by simp [rel], hs, Kept.refl _ _⟩
  · exact H.elim
end
end Sx
end Go.Proofs.YtnegocgblmdihaaGreatDoor

