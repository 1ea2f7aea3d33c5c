/-
  The small case, run whole (printed by gensmall.py).
-/
import Derived.Test.YtmcmdghmglopnaaGreatDoorGrowingP14
import Derived.KernelRfl
namespace Go.Proofs.YtmcmdghmglopnaaGreatDoor
namespace Sx
open Go
set_option linter.unusedVariables false
noncomputable def fnsQ (g : Nat) : Option Func := (cond (Nat.blt g 146) (cond (Nat.blt g 81) (cond (Nat.blt g 39) (cond (Nat.blt g 26) (cond (Nat.blt g 15) (cond (Nat.blt g 10) (cond (Nat.beq g 9) (some Tryz.f9) none) (cond (Nat.blt g 13) (cond (Nat.beq g 10) (some Tryz.f10) none) (cond (Nat.beq g 13) (some Tryz.f13) none))) (cond (Nat.blt g 23) (cond (Nat.blt g 18) (cond (Nat.beq g 15) (some Tryz.f15) none) (cond (Nat.beq g 18) (some Tryz.f18) none)) (cond (Nat.blt g 24) (cond (Nat.beq g 23) (some Tryz.f23) none) (cond (Nat.beq g 24) (some Tryz.f24) none)))) (cond (Nat.blt g 35) (cond (Nat.blt g 28) (cond (Nat.blt g 27) (cond (Nat.beq g 26) (some Tryz.f26) none) (cond (Nat.beq g 27) (some Tryz.f27) none)) (cond (Nat.blt g 29) (cond (Nat.beq g 28) (some Tryz.f28) none) (cond (Nat.beq g 29) (some Tryz.f29) none))) (cond (Nat.blt g 37) (cond (Nat.blt g 36) (cond (Nat.beq g 35) (some Tryz.f35) none) (cond (Nat.beq g 36) (some Tryz.f36) none)) (cond (Nat.blt g 38) (cond (Nat.beq g 37) (some Tryz.f37) none) (cond (Nat.beq g 38) (some Tryz.f38) none))))) (cond (Nat.blt g 53) (cond (Nat.blt g 42) (cond (Nat.blt g 40) (cond (Nat.beq g 39) (some Tryz.f39) none) (cond (Nat.blt g 41) (cond (Nat.beq g 40) (some Tryz.f40) none) (cond (Nat.beq g 41) (some Tryz.f41) none))) (cond (Nat.blt g 44) (cond (Nat.blt g 43) (cond (Nat.beq g 42) (some Tryz.f42) none) (cond (Nat.beq g 43) (some Tryz.f43) none)) (cond (Nat.blt g 52) (cond (Nat.beq g 44) (some Tryz.f44) none) (cond (Nat.beq g 52) (some Tryz.f52) none)))) (cond (Nat.blt g 57) (cond (Nat.blt g 55) (cond (Nat.blt g 54) (cond (Nat.beq g 53) (some Tryz.f53) none) (cond (Nat.beq g 54) (some Tryz.f54) none)) (cond (Nat.blt g 56) (cond (Nat.beq g 55) (some Tryz.f55) none) (cond (Nat.beq g 56) (some Tryz.f56) none))) (cond (Nat.blt g 59) (cond (Nat.blt g 58) (cond (Nat.beq g 57) (some Tryz.f57) none) (cond (Nat.beq g 58) (some Tryz.f58) none)) (cond (Nat.blt g 60) (cond (Nat.beq g 59) (some Tryz.f59) none) (cond (Nat.beq g 60) (some Tryz.f60) none)))))) (cond (Nat.blt g 97) (cond (Nat.blt g 88) (cond (Nat.blt g 84) (cond (Nat.blt g 82) (cond (Nat.beq g 81) (some Tryz.f81) none) (cond (Nat.blt g 83) (cond (Nat.beq g 82) (some Tryz.f82) none) (cond (Nat.beq g 83) (some Tryz.f83) none))) (cond (Nat.blt g 86) (cond (Nat.blt g 85) (cond (Nat.beq g 84) (some Tryz.f84) none) (cond (Nat.beq g 85) (some Tryz.f85) none)) (cond (Nat.blt g 87) (cond (Nat.beq g 86) (some Tryz.f86) none) (cond (Nat.beq g 87) (some Tryz.f87) none)))) (cond (Nat.blt g 93) (cond (Nat.blt g 91) (cond (Nat.blt g 89) (cond (Nat.beq g 88) (some Tryz.f88) none) (cond (Nat.beq g 89) (some Tryz.f89) none)) (cond (Nat.blt g 92) (cond (Nat.beq g 91) (some Tryz.f91) none) (cond (Nat.beq g 92) (some Tryz.f92) none))) (cond (Nat.blt g 95) (cond (Nat.blt g 94) (cond (Nat.beq g 93) (some Tryz.f93) none) (cond (Nat.beq g 94) (some Tryz.f94) none)) (cond (Nat.blt g 96) (cond (Nat.beq g 95) (some Tryz.f95) none) (cond (Nat.beq g 96) (some Tryz.f96) none))))) (cond (Nat.blt g 105) (cond (Nat.blt g 101) (cond (Nat.blt g 99) (cond (Nat.beq g 97) (some Tryz.f97) none) (cond (Nat.blt g 100) (cond (Nat.beq g 99) (some Tryz.f99) none) (cond (Nat.beq g 100) (some Tryz.f100) none))) (cond (Nat.blt g 103) (cond (Nat.blt g 102) (cond (Nat.beq g 101) (some Tryz.f101) none) (cond (Nat.beq g 102) (some Tryz.f102) none)) (cond (Nat.blt g 104) (cond (Nat.beq g 103) (some Tryz.f103) none) (cond (Nat.beq g 104) (some Tryz.f104) none)))) (cond (Nat.blt g 141) (cond (Nat.blt g 137) (cond (Nat.blt g 136) (cond (Nat.beq g 105) (some Tryz.f105) none) (cond (Nat.beq g 136) (some Tryz.f136) none)) (cond (Nat.blt g 138) (cond (Nat.beq g 137) (some Tryz.f137) none) (cond (Nat.beq g 138) (some Tryz.f138) none))) (cond (Nat.blt g 144) (cond (Nat.blt g 143) (cond (Nat.beq g 141) (some Tryz.f141) none) (cond (Nat.beq g 143) (some Tryz.f143) none)) (cond (Nat.blt g 145) (cond (Nat.beq g 144) (some Tryz.f144) none) (cond (Nat.beq g 145) (some Tryz.f145) none))))))) (cond (Nat.blt g 203) (cond (Nat.blt g 172) (cond (Nat.blt g 155) (cond (Nat.blt g 150) (cond (Nat.blt g 147) (cond (Nat.beq g 146) (some Tryz.f146) none) (cond (Nat.blt g 148) (cond (Nat.beq g 147) (some Tryz.f147) none) (cond (Nat.beq g 148) (some Tryz.f148) none))) (cond (Nat.blt g 153) (cond (Nat.blt g 152) (cond (Nat.beq g 150) (some Tryz.f150) none) (cond (Nat.beq g 152) (some Tryz.f152) none)) (cond (Nat.blt g 154) (cond (Nat.beq g 153) (some Tryz.f153) none) (cond (Nat.beq g 154) (some Tryz.f154) none)))) (cond (Nat.blt g 161) (cond (Nat.blt g 157) (cond (Nat.blt g 156) (cond (Nat.beq g 155) (some Tryz.f155) none) (cond (Nat.beq g 156) (some Tryz.f156) none)) (cond (Nat.blt g 160) (cond (Nat.beq g 157) (some Tryz.f157) none) (cond (Nat.beq g 160) (some Tryz.f160) none))) (cond (Nat.blt g 170) (cond (Nat.blt g 169) (cond (Nat.beq g 161) (some Tryz.f161) none) (cond (Nat.beq g 169) (some Tryz.f169) none)) (cond (Nat.blt g 171) (cond (Nat.beq g 170) (some Tryz.f170) none) (cond (Nat.beq g 171) (some Tryz.f171) none))))) (cond (Nat.blt g 180) (cond (Nat.blt g 176) (cond (Nat.blt g 173) (cond (Nat.beq g 172) (some Tryz.f172) none) (cond (Nat.blt g 174) (cond (Nat.beq g 173) (some Tryz.f173) none) (cond (Nat.beq g 174) (some Tryz.f174) none))) (cond (Nat.blt g 178) (cond (Nat.blt g 177) (cond (Nat.beq g 176) (some Tryz.f176) none) (cond (Nat.beq g 177) (some Tryz.f177) none)) (cond (Nat.blt g 179) (cond (Nat.beq g 178) (some Tryz.f178) none) (cond (Nat.beq g 179) (some Tryz.f179) none)))) (cond (Nat.blt g 199) (cond (Nat.blt g 184) (cond (Nat.blt g 181) (cond (Nat.beq g 180) (some Tryz.f180) none) (cond (Nat.beq g 181) (some Tryz.f181) none)) (cond (Nat.blt g 185) (cond (Nat.beq g 184) (some Tryz.f184) none) (cond (Nat.beq g 185) (some Tryz.f185) none))) (cond (Nat.blt g 201) (cond (Nat.blt g 200) (cond (Nat.beq g 199) (some Tryz.f199) none) (cond (Nat.beq g 200) (some Tryz.f200) none)) (cond (Nat.blt g 202) (cond (Nat.beq g 201) (some Tryz.f201) none) (cond (Nat.beq g 202) (some Tryz.f202) none)))))) (cond (Nat.blt g 249) (cond (Nat.blt g 215) (cond (Nat.blt g 207) (cond (Nat.blt g 205) (cond (Nat.beq g 203) (some Tryz.f203) none) (cond (Nat.blt g 206) (cond (Nat.beq g 205) (some Tryz.f205) none) (cond (Nat.beq g 206) (some Tryz.f206) none))) (cond (Nat.blt g 209) (cond (Nat.blt g 208) (cond (Nat.beq g 207) (some Tryz.f207) none) (cond (Nat.beq g 208) (some Tryz.f208) none)) (cond (Nat.blt g 214) (cond (Nat.beq g 209) (some Tryz.f209) none) (cond (Nat.beq g 214) (some Tryz.f214) none)))) (cond (Nat.blt g 241) (cond (Nat.blt g 238) (cond (Nat.blt g 237) (cond (Nat.beq g 215) (some Tryz.f215) none) (cond (Nat.beq g 237) (some Tryz.f237) none)) (cond (Nat.blt g 239) (cond (Nat.beq g 238) (some Tryz.f238) none) (cond (Nat.beq g 239) (some Tryz.f239) none))) (cond (Nat.blt g 245) (cond (Nat.blt g 242) (cond (Nat.beq g 241) (some Tryz.f241) none) (cond (Nat.beq g 242) (some Tryz.f242) none)) (cond (Nat.blt g 246) (cond (Nat.beq g 245) (some Tryz.f245) none) (cond (Nat.beq g 246) (some Tryz.f246) none))))) (cond (Nat.blt g 270) (cond (Nat.blt g 252) (cond (Nat.blt g 250) (cond (Nat.beq g 249) (some Tryz.f249) none) (cond (Nat.blt g 251) (cond (Nat.beq g 250) (some Tryz.f250) none) (cond (Nat.beq g 251) (some Tryz.f251) none))) (cond (Nat.blt g 268) (cond (Nat.blt g 253) (cond (Nat.beq g 252) (some Tryz.f252) none) (cond (Nat.beq g 253) (some Tryz.f253) none)) (cond (Nat.blt g 269) (cond (Nat.beq g 268) (some Tryz.f268) none) (cond (Nat.beq g 269) (some Tryz.f269) none)))) (cond (Nat.blt g 285) (cond (Nat.blt g 275) (cond (Nat.blt g 271) (cond (Nat.beq g 270) (some Tryz.f270) none) (cond (Nat.beq g 271) (some Tryz.f271) none)) (cond (Nat.blt g 278) (cond (Nat.beq g 275) (some Tryz.f275) none) (cond (Nat.beq g 278) (some Tryz.f278) none))) (cond (Nat.blt g 319) (cond (Nat.blt g 289) (cond (Nat.beq g 285) (some Tryz.f285) none) (cond (Nat.beq g 289) (some Tryz.f289) none)) (cond (Nat.blt g 321) (cond (Nat.beq g 319) (some Tryz.f319) none) (cond (Nat.beq g 321) (some Tryz.f321) none))))))))
def hkT : HookS RU := hookTurns (U := RU) (3 : Nat) (fun x => [AV.lit .i64 x]) readG
theorem encRaw (x : Int) : (RU.enc (3 : Nat)).enc [AV.lit .i64 x] = [AV.lit .i64 x] := by kernel_rfl
theorem hkT_ok : HookOk Tryz.prog 11 hkT := hookTurns_ok (U := RU) (k := (3 : Nat)) (mk := fun x => [AV.lit .i64 x]) (by kernel_rfl) (fun r x => (encRaw x).symm ▸ relL_cons.2 ⟨rfl, relL_nil⟩) readG_ok
def hkL : HookS RU := hookLong readG
theorem hkL_ok : HookOk Tryz.prog 33 hkL := hookLong_ok readG_ok
def hksQ (g : Nat) : Option (HookS RU) := (cond (Nat.beq g 90) (some hookIs) (cond (Nat.beq g 11) (some hkT) (cond (Nat.beq g 33) (some hkL) none)))
def FnOk (g : Nat) (fn : Func) : Prop := Tryz.prog.funcs[g]? = some fn ∧ (fn.name == "runtime.NumGoroutine") = false
theorem condLeaf {g n : Nat} {f fn : Func} (h : cond (Nat.beq g n) (some f) none = some fn) (p : Tryz.prog.funcs[n]? = some f) (q : (f.name == "runtime.NumGoroutine") = false) : FnOk g fn := by
  cases hb : Nat.beq g n with
  | true => rw [hb] at h; cases h; rw [Nat.eq_of_beq_eq_true hb]; exact ⟨p, q⟩
  | false => rw [hb] at h; cases h
theorem condNode {c : Bool} {a b : Option Func} {fn : Func} {R : Prop} (h : cond c a b = some fn) (ha : a = some fn → R) (hb : b = some fn → R) : R := by
  cases c with
  | true => exact ha h
  | false => exact hb h
theorem fnsQ_ok (g : Nat) (fn : Func) (h : fnsQ g = some fn) : Tryz.prog.funcs[g]? = some fn ∧ (fn.name == "runtime.NumGoroutine") = false := by
  unfold fnsQ at h
  exact (show FnOk g fn from (condNode h (fun h => (condNode h (fun h => (condNode h (fun h => (condNode h (fun h => (condNode h (fun h => (condNode h (fun h => (condLeaf h Tryz.func9 (by kernel_rfl))) (fun h => (condNode h (fun h => (condLeaf h Tryz.func10 (by kernel_rfl))) (fun h => (condLeaf h Tryz.func13 (by kernel_rfl))))))) (fun h => (condNode h (fun h => (condNode h (fun h => (condLeaf h Tryz.func15 (by kernel_rfl))) (fun h => (condLeaf h Tryz.func18 (by kernel_rfl))))) (fun h => (condNode h (fun h => (condLeaf h Tryz.func23 (by kernel_rfl))) (fun h => (condLeaf h Tryz.func24 (by kernel_rfl))))))))) (fun h => (condNode h (fun h => (condNode h (fun h => (condNode h (fun h => (condLeaf h Tryz.func26 (by kernel_rfl))) (fun h => (condLeaf h Tryz.func27 (by kernel_rfl))))) (fun h => (condNode h (fun h => (condLeaf h Tryz.func28 (by kernel_rfl))) (fun h => (condLeaf h Tryz.func29 (by kernel_rfl))))))) (fun h => (condNode h (fun h => (condNode h (fun h => (condLeaf h Tryz.func35 (by kernel_rfl))) (fun h => (condLeaf h Tryz.func36 (by kernel_rfl))))) (fun h => (condNode h (fun h => (condLeaf h Tryz.func37 (by kernel_rfl))) (fun h => (condLeaf h Tryz.func38 (by kernel_rfl))))))))))) (fun h => (condNode h (fun h => (condNode h (fun h => (condNode h (fun h => (condLeaf h Tryz.func39 (by kernel_rfl))) (fun h => (condNode h (fun h => (condLeaf h Tryz.func40 (by kernel_rfl))) (fun h => (condLeaf h Tryz.func41 (by kernel_rfl))))))) (fun h => (condNode h (fun h => (condNode h (fun h => (condLeaf h Tryz.func42 (by kernel_rfl))) (fun h => (condLeaf h Tryz.func43 (by kernel_rfl))))) (fun h => (condNode h (fun h => (condLeaf h Tryz.func44 (by kernel_rfl))) (fun h => (condLeaf h Tryz.func52 (by kernel_rfl))))))))) (fun h => (condNode h (fun h => (condNode h (fun h => (condNode h (fun h => (condLeaf h Tryz.func53 (by kernel_rfl))) (fun h => (condLeaf h Tryz.func54 (by kernel_rfl))))) (fun h => (condNode h (fun h => (condLeaf h Tryz.func55 (by kernel_rfl))) (fun h => (condLeaf h Tryz.func56 (by kernel_rfl))))))) (fun h => (condNode h (fun h => (condNode h (fun h => (condLeaf h Tryz.func57 (by kernel_rfl))) (fun h => (condLeaf h Tryz.func58 (by kernel_rfl))))) (fun h => (condNode h (fun h => (condLeaf h Tryz.func59 (by kernel_rfl))) (fun h => (condLeaf h Tryz.func60 (by kernel_rfl))))))))))))) (fun h => (condNode h (fun h => (condNode h (fun h => (condNode h (fun h => (condNode h (fun h => (condLeaf h Tryz.func81 (by kernel_rfl))) (fun h => (condNode h (fun h => (condLeaf h Tryz.func82 (by kernel_rfl))) (fun h => (condLeaf h Tryz.func83 (by kernel_rfl))))))) (fun h => (condNode h (fun h => (condNode h (fun h => (condLeaf h Tryz.func84 (by kernel_rfl))) (fun h => (condLeaf h Tryz.func85 (by kernel_rfl))))) (fun h => (condNode h (fun h => (condLeaf h Tryz.func86 (by kernel_rfl))) (fun h => (condLeaf h Tryz.func87 (by kernel_rfl))))))))) (fun h => (condNode h (fun h => (condNode h (fun h => (condNode h (fun h => (condLeaf h Tryz.func88 (by kernel_rfl))) (fun h => (condLeaf h Tryz.func89 (by kernel_rfl))))) (fun h => (condNode h (fun h => (condLeaf h Tryz.func91 (by kernel_rfl))) (fun h => (condLeaf h Tryz.func92 (by kernel_rfl))))))) (fun h => (condNode h (fun h => (condNode h (fun h => (condLeaf h Tryz.func93 (by kernel_rfl))) (fun h => (condLeaf h Tryz.func94 (by kernel_rfl))))) (fun h => (condNode h (fun h => (condLeaf h Tryz.func95 (by kernel_rfl))) (fun h => (condLeaf h Tryz.func96 (by kernel_rfl))))))))))) (fun h => (condNode h (fun h => (condNode h (fun h => (condNode h (fun h => (condLeaf h Tryz.func97 (by kernel_rfl))) (fun h => (condNode h (fun h => (condLeaf h Tryz.func99 (by kernel_rfl))) (fun h => (condLeaf h Tryz.func100 (by kernel_rfl))))))) (fun h => (condNode h (fun h => (condNode h (fun h => (condLeaf h Tryz.func101 (by kernel_rfl))) (fun h => (condLeaf h Tryz.func102 (by kernel_rfl))))) (fun h => (condNode h (fun h => (condLeaf h Tryz.func103 (by kernel_rfl))) (fun h => (condLeaf h Tryz.func104 (by kernel_rfl))))))))) (fun h => (condNode h (fun h => (condNode h (fun h => (condNode h (fun h => (condLeaf h Tryz.func105 (by kernel_rfl))) (fun h => (condLeaf h Tryz.func136 (by kernel_rfl))))) (fun h => (condNode h (fun h => (condLeaf h Tryz.func137 (by kernel_rfl))) (fun h => (condLeaf h Tryz.func138 (by kernel_rfl))))))) (fun h => (condNode h (fun h => (condNode h (fun h => (condLeaf h Tryz.func141 (by kernel_rfl))) (fun h => (condLeaf h Tryz.func143 (by kernel_rfl))))) (fun h => (condNode h (fun h => (condLeaf h Tryz.func144 (by kernel_rfl))) (fun h => (condLeaf h Tryz.func145 (by kernel_rfl))))))))))))))) (fun h => (condNode h (fun h => (condNode h (fun h => (condNode h (fun h => (condNode h (fun h => (condNode h (fun h => (condLeaf h Tryz.func146 (by kernel_rfl))) (fun h => (condNode h (fun h => (condLeaf h Tryz.func147 (by kernel_rfl))) (fun h => (condLeaf h Tryz.func148 (by kernel_rfl))))))) (fun h => (condNode h (fun h => (condNode h (fun h => (condLeaf h Tryz.func150 (by kernel_rfl))) (fun h => (condLeaf h Tryz.func152 (by kernel_rfl))))) (fun h => (condNode h (fun h => (condLeaf h Tryz.func153 (by kernel_rfl))) (fun h => (condLeaf h Tryz.func154 (by kernel_rfl))))))))) (fun h => (condNode h (fun h => (condNode h (fun h => (condNode h (fun h => (condLeaf h Tryz.func155 (by kernel_rfl))) (fun h => (condLeaf h Tryz.func156 (by kernel_rfl))))) (fun h => (condNode h (fun h => (condLeaf h Tryz.func157 (by kernel_rfl))) (fun h => (condLeaf h Tryz.func160 (by kernel_rfl))))))) (fun h => (condNode h (fun h => (condNode h (fun h => (condLeaf h Tryz.func161 (by kernel_rfl))) (fun h => (condLeaf h Tryz.func169 (by kernel_rfl))))) (fun h => (condNode h (fun h => (condLeaf h Tryz.func170 (by kernel_rfl))) (fun h => (condLeaf h Tryz.func171 (by kernel_rfl))))))))))) (fun h => (condNode h (fun h => (condNode h (fun h => (condNode h (fun h => (condLeaf h Tryz.func172 (by kernel_rfl))) (fun h => (condNode h (fun h => (condLeaf h Tryz.func173 (by kernel_rfl))) (fun h => (condLeaf h Tryz.func174 (by kernel_rfl))))))) (fun h => (condNode h (fun h => (condNode h (fun h => (condLeaf h Tryz.func176 (by kernel_rfl))) (fun h => (condLeaf h Tryz.func177 (by kernel_rfl))))) (fun h => (condNode h (fun h => (condLeaf h Tryz.func178 (by kernel_rfl))) (fun h => (condLeaf h Tryz.func179 (by kernel_rfl))))))))) (fun h => (condNode h (fun h => (condNode h (fun h => (condNode h (fun h => (condLeaf h Tryz.func180 (by kernel_rfl))) (fun h => (condLeaf h Tryz.func181 (by kernel_rfl))))) (fun h => (condNode h (fun h => (condLeaf h Tryz.func184 (by kernel_rfl))) (fun h => (condLeaf h Tryz.func185 (by kernel_rfl))))))) (fun h => (condNode h (fun h => (condNode h (fun h => (condLeaf h Tryz.func199 (by kernel_rfl))) (fun h => (condLeaf h Tryz.func200 (by kernel_rfl))))) (fun h => (condNode h (fun h => (condLeaf h Tryz.func201 (by kernel_rfl))) (fun h => (condLeaf h Tryz.func202 (by kernel_rfl))))))))))))) (fun h => (condNode h (fun h => (condNode h (fun h => (condNode h (fun h => (condNode h (fun h => (condLeaf h Tryz.func203 (by kernel_rfl))) (fun h => (condNode h (fun h => (condLeaf h Tryz.func205 (by kernel_rfl))) (fun h => (condLeaf h Tryz.func206 (by kernel_rfl))))))) (fun h => (condNode h (fun h => (condNode h (fun h => (condLeaf h Tryz.func207 (by kernel_rfl))) (fun h => (condLeaf h Tryz.func208 (by kernel_rfl))))) (fun h => (condNode h (fun h => (condLeaf h Tryz.func209 (by kernel_rfl))) (fun h => (condLeaf h Tryz.func214 (by kernel_rfl))))))))) (fun h => (condNode h (fun h => (condNode h (fun h => (condNode h (fun h => (condLeaf h Tryz.func215 (by kernel_rfl))) (fun h => (condLeaf h Tryz.func237 (by kernel_rfl))))) (fun h => (condNode h (fun h => (condLeaf h Tryz.func238 (by kernel_rfl))) (fun h => (condLeaf h Tryz.func239 (by kernel_rfl))))))) (fun h => (condNode h (fun h => (condNode h (fun h => (condLeaf h Tryz.func241 (by kernel_rfl))) (fun h => (condLeaf h Tryz.func242 (by kernel_rfl))))) (fun h => (condNode h (fun h => (condLeaf h Tryz.func245 (by kernel_rfl))) (fun h => (condLeaf h Tryz.func246 (by kernel_rfl))))))))))) (fun h => (condNode h (fun h => (condNode h (fun h => (condNode h (fun h => (condLeaf h Tryz.func249 (by kernel_rfl))) (fun h => (condNode h (fun h => (condLeaf h Tryz.func250 (by kernel_rfl))) (fun h => (condLeaf h Tryz.func251 (by kernel_rfl))))))) (fun h => (condNode h (fun h => (condNode h (fun h => (condLeaf h Tryz.func252 (by kernel_rfl))) (fun h => (condLeaf h Tryz.func253 (by kernel_rfl))))) (fun h => (condNode h (fun h => (condLeaf h Tryz.func268 (by kernel_rfl))) (fun h => (condLeaf h Tryz.func269 (by kernel_rfl))))))))) (fun h => (condNode h (fun h => (condNode h (fun h => (condNode h (fun h => (condLeaf h Tryz.func270 (by kernel_rfl))) (fun h => (condLeaf h Tryz.func271 (by kernel_rfl))))) (fun h => (condNode h (fun h => (condLeaf h Tryz.func275 (by kernel_rfl))) (fun h => (condLeaf h Tryz.func278 (by kernel_rfl))))))) (fun h => (condNode h (fun h => (condNode h (fun h => (condLeaf h Tryz.func285 (by kernel_rfl))) (fun h => (condLeaf h Tryz.func289 (by kernel_rfl))))) (fun h => (condNode h (fun h => (condLeaf h Tryz.func319 (by kernel_rfl))) (fun h => (condLeaf h Tryz.func321 (by kernel_rfl)))))))))))))))))
theorem cfgQ_ok : (cfgQ Tryz.prog fnsQ hksQ (fun _ _ => none)).ok where
  τ := tabQ_met
  κ := kindsQ_met
  mixed := by kernel_rfl
  fns := fnsQ_ok
  hooks := fun g H h => by
    have h : hksQ g = some H := h
    unfold hksQ at h
    cases hb90 : Nat.beq g 90 with
    | true => rw [hb90] at h; cases h; rw [Nat.eq_of_beq_eq_true hb90]; exact hookIs_ok
    | false =>
      rw [hb90] at h
      simp only [cond_false] at h
      cases hb11 : Nat.beq g 11 with
      | true => rw [hb11] at h; cases h; rw [Nat.eq_of_beq_eq_true hb11]; exact hkT_ok
      | false =>
        rw [hb11] at h
        simp only [cond_false] at h
        cases hb33 : Nat.beq g 33 with
        | true => rw [hb33] at h; cases h; rw [Nat.eq_of_beq_eq_true hb33]; exact hkL_ok
        | false =>
          rw [hb33] at h
          simp only [cond_false] at h
          cases h
set_option maxRecDepth 1000000
theorem small_run : (runQ Tryz.prog fnsQ hksQ 2000 9 Tryz.f9).goodC = (∀ x0 : Nat, ∀ x1 : Nat, (1 + x1 = 1 + x1) ∧ ∀ x2 : Nat, (2 + x2 = 2 + x2) ∧ ∀ x3 : Nat, ∀ x4 : Nat, ∀ x5 : Nat, ∀ x6 : Nat, ∀ x7 : Nat, (1 + x6 = 1 + x6) ∧ ∀ x8 : Nat, ∀ x9 : Nat, ∀ x10 : Nat, (1 + x10 = 1 + x10) ∧ ∀ x11 : Nat, ∀ x12 : Nat, ∀ x13 : Nat, (1 + x13 = 1 + x13) ∧ ∀ x14 : Nat, (1 + x12 = 1 + x12) ∧ ∀ x15 : Nat, ∀ x16 : Nat, (1 + x16 = 1 + x16) ∧ ∀ x17 : Nat, ∀ x18 : Nat, ∀ x19 : Nat, (1 + x19 = 1 + x19) ∧ ∀ x20 : Nat, ∀ x21 : Nat, (1 + x21 = 1 + x21) ∧ ∀ x22 : Nat, (2 + x15 = 2 + x15) ∧ ∀ x23 : Nat, ∀ x24 : Nat, (1 + x24 = 1 + x24) ∧ ∀ x25 : Nat, ∀ x26 : Nat, (1 + x26 = 1 + x26) ∧ ∀ x27 : Nat, (1 + x18 = 1 + x18) ∧ ∀ x28 : Nat, ∀ x29 : Nat, (1 + x29 = 1 + x29) ∧ ∀ x30 : Nat, (2 + x28 = 2 + x28) ∧ ∀ x31 : Nat, ∀ x32 : Nat, (1 + x32 = 1 + x32) ∧ ∀ x33 : Nat, (3 + x23 = 3 + x23) ∧ ∀ x34 : Nat, ∀ x35 : Nat, (1 + x35 = 1 + x35) ∧ ∀ x36 : Nat, (4 + x34 = 4 + x34) ∧ ∀ x37 : Nat, ∀ x38 : Nat, (1 + x38 = 1 + x38) ∧ ∀ x39 : Nat, (3 + x31 = 3 + x31) ∧ ∀ x40 : Nat, ∀ x41 : Nat, (1 + x41 = 1 + x41) ∧ ∀ x42 : Nat, (4 + x40 = 4 + x40) ∧ ∀ x43 : Nat, (5 + x43 = 5 + x43) ∧ ∀ x44 : Nat, ∀ x45 : Nat, (1 + x45 = 1 + x45) ∧ ∀ x46 : Nat, (6 + x44 = 6 + x44) ∧ ∀ x47 : Nat, (7 + x47 = 7 + x47) ∧ ∀ x48 : Nat, (8 + x48 = 8 + x48) ∧ ∀ x49 : Nat, ∀ x50 : Nat, (1 + x50 = 1 + x50) ∧ ∀ x51 : Nat, ∀ x52 : Nat, (1 + x52 = 1 + x52) ∧ ∀ x53 : Nat, ∀ x54 : Nat, ∀ x55 : Nat, (1 + x55 = 1 + x55) ∧ ∀ x56 : Nat, ∀ x57 : Nat, (1 + x57 = 1 + x57) ∧ ∀ x58 : Nat, (9 + x49 = 9 + x49) ∧ ∀ x59 : Nat, (10 + x59 = 10 + x59) ∧ ∀ x60 : Nat, (11 + x60 = 11 + x60) ∧ ∀ x61 : Nat, ∀ x62 : Nat, (1 + x62 = 1 + x62) ∧ ∀ x63 : Nat, (5 + x37 = 5 + x37) ∧ ∀ x64 : Nat, ∀ x65 : Nat, (1 + x65 = 1 + x65) ∧ ∀ x66 : Nat, ∀ x67 : Nat, (1 + x67 = 1 + x67) ∧ ∀ x68 : Nat, ∀ x69 : Nat, True) := by kernel_rfl
theorem small_calls : CallsSx (U := RU) Tryz.prog 9 [] [] 0 (fun v _ _ _ => v.sub .tt) :=
  closed_calls cfgQ_ok ⟨Tryz.func9, by kernel_rfl⟩ (by kernel_rfl) (Eq.mpr small_run (fun x0 => fun x1 => ⟨rfl, fun x2 => ⟨rfl, fun x3 => fun x4 => fun x5 => fun x6 => fun x7 => ⟨rfl, fun x8 => fun x9 => fun x10 => ⟨rfl, fun x11 => fun x12 => fun x13 => ⟨rfl, fun x14 => ⟨rfl, fun x15 => fun x16 => ⟨rfl, fun x17 => fun x18 => fun x19 => ⟨rfl, fun x20 => fun x21 => ⟨rfl, fun x22 => ⟨rfl, fun x23 => fun x24 => ⟨rfl, fun x25 => fun x26 => ⟨rfl, fun x27 => ⟨rfl, fun x28 => fun x29 => ⟨rfl, fun x30 => ⟨rfl, fun x31 => fun x32 => ⟨rfl, fun x33 => ⟨rfl, fun x34 => fun x35 => ⟨rfl, fun x36 => ⟨rfl, fun x37 => fun x38 => ⟨rfl, fun x39 => ⟨rfl, fun x40 => fun x41 => ⟨rfl, fun x42 => ⟨rfl, fun x43 => ⟨rfl, fun x44 => fun x45 => ⟨rfl, fun x46 => ⟨rfl, fun x47 => ⟨rfl, fun x48 => ⟨rfl, fun x49 => fun x50 => ⟨rfl, fun x51 => fun x52 => ⟨rfl, fun x53 => fun x54 => fun x55 => ⟨rfl, fun x56 => fun x57 => ⟨rfl, fun x58 => ⟨rfl, fun x59 => ⟨rfl, fun x60 => ⟨rfl, fun x61 => fun x62 => ⟨rfl, fun x63 => ⟨rfl, fun x64 => fun x65 => ⟨rfl, fun x66 => fun x67 => ⟨rfl, fun x68 => fun x69 => True.intro⟩⟩⟩⟩⟩⟩⟩⟩⟩⟩⟩⟩⟩⟩⟩⟩⟩⟩⟩⟩⟩⟩⟩⟩⟩⟩⟩⟩⟩⟩⟩⟩⟩⟩⟩⟩⟩⟩⟩))
end Sx
end Go.Proofs.YtmcmdghmglopnaaGreatDoor

/-
  FairGrows: the law.
-/
namespace Go.Proofs.YtmcmdghmglopnaaGreatDoor
namespace Sx
open Go
set_option linter.unusedSimpArgs false
set_option linter.unusedVariables false

theorem tabP_met : tabP.met Tryz.prog := by
  intro t R h
  unfold tabP at h
  split at h
  · cases h; exact ⟨ty39_met.kind, ty39_met.info, ty39_met.cmp, ty39_met.meths⟩
  · exact tab_met t R h
theorem kindsP_met : kinds.met tabP := by
  intro e k h
  unfold kinds at h
  split at h <;> cases h
  · exact ⟨ty3, rfl, rfl, rfl, by decide, fun r vs h => h⟩
  · exact ⟨ty4, rfl, rfl, rfl, by decide, fun r vs h => h⟩
  · exact ⟨ty37, rfl, rfl, rfl, by decide, fun r vs h => rsBack [.nilS] (none, 0, 0) rfl r vs h⟩
  · exact ⟨{ ty39 with pool := true }, rfl, rfl, rfl, by decide, fun r vs h => h⟩
theorem cfgG0_ok : cfgG0.ok := ⟨tabP_met, kindsP_met, mixed_met, fun g fn h => (by cases h), fun g H h => (by cases h)⟩
theorem cfgGw_ok : cfgGw.ok := by
  refine ⟨tabP_met, kindsP_met, mixed_met, fun g fn h => (by cases h), fun g H h => ?_⟩
  unfold cfgGw hooksGw at h
  simp only at h
  split at h <;> cases h
  · exact hookTrue_ok small_calls
  · exact hookTurns_ok (U := V) (k := Kd.int) rfl (fun r x => (show relL r [AV.int .i64 x] [.int .i64 x] from relL_cons.2 ⟨rfl, relL_nil⟩)) readV_ok
  · exact hBound

/-! ## plain -/
theorem bound_more {ps : List Hd} {h : Hd} (hk : ps.length ≤ 40) (h1 : h.2.1 = 1) : boundN ps < boundN (ps ++ [h]) := by
  unfold boundN
  have hl : (ps ++ [h]).length = ps.length + 1 := by simp
  rw [hl, show min (ps.length + 1) 64 = ps.length + 1 by omega, show min ps.length 64 = ps.length by omega]
  have e : lensTo (ps ++ [h]) (ps.length + 1) = lensTo ps ps.length + 1 := by
    unfold lensTo
    rw [List.take_of_length_le (by rw [hl]; exact Nat.le_refl _), List.take_length, List.map_append, List.foldl_append]
    simp [h1]
  rw [e]
  have a : 1024 * (1 + lensTo ps ps.length) < 1024 * (1 + (lensTo ps ps.length + 1)) := by omega
  have b : max 1 (2 * ps.length) ≤ max 1 (2 * (ps.length + 1)) := by omega
  have c : 0 < max 1 (2 * (ps.length + 1)) := by omega
  exact Nat.lt_of_le_of_lt (Nat.mul_le_mul_left _ b) (Nat.mul_lt_mul_of_pos_right a c)
theorem bound_least (ps : List Hd) : 1024 ≤ boundN ps := by
  unfold boundN
  have b : 1 ≤ max 1 (2 * min ps.length 64) := by omega
  have a : 1024 ≤ 1024 * (1 + lensTo ps (min ps.length 64)) := by omega
  exact Nat.le_trans a (by simpa using Nat.mul_le_mul_left (1024 * (1 + lensTo ps (min ps.length 64))) b)
theorem ones_zero {l : List Int} {x : Int} (h : x ∈ turnsI 1 l) : x = 0 := by
  unfold turnsI at h
  obtain ⟨t, _, ht⟩ := List.mem_flatMap.1 h
  have := turnI_in ht
  omega
theorem mapI6 (l : List Int) : l.map mkI = l := by
  have : (mkI : Int → Int) = id := rfl
  rw [this, List.map_id]

/-! ## the loop -/
theorem fgl_ok : LoopOk Tryz.prog 0 (loopOf Tryz.f6 0) FgL := by
  refine trimLoop_ok (trim_ok _ _) (loopTH_ok (C := cfgG0) cfgG0_ok (f := 6) (n := 60) (trim_ok [1, 5, 6, 7, 8, 9] [1, 7, 8]) 9 FgI (fun p x => x ≤ p.ones.length) (fun p => 0) (fun p x => p.ones.length - x)
    FgC FgE (fun p => Nat.zero_le _) ?_)
  intro p x hi
  rw [fb6]
  have hb := p.hb
  simp only [Out.holds, decide_eq_true_eq, decide_eq_false_iff_not]
  by_cases hlt : x < p.ones.length
  · refine ⟨fun _ => ⟨by omega, by omega, fun hne => ?_, fun _ => ?_⟩, fun h => absurd hlt (by omega)⟩
    · exfalso
      have hget : p.ones.getD (0 + x) (V.enc Kd.int).dflt = 0 := by
        rw [Nat.zero_add, List.getD_eq_getElem?_getD, List.getElem?_eq_getElem hlt]
        exact p.hall _ (List.getElem_mem hlt)
      rw [hget] at hne
      simp at hne
    · have hw : IntKind.wrap .i64 ((x : Int) + 1) = ((x + 1 : Nat) : Int) := wrap_nat (by omega)
      refine SImp.of_wk (ren := []) (x + 1) ?_ ⟨hlt, ?_⟩
      · exact ⟨⟨AV.sub_same _, AV.sub_same _, AV.sub_same _, AV.sub_same _, AV.sub_same _, AV.sub_int hw, trivial⟩, ⟨.same _, .same _, .same _, trivial⟩, rfl, tl_ok rfl, ⟨.inl (in_ok rfl), .inl (in_ok rfl), .inl (in_ok rfl), trivial⟩, ⟨Nat.le_of_ble_eq_true rfl, rfl⟩⟩
      · show p.ones.length - (x + 1) < p.ones.length - x; omega
  · refine ⟨fun h => absurd h (by omega), fun _ => ⟨trivial, ?_⟩⟩
    have he : x = p.ones.length := by omega
    subst he
    refine SImp.of_wk (ren := []) () ?_ trivial
    exact ⟨⟨AV.sub_same _, AV.sub_same _, AV.sub_same _, AV.sub_same _, AV.sub_same _, AV.sub_same _, trivial⟩, ⟨.same _, .same _, .same _, trivial⟩, rfl, tl_ok rfl, ⟨.inl (in_ok rfl), .inl (in_ok rfl), .inl (in_ok rfl), trivial⟩, ⟨Nat.le_of_ble_eq_true rfl, rfl⟩⟩

theorem law6 (ps : List Hd) (c : Nat) (l : List Int) (d : Nat) : (runL cfgGw 60 6 Tryz.f6 [.sl false 0 0 1 ps.length c, .sl false 1 0 1 l.length d] [(2, .pool Pool.nil), (0, .ro Kd.rws ps), (1, .ro Kd.int l)] 3).holds ⟨fun _ _ => False, fun v _ _ => v.sub .tt⟩ := by
  rw [ft6]
  have tt : (AV.tt).sub .tt := AV.sub_same _
  have len1 := turnsI_length 1 l
  have len64 := turnsI_length 64 l
  simp only [mapI6, List.drop_zero, List.take_length]
  refine ⟨fun _ => tt, fun h1 => ⟨fun _ => tt, fun h2 => ?_⟩⟩
  have h1 := of_decide_eq_false h1
  have h2 := of_decide_eq_false h2
  have htl : turnsLen l = max l.length 1 := rfl
  have h1len : (turnsI 1 l).length = max l.length 1 := by rw [len1, htl]; exact Nat.mul_one _
  have h64len : (turnsI 64 l).length = max l.length 1 * 64 := by rw [len64, htl]; rfl
  refine ⟨by omega, by omega, by omega, fun y y1 _ => ⟨rfl, ⟨trivial, trivial, by omega⟩, fun y2 => ⟨trivial, fun hc => ?_, fun hc => ?_⟩⟩⟩
  · intro y3
    have hbm := bound_more (ps := ps) (h := (addrOf (some (y1, 0)), 1, 1)) (by omega) rfl
    let P : FgP := ⟨l, d, ps ++ [(addrOf (some (y1, 0)), 1, 1)], y2, turnsI 1 l, y3, boundN ps, by omega, fun x hx => ones_zero hx⟩
    refine ⟨fgl_ok, fun p => p = P, ⟨Nat.le_refl _, SImp.of_wk (ren := []) P ?_ rfl⟩, ?_⟩
    · have e : (ps ++ [(addrOf (some (y1, 0)), 1, 1)]).length = ps.length + 1 := by simp
      exact ⟨⟨AV.sub_same _, AV.sub_same _, AV.sub_same _, AV.sub_sl e.symm (by rw [e]), AV.sub_same _, AV.sub_lit', trivial⟩, ⟨.same _, .same _, .same _, trivial⟩, rfl, tl_ok rfl, ⟨.inr rfl, .inr rfl, .inl (in_ok rfl), trivial⟩, ⟨Nat.le_of_ble_eq_true rfl, rfl⟩⟩
    · rintro _ rfl u _
      have hle := bound_least ps
      have g1 : decide ((boundN ps : Int) ≥ 1024) = true := decide_eq_true (by omega)
      have g2 : decide ((boundN (ps ++ [(addrOf (some (y1, 0)), 1, 1)]) : Int) > (boundN ps : Int)) = true := decide_eq_true (by omega)
      have g3 : (((turnsI 1 l).length : Int) == if (1 : Int) > (l.length : Int) then (1 : Int) else (l.length : Int)) = true := by
        rw [h1len, beq_iff_eq]; split <;> omega
      have g4 : (((turnsI 64 l).length : Int) == IntKind.i64.wrap (64 * ((turnsI 1 l).length : Int))) = true := by
        rw [h64len, h1len, wrap_low (by omega) (by omega), beq_iff_eq]; omega
      have g5 : (decide ((1 : Int) ≤ 64) && decide ((64 : Int) ≤ 64) && l.length.ble 4096) = true := by
        simp only [Bool.and_eq_true, decide_eq_true_eq, Nat.ble_eq]; omega
      refine ⟨fun _ => ⟨?_, fun _ => ⟨fun _ => ⟨trivial, fun hz => ?_, fun _ => ⟨trivial, fun hz => ?_, fun _ => ⟨trivial, fun _ => fun y7 => ?_, fun hz => ?_⟩⟩⟩, fun hz => ?_⟩, fun hz => ?_⟩, fun hz => ?_⟩
      · show 0 + _ ≤ _; omega
      · exact absurd hz (by simp)
      · exact absurd hz (by simp)
      · show AV.sub (AV.bool (((turnsI 64 l).length : Int) == IntKind.i64.wrap (64 * ((turnsI 1 l).length : Int)))) .tt
        rw [g4]; exact AV.sub_same _
      · have hz : (decide ((1 : Int) ≤ 64) && decide ((64 : Int) ≤ 64) && l.length.ble 4096) = false := hz
        rw [g5] at hz; cases hz
      · have hz : (((turnsI 1 l).length : Int) == if (1 : Int) > (l.length : Int) then (1 : Int) else (l.length : Int)) = false := hz
        rw [g3] at hz; cases hz
      · have hz : decide ((boundN (ps ++ [(addrOf (some (y1, 0)), 1, 1)]) : Int) > (boundN ps : Int)) = false := hz
        rw [g2] at hz; cases hz
      · have hz : decide ((boundN ps : Int) ≥ 1024) = false := hz
        rw [g1] at hz; cases hz
  · exfalso
    have : (decide ((1 : Int) ≤ 1) && decide ((1 : Int) ≤ 64) && l.length.ble 4096) = true := by
      simp only [Bool.and_eq_true, decide_eq_true_eq, Nat.ble_eq]; omega
    rw [this] at hc; cases hc
theorem calls6 (ps : List Hd) (c : Nat) (l : List Int) (d : Nat) : CallsSx (U := V) Tryz.prog 6 [.sl false 0 0 1 ps.length c, .sl false 1 0 1 l.length d] [(0, .ro Kd.rws ps), (1, .ro Kd.int l)] 2 (fun v _ _ _ => v.sub .tt) :=
  CallsSx.nilPool (id := 2) (nx' := 3) (calls_runL cfgGw_ok (n := 60) (fn := Tryz.f6) ⟨Tryz.func6, by kernel_rfl⟩ (by kernel_rfl) (show 2 ≤ _ by decide +kernel) (law6 ps c l d)) rfl (by decide)
end Sx
end Go.Proofs.YtmcmdghmglopnaaGreatDoor

