/-
  A step in both, the program's and the document's: alike.
-/
import Derived.Test.YtjackepkphdibaaTrees5
import Derived.Test.YtjackepkphdibaaSxX
namespace Go.Proofs.Ytjackepkphdibaa
namespace Sx
open Go
set_option linter.unusedSimpArgs false
set_option linter.unusedVariables false

theorem HImp.of_sub {n : Nat} {h l : Heap V} (hs : HeapSub (fun i => i) h l) : HImp n h l := fun G r H _ hd => heapSub_den hs hd

theorem hooks6_ok : ∀ g H, hooks6 g = some H → HookOk Try.prog g H := by
  intro g H h
  unfold hooks6 at h
  split at h
  · cases h; exact hNewR
  · cases h; exact hLoadR
  · cases h; exact hStoreR
  · cases h; exact hSwapR
  · cases h; exact hLockR
  · cases h; exact hTryR
  · cases h; exact hUnlockR
  · cases h; exact hHolderR
  · cases h; exact hDeeds
  · exact hooks3_ok _ H h
theorem cfg6_ok : cfg6.ok := by
  refine ⟨tab_met, kinds_met, mixed_met, fun g fn h => ?_, hooks6_ok⟩
  unfold cfg6 fns6 at h
  simp only at h
  split at h <;> cases h
  exact ⟨by kernel_rfl, by kernel_rfl⟩

def opOf (f : Five) : Int := bitsOp .and .i64 f.a 7
def doC (s : MC) (f : Five) : MC :=
  if opOf f = 0 then (s.load f.b f.c).2.2 else if opOf f = 1 then (s.store f.b f.c f.d).2 else if opOf f = 2 then (s.swap f.b f.c f.d f.e).2.2
  else if opOf f = 3 then (s.take f.b f.c 4).2.2 else if opOf f = 4 then (s.take f.b f.c 4).2.2 else if opOf f = 5 then (s.take f.b f.c 5).2.2 else (s.unlock f.b f.c).2
def doR (s : MR) (f : Five) : MR :=
  if opOf f = 0 then (s.load f.b f.c).2.2 else if opOf f = 1 then (s.store f.b f.c f.d).2 else if opOf f = 2 then (s.swap f.b f.c f.d f.e).2.2
  else if opOf f = 3 then (s.take f.b f.c 4).2.2 else if opOf f = 4 then (s.take f.b f.c 4).2.2 else if opOf f = 5 then (s.take f.b f.c 5).2.2 else (s.unlock f.b f.c).2

theorem Rel.step {s : MC} {r : MR} (R : Rel s r) (f : Five) : Rel (doC s f) (doR r f) := by
  unfold doC doR
  split
  · exact (R.load ..).2.2
  · split
    · exact (R.store ..).2
    · split
      · exact (R.swap ..).2.2
      · split
        · exact (R.take ..).2.2
        · split
          · exact (R.take ..).2.2
          · split
            · exact (R.take ..).2.2
            · exact (R.unlock ..).2
theorem len_step (s : MC) (f : Five) : (doC s f).log.length ≤ s.log.length + 1 := by
  unfold doC
  split
  · exact len_load ..
  · split
    · exact len_store ..
    · split
      · exact len_swap ..
      · split
        · exact len_take ..
        · split
          · exact len_take ..
          · split
            · exact len_take ..
            · exact len_unlock ..

def runDo : RunObjs V := fun xs ar K => match xs, ar with
  | [.inr (.cells s), .inr (.ref r)], [.el .five f] => .need (s.room ∧ r.room ∧ Rel s r) (K .tt [oC (doC s f), oR (doR r f)] [])
  | _, _ => .bad 500

theorem hDo : HookOk Try.prog 15 (hookObjs 2 [.el Kd.five] runDo) := by
  refine hookObjs_ok ⟨Try.f15, by kernel_rfl, by kernel_rfl, by kernel_rfl⟩ ?_
  intro M xs ar K0 hlen H
  unfold runDo at H
  split at H
  · rename_i s r f
    obtain ⟨⟨r1, r2, R⟩, H⟩ := H
    refine calls_runF (args := [.ptr 0 0, .ptr 1 0, .agg (Five.lay.enc f)]) (h := [(0, .obj (oC s)), (1, .obj (oR r))]) (nx := 3)
      (R := fun v0 h' n' _ => ∃ v xs' E, (K0 v xs' E).holds M ∧ EndObjs 2 n' v0 h' v xs' E) cfg6_ok (n := 40) (fn := Try.f15) ⟨by kernel_rfl, by kernel_rfl⟩ (by kernel_rfl) (show 3 ≤ _ by decide +kernel) ?_
    rw [t15]
    have fin : ∀ (v0 : AV) (h' : Heap V) (n' : Nat), v0.sub .tt → HeapSub (fun i => i) h' [(0, .obj (oC (doC s f))), (1, .obj (oR (doR r f)))] → ∃ v xs' E, (K0 v xs' E).holds M ∧ EndObjs 2 n' v0 h' v xs' E :=
      fun v0 h' n' hv hh => ⟨_, _, _, H, [], HImp.of_sub hh, .plain hv rfl⟩
    have ob : ∀ {a : Bool}, a = true → (AV.bool a).sub .tt := fun e _ _ h => h.trans (congrArg Value.bool e)
    have ho : opOf f = bitsOp .and .i64 f.a 7 := rfl
    have no : ∀ {p : Prop} {b : Bool}, b = true → b = false → p := fun h k => absurd (h.symm.trans k) (by decide)
    have mk : ∀ (a : MC) (b : MR), a = doC s f → b = doR r f → ∀ c, HeapSub (fun i => i) [(3, c), (0, .obj (oC a)), (1, .obj (oR b))] [(0, .obj (oC (doC s f))), (1, .obj (oR (doR r f)))] := by
      intro a b ha hb c; subst ha; subst hb; exact ⟨.same _, .same _, trivial⟩
    have stepA : opOf f = 3 ∨ opOf f = 4 → (s.take f.b f.c 4).2.2 = doC s f ∧ (r.take f.b f.c 4).2.2 = doR r f := by
      intro h; unfold doC doR; rcases h with h | h <;> simp [h]
    have stepB : opOf f = 5 → (s.take f.b f.c 5).2.2 = doC s f ∧ (r.take f.b f.c 5).2.2 = doR r f := by
      intro h; unfold doC doR; simp [h]
    have step0 : opOf f = 0 → (s.load f.b f.c).2.2 = doC s f ∧ (r.load f.b f.c).2.2 = doR r f := by
      intro h; unfold doC doR; simp [h]
    have step1 : opOf f = 1 → (s.store f.b f.c f.d).2 = doC s f ∧ (r.store f.b f.c f.d).2 = doR r f := by
      intro h; unfold doC doR; simp [h]
    have step2 : opOf f = 2 → (s.swap f.b f.c f.d f.e).2.2 = doC s f ∧ (r.swap f.b f.c f.d f.e).2.2 = doR r f := by
      intro h; unfold doC doR; simp [h]
    have stepC : opOf f ≠ 0 → opOf f ≠ 1 → opOf f ≠ 2 → opOf f ≠ 3 → opOf f ≠ 4 → opOf f ≠ 5 → (s.unlock f.b f.c).2 = doC s f ∧ (r.unlock f.b f.c).2 = doR r f := by
      intro h0 h1 h2 h3 h4 h5; unfold doC doR; simp [h0, h1, h2, h3, h4, h5]
    have L := R.load f.b f.c
    have S := R.store f.b f.c f.d
    have W := R.swap f.b f.c f.d f.e
    have T4 := R.take f.b f.c 4
    have T5 := R.take f.b f.c 5
    have U := R.unlock f.b f.c
    have is : ∀ {a b : Int}, (a == b) = true → a = b := fun h => by simpa using h
    have isn : ∀ {a b : Int}, (a == b) = false → a ≠ b := fun h => by simpa using h
    refine ⟨fun h0 => ⟨r1, r2, fun _ => fin _ _ _ (ob (by simp [L.2.1])) (mk _ _ (step0 (is h0)).1 (step0 (is h0)).2 _), fun h => no (by simp [L.1]) h⟩, fun h0 => ⟨fun h1 => ⟨r1, r2, fin _ _ _ (ob (by simp [S.1])) (mk _ _ (step1 (is h1)).1 (step1 (is h1)).2 _)⟩, fun h1 => ⟨fun h2 => ⟨r1, r2, fun _ => fin _ _ _ (ob (by simp [W.2.1])) (mk _ _ (step2 (is h2)).1 (step2 (is h2)).2 _), fun h => no (by simp [W.1]) h⟩, fun h2 => ⟨fun h3 => ⟨fun _ => ⟨r1, r2, fin _ _ _ (ob (by simp [T4.2.1])) (mk _ _ (stepA (.inl (is h3))).1 (stepA (.inl (is h3))).2 _)⟩, fun h => no h3 h⟩, fun h3 => ⟨fun h4 => ⟨r1, r2, fin _ _ _ (ob (by simp [T4.2.1])) (mk _ _ (stepA (.inr (is h4))).1 (stepA (.inr (is h4))).2 _)⟩, fun h4 => ⟨fun h5 => ⟨r1, r2, fun _ => fin _ _ _ (ob (by simp [T5.2.1])) (mk _ _ (stepB (is h5)).1 (stepB (is h5)).2 _), fun h => no (by simp [T5.1]) h⟩, fun h5 => ⟨r1, r2, fin _ _ _ (ob (by simp [U.1])) (mk _ _ (stepC (isn h0) (isn h1) (isn h2) (isn h3) (isn h4) (isn h5)).1 (stepC (isn h0) (isn h1) (isn h2) (isn h3) (isn h4) (isn h5)).2 _)⟩⟩⟩⟩⟩⟩⟩
  · exact H.elim

end Sx
end Go.Proofs.Ytjackepkphdibaa
