/-
  What a function does, told once for all callers: of one object and rows, or of rows alone.
-/
import Derived.Test.YtemcdjdglcceiaaSxS
namespace Go.Proofs.Ytemcdjdglcceiaa
namespace Sx
open Go

section
variable {U : Uni} {P : Program}

abbrev RunObj (U : Uni) := U.O → List (Arg U) → (AV → U.O → List (Blk U) → Out U) → Out U
abbrev RunFree (U : Uni) := List (Arg U) → (AV → List (Blk U) → Out U) → Out U

def hookObj (n : Nat) (sg : List (Sg U)) (run : RunObj U) : HookS U := fun args h nx K =>
  match args with
  | .ptr id off :: rest => bif Nat.beq off 0 then (match h.get id with
    | some (.obj x) => evalArgs sg rest (h.del id) fun as => run x as fun v x' E =>
        bif newFree nx E h then K (v.ren (shf n nx)) (newAt nx E ++ h.set id (.obj x')) (nx + E.length) [id] else .bad 440
    | _ => .bad 441) else .bad 442
  | _ => .bad 443

def hookFree (sg : List (Sg U)) (run : RunFree U) : HookS U := fun args h nx K =>
  evalArgs sg args h fun as => run as fun v E =>
    bif newFree nx E h then K (v.ren (shf 0 nx)) (newAt nx E ++ h) (nx + E.length) [] else .bad 444

def HasFn (P : Program) (f : Nat) : Prop := ∃ fn, P.funcs[f]? = some fn ∧ (fn.name == "runtime.NumGoroutine") = false ∧ fn.body.isNone = false

/-- The callee's end, in its own names: its object, and what it tells and leaves besides. -/
def EndObj (n n' : Nat) (v0 : AV) (h' : Heap U) (v : AV) (x' : U.O) (E : List (Blk U)) : Prop :=
  ∃ h2, HImp n' h' h2 ∧ h2.get 0 = some (.obj x') ∧ Fin n n' v0 (h2.del 0) v E
def EndFree (n' : Nat) (v0 : AV) (h' : Heap U) (v : AV) (E : List (Blk U)) : Prop :=
  ∃ h2, HImp n' h' h2 ∧ Fin 0 n' v0 h2 v E

theorem hookObj_ok [Plain U] [Bare U] {tm : Tm U} (hL : Laid U tm) {f n0 : Nat} {sg : List (Sg U)} {run : RunObj U} (hfn : HasFn P f)
    (hcall : ∀ (M : Goal U) x as K0, (run x as K0).holds M → ∀ hp n, tm x hp n → n = n0 ∧
      CallsSx P f (.ptr 0 0 :: argAV n as) (hp ++ argHeap n as) (n + as.length) (fun v0 h' n' _ => ∃ v x' E, (K0 v x' E).holds M ∧ EndObj n n' v0 h' v x' E)) :
    HookOk P f (hookObj n0 sg run) := by
  intro M args h nx K H
  unfold hookObj at H
  split at H
  · rename_i id off rest
    rw [holds_bif] at H
    split at H
    · rename_i hoff
      have hoff := Nat.eq_of_beq_eq_true hoff
      subst hoff
      split at H
      · rename_i x hg
        obtain ⟨as, H, hargs⟩ := evalArgs_sound H
        refine ⟨hfn, fun β r vs w hr hs hfresh => ?_⟩
        simp only [relL] at hr
        obtain ⟨u0, us, rfl, hu0, hus⟩ := hr
        obtain ⟨hm, A, hd, hap, hin⟩ := hs
        obtain ⟨H1, H2, q1, q2, rfl, q4, q5⟩ := Heap.focus hd hg
        obtain ⟨b, hb, hD⟩ := q1
        obtain ⟨hp, n, rt, ht, h0, hft, hden⟩ := (hL x b H1).1 hD
        obtain ⟨hn, hc⟩ := hcall M x as _ H hp n ht
        subst hn
        have ap := Hp.join_apart.1 hap
        obtain ⟨r0, k1, k2, k3, k4⟩ := hargs β.G r H2 us n rt hus q4 ap.2 hft
        obtain ⟨y, hy, rfl⟩ := hu0
        rw [hb] at hy; cases hy
        have hin2 := (Hp.inW_join q2).1 hin
        have hGin : (H2.join β.G).inW w := (Hp.inW_join ap.2).2 ⟨hin2.2, hm.G⟩
        have hsat : Sat ⟨H2.join β.G, β.os, β.output, β.tape⟩ r0 (hp ++ argHeap n as) w :=
          ⟨⟨hm.os, hm.output, hm.tape, hGin⟩, H1.join Hp.nil, Heap.den_append (Heap.den_mono k1 (Heap.den_nil hden)) k4 (Hp.apart_nil _), by rw [Hp.join_nil]; exact Hp.apart_join.2 ⟨q2, ap.1⟩, by rw [Hp.join_nil]; exact hin2.1⟩
        refine (hc.2 _ r0 _ w (relL_cons.2 ⟨⟨(b, 0), k1 _ _ h0, rfl⟩, k3⟩) hsat k2).mono fun e w' hh => ?_
        obtain ⟨v0, h', n', T, z, r', rfl, ⟨v, x', E, hK, h2, himp, hx', hfin⟩, g1, g2, g3, g4, _⟩ := hh
        rw [holds_bif] at hK
        split at hK
        · rename_i hfree
          obtain ⟨hm', A', hd', hap', hin'⟩ := g4
          obtain ⟨B1, B2, p1, p2, rfl⟩ := himp _ _ _ g2 hd'
          obtain ⟨A1, A2, ⟨b', hb', hDx⟩, a2, rfl, a4, _⟩ := Heap.focus p1 hx'
          have hbb : b' = b := by
            have := g1 _ _ (k1 _ _ h0); rw [this] at hb'; cases hb'; rfl
          subst hbb
          obtain ⟨⟨f2, hsub, hv0⟩, hbare, hon⟩ := hfin
          obtain ⟨C1, C2, c1, c2, rfl⟩ := heapSub_den hsub a4
          have hdis := Hp.join_apart.1 hap'
          have hdis1 := Hp.join_apart.1 hdis.1
          have hdis2 := Hp.join_apart.1 hdis1.2
          have aA1 := Hp.apart_join.1 hdis1.1
          have aC1 := Hp.apart_join.1 hdis2.1
          have aAC := Hp.apart_join.1 a2
          let rr : Nm := fun i => if i < nx then r i else if i < nx + E.length then r' (f2 (n + (i - nx))) else none
          have hle : r.le rr := fun i y e => by
            show (if i < nx then r i else _) = _
            rw [if_pos (Nat.lt_of_not_le fun hh => by rw [hfresh i hh] at e; cases e)]; exact e
          have hset := q5 rr (.obj x') A1 hle ⟨b', hle _ _ hb, hDx⟩ aA1.1
          have hnew : (newAt nx E).den β.G rr C1 := newAt_den hbare (fun k hk => by
            show r' (f2 (n + k)) = (if nx + k < nx then _ else if nx + k < nx + E.length then _ else _)
            rw [if_neg (by omega), if_pos (by omega), Nat.add_sub_cancel_left]) c1
          have hinA := (Hp.inW_join p2).1 hin'
          have hinA1 := (Hp.inW_join a2).1 hinA.1
          have hinC := (Hp.inW_join c2).1 hinA1.2
          have hG' := (Hp.inW_join ap.2).1 hm'.G
          refine ⟨v.ren (shf n nx), _, _, _, z, rr, rfl, hK, hle, fun i hi => ?_, ?_, ⟨⟨hm'.os, hm'.output, hm'.tape, hG'.2⟩, C1.join (A1.join H2), ?_, ?_, ?_⟩, ?_⟩
          · show (if i < nx then _ else if i < nx + E.length then _ else none) = none
            rw [if_neg (by omega), if_neg (by omega)]
          · have h1 := rel_ren _ _ (hv0 _ _ g3)
            refine rel_ren' _ _ (rel_on (r := fun i => r' (f2 i)) (fun i hi => ?_) v z hon h1)
            simp only [Bool.and_eq_true] at hi
            have i1 := Nat.le_of_ble_eq_true hi.1
            have i2 : i < n + E.length := by have := hi.2; rwa [Nat.blt_eq] at this
            show r' (f2 i) = (if shf n nx i < nx then _ else if shf n nx i < nx + E.length then r' (f2 (n + (shf n nx i - nx))) else _)
            unfold shf
            rw [if_neg (by omega), if_pos (by omega)]
            congr 2; omega
          · exact Heap.den_append hnew hset (Hp.apart_join.2 ⟨aAC.1.symm, aC1.1⟩)
          · exact Hp.join_apart.2 ⟨aC1.2, Hp.join_apart.2 ⟨aA1.2, ap.2⟩⟩
          · exact (Hp.inW_join (Hp.apart_join.2 ⟨aAC.1.symm, aC1.1⟩)).2 ⟨hinC.1, (Hp.inW_join aA1.1).2 ⟨hinA1.1, hG'.1⟩⟩
          · intro id2 B2 e2 hn2
            have hne : id2 ≠ id := fun hh => hn2 (by simp [hh])
            exact newFree_get hfree e2 (by rw [Heap.get_set_ne hne]; exact e2)
        · exact hK.elim
      · exact H.elim
    · exact H.elim
  · exact H.elim

theorem hookFree_ok [Plain U] [Bare U] {f : Nat} {sg : List (Sg U)} {run : RunFree U} (hfn : HasFn P f)
    (hcall : ∀ (M : Goal U) as K0, (run as K0).holds M →
      CallsSx P f (argAV 0 as) (argHeap 0 as) as.length (fun v0 h' n' _ => ∃ v E, (K0 v E).holds M ∧ EndFree n' v0 h' v E)) :
    HookOk P f (hookFree sg run) := by
  intro M args h nx K H
  unfold hookFree at H
  obtain ⟨as, H, hargs⟩ := evalArgs_sound H
  refine ⟨hfn, fun β r vs w hr hs hfresh => ?_⟩
  obtain ⟨hm, H2, hd, hap, hin⟩ := hs
  have hc := hcall M as _ H
  obtain ⟨r0, k1, k2, k3, k4⟩ := hargs β.G r H2 vs 0 (fun _ => none) hr hd hap (fun _ _ => rfl)
  have hGin : (H2.join β.G).inW w := (Hp.inW_join hap).2 ⟨hin, hm.G⟩
  have hsat : Sat ⟨H2.join β.G, β.os, β.output, β.tape⟩ r0 (argHeap 0 as) w :=
    ⟨⟨hm.os, hm.output, hm.tape, hGin⟩, Hp.nil, k4, Hp.nil_apart _, Hp.inW_nil w⟩
  refine (hc.2 _ r0 _ w k3 hsat (by rw [Nat.zero_add] at k2; exact k2)).mono fun e w' hh => ?_
  obtain ⟨v0, h', n', T, z, r', rfl, ⟨v, E, hK, h2, himp, hfin⟩, g1, g2, g3, g4, _⟩ := hh
  rw [holds_bif] at hK
  split at hK
  · rename_i hfree
    obtain ⟨hm', A', hd', hap', hin'⟩ := g4
    obtain ⟨B1, B2, p1, p2, rfl⟩ := himp _ _ _ g2 hd'
    obtain ⟨⟨f2, hsub, hv0⟩, hbare, hon⟩ := hfin
    obtain ⟨C1, C2, c1, c2, rfl⟩ := heapSub_den hsub p1
    have hdis := Hp.join_apart.1 hap'
    have hdis2 := Hp.join_apart.1 hdis.1
    have aC1 := Hp.apart_join.1 hdis2.1
    let rr : Nm := fun i => if i < nx then r i else if i < nx + E.length then r' (f2 (0 + (i - nx))) else none
    have hle : r.le rr := fun i y e => by
      show (if i < nx then r i else _) = _
      rw [if_pos (Nat.lt_of_not_le fun hh => by rw [hfresh i hh] at e; cases e)]; exact e
    have hnew : (newAt nx E).den β.G rr C1 := newAt_den hbare (fun k hk => by
      show r' (f2 (0 + k)) = (if nx + k < nx then _ else if nx + k < nx + E.length then _ else _)
      rw [if_neg (by omega), if_pos (by omega), Nat.add_sub_cancel_left]) c1
    have hinA := (Hp.inW_join p2).1 hin'
    have hinC := (Hp.inW_join c2).1 hinA.1
    have hG' := (Hp.inW_join hap).1 hm'.G
    refine ⟨v.ren (shf 0 nx), _, _, _, z, rr, rfl, hK, hle, fun i hi => ?_, ?_, ⟨⟨hm'.os, hm'.output, hm'.tape, hG'.2⟩, C1.join H2, ?_, ?_, ?_⟩, ?_⟩
    · show (if i < nx then _ else if i < nx + E.length then _ else none) = none
      rw [if_neg (by omega), if_neg (by omega)]
    · have h1 := rel_ren _ _ (hv0 _ _ g3)
      refine rel_ren' _ _ (rel_on (r := fun i => r' (f2 i)) (fun i hi => ?_) v z hon h1)
      simp only [Bool.and_eq_true] at hi
      have i2 : i < 0 + E.length := by have := hi.2; rwa [Nat.blt_eq] at this
      show r' (f2 i) = (if shf 0 nx i < nx then _ else if shf 0 nx i < nx + E.length then r' (f2 (0 + (shf 0 nx i - nx))) else _)
      unfold shf
      rw [if_neg (by omega), if_pos (by omega)]
      congr 2; omega
    · exact Heap.den_append hnew (Heap.den_mono hle hd) aC1.1
    · exact Hp.join_apart.2 ⟨aC1.2, hap⟩
    · exact (Hp.inW_join aC1.1).2 ⟨hinC.1, hG'.1⟩
    · intro id2 B2 e2 hn2
      exact newFree_get hfree e2 e2
  · exact hK.elim

/-- A run of the body is a call. -/
theorem calls_of_run {C : Cfg P U} (hC : C.ok) {M : Goal U} {n g : Nat} {fn : Func} (h1 : P.funcs[g]? = some fn) (h2 : (fn.name == "runtime.NumGoroutine") = false) {body : Code} (hb : fn.body = some body) {args : List AV} (hl : args.length ≤ fn.ntmps) {h : Heap U} {nx : Nat}
    {R : AV → Heap U → Nat → List Nat → Prop} {k : AV → Heap U → Nat → List Nat → Out U} (hk : ∀ v h' nx' T, (k v h' nx' T).holds M → R v h' nx' T)
    (H : (runCode C n g body ⟨argsEnv 0 args, h, nx, fn.ntmps, []⟩ (fun e s' => match e with
                | .nx => resAll C.τ fn s' fun v => k v s'.heap s'.nx s'.tl
                | .rt => resAll C.τ fn s' fun v => k v s'.heap s'.nx s'.tl
                | .ex _ => .bad 301)).holds M) : CallsSx P g args h nx R := by
  refine ⟨⟨fn, h1, h2, by rw [hb]; rfl⟩, fun β r vs w hr hs hf => ?_⟩
  obtain ⟨e1, e2⟩ := entry_ok hr fn.ntmps hl
  refine calls_of_wp h1 hb (runCode_sound hC n g body _ _ H β r _ w ⟨hs, hf, e1, e2, rfl⟩ _ ?_)
  have fin : ∀ (s' : St U) (r' : Nm) (a' : Act) (w' : World), (resAll C.τ fn s' fun v => k v s'.heap s'.nx s'.tl).holds M → r.le r' → SatS β r' s' a' w' → Fr (⟨argsEnv 0 args, h, nx, fn.ntmps, []⟩ : St U) s' →
      a'.defers = [] ∧ ∃ v, (results fn a'.tmps).run P w' = .ok v w' ∧ ∃ av h' nx' T z r', (Ending.returned v) = .returned z ∧ R av h' nx' T ∧ r.le r' ∧ Fresh r' nx' ∧ rel r' av z ∧ Sat β r' h' w' ∧ Kept h h' T := by
    intro s' r' a' w' hres hle hs' hfr
    obtain ⟨v, hK, hh⟩ := resAll_sound hC.τ hres
    obtain ⟨z, hz, hrz⟩ := hh β r' a' w' hs'
    exact ⟨hs'.defers, z, hz, v, s'.heap, s'.nx, s'.tl, z, r', rfl, hk _ _ _ _ hK, hle, hs'.fresh, hrz, hs'.sat, hfr.kept⟩
  intro e s' r' a' w' hR hle hs' hfr
  cases e with
  | nx => exact fin s' r' a' w' hR hle hs' hfr
  | rt => exact fin s' r' a' w' hR hle hs' hfr
  | ex j => exact hR.elim

end
end Sx
end Go.Proofs.Ytemcdjdglcceiaa
