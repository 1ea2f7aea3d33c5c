/-
  What a function does to several objects, told once for all callers; the objects stay whole.
-/
import Derived.Test.YtemcdjdglcceiaaSxW
namespace Go.Proofs.Ytemcdjdglcceiaa
namespace Sx
open Go

section
variable {U : Uni} {P : Program}

def takeObjs : Nat → List AV → Heap U → (List (Nat × U.O) → List AV → Heap U → Out U) → Out U
  | 0, args, h, K => K [] args h
  | m + 1, .ptr id off :: args, h, K => bif Nat.beq off 0 then (match h.get id with
    | some (.obj x) => takeObjs m args (h.del id) fun os rest h' => K ((id, x) :: os) rest h'
    | _ => .bad 450) else .bad 451
  | _ + 1, _, _, _ => .bad 452

def objsAt : Nat → List U.O → Heap U
  | _, [] => []
  | j, x :: xs => (j, .obj x) :: objsAt (j + 1) xs
def objsBack : List (Nat × U.O) → List U.O → Heap U
  | [], _ => []
  | _ :: _, [] => []
  | (id, _) :: os, x :: xs => (id, .obj x) :: objsBack os xs
def ptrsAt : Nat → Nat → List AV
  | _, 0 => []
  | j, m + 1 => .ptr j 0 :: ptrsAt (j + 1) m

/-- The objects apart from the rest, and how the rest goes on with others in their place. -/
theorem takeObjs_sound {M : Goal U} : ∀ {m : Nat} {args : List AV} {h : Heap U} {K : List (Nat × U.O) → List AV → Heap U → Out U}, (takeObjs m args h K).holds M →
    ∃ os rest h', (K os rest h').holds M ∧ os.length = m ∧ (∀ id B, h.get id = some B → id ∉ os.map (·.1) → h'.get id = some B) ∧
      ∀ (G : Hp) (r : Nm) (H : Hp) (vs : List Value), relL r args vs → h.den G r H → ∃ (us ws : List Value) (bs : List Nat) (H1 H2 : Hp), vs = us ++ ws ∧ relL r rest ws ∧ h'.den G r H2 ∧ H1.apart H2 ∧ H = H1.join H2 ∧
        bs.length = m ∧ us = bs.map (fun b => .pointer (some ⟨b, 0, none⟩)) ∧ (∀ (j : Nat) (q : Nat × U.O), os[j]? = some q → ∃ b, bs[j]? = some b ∧ r q.1 = some (b, 0)) ∧
        ∀ (s : Nm) (i : Nat), (∀ (j b : Nat), bs[j]? = some b → s (i + j) = some (b, 0)) → (objsAt i (os.map (·.2))).den G s H1
  | 0, args, h, K, H => ⟨[], args, h, H, rfl, fun _ _ e _ => e, fun G r A vs hr hd => ⟨[], vs, [], Hp.nil, A, rfl, hr, hd, Hp.nil_apart _, rfl, rfl, rfl, fun j q e => (by simp at e), fun s i _ => rfl⟩⟩
  | m + 1, [], _, _, H => H.elim
  | m + 1, a :: args, h, K, H => by
    cases a with
    | ptr id off =>
      simp only [takeObjs, holds_bif] at H
      split at H
      · rename_i hoff
        have hoff := Nat.eq_of_beq_eq_true hoff
        subst hoff
        split at H
        · rename_i x hg
          obtain ⟨os, rest, h', hK, hl, hk, hall⟩ := takeObjs_sound H
          refine ⟨(id, x) :: os, rest, h', hK, by simp [hl], fun i B e hn => ?_, fun G r A vs hr hd => ?_⟩
          · simp only [List.map_cons, List.mem_cons, not_or] at hn
            exact hk i B (by rw [Heap.get_del_ne hn.1]; exact e) hn.2
          · simp only [relL] at hr
            obtain ⟨v, vs', rfl, ⟨y, hy, rfl⟩, hr'⟩ := hr
            obtain ⟨K1, K2, ⟨b, hb, hD⟩, k2, rfl, k4, _⟩ := Heap.focus hd hg
            rw [hy] at hb; cases hb
            obtain ⟨us, ws, bs, H1, H2, rfl, g1, g2, g3, rfl, g5, rfl, g6, g7⟩ := hall G r K2 vs' hr' k4
            have ka := Hp.apart_join.1 k2
            refine ⟨_ :: bs.map (fun b => .pointer (some ⟨b, 0, none⟩)), ws, b :: bs, K1.join H1, H2, rfl, g1, g2, Hp.join_apart.2 ⟨ka.2, g3⟩, by rw [Hp.join_assoc], by simp [g5], by simp, ?_, ?_⟩
            · intro j q e
              cases j with
              | zero => simp at e; subst e; exact ⟨b, rfl, hy⟩
              | succ j => simp at e; obtain ⟨b', h1, h2⟩ := g6 j q e; exact ⟨b', by simpa using h1, h2⟩
            · intro s i hs
              refine ⟨K1, H1, ⟨b, by simpa using hs 0 b rfl, hD⟩, g7 s (i + 1) (fun j b' e => by have := hs (j + 1) b' (by simpa using e); rwa [← Nat.add_assoc, Nat.add_right_comm] at this), ka.1, rfl⟩
        · exact H.elim
      · exact H.elim
    | _ => exact H.elim

theorem Heap.den_split {G : Hp} {r : Nm} : ∀ {h l : Heap U} {H : Hp}, (h ++ l).den G r H → ∃ H1 H2, h.den G r H1 ∧ l.den G r H2 ∧ H1.apart H2 ∧ H = H1.join H2
  | [], l, H, d => ⟨Hp.nil, H, rfl, d, Hp.nil_apart _, rfl⟩
  | (_, _) :: h, l, _, ⟨H1, H2, a, b, c, d⟩ => by
    obtain ⟨K1, K2, k1, k2, k3, rfl⟩ := Heap.den_split b
    have q := Hp.apart_join.1 c
    exact ⟨H1.join K1, K2, ⟨H1, K1, a, k1, q.1, rfl⟩, k2, Hp.join_apart.2 ⟨q.2, k3⟩, by rw [d, Hp.join_assoc]⟩

theorem objs_back {G G' : Hp} {r s : Nm} : ∀ {os : List (Nat × U.O)} {xs : List U.O} {bs : List Nat} {i : Nat} {H : Hp}, xs.length = os.length → (∀ (j b : Nat), bs[j]? = some b → r (i + j) = some (b, 0)) →
    (∀ (j : Nat) (q : Nat × U.O), os[j]? = some q → ∃ b, bs[j]? = some b ∧ s q.1 = some (b, 0)) → (objsAt i xs).den G r H → (objsBack os xs).den G' s H
  | [], [], _, _, _, _, _, _, d => d
  | (id, _) :: os, x :: xs, bs, i, H, hl, h1, h2, ⟨H1, H2, ⟨b, hb, hD⟩, d2, ap, e⟩ => by
    obtain ⟨b0, g1, g2⟩ := h2 0 (id, _) rfl
    have hr := h1 0 b0 g1
    rw [Nat.add_zero] at hr
    rw [hr] at hb; cases hb
    refine ⟨H1, H2, ⟨b, g2, hD⟩, objs_back (bs := bs.drop 1) (i := i + 1) (by simpa using hl) (fun j b' e' => ?_) (fun j q e' => ?_) d2, ap, e⟩
    · have := h1 (1 + j) b' (by rw [← e', List.getElem?_drop])
      rwa [← Nat.add_assoc] at this
    · obtain ⟨b', k1, k2⟩ := h2 (j + 1) q (by simpa using e')
      exact ⟨b', by rw [List.getElem?_drop, Nat.add_comm]; exact k1, k2⟩

abbrev RunObjs (U : Uni) := List U.O → List (Arg U) → (AV → List U.O → List (Blk U) → Out U) → Out U
def hookObjs (m : Nat) (sg : List (Sg U)) (run : RunObjs U) : HookS U := fun args h nx K =>
  takeObjs m args h fun os rest h' => evalArgs sg rest h' fun as => run (os.map (·.2)) as fun v xs E =>
    bif newFree nx E h && Nat.beq xs.length m then K (v.ren (shf m nx)) (newAt nx E ++ (objsBack os xs ++ h')) (nx + E.length) (os.map (·.1)) else .bad 460

/-- The callee's end, in its own names: its objects first. -/
def EndObjs (m n' : Nat) (v0 : AV) (h' : Heap U) (v : AV) (xs : List U.O) (E : List (Blk U)) : Prop :=
  ∃ hr, HImp n' h' (objsAt 0 xs ++ hr) ∧ Fin m n' v0 hr v E

theorem ptrs_rel {r : Nm} : ∀ {bs : List Nat} {i : Nat}, (∀ (j b : Nat), bs[j]? = some b → r (i + j) = some (b, 0)) → relL r (ptrsAt i bs.length) (bs.map fun b => .pointer (some ⟨b, 0, none⟩))
  | [], _, _ => relL_nil
  | b :: bs, i, h => relL_cons.2 ⟨⟨(b, 0), by simpa using h 0 b rfl, rfl⟩, ptrs_rel (i := i + 1) (fun j b' e => by have := h (j + 1) b' (by simpa using e); rwa [← Nat.add_assoc, Nat.add_right_comm] at this)⟩

theorem hookObjs_ok [Plain U] [Bare U] {f m : Nat} {sg : List (Sg U)} {run : RunObjs U} (hfn : HasFn P f)
    (hcall : ∀ (M : Goal U) xs as K0, xs.length = m → (run xs as K0).holds M →
      CallsSx P f (ptrsAt 0 m ++ argAV m as) (objsAt 0 xs ++ argHeap m as) (m + as.length) (fun v0 h' n' _ => ∃ v xs' E, (K0 v xs' E).holds M ∧ EndObjs m n' v0 h' v xs' E)) :
    HookOk P f (hookObjs m sg run) := by
  intro M args h nx K H
  unfold hookObjs at H
  obtain ⟨os, rest, hh, H, hlen, hkept, htake⟩ := takeObjs_sound H
  obtain ⟨as, H, hargs⟩ := evalArgs_sound H
  refine ⟨hfn, fun β r vs w hr hs hfresh => ?_⟩
  obtain ⟨hm, A, hd, hap, hin⟩ := hs
  obtain ⟨us, ws, bs, H1, H2, rfl, g1, g2, g3, rfl, g5, rfl, g6, g7⟩ := htake β.G r A vs hr hd
  have hc := hcall M _ as _ (by simp [hlen]) H
  have ap := Hp.join_apart.1 hap
  let rt : Nm := fun i => (bs[i]?).map fun b => (b, 0)
  have hrt : ∀ (j b : Nat), bs[j]? = some b → rt (0 + j) = some (b, 0) := fun j b e => by show (bs[0 + j]?).map _ = _; rw [Nat.zero_add, e]; rfl
  obtain ⟨r0, k1, k2, k3, k4⟩ := hargs β.G r H2 ws m rt g1 g2 ap.2 (fun i hi => by show (bs[i]?).map _ = none; rw [List.getElem?_eq_none (by omega)]; rfl)
  have hr0 : ∀ (j b : Nat), bs[j]? = some b → r0 (0 + j) = some (b, 0) := fun j b e => k1 _ _ (hrt j b e)
  have hin2 := (Hp.inW_join g3).1 hin
  have hGin : (H2.join β.G).inW w := (Hp.inW_join ap.2).2 ⟨hin2.2, hm.G⟩
  have hobj : (objsAt 0 (os.map (·.2))).den (H2.join β.G) r0 H1 := by
    have := g7 r0 0 hr0
    have nr : ∀ (i : Nat) (xs : List U.O), ((objsAt i xs).all fun q => q.2.noRo) = true := by
      intro i xs; induction xs generalizing i with
      | nil => rfl
      | cons x xs ih => show (_ && _) = true; rw [ih]; rfl
    exact Heap.den_G (nr _ _) this
  have hsat : Sat ⟨H2.join β.G, β.os, β.output, β.tape⟩ r0 (objsAt 0 (os.map (·.2)) ++ argHeap m as) w :=
    ⟨⟨hm.os, hm.output, hm.tape, hGin⟩, H1.join Hp.nil, Heap.den_append hobj k4 (Hp.apart_nil _), by rw [Hp.join_nil]; exact Hp.apart_join.2 ⟨g3, ap.1⟩, by rw [Hp.join_nil]; exact hin2.1⟩
  have hrel : relL r0 (ptrsAt 0 m ++ argAV m as) (bs.map (fun b => Value.pointer (some ⟨b, 0, none⟩)) ++ ws) := by
    have := ptrs_rel (i := 0) hr0
    rw [g5] at this
    exact relL_append this k3
  refine (hc.2 _ r0 _ w hrel hsat k2).mono fun e w' hq => ?_
  obtain ⟨v0, h', n', T, z, r', rfl, ⟨v, xs', E, hK, hrr, himp, hfin⟩, q1, q2, q3, q4, _⟩ := hq
  rw [holds_bif] at hK
  split at hK
  · rename_i hchk
    simp only [Bool.and_eq_true] at hchk
    have hfree := hchk.1
    have hxl := Nat.eq_of_beq_eq_true hchk.2
    obtain ⟨hm', A', hd', hap', hin'⟩ := q4
    obtain ⟨B1, B2, p1, p2, rfl⟩ := himp _ _ _ q2 hd'
    obtain ⟨A1, A2, a1, a4, a2, rfl⟩ := Heap.den_split p1
    obtain ⟨⟨f2, hsub, hv0⟩, hbare, hon⟩ := hfin
    obtain ⟨C1, C2, c1, c2, rfl⟩ := heapSub_den hsub a4
    have hdis := Hp.join_apart.1 hap'
    have hdis1 := Hp.join_apart.1 hdis.1
    have hdis2 := Hp.join_apart.1 hdis1.2
    have aA1 := Hp.apart_join.1 hdis1.1
    have aC1 := Hp.apart_join.1 hdis2.1
    have aAC := Hp.apart_join.1 a2
    let rr : Nm := fun i => if i < nx then r i else if i < nx + E.length then r' (f2 (m + (i - nx))) else none
    have hle : r.le rr := fun i y e => by
      show (if i < nx then r i else _) = _
      rw [if_pos (Nat.lt_of_not_le fun hh => by rw [hfresh i hh] at e; cases e)]; exact e
    have hback : (objsBack os xs').den β.G rr A1 := objs_back (bs := bs) (i := 0) (by rw [hxl, hlen]) (fun j b e => q1 _ _ (hr0 j b e)) (fun j q e => by obtain ⟨b, h1, h2⟩ := g6 j q e; exact ⟨b, h1, hle _ _ h2⟩) a1
    have hnew : (newAt nx E).den β.G rr C1 := newAt_den hbare (fun k hk => by
      show r' (f2 (m + k)) = (if nx + k < nx then _ else if nx + k < nx + E.length then _ else _)
      rw [if_neg (by omega), if_pos (by omega), Nat.add_sub_cancel_left]) c1
    have hinA := (Hp.inW_join p2).1 hin'
    have hinA1 := (Hp.inW_join a2).1 hinA.1
    have hinC := (Hp.inW_join c2).1 hinA1.2
    have hG' := (Hp.inW_join ap.2).1 hm'.G
    refine ⟨v.ren (shf m nx), _, _, _, z, rr, rfl, hK, hle, fun i hi => ?_, ?_, ⟨⟨hm'.os, hm'.output, hm'.tape, hG'.2⟩, C1.join (A1.join H2), ?_, ?_, ?_⟩, ?_⟩
    · show (if i < nx then _ else if i < nx + E.length then _ else none) = none
      rw [if_neg (by omega), if_neg (by omega)]
    · have h1 := rel_ren _ _ (hv0 _ _ q3)
      refine rel_ren' _ _ (rel_on (r := fun i => r' (f2 i)) (fun i hi => ?_) v z hon h1)
      simp only [Bool.and_eq_true] at hi
      have i1 := Nat.le_of_ble_eq_true hi.1
      have i2 : i < m + E.length := by have := hi.2; rwa [Nat.blt_eq] at this
      show r' (f2 i) = (if shf m nx i < nx then _ else if shf m nx i < nx + E.length then r' (f2 (m + (shf m nx i - nx))) else _)
      unfold shf
      rw [if_neg (by omega), if_pos (by omega)]
      congr 2; omega
    · exact Heap.den_append hnew (Heap.den_append hback (Heap.den_mono hle g2) aA1.1) (Hp.apart_join.2 ⟨aAC.1.symm, aC1.1⟩)
    · exact Hp.join_apart.2 ⟨aC1.2, Hp.join_apart.2 ⟨aA1.2, ap.2⟩⟩
    · exact (Hp.inW_join (Hp.apart_join.2 ⟨aAC.1.symm, aC1.1⟩)).2 ⟨hinC.1, (Hp.inW_join aA1.1).2 ⟨hinA1.1, hG'.1⟩⟩
    · intro id2 B2 e2 hn2
      refine newFree_get hfree e2 ?_
      have hk2 := hkept id2 B2 e2 hn2
      have app : ∀ (os : List (Nat × U.O)) (xs : List U.O), id2 ∉ os.map (·.1) → Heap.get (objsBack os xs ++ hh) id2 = some B2 := by
        intro os
        induction os with
        | nil => intro xs _; exact hk2
        | cons q os ih =>
          intro xs hn
          cases xs with
          | nil => exact hk2
          | cons x xs =>
            simp only [List.map_cons, List.mem_cons, not_or] at hn
            show Heap.get ((q.1, .obj x) :: (objsBack os xs ++ hh)) id2 = _
            rw [Heap.get_cons_ne hn.1]
            exact ih xs hn.2
      exact app os xs' hn2
  · exact hK.elim

end
end Sx
end Go.Proofs.Ytemcdjdglcceiaa
