/-
  The document's Cells unpacked, where a law looks into it itself.
-/
import Derived.Test.YtjackepkphdibaaDo
import Derived.Test.YtjackepkphdibaaSxY
namespace Go.Proofs.Ytjackepkphdibaa
namespace Sx
open Go

/-- The document's Cells at a name, in its blocks. -/
def rOpen (s : MR) (id nx : Nat) (q : Nat × Nat × Nat × Nat) : Heap V :=
  [(id, .cells 43 [.sl false (nx + 1) 0 1 s.w.length (s.w.length + q.1), .sl false (nx + 2) 0 1 s.h.length (s.h.length + q.2.1), .sl false (nx + 3) 0 1 s.t.length (s.t.length + q.2.2.1), .sl false (nx + 4) 0 5 s.l.length (s.l.length + q.2.2.2)]),
   (nx + 1, .arr 3 Kd.int s.w q.1), (nx + 2, .arr 4 Kd.bool s.h q.2.1), (nx + 3, .arr 3 Kd.int s.t q.2.2.1), (nx + 4, .arr 45 Kd.deed s.l q.2.2.2)]
def unpackR (id : Nat) : GhostS V := fun h nx K => bif Nat.blt id nx then (match h.get id with
  | some (.obj (.inr (.ref s))) => .all (Nat × Nat × Nat × Nat) fun q => K (h.del id ++ rOpen s id nx q) (nx + 5) [id]
  | _ => .bad 470) else .bad 471

theorem unpackR_ok (id : Nat) : GhostOk (unpackR id) := by
  intro M h nx K H β r w hs hf
  unfold unpackR at H
  rw [holds_bif] at H
  split at H
  · rename_i hid
    rw [Nat.blt_eq] at hid
    split at H
    · rename_i s hg
      obtain ⟨hp, n, r', ht, g1, g2, g3⟩ := unpack_ghost laid_V hg hid hs hf
      obtain ⟨rfl, sw, sh, st, sl, rfl⟩ := tmV_ref ht
      refine ⟨_, _, _, r', H (sw, sh, st, sl), g1, g2, g3, fun i B e hn => ?_⟩
      have hne : i ≠ id := fun hh => hn (by simp [hh])
      have hdel : (h.del id).get i = some B := by rw [Heap.get_del_ne hne]; exact e
      have app : ∀ (a b : Heap V), a.get i = some B → Heap.get (a ++ b) i = some B := by
        intro a b
        induction a with
        | nil => intro e; cases e
        | cons q a ih =>
          obtain ⟨j, C⟩ := q
          intro e
          show (bif Nat.beq j i then some C else Heap.get (a ++ b) i) = some B
          change (bif Nat.beq j i then some C else Heap.get a i) = some B at e
          cases hh : Nat.beq j i with
          | true => rw [hh] at e; exact e
          | false => rw [hh] at e; exact ih e
      exact app _ _ hdel
    · exact H.elim
  · exact H.elim

/-- Unpacked, if it is not yet. -/
def openR (id : Nat) : GhostS V := fun h nx K => match h.get id with
  | some (.obj _) => unpackR id h nx K
  | _ => K h nx []
theorem openR_ok (id : Nat) : GhostOk (openR id) := by
  intro M h nx K H β r w hs hf
  unfold openR at H
  split at H
  · exact unpackR_ok id M h nx K H β r w hs hf
  · exact ⟨h, nx, [], r, H, Nm.le.refl r, hf, hs, Kept.refl _ _⟩

/-- The document's Cells whole again. -/
def packR (id : Nat) : GhostS V := fun h nx K => match h.get id with
  | some (.cells T [.sl _ a 0 1 n1 c1, .sl _ b 0 1 n2 c2, .sl _ c 0 1 n3 c3, .sl _ d 0 5 n4 c4]) =>
    (match h.get a, h.get b, h.get c, h.get d with
      | some (.arr T1 Kd.int w s1), some (.arr T2 Kd.bool hh s2), some (.arr T3 Kd.int t s3), some (.arr T4 Kd.deed l s4) =>
        bif decide (T = 43 ∧ T1 = 3 ∧ T2 = 4 ∧ T3 = 3 ∧ T4 = 45) && decide ((a ≠ id ∧ b ≠ id ∧ c ≠ id ∧ d ≠ id) ∧ a ≠ b ∧ a ≠ c ∧ a ≠ d ∧ b ≠ c ∧ b ≠ d ∧ c ≠ d) then
          .need ((n1 = w.length ∧ c1 = w.length + s1) ∧ (n2 = hh.length ∧ c2 = hh.length + s2) ∧ (n3 = t.length ∧ c3 = t.length + s3) ∧ (n4 = l.length ∧ c4 = l.length + s4))
            (K ((id, .obj (oR ⟨w, hh, t, l⟩)) :: ((((h.del id).del a).del b).del c).del d) nx [id, a, b, c, d])
        else .bad 472
      | _, _, _, _ => .bad 473)
  | _ => .bad 474

theorem packR_ok (id : Nat) : GhostOk (packR id) := by
  intro M h nx K H β r w hs hf
  unfold packR at H
  split at H
  · rename_i T k1 a n1 c1 k2 b n2 c2 k3 c n3 c3 k4 d n4 c4 hg
    split at H
    · rename_i T1 xw s1 T2 xh s2 T3 xt s3 T4 xl s4 g1 g2 g3 g4
      rw [holds_bif] at H
      split at H
      · rename_i hc
        simp only [Bool.and_eq_true, decide_eq_true_eq] at hc
        obtain ⟨⟨rfl, rfl, rfl, rfl, rfl⟩, hne⟩ := hc
        obtain ⟨⟨⟨rfl, rfl⟩, ⟨rfl, rfl⟩, ⟨rfl, rfl⟩, rfl, rfl⟩, H⟩ := H
        have hp : HImp nx h _ := pack (ren := [(0, id), (1, a), (2, b), (3, c), (4, d)]) laid_V (x := oR ⟨xw, xh, xt, xl⟩) (n := 5) (m := id) (h := h) (n' := nx) ⟨rBlk ⟨xw, xh, xt, xl⟩ s1 s2 s3 s4, rfl, rfl, s1, s2, s3, s4, rfl⟩ rfl rfl ?_ rfl
        · obtain ⟨hm, A, hd, hap, hin⟩ := hs
          obtain ⟨B1, B2, p1, p2, rfl⟩ := hp _ _ _ hf hd
          refine ⟨_, _, _, r, H, Nm.le.refl r, hf, ⟨hm, B1, p1, (Hp.join_apart.1 hap).1, ((Hp.inW_join p2).1 hin).1⟩, fun i B e hn => ?_⟩
          simp only [List.mem_cons, List.not_mem_nil, or_false, not_or] at hn
          rw [Heap.get_cons_ne hn.1, Heap.get_del_ne hn.2.2.2.2, Heap.get_del_ne hn.2.2.2.1, Heap.get_del_ne hn.2.2.1, Heap.get_del_ne hn.2.1, Heap.get_del_ne hn.1]
          exact e
        · refine ⟨?_, ?_, ?_, ?_, ?_, trivial⟩
          · show BSub (h.get id) _
            rw [hg]
            exact BSub.cells 43 _ _ (AV.subL_cons (AV.sub_sl rfl rfl) (AV.subL_cons (AV.sub_sl rfl rfl) (AV.subL_cons (AV.sub_sl rfl rfl) (AV.subL_cons (AV.sub_sl rfl rfl) AV.subL_nil))))
          · show BSub ((h.del id).get a) _
            rw [Heap.get_del_ne hne.1.1, g1]; exact BSub.same _
          · show BSub (((h.del id).del a).get b) _
            rw [Heap.get_del_ne hne.2.1.symm, Heap.get_del_ne hne.1.2.1, g2]; exact BSub.same _
          · show BSub ((((h.del id).del a).del b).get c) _
            rw [Heap.get_del_ne hne.2.2.2.2.1.symm, Heap.get_del_ne hne.2.2.1.symm, Heap.get_del_ne hne.1.2.2.1, g3]; exact BSub.same _
          · show BSub (((((h.del id).del a).del b).del c).get d) _
            rw [Heap.get_del_ne hne.2.2.2.2.2.2.symm, Heap.get_del_ne hne.2.2.2.2.2.1.symm, Heap.get_del_ne hne.2.2.2.1.symm, Heap.get_del_ne hne.1.2.2.2, g4]; exact BSub.same _
      · exact H.elim
    · exact H.elim
  · exact H.elim

end Sx
end Go.Proofs.Ytjackepkphdibaa
