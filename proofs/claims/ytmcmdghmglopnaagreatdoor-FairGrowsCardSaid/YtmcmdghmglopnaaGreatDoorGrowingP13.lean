/-
  fair.Turns, walked once.
-/
import Derived.Test.YtmcmdghmglopnaaGreatDoorGrowingP12
namespace Go.Proofs.YtmcmdghmglopnaaGreatDoor
open Go.RowKit Go.Shelf
attribute [local go_sem] Oper.semAt_some

/-- A slice of numbers that can be read. -/
def ReadsInts (w : World) (v : Value) (l : List Int) : Prop := (l = [] ∧ ∃ a, v = .slice a 0 0) ∨ ∃ b o c, v = .slice (some ⟨b, o, none⟩) l.length c ∧ l.length ≤ c ∧ ∀ i t, l[i]? = some t → w.cell? ⟨b, o + i, none⟩ = some (.int .i64 t)

set_option maxRecDepth 100000 in
set_option maxHeartbeats 2000000 in
theorem turns_calls (th : Int) (l : List Int) (w : World) (v1 : Value) (hr : ReadsInts w v1 l) (h0 : 1 ≤ th) (h1 : th ≤ 64) (hl : l.length ≤ 4096) :
    Calls Tryz.prog 11 #[.int .i64 th, v1] w (fun e W => ∃ v, e = .returned v ∧ W.ownsRow w.heap.size 3 1 v (Sx.turnsI th l).length ((Sx.turnsI th l).map (Value.int .i64)) ∧ Below w.heap.size w W) := by
  refine (callsIn_wide (n := 8)).1 ?_
  refine callsIn_of_wp_marks Tryz.func11 rfl trivial ?_ rfl
  simp only [Tryz.ntmps11, List.size_toArray, List.length_cons, List.length_nil, Nat.reduceAdd, Nat.reduceSub, Array.replicate_succ, Array.replicate_zero, List.push_toArray, List.append_toArray, List.nil_append, List.cons_append]
  have hn1 : ¬ th < 1 := by omega
  have hn2 : ¬ th > 64 := by omega
  have fin : ∀ (B : Nat) (l' : List Int) (W1 W : World) (Ds : List Nat) (tmps : Array Value), w.heap.size ≤ B → Below w.heap.size w W1 → Below B W1 W → RowAt B W l' [] → MarksAt Ds W → (∀ D ∈ Ds, B ≤ D) → (∀ v, W.cell? ⟨B, 0, none⟩ = some v → tmps.getD 4 undef = v) →
      LeavesInM Fence.wide 8 Tryz.prog Tryz.f11 tmps (fun e W => ∃ v, e = .returned v ∧ W.ownsRow w.heap.size 3 1 v l'.length (l'.map (Value.int .i64)) ∧ Below w.heap.size w W) (Ds.map markOf) .returning W := by
    intro B l' W1 W Ds tmps hwB hb1 hb2 ⟨v, hv, hrow, _, _⟩ hM hDs ht
    refine leaves_marks Ds W hM hDs (fun W' hk hb => ⟨_, results_tmp rfl _ _ _, v, by rw [ht v hv.cell], ?_, hb1.trans ((hb2.trans hb).mono hwB)⟩)
    refine own_weaken ?_ hwB
    refine ⟨hrow.1, ?_⟩
    rcases hrow.2 with h | ⟨g, cap, cur, k1, k2, k3, k4⟩
    · exact .inl h
    · exact .inr ⟨g, cap, cur, k1, k2, hk g _ rfl k3, k4⟩
  have hr' : (l = [] ∧ ∃ a c, v1 = .slice a 0 c) ∨ (l ≠ [] ∧ ∃ b o c, v1 = .slice (some ⟨b, o, none⟩) l.length c ∧ ∀ i t, l[i]? = some t → w.cell? ⟨b, o + i, none⟩ = some (.int .i64 t)) := by
    rcases hr with ⟨e, a, h⟩ | ⟨b, o, c, h, _, k⟩
    · exact .inl ⟨e, a, 0, h⟩
    · by_cases e : l = []
      · subst e; exact .inl ⟨rfl, _, _, h⟩
      · exact .inr ⟨e, b, o, c, h, k⟩
  clear hr
  rcases hr' with ⟨rfl, a, c, rfl⟩ | ⟨hne, b, o, c, rfl, hread⟩
  · gi_wp2
    have hbox : Boxed ((w.alloc (.cells #[.int .i64 0] 3)).alloc (.cells #[.slice none 0 0] 22)) (w.heap.size + 1) 22 (.slice none 0 0) := by
      have := Boxed.new (w.alloc (.cells #[.int .i64 0] 3)) 22 (.slice none 0 0)
      rwa [World.size_alloc] at this
    refine turns_loop th (by omega) h1 [0] (by simp) (w.heap.size + 1) w.heap.size 0 1 _ (by omega) hbox ?_ _ _ ⟨_, _, _, _, _, _, _, _, _, _, _, _, _, _, _, _, _, _, _, _, _, _, _, _, _, _, _, _, _, _, _, _, _, rfl⟩ ?_
    · intro i t hi
      match i, hi with
      | 0, hi =>
        cases hi
        have h1 := (Boxed.new w 3 (.int .i64 0)).alloc (.cells #[.slice none 0 0] 22)
        exact h1.cell
    · rintro a W Ds ⟨u2, u3, u6, u7, u8, u9, u10, u11, u12, u13, u14, u15, u16, u17, u18, u19, u20, u21, u22, u23, u27, u28, u29, u30, u31, u32, u33, u34, u35, u36, u37, u38, u39, rfl⟩ hB hR hM hDs
      obtain ⟨v, hv, _⟩ := id hR
      have hc := hv.cell
      gi_wp2
      refine fin (w.heap.size + 1) _ _ W Ds _ (by omega) (((Below.refl _ w).alloc (Nat.le_refl _) _).alloc (by simp) _) hB hR hM hDs (fun v' hv' => ?_)
      rw [hc] at hv'; cases hv'; rfl
  · have hpos : 0 < l.length := List.length_pos_iff.2 hne
    have hnz : ¬ l.length = 0 := by omega
    have hn4 : ¬ (l.length : Int) > 4096 := by omega
    have hbw : b < w.heap.size := by
      have h1 := hread 0 _ (List.getElem?_eq_getElem hpos)
      obtain ⟨_, c', T, fz, q1, _⟩ := Sx.cell_at h1
      exact (Array.getElem?_eq_some_iff.1 q1).1
    gi_wp2
    have hbox := Boxed.new w 22 (.slice none 0 0)
    refine turns_loop th (by omega) h1 l hl w.heap.size b o c _ hbw hbox (fun i t hi => ?_) _ _ ⟨_, _, _, _, _, _, _, _, _, _, _, _, _, _, _, _, _, _, _, _, _, _, _, _, _, _, _, _, _, _, _, _, _, rfl⟩ ?_
    · exact (((Below.refl _ w).alloc (Nat.le_refl _) _).cell (p := ⟨b, o + i, none⟩) hbw).trans (hread i t hi)
    · rintro a W Ds ⟨u2, u3, u6, u7, u8, u9, u10, u11, u12, u13, u14, u15, u16, u17, u18, u19, u20, u21, u22, u23, u27, u28, u29, u30, u31, u32, u33, u34, u35, u36, u37, u38, u39, rfl⟩ hB hR hM hDs
      obtain ⟨v, hv, _⟩ := id hR
      have hc := hv.cell
      gi_wp2
      have ht : Sx.turnsI th l = l.flatMap (Sx.turnI th) := by unfold Sx.turnsI; rw [if_neg hne]
      rw [ht]
      refine fin w.heap.size _ _ W Ds _ (by omega) ((Below.refl _ w).alloc (Nat.le_refl _) _) hB hR hM hDs (fun v' hv' => ?_)
      rw [hc] at hv'; cases hv'; rfl

set_option maxRecDepth 100000 in
set_option maxHeartbeats 2000000 in
theorem turns_none (th : Int) (w : World) (a : Option Addr) (n c : Nat) (h : th < 1 ∨ 64 < th ∨ 4096 < n) :
    Calls Tryz.prog 11 #[.int .i64 th, .slice a n c] w (fun e W => e = .returned (.slice none 0 0) ∧ W = w) := by
  go_enter Tryz.func11, Tryz.ntmps11
  by_cases k1 : th < 1
  · go_wp2
    go_ret
    exact ⟨rfl, rfl⟩
  · by_cases k2 : th > 64
    · go_wp2
      go_ret
      exact ⟨rfl, rfl⟩
    · have k3 : (n : Int) > 4096 := by omega
      go_wp2
      go_ret
      exact ⟨rfl, rfl⟩
end Go.Proofs.YtmcmdghmglopnaaGreatDoor

/-
  fair.Turns, for the executor: a fresh row of threads.
-/
namespace Go.Proofs.YtmcmdghmglopnaaGreatDoor
open Go.RowKit
namespace Sx
open Go

section
variable {U : Uni}
abbrev ReadI (U : Uni) := AV → Heap U → (List Int → Out U) → Out U
def ReadI.ok (rd : ReadI U) : Prop := ∀ {M : Goal U} {s : AV} {h : Heap U} {K : List Int → Out U}, (rd s h K).holds M → ∃ l, (K l).holds M ∧ ∀ (β : Base) (r : Nm) (w : World) (v : Value), rel r s v → Sat β r h w → ReadsInts w v l
/-- A row that is all there is behind the call. -/
def hookTurns (k : U.K) (mk : Int → U.El k) (rd : ReadI U) : HookS U := fun args h nx K => match args with
  | [a, s] => (match a.num with
    | some (kk, n, _) => bif decide (kk = .i64) then rd s h fun l => .ite (decide (1 ≤ n) && decide (n ≤ 64) && Nat.ble l.length 4096)
        (.all Nat fun sp => K (.sl false nx 0 1 (turnsI n l).length ((turnsI n l).length + sp)) ((nx, .arr 3 k ((turnsI n l).map mk) sp) :: h) (nx + 1) [nx]) (K .nilS h nx []) else .bad 740
    | none => .bad 741)
  | _ => .bad 742

theorem reads_slice {w : World} {v : Value} {l : List Int} (h : ReadsInts w v l) : ∃ a c, v = .slice a l.length c := by
  rcases h with ⟨rfl, a, h⟩ | ⟨b, o, c, h, _⟩
  · exact ⟨a, 0, h⟩
  · exact ⟨_, c, h⟩
/-- A fresh row, as a block. -/
theorem fresh_row {k : U.K} {mk : Int → U.El k} (hw : (U.enc k).w = 1) (hmk : ∀ r x, relL r ((U.enc k).enc (mk x)) [.int .i64 x]) {β : Base} {r : Nm} {h : Heap U} {nx : Nat} {w w' : World} {L : List Int} {v : Value} (hL : L ≠ [])
    (hs : Sat β r h w) (hf : Fresh r nx) (hown : w'.ownsRow w.heap.size 3 1 v L.length (L.map (Value.int .i64))) (hb : Below w.heap.size w w') :
    ∃ sp r', r.le r' ∧ Fresh r' (nx + 1) ∧ rel r' (.sl false nx 0 1 L.length (L.length + sp)) v ∧ Sat β r' ((nx, .arr 3 k (L.map mk) sp) :: h) w' := by
  obtain ⟨hm, H, hd, hap, hin⟩ := hs
  have hn : r nx = none := hf nx (Nat.le_refl _)
  rcases hown.2 with ⟨_, e⟩ | ⟨g, cap, cur, rfl, hg, hcur, hnc, hcm, hsz, htake⟩
  · exact absurd (List.eq_nil_of_length_eq_zero e) hL
  have keep : ∀ {A : Hp}, A.inW w → A.inW w' := fun {A} hA x o e => by
    have h1 := hA x o e
    exact (hb.block x (Array.getElem?_eq_some_iff.1 h1).1).trans h1
  have none_at : ∀ {A : Hp}, A.inW w → A g = none := fun {A} hA => by
    cases e : A g with
    | none => rfl
    | some o => have := (Array.getElem?_eq_some_iff.1 (hA g o e)).1; omega
  rw [Nat.mul_one] at hsz htake
  have hle := Nm.le_put (r := r) (x := (g, 0)) hn
  refine ⟨cap - L.length, r.put nx (g, 0), hle, fun i hi => ?_, ?_, ⟨hb.os.trans hm.os, hb.output.trans hm.output, hb.tape.trans hm.tape, keep hm.G⟩, (Hp.one g (.cells cur 3 (0, 0))).join H, ⟨_, H, .inr ⟨g, cur, Nm.put_self _ _ _, ?_, ?_, ?_, rfl⟩, Heap.den_mono hle hd, Hp.one_apart.2 (none_at hin), rfl⟩, ?_, ?_⟩
  · unfold Nm.put; rw [if_neg (by omega)]; exact hf i (by omega)
  · refine ⟨some ⟨g, 0, none⟩, ?_, by omega, .inr ⟨(g, 0), Nm.put_self _ _ _, by simp⟩⟩
    rw [Nat.add_sub_cancel' hnc]
  · intro i x hx
    rw [List.getElem?_map, Option.map_eq_some_iff] at hx
    obtain ⟨t, ht, rfl⟩ := hx
    have hi := (List.getElem?_eq_some_iff.1 ht).1
    rw [hw, Nat.mul_one, Nat.zero_add]
    have h1 : (cur.toList.drop i).take 1 = [.int .i64 t] := by
      have h2 : cur.toList[i]? = some (.int .i64 t) := by
        have h3 : (cur.toList.take L.length)[i]? = some (.int .i64 t) := by rw [htake, List.getElem?_map, ht]; rfl
        rwa [List.getElem?_take_of_lt hi] at h3
      have hi2 := (List.getElem?_eq_some_iff.1 h2).1
      rw [List.drop_eq_getElem_cons hi2, List.take_succ_cons, List.take_zero]
      rw [List.getElem?_eq_getElem hi2] at h2
      rw [Option.some.inj h2]
    rw [h1]
    exact hmk _ _
  · rw [List.length_map, hw, hsz]; omega
  · rw [List.length_map]; omega
  · exact Hp.join_apart.2 ⟨Hp.one_apart.2 (none_at hm.G), hap⟩
  · refine (Hp.inW_join (Hp.one_apart.2 (none_at hin))).2 ⟨fun x o e => ?_, keep hin⟩
    unfold Hp.one at e
    split at e
    · rename_i hx; cases e; subst hx; exact hcur
    · cases e
theorem hasTurns : ∃ fn, Tryz.prog.funcs[11]? = some fn ∧ (fn.name == "runtime.NumGoroutine") = false ∧ fn.body.isNone = false := ⟨Tryz.f11, Tryz.func11, by kernel_rfl, by kernel_rfl⟩
theorem turnsI_ne {n : Int} (h : 1 ≤ n) (l : List Int) : turnsI n l ≠ [] := by
  intro e
  have := turnsI_length n l
  rw [e] at this
  have h1 : 1 ≤ turnsLen l := by unfold turnsLen; omega
  have := Nat.mul_le_mul h1 (show 1 ≤ n.toNat by omega)
  simp at *; omega
theorem hookTurns_ok {k : U.K} {mk : Int → U.El k} (hw : (U.enc k).w = 1) (hmk : ∀ r x, relL r ((U.enc k).enc (mk x)) [.int .i64 x]) {rd : ReadI U} (hrd : rd.ok) : HookOk Tryz.prog 11 (hookTurns k mk rd) := by
  intro M args h nx K H
  unfold hookTurns at H
  split at H
  · rename_i a s
    split at H
    · rename_i kk n la hn
      rw [holds_bif] at H
      split at H
      · rename_i hk
        have hk := of_decide_eq_true hk
        subst hk
        obtain ⟨l, H, hl⟩ := hrd H
        refine ⟨hasTurns, fun β r vs w hr hs hf => ?_⟩
        simp only [relL] at hr
        obtain ⟨v0, us, rfl, h0, v1, us1, rfl, h1, rfl⟩ := hr
        obtain rfl := rel_num hn h0
        have hR := hl β r w v1 h1 hs
        obtain ⟨Ht, Hf⟩ := H
        cases hc : (decide (1 ≤ n) && decide (n ≤ 64) && Nat.ble l.length 4096) with
        | true =>
          have Ht := Ht hc
          simp only [Bool.and_eq_true, decide_eq_true_eq, Nat.ble_eq] at hc
          refine (turns_calls n l w v1 hR hc.1.1 hc.1.2 hc.2).mono ?_
          rintro e w' ⟨v, rfl, hown, hb⟩
          obtain ⟨sp, r', k1, k2, k3, k4⟩ := fresh_row hw hmk (turnsI_ne hc.1.1 l) hs hf hown hb
          exact ⟨_, _, _, _, v, r', rfl, Ht sp, k1, k2, k3, k4, Kept.of fun i B e hne => by rw [Heap.get_cons_ne (by simpa using hne)]; exact e⟩
        | false =>
          have Hf := Hf hc
          have hc' : n < 1 ∨ 64 < n ∨ 4096 < l.length := by
            by_cases e1 : n < 1
            · exact .inl e1
            · by_cases e2 : 64 < n
              · exact .inr (.inl e2)
              · by_cases e3 : 4096 < l.length
                · exact .inr (.inr e3)
                · rw [Bool.eq_false_iff] at hc
                  exact absurd (by simp only [Bool.and_eq_true, decide_eq_true_eq, Nat.ble_eq]; omega) hc
          obtain ⟨a', c', rfl⟩ := reads_slice hR
          refine (turns_none n w a' l.length c' hc').mono ?_
          rintro e w' ⟨rfl, rfl⟩
          exact ⟨_, h, nx, [], _, r, rfl, Hf, Nm.le.refl r, hf, by simp [rel], hs, Kept.refl _ _⟩
      · exact H.elim
    · exact H.elim
  · exact H.elim
end
end Sx
end Go.Proofs.YtmcmdghmglopnaaGreatDoor

/-
  Reading a row of numbers: known numbers, or a whole block.
-/
namespace Go.Proofs.YtmcmdghmglopnaaGreatDoor
open Go.RowKit
namespace Sx
open Go

section
variable {U : Uni}
def numOf (a : AV) : Option Int := match a.num with | some (kk, n, _) => bif decide (kk = .i64) then some n else none | none => none
def numsOf : List AV → Option (List Int)
  | [] => some []
  | a :: l => (match numOf a, numsOf l with | some n, some ns => some (n :: ns) | _, _ => none)
def oneOf : List AV → Option AV
  | [a] => some a
  | _ => none
def onesOf {α : Type} (f : α → List AV) : List α → Option (List AV)
  | [] => some []
  | x :: l => (match oneOf (f x), onesOf f l with | some a, some zs => some (a :: zs) | _, _ => none)
theorem numOf_ok {a : AV} {n : Int} (h : numOf a = some n) {r : Nm} {v : Value} (e : rel r a v) : v = .int .i64 n := by
  unfold numOf at h
  split at h
  · rename_i kk m l hm
    cases hk : decide (kk = IntKind.i64) with
    | false => rw [hk] at h; cases h
    | true =>
      rw [hk] at h; cases h
      have hk := of_decide_eq_true hk
      subst hk
      exact rel_num hm e
  · cases h
theorem numsOf_at : ∀ {l : List AV} {ns : List Int}, numsOf l = some ns → ns.length = l.length ∧ ∀ (i : Nat) (t : Int), ns[i]? = some t → ∃ a : AV, l[i]? = some a ∧ numOf a = some t
  | [], ns, h => by cases h; exact ⟨rfl, fun i t e => by simp at e⟩
  | a :: l, ns, h => by
    unfold numsOf at h
    split at h
    · rename_i n ns' h1 h2
      cases h
      obtain ⟨k1, k2⟩ := numsOf_at h2
      refine ⟨by simp [k1], fun i t e => ?_⟩
      cases i with
      | zero => exact ⟨a, rfl, by simpa using (by simpa using e : n = t) ▸ h1⟩
      | succ i => obtain ⟨b, e1, e2⟩ := k2 i t (by simpa using e); exact ⟨b, by simpa using e1, e2⟩
    · cases h
theorem onesOf_at {α : Type} {f : α → List AV} : ∀ {l : List α} {zs : List AV}, onesOf f l = some zs → zs.length = l.length ∧ ∀ (i : Nat) (a : AV), zs[i]? = some a → ∃ x : α, l[i]? = some x ∧ f x = [a]
  | [], zs, h => by cases h; exact ⟨rfl, fun i t e => by simp at e⟩
  | x :: l, zs, h => by
    unfold onesOf at h
    split at h
    · rename_i a zs2 h1 h2
      cases h
      obtain ⟨k1, k2⟩ := onesOf_at h2
      refine ⟨by simp [k1], fun i t e => ?_⟩
      cases i with
      | zero =>
        have e : a = t := by simpa using e
        subst e
        refine ⟨x, rfl, ?_⟩
        unfold oneOf at h1
        split at h1
        · cases h1; assumption
        · cases h1
      | succ i => obtain ⟨b, e1, e2⟩ := k2 i t (by simpa using e); exact ⟨b, by simpa using e1, e2⟩
    · cases h
/-- The cells of a block, where each element is one. -/
def cells1 (B : Blk U) : Option (List AV) := match B with
  | .cells _ cs => some cs
  | .arr _ k xs _ => bif Nat.beq (U.enc k).w 1 then onesOf (U.enc k).enc xs else none
  | .ro k xs => bif Nat.beq (U.enc k).w 1 then onesOf (U.enc k).enc xs else none
  | _ => none
theorem cells1_ok {B : Blk U} {cs : List AV} (h : cells1 B = some cs) {β : Base} {r : Nm} {id : Nat} {H : Hp} {w : World} (hd : B.den β.G r id H) (hin : H.inW w) (hG : β.G.inW w) {b o : Nat} (hb : r id = some (b, o)) :
    ∀ (i : Nat) (a : AV), cs[i]? = some a → ∃ v, rel r a v ∧ w.cell? ⟨b, o + i, none⟩ = some v := by
  have row : ∀ {k : U.K} {xs : List (U.El k)} {c : Array Value} {T : Nat} {fz : Nat × Nat} {zs : List AV}, (U.enc k).w = 1 → onesOf (U.enc k).enc xs = some zs → (∀ i x, xs[i]? = some x → relL r ((U.enc k).enc x) ((c.toList.drop (o + i * (U.enc k).w)).take (U.enc k).w)) → w.heap[b]? = some (.cells c T fz) →
      ∀ i a, zs[i]? = some a → ∃ v, rel r a v ∧ w.cell? ⟨b, o + i, none⟩ = some v := by
    intro k xs c T fz zs hw ho hrow hc i a ha
    obtain ⟨x, hx, hf⟩ := (onesOf_at ho).2 i a ha
    have h1 := hrow i x hx
    rw [hf, hw, Nat.mul_one] at h1
    simp only [relL] at h1
    obtain ⟨v, us, e1, e2, rfl⟩ := h1
    refine ⟨v, e2, ?_⟩
    have h2 : c.toList[o + i]? = some v := by
      have h3 : ((c.toList.drop (o + i)).take 1)[0]? = some v := by rw [e1]; rfl
      rw [List.getElem?_take_of_lt (by omega), List.getElem?_drop, Nat.add_zero] at h3
      exact h3
    simp only [World.cell?, hc]
    simpa using h2
  unfold cells1 at h
  split at h
  · rename_i T cs'
    cases h
    obtain ⟨b', vs, k1, k2, rfl⟩ := hd
    rw [hb] at k1; cases k1
    intro i a ha
    have hl := relL_length k2
    have hi := (List.getElem?_eq_some_iff.1 ha).1
    obtain ⟨v, hv, hr⟩ : ∃ v, vs[i]? = some v ∧ rel r a v := by
      have key : ∀ {xs : List AV} {us : List Value}, relL r xs us → ∀ (i : Nat) (a : AV), xs[i]? = some a → ∃ v : Value, us[i]? = some v ∧ rel r a v := by
        intro xs
        induction xs with
        | nil => intro us _ i a h; simp at h
        | cons y xs ih =>
          intro us hr i a h
          simp only [relL] at hr
          obtain ⟨v, us', rfl, h1, h2⟩ := hr
          cases i with
          | zero => have h : y = a := by simpa using h
                    subst h; exact ⟨v, rfl, h1⟩
          | succ i => obtain ⟨v', e1, e2⟩ := ih h2 i a (by simpa using h); exact ⟨v', by simpa using e1, e2⟩
      exact key k2 i a ha
    refine ⟨v, hr, ?_⟩
    have hc := hin b (.cells vs.toArray T (0, 0)) (by simp [Hp.one])
    simp only [World.cell?, hc]
    simpa using hv
  · rename_i T k xs sp
    cases hw : Nat.beq (U.enc k).w 1 with
    | false => rw [hw] at h; cases h
    | true =>
      rw [hw] at h
      have hw := Nat.eq_of_beq_eq_true hw
      rcases hd with ⟨h0, rfl⟩ | ⟨b', c, k1, k2, k3, k4, rfl⟩
      · have : xs = [] := List.eq_nil_of_length_eq_zero (by omega)
        subst this
        have h : some [] = some cs := h
        cases h
        intro i a ha; simp at ha
      · rw [hb] at k1; cases k1
        exact row hw h k2 (hin b (.cells c T (0, 0)) (by simp [Hp.one]))
  · rename_i k xs
    cases hw : Nat.beq (U.enc k).w 1 with
    | false => rw [hw] at h; cases h
    | true =>
      rw [hw] at h
      have hw := Nat.eq_of_beq_eq_true hw
      obtain ⟨hd, rfl⟩ := hd
      intro i a ha
      obtain ⟨x, hx, hf⟩ := (onesOf_at h).2 i a ha
      obtain ⟨b', o', c, T, fz, k1, k2, k3⟩ := hd i x hx
      rw [hb] at k1; cases k1
      refine row (xs := xs) hw h (fun j y hy => ?_) (hG b _ k2) i a ha
      obtain ⟨b', o', c', T', fz', q1, q2, q3⟩ := hd j y hy
      rw [hb] at q1; cases q1
      rw [k2] at q2; cases q2
      exact q3
  · cases h
/-- Known numbers. -/
def readG : ReadI U := fun s h K => match s with
  | .nilS => K []
  | .sl _ id st w len _ => bif Nat.beq w 1 then (match h.get id with
    | some B => (match cells1 B with
      | some cs => (match numsOf ((cs.drop st).take len) with
        | some l => bif Nat.beq l.length len then K l else .bad 754
        | none => .bad 750)
      | none => .bad 751)
    | none => .bad 752) else .bad 753
  | _ => .bad 755
theorem readG_ok : (readG (U := U)).ok := by
  intro M s h K H
  unfold readG at H
  split at H
  · refine ⟨[], H, fun β r w v hr hs => .inl ⟨rfl, ?_⟩⟩
    simp only [rel] at hr
    exact ⟨none, hr⟩
  · rename_i kn id st w0 len cap
    rw [holds_bif] at H
    split at H
    · rename_i hw
      have hw := Nat.eq_of_beq_eq_true hw
      subst hw
      split at H
      · rename_i B hg
        split at H
        · rename_i cs hc
          split at H
          · rename_i l hl
            rw [holds_bif] at H
            split at H
            · rename_i hlen
              have hlen := Nat.eq_of_beq_eq_true hlen
              refine ⟨l, H, fun β r w v hr hs => ?_⟩
              obtain ⟨a, rfl, hle, hcap⟩ := hr
              rcases hcap with hcap | ⟨⟨b, o⟩, hx, rfl⟩
              · have : l = [] := List.eq_nil_of_length_eq_zero (by omega)
                exact .inl ⟨this, a, by rw [← hlen, this, hcap]; rfl⟩
              · obtain ⟨hm, A, hd, hap, hin⟩ := hs
                obtain ⟨H1, H2, q1, q2, rfl, _⟩ := Heap.focus hd hg
                have hin2 := (Hp.inW_join q2).1 hin
                have key := cells1_ok hc q1 hin2.1 hm.G hx
                refine .inr ⟨b, o + st, cap, by rw [hlen, Nat.mul_one], by omega, fun i t ht => ?_⟩
                obtain ⟨a', ha, hn⟩ := (numsOf_at hl).2 i t ht
                have hi := (List.getElem?_eq_some_iff.1 ht).1
                rw [List.getElem?_take_of_lt (by omega), List.getElem?_drop] at ha
                obtain ⟨v', hv, hcell⟩ := key _ _ ha
                have := numOf_ok hn hv
                subst this
                rw [Nat.add_assoc]; exact hcell
            · exact H.elim
          · exact H.elim
        · exact H.elim
      · exact H.elim
    · exact H.elim
  · exact H.elim
end

/-- A whole block of numbers. -/
def readV : ReadI V := fun s h K => match s with
  | .nilS => K []
  | .sl _ id st w len _ => bif Nat.beq w 1 && Nat.beq st 0 then (match h.get id with
    | some (.ro .int xs) => .need (len = xs.length) (K xs)
    | some (.arr _ .int xs _) => .need (len = xs.length) (K xs)
    | _ => .bad 760) else .bad 761
  | _ => .bad 762
theorem onesInt : ∀ xs : List Int, onesOf (kEnc .int).enc xs = some (xs.map (AV.int .i64))
  | [] => rfl
  | x :: xs => by
    show (match oneOf [AV.int .i64 x], onesOf (kEnc .int).enc xs with | some a, some zs => some (a :: zs) | _, _ => none) = _
    rw [onesInt xs]; rfl
theorem readV_ok : readV.ok := by
  have core : ∀ {M : Goal V} {kn : Bool} {id len cap : Nat} {h : Heap V} {K : List Int → Out V} {B : Blk V} {xs : List Int}, h.get id = some B → cells1 B = some (xs.map (AV.int .i64)) → len = xs.length → (K xs).holds M →
      ∃ l, (K l).holds M ∧ ∀ (β : Base) (r : Nm) (w : World) (v : Value), rel r (.sl kn id 0 1 len cap) v → Sat β r h w → ReadsInts w v l := by
    intro M kn id len cap h K B xs hg hc hlen H
    refine ⟨xs, H, fun β r w v hr hs => ?_⟩
    obtain ⟨a, rfl, hle, hcap⟩ := hr
    rcases hcap with hcap | ⟨⟨b, o⟩, hx, rfl⟩
    · have : xs = [] := List.eq_nil_of_length_eq_zero (by omega)
      exact .inl ⟨this, a, by rw [hlen, this, hcap]; rfl⟩
    · obtain ⟨hm, A, hd, hap, hin⟩ := hs
      obtain ⟨H1, H2, q1, q2, rfl, _⟩ := Heap.focus hd hg
      have hin2 := (Hp.inW_join q2).1 hin
      have key := cells1_ok hc q1 hin2.1 hm.G hx
      refine .inr ⟨b, o, cap, by rw [hlen, Nat.zero_mul, Nat.add_zero], by omega, fun i t ht => ?_⟩
      obtain ⟨v', hv, hcell⟩ := key i (.int .i64 t) (by rw [List.getElem?_map, ht]; rfl)
      simp only [rel] at hv
      subst hv
      exact hcell
  intro M s h K H
  unfold readV at H
  split at H
  · refine ⟨[], H, fun β r w v hr hs => .inl ⟨rfl, ?_⟩⟩
    simp only [rel] at hr
    exact ⟨none, hr⟩
  · rename_i kn id st w0 len cap
    rw [holds_bif] at H
    split at H
    · rename_i hw
      simp only [Bool.and_eq_true] at hw
      have hw1 := Nat.eq_of_beq_eq_true hw.1
      have hw2 := Nat.eq_of_beq_eq_true hw.2
      subst hw1; subst hw2
      split at H
      · rename_i xs hg
        exact core hg (by show (bif Nat.beq 1 1 then onesOf (kEnc .int).enc xs else none) = _; rw [onesInt]; rfl) H.1 H.2
      · rename_i T xs sp hg
        exact core hg (by show (bif Nat.beq 1 1 then onesOf (kEnc .int).enc xs else none) = _; rw [onesInt]; rfl) H.1 H.2
      · exact H.elim
    · exact H.elim
  · exact H.elim
end Sx
end Go.Proofs.YtmcmdghmglopnaaGreatDoor

