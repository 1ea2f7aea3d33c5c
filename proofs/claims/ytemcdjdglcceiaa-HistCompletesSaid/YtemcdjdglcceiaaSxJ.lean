/-
  The builtin append over blocks of ours: what it leaves.
-/
import Derived.Test.YtemcdjdglcceiaaSxI
namespace Go.Proofs.Ytemcdjdglcceiaa
namespace Sx
open Go

section
variable {U : Uni} {P : Program} {τ : Tab}

/-- What an append leaves in memory. -/
structure Appended (w w' : World) (e size : Nat) (v' : Value) (N : Nat) (xs : List Value) (g : Option Nat) : Prop where
  os : w'.os = w.os
  output : w'.output = w.output
  tape : w'.tape = w.tape
  val : ∃ a cap, v' = .slice a N cap ∧ N ≤ cap ∧ cap ≤ maxLen ∧ ((cap = 0 ∧ w'.heap = w.heap) ∨
    ∃ b c, a = some ⟨b, 0, none⟩ ∧ w'.heap[b]? = some (.cells c e (0, 0)) ∧ c.size = cap * size ∧ c.toList.take (N * size) = xs ∧
      ((g = some b ∧ ∀ k, k ≠ b → w'.heap[k]? = w.heap[k]?) ∨ ∃ d, w' = (World.drew w).alloc (.cells d e) ∧ b = w.heap.size ∧ c = d))

theorem run_append_any (w : World) (t ty e : Nat) (i : TypeInfo) (z : Value) (ht : P.underlying t = some (.slice e)) (hi : P.info? e = some i) (hz : i.zero = some z) (hzs : z.cells.size = i.size)
    (x : Value) (m : Nat) (news : List Value) (hlen : ∀ w, (Builtin.lenOf x).run P w = .ok m w) (hl : news.length = m * i.size)
    (hf : (Builtin.firstCells i.size m x).run P w = .ok news.toArray w) (hfd : (Builtin.firstCells i.size m x).run P w.drew = .ok news.toArray w.drew) (h1 : ∀ u ∈ news, u.oneCell' = true)
    (base : Option Addr) (n cap : Nat) (xs : List Value) (hx : xs.length = n * i.size) (hnc : n ≤ cap) (hcm : cap ≤ maxLen) (g : Option Nat)
    (hb : cap = 0 ∨ ∃ b c, base = some ⟨b, 0, none⟩ ∧ g = some b ∧ w.heap[b]? = some (.cells c e (0, 0)) ∧ c.size = cap * i.size ∧ c.toList.take (n * i.size) = xs)
    (h63 : n + m ≤ maxLen) (hbytes : (n + m) * i.bytes ≤ 140737488355328) :
    ∃ v' w', (Builtin.append_ #[t, t] ty #[.slice base n cap, x]).run P w = .ok v' w' ∧ Appended w w' e i.size v' (n + m) (xs ++ news) g := by
  have hsmall : n + m ≤ 9223372036854775807 := by simp only [maxLen] at h63; omega
  have hlenN : (xs ++ news).length = (n + m) * i.size := by rw [List.length_append, hx, hl, Nat.add_mul]
  have h63' : ¬ (9223372036854775807 < ((n : Int) + (m : Int))) := by omega
  have grown : ∀ d : Array Value, d = xs.toArray ++ news.toArray ++ Builtin.zeroCells z.cells (grownCap w (n + m) cap e - (n + m)) →
      Appended w (w.drew.alloc (.cells d e)) e i.size (.slice (some ⟨w.heap.size, 0, none⟩) (n + m) (grownCap w (n + m) cap e)) (n + m) (xs ++ news) g := by
    intro d hd
    have hge := grownCap_ge w (n + m) cap e
    refine ⟨rfl, rfl, rfl, _, _, rfl, hge, grownCap_le_maxLen w (n + m) cap e h63, .inr ⟨_, d, rfl, heap_alloc_new w.drew _, ?_, ?_, .inr ⟨d, rfl, rfl, rfl⟩⟩⟩
    · subst hd
      simp only [Array.size_append, List.size_toArray, size_zeroCells, hzs, hx, hl, ← Nat.add_mul]
      congr 1; omega
    · subst hd
      simp only [Array.toList_append, List.append_assoc]
      rw [← List.append_assoc, ← hlenN]
      exact List.take_left
  by_cases hroom : n + m ≤ cap
  · rcases hb with hz0 | ⟨b, c, rfl, rfl, hg, hcs, htake⟩
    · -- nothing at all
      have hn0 : n = 0 := by omega
      have hm0 : m = 0 := by omega
      subst hn0; subst hm0; subst hz0
      have hx0 : xs = [] := List.eq_nil_of_length_eq_zero (by simpa using hx)
      have hn1 : news = [] := List.eq_nil_of_length_eq_zero (by simpa using hl)
      subst hx0; subst hn1
      refine ⟨.slice base 0 0, w, ?_, ⟨rfl, rfl, rfl, base, 0, rfl, Nat.le_refl _, Nat.zero_le _, .inl ⟨rfl, rfl⟩⟩⟩
      cases base <;> simp [Builtin.append_, run_underlying ht, sizeOf, typeInfo, hi, hlen, hf, storeCells]
    · have hfit : n * i.size + news.length ≤ c.size := by rw [hl, hcs, ← Nat.add_mul]; exact Nat.mul_le_mul_right _ hroom
      have hst := run_storeCells_at P b (n * i.size) e news 0 c w hg (by simpa using hfit) h1
      simp only [Nat.add_zero] at hst
      refine ⟨.slice (some ⟨b, 0, none⟩) (n + m) cap, w.setRow b (c.toList.take (n * i.size) ++ news ++ c.toList.drop (n * i.size + news.length)).toArray, ?_, ⟨rfl, rfl, rfl, _, cap, rfl, hroom, hcm, .inr ⟨b, _, rfl, setRow_heap w b c _ e _ hg, ?_, ?_, .inl ⟨rfl, fun k hk => setRow_other w b k _ hk⟩⟩⟩⟩
      · simp [Builtin.append_, run_underlying ht, sizeOf, typeInfo, hi, hlen, hroom, hf, Addr.add_lit, hst]
      · simp only [List.size_toArray, List.length_append, List.length_take, List.length_drop, Array.length_toList]; omega
      · rw [htake, ← hlenN]; exact List.take_left
  · have h48 : ¬ (281474976710656 < Builtin.nextslicecap (n + m) cap * i.bytes) := by
      have := growslice_fits (need := n + m) (old := cap) (bytes := i.bytes) (by omega) hbytes; omega
    have hold : (Builtin.firstCells i.size n (.slice base n cap)).run P w.drew = .ok xs.toArray w.drew := by
      rcases hb with hz0 | ⟨b, c, rfl, rfl, hg, hcs, htake⟩
      · have hn0 : n = 0 := by omega
        subst hn0
        have hx0 : xs = [] := List.eq_nil_of_length_eq_zero (by simpa using hx)
        subst hx0
        cases base <;> simp [Builtin.firstCells, loadCells, loadCellsFrom]
      · refine run_firstCells_some (P := P) w.drew i.size n ⟨b, 0, none⟩ n cap xs hx (fun j u hj => ?_)
        rw [Addr.add_lit, Nat.zero_add, World.cell?_drew, cell_of_row w b j c e (0, 0) hg]
        rw [← htake, List.getElem?_take] at hj
        split at hj
        · simpa using hj
        · cases hj
    refine ⟨_, _, ?_, grown _ rfl⟩
    simp [Builtin.append_, run_underlying ht, sizeOf, typeInfo, zeroValue, hi, hz, hlen, hroom, h63', h48, Question.forced, hfd, hold, newRow, grownCap]
    congr 2
    apply Array.ext'
    simp [List.append_assoc]

/-! ## the source -/
def castK {k k' : U.K} (h : k = k') (xs : List (U.El k)) : List (U.El k') := h ▸ xs

def chunkDec {α : Type} (E : Enc α) : Nat → List AV → Option (List α)
  | 0, [] => some []
  | 0, _ :: _ => none
  | n + 1, cs => match E.dec (cs.take E.w), chunkDec E n (cs.drop E.w) with
    | some a, some r => bif Nat.ble E.w cs.length then some (a :: r) else none
    | _, _ => none

theorem chunkDec_sound {α : Type} {E : Enc α} {r : Nm} : ∀ {n : Nat} {cs : List AV} {ys : List α} {vs : List Value}, chunkDec E n cs = some ys → relL r cs vs →
    ys.length = n ∧ vs.length = n * E.w ∧ ∀ i y, ys[i]? = some y → relL r (E.enc y) ((vs.drop (i * E.w)).take E.w)
  | 0, [], ys, vs, h, hr => by
    simp only [chunkDec, Option.some.injEq] at h; subst h
    simp only [relL] at hr; subst hr
    exact ⟨rfl, by simp, fun i y hi => by simp at hi⟩
  | 0, _ :: _, _, _, h, _ => by simp [chunkDec] at h
  | n + 1, cs, ys, vs, h, hr => by
    simp only [chunkDec] at h
    split at h
    · rename_i a rr ha hrr
      cases hb : Nat.ble E.w cs.length with
      | false => rw [hb] at h; simp at h
      | true =>
        rw [hb] at h; simp only [cond_true, Option.some.injEq] at h; subst h
        have hle := Nat.le_of_ble_eq_true hb
        have hl := relL_length hr
        obtain ⟨h1, h2, h3⟩ := chunkDec_sound hrr (relL_drop hr E.w)
        refine ⟨by simp [h1], ?_, fun i y hi => ?_⟩
        · simp at h2; rw [Nat.succ_mul]; omega
        · cases i with
          | zero => simp at hi; subst hi; simpa using E.back _ _ ha r _ (relL_take hr E.w)
          | succ i =>
            simp at hi
            have := h3 i y hi
            rw [List.drop_drop] at this
            rwa [Nat.succ_mul, Nat.add_comm]
    · simp at h

def evalSrc (k : U.K) (x : AV) (h : Heap U) (K : List (U.El k) → Option Nat → Out U) : Out U :=
  match x with
  | .nilS => K [] none
  | .sl _ id st w len _ => (match h.get id with
    | some (.cells _ cs) => bif Nat.beq st 0 && Nat.beq w (U.enc k).w then (match chunkDec (U.enc k) len cs with | some ys => K ys (some id) | none => .bad 120) else .bad 121
    | some (.arr _ k2 xs _) => (match U.dk k2 k with
      | .isTrue hk => bif Nat.beq w (U.enc k).w then .need (st + len ≤ xs.length) (K ((castK hk xs).drop st |>.take len) (some id)) else .bad 122
      | .isFalse _ => .bad 123)
    | some (.ro k2 xs) => (match U.dk k2 k with
      | .isTrue hk => bif Nat.beq w (U.enc k).w then .need (st + len ≤ xs.length) (K ((castK hk xs).drop st |>.take len) (some id)) else .bad 124
      | .isFalse _ => .bad 125)
    | _ => .bad 126)
  | _ => .bad 127

/-- The rows of a source, as the machine reads them. -/
def SrcOk (P : Program) {α : Type} (E : Enc α) (r : Nm) (ys : List α) (u : Value) (w : World) : Prop :=
  ∃ news : List Value, (∀ w, (Builtin.lenOf u).run P w = .ok ys.length w) ∧ news.length = ys.length * E.w ∧
    (∀ w', w'.heap = w.heap → (Builtin.firstCells E.w ys.length u).run P w' = .ok news.toArray w') ∧ (∀ v ∈ news, v.oneCell' = true) ∧
    ∀ i y, ys[i]? = some y → relL r (E.enc y) ((news.drop (i * E.w)).take E.w)

theorem rows_one {α : Type} {E : Enc α} {r : Nm} {ys : List α} {news : List Value} (hl : news.length = ys.length * E.w)
    (h : ∀ i y, ys[i]? = some y → relL r (E.enc y) ((news.drop (i * E.w)).take E.w)) : ∀ v ∈ news, v.oneCell' = true := by
  intro v hv
  obtain ⟨j, hj, rfl⟩ := List.mem_iff_getElem.1 hv
  have hw := E.pos
  have hi : j / E.w < ys.length := by rw [Nat.div_lt_iff_lt_mul hw]; omega
  have hrow := h (j / E.w) ys[j / E.w] (List.getElem?_eq_getElem hi)
  refine E.one _ r _ hrow _ ?_
  have hm := Nat.mod_lt j hw
  have hd := Nat.div_add_mod j E.w
  rw [Nat.mul_comm] at hd
  refine List.mem_iff_getElem?.2 ⟨j % E.w, ?_⟩
  rw [List.getElem?_take, if_pos hm, List.getElem?_drop, hd, List.getElem?_eq_getElem hj]

theorem src_arr {α : Type} {E : Enc α} {r : Nm} {xs : List α} {st len cap : Nat} {w : World} {b o : Nat} {c : Array Value} {T : Nat} {fz : Nat × Nat} (hb : w.heap[b]? = some (.cells c T fz))
    (hrow : ∀ i x, xs[i]? = some x → relL r (E.enc x) ((c.toList.drop (o + i * E.w)).take E.w)) (hle : st + len ≤ xs.length) :
    SrcOk P E r ((xs.drop st).take len) (.slice (some ⟨b, o + st * E.w, none⟩) len cap) w := by
  have hlen : ((xs.drop st).take len).length = len := by simp; omega
  have hfull : len = 0 ∨ o + (st + len) * E.w ≤ c.size := by
    by_cases h0 : len = 0
    · exact .inl h0
    · right
      have h1 : st + len - 1 < xs.length := by omega
      have h2 := hrow (st + len - 1) xs[st + len - 1] (List.getElem?_eq_getElem h1)
      have h3 := relL_length h2
      rw [E.len, List.length_take, List.length_drop, Array.length_toList] at h3
      have hp := E.pos
      have h4 : (st + len) * E.w = (st + len - 1) * E.w + E.w := by rw [← Nat.succ_mul]; congr 1; omega
      omega
  have hnl : ((c.toList.drop (o + st * E.w)).take (len * E.w)).length = len * E.w := by
    rw [Nat.add_mul] at hfull
    rcases hfull with h0 | h0
    · subst h0; simp
    · simp; omega
  refine ⟨(c.toList.drop (o + st * E.w)).take (len * E.w), fun w => by simp [Builtin.lenOf, hlen], by rw [hlen]; exact hnl, ?_, ?_, ?_⟩
  · intro w' hw'
    rw [hlen]
    refine run_firstCells_some (P := P) w' E.w len ⟨b, o + st * E.w, none⟩ len cap _ hnl (fun j v hj => ?_)
    rw [Addr.add_lit, cell_of_row w' b _ c T fz (by rw [hw']; exact hb)]
    rw [List.getElem?_take] at hj
    split at hj
    · rw [List.getElem?_drop] at hj; simpa using hj
    · cases hj
  · refine rows_one (r := r) (ys := (xs.drop st).take len) (by rw [hlen]; exact hnl) ?_
    intro i y hi
    rw [List.getElem?_take] at hi
    split at hi
    · rename_i hil
      rw [List.getElem?_drop] at hi
      have := hrow (st + i) y hi
      rw [List.drop_take, List.take_take, List.drop_drop]
      have e1 : o + st * E.w + i * E.w = o + (st + i) * E.w := by rw [Nat.add_mul]; omega
      have e2 : min E.w (len * E.w - i * E.w) = E.w := by
        have : (i + 1) * E.w ≤ len * E.w := Nat.mul_le_mul_right _ hil
        rw [Nat.succ_mul] at this; omega
      rw [e1, e2]; exact this
    · cases hi
  · intro i y hi
    rw [List.getElem?_take] at hi
    split at hi
    · rename_i hil
      rw [List.getElem?_drop] at hi
      have := hrow (st + i) y hi
      rw [List.drop_take, List.take_take, List.drop_drop]
      have e1 : o + st * E.w + i * E.w = o + (st + i) * E.w := by rw [Nat.add_mul]; omega
      have e2 : min E.w (len * E.w - i * E.w) = E.w := by
        have : (i + 1) * E.w ≤ len * E.w := Nat.mul_le_mul_right _ hil
        rw [Nat.succ_mul] at this; omega
      rw [e1, e2]; exact this
    · cases hi

theorem src_nil {α : Type} {E : Enc α} {r : Nm} {w : World} (a : Option Addr) (cap : Nat) : SrcOk P E r ([] : List α) (.slice a 0 cap) w := by
  refine ⟨[], fun w => rfl, by simp, fun w' _ => ?_, fun v hv => by simp at hv, fun i y hi => by simp at hi⟩
  cases a <;> simp [Builtin.firstCells, loadCells, loadCellsFrom]

theorem evalSrc_sound {M : Goal U} {k : U.K} {x : AV} {h : Heap U} {K : List (U.El k) → Option Nat → Out U} (H : (evalSrc k x h K).holds M) :
    ∃ ys rd, (K ys rd).holds M ∧ (∀ id, rd = some id → h.get id ≠ none) ∧ ∀ (β : Base) (r : Nm) (w : World) (u : Value), rel r x u → Sat β r h w → SrcOk P (U.enc k) r ys u w := by
  unfold evalSrc at H
  split at H
  · refine ⟨[], none, H, fun _ e => by simp at e, fun β r w u hu _ => ?_⟩
    simp only [rel] at hu; subst hu; exact src_nil none 0
  · rename_i kn id st wd len cap
    split at H
    · rename_i T cs hB
      rw [holds_bif] at H
      split at H
      · rename_i hc
        simp only [Bool.and_eq_true] at hc
        have hst := Nat.eq_of_beq_eq_true hc.1
        have hwd := Nat.eq_of_beq_eq_true hc.2
        subst hst; subst hwd
        split at H
        · rename_i ys hys
          refine ⟨ys, some id, H, fun _ e => by cases e; rw [hB]; simp, fun β r w u hu hs => ?_⟩
          obtain ⟨a, rfl, hlc, ha⟩ := hu
          obtain ⟨H1, hd, hw, _⟩ := hs.at hB
          obtain ⟨b, vs, hb, hrl, rfl⟩ := hd
          obtain ⟨h1, h2, h3⟩ := chunkDec_sound hys hrl
          rcases ha with hz | ⟨y, hy, rfl⟩
          · have hl0 : len = 0 := by omega
            subst hl0
            have : ys = [] := List.eq_nil_of_length_eq_zero h1
            subst this; exact src_nil a cap
          · rw [hy] at hb; cases hb
            refine ⟨vs, fun w => by simp [Builtin.lenOf, h1], by rw [h1]; exact h2, fun w' hw' => ?_, rows_one (by rw [h1]; exact h2) h3, h3⟩
            rw [h1]
            refine run_firstCells_some (P := P) w' _ len _ len cap vs h2 (fun j v hj => ?_)
            rw [Addr.add_lit, cell_of_row w' b _ vs.toArray T (0, 0) (by rw [hw']; exact Hp.inW_one.1 hw)]
            simpa using hj
        · exact H.elim
      · exact H.elim
    · rename_i T k2 xs sp hB
      split at H
      · rename_i hk _
        rw [holds_bif] at H
        split at H
        · rename_i hwd
          have hwd := Nat.eq_of_beq_eq_true hwd
          obtain ⟨hle, H⟩ := H
          subst hk; subst hwd
          refine ⟨_, some id, H, fun _ e => by cases e; rw [hB]; simp, fun β r w u hu hs => ?_⟩
          obtain ⟨a, rfl, hlc, ha⟩ := hu
          obtain ⟨H1, hd, hw, _⟩ := hs.at hB
          by_cases hl0 : len = 0
          · subst hl0; simpa [castK] using src_nil (P := P) (E := U.enc k2) (r := r) (w := w) a cap
          · rcases hd with ⟨hz, _⟩ | ⟨b, c, hb, hrow, _, _, rfl⟩
            · omega
            rcases ha with hz | ⟨y, hy, rfl⟩
            · omega
            rw [hy] at hb; cases hb
            exact src_arr (Hp.inW_one.1 hw) hrow hle
        · exact H.elim
      · exact H.elim
    · rename_i k2 xs hB
      split at H
      · rename_i hk _
        rw [holds_bif] at H
        split at H
        · rename_i hwd
          have hwd := Nat.eq_of_beq_eq_true hwd
          obtain ⟨hle, H⟩ := H
          subst hk; subst hwd
          refine ⟨_, some id, H, fun _ e => by cases e; rw [hB]; simp, fun β r w u hu hs => ?_⟩
          obtain ⟨a, rfl, hlc, ha⟩ := hu
          obtain ⟨H1, hd, hw, hG⟩ := hs.at hB
          by_cases hl0 : len = 0
          · subst hl0; simpa [castK] using src_nil (P := P) (E := U.enc k2) (r := r) (w := w) a cap
          · rcases ha with hz | ⟨y, hy, rfl⟩
            · omega
            obtain ⟨hall, rfl⟩ := hd
            have h0 : 0 < xs.length := by omega
            obtain ⟨b, o, c, T, fz, hb, hg, _⟩ := hall 0 xs[0] (List.getElem?_eq_getElem h0)
            rw [hy] at hb; cases hb
            refine src_arr (hG b _ hg) (fun i x hi => ?_) hle
            obtain ⟨b', o', c', T', fz', hb', hg', hr'⟩ := hall i x hi
            rw [hy] at hb'; cases hb'
            rw [hg] at hg'; cases hg'
            exact hr'
        · exact H.elim
      · exact H.elim
    · exact H.elim
  · exact H.elim

end
end Sx
end Go.Proofs.Ytemcdjdglcceiaa
