/-
  fair.Turns: its loop.
-/
import Derived.Test.YtmcmdghmglopnaaGreatDoorGrowingP11
import Derived.RangeFuncWrites
namespace Go.Proofs.YtmcmdghmglopnaaGreatDoor
open Go.RowKit Go.Shelf
attribute [local go_sem] Oper.semAt_some

theorem Tn.underlying22 : Tryz.prog.underlying 22 = some (.slice 3) := by kernel_rfl
theorem Tn.info3 : (Tryz.prog.info? 3).map (fun i => (i.zero, i.size, i.bytes)) = some (some (.int .i64 0), 1, 8) := by kernel_rfl

/-- The blocks of loops that ran out. -/
def markOf (D : Nat) : Deferred := { target := .collected D, args := #[] }
def MarksAt (Ds : List Nat) (W : World) : Prop := Ds.Nodup ∧ ∀ D ∈ Ds, W.heap[D]? = some (.deferred (some []))
theorem leaves_marks {F : Fence} {n : Nat} {fn : Func} {tmps : Array Value} {R : Ending → World → Prop} {B : Nat} : ∀ (Ds : List Nat) (W : World), MarksAt Ds W → (∀ D ∈ Ds, B ≤ D) →
    (∀ W', (∀ (k : Nat) (o : Obj), o.isCells = true → W.heap[k]? = some o → W'.heap[k]? = some o) → Below B W W' → ∃ v, (results fn tmps).run Tryz.prog W' = .ok v W' ∧ R (.returned v) W') →
    LeavesInM F n Tryz.prog fn tmps R (Ds.map markOf) .returning W
  | [], W, _, _, h => h W (fun _ _ _ e => e) (Below.refl _ _)
  | D :: Ds, W, hM, hB, h => by
    have hD := hM.2 D (List.mem_cons_self ..)
    have hlt := (Array.getElem?_eq_some_iff.1 hD).1
    refine ⟨by simp, .inl ⟨D, W.putObj D (.deferred none), rfl, run_takeDeferred hD, ?_⟩⟩
    have hnd := List.nodup_cons.1 hM.1
    refine leaves_marks Ds _ ⟨hnd.2, fun E hE => ?_⟩ (fun E hE => hB E (List.mem_cons_of_mem _ hE)) (fun W' hk hb => h W' (fun k o ho e => hk k o ho ?_) ?_)
    · rw [World.putObj_heap_other (fun e => hnd.1 (by subst e; exact hE))]
      exact hM.2 E (List.mem_cons_of_mem _ hE)
    · rw [World.putObj_heap_other (fun e' => by subst e'; rw [hD] at e; cases e; cases ho)]
      exact e
    · have hx : Below B W (W.putObj D (.deferred none)) := ⟨rfl, rfl, rfl, by simp, fun k hk' => World.putObj_heap_other (fun e => by have := hB D (List.mem_cons_self ..); omega)⟩
      exact hx.trans hb

/-- Between two rounds of a turn. -/
def RowAt (B : Nat) (W : World) (out : List Int) (apart : List Nat) : Prop := ∃ v, Boxed W B 22 v ∧ W.ownsRow B 3 1 v out.length (out.map (Value.int .i64)) ∧ (out = [] → v = .slice none 0 0) ∧ ∀ D ∈ apart, v.ownBlock ≠ some D
theorem ownFrom_marks {β : Type} {B' : Nat} {Ds : List Nat} (h : ∀ D ∈ Ds, D < B') : OwnFrom B' (fun (_ : β) W => MarksAt Ds W) := fun s W W' row hs hg hr =>
  ⟨hs.1, fun D hD => (hg.block D (Array.getElem?_eq_some_iff.1 (hs.2 D hD)).1 (fun e => by have := (hr D e.symm).1; have := h D hD; omega)).trans (hs.2 D hD)⟩
theorem ownFrom_keep {β : Type} {B' bt bv bf : Nat} {W0 : World} (h0 : W0.heap.size ≤ B') (h1 : bt < W0.heap.size) (h2 : bv < W0.heap.size) (h3 : bf < W0.heap.size) : OwnFrom B' (fun (_ : β) W => KeepT bt bv bf W0 W) := fun s W W' row hs hg hr => by
  have key : ∀ b, b < W0.heap.size → W.heap[b]? = W0.heap[b]? → W'.heap[b]? = W0.heap[b]? := fun b hb e => by
    have hlt : b < W.heap.size := by
      rw [Array.getElem?_eq_getElem hb] at e
      exact (Array.getElem?_eq_some_iff.1 e).1
    exact (hg.block b hlt (fun e' => by have := (hr b e'.symm).1; omega)).trans e
  exact ⟨key bt h1 hs.1, key bv h2 hs.2.1, key bf h3 hs.2.2⟩
theorem own_weaken {W : World} {B B' : Nat} {e : TypeId} {size n : Nat} {v : Value} {xs : List Value} (h : W.ownsRow B e size v n xs) (hb : B' ≤ B) : W.ownsRow B' e size v n xs := by
  obtain ⟨h1, h2⟩ := h
  refine ⟨h1, ?_⟩
  rcases h2 with h2 | ⟨g, cap, cur, k1, k2, k3⟩
  · exact .inl h2
  · exact .inr ⟨g, cap, cur, k1, by omega, k3⟩
theorem own_ge {W : World} {B : Nat} {e : TypeId} {size n : Nat} {v : Value} {xs : List Value} (h : W.ownsRow B e size v n xs) {D : Nat} (hd : D < B) : v.ownBlock ≠ some D := by
  rcases h.2 with ⟨rfl, _⟩ | ⟨g, cap, cur, rfl, k2, k3⟩
  · simp [Value.ownBlock]
  · simp [Value.ownBlock]; omega
theorem own_two {W : World} {B : Nat} {n : Nat} {v : Value} {xs : List Value} (h : W.ownsRow B 3 1 v n xs) (hn : 2 ≤ n) {D : Nat} {x : Value} (hd : W.heap[D]? = some (.cells #[x] 3 (0, 0))) : v.ownBlock ≠ some D := by
  rcases h.2 with ⟨rfl, _⟩ | ⟨g, cap, cur, rfl, k2, k3, k4, k5, k6, k7⟩
  · simp [Value.ownBlock]
  · intro e
    obtain rfl : g = D := by simpa [Value.ownBlock] using e
    rw [k3] at hd
    cases hd
    simp at k6
    omega
theorem own_not {W : World} {B : Nat} {n : Nat} {v : Value} {xs : List Value} (h : W.ownsRow B 3 1 v n xs) {D : Nat} {ds : Option (List Deferred)} (hd : W.heap[D]? = some (.deferred ds)) : v.ownBlock ≠ some D := by
  rcases h.2 with ⟨rfl, _⟩ | ⟨g, cap, cur, rfl, k2, k3, k4⟩
  · simp [Value.ownBlock]
  · intro e
    obtain rfl : g = D := by simpa [Value.ownBlock] using e
    rw [k3] at hd
    cases hd
/-- A block that is neither the row's nor the box's lies as it lay. -/
theorem kept_block {W w1 : World} {tmp : Obj} {ob : Option Nat} {B : Nat} {v' : Value} (hg : (W.alloc tmp).grownBy w1 ob) {D : Nat} (hD : D < W.heap.size) (h1 : ob ≠ some D) (h2 : D ≠ B) : (w1.setCell ⟨B, 0, none⟩ v').heap[D]? = W.heap[D]? := by
  have e1 : (w1.setCell ⟨B, 0, none⟩ v').heap[D]? = w1.heap[D]? := (grownBy_setCell' w1 B v').block D (by
    have := hg.size; simp at this; omega) (by simp; omega)
  have e2 := hg.block D (by simp; omega) (fun e => h1 e.symm)
  rw [e1, e2]
  exact Below.heap_alloc W tmp D hD
def TAct (th : Int) (b o n c B : Nat) (k : Int) (ds : List Deferred) (a : Act) : Prop := ∃ u2 u3 u6 u7 u8 u9 u10 u11 u12 u13 u14 u15 u16 u17 u18 u19 u20 u21 u22 u23 u27 u28 u29 u30 u31 u32 u33 u34 u35 u36 u37 u38 u39 : Value, a = { tmps := #[.int .i64 th, .slice (some ⟨b, o, none⟩) n c, u2, u3, .slice none 0 0, .pointer (some ⟨B, 0, none⟩), u6, u7, u8, u9, u10, u11, u12, u13, u14, u15, u16, u17, u18, u19, u20, u21, u22, u23, .slice (some ⟨b, o, none⟩) n c, .int .i64 (n : Nat), .int .i64 k, u27, u28, u29, u30, u31, u32, u33, u34, u35, u36, u37, u38, u39], defers := ds }

set_option maxRecDepth 100000 in
set_option maxHeartbeats 2000000 in
theorem turns_loop (th : Int) (h0 : 0 < th) (h1 : th ≤ 64) (l : List Int) (hl : l.length ≤ 4096) (B b o c : Nat) (W1 : World) (hbB : b < B) (hbox : Boxed W1 B 22 (.slice none 0 0))
    (hread : ∀ i t, l[i]? = some t → W1.cell? ⟨b, o + i, none⟩ = some (.int .i64 t)) (Q : Exit → Act → World → Prop) (a0 : Act) (ha0 : TAct th b o l.length c B 0 [] a0)
    (hQ : ∀ a W Ds, TAct th b o l.length c B l.length (Ds.map markOf) a → Below B W1 W → RowAt B W (l.flatMap (Sx.turnI th)) [] → MarksAt Ds W → (∀ D ∈ Ds, B ≤ D) → Q (.exit 0) a W) :
    (Code.loop (Sx.loopOf Tryz.f11 0)).wpIn Fence.wide 8 Tryz.prog Q a0 W1 := by
  obtain ⟨i0, hi, hz0, hz1, hz2⟩ := info_parts Tn.info3
  have hBs := hbox.lt
  refine wpIn_loop (fun a W => ∃ (k : Nat) (Ds : List Nat), k ≤ l.length ∧ TAct th b o l.length c B k (Ds.map markOf) a ∧ Below B W1 W ∧ RowAt B W ((l.take k).flatMap (Sx.turnI th)) Ds ∧ MarksAt Ds W ∧ (∀ D ∈ Ds, B ≤ D)) (fun a _ => l.length - (intV (a.tmps.getD 26 undef)).toNat) ?_ ?_
  · exact ⟨0, [], by omega, ha0, Below.refl _ _, ⟨_, hbox, by simpa using World.ownsRow_nil W1 B 3 1, by simp⟩, ⟨List.nodup_nil, by simp⟩, by simp⟩
  · rintro a W ⟨k, Ds, hk, ⟨u2, u3, u6, u7, u8, u9, u10, u11, u12, u13, u14, u15, u16, u17, u18, u19, u20, u21, u22, u23, u27, u28, u29, u30, u31, u32, u33, u34, u35, u36, u37, u38, u39, rfl⟩, hB, hR, hM, hDs⟩
    simp only [Tryz.f11, Sx.loopOf, Sx.loopAt, Nat.beq, cond_true, cond_false]
    by_cases hkl : k < l.length
    · have hget : l[k]? = some l[k] := List.getElem?_eq_getElem hkl
      generalize l[k] = t at hget
      have hcell : W.cell? ⟨b, o + k, none⟩ = some (.int .i64 t) := (hB.cell (p := ⟨b, o + k, none⟩) hbB).trans (hread k t hget)
      gi_wp2_with (refine ⟨trivial, ?_⟩; gi_at_call 22; refine (callsIn_wide.2 (Sx.turn_calls th t h0 h1 _)).mono ?_; rintro e W2 ⟨bt, bv, bf, rfl, hT⟩)
      have hsz : W.heap.size ≤ W2.heap.size := hT.below.size
      have lt2 : ∀ {b : Nat} {o : Obj}, W2.heap[b]? = some o → b < W2.heap.size := fun e => (Array.getElem?_eq_some_iff.1 e).1
      have hBW := hB.size
      have c1 : W2.cell? ⟨bt, 0, none⟩ = some (.int .i64 th) := by simp [World.cell?, hT.t1]
      have c2 : W2.cell? ⟨bv, 0, none⟩ = some (.int .i64 t) := by simp [World.cell?, hT.t2]
      have c3 : W2.cell? ⟨bf, 0, none⟩ = some (.int .i64 (t % th)) := by simp [World.cell?, hT.t3]
      have hM2 : MarksAt Ds W2 := ⟨hM.1, fun D hD => (hT.old D (Array.getElem?_eq_some_iff.1 (hM.2 D hD)).1).trans (hM.2 D hD)⟩
      have hB2 : Below B W1 W2 := hB.trans ⟨hT.below.os, hT.below.tape, hT.below.output, hT.below.size, fun j hj => hT.old j (by omega)⟩
      have hDlt : ∀ D ∈ Ds, D < W.heap.size := fun D hD => (Array.getElem?_eq_some_iff.1 (hM.2 D hD)).1
      have hR2 : RowAt B W2 ((l.take k).flatMap (Sx.turnI th)) (bt :: bv :: bf :: Ds) := by
        obtain ⟨v, r1, r2, r3, r4⟩ := hR
        refine ⟨v, (hT.old B r1.lt).trans r1, ?_, r3, ?_⟩
        · refine ⟨r2.1, ?_⟩
          rcases r2.2 with h | ⟨g, cap, cur, k1, k2, k3, k4⟩
          · exact .inl h
          · exact .inr ⟨g, cap, cur, k1, k2, (hT.old g (Array.getElem?_eq_some_iff.1 k3).1).trans k3, k4⟩
        · intro D hD
          have hlt : ∀ {D : Nat}, W.heap.size ≤ D → v.ownBlock ≠ some D := by
            intro D hD
            rcases r2.2 with ⟨rfl, _⟩ | ⟨g, cap, cur, rfl, k2, k3, k4⟩
            · simp [Value.ownBlock]
            · have := (Array.getElem?_eq_some_iff.1 k3).1
              simp [Value.ownBlock]; omega
          simp only [List.mem_cons] at hD
          rcases hD with rfl | rfl | rfl | hD
          · exact hlt hT.l1
          · exact hlt hT.l2
          · exact hlt hT.l3
          · exact r4 D hD
      have hlen0 : ((l.take k).flatMap (Sx.turnI th)).length ≤ 4095 * 64 := by
        have e : ((l.take k).flatMap (Sx.turnI th)).length = k * th.toNat := by
          have : ∀ ts : List Int, (ts.flatMap (Sx.turnI th)).length = ts.length * th.toNat := by
            intro ts
            induction ts with
            | nil => simp
            | cons a ts ih => rw [List.flatMap_cons, List.length_append, ih, Sx.turnI_length, List.length_cons, Nat.add_mul, Nat.one_mul]; omega
          rw [this, List.length_take]
          congr 1; omega
        rw [e]
        exact Nat.mul_le_mul (by omega) (by omega)
      generalize hout : (l.take k).flatMap (Sx.turnI th) = out0 at hR2 hlen0
      refine wpIn_rangeFunc_ownG (F := Fence.wide) rfl (by decide) (gf := 34) (lb := #[.pointer (some ⟨bt, 0, none⟩), .pointer (some ⟨bv, 0, none⟩), .pointer (some ⟨bf, 0, none⟩)]) rfl trivial (enters_of Tryz.func34 (by kernel_rfl) rfl)
        (turn_stops Fence.wide 7 trivial rfl (by decide) bt bv bf th t (t % th) h0 h1 rfl W2 (lt2 hT.t1) (lt2 hT.t2) (lt2 hT.t3) c1 c2 c3) (fun h k => h.trans k)
        (fun W l' o o' hl' ho hc _ => ⟨World.putObj_heap_other (fun e => by have := lt2 hT.t1; omega), World.putObj_heap_other (fun e => by have := lt2 hT.t2; omega), World.putObj_heap_other (fun e => by have := lt2 hT.t3; omega)⟩)
        (Below.refl _ _) (fun _ => rfl)
        (fun pre W' => RowAt B W' (out0 ++ pre) (bt :: bv :: bf :: Ds) ∧ Below B W1 W' ∧ MarksAt Ds W' ∧ KeepT bt bv bf W2 W')
        (fun _ _ _ => False)
        (OwnFrom.and (Own.from (holdsRow_own B B 22 3 1 (fun pre => (out0 ++ pre).length) (fun pre => (out0 ++ pre).map (Value.int .i64)) (fun pre v => (out0 ++ pre = [] → v = .slice none 0 0) ∧ ∀ D ∈ bt :: bv :: bf :: Ds, v.ownBlock ≠ some D)) _)
          (OwnFrom.and (ownFrom_below (by omega) (by omega)) (OwnFrom.and (ownFrom_marks (fun D hD => by have := hDlt D hD; omega)) (ownFrom_keep (Nat.le_refl _) (lt2 hT.t1) (lt2 hT.t2) (lt2 hT.t3)))))
        (fun _ _ _ _ _ hs _ _ => hs.elim)
        ⟨by rw [List.append_nil]; exact hR2, hB2, hM2, rfl, rfl, rfl⟩
        (fun x => { tmps := #[.int .i64 th, .slice (some ⟨b, o, none⟩) l.length c, u2, u3, .slice none 0 0, .pointer (some ⟨B, 0, none⟩), u6, .int .i64 t, .int .i64 x, u9, u10, u11, u12, u13, u14, u15, u16, u17, u18, u19, u20, u21, u22, u23, .slice (some ⟨b, o, none⟩) l.length c, .int .i64 l.length, .int .i64 k, .bool true, .pointer (some ⟨b, o + k, none⟩), .int .i64 t, .int .i64 th, .int .i64 t, .func (.func 34) #[] #[.pointer (some ⟨bt, 0, none⟩), .pointer (some ⟨bv, 0, none⟩), .pointer (some ⟨bf, 0, none⟩)], .int .i64 x, u34, u35, u36, u37, u38, u39], defers := [] }) ?assign ?body ?done ?stop
      case assign =>
        intro l' x W' K hK
        gi_wp2
        exact hK
      case body =>
        rintro lp pre x W3 ⟨⟨v, hv, hrow, hnl, hap⟩, hB3, hM3, hK3⟩ hlt
        have hc := hv.cell
        have hBW3 := hB3.size
        have lt3 : ∀ {b : Nat} {o : Obj}, W3.heap[b]? = some o → b < W3.heap.size := fun e => (Array.getElem?_eq_some_iff.1 e).1
        have d1 := hK3.1.trans hT.t1
        have d2 := hK3.2.1.trans hT.t2
        have d3 := hK3.2.2.trans hT.t3
        have hpl : pre.length < 64 := by omega
        have hBW3' : B ≤ W3.heap.size := by omega
        have hlenp : (out0 ++ pre).length = out0.length + pre.length := List.length_append
        have fin : ∀ (g' cap' : Nat) (w1 : World) (tmp : Obj), (W3.alloc tmp).grownBy w1 v.ownBlock → Boxed (w1.setCell ⟨B, 0, none⟩ (.slice (some ⟨g', 0, none⟩) ((out0 ++ pre).length + 1) cap')) B 22 (.slice (some ⟨g', 0, none⟩) ((out0 ++ pre).length + 1) cap') →
            (w1.setCell ⟨B, 0, none⟩ (.slice (some ⟨g', 0, none⟩) ((out0 ++ pre).length + 1) cap')).ownsRow B 3 1 (.slice (some ⟨g', 0, none⟩) ((out0 ++ pre).length + 1) cap') ((out0 ++ pre).length + 1) ((out0 ++ pre).map (Value.int .i64) ++ [.int .i64 x]) →
            KeepsOthers W3 (w1.setCell ⟨B, 0, none⟩ (.slice (some ⟨g', 0, none⟩) ((out0 ++ pre).length + 1) cap')) → Below B W3 (w1.setCell ⟨B, 0, none⟩ (.slice (some ⟨g', 0, none⟩) ((out0 ++ pre).length + 1) cap')) →
            (∀ D ∈ bt :: bv :: bf :: Ds, g' ≠ D) →
            KeepsFrom W2.heap.size W3 (w1.setCell ⟨B, 0, none⟩ (.slice (some ⟨g', 0, none⟩) ((out0 ++ pre).length + 1) cap')) ∧ KeepT bt bv bf W3 (w1.setCell ⟨B, 0, none⟩ (.slice (some ⟨g', 0, none⟩) ((out0 ++ pre).length + 1) cap')) ∧
              (RowAt B (w1.setCell ⟨B, 0, none⟩ (.slice (some ⟨g', 0, none⟩) ((out0 ++ pre).length + 1) cap')) (out0 ++ (pre ++ [x])) (bt :: bv :: bf :: Ds) ∧ Below B W1 (w1.setCell ⟨B, 0, none⟩ (.slice (some ⟨g', 0, none⟩) ((out0 ++ pre).length + 1) cap')) ∧ MarksAt Ds (w1.setCell ⟨B, 0, none⟩ (.slice (some ⟨g', 0, none⟩) ((out0 ++ pre).length + 1) cap')) ∧ KeepT bt bv bf W2 (w1.setCell ⟨B, 0, none⟩ (.slice (some ⟨g', 0, none⟩) ((out0 ++ pre).length + 1) cap'))) := by
          intro g' cap' w1 tmp hgrow hv2 hr2 hk2 hb2 hg
          have kb : ∀ D ∈ bt :: bv :: bf :: Ds, D < W3.heap.size → D ≠ B → (w1.setCell ⟨B, 0, none⟩ (.slice (some ⟨g', 0, none⟩) ((out0 ++ pre).length + 1) cap')).heap[D]? = W3.heap[D]? := fun D hD hlt hne => kept_block hgrow hlt (hap D hD) hne
          have hkt : KeepT bt bv bf W3 (w1.setCell ⟨B, 0, none⟩ (.slice (some ⟨g', 0, none⟩) ((out0 ++ pre).length + 1) cap')) :=
            ⟨kb bt (by simp) (lt3 d1) (by have := hT.l1; omega), kb bv (by simp) (lt3 d2) (by have := hT.l2; omega), kb bf (by simp) (lt3 d3) (by have := hT.l3; omega)⟩
          have hne : ∀ D ∈ Ds, D ≠ B := fun D hD e => by
            subst e
            have h1 := hM3.2 D hD
            have h2 : W3.heap[D]? = some (.cells #[v] 22 (0, 0)) := hv
            rw [h1] at h2; cases h2
          refine ⟨hk2.from _, hkt, ⟨_, hv2, ?_, fun e => by simp at e, fun D hD => by simp [Value.ownBlock]; exact hg D hD⟩, hB3.trans hb2, ⟨hM3.1, fun D hD => (kb D (by simp [hD]) (lt3 (hM3.2 D hD)) (hne D hD)).trans (hM3.2 D hD)⟩, hK3.trans hkt⟩
          have e1 : (out0 ++ (pre ++ [x])).length = (out0 ++ pre).length + 1 := by simp; omega
          have e2 : (out0 ++ (pre ++ [x])).map (Value.int .i64) = (out0 ++ pre).map (Value.int .i64) ++ [.int .i64 x] := by simp
          rw [e1, e2]; exact hr2
        generalize hall : out0 ++ pre = all at *
        have hle : all.length ≤ 4095 * 64 + 64 := by omega
        clear hlenp
        by_cases hnil : all = []
        · have hown0 : ∀ (W' : World) (base : Nat), W'.ownsRow base 3 1 v 0 [] := fun W' base => by rw [hnl hnil]; exact World.ownsRow_nil _ _ _ _
          subst hnil
          clear hnl
          gi_wp2_with (gi_at_builtin; refine wpListIn_append_own _ rfl _ _ 22 rfl (W3.heap.size + 1) 3 i0 (.int .i64 0) 1 8 Tn.underlying22 hi hz0 hz1 hz2 rfl (by decide) _ _ _ rfl (hown0 _ _) ⟨W3.heap.size, 0, none⟩ 1 1 [.int .i64 x] rfl rfl (cell_one_new _ _ _) (by simp [Value.oneCell']) (by unfold maxLen; omega) (by omega) (by simp <;> omega) ?_; intro v' w1 hown' hgrow _; obtain ⟨g', cap', rfl⟩ := ownsRow_succ hown'; obtain ⟨hv1, hv2, hr2, hk2, hb2⟩ := hv.appended (by decide) hrow hBW3' (Nat.le_refl _) (own_weaken hown' (by omega)) hgrow; have hc1 := hv1.cell; have hf1 := hv1.frozen)
          have hge : ∀ D, D < W3.heap.size + 1 → (Value.slice (some ⟨g', 0, none⟩) (0 + 1) cap').ownBlock ≠ some D := fun D hD => own_ge hown' hD
          exact fin g' cap' w1 _ hgrow hv2 hr2 hk2 hb2 (fun D hD => by
            have hlt : D < W3.heap.size := by
              simp only [List.mem_cons] at hD
              rcases hD with rfl | rfl | rfl | hD
              · exact lt3 d1
              · exact lt3 d2
              · exact lt3 d3
              · exact lt3 (hM3.2 D hD)
            have := hge D (by omega)
            simpa [Value.ownBlock] using this)
        · have hpos : 1 ≤ all.length := by
            cases all with
            | nil => exact absurd rfl hnil
            | cons _ _ => simp
          gi_wp2_with (gi_at_builtin; refine wpListIn_append_own _ rfl _ _ 22 rfl (B) 3 i0 (.int .i64 0) 1 8 Tn.underlying22 hi hz0 hz1 hz2 rfl (by decide) _ _ _ rfl (hrow.alloc _) ⟨W3.heap.size, 0, none⟩ 1 1 [.int .i64 x] rfl rfl (cell_one_new _ _ _) (by simp [Value.oneCell']) (by unfold maxLen; omega) (by omega) (by simp <;> omega) ?_; intro v' w1 hown' hgrow _; obtain ⟨g', cap', rfl⟩ := ownsRow_succ hown'; obtain ⟨hv1, hv2, hr2, hk2, hb2⟩ := hv.appended (by decide) hrow hBW3' (Nat.le_refl _) (own_weaken hown' (by omega)) hgrow; have hc1 := hv1.cell; have hf1 := hv1.frozen)
          have keep1 : ∀ {D : Nat}, D ∈ bt :: bv :: bf :: Ds → D < W3.heap.size → w1.heap[D]? = W3.heap[D]? := fun hD hlt => (hgrow.block _ (by simp; omega) (fun e => hap _ hD e.symm)).trans (Below.heap_alloc W3 _ _ hlt)
          exact fin g' cap' w1 _ hgrow hv2 hr2 hk2 hb2 (fun D hD => by
            have hw : (Value.slice (some ⟨g', 0, none⟩) (all.length + 1) cap').ownBlock ≠ some D := by
              have hD' := hD
              simp only [List.mem_cons] at hD
              rcases hD with rfl | rfl | rfl | hD
              · exact own_two hown' (by omega) ((keep1 hD' (lt3 d1)).trans d1)
              · exact own_two hown' (by omega) ((keep1 hD' (lt3 d2)).trans d2)
              · exact own_two hown' (by omega) ((keep1 hD' (lt3 d3)).trans d3)
              · exact own_not hown' ((keep1 hD' (lt3 (hM3.2 D hD))).trans (hM3.2 D hD))
            simpa [Value.ownBlock] using hw)
      case done =>
        rintro D xs W3 hD rfl ⟨hR3, hB3, hM3, hK3⟩ hmark
        gi_wp2
        have hnew : ∀ E ∈ Ds, E ≠ D := fun E hE e => by have := hDlt E hE; omega
        refine ⟨⟨k + 1, D :: Ds, by omega, ⟨_, _, _, _, _, _, _, _, _, _, _, _, _, _, _, _, _, _, _, _, _, _, _, _, _, _, _, _, _, _, _, _, _, rfl⟩, hB3, ?_, ⟨List.nodup_cons.2 ⟨fun hE => hnew D hE rfl, hM3.1⟩, fun E hE => ?_⟩, fun E hE => ?_⟩, ?_⟩
        · obtain ⟨v, r1, r2, r3, r4⟩ := hR3
          have e : (l.take (k + 1)).flatMap (Sx.turnI th) = out0 ++ Sx.turnI th t := by
            rw [List.take_add_one, hget, Option.toList_some, List.flatMap_append, hout]; simp
          rw [e]
          refine ⟨v, r1, r2, r3, fun E hE => ?_⟩
          rcases List.mem_cons.1 hE with rfl | hE
          · exact own_not r2 hmark
          · exact r4 E (by simp [hE])
        · rcases List.mem_cons.1 hE with rfl | hE
          · exact hmark
          · exact hM3.2 E hE
        · rcases List.mem_cons.1 hE with rfl | hE
          · omega
          · exact hDs E hE
        · simp [intV]; omega
      case stop =>
        rintro D c pre W _ _ h _
        exact h.elim
    · have hkk : k = l.length := by omega
      subst hkk
      gi_wp2
      refine hQ _ _ Ds ⟨_, _, _, _, _, _, _, _, _, _, _, _, _, _, _, _, _, _, _, _, _, _, _, _, _, _, _, _, _, _, _, _, _, rfl⟩ hB ?_ hM hDs
      rw [List.take_length] at hR
      obtain ⟨v, r1, r2, r3, _⟩ := hR
      exact ⟨v, r1, r2, r3, by simp⟩
end Go.Proofs.YtmcmdghmglopnaaGreatDoor

