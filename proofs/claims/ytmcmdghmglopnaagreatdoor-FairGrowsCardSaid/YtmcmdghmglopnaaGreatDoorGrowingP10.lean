/-
  fair.turn's iterator, walked once.
-/
import Derived.Test.YtmcmdghmglopnaaGreatDoorGrowingP9
import Derived.RangeFuncBox
import Derived.RangeFuncLeaves
import Derived.Shelf.Abstract
import Derived.WalkKit
import Derived.OwnWalkIn
import Derived.TacticsInMore
import Derived.LoopNIn
import Derived.LoopIn
import Derived.Maps.AppendAt
import Derived.Test.YtmcmdghmglopnaaGreatDoorProg
namespace Go.Proofs.YtmcmdghmglopnaaGreatDoor
open Go.RowKit Go.Shelf
attribute [local go_sem] Oper.semAt_some

/-- The iterator's variables lie as they lay. -/
def KeepT (bt bv bf : Nat) (W W' : World) : Prop := W'.heap[bt]? = W.heap[bt]? ∧ W'.heap[bv]? = W.heap[bv]? ∧ W'.heap[bf]? = W.heap[bf]?
theorem KeepT.trans {bt bv bf : Nat} {A B C : World} (h : KeepT bt bv bf A B) (k : KeepT bt bv bf B C) : KeepT bt bv bf A C := ⟨k.1.trans h.1, k.2.1.trans h.2.1, k.2.2.trans h.2.2⟩
/-- A number's value. -/
def intV : Value → Int
  | .int _ n => n
  | _ => 0

theorem and_one (t : Int) : bits .and .i64 t 1 = t % 2 := by
  have h : bits .and .i64 t 1 = IntKind.wrap .i64 ((BitVec.ofInt IntKind.i64.bits t &&& BitVec.ofInt IntKind.i64.bits 1).toNat : Int) := rfl
  rw [h]
  have e : (BitVec.ofInt IntKind.i64.bits t &&& BitVec.ofInt IntKind.i64.bits 1).toNat = (t % 2).toNat := by
    rw [BitVec.toNat_and]
    show (BitVec.ofInt 64 t).toNat &&& (BitVec.ofInt 64 1).toNat = _
    rw [show (BitVec.ofInt 64 1).toNat = 1 by decide, Nat.and_one_is_mod, BitVec.toNat_ofInt]
    omega
  rw [e]
  have h2 : 0 ≤ t % 2 ∧ t % 2 < 2 := by omega
  have : ((t % 2).toNat : Int) = t % 2 := by omega
  rw [this]
  generalize t % 2 = n at h2
  simp [IntKind.wrap, IntKind.bits, IntKind.signed]; omega
theorem turn_val {th t : Int} {k : Nat} (h0 : 0 < th) (h1 : th ≤ 64) (hk : (k : Int) < th) (x : Int) (hx : x = if t % 2 = 0 then (k : Int) else th - k) :
    (Sx.turnI th t)[k]? = some ((wrap64 (t % th + x)).tmod th) := by
  have ha := Int.emod_nonneg t (show th ≠ 0 by omega)
  have hb := Int.emod_lt_of_pos t h0
  rw [Sx.turnI_get (by omega), ← hx]
  generalize t % th = f at ha hb
  have hx0 : 0 ≤ x := by subst hx; split <;> omega
  have hx1 : x ≤ 64 := by subst hx; split <;> omega
  have e : wrap64 (f + x) = f + x := by unfold wrap64; omega
  rw [e, Int.tmod_eq_emod_of_nonneg (by omega)]
theorem turn_take {th t : Int} {k : Nat} {y : Int} (h : (Sx.turnI th t)[k]? = some y) : (Sx.turnI th t).take k ++ [y] = (Sx.turnI th t).take (k + 1) := by
  rw [List.take_add_one, h]; rfl

set_option maxRecDepth 100000 in
set_option maxHeartbeats 1000000 in
theorem turn1_in (F : Fence) (n : Nat) (h34 : F.fn 34) (hro : F.round = none) (hn : 1 ≤ n) (l bt bv bf : Nat) (th t f : Int) (h0 : 0 < th) (h1 : th ≤ 64) (hf : f = t % th) (J Jx : List Int → World → Prop)
    (hY : ∀ pre x W, J pre W → pre.length < th.toNat → YieldAt F (n - 1) Tryz.prog l #[.int .i64 x] W fun e W' =>
      (e = .returned (.bool true) ∧ J (pre ++ [x]) W' ∧ KeepT bt bv bf W W') ∨ (e = .returned (.bool false) ∧ Jx (pre ++ [x]) W'))
    (W : World) (hB1 : W.cell? ⟨bt, 0, none⟩ = some (.int .i64 th)) (hB2 : W.cell? ⟨bv, 0, none⟩ = some (.int .i64 t)) (hB3 : W.cell? ⟨bf, 0, none⟩ = some (.int .i64 f)) (hJ0 : J [] W) :
    CallsIn F n Tryz.prog 34 #[.func (.yield l) #[] #[], .pointer (some ⟨bt, 0, none⟩), .pointer (some ⟨bv, 0, none⟩), .pointer (some ⟨bf, 0, none⟩)] W fun e W' => (∃ v, e = .returned v) ∧
      ((∃ ys, ys = Sx.turnI th t ∧ J ys W') ∨ (∃ pre, pre <+: Sx.turnI th t ∧ Jx pre W')) := by
  refine callsIn_of_wp Tryz.func34 rfl h34 ?_ hro
  simp only [Tryz.ntmps34, List.size_toArray, List.length_cons, List.length_nil, Nat.reduceAdd, Nat.reduceSub, Array.replicate_succ, Array.replicate_zero, List.push_toArray, List.append_toArray, List.nil_append, List.cons_append]
  gi_wp2
  gi_loopw [7] (fun p wr => ∃ k : Nat, p = .int .i64 k ∧ (k : Int) ≤ th ∧ J ((Sx.turnI th t).take k) wr ∧ wr.cell? ⟨bt, 0, none⟩ = some (.int .i64 th) ∧ wr.cell? ⟨bv, 0, none⟩ = some (.int .i64 t) ∧ wr.cell? ⟨bf, 0, none⟩ = some (.int .i64 f))
    (fun p wr => th.toNat - (intV p).toNat)
  case atStart =>
    exact ⟨0, rfl, by omega, hJ0, hB1, hB2, hB3⟩
  case round =>
    obtain ⟨k, rfl, hk, hJ, hC1, hC2, hC3⟩ := hrel
    have hlen := Sx.turnI_length th t
    by_cases hlt : (k : Int) < th
    · have hpl : ((Sx.turnI th t).take k).length < th.toNat := by rw [List.length_take, hlen]; omega
      obtain ⟨fn, tmps, assign, body, hyA, hRA⟩ := hY ((Sx.turnI th t).take k) ((wrap64 (t % th + (th - ↑k))).tmod th) wr hJ hpl
      obtain ⟨fn', tmps', assign', body', hyB, hRB⟩ := hY ((Sx.turnI th t).take k) ((wrap64 (t % th + ↑k)).tmod th) wr hJ hpl
      have hm : (bits BinOp.and IntKind.i64 t 1 != 0) = true ↔ ¬ t % 2 = 0 := by rw [and_one]; simp
      gi_wp2
      · have hodd : ¬ t % 2 = 0 := hm.1 (by assumption)
        have hv := turn_val (t := t) h0 h1 hlt (th - k) (by rw [if_neg hodd])
        refine hRA.mono ?_
        rintro e W3 (⟨rfl, hJ3, hk3⟩ | ⟨rfl, hJx3⟩)
        · have hD1 := (World.cell?_of_block hk3.1).trans hC1
          have hD2 := (World.cell?_of_block hk3.2.1).trans hC2
          have hD3 := (World.cell?_of_block hk3.2.2).trans hC3
          gi_wp2
          go_roundw
          case rel => exact ⟨k + 1, by simp [wrap64] <;> omega, by omega, by rw [← turn_take hv]; exact hJ3, hD1, hD2, hD3⟩
          case measure => simp [intV, wrap64]; omega
        · gi_wp2
          refine bodyPost_ret (results_none rfl _ _ _) rfl ?_
          exact ⟨⟨_, rfl⟩, .inr ⟨(Sx.turnI th t).take (k + 1), List.take_prefix _ _, by rw [← turn_take hv]; exact hJx3⟩⟩
      · have heven : t % 2 = 0 := Classical.byContradiction fun hh => by have := hm.2 hh; simp_all
        have hv := turn_val (t := t) h0 h1 hlt k (by rw [if_pos heven])
        refine hRB.mono ?_
        rintro e W3 (⟨rfl, hJ3, hk3⟩ | ⟨rfl, hJx3⟩)
        · have hD1 := (World.cell?_of_block hk3.1).trans hC1
          have hD2 := (World.cell?_of_block hk3.2.1).trans hC2
          have hD3 := (World.cell?_of_block hk3.2.2).trans hC3
          gi_wp2
          go_roundw
          case rel => exact ⟨k + 1, by simp [wrap64] <;> omega, by omega, by rw [← turn_take hv]; exact hJ3, hD1, hD2, hD3⟩
          case measure => simp [intV, wrap64]; omega
        · gi_wp2
          refine bodyPost_ret (results_none rfl _ _ _) rfl ?_
          exact ⟨⟨_, rfl⟩, .inr ⟨(Sx.turnI th t).take (k + 1), List.take_prefix _ _, by rw [← turn_take hv]; exact hJx3⟩⟩
    · gi_wp2
      go_end0
      rw [List.take_of_length_le (by omega)] at hJ
      exact ⟨⟨_, rfl⟩, .inl (by simpa using hJ)⟩
/-- The iterator, as the law for its callers asks. -/
theorem turn_stops (F : Fence) (n : Nat) (h34 : F.fn 34) (hro : F.round = none) (hn : 1 ≤ n) (bt bv bf : Nat) (th t f : Int) (h0 : 0 < th) (h1 : th ≤ 64) (hf : f = t % th) (w : World) (hb1 : bt < w.heap.size) (hb2 : bv < w.heap.size) (hb3 : bf < w.heap.size)
    (hB1 : w.cell? ⟨bt, 0, none⟩ = some (.int .i64 th)) (hB2 : w.cell? ⟨bv, 0, none⟩ = some (.int .i64 t)) (hB3 : w.cell? ⟨bf, 0, none⟩ = some (.int .i64 f)) :
    SeqStopsK F n Tryz.prog 34 #[.pointer (some ⟨bt, 0, none⟩), .pointer (some ⟨bv, 0, none⟩), .pointer (some ⟨bf, 0, none⟩)] (fun x : Int => #[Value.int .i64 x]) (KeepT bt bv bf) (fun ys => ys = Sx.turnI th t) (fun pre => pre <+: Sx.turnI th t) th.toNat w := fun l J Jx W hW _ _ hY hJ0 =>
  turn1_in F n h34 hro hn l bt bv bf th t f h0 h1 hf J Jx hY W ((hW.cell (p := ⟨bt, 0, none⟩) hb1).trans hB1) ((hW.cell (p := ⟨bv, 0, none⟩) hb2).trans hB2) ((hW.cell (p := ⟨bf, 0, none⟩) hb3).trans hB3) hJ0
end Go.Proofs.YtmcmdghmglopnaaGreatDoor

