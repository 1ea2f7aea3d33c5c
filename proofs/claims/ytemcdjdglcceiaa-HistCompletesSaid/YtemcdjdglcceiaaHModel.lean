/-
  What records tell, as plain data.
-/
import Derived.Test.YtemcdjdglcceiaaSxRec
import Derived.Test.YtemcdjdglcceiaaSxK
namespace Go.Proofs.Ytemcdjdglcceiaa
namespace Sx
open Go

def Rec.com (r : Rec) : Com := ⟨r.act, r.key, r.value, r.hit⟩
def Opn.of (r : Rec) (c : Int) : Opn := ⟨r.thread, r.op, r.what, r.act, r.key, r.value, r.hit, r.err, c⟩
abbrev r0 : Rec := ⟨0, 0, 0, 0, 0, 0, false, 0⟩
abbrev c0 : Cal := ⟨0, 0, 0, 0, 0⟩
structure RD where
  at_ : List (Int × Opn)
  cs : List Cal
namespace RD
def push (s : RD) (r : Rec) (i : Nat) : RD := ⟨mput s.at_ r.thread (Opn.of r s.cs.length), s.cs ++ [⟨r.thread, r.op, i, -1, -1⟩]⟩
def may (s : RD) (r : Rec) : Prop := match mget s.at_ r.thread with
  | none => r.op = 0
  | some o => o.what = 3 ∧ r.op = IntKind.wrap .i64 (o.op + 1)
instance (s : RD) (r : Rec) : Decidable (s.may r) := by unfold may; split <;> infer_instance
def invoke (s : RD) (r : Rec) (i : Nat) : Option RD := if s.may r ∧ r.err = 0 then some (s.push r i) else none
def upd (s : RD) (r : Rec) (o : Opn) (f : Cal → Cal) : RD := ⟨mput s.at_ r.thread (Opn.of r o.call), s.cs.set o.call.toNat (f (s.cs.getD o.call.toNat c0))⟩
def follow (s : RD) (r : Rec) (i : Nat) : Option RD := match mget s.at_ r.thread with
  | none => none
  | some o =>
    if o.what = 3 ∨ r.op ≠ o.op ∨ r.act ≠ o.act ∨ r.key ≠ o.key then none
    else if r.what = 2 then (if o.what = 1 ∧ r.err = 0 then some (s.upd r o fun c => { c with at_ := i }) else none)
    else if r.what = 3 then (if o.what = 1 ∨ (r.value = o.value ∧ r.hit = o.hit ∧ r.err = 0) then some (s.upd r o fun c => { c with to_ := i }) else none)
    else none
def step (s : RD) (r : Rec) (i : Nat) : Option RD :=
  if r.thread < 0 ∨ r.thread ≥ 64 then none
  else if r.op < 0 then (if r.op = -1 ∧ r.what = 2 ∧ r.act = 4 ∧ r.err = 0 then some s else none)
  else if r.what = 1 then s.invoke r i else s.follow r i
end RD
def readTo (l : List Rec) : Nat → Option RD
  | 0 => some ⟨[], []⟩
  | n + 1 => (readTo l n).bind fun s => s.step (l.getD n r0) n
def hCalls (l : List Rec) : Option (List Cal) := (readTo l l.length).map RD.cs
def hRight (l : List Rec) : Bool := (hCalls l).isSome
def hCallsOf (l : List Rec) : List Cal := (hCalls l).getD []
def hBefore (a b : Cal) : Bool := decide (a.to_ ≥ 0) && decide (a.to_ < b.frm)
def hCommits (l : List Rec) : List Com := if hRight l then (l.filter fun r => decide (r.what = 2)).map Rec.com else []
def hLeftOf (cs : List Cal) : Nat := (cs.filter fun c => decide (c.to_ = -1)).length
def hLeft (l : List Rec) : Nat := hLeftOf (hCallsOf l)
def hDrop (cs : List Cal) (i : Nat) : Bool := cs.any fun c => decide (c.to_ = -1 ∧ c.at_ = -1 ∧ c.frm = i)
def hLate (cs : List Cal) (i : Nat) : Bool := cs.any fun c => decide (c.to_ = -1 ∧ c.at_ ≠ -1 ∧ c.at_ = i)
def hOut (l : List Rec) (cs : List Cal) (n : Nat) : List Rec := ((List.range n).filter fun i => !hDrop cs i).map fun i => l.getD i r0
def hMore (l : List Rec) (cs : List Cal) (n : Nat) : List Rec := ((List.range n).filter fun i => hLate cs i).map fun i => { l.getD i r0 with what := 3 }
def hComplete (l : List Rec) : List Rec := match hCalls l with
  | none => []
  | some cs => hOut l cs l.length ++ hMore l cs l.length

theorem readTo_none {l : List Rec} {n m : Nat} (h : readTo l n = none) (hm : n ≤ m) : readTo l m = none := by
  obtain ⟨d, rfl⟩ := Nat.exists_eq_add_of_le hm
  clear hm
  induction d with
  | zero => exact h
  | succ d ih => show (readTo l (n + d)).bind _ = none; rw [ih]; rfl

/-! ## what holds of all that is read -/
/-- The calls of a thread, and the last record of it. -/
structure RInv (l : List Rec) (n : Nat) (s : RD) : Prop where
  len : s.cs.length ≤ n
  frm : ∀ (j : Nat) (c : Cal), s.cs[j]? = some c → 0 ≤ c.frm ∧ c.frm < n ∧ (l.getD c.frm.toNat r0).what = 1 ∧ (l.getD c.frm.toNat r0).thread = c.thread ∧ (l.getD c.frm.toNat r0).op = c.op ∧ 0 ≤ c.op
  at_ : ∀ (j : Nat) (c : Cal), s.cs[j]? = some c → c.at_ = -1 ∨ (c.frm < c.at_ ∧ c.at_ < n ∧ (l.getD c.at_.toNat r0).what = 2 ∧ (l.getD c.at_.toNat r0).thread = c.thread ∧ (l.getD c.at_.toNat r0).op = c.op)
  to_ : ∀ (j : Nat) (c : Cal), s.cs[j]? = some c → c.to_ = -1 ∨ (c.frm < c.to_ ∧ c.at_ < c.to_ ∧ c.to_ < n ∧ (l.getD c.to_.toNat r0).what = 3 ∧ (l.getD c.to_.toNat r0).thread = c.thread ∧ (l.getD c.to_.toNat r0).op = c.op)
  up : ∀ (j k : Nat) (c d : Cal), j < k → s.cs[j]? = some c → s.cs[k]? = some d → c.frm < d.frm
  /-- What a thread is at is its last call. -/
  last : ∀ t o, mget s.at_ t = some o → o.thread = t ∧ 0 ≤ o.call ∧ o.call.toNat < s.cs.length ∧ (o.what = 1 ∨ o.what = 2 ∨ o.what = 3) ∧
    ∃ c, s.cs[o.call.toNat]? = some c ∧ c.thread = t ∧ c.op = o.op ∧ (o.what = 1 ↔ c.at_ = -1 ∧ c.to_ = -1) ∧ (o.what = 2 ↔ c.at_ ≠ -1 ∧ c.to_ = -1) ∧ (o.what = 3 ↔ c.to_ ≠ -1)
  own : ∀ (j : Nat) (c : Cal), s.cs[j]? = some c → ∃ o, mget s.at_ c.thread = some o ∧ j ≤ o.call.toNat ∧ c.op ≤ o.op
  /-- Two calls of one thread. -/
  two : ∀ (j k : Nat) (c d : Cal), j < k → s.cs[j]? = some c → s.cs[k]? = some d → c.thread = d.thread → c.to_ ≠ -1 ∧ c.to_ < d.frm ∧ c.op < d.op

end Sx
end Go.Proofs.Ytemcdjdglcceiaa
