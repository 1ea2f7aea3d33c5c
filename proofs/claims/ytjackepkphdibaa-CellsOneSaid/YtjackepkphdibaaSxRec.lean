/-
  The records of this seat, and how they lie in cells.
-/
import Derived.Test.YtjackepkphdibaaSxTab
namespace Go.Proofs.Ytjackepkphdibaa
namespace Sx
open Go

def decI (x : AV) : Option Int := match x.num with | some (.i64, n, _) => some n | _ => none
def decB (x : AV) : Option Bool := match x.bl with | some (b, _) => some b | none => none
theorem decI_ok {x : AV} {n : Int} (h : decI x = some n) {r : Nm} {v : Value} (e : rel r x v) : rel r (.int .i64 n) v := by
  unfold decI at h
  split at h
  · rename_i m l hx; cases h; exact rel_num hx e
  · cases h
theorem decB_ok {x : AV} {b : Bool} (h : decB x = some b) {r : Nm} {v : Value} (e : rel r x v) : rel r (.bool b) v := by
  unfold decB at h
  split at h
  · rename_i m l hx; cases h; exact rel_bl hx e
  · cases h
def intDec : List AV → Option Int
  | [x] => decI x
  | _ => none
theorem intBack (cs : List AV) (a : Int) (h : intDec cs = some a) (r : Nm) (vs : List Value) (hr : relL r cs vs) : relL r [.int .i64 a] vs := by
  unfold intDec at h
  split at h
  · simp only [relL] at hr; obtain ⟨v, us, rfl, h1, rfl⟩ := hr; exact relL_cons.2 ⟨decI_ok h h1, relL_nil⟩
  · cases h
def intLay : Enc Int := ⟨1, false, fun n => [.int .i64 n], intDec, 0, fun _ => rfl, intBack, fun a r vs h => relL_one (xs := [.int .i64 a]) rfl h, by decide⟩
def boolDec : List AV → Option Bool
  | [x] => decB x
  | _ => none
theorem boolBack (cs : List AV) (a : Bool) (h : boolDec cs = some a) (r : Nm) (vs : List Value) (hr : relL r cs vs) : relL r [.bool a] vs := by
  unfold boolDec at h
  split at h
  · simp only [relL] at hr; obtain ⟨v, us, rfl, h1, rfl⟩ := hr; exact relL_cons.2 ⟨decB_ok h h1, relL_nil⟩
  · cases h
def boolLay : Enc Bool := ⟨1, false, fun n => [.bool n], boolDec, false, fun _ => rfl, boolBack, fun a r vs h => relL_one (xs := [.bool a]) rfl h, by decide⟩

structure Holder where
  thread : Int
  held : Bool
  deriving DecidableEq
def Holder.enc (a : Holder) : List AV := [.int .i64 a.thread, .bool a.held]
def Holder.dec : List AV → Option Holder
  | [x0, x1] => (decI x0).bind fun n0 => (decB x1).bind fun n1 => some (⟨n0, n1⟩ : Holder)
  | _ => none
theorem Holder.back (cs : List AV) (a : Holder) (h : Holder.dec cs = some a) (r : Nm) (vs : List Value) (hr : relL r cs vs) : relL r (Holder.enc a) vs := by
  unfold Holder.dec at h
  split at h
  · simp only [relL] at hr
    obtain ⟨v0, u0, rfl, h0, ⟨v1, u1, rfl, h1, rfl⟩⟩ := hr
    obtain ⟨n0, e0, h⟩ := Option.bind_eq_some_iff.1 h
    obtain ⟨n1, e1, h⟩ := Option.bind_eq_some_iff.1 h
    cases h
    simp only [Holder.enc]
    exact relL_cons.2 ⟨decI_ok e0 h0, relL_cons.2 ⟨decB_ok e1 h1, relL_nil⟩⟩
  · cases h
def Holder.lay : Enc Holder := ⟨2, true, Holder.enc, Holder.dec, ⟨0, false⟩, fun _ => rfl, Holder.back, fun a r vs h => relL_one (xs := Holder.enc a) rfl h, by decide⟩
structure Deed where
  thread : Int
  act : Int
  cell : Int
  before : Int
  after : Int
  deriving DecidableEq
def Deed.enc (a : Deed) : List AV := [.int .i64 a.thread, .int .i64 a.act, .int .i64 a.cell, .int .i64 a.before, .int .i64 a.after]
def Deed.dec : List AV → Option Deed
  | [x0, x1, x2, x3, x4] => (decI x0).bind fun n0 => (decI x1).bind fun n1 => (decI x2).bind fun n2 => (decI x3).bind fun n3 => (decI x4).bind fun n4 => some (⟨n0, n1, n2, n3, n4⟩ : Deed)
  | _ => none
theorem Deed.back (cs : List AV) (a : Deed) (h : Deed.dec cs = some a) (r : Nm) (vs : List Value) (hr : relL r cs vs) : relL r (Deed.enc a) vs := by
  unfold Deed.dec at h
  split at h
  · simp only [relL] at hr
    obtain ⟨v0, u0, rfl, h0, ⟨v1, u1, rfl, h1, ⟨v2, u2, rfl, h2, ⟨v3, u3, rfl, h3, ⟨v4, u4, rfl, h4, rfl⟩⟩⟩⟩⟩ := hr
    obtain ⟨n0, e0, h⟩ := Option.bind_eq_some_iff.1 h
    obtain ⟨n1, e1, h⟩ := Option.bind_eq_some_iff.1 h
    obtain ⟨n2, e2, h⟩ := Option.bind_eq_some_iff.1 h
    obtain ⟨n3, e3, h⟩ := Option.bind_eq_some_iff.1 h
    obtain ⟨n4, e4, h⟩ := Option.bind_eq_some_iff.1 h
    cases h
    simp only [Deed.enc]
    exact relL_cons.2 ⟨decI_ok e0 h0, relL_cons.2 ⟨decI_ok e1 h1, relL_cons.2 ⟨decI_ok e2 h2, relL_cons.2 ⟨decI_ok e3 h3, relL_cons.2 ⟨decI_ok e4 h4, relL_nil⟩⟩⟩⟩⟩
  · cases h
def Deed.lay : Enc Deed := ⟨5, true, Deed.enc, Deed.dec, ⟨0, 0, 0, 0, 0⟩, fun _ => rfl, Deed.back, fun a r vs h => relL_one (xs := Deed.enc a) rfl h, by decide⟩
structure Five where
  a : Int
  b : Int
  c : Int
  d : Int
  e : Int
  deriving DecidableEq
def Five.enc (a : Five) : List AV := [.int .i64 a.a, .int .i64 a.b, .int .i64 a.c, .int .i64 a.d, .int .i64 a.e]
def Five.dec : List AV → Option Five
  | [x0, x1, x2, x3, x4] => (decI x0).bind fun n0 => (decI x1).bind fun n1 => (decI x2).bind fun n2 => (decI x3).bind fun n3 => (decI x4).bind fun n4 => some (⟨n0, n1, n2, n3, n4⟩ : Five)
  | _ => none
theorem Five.back (cs : List AV) (a : Five) (h : Five.dec cs = some a) (r : Nm) (vs : List Value) (hr : relL r cs vs) : relL r (Five.enc a) vs := by
  unfold Five.dec at h
  split at h
  · simp only [relL] at hr
    obtain ⟨v0, u0, rfl, h0, ⟨v1, u1, rfl, h1, ⟨v2, u2, rfl, h2, ⟨v3, u3, rfl, h3, ⟨v4, u4, rfl, h4, rfl⟩⟩⟩⟩⟩ := hr
    obtain ⟨n0, e0, h⟩ := Option.bind_eq_some_iff.1 h
    obtain ⟨n1, e1, h⟩ := Option.bind_eq_some_iff.1 h
    obtain ⟨n2, e2, h⟩ := Option.bind_eq_some_iff.1 h
    obtain ⟨n3, e3, h⟩ := Option.bind_eq_some_iff.1 h
    obtain ⟨n4, e4, h⟩ := Option.bind_eq_some_iff.1 h
    cases h
    simp only [Five.enc]
    exact relL_cons.2 ⟨decI_ok e0 h0, relL_cons.2 ⟨decI_ok e1 h1, relL_cons.2 ⟨decI_ok e2 h2, relL_cons.2 ⟨decI_ok e3 h3, relL_cons.2 ⟨decI_ok e4 h4, relL_nil⟩⟩⟩⟩⟩
  · cases h
def Five.lay : Enc Five := ⟨5, true, Five.enc, Five.dec, ⟨0, 0, 0, 0, 0⟩, fun _ => rfl, Five.back, fun a r vs h => relL_one (xs := Five.enc a) rfl h, by decide⟩
end Sx
end Go.Proofs.Ytjackepkphdibaa
