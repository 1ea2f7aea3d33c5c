/-
  The records of this seat, and how they lie in cells.
-/
import Derived.Test.YtemcdjdglcceiaaSxTab
namespace Go.Proofs.Ytemcdjdglcceiaa
namespace Sx
open Go

def decI (x : AV) : Option Int := match x.num with | some (.i64, n, _) => some n | _ => none
def decB (x : AV) : Option Bool := match x.bl with | some (b, _) => some b | none => none
theorem decI_ok {x : AV} {n : Int} (h : decI x = some n) {r : Nm} {v : Value} (e : rel r x v) : rel r (.int .i64 n) v := by
  unfold decI at h
  split at h
  · rename_i m l hx; cases h; exact rel_num hx e
  · cases h
theorem decB_ok {x : AV} {b : Bool} (h : decB x = some b) {r : Nm} {v : Value} (e : rel r x v) : rel r (.bool b) v := by
  unfold decB at h
  split at h
  · rename_i m l hx; cases h; exact rel_bl hx e
  · cases h
def intDec : List AV → Option Int
  | [x] => decI x
  | _ => none
theorem intBack (cs : List AV) (a : Int) (h : intDec cs = some a) (r : Nm) (vs : List Value) (hr : relL r cs vs) : relL r [.int .i64 a] vs := by
  unfold intDec at h
  split at h
  · simp only [relL] at hr; obtain ⟨v, us, rfl, h1, rfl⟩ := hr; exact relL_cons.2 ⟨decI_ok h h1, relL_nil⟩
  · cases h
def intLay : Enc Int := ⟨1, false, fun n => [.int .i64 n], intDec, 0, fun _ => rfl, intBack, fun a r vs h => relL_one (xs := [.int .i64 a]) rfl h, by decide⟩
def boolDec : List AV → Option Bool
  | [x] => decB x
  | _ => none
theorem boolBack (cs : List AV) (a : Bool) (h : boolDec cs = some a) (r : Nm) (vs : List Value) (hr : relL r cs vs) : relL r [.bool a] vs := by
  unfold boolDec at h
  split at h
  · simp only [relL] at hr; obtain ⟨v, us, rfl, h1, rfl⟩ := hr; exact relL_cons.2 ⟨decB_ok h h1, relL_nil⟩
  · cases h
def boolLay : Enc Bool := ⟨1, false, fun n => [.bool n], boolDec, false, fun _ => rfl, boolBack, fun a r vs h => relL_one (xs := [.bool a]) rfl h, by decide⟩

structure Com where
  act : Int
  key : Int
  value : Int
  hit : Bool
  deriving DecidableEq
def Com.enc (a : Com) : List AV := [.int .i64 a.act, .int .i64 a.key, .int .i64 a.value, .bool a.hit]
def Com.dec : List AV → Option Com
  | [x0, x1, x2, x3] => (decI x0).bind fun n0 => (decI x1).bind fun n1 => (decI x2).bind fun n2 => (decB x3).bind fun n3 => some (⟨n0, n1, n2, n3⟩ : Com)
  | _ => none
theorem Com.back (cs : List AV) (a : Com) (h : Com.dec cs = some a) (r : Nm) (vs : List Value) (hr : relL r cs vs) : relL r (Com.enc a) vs := by
  unfold Com.dec at h
  split at h
  · simp only [relL] at hr
    obtain ⟨v0, u0, rfl, h0, ⟨v1, u1, rfl, h1, ⟨v2, u2, rfl, h2, ⟨v3, u3, rfl, h3, rfl⟩⟩⟩⟩ := hr
    obtain ⟨n0, e0, h⟩ := Option.bind_eq_some_iff.1 h
    obtain ⟨n1, e1, h⟩ := Option.bind_eq_some_iff.1 h
    obtain ⟨n2, e2, h⟩ := Option.bind_eq_some_iff.1 h
    obtain ⟨n3, e3, h⟩ := Option.bind_eq_some_iff.1 h
    cases h
    simp only [Com.enc]
    exact relL_cons.2 ⟨decI_ok e0 h0, relL_cons.2 ⟨decI_ok e1 h1, relL_cons.2 ⟨decI_ok e2 h2, relL_cons.2 ⟨decB_ok e3 h3, relL_nil⟩⟩⟩⟩
  · cases h
def Com.lay : Enc Com := ⟨4, true, Com.enc, Com.dec, ⟨0, 0, 0, false⟩, fun _ => rfl, Com.back, fun a r vs h => relL_one (xs := Com.enc a) rfl h, by decide⟩
structure Rec where
  thread : Int
  op : Int
  what : Int
  act : Int
  key : Int
  value : Int
  hit : Bool
  err : Int
  deriving DecidableEq
def Rec.enc (a : Rec) : List AV := [.int .i64 a.thread, .int .i64 a.op, .int .i64 a.what, .int .i64 a.act, .int .i64 a.key, .int .i64 a.value, .bool a.hit, .int .i64 a.err]
def Rec.dec : List AV → Option Rec
  | [x0, x1, x2, x3, x4, x5, x6, x7] => (decI x0).bind fun n0 => (decI x1).bind fun n1 => (decI x2).bind fun n2 => (decI x3).bind fun n3 => (decI x4).bind fun n4 => (decI x5).bind fun n5 => (decB x6).bind fun n6 => (decI x7).bind fun n7 => some (⟨n0, n1, n2, n3, n4, n5, n6, n7⟩ : Rec)
  | _ => none
theorem Rec.back (cs : List AV) (a : Rec) (h : Rec.dec cs = some a) (r : Nm) (vs : List Value) (hr : relL r cs vs) : relL r (Rec.enc a) vs := by
  unfold Rec.dec at h
  split at h
  · simp only [relL] at hr
    obtain ⟨v0, u0, rfl, h0, ⟨v1, u1, rfl, h1, ⟨v2, u2, rfl, h2, ⟨v3, u3, rfl, h3, ⟨v4, u4, rfl, h4, ⟨v5, u5, rfl, h5, ⟨v6, u6, rfl, h6, ⟨v7, u7, rfl, h7, rfl⟩⟩⟩⟩⟩⟩⟩⟩ := hr
    obtain ⟨n0, e0, h⟩ := Option.bind_eq_some_iff.1 h
    obtain ⟨n1, e1, h⟩ := Option.bind_eq_some_iff.1 h
    obtain ⟨n2, e2, h⟩ := Option.bind_eq_some_iff.1 h
    obtain ⟨n3, e3, h⟩ := Option.bind_eq_some_iff.1 h
    obtain ⟨n4, e4, h⟩ := Option.bind_eq_some_iff.1 h
    obtain ⟨n5, e5, h⟩ := Option.bind_eq_some_iff.1 h
    obtain ⟨n6, e6, h⟩ := Option.bind_eq_some_iff.1 h
    obtain ⟨n7, e7, h⟩ := Option.bind_eq_some_iff.1 h
    cases h
    simp only [Rec.enc]
    exact relL_cons.2 ⟨decI_ok e0 h0, relL_cons.2 ⟨decI_ok e1 h1, relL_cons.2 ⟨decI_ok e2 h2, relL_cons.2 ⟨decI_ok e3 h3, relL_cons.2 ⟨decI_ok e4 h4, relL_cons.2 ⟨decI_ok e5 h5, relL_cons.2 ⟨decB_ok e6 h6, relL_cons.2 ⟨decI_ok e7 h7, relL_nil⟩⟩⟩⟩⟩⟩⟩⟩
  · cases h
def Rec.lay : Enc Rec := ⟨8, true, Rec.enc, Rec.dec, ⟨0, 0, 0, 0, 0, 0, false, 0⟩, fun _ => rfl, Rec.back, fun a r vs h => relL_one (xs := Rec.enc a) rfl h, by decide⟩
structure Cal where
  thread : Int
  op : Int
  frm : Int
  at_ : Int
  to_ : Int
  deriving DecidableEq
def Cal.enc (a : Cal) : List AV := [.int .i64 a.thread, .int .i64 a.op, .int .i64 a.frm, .int .i64 a.at_, .int .i64 a.to_]
def Cal.dec : List AV → Option Cal
  | [x0, x1, x2, x3, x4] => (decI x0).bind fun n0 => (decI x1).bind fun n1 => (decI x2).bind fun n2 => (decI x3).bind fun n3 => (decI x4).bind fun n4 => some (⟨n0, n1, n2, n3, n4⟩ : Cal)
  | _ => none
theorem Cal.back (cs : List AV) (a : Cal) (h : Cal.dec cs = some a) (r : Nm) (vs : List Value) (hr : relL r cs vs) : relL r (Cal.enc a) vs := by
  unfold Cal.dec at h
  split at h
  · simp only [relL] at hr
    obtain ⟨v0, u0, rfl, h0, ⟨v1, u1, rfl, h1, ⟨v2, u2, rfl, h2, ⟨v3, u3, rfl, h3, ⟨v4, u4, rfl, h4, rfl⟩⟩⟩⟩⟩ := hr
    obtain ⟨n0, e0, h⟩ := Option.bind_eq_some_iff.1 h
    obtain ⟨n1, e1, h⟩ := Option.bind_eq_some_iff.1 h
    obtain ⟨n2, e2, h⟩ := Option.bind_eq_some_iff.1 h
    obtain ⟨n3, e3, h⟩ := Option.bind_eq_some_iff.1 h
    obtain ⟨n4, e4, h⟩ := Option.bind_eq_some_iff.1 h
    cases h
    simp only [Cal.enc]
    exact relL_cons.2 ⟨decI_ok e0 h0, relL_cons.2 ⟨decI_ok e1 h1, relL_cons.2 ⟨decI_ok e2 h2, relL_cons.2 ⟨decI_ok e3 h3, relL_cons.2 ⟨decI_ok e4 h4, relL_nil⟩⟩⟩⟩⟩
  · cases h
def Cal.lay : Enc Cal := ⟨5, true, Cal.enc, Cal.dec, ⟨0, 0, 0, 0, 0⟩, fun _ => rfl, Cal.back, fun a r vs h => relL_one (xs := Cal.enc a) rfl h, by decide⟩
structure Opn where
  thread : Int
  op : Int
  what : Int
  act : Int
  key : Int
  value : Int
  hit : Bool
  err : Int
  call : Int
  deriving DecidableEq
def Opn.enc (a : Opn) : List AV := [.int .i64 a.thread, .int .i64 a.op, .int .i64 a.what, .int .i64 a.act, .int .i64 a.key, .int .i64 a.value, .bool a.hit, .int .i64 a.err, .int .i64 a.call]
def Opn.dec : List AV → Option Opn
  | [x0, x1, x2, x3, x4, x5, x6, x7, x8] => (decI x0).bind fun n0 => (decI x1).bind fun n1 => (decI x2).bind fun n2 => (decI x3).bind fun n3 => (decI x4).bind fun n4 => (decI x5).bind fun n5 => (decB x6).bind fun n6 => (decI x7).bind fun n7 => (decI x8).bind fun n8 => some (⟨n0, n1, n2, n3, n4, n5, n6, n7, n8⟩ : Opn)
  | _ => none
theorem Opn.back (cs : List AV) (a : Opn) (h : Opn.dec cs = some a) (r : Nm) (vs : List Value) (hr : relL r cs vs) : relL r (Opn.enc a) vs := by
  unfold Opn.dec at h
  split at h
  · simp only [relL] at hr
    obtain ⟨v0, u0, rfl, h0, ⟨v1, u1, rfl, h1, ⟨v2, u2, rfl, h2, ⟨v3, u3, rfl, h3, ⟨v4, u4, rfl, h4, ⟨v5, u5, rfl, h5, ⟨v6, u6, rfl, h6, ⟨v7, u7, rfl, h7, ⟨v8, u8, rfl, h8, rfl⟩⟩⟩⟩⟩⟩⟩⟩⟩ := hr
    obtain ⟨n0, e0, h⟩ := Option.bind_eq_some_iff.1 h
    obtain ⟨n1, e1, h⟩ := Option.bind_eq_some_iff.1 h
    obtain ⟨n2, e2, h⟩ := Option.bind_eq_some_iff.1 h
    obtain ⟨n3, e3, h⟩ := Option.bind_eq_some_iff.1 h
    obtain ⟨n4, e4, h⟩ := Option.bind_eq_some_iff.1 h
    obtain ⟨n5, e5, h⟩ := Option.bind_eq_some_iff.1 h
    obtain ⟨n6, e6, h⟩ := Option.bind_eq_some_iff.1 h
    obtain ⟨n7, e7, h⟩ := Option.bind_eq_some_iff.1 h
    obtain ⟨n8, e8, h⟩ := Option.bind_eq_some_iff.1 h
    cases h
    simp only [Opn.enc]
    exact relL_cons.2 ⟨decI_ok e0 h0, relL_cons.2 ⟨decI_ok e1 h1, relL_cons.2 ⟨decI_ok e2 h2, relL_cons.2 ⟨decI_ok e3 h3, relL_cons.2 ⟨decI_ok e4 h4, relL_cons.2 ⟨decI_ok e5 h5, relL_cons.2 ⟨decB_ok e6 h6, relL_cons.2 ⟨decI_ok e7 h7, relL_cons.2 ⟨decI_ok e8 h8, relL_nil⟩⟩⟩⟩⟩⟩⟩⟩⟩
  · cases h
def Opn.lay : Enc Opn := ⟨9, true, Opn.enc, Opn.dec, ⟨0, 0, 0, 0, 0, 0, false, 0, 0⟩, fun _ => rfl, Opn.back, fun a r vs h => relL_one (xs := Opn.enc a) rfl h, by decide⟩
end Sx
end Go.Proofs.Ytemcdjdglcceiaa
