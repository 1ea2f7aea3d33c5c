/-
  The keys of a map, sorted: what the library's functions do, told for all callers.
-/
import Derived.Test.YthabfkcmhffjoaaSpecOneAllP5
import Derived.Maps.Own
import Derived.Shelf.SlIterI.Nil
namespace Go.Proofs.Ythabfkcmhffjoaa
open Go.RowKit Go.Maps Go.Sort Go.Shelf
namespace Sx
open Go
open Go.WideElems (rd rg rg_of rd_mk)
set_option linter.unusedSimpArgs false
set_option linter.unusedVariables false

def inR (n : Int) : Prop := (Lit.int .i64 n).wf = true
instance (n : Int) : Decidable (inR n) := by unfold inR; infer_instance
def sortK (m : Mp) : List Int := (m.map (·.1)).mergeSort leI
def sortedOf (h : Heap V) (nx : Nat) (K : AV → Heap V → Nat → List Nat → Out V) : Option (Blk V) → Option (Blk V) → Out V
  | some (.mp .i64 .int m), none => .need (m.length ≤ 1099511627776 ∧ ∀ p ∈ m, inR p.1) (.all Nat fun sp => K (.sl false nx 0 1 (sortK m).length ((sortK m).length + sp)) ((nx, .arr 3 .int (sortK m) sp) :: h) (nx + 1) [])
  | _, _ => .bad 481
def hookSorted : HookS V := fun args h nx K =>
  match args with
  | [.fn f [] [.ptr c off]] => bif Nat.beq f 36 && Nat.beq off 0 then (match h.get c with
    | some (.cells _ [.mp id]) => sortedOf h nx K (h.get id) (h.get nx)
    | _ => .bad 482) else .bad 483
  | _ => .bad 480

/-! ## as the library speaks of it -/
def anyR : Value → Option (DataW Unit × List MemPlace) := fun _ => some (.lit (.bool true), [])
theorem keysOf_map : ∀ {r : Nm} {m : Mp} {es : List MapEntry}, relM (V.enc Kd.int) .i64 r m es → (∀ p ∈ m, inR p.1) → es.map (fun e => Go.intOf (rg Try.prog 3 anyR e).1) = m.map (·.1) ∧ ∀ x ∈ es, ∃ y, rd Try.prog 3 anyR x = some y
  | r, [], es, h, _ => by simp only [relM] at h; subst h; exact ⟨rfl, fun x hx => by cases hx⟩
  | r, (n, v) :: m, es, h, hw => by
    simp only [relM] at h
    obtain ⟨e, fs, rfl, hk, _, hr⟩ := h
    obtain ⟨i1, i2⟩ := keysOf_map hr fun p hp => hw p (List.mem_cons_of_mem _ hp)
    have hn : inR n := hw (n, v) (List.mem_cons_self ..)
    have hrd : rd Try.prog 3 anyR e = some (.int .i64 n, .lit (.bool true)) := by
      obtain ⟨key, val, born⟩ := e
      simp only at hk; subst hk
      exact rd_mk (R := anyR) (yv := (.lit (.bool true), [])) (keyOf_int_mk Try.underlying3 hn) rfl
    refine ⟨?_, fun x hx => ?_⟩
    · rw [List.map_cons, List.map_cons, i1, rg_of hrd]; rfl
    · rcases List.mem_cons.1 hx with rfl | hx
      · exact ⟨_, hrd⟩
      · exact i2 x hx
theorem relM_len {r : Nm} : ∀ {m : Mp} {es : List MapEntry}, relM (V.enc Kd.int) .i64 r m es → es.length = m.length
  | [], es, h => by simp only [relM] at h; subst h; rfl
  | (n, v) :: m, es, h => by
    simp only [relM] at h
    obtain ⟨e, fs, rfl, _, _, hr⟩ := h
    simp [relM_len hr]
theorem owns_of {w : World} {r : Nm} {b : Nat} {m : Mp} {es : Array MapEntry} {clock : Nat} (hw : w.heap[b]? = some (.map es clock)) (hm : relM (V.enc Kd.int) .i64 r m es.toList) (hs : MapKept.Stamped es clock) (hl : m.length ≤ 1099511627776) (hin : ∀ p ∈ m, inR p.1) :
    ∃ D0 : DataW Unit, w.ownsMap Try.prog 3 anyR b m.length D0 ∧ Maps.size D0 = m.length ∧ (intKeys D0).Perm (m.map (·.1)) := by
  have hlen : es.size = m.length := by have := relM_len hm; simpa using this
  obtain ⟨k1, k2⟩ := keysOf_map hm hin
  refine ⟨.map ((es.toList.map (rg Try.prog 3 anyR)).foldr DataW.insert []), ⟨es, clock, hw, ⟨by rw [hlen]; exact Nat.le_trans hl (by decide), hs, k2⟩, by omega, rfl⟩, ?_, ?_⟩
  · show List.length _ = _
    rw [WideShapes.sorted_perm _ |>.length_eq, List.length_map]; simpa using hlen
  · show (List.map (fun p : Lit × DataW Unit => Go.intOf p.1) _).Perm _
    rw [← k1]
    refine ((WideShapes.sorted_perm _).map _).trans ?_
    rw [List.map_map]
    exact List.Perm.refl _

theorem hSorted : HookOk Try.prog 32 hookSorted := by
  intro M args h nx K H
  unfold hookSorted at H
  split at H
  · rename_i f c off
    rw [holds_bif] at H
    split at H
    · rename_i hf
      simp only [Bool.and_eq_true] at hf
      obtain ⟨hf1, hf2⟩ := hf
      have hf1 := Nat.eq_of_beq_eq_true hf1
      have hf2 := Nat.eq_of_beq_eq_true hf2
      subst hf1; subst hf2
      split at H
      · rename_i T id hc
        unfold sortedOf at H
        split at H
        · rename_i m hid hnx
          obtain ⟨⟨hlen, hin⟩, H⟩ := H
          refine ⟨⟨Try.f32, by kernel_rfl, by kernel_rfl, by kernel_rfl⟩, fun β r vs w hr hs hfresh => ?_⟩
          simp only [relL, rel] at hr
          obtain ⟨v0, us, rfl, ⟨u1, u2, rfl, ⟨v1, u3, rfl, ⟨x, hx, rfl⟩, rfl⟩, rfl⟩, rfl⟩ := hr
          obtain ⟨H1, ⟨b, cv, hb, hcv, rfl⟩, hw1, _⟩ := hs.at hc
          obtain ⟨H2, ⟨bm, es, clock, hbm, hrm, hst, rfl⟩, hw2, _⟩ := hs.at hid
          simp only [relL, rel] at hcv
          obtain ⟨v2, u4, rfl, ⟨y, hy, rfl⟩, rfl⟩ := hcv
          rw [hx] at hb; cases hb
          rw [hy] at hbm; cases hbm
          have hc1 := Hp.inW_one.1 hw1
          have hm1 := Hp.inW_one.1 hw2
          obtain ⟨D0, hown, hsz, hper⟩ := owns_of hm1 hrm hst hlen hin
          have hblt : b < w.heap.size := (Array.getElem?_eq_some_iff.1 hc1).1
          have hcell : w.cell? ⟨b, 0, none⟩ = some (.map (some bm)) := by
            unfold World.cell?; rw [hc1]; rfl
          have hseq : SeqGives Fence.wide 2 Try.prog 36 #[.pointer (some ⟨b, 0, none⟩)] encZ (fun ss => ss.Perm (intKeys D0)) (Maps.size D0) w :=
            AnyZI.keys_gives (ρ := Try.keysL_ren) { Try.keysL with } Fence.wide _ trivial rfl (by omega) b bm m.length D0 w hblt hcell hown
          have hS := AnyZI.sorted_in Try.sortedL Fence.wide 5 trivial trivial trivial trivial rfl (by omega) (Try.sortsL _) (enters_of Try.func35 (by kernel_rfl) rfl) 36 #[.pointer (some ⟨b, 0, none⟩)] trivial (enters_of Try.func36 (by kernel_rfl) rfl) _ _ (by rw [hsz]; exact Nat.le_trans hlen (by decide)) (by rw [hsz]; omega) w hseq
          refine (callsIn_wide.1 hS).mono fun e w' hh => ?_
          obtain ⟨v, ss, rfl, hss, hrow, hnil, hbel⟩ := hh
          have hsort : ss.mergeSort leI = sortK m := mergeSort_of_perm_i (hss.trans hper)
          have hslen : (sortK m).length = ss.length := by rw [← hsort, List.length_mergeSort]
          obtain ⟨hmet, A, hd, hap, hinA⟩ := hs
          have keepA : A.inW w' := Hp.inW_of hinA fun q hq => hbel.block q (by
            cases hA : A q with
            | none => exact absurd hA hq
            | some o => exact Hp.lt hinA hA)
          have keepG : β.G.inW w' := Hp.inW_of hmet.G fun q hq => hbel.block q (by
            cases hA : β.G q with
            | none => exact absurd hA hq
            | some o => exact Hp.lt hmet.G hA)
          have hmet' : β.met w' := ⟨hbel.os.trans hmet.os, hbel.output.trans hmet.output, hbel.tape.trans hmet.tape, keepG⟩
          rcases hrow.2 with ⟨rfl, hz⟩ | ⟨g, cap, cur, rfl, hg, hcur, g1, g2, g3, g4⟩
          · have hss0 : ss = [] := List.eq_nil_of_length_eq_zero hz
            have hs0 : (sortK m).length = 0 := by rw [hslen, hz]
            refine ⟨_, _, _, _, _, r, rfl, H 0, Nm.le.refl r, fun i hi => hfresh i (by omega), ⟨none, by rw [hs0], Nat.le_add_right _ _, .inl (by rw [hs0])⟩, ⟨hmet', A, ⟨Hp.nil, A, .inl ⟨by rw [hs0], rfl⟩, hd, Hp.nil_apart _, by rw [Hp.nil_join]⟩, hap, keepA⟩, ?_⟩
            refine Kept.of fun id2 B2 e2 _ => ?_
            rw [Heap.get_cons_ne (fun hh => by subst hh; rw [hnx] at e2; cases e2)]; exact e2
          · have hnew : ∀ q o, q = g → A q = some o → False := fun q o hq hA => by have := Hp.lt hinA hA; omega
            have hnewG : ∀ q o, q = g → β.G q = some o → False := fun q o hq hA => by have := Hp.lt hmet.G hA; omega
            have aA : A g = none := by
              cases hA : A g with
              | none => rfl
              | some o => exact (hnew g o rfl hA).elim
            have aG : β.G g = none := by
              cases hA : β.G g with
              | none => rfl
              | some o => exact (hnewG g o rfl hA).elim
            have hle : r.le (r.put nx (g, 0)) := Nm.le_put (hfresh nx (Nat.le_refl _))
            have hcs : (sortK m).length + (cap - (sortK m).length) = cap := by omega
            refine ⟨_, _, _, _, _, r.put nx (g, 0), rfl, H (cap - (sortK m).length), hle, fun i hi => ?_, ⟨some ⟨g, 0, none⟩, by rw [hcs, hslen], by omega, .inr ⟨(g, 0), Nm.put_self .., rfl⟩⟩, ⟨hmet', (Hp.one g (.cells cur 3 (0, 0))).join A, ⟨_, A, .inr ⟨g, cur, Nm.put_self .., ?_, ?_, ?_, rfl⟩, Heap.den_mono hle hd, Hp.one_apart.2 aA, rfl⟩, Hp.join_apart.2 ⟨Hp.one_apart.2 aG, hap⟩, (Hp.inW_join (Hp.one_apart.2 aA)).2 ⟨Hp.inW_one.2 hcur, keepA⟩⟩, ?_⟩
            · show (if i = nx then _ else r i) = none
              rw [if_neg (by omega)]; exact hfresh i (by omega)
            · intro i z hz
              have hz' : (ss.mergeSort leI)[i]? = some z := by rw [hsort]; exact hz
              have e1 : (cur.toList.take (ss.length * 1))[i]? = some (encZ z) := by
                rw [g4, List.getElem?_map, show (ss.mergeSort fun x y => decide (x ≤ y))[i]? = some z from hz']; rfl
              rw [List.getElem?_take] at e1
              split at e1
              · have hi := (List.getElem?_eq_some_iff.1 e1).1
                have h3 : (cur.toList.drop (0 + i * 1)).take 1 = [encZ z] := by
                  rw [Nat.zero_add, Nat.mul_one, List.drop_eq_getElem_cons hi, (List.getElem?_eq_some_iff.1 e1).2]; rfl
                show relL _ [.int .i64 z] ((cur.toList.drop (0 + i * 1)).take 1)
                rw [h3]
                exact relL_cons.2 ⟨rfl, relL_nil⟩
              · cases e1
            · rw [hcs]; exact g3
            · rw [hcs]; exact g2
            · refine Kept.of fun id2 B2 e2 _ => ?_
              rw [Heap.get_cons_ne (fun hh => by subst hh; rw [hnx] at e2; cases e2)]; exact e2
        · exact H.elim
      · exact H.elim
    · exact H.elim
  · exact H.elim

end Sx
end Go.Proofs.Ythabfkcmhffjoaa

/-
  Rows of what is held: the runs of the machine.
-/
namespace Go.Proofs.Ythabfkcmhffjoaa
namespace Sx
open Go
set_option maxRecDepth 100000
set_option linter.unusedVariables false

def hooksR0 : Nat → Option (HookS V) := fun g => match g with
  | 32 => some hookSorted
  | _ => none
noncomputable def fnsR0 : Nat → Option Func := fun g => match g with | 33 => some Try.f33 | _ => none
noncomputable def cfgR0 : Cfg Try.prog V := ⟨tab, kinds, fnsR0, hooksR0, fun _ _ => none⟩
noncomputable def cfgN0 : Cfg Try.prog V := ⟨tab, kinds, fun _ => none, fun _ => none, fun _ _ => none⟩
def rowAt_ (m : Mp) (k : Int) : Pr := ⟨k, (mget m k).getD 0⟩
def rowsTo (m : Mp) (n : Nat) : List Pr := ((sortK m).take n).map (rowAt_ m)
def rowsOf (m : Mp) : List Pr := (sortK m).map (rowAt_ m)
structure QRW where
  m : Mp
  sk : Nat
  hl : m.length ≤ 1099511627776
def QI7 (p : QRW) (x : Nat × Nat) : St V := ⟨[(0, .mp 0), (3, .sl false 3 0 2 (rowsTo p.m x.1).length ((rowsTo p.m x.1).length + x.2)), (8, .sl false 2 0 1 (sortK p.m).length ((sortK p.m).length + p.sk)), (9, .int .i64 ((sortK p.m).length : Int)), (10, .int .i64 (x.1 : Int))], [(3, .arr 27 Kd.pr (rowsTo p.m x.1) x.2), (2, .arr 3 Kd.int (sortK p.m) p.sk), (0, .mp .i64 Kd.int p.m)], 4, 24, TQ⟩
def QL7 : LoopS V := trimLoop (trimSt [0, 3, 8, 9, 10] [0, 2]) (loopH 3 (fun p : QRW => QI7 p (0, 0)) (fun _ (_ : Nat) => True) (fun p s => QI7 p ((sortK p.m).length, s)))
noncomputable def cfgR1 : Cfg Try.prog V := ⟨tab, kinds, fnsR0, hooksR0, fun f id => match f, id with | 25, 0 => some QL7 | _, _ => none⟩
def putAll (l : List Pr) (n : Nat) : Mp := (l.take n).foldl (fun m p => mput m p.k p.v) []
structure QPP where
  l : List Pr
  c : Nat
  hb : l.length ≤ 1099511627776
def QI8 (p : QPP) (i : Nat) : St V := ⟨[(3, .mp 1), (7, .sl false 0 0 2 p.l.length p.c), (8, .int .i64 (p.l.length : Int)), (9, .int .i64 (i : Int))], [(1, .mp .i64 Kd.int (putAll p.l i)), (0, .ro Kd.pr p.l)], 2, 20, TQ⟩
def QL8 : LoopS V := trimLoop (trimSt [3, 7, 8, 9] [0, 1]) (loopH 2 (fun p : QPP => QI8 p 0) (fun _ (_ : Unit) => True) (fun p _ => QI8 p p.l.length))
noncomputable def cfgR2 : Cfg Try.prog V := ⟨tab, kinds, fun _ => none, fun _ => none, fun f id => match f, id with | 27, 0 => some QL8 | _, _ => none⟩

structure QXpr where
  xs : List (V.El Kd.pr)
  c : Nat
  ys : List (V.El Kd.pr)
  d : Nat
  hl : xs.length = ys.length
  hb : xs.length ≤ 1099511627776
def QI11 (p : QXpr) (i : Nat) : St V := ⟨[(0, .sl false 0 0 2 p.xs.length p.c), (1, .sl false 1 0 2 p.ys.length p.d), (5, .int .i64 (i : Int))], [(0, .ro Kd.pr p.xs), (1, .ro Kd.pr p.ys)], 2, 26, TQ⟩
def QR11 (p : QXpr) : St V := ⟨[(4, .ff)], [(0, .ro Kd.pr p.xs), (1, .ro Kd.pr p.ys)], 2, 26, TQ⟩
def QL11 : LoopS V := trimLoop (trimSt [0, 1, 5] [0, 1]) (loopG 2 (fun p : QXpr => QI11 p 0) (fun p (_ : Unit) => p.xs = p.ys) (fun p _ => QI11 p p.xs.length) (fun p (_ : Unit) => p.xs ≠ p.ys) (fun p _ => QR11 p))
noncomputable def cfgX11 : Cfg Try.prog V := ⟨tab, kinds, fun _ => none, fun _ => none, fun f id => match f, id with | 11, 0 => some QL11 | _, _ => none⟩

structure QXcom where
  xs : List (V.El Kd.com)
  c : Nat
  ys : List (V.El Kd.com)
  d : Nat
  hl : xs.length = ys.length
  hb : xs.length ≤ 1099511627776
def QI20 (p : QXcom) (i : Nat) : St V := ⟨[(0, .sl false 0 0 4 p.xs.length p.c), (1, .sl false 1 0 4 p.ys.length p.d), (5, .int .i64 (i : Int))], [(0, .ro Kd.com p.xs), (1, .ro Kd.com p.ys)], 2, 26, TQ⟩
def QR20 (p : QXcom) : St V := ⟨[(4, .ff)], [(0, .ro Kd.com p.xs), (1, .ro Kd.com p.ys)], 2, 26, TQ⟩
def QL20 : LoopS V := trimLoop (trimSt [0, 1, 5] [0, 1]) (loopG 2 (fun p : QXcom => QI20 p 0) (fun p (_ : Unit) => p.xs = p.ys) (fun p _ => QI20 p p.xs.length) (fun p (_ : Unit) => p.xs ≠ p.ys) (fun p _ => QR20 p))
noncomputable def cfgX20 : Cfg Try.prog V := ⟨tab, kinds, fun _ => none, fun _ => none, fun f id => match f, id with | 20, 0 => some QL20 | _, _ => none⟩

structure QXint where
  xs : List (V.El Kd.int)
  c : Nat
  ys : List (V.El Kd.int)
  d : Nat
  hl : xs.length = ys.length
  hb : xs.length ≤ 1099511627776
def QI17 (p : QXint) (i : Nat) : St V := ⟨[(0, .sl false 0 0 1 p.xs.length p.c), (1, .sl false 1 0 1 p.ys.length p.d), (5, .int .i64 (i : Int))], [(0, .ro Kd.int p.xs), (1, .ro Kd.int p.ys)], 2, 26, TQ⟩
def QR17 (p : QXint) : St V := ⟨[(4, .ff)], [(0, .ro Kd.int p.xs), (1, .ro Kd.int p.ys)], 2, 26, TQ⟩
def QL17 : LoopS V := trimLoop (trimSt [0, 1, 5] [0, 1]) (loopG 2 (fun p : QXint => QI17 p 0) (fun p (_ : Unit) => p.xs = p.ys) (fun p _ => QI17 p p.xs.length) (fun p (_ : Unit) => p.xs ≠ p.ys) (fun p _ => QR17 p))
noncomputable def cfgX17 : Cfg Try.prog V := ⟨tab, kinds, fun _ => none, fun _ => none, fun f id => match f, id with | 17, 0 => some QL17 | _, _ => none⟩
theorem qb7 (p : QRW) (x : Nat × Nat) : runCode cfgR0 60 25 (loopOf Try.f25 0) (QI7 p x) (stopT (trimSt [0, 3, 8, 9, 10] [0, 1, 2, 3, 4, 5, 6, 7, 8])) = Out.ite (decide ((↑x.1 : Int) < (↑(sortK p.m).length : Int))) (Out.need (0 ≤ (↑x.1 : Int) ∧ (↑x.1 : Int) < (↑(sortK p.m).length : Int)) (Out.need (0 + x.1 < (sortK p.m).length) (Out.need (0 = 0 ∧ (rowsTo p.m x.1).length = (rowsTo p.m x.1).length ∧ (rowsTo p.m x.1).length + x.2 = (rowsTo p.m x.1).length + x.2 ∧ ((rowsTo p.m x.1).length + 1) * 16 ≤ 140737488355328) (Out.all Nat fun y => Out.stop EX.nx {env := [(0, .mp 0), (3, .sl false 5 0 2 ((rowsTo p.m x.1).length + 1) ((rowsTo p.m x.1).length + 1 + y)), (8, .sl false 2 0 1 (sortK p.m).length ((sortK p.m).length + p.2)), (9, .int .i64 (↑(sortK p.m).length : Int)), (10, .int .i64 (IntKind.i64.wrap ((↑x.1 : Int) + 1)))], heap := [(5, .arr 27 Kd.pr (rowsTo p.m x.1 ++ [{k := (sortK p.m).getD (0 + x.1) (V.enc Kd.int).dflt, v := (mget p.m ((sortK p.m).getD (0 + x.1) (V.enc Kd.int).dflt)).getD (V.enc Kd.int).dflt : Pr }]) y), (4, .cells 27 [.int .i64 ((sortK p.m).getD (0 + x.1) (V.enc Kd.int).dflt), .int .i64 ((mget p.m ((sortK p.m).getD (0 + x.1) (V.enc Kd.int).dflt)).getD (V.enc Kd.int).dflt)]), (2, .arr 3 Kd.int (sortK p.m) p.2), (0, .mp .i64 Kd.int p.m)], nx := 6, nt := 24, tl := [3, 0, 1, 2, 3, 4, 5, 6, 7, 8, 9, 10, 11, 12, 13, 14, 15, 16] : St V })))) (Out.stop (EX.ex 0) {env := [(0, .mp 0), (3, .sl false 3 0 2 (rowsTo p.m x.1).length ((rowsTo p.m x.1).length + x.2)), (8, .sl false 2 0 1 (sortK p.m).length ((sortK p.m).length + p.2)), (9, .int .i64 (↑(sortK p.m).length : Int)), (10, .int .i64 (↑x.1 : Int))], heap := [(3, .arr 27 Kd.pr (rowsTo p.m x.1) x.2), (2, .arr 3 Kd.int (sortK p.m) p.2), (0, .mp .i64 Kd.int p.m)], nx := 4, nt := 24, tl := [0, 1, 2, 3, 4, 5, 6, 7, 8, 9, 10, 11, 12, 13, 14, 15, 16] : St V }) := by kernel_rfl

theorem qt25 (m : Mp) : runF cfgR1 60 25 Try.f25 [.mp 0] [(0, .mp .i64 Kd.int m)] 1 = Out.need (List.length m ≤ 1099511627776 ∧ ∀ (p : Int × V.El Kd.int), p ∈ m → inR p.fst) (Out.all Nat fun y => Out.need (LoopFor Try.prog 25 0 (loopOf Try.f25 0) QL7) (Out.ex (QRW → Prop) fun y_1 => Out.need (3 ≤ 3 ∧ SImp 3 {env := [(0, .mp 0), (3, .nilS), (8, .sl false 2 0 1 (sortK m).length ((sortK m).length + y)), (9, .int .i64 (↑(sortK m).length : Int)), (10, .lit .i64 0)], heap := [(2, .arr 3 Kd.int (sortK m) y), (0, .mp .i64 Kd.int m)], nx := 3, nt := 24, tl := [1] : St V } (fun p => QI7 p (0, 0)) y_1) (Out.all QRW fun y => Out.asm (y_1 y) (Out.all Nat fun y_2 => Out.asm ((fun x x_1 => True) y y_2) (Out.fin (.sl false 3 0 2 (rowsTo y.m ((sortK y.m).length, y_2).fst).length ((rowsTo y.m ((sortK y.m).length, y_2).fst).length + y_2)) [(3, .arr 27 Kd.pr (rowsTo y.m ((sortK y.m).length, y_2).fst) y_2), (2, .arr 3 Kd.int (sortK y.m) y.2), (0, .mp .i64 Kd.int y.m)] 4))))) := by kernel_rfl

theorem qb8 (p : QPP) (i : Nat) : runCode cfgN0 60 27 (loopOf Try.f27 0) (QI8 p i) (stopT (trimSt [3, 7, 8, 9] [0, 1])) = Out.ite (decide ((↑i : Int) < (↑p.l.length : Int))) (Out.need (0 ≤ (↑i : Int) ∧ (↑i : Int) < (↑p.l.length : Int)) (Out.need (0 + i < p.l.length) (Out.stop EX.nx {env := [(3, .mp 1), (7, .sl false 0 0 2 p.l.length p.2), (8, .int .i64 (↑p.l.length : Int)), (9, .int .i64 (IntKind.i64.wrap ((↑i : Int) + 1)))], heap := [(1, .mp .i64 Kd.int (mput (putAll p.l i) (p.l.getD (0 + i) (V.enc Kd.pr).dflt).k (p.l.getD (0 + i) (V.enc Kd.pr).dflt).v)), (0, .ro Kd.pr p.l)], nx := 5, nt := 20, tl := [2, 1, 2, 0, 1, 2, 3, 4, 5, 6, 7, 8, 9, 10, 11, 12, 13, 14, 15, 16] : St V }))) (Out.stop (EX.ex 0) {env := [(3, .mp 1), (7, .sl false 0 0 2 p.l.length p.2), (8, .int .i64 (↑p.l.length : Int)), (9, .int .i64 (↑i : Int))], heap := [(1, .mp .i64 Kd.int (putAll p.l i)), (0, .ro Kd.pr p.l)], nx := 2, nt := 20, tl := [0, 1, 2, 3, 4, 5, 6, 7, 8, 9, 10, 11, 12, 13, 14, 15, 16] : St V }) := by kernel_rfl

theorem qt27 (l : List Pr) (c : Nat) : runF cfgR2 60 27 Try.f27 [.sl false 0 0 2 l.length c] [(0, .ro Kd.pr l)] 1 = Out.need (LoopFor Try.prog 27 0 (loopOf Try.f27 0) QL8) (Out.ex (QPP → Prop) fun y => Out.need (2 ≤ 2 ∧ SImp 2 {env := [(3, .mp 1), (7, .sl false 0 0 2 l.length c), (8, .int .i64 (↑l.length : Int)), (9, .lit .i64 0)], heap := [(1, .mp .i64 Kd.int []), (0, .ro Kd.pr l)], nx := 2, nt := 20, tl := [] : St V } (fun p => QI8 p 0) y) (Out.all QPP fun y_1 => Out.asm (y y_1) (Out.all Unit fun y => Out.asm ((fun x x_1 => True) y_1 y) (Out.fin (.mp 1) [(1, .mp .i64 Kd.int (putAll y_1.l y_1.l.length)), (0, .ro Kd.pr y_1.l)] 2)))) := by kernel_rfl

theorem qb11 (p : QXpr) (i : Nat) : runCode cfgN0 60 11 (loopOf Try.f11 0) (QI11 p i) (stopT (trimSt [0, 1, 4, 5] [0, 1])) = Out.ite (decide ((↑i : Int) < (↑p.xs.length : Int))) (Out.need (0 ≤ (↑i : Int) ∧ (↑i : Int) < (↑p.xs.length : Int)) (Out.need (0 + i < p.xs.length) (Out.need (0 ≤ (↑i : Int) ∧ (↑i : Int) < (↑p.ys.length : Int)) (Out.need (0 + i < p.ys.length) (Out.ite (!((p.xs.getD (0 + i) (V.enc Kd.pr).dflt).k == (p.ys.getD (0 + i) (V.enc Kd.pr).dflt).k && ((p.xs.getD (0 + i) (V.enc Kd.pr).dflt).v == (p.ys.getD (0 + i) (V.enc Kd.pr).dflt).v && true))) (Out.stop EX.rt {env := [(0, .sl false 0 0 2 p.xs.length p.2), (1, .sl false 1 0 2 p.ys.length p.4), (4, .ff), (5, .int .i64 (↑i : Int))], heap := [(0, .ro Kd.pr p.xs), (1, .ro Kd.pr p.ys)], nx := 2, nt := 26, tl := [0, 1, 2, 3, 4, 5, 6, 7, 8, 9, 10, 11, 12, 13, 14, 15, 16] : St V }) (Out.stop EX.nx {env := [(0, .sl false 0 0 2 p.xs.length p.2), (1, .sl false 1 0 2 p.ys.length p.4), (4, .und), (5, .int .i64 (IntKind.i64.wrap ((↑i : Int) + 1)))], heap := [(0, .ro Kd.pr p.xs), (1, .ro Kd.pr p.ys)], nx := 2, nt := 26, tl := [0, 1, 2, 3, 4, 5, 6, 7, 8, 9, 10, 11, 12, 13, 14, 15, 16] : St V })))))) (Out.stop (EX.ex 0) {env := [(0, .sl false 0 0 2 p.xs.length p.2), (1, .sl false 1 0 2 p.ys.length p.4), (4, .und), (5, .int .i64 (↑i : Int))], heap := [(0, .ro Kd.pr p.xs), (1, .ro Kd.pr p.ys)], nx := 2, nt := 26, tl := [0, 1, 2, 3, 4, 5, 6, 7, 8, 9, 10, 11, 12, 13, 14, 15, 16] : St V }) := by kernel_rfl

theorem qx11 (a b : List (V.El Kd.pr)) (c d : Nat) : runF cfgX11 60 11 Try.f11 [.sl false 0 0 2 a.length c, .sl false 1 0 2 b.length d] [(0, .ro Kd.pr a), (1, .ro Kd.pr b)] 2 = Out.ite ((↑a.length : Int) != (↑b.length : Int)) (Out.fin .ff [(0, .ro Kd.pr a), (1, .ro Kd.pr b)] 2) (Out.need (LoopFor Try.prog 11 0 (loopOf Try.f11 0) QL11) (Out.ex (QXpr → Prop) fun y => Out.need (2 ≤ 2 ∧ SImp 2 {env := [(0, .sl false 0 0 2 a.length c), (1, .sl false 1 0 2 b.length d), (5, .lit .i64 0)], heap := [(0, .ro Kd.pr a), (1, .ro Kd.pr b)], nx := 2, nt := 26, tl := [] : St V } (fun p => QI11 p 0) y) (Out.all QXpr fun y_1 => Out.asm (y y_1) ((Out.all Unit fun y => Out.asm ((fun p x => p.xs = p.ys) y_1 y) (Out.fin .tt [(0, .ro Kd.pr y_1.xs), (1, .ro Kd.pr y_1.ys)] 2)).both (Out.all Unit fun y => Out.asm ((fun p x => p.xs ≠ p.ys) y_1 y) (Out.fin .ff [(0, .ro Kd.pr y_1.xs), (1, .ro Kd.pr y_1.ys)] 2)))))) := by kernel_rfl

theorem qb20 (p : QXcom) (i : Nat) : runCode cfgN0 60 20 (loopOf Try.f20 0) (QI20 p i) (stopT (trimSt [0, 1, 4, 5] [0, 1])) = Out.ite (decide ((↑i : Int) < (↑p.xs.length : Int))) (Out.need (0 ≤ (↑i : Int) ∧ (↑i : Int) < (↑p.xs.length : Int)) (Out.need (0 + i < p.xs.length) (Out.need (0 ≤ (↑i : Int) ∧ (↑i : Int) < (↑p.ys.length : Int)) (Out.need (0 + i < p.ys.length) (Out.ite (!((p.xs.getD (0 + i) (V.enc Kd.com).dflt).act == (p.ys.getD (0 + i) (V.enc Kd.com).dflt).act && ((p.xs.getD (0 + i) (V.enc Kd.com).dflt).key == (p.ys.getD (0 + i) (V.enc Kd.com).dflt).key && ((p.xs.getD (0 + i) (V.enc Kd.com).dflt).value == (p.ys.getD (0 + i) (V.enc Kd.com).dflt).value && ((p.xs.getD (0 + i) (V.enc Kd.com).dflt).hit == (p.ys.getD (0 + i) (V.enc Kd.com).dflt).hit && true))))) (Out.stop EX.rt {env := [(0, .sl false 0 0 4 p.xs.length p.2), (1, .sl false 1 0 4 p.ys.length p.4), (4, .ff), (5, .int .i64 (↑i : Int))], heap := [(0, .ro Kd.com p.xs), (1, .ro Kd.com p.ys)], nx := 2, nt := 26, tl := [0, 1, 2, 3, 4, 5, 6, 7, 8, 9, 10, 11, 12, 13, 14, 15, 16] : St V }) (Out.stop EX.nx {env := [(0, .sl false 0 0 4 p.xs.length p.2), (1, .sl false 1 0 4 p.ys.length p.4), (4, .und), (5, .int .i64 (IntKind.i64.wrap ((↑i : Int) + 1)))], heap := [(0, .ro Kd.com p.xs), (1, .ro Kd.com p.ys)], nx := 2, nt := 26, tl := [0, 1, 2, 3, 4, 5, 6, 7, 8, 9, 10, 11, 12, 13, 14, 15, 16] : St V })))))) (Out.stop (EX.ex 0) {env := [(0, .sl false 0 0 4 p.xs.length p.2), (1, .sl false 1 0 4 p.ys.length p.4), (4, .und), (5, .int .i64 (↑i : Int))], heap := [(0, .ro Kd.com p.xs), (1, .ro Kd.com p.ys)], nx := 2, nt := 26, tl := [0, 1, 2, 3, 4, 5, 6, 7, 8, 9, 10, 11, 12, 13, 14, 15, 16] : St V }) := by kernel_rfl

theorem qx20 (a b : List (V.El Kd.com)) (c d : Nat) : runF cfgX20 60 20 Try.f20 [.sl false 0 0 4 a.length c, .sl false 1 0 4 b.length d] [(0, .ro Kd.com a), (1, .ro Kd.com b)] 2 = Out.ite ((↑a.length : Int) != (↑b.length : Int)) (Out.fin .ff [(0, .ro Kd.com a), (1, .ro Kd.com b)] 2) (Out.need (LoopFor Try.prog 20 0 (loopOf Try.f20 0) QL20) (Out.ex (QXcom → Prop) fun y => Out.need (2 ≤ 2 ∧ SImp 2 {env := [(0, .sl false 0 0 4 a.length c), (1, .sl false 1 0 4 b.length d), (5, .lit .i64 0)], heap := [(0, .ro Kd.com a), (1, .ro Kd.com b)], nx := 2, nt := 26, tl := [] : St V } (fun p => QI20 p 0) y) (Out.all QXcom fun y_1 => Out.asm (y y_1) ((Out.all Unit fun y => Out.asm ((fun p x => p.xs = p.ys) y_1 y) (Out.fin .tt [(0, .ro Kd.com y_1.xs), (1, .ro Kd.com y_1.ys)] 2)).both (Out.all Unit fun y => Out.asm ((fun p x => p.xs ≠ p.ys) y_1 y) (Out.fin .ff [(0, .ro Kd.com y_1.xs), (1, .ro Kd.com y_1.ys)] 2)))))) := by kernel_rfl

theorem qb17 (p : QXint) (i : Nat) : runCode cfgN0 60 17 (loopOf Try.f17 0) (QI17 p i) (stopT (trimSt [0, 1, 4, 5] [0, 1])) = Out.ite (decide ((↑i : Int) < (↑p.xs.length : Int))) (Out.need (0 ≤ (↑i : Int) ∧ (↑i : Int) < (↑p.xs.length : Int)) (Out.need (0 + i < p.xs.length) (Out.need (0 ≤ (↑i : Int) ∧ (↑i : Int) < (↑p.ys.length : Int)) (Out.need (0 + i < p.ys.length) (Out.ite (p.xs.getD (0 + i) (V.enc Kd.int).dflt != p.ys.getD (0 + i) (V.enc Kd.int).dflt) (Out.stop EX.rt {env := [(0, .sl false 0 0 1 p.xs.length p.2), (1, .sl false 1 0 1 p.ys.length p.4), (4, .ff), (5, .int .i64 (↑i : Int))], heap := [(0, .ro Kd.int p.xs), (1, .ro Kd.int p.ys)], nx := 2, nt := 26, tl := [0, 1, 2, 3, 4, 5, 6, 7, 8, 9, 10, 11, 12, 13, 14, 15, 16] : St V }) (Out.stop EX.nx {env := [(0, .sl false 0 0 1 p.xs.length p.2), (1, .sl false 1 0 1 p.ys.length p.4), (4, .und), (5, .int .i64 (IntKind.i64.wrap ((↑i : Int) + 1)))], heap := [(0, .ro Kd.int p.xs), (1, .ro Kd.int p.ys)], nx := 2, nt := 26, tl := [0, 1, 2, 3, 4, 5, 6, 7, 8, 9, 10, 11, 12, 13, 14, 15, 16] : St V })))))) (Out.stop (EX.ex 0) {env := [(0, .sl false 0 0 1 p.xs.length p.2), (1, .sl false 1 0 1 p.ys.length p.4), (4, .und), (5, .int .i64 (↑i : Int))], heap := [(0, .ro Kd.int p.xs), (1, .ro Kd.int p.ys)], nx := 2, nt := 26, tl := [0, 1, 2, 3, 4, 5, 6, 7, 8, 9, 10, 11, 12, 13, 14, 15, 16] : St V }) := by kernel_rfl

theorem qx17 (a b : List (V.El Kd.int)) (c d : Nat) : runF cfgX17 60 17 Try.f17 [.sl false 0 0 1 a.length c, .sl false 1 0 1 b.length d] [(0, .ro Kd.int a), (1, .ro Kd.int b)] 2 = Out.ite ((↑a.length : Int) != (↑b.length : Int)) (Out.fin .ff [(0, .ro Kd.int a), (1, .ro Kd.int b)] 2) (Out.need (LoopFor Try.prog 17 0 (loopOf Try.f17 0) QL17) (Out.ex (QXint → Prop) fun y => Out.need (2 ≤ 2 ∧ SImp 2 {env := [(0, .sl false 0 0 1 a.length c), (1, .sl false 1 0 1 b.length d), (5, .lit .i64 0)], heap := [(0, .ro Kd.int a), (1, .ro Kd.int b)], nx := 2, nt := 26, tl := [] : St V } (fun p => QI17 p 0) y) (Out.all QXint fun y_1 => Out.asm (y y_1) ((Out.all Unit fun y => Out.asm ((fun p x => p.xs = p.ys) y_1 y) (Out.fin .tt [(0, .ro Kd.int y_1.xs), (1, .ro Kd.int y_1.ys)] 2)).both (Out.all Unit fun y => Out.asm ((fun p x => p.xs ≠ p.ys) y_1 y) (Out.fin .ff [(0, .ro Kd.int y_1.xs), (1, .ro Kd.int y_1.ys)] 2)))))) := by kernel_rfl

end Sx
end Go.Proofs.Ythabfkcmhffjoaa

/-
  Rows of what is held, and rows compared: what the functions do.
-/
namespace Go.Proofs.Ythabfkcmhffjoaa
namespace Sx
open Go
set_option linter.unusedSimpArgs false
set_option linter.unusedVariables false

theorem hooksR0_ok : ∀ g H, hooksR0 g = some H → HookOk Try.prog g H := by
  intro g H h
  unfold hooksR0 at h
  split at h
  · cases h; exact hSorted
  · cases h
theorem fnsR0_ok : ∀ g fn, fnsR0 g = some fn → Try.prog.funcs[g]? = some fn ∧ (fn.name == "runtime.NumGoroutine") = false := by
  intro g fn h
  unfold fnsR0 at h
  split at h <;> cases h
  exact ⟨by kernel_rfl, by kernel_rfl⟩
theorem cfgR0_ok : cfgR0.ok := ⟨tab_met, kinds_met, mixed_met, fnsR0_ok, hooksR0_ok⟩
theorem cfgR1_ok : cfgR1.ok := ⟨tab_met, kinds_met, mixed_met, fnsR0_ok, hooksR0_ok⟩
theorem cfgN0_ok : cfgN0.ok := ⟨tab_met, kinds_met, mixed_met, fun g fn h => (by cases h), fun g H h => (by cases h)⟩
theorem cfgR2_ok : cfgR2.ok := ⟨tab_met, kinds_met, mixed_met, fun g fn h => (by cases h), fun g H h => (by cases h)⟩
theorem getD_at {α : Type} {l : List α} {i : Nat} (d : α) (h : i < l.length) : l.getD i d = l[i] := by rw [List.getD_eq_getElem?_getD, List.getElem?_eq_getElem h]; rfl

theorem sortK_len (m : Mp) : (sortK m).length = m.length := by unfold sortK; rw [List.length_mergeSort, List.length_map]
theorem rowsTo_succ {m : Mp} {n : Nat} (h : n < (sortK m).length) : rowsTo m (n + 1) = rowsTo m n ++ [rowAt_ m ((sortK m).getD n 0)] := by
  unfold rowsTo
  rw [List.take_succ_eq_append_getElem h, List.map_append, getD_at 0 h]; rfl
theorem rowsTo_le (m : Mp) (n : Nat) : (rowsTo m n).length ≤ (sortK m).length := by
  unfold rowsTo; rw [List.length_map, List.length_take]; omega
theorem rowsTo_all (m : Mp) : rowsTo m (sortK m).length = rowsOf m := by unfold rowsTo rowsOf; rw [List.take_length]

theorem qbody7 (p : QRW) (x : Nat × Nat) (hi : x.1 ≤ (sortK p.m).length) (Q : EX → St V → Prop) (F : AV → Heap V → Nat → Prop)
    (hnx : ∀ (ST : St V) (sp b : Nat), x.1 < (sortK p.m).length → Wk 3 [(3, b)] ST (QI7 p (x.1 + 1, sp)) → Q .nx ST) (hex : ∀ ST : St V, x.1 = (sortK p.m).length → Wk 3 [(3, 3)] ST (QI7 p x) → Q (.ex 0) ST) :
    (runCode cfgR0 60 25 (loopOf Try.f25 0) (QI7 p x) (stopT (trimSt [0, 3, 8, 9, 10] [0, 1, 2, 3, 4, 5, 6, 7, 8]))).holds ⟨Q, F⟩ := by
  rw [qb7]
  have hb := p.hl
  have hsl := sortK_len p.m
  have hle := rowsTo_le p.m x.1
  have hw : x.1 < (sortK p.m).length → IntKind.wrap .i64 ((x.1 : Int) + 1) = ((x.1 + 1 : Nat) : Int) := fun h => wrap_nat (by omega)
  have blk : ∀ {a b : List Pr} {s : Nat}, a = b → BSub (some (.arr 27 Kd.pr a s : Blk V)) (.arr 27 Kd.pr b s) := fun h => by rw [h]; exact .same _
  rw [show (0 + x.1) = x.1 from Nat.zero_add _]
  simp only [Out.holds, decide_eq_true_eq, decide_eq_false_iff_not, beq_iff_eq, beq_eq_false_iff_ne, bne_iff_ne, ne_eq, bne_eq_false_iff_eq, Bool.true_and, Bool.and_true, Bool.not_eq_true', Bool.not_eq_false', Bool.and_eq_true, Bool.or_eq_true, Bool.and_eq_false_imp, true_implies, true_and, Bool.not_true, Bool.not_false, Bool.false_eq_true, Bool.true_eq_false, false_implies, and_true, beq_self_eq_true, Decidable.not_not, not_true_eq_false, not_false_eq_true]
  by_cases hlt : x.1 < (sortK p.m).length
  · have e := rowsTo_succ hlt
    have el : (rowsTo p.m x.1).length + 1 = (rowsTo p.m (x.1 + 1)).length := by rw [e]; simp
    refine ⟨fun _ => ⟨by omega, hlt, by omega, fun y => hnx _ y 5 hlt ?_⟩, fun h => absurd hlt (by omega)⟩
    (refine ⟨?_, ?_, rfl, tl_ok rfl, ?_, ⟨Nat.le_of_ble_eq_true rfl, rfl⟩⟩ <;> (repeat' first | with_reducible exact trivial | (exact AV.sub_int (hw hlt)) | (exact AV.sub_sl el (by rw [el])) | (exact blk e.symm) | exact AV.sub_same _ | exact .same _ | exact .inr rfl | exact .inl (in_ok rfl) | exact AV.sub_lit' | exact AV.sub_nilS | exact .none _ _ | exact trivial | refine ⟨?_, ?_⟩))
  · exact ⟨fun h => absurd h (by omega), fun h => hex _ (by omega) (by (refine ⟨?_, ?_, rfl, tl_ok rfl, ?_, ⟨Nat.le_of_ble_eq_true rfl, rfl⟩⟩ <;> (repeat' first | with_reducible exact trivial | exact AV.sub_same _ | exact .same _ | exact .inr rfl | exact .inl (in_ok rfl) | exact AV.sub_lit' | exact AV.sub_nilS | exact .none _ _ | exact trivial | refine ⟨?_, ?_⟩)))⟩
theorem ql7_ok : LoopOk Try.prog 0 (loopOf Try.f25 0) QL7 := by
  refine trimLoop_ok (trim_ok _ _) (loopTH_ok (C := cfgR0) cfgR0_ok (f := 25) (n := 60) (trim_ok [0, 3, 8, 9, 10] [0, 1, 2, 3, 4, 5, 6, 7, 8]) 3 QI7 (fun p x => x.1 ≤ (sortK p.m).length) (fun _ => (0, 0)) (fun p x => (sortK p.m).length - x.1) (fun _ (_ : Nat) => True) (fun p sp => QI7 p ((sortK p.m).length, sp)) (fun p => Nat.zero_le _) ?_)
  intro p x hi
  refine qbody7 p x hi _ _ (fun ST sp b hlt hw => SImp.of_wk (x.1 + 1, sp) hw ⟨hlt, ?_⟩) (fun ST he hw => ⟨rfl, SImp.of_wk (ren := [(3, 3)]) x.2 ?_ trivial⟩)
  · show (sortK p.m).length - (x.1 + 1) < (sortK p.m).length - x.1; omega
  · obtain ⟨i, x⟩ := x; simp only at he; subst he; exact hw
def runRows : RunMp V := fun B ar K => match B, ar with
  | .mp .i64 .int m, [] => .need (m.length ≤ 1099511627776 ∧ ∀ p ∈ m, inR p.1) (.all Nat fun sp => K (.sl false 1 0 2 (rowsOf m).length ((rowsOf m).length + sp)) [.arr 27 Kd.pr (rowsOf m) sp])
  | _, _ => .bad 500
theorem hRows : HookOk Try.prog 25 (hookMp [] runRows) := by
  refine mp_hook (C := cfgR1) cfgR1_ok (n := 60) (fn := Try.f25) ⟨by kernel_rfl, by kernel_rfl⟩ (by kernel_rfl) ?_
  intro M B ar K0 H
  unfold runRows at H
  split at H
  · rename_i m
    obtain ⟨⟨hl, hin⟩, H⟩ := H
    refine ⟨⟨_, _, _, rfl⟩, show 1 ≤ _ by decide +kernel, ?_⟩
    show (runF cfgR1 60 25 Try.f25 [.mp 0] [(0, .mp .i64 Kd.int m)] 1).holds _
    rw [qt25]
    refine ⟨⟨hl, hin⟩, fun y => ⟨ql7_ok, fun p => p = ⟨m, y, hl⟩, ⟨Nat.le_refl _, SImp.of_wk (ren := [(3, 99)]) ⟨m, y, hl⟩ (by (refine ⟨?_, ?_, rfl, tl_ok rfl, ?_, ⟨Nat.le_of_ble_eq_true rfl, rfl⟩⟩ <;> (repeat' first | with_reducible exact trivial | exact AV.sub_same _ | exact .same _ | exact .inr rfl | exact .inl (in_ok rfl) | exact AV.sub_lit' | exact AV.sub_nilS | exact .none _ _ | exact trivial | refine ⟨?_, ?_⟩))) rfl⟩, ?_⟩⟩
    rintro _ rfl sp _
    have h0 := H sp
    dsimp only
    rw [rowsTo_all]
    exact ⟨_, _, h0, _, HImp.refl _ _, rfl, ⟨⟨fun _ => 3, ⟨.same _, trivial⟩, AV.sub_same _⟩, rfl, rfl⟩⟩
  · exact H.elim

theorem putAll_succ {l : List Pr} {i : Nat} (h : i < l.length) : putAll l (i + 1) = mput (putAll l i) (l.getD i pr0).k (l.getD i pr0).v := by
  unfold putAll
  rw [List.take_succ_eq_append_getElem h, List.foldl_append, getD_at pr0 h]; rfl
theorem qbody8 (p : QPP) (i : Nat) (hi : i ≤ p.l.length) (Q : EX → St V → Prop) (F : AV → Heap V → Nat → Prop)
    (hnx : ∀ ST : St V, i < p.l.length → Wk 2 [] ST (QI8 p (i + 1)) → Q .nx ST) (hex : ∀ ST : St V, i = p.l.length → Wk 2 [] ST (QI8 p i) → Q (.ex 0) ST) :
    (runCode cfgN0 60 27 (loopOf Try.f27 0) (QI8 p i) (stopT (trimSt [3, 7, 8, 9] [0, 1]))).holds ⟨Q, F⟩ := by
  rw [qb8]
  have hb := p.hb
  have hw : i < p.l.length → IntKind.wrap .i64 ((i : Int) + 1) = ((i + 1 : Nat) : Int) := fun h => wrap_nat (by omega)
  have em : ∀ {a b : Mp}, a = b → BSub (some (.mp .i64 Kd.int a : Blk V)) (.mp .i64 Kd.int b) := fun h => by rw [h]; exact .same _
  rw [show (0 + i) = i from Nat.zero_add _]
  simp only [Out.holds, decide_eq_true_eq, decide_eq_false_iff_not, beq_iff_eq, beq_eq_false_iff_ne, bne_iff_ne, ne_eq, bne_eq_false_iff_eq, Bool.true_and, Bool.and_true, Bool.not_eq_true', Bool.not_eq_false', Bool.and_eq_true, Bool.or_eq_true, Bool.and_eq_false_imp, true_implies, true_and, Bool.not_true, Bool.not_false, Bool.false_eq_true, Bool.true_eq_false, false_implies, and_true, beq_self_eq_true, Decidable.not_not, not_true_eq_false, not_false_eq_true]
  by_cases hlt : i < p.l.length
  · refine ⟨fun _ => ⟨by omega, hlt, hnx _ hlt ?_⟩, fun h => absurd hlt (by omega)⟩
    (refine ⟨?_, ?_, rfl, tl_ok rfl, ?_, ⟨Nat.le_of_ble_eq_true rfl, rfl⟩⟩ <;> (repeat' first | with_reducible exact trivial | (exact AV.sub_int (hw hlt)) | (exact em (putAll_succ hlt).symm) | exact AV.sub_same _ | exact .same _ | exact .inr rfl | exact .inl (in_ok rfl) | exact AV.sub_lit' | exact AV.sub_nilS | exact .none _ _ | exact trivial | refine ⟨?_, ?_⟩))
  · exact ⟨fun h => absurd h (by omega), fun h => hex _ (by omega) (by (refine ⟨?_, ?_, rfl, tl_ok rfl, ?_, ⟨Nat.le_of_ble_eq_true rfl, rfl⟩⟩ <;> (repeat' first | with_reducible exact trivial | exact AV.sub_same _ | exact .same _ | exact .inr rfl | exact .inl (in_ok rfl) | exact AV.sub_lit' | exact AV.sub_nilS | exact .none _ _ | exact trivial | refine ⟨?_, ?_⟩)))⟩
theorem ql8_ok : LoopOk Try.prog 0 (loopOf Try.f27 0) QL8 := by
  refine trimLoop_ok (trim_ok _ _) (loopTH_ok (C := cfgN0) cfgN0_ok (f := 27) (n := 60) (trim_ok [3, 7, 8, 9] [0, 1]) 2 QI8 (fun p i => i ≤ p.l.length) (fun _ => 0) (fun p i => p.l.length - i) (fun _ (_ : Unit) => True) (fun p _ => QI8 p p.l.length) (fun p => Nat.zero_le _) ?_)
  intro p i hi
  exact qbody8 p i hi _ _ (fun ST hlt hw => SImp.of_wk (i + 1) hw ⟨hlt, by omega⟩) (fun ST he hw => ⟨rfl, SImp.of_wk (ren := []) () (by subst he; exact hw) trivial⟩)
def mapOfRows (l : List Pr) : Mp := putAll l l.length
def runOf : RunFree V := fun ar K => match ar with
  | [.rows .pr l c] => .need (l.length ≤ 1099511627776) (K (.mp 0) [.mp .i64 Kd.int (mapOfRows l)])
  | _ => .bad 500
theorem hOf : HookOk Try.prog 27 (hookFree [.rows Kd.pr] runOf) := by
  refine free_hook (C := cfgR2) cfgR2_ok (n := 60) (fn := Try.f27) ⟨by kernel_rfl, by kernel_rfl⟩ (by kernel_rfl) ?_
  intro M ar K0 H
  unfold runOf at H
  split at H
  · rename_i l c
    obtain ⟨hb, H⟩ := H
    refine ⟨show 1 ≤ _ by decide +kernel, ?_⟩
    show (runF cfgR2 60 27 Try.f27 [.sl false 0 0 2 l.length c] [(0, .ro Kd.pr l)] 1).holds _
    rw [qt27]
    refine ⟨ql8_ok, fun p => p = ⟨l, c, hb⟩, ⟨Nat.le_refl _, SImp.of_wk (ren := []) ⟨l, c, hb⟩ (by (refine ⟨?_, ?_, rfl, tl_ok rfl, ?_, ⟨Nat.le_of_ble_eq_true rfl, rfl⟩⟩ <;> (repeat' first | with_reducible exact trivial | exact AV.sub_same _ | exact .same _ | exact .inr rfl | exact .inl (in_ok rfl) | exact AV.sub_lit' | exact AV.sub_nilS | exact .none _ _ | exact trivial | refine ⟨?_, ?_⟩))) rfl⟩, ?_⟩
    rintro _ rfl _ _
    exact ⟨_, _, H, _, HImp.refl _ _, ⟨⟨fun _ => 1, ⟨.same _, trivial⟩, AV.sub_same _⟩, rfl, rfl⟩⟩
  · exact H.elim

/-! ## rows compared -/
theorem take_nextQ {α : Type} {a b : List α} {d : α} {i : Nat} (ha : i < a.length) (hb : i < b.length) (h : a.take i = b.take i) (e : a.getD i d = b.getD i d) : a.take (i + 1) = b.take (i + 1) := by
  rw [List.take_succ_eq_append_getElem ha, List.take_succ_eq_append_getElem hb, h]
  rw [getD_at d ha, getD_at d hb] at e
  rw [e]
theorem pr_extQ {a b : Pr} (h : a.k = b.k ∧ a.v = b.v) : a = b := by obtain ⟨_, _⟩ := a; obtain ⟨_, _⟩ := b; obtain ⟨h1, h2⟩ := h; simp only at h1 h2; subst h1; subst h2; rfl
theorem com_extQ {a b : Com} (h : a.act = b.act ∧ a.key = b.key ∧ a.value = b.value ∧ a.hit = b.hit) : a = b := by obtain ⟨_, _, _, _⟩ := a; obtain ⟨_, _, _, _⟩ := b; obtain ⟨h1, h2, h3, h4⟩ := h; simp only at h1 h2 h3 h4; subst h1; subst h2; subst h3; subst h4; rfl

theorem cfgX11_ok : cfgX11.ok := ⟨tab_met, kinds_met, mixed_met, fun g fn h => (by cases h), fun g H h => (by cases h)⟩
theorem qbody11 (p : QXpr) (i : Nat) (hi : i ≤ p.xs.length) (Q : EX → St V → Prop) (F : AV → Heap V → Nat → Prop)
    (hrt : ∀ ST : St V, i < p.xs.length → p.xs.getD i (V.enc Kd.pr).dflt ≠ p.ys.getD i (V.enc Kd.pr).dflt → Wk 2 [] ST (QR11 p) → Q .rt ST)
    (hnx : ∀ ST : St V, i < p.xs.length → p.xs.getD i (V.enc Kd.pr).dflt = p.ys.getD i (V.enc Kd.pr).dflt → Wk 2 [] ST (QI11 p (i + 1)) → Q .nx ST)
    (hex : ∀ ST : St V, i = p.xs.length → Wk 2 [] ST (QI11 p i) → Q (.ex 0) ST) :
    (runCode cfgN0 60 11 (loopOf Try.f11 0) (QI11 p i) (stopT (trimSt [0, 1, 4, 5] [0, 1]))).holds ⟨Q, F⟩ := by
  rw [qb11]
  have hb := p.hb
  have hl := p.hl
  have hw : i < p.xs.length → IntKind.wrap .i64 ((i : Int) + 1) = ((i + 1 : Nat) : Int) := fun h => wrap_nat (by omega)
  rw [show (0 + i) = i from Nat.zero_add _]
  generalize p.xs.getD i (V.enc Kd.pr).dflt = a at hrt hnx ⊢
  generalize p.ys.getD i (V.enc Kd.pr).dflt = b at hrt hnx ⊢
  simp only [Out.holds, decide_eq_true_eq, decide_eq_false_iff_not, beq_iff_eq, beq_eq_false_iff_ne, bne_iff_ne, ne_eq, bne_eq_false_iff_eq, Bool.true_and, Bool.and_true, Bool.not_eq_true', Bool.not_eq_false', Bool.and_eq_true, Bool.or_eq_true, Bool.and_eq_false_imp, true_implies, true_and, Bool.not_true, Bool.not_false, Bool.false_eq_true, Bool.true_eq_false, false_implies, and_true, beq_self_eq_true, Decidable.not_not, not_true_eq_false, not_false_eq_true]
  by_cases hlt : i < p.xs.length
  · refine ⟨fun _ => ⟨by omega, hlt, by omega, by omega, fun h2 => hrt _ hlt ?_ (by (refine ⟨?_, ?_, rfl, tl_ok rfl, ?_, ⟨Nat.le_of_ble_eq_true rfl, rfl⟩⟩ <;> (repeat' first | with_reducible exact trivial | exact AV.sub_same _ | exact .same _ | exact .inr rfl | exact .inl (in_ok rfl) | exact AV.sub_lit' | exact AV.sub_nilS | exact .none _ _ | exact trivial | refine ⟨?_, ?_⟩))), fun h2 => hnx _ hlt ?_ (by (refine ⟨?_, ?_, rfl, tl_ok rfl, ?_, ⟨Nat.le_of_ble_eq_true rfl, rfl⟩⟩ <;> (repeat' first | with_reducible exact trivial | (exact AV.sub_int (hw hlt)) | exact AV.sub_same _ | exact .same _ | exact .inr rfl | exact .inl (in_ok rfl) | exact AV.sub_lit' | exact AV.sub_nilS | exact .none _ _ | exact trivial | refine ⟨?_, ?_⟩)))⟩, fun h => absurd hlt (by omega)⟩
    · intro e; subst e; simp at h2
    · exact pr_extQ (by simpa using h2)
  · exact ⟨fun h => absurd h (by omega), fun h => hex _ (by omega) (by (refine ⟨?_, ?_, rfl, tl_ok rfl, ?_, ⟨Nat.le_of_ble_eq_true rfl, rfl⟩⟩ <;> (repeat' first | with_reducible exact trivial | exact AV.sub_same _ | exact .same _ | exact .inr rfl | exact .inl (in_ok rfl) | exact AV.sub_lit' | exact AV.sub_nilS | exact .none _ _ | exact trivial | refine ⟨?_, ?_⟩)))⟩
theorem ql11_ok : LoopOk Try.prog 0 (loopOf Try.f11 0) QL11 := by
  refine trimLoop_ok (trim_ok _ _) (loopT_ok (C := cfgN0) cfgN0_ok (f := 11) (n := 60) (trim_ok [0, 1, 4, 5] [0, 1]) 2 QI11 (fun p i => i ≤ p.xs.length ∧ p.xs.take i = p.ys.take i) (fun _ => 0) (fun p i => p.xs.length - i)
    (fun p (_ : Unit) => p.xs = p.ys) (fun p _ => QI11 p p.xs.length) (fun p (_ : Unit) => p.xs ≠ p.ys) (fun p _ => QR11 p) (fun p => ⟨Nat.zero_le _, rfl⟩) ?_)
  intro p i ⟨hi, ht⟩
  have hl := p.hl
  refine qbody11 p i hi _ _ (fun ST hlt h hw => SImp.of_wk (ren := []) () hw (fun e => h (by rw [e]))) (fun ST hlt h hw => SImp.of_wk (i + 1) hw ⟨⟨hlt, take_nextQ hlt (by omega) ht h⟩, by omega⟩) (fun ST he hw => ⟨rfl, SImp.of_wk (ren := []) () (by subst he; exact hw) ?_⟩)
  rw [List.take_of_length_le (by omega), List.take_of_length_le (by omega)] at ht
  exact ht
def runQ11 : RunFree V := fun ar K => match ar with
  | [.rows .pr xs c, .rows .pr ys d] => .need (xs.length ≤ 1099511627776) (K (.bool (decide (xs = ys))) [])
  | _ => .bad 500
theorem hQ11 : HookOk Try.prog 11 (hookFree [.rows Kd.pr, .rows Kd.pr] runQ11) := by
  refine free_hook (C := cfgX11) cfgX11_ok (n := 60) (fn := Try.f11) ⟨by kernel_rfl, by kernel_rfl⟩ (by kernel_rfl) ?_
  intro M ar K0 H
  unfold runQ11 at H
  split at H
  · rename_i xs c ys d
    obtain ⟨hb, H⟩ := H
    refine ⟨show 2 ≤ _ by decide +kernel, ?_⟩
    show (runF cfgX11 60 11 Try.f11 [.sl false 0 0 2 xs.length c, .sl false 1 0 2 ys.length d] [(0, .ro Kd.pr xs), (1, .ro Kd.pr ys)] 2).holds _
    rw [qx11]
    simp only [Out.holds, bne_iff_ne, bne_eq_false_iff_eq]
    refine ⟨fun h => ⟨_, _, H, endPlain (AV.sub_ff (decide_eq_false fun e => h (by rw [e]))) rfl⟩, fun h => ?_⟩
    have hl : xs.length = ys.length := by omega
    refine ⟨ql11_ok, fun p => p = ⟨xs, c, ys, d, hl, hb⟩, ⟨Nat.le_refl _, SImp.of_wk (ren := []) ⟨xs, c, ys, d, hl, hb⟩ (by (refine ⟨?_, ?_, rfl, tl_ok rfl, ?_, ⟨Nat.le_of_ble_eq_true rfl, rfl⟩⟩ <;> (repeat' first | with_reducible exact trivial | exact AV.sub_same _ | exact .same _ | exact .inr rfl | exact .inl (in_ok rfl) | exact AV.sub_lit' | exact AV.sub_nilS | exact .none _ _ | exact trivial | refine ⟨?_, ?_⟩))) rfl⟩, ?_⟩
    rintro _ rfl
    exact ⟨fun _ e => ⟨_, _, H, endPlain (AV.sub_tt (decide_eq_true e)) rfl⟩, fun _ e => ⟨_, _, H, endPlain (AV.sub_ff (decide_eq_false e)) rfl⟩⟩
  · exact H.elim

theorem cfgX20_ok : cfgX20.ok := ⟨tab_met, kinds_met, mixed_met, fun g fn h => (by cases h), fun g H h => (by cases h)⟩
theorem qbody20 (p : QXcom) (i : Nat) (hi : i ≤ p.xs.length) (Q : EX → St V → Prop) (F : AV → Heap V → Nat → Prop)
    (hrt : ∀ ST : St V, i < p.xs.length → p.xs.getD i (V.enc Kd.com).dflt ≠ p.ys.getD i (V.enc Kd.com).dflt → Wk 2 [] ST (QR20 p) → Q .rt ST)
    (hnx : ∀ ST : St V, i < p.xs.length → p.xs.getD i (V.enc Kd.com).dflt = p.ys.getD i (V.enc Kd.com).dflt → Wk 2 [] ST (QI20 p (i + 1)) → Q .nx ST)
    (hex : ∀ ST : St V, i = p.xs.length → Wk 2 [] ST (QI20 p i) → Q (.ex 0) ST) :
    (runCode cfgN0 60 20 (loopOf Try.f20 0) (QI20 p i) (stopT (trimSt [0, 1, 4, 5] [0, 1]))).holds ⟨Q, F⟩ := by
  rw [qb20]
  have hb := p.hb
  have hl := p.hl
  have hw : i < p.xs.length → IntKind.wrap .i64 ((i : Int) + 1) = ((i + 1 : Nat) : Int) := fun h => wrap_nat (by omega)
  rw [show (0 + i) = i from Nat.zero_add _]
  generalize p.xs.getD i (V.enc Kd.com).dflt = a at hrt hnx ⊢
  generalize p.ys.getD i (V.enc Kd.com).dflt = b at hrt hnx ⊢
  simp only [Out.holds, decide_eq_true_eq, decide_eq_false_iff_not, beq_iff_eq, beq_eq_false_iff_ne, bne_iff_ne, ne_eq, bne_eq_false_iff_eq, Bool.true_and, Bool.and_true, Bool.not_eq_true', Bool.not_eq_false', Bool.and_eq_true, Bool.or_eq_true, Bool.and_eq_false_imp, true_implies, true_and, Bool.not_true, Bool.not_false, Bool.false_eq_true, Bool.true_eq_false, false_implies, and_true, beq_self_eq_true, Decidable.not_not, not_true_eq_false, not_false_eq_true]
  by_cases hlt : i < p.xs.length
  · refine ⟨fun _ => ⟨by omega, hlt, by omega, by omega, fun h2 => hrt _ hlt ?_ (by (refine ⟨?_, ?_, rfl, tl_ok rfl, ?_, ⟨Nat.le_of_ble_eq_true rfl, rfl⟩⟩ <;> (repeat' first | with_reducible exact trivial | exact AV.sub_same _ | exact .same _ | exact .inr rfl | exact .inl (in_ok rfl) | exact AV.sub_lit' | exact AV.sub_nilS | exact .none _ _ | exact trivial | refine ⟨?_, ?_⟩))), fun h2 => hnx _ hlt ?_ (by (refine ⟨?_, ?_, rfl, tl_ok rfl, ?_, ⟨Nat.le_of_ble_eq_true rfl, rfl⟩⟩ <;> (repeat' first | with_reducible exact trivial | (exact AV.sub_int (hw hlt)) | exact AV.sub_same _ | exact .same _ | exact .inr rfl | exact .inl (in_ok rfl) | exact AV.sub_lit' | exact AV.sub_nilS | exact .none _ _ | exact trivial | refine ⟨?_, ?_⟩)))⟩, fun h => absurd hlt (by omega)⟩
    · intro e; subst e; simp at h2
    · exact com_extQ (by simpa using h2)
  · exact ⟨fun h => absurd h (by omega), fun h => hex _ (by omega) (by (refine ⟨?_, ?_, rfl, tl_ok rfl, ?_, ⟨Nat.le_of_ble_eq_true rfl, rfl⟩⟩ <;> (repeat' first | with_reducible exact trivial | exact AV.sub_same _ | exact .same _ | exact .inr rfl | exact .inl (in_ok rfl) | exact AV.sub_lit' | exact AV.sub_nilS | exact .none _ _ | exact trivial | refine ⟨?_, ?_⟩)))⟩
theorem ql20_ok : LoopOk Try.prog 0 (loopOf Try.f20 0) QL20 := by
  refine trimLoop_ok (trim_ok _ _) (loopT_ok (C := cfgN0) cfgN0_ok (f := 20) (n := 60) (trim_ok [0, 1, 4, 5] [0, 1]) 2 QI20 (fun p i => i ≤ p.xs.length ∧ p.xs.take i = p.ys.take i) (fun _ => 0) (fun p i => p.xs.length - i)
    (fun p (_ : Unit) => p.xs = p.ys) (fun p _ => QI20 p p.xs.length) (fun p (_ : Unit) => p.xs ≠ p.ys) (fun p _ => QR20 p) (fun p => ⟨Nat.zero_le _, rfl⟩) ?_)
  intro p i ⟨hi, ht⟩
  have hl := p.hl
  refine qbody20 p i hi _ _ (fun ST hlt h hw => SImp.of_wk (ren := []) () hw (fun e => h (by rw [e]))) (fun ST hlt h hw => SImp.of_wk (i + 1) hw ⟨⟨hlt, take_nextQ hlt (by omega) ht h⟩, by omega⟩) (fun ST he hw => ⟨rfl, SImp.of_wk (ren := []) () (by subst he; exact hw) ?_⟩)
  rw [List.take_of_length_le (by omega), List.take_of_length_le (by omega)] at ht
  exact ht
def runQ20 : RunFree V := fun ar K => match ar with
  | [.rows .com xs c, .rows .com ys d] => .need (xs.length ≤ 1099511627776) (K (.bool (decide (xs = ys))) [])
  | _ => .bad 500
theorem hQ20 : HookOk Try.prog 20 (hookFree [.rows Kd.com, .rows Kd.com] runQ20) := by
  refine free_hook (C := cfgX20) cfgX20_ok (n := 60) (fn := Try.f20) ⟨by kernel_rfl, by kernel_rfl⟩ (by kernel_rfl) ?_
  intro M ar K0 H
  unfold runQ20 at H
  split at H
  · rename_i xs c ys d
    obtain ⟨hb, H⟩ := H
    refine ⟨show 2 ≤ _ by decide +kernel, ?_⟩
    show (runF cfgX20 60 20 Try.f20 [.sl false 0 0 4 xs.length c, .sl false 1 0 4 ys.length d] [(0, .ro Kd.com xs), (1, .ro Kd.com ys)] 2).holds _
    rw [qx20]
    simp only [Out.holds, bne_iff_ne, bne_eq_false_iff_eq]
    refine ⟨fun h => ⟨_, _, H, endPlain (AV.sub_ff (decide_eq_false fun e => h (by rw [e]))) rfl⟩, fun h => ?_⟩
    have hl : xs.length = ys.length := by omega
    refine ⟨ql20_ok, fun p => p = ⟨xs, c, ys, d, hl, hb⟩, ⟨Nat.le_refl _, SImp.of_wk (ren := []) ⟨xs, c, ys, d, hl, hb⟩ (by (refine ⟨?_, ?_, rfl, tl_ok rfl, ?_, ⟨Nat.le_of_ble_eq_true rfl, rfl⟩⟩ <;> (repeat' first | with_reducible exact trivial | exact AV.sub_same _ | exact .same _ | exact .inr rfl | exact .inl (in_ok rfl) | exact AV.sub_lit' | exact AV.sub_nilS | exact .none _ _ | exact trivial | refine ⟨?_, ?_⟩))) rfl⟩, ?_⟩
    rintro _ rfl
    exact ⟨fun _ e => ⟨_, _, H, endPlain (AV.sub_tt (decide_eq_true e)) rfl⟩, fun _ e => ⟨_, _, H, endPlain (AV.sub_ff (decide_eq_false e)) rfl⟩⟩
  · exact H.elim

theorem cfgX17_ok : cfgX17.ok := ⟨tab_met, kinds_met, mixed_met, fun g fn h => (by cases h), fun g H h => (by cases h)⟩
theorem qbody17 (p : QXint) (i : Nat) (hi : i ≤ p.xs.length) (Q : EX → St V → Prop) (F : AV → Heap V → Nat → Prop)
    (hrt : ∀ ST : St V, i < p.xs.length → p.xs.getD i (V.enc Kd.int).dflt ≠ p.ys.getD i (V.enc Kd.int).dflt → Wk 2 [] ST (QR17 p) → Q .rt ST)
    (hnx : ∀ ST : St V, i < p.xs.length → p.xs.getD i (V.enc Kd.int).dflt = p.ys.getD i (V.enc Kd.int).dflt → Wk 2 [] ST (QI17 p (i + 1)) → Q .nx ST)
    (hex : ∀ ST : St V, i = p.xs.length → Wk 2 [] ST (QI17 p i) → Q (.ex 0) ST) :
    (runCode cfgN0 60 17 (loopOf Try.f17 0) (QI17 p i) (stopT (trimSt [0, 1, 4, 5] [0, 1]))).holds ⟨Q, F⟩ := by
  rw [qb17]
  have hb := p.hb
  have hl := p.hl
  have hw : i < p.xs.length → IntKind.wrap .i64 ((i : Int) + 1) = ((i + 1 : Nat) : Int) := fun h => wrap_nat (by omega)
  rw [show (0 + i) = i from Nat.zero_add _]
  generalize p.xs.getD i (V.enc Kd.int).dflt = a at hrt hnx ⊢
  generalize p.ys.getD i (V.enc Kd.int).dflt = b at hrt hnx ⊢
  simp only [Out.holds, decide_eq_true_eq, decide_eq_false_iff_not, beq_iff_eq, beq_eq_false_iff_ne, bne_iff_ne, ne_eq, bne_eq_false_iff_eq, Bool.true_and, Bool.and_true, Bool.not_eq_true', Bool.not_eq_false', Bool.and_eq_true, Bool.or_eq_true, Bool.and_eq_false_imp, true_implies, true_and, Bool.not_true, Bool.not_false, Bool.false_eq_true, Bool.true_eq_false, false_implies, and_true, beq_self_eq_true, Decidable.not_not, not_true_eq_false, not_false_eq_true]
  by_cases hlt : i < p.xs.length
  · refine ⟨fun _ => ⟨by omega, hlt, by omega, by omega, fun h2 => hrt _ hlt ?_ (by (refine ⟨?_, ?_, rfl, tl_ok rfl, ?_, ⟨Nat.le_of_ble_eq_true rfl, rfl⟩⟩ <;> (repeat' first | with_reducible exact trivial | exact AV.sub_same _ | exact .same _ | exact .inr rfl | exact .inl (in_ok rfl) | exact AV.sub_lit' | exact AV.sub_nilS | exact .none _ _ | exact trivial | refine ⟨?_, ?_⟩))), fun h2 => hnx _ hlt ?_ (by (refine ⟨?_, ?_, rfl, tl_ok rfl, ?_, ⟨Nat.le_of_ble_eq_true rfl, rfl⟩⟩ <;> (repeat' first | with_reducible exact trivial | (exact AV.sub_int (hw hlt)) | exact AV.sub_same _ | exact .same _ | exact .inr rfl | exact .inl (in_ok rfl) | exact AV.sub_lit' | exact AV.sub_nilS | exact .none _ _ | exact trivial | refine ⟨?_, ?_⟩)))⟩, fun h => absurd hlt (by omega)⟩
    · intro e; subst e; simp at h2
    · exact h2
  · exact ⟨fun h => absurd h (by omega), fun h => hex _ (by omega) (by (refine ⟨?_, ?_, rfl, tl_ok rfl, ?_, ⟨Nat.le_of_ble_eq_true rfl, rfl⟩⟩ <;> (repeat' first | with_reducible exact trivial | exact AV.sub_same _ | exact .same _ | exact .inr rfl | exact .inl (in_ok rfl) | exact AV.sub_lit' | exact AV.sub_nilS | exact .none _ _ | exact trivial | refine ⟨?_, ?_⟩)))⟩
theorem ql17_ok : LoopOk Try.prog 0 (loopOf Try.f17 0) QL17 := by
  refine trimLoop_ok (trim_ok _ _) (loopT_ok (C := cfgN0) cfgN0_ok (f := 17) (n := 60) (trim_ok [0, 1, 4, 5] [0, 1]) 2 QI17 (fun p i => i ≤ p.xs.length ∧ p.xs.take i = p.ys.take i) (fun _ => 0) (fun p i => p.xs.length - i)
    (fun p (_ : Unit) => p.xs = p.ys) (fun p _ => QI17 p p.xs.length) (fun p (_ : Unit) => p.xs ≠ p.ys) (fun p _ => QR17 p) (fun p => ⟨Nat.zero_le _, rfl⟩) ?_)
  intro p i ⟨hi, ht⟩
  have hl := p.hl
  refine qbody17 p i hi _ _ (fun ST hlt h hw => SImp.of_wk (ren := []) () hw (fun e => h (by rw [e]))) (fun ST hlt h hw => SImp.of_wk (i + 1) hw ⟨⟨hlt, take_nextQ hlt (by omega) ht h⟩, by omega⟩) (fun ST he hw => ⟨rfl, SImp.of_wk (ren := []) () (by subst he; exact hw) ?_⟩)
  rw [List.take_of_length_le (by omega), List.take_of_length_le (by omega)] at ht
  exact ht
def runQ17 : RunFree V := fun ar K => match ar with
  | [.rows .int xs c, .rows .int ys d] => .need (xs.length ≤ 1099511627776) (K (.bool (decide (xs = ys))) [])
  | _ => .bad 500
theorem hQ17 : HookOk Try.prog 17 (hookFree [.rows Kd.int, .rows Kd.int] runQ17) := by
  refine free_hook (C := cfgX17) cfgX17_ok (n := 60) (fn := Try.f17) ⟨by kernel_rfl, by kernel_rfl⟩ (by kernel_rfl) ?_
  intro M ar K0 H
  unfold runQ17 at H
  split at H
  · rename_i xs c ys d
    obtain ⟨hb, H⟩ := H
    refine ⟨show 2 ≤ _ by decide +kernel, ?_⟩
    show (runF cfgX17 60 17 Try.f17 [.sl false 0 0 1 xs.length c, .sl false 1 0 1 ys.length d] [(0, .ro Kd.int xs), (1, .ro Kd.int ys)] 2).holds _
    rw [qx17]
    simp only [Out.holds, bne_iff_ne, bne_eq_false_iff_eq]
    refine ⟨fun h => ⟨_, _, H, endPlain (AV.sub_ff (decide_eq_false fun e => h (by rw [e]))) rfl⟩, fun h => ?_⟩
    have hl : xs.length = ys.length := by omega
    refine ⟨ql17_ok, fun p => p = ⟨xs, c, ys, d, hl, hb⟩, ⟨Nat.le_refl _, SImp.of_wk (ren := []) ⟨xs, c, ys, d, hl, hb⟩ (by (refine ⟨?_, ?_, rfl, tl_ok rfl, ?_, ⟨Nat.le_of_ble_eq_true rfl, rfl⟩⟩ <;> (repeat' first | with_reducible exact trivial | exact AV.sub_same _ | exact .same _ | exact .inr rfl | exact .inl (in_ok rfl) | exact AV.sub_lit' | exact AV.sub_nilS | exact .none _ _ | exact trivial | refine ⟨?_, ?_⟩))) rfl⟩, ?_⟩
    rintro _ rfl
    exact ⟨fun _ e => ⟨_, _, H, endPlain (AV.sub_tt (decide_eq_true e)) rfl⟩, fun _ e => ⟨_, _, H, endPlain (AV.sub_ff (decide_eq_false e)) rfl⟩⟩
  · exact H.elim
end Sx
end Go.Proofs.Ythabfkcmhffjoaa

/-
  Answer and State: the runs of the machine.
-/
namespace Go.Proofs.Ythabfkcmhffjoaa
namespace Sx
open Go
set_option maxRecDepth 100000
set_option linter.unusedVariables false

def hooksA0 : Nat → Option (HookS V) := fun g => match g with
  | 25 => some (hookMp [] runRows)
  | 27 => some (hookFree [.rows Kd.pr] runOf)
  | 24 => some (hookFree [.rows Kd.com] runSpecRun)
  | 26 => some (hookFree [.rows Kd.com] runRefRun)
  | 11 => some (hookFree [.rows Kd.pr, .rows Kd.pr] runQ11)
  | 20 => some (hookFree [.rows Kd.com, .rows Kd.com] runQ20)
  | 17 => some (hookFree [.rows Kd.int, .rows Kd.int] runQ17)
  | 22 => some (hookFree [.rows Kd.pr, .int .i64, .int .i64, .int .i64] runAnswer)
  | 13 => some (hookFree [.rows Kd.com] runLegal)
  | 14 => some (hookFree [.rows Kd.com] runLegal)
  | 15 => some (hookFree [.rows Kd.com] runPlain)
  | 16 => some (hookFree [.rows Kd.com] runPlain)
  | 18 => some (hookFree [.rows Kd.com] runEvicted)
  | 19 => some (hookFree [.rows Kd.com] runEvicted)
  | _ => none
noncomputable def fnsA0 : Nat → Option Func := fun g => match g with | 28 => some Try.f28 | 29 => some Try.f29 | _ => none
noncomputable def cfgA0 : Cfg Try.prog V := ⟨tab, kinds, fnsA0, hooksA0, fun _ _ => none⟩
theorem qt21 (l : List Pr) (c : Nat) (d k v : Int) : runF cfgA0 60 21 Try.f21 [.sl false 0 0 2 l.length c, .int .i64 d, .int .i64 k, .int .i64 v] [(0, .ro Kd.pr l)] 4 = Out.need (0 + l.length ≤ l.length) (Out.need ((List.take l.length (List.drop 0 l)).length ≤ 1099511627776) (Out.ite (d == 2) (Out.ite (d == 2) (Out.need ((mput (mapOfRows (List.take l.length (List.drop 0 l))) k v).length ≤ 1099511627776 ∧ ∀ (p : Int × V.El Kd.int), p ∈ mput (mapOfRows (List.take l.length (List.drop 0 l))) k v → inR p.fst) (Out.all Nat fun y => Out.fin (.tup [.agg [.int .i64 d, .int .i64 k, .int .i64 v, .ff], .sl false 14 0 2 (rowsOf (mput (mapOfRows (List.take l.length (List.drop 0 l))) k v)).length ((rowsOf (mput (mapOfRows (List.take l.length (List.drop 0 l))) k v)).length + y)]) [(14, .arr 27 Kd.pr (rowsOf (mput (mapOfRows (List.take l.length (List.drop 0 l))) k v)) y), (12, .cells 35 [.int .i64 d, .int .i64 k, .int .i64 v, .ff]), (10, .cells 35 [.int .i64 d, .int .i64 k, .int .i64 v, .ff]), (7, .cells 35 [.int .i64 d, .int .i64 k, .int .i64 ((mget (mapOfRows (List.take l.length (List.drop 0 l))) k).getD (V.enc Kd.int).dflt), .bool (mget (mapOfRows (List.take l.length (List.drop 0 l))) k).isSome]), (6, .cells 35 [.int .i64 d, .int .i64 k, .int .i64 v, .ff]), (5, .mp .i64 Kd.int (mput (mapOfRows (List.take l.length (List.drop 0 l))) k v)), (4, .cells 35 [.int .i64 d, .int .i64 k, .int .i64 v, .ff]), (0, .ro Kd.pr l)] 16)) (Out.ite (d == 3) (Out.ite (d == 3) (Out.need ((mdel (mapOfRows (List.take l.length (List.drop 0 l))) k).length ≤ 1099511627776 ∧ ∀ (p : Int × V.El Kd.int), p ∈ mdel (mapOfRows (List.take l.length (List.drop 0 l))) k → inR p.fst) (Out.all Nat fun y => Out.fin (.tup [.agg [.int .i64 d, .int .i64 k, .int .i64 v, .ff], .sl false 14 0 2 (rowsOf (mdel (mapOfRows (List.take l.length (List.drop 0 l))) k)).length ((rowsOf (mdel (mapOfRows (List.take l.length (List.drop 0 l))) k)).length + y)]) [(14, .arr 27 Kd.pr (rowsOf (mdel (mapOfRows (List.take l.length (List.drop 0 l))) k)) y), (12, .cells 35 [.int .i64 d, .int .i64 k, .int .i64 v, .ff]), (10, .cells 35 [.int .i64 d, .int .i64 k, .int .i64 v, .ff]), (7, .cells 35 [.int .i64 d, .int .i64 k, .int .i64 ((mget (mapOfRows (List.take l.length (List.drop 0 l))) k).getD (V.enc Kd.int).dflt), .bool (mget (mapOfRows (List.take l.length (List.drop 0 l))) k).isSome]), (6, .cells 35 [.int .i64 d, .int .i64 k, .int .i64 v, .ff]), (5, .mp .i64 Kd.int (mdel (mapOfRows (List.take l.length (List.drop 0 l))) k)), (4, .cells 35 [.int .i64 d, .int .i64 k, .int .i64 v, .ff]), (0, .ro Kd.pr l)] 16)) (Out.need (List.length (mapOfRows (List.take l.length (List.drop 0 l))) ≤ 1099511627776 ∧ ∀ (p : Int × V.El Kd.int), p ∈ mapOfRows (List.take l.length (List.drop 0 l)) → inR p.fst) (Out.all Nat fun y => Out.fin (.tup [.agg [.int .i64 d, .int .i64 k, .int .i64 v, .ff], .sl false 13 0 2 (rowsOf (mapOfRows (List.take l.length (List.drop 0 l)))).length ((rowsOf (mapOfRows (List.take l.length (List.drop 0 l)))).length + y)]) [(13, .arr 27 Kd.pr (rowsOf (mapOfRows (List.take l.length (List.drop 0 l)))) y), (12, .cells 35 [.int .i64 d, .int .i64 k, .int .i64 v, .ff]), (10, .cells 35 [.int .i64 d, .int .i64 k, .int .i64 v, .ff]), (7, .cells 35 [.int .i64 d, .int .i64 k, .int .i64 ((mget (mapOfRows (List.take l.length (List.drop 0 l))) k).getD (V.enc Kd.int).dflt), .bool (mget (mapOfRows (List.take l.length (List.drop 0 l))) k).isSome]), (6, .cells 35 [.int .i64 d, .int .i64 k, .int .i64 v, .ff]), (5, .mp .i64 Kd.int (mapOfRows (List.take l.length (List.drop 0 l)))), (4, .cells 35 [.int .i64 d, .int .i64 k, .int .i64 v, .ff]), (0, .ro Kd.pr l)] 15))) (Out.ite (d == 4) (Out.need ((mdel (mapOfRows (List.take l.length (List.drop 0 l))) k).length ≤ 1099511627776 ∧ ∀ (p : Int × V.El Kd.int), p ∈ mdel (mapOfRows (List.take l.length (List.drop 0 l))) k → inR p.fst) (Out.all Nat fun y => Out.fin (.tup [.agg [.int .i64 d, .int .i64 k, .int .i64 v, .ff], .sl false 14 0 2 (rowsOf (mdel (mapOfRows (List.take l.length (List.drop 0 l))) k)).length ((rowsOf (mdel (mapOfRows (List.take l.length (List.drop 0 l))) k)).length + y)]) [(14, .arr 27 Kd.pr (rowsOf (mdel (mapOfRows (List.take l.length (List.drop 0 l))) k)) y), (12, .cells 35 [.int .i64 d, .int .i64 k, .int .i64 v, .ff]), (10, .cells 35 [.int .i64 d, .int .i64 k, .int .i64 v, .ff]), (7, .cells 35 [.int .i64 d, .int .i64 k, .int .i64 ((mget (mapOfRows (List.take l.length (List.drop 0 l))) k).getD (V.enc Kd.int).dflt), .bool (mget (mapOfRows (List.take l.length (List.drop 0 l))) k).isSome]), (6, .cells 35 [.int .i64 d, .int .i64 k, .int .i64 v, .ff]), (5, .mp .i64 Kd.int (mdel (mapOfRows (List.take l.length (List.drop 0 l))) k)), (4, .cells 35 [.int .i64 d, .int .i64 k, .int .i64 v, .ff]), (0, .ro Kd.pr l)] 16)) (Out.need (List.length (mapOfRows (List.take l.length (List.drop 0 l))) ≤ 1099511627776 ∧ ∀ (p : Int × V.El Kd.int), p ∈ mapOfRows (List.take l.length (List.drop 0 l)) → inR p.fst) (Out.all Nat fun y => Out.fin (.tup [.agg [.int .i64 d, .int .i64 k, .int .i64 v, .ff], .sl false 13 0 2 (rowsOf (mapOfRows (List.take l.length (List.drop 0 l)))).length ((rowsOf (mapOfRows (List.take l.length (List.drop 0 l)))).length + y)]) [(13, .arr 27 Kd.pr (rowsOf (mapOfRows (List.take l.length (List.drop 0 l)))) y), (12, .cells 35 [.int .i64 d, .int .i64 k, .int .i64 v, .ff]), (10, .cells 35 [.int .i64 d, .int .i64 k, .int .i64 v, .ff]), (7, .cells 35 [.int .i64 d, .int .i64 k, .int .i64 ((mget (mapOfRows (List.take l.length (List.drop 0 l))) k).getD (V.enc Kd.int).dflt), .bool (mget (mapOfRows (List.take l.length (List.drop 0 l))) k).isSome]), (6, .cells 35 [.int .i64 d, .int .i64 k, .int .i64 v, .ff]), (5, .mp .i64 Kd.int (mapOfRows (List.take l.length (List.drop 0 l)))), (4, .cells 35 [.int .i64 d, .int .i64 k, .int .i64 v, .ff]), (0, .ro Kd.pr l)] 15))))) (Out.ite (d == 1) (Out.ite (d == 1) (Out.ite (d == 2) (Out.need ((mput (mapOfRows (List.take l.length (List.drop 0 l))) k ((mget (mapOfRows (List.take l.length (List.drop 0 l))) k).getD (V.enc Kd.int).dflt)).length ≤ 1099511627776 ∧ ∀ (p : Int × V.El Kd.int), p ∈ mput (mapOfRows (List.take l.length (List.drop 0 l))) k ((mget (mapOfRows (List.take l.length (List.drop 0 l))) k).getD (V.enc Kd.int).dflt) → inR p.fst) (Out.all Nat fun y => Out.fin (.tup [.agg [.int .i64 d, .int .i64 k, .int .i64 ((mget (mapOfRows (List.take l.length (List.drop 0 l))) k).getD (V.enc Kd.int).dflt), .bool (mget (mapOfRows (List.take l.length (List.drop 0 l))) k).isSome], .sl false 14 0 2 (rowsOf (mput (mapOfRows (List.take l.length (List.drop 0 l))) k ((mget (mapOfRows (List.take l.length (List.drop 0 l))) k).getD (V.enc Kd.int).dflt))).length ((rowsOf (mput (mapOfRows (List.take l.length (List.drop 0 l))) k ((mget (mapOfRows (List.take l.length (List.drop 0 l))) k).getD (V.enc Kd.int).dflt))).length + y)]) [(14, .arr 27 Kd.pr (rowsOf (mput (mapOfRows (List.take l.length (List.drop 0 l))) k ((mget (mapOfRows (List.take l.length (List.drop 0 l))) k).getD (V.enc Kd.int).dflt))) y), (12, .cells 35 [.int .i64 d, .int .i64 k, .int .i64 ((mget (mapOfRows (List.take l.length (List.drop 0 l))) k).getD (V.enc Kd.int).dflt), .bool (mget (mapOfRows (List.take l.length (List.drop 0 l))) k).isSome]), (10, .cells 35 [.int .i64 d, .int .i64 k, .int .i64 ((mget (mapOfRows (List.take l.length (List.drop 0 l))) k).getD (V.enc Kd.int).dflt), .bool (mget (mapOfRows (List.take l.length (List.drop 0 l))) k).isSome]), (7, .cells 35 [.int .i64 d, .int .i64 k, .int .i64 ((mget (mapOfRows (List.take l.length (List.drop 0 l))) k).getD (V.enc Kd.int).dflt), .bool (mget (mapOfRows (List.take l.length (List.drop 0 l))) k).isSome]), (6, .cells 35 [.int .i64 d, .int .i64 k, .int .i64 ((mget (mapOfRows (List.take l.length (List.drop 0 l))) k).getD (V.enc Kd.int).dflt), .bool (mget (mapOfRows (List.take l.length (List.drop 0 l))) k).isSome]), (5, .mp .i64 Kd.int (mput (mapOfRows (List.take l.length (List.drop 0 l))) k ((mget (mapOfRows (List.take l.length (List.drop 0 l))) k).getD (V.enc Kd.int).dflt))), (4, .cells 35 [.int .i64 d, .int .i64 k, .int .i64 ((mget (mapOfRows (List.take l.length (List.drop 0 l))) k).getD (V.enc Kd.int).dflt), .bool (mget (mapOfRows (List.take l.length (List.drop 0 l))) k).isSome]), (0, .ro Kd.pr l)] 16)) (Out.ite (d == 3) (Out.ite (d == 3) (Out.need ((mdel (mapOfRows (List.take l.length (List.drop 0 l))) k).length ≤ 1099511627776 ∧ ∀ (p : Int × V.El Kd.int), p ∈ mdel (mapOfRows (List.take l.length (List.drop 0 l))) k → inR p.fst) (Out.all Nat fun y => Out.fin (.tup [.agg [.int .i64 d, .int .i64 k, .int .i64 ((mget (mapOfRows (List.take l.length (List.drop 0 l))) k).getD (V.enc Kd.int).dflt), .bool (mget (mapOfRows (List.take l.length (List.drop 0 l))) k).isSome], .sl false 14 0 2 (rowsOf (mdel (mapOfRows (List.take l.length (List.drop 0 l))) k)).length ((rowsOf (mdel (mapOfRows (List.take l.length (List.drop 0 l))) k)).length + y)]) [(14, .arr 27 Kd.pr (rowsOf (mdel (mapOfRows (List.take l.length (List.drop 0 l))) k)) y), (12, .cells 35 [.int .i64 d, .int .i64 k, .int .i64 ((mget (mapOfRows (List.take l.length (List.drop 0 l))) k).getD (V.enc Kd.int).dflt), .bool (mget (mapOfRows (List.take l.length (List.drop 0 l))) k).isSome]), (10, .cells 35 [.int .i64 d, .int .i64 k, .int .i64 ((mget (mapOfRows (List.take l.length (List.drop 0 l))) k).getD (V.enc Kd.int).dflt), .bool (mget (mapOfRows (List.take l.length (List.drop 0 l))) k).isSome]), (7, .cells 35 [.int .i64 d, .int .i64 k, .int .i64 ((mget (mapOfRows (List.take l.length (List.drop 0 l))) k).getD (V.enc Kd.int).dflt), .bool (mget (mapOfRows (List.take l.length (List.drop 0 l))) k).isSome]), (6, .cells 35 [.int .i64 d, .int .i64 k, .int .i64 ((mget (mapOfRows (List.take l.length (List.drop 0 l))) k).getD (V.enc Kd.int).dflt), .bool (mget (mapOfRows (List.take l.length (List.drop 0 l))) k).isSome]), (5, .mp .i64 Kd.int (mdel (mapOfRows (List.take l.length (List.drop 0 l))) k)), (4, .cells 35 [.int .i64 d, .int .i64 k, .int .i64 ((mget (mapOfRows (List.take l.length (List.drop 0 l))) k).getD (V.enc Kd.int).dflt), .bool (mget (mapOfRows (List.take l.length (List.drop 0 l))) k).isSome]), (0, .ro Kd.pr l)] 16)) (Out.need (List.length (mapOfRows (List.take l.length (List.drop 0 l))) ≤ 1099511627776 ∧ ∀ (p : Int × V.El Kd.int), p ∈ mapOfRows (List.take l.length (List.drop 0 l)) → inR p.fst) (Out.all Nat fun y => Out.fin (.tup [.agg [.int .i64 d, .int .i64 k, .int .i64 ((mget (mapOfRows (List.take l.length (List.drop 0 l))) k).getD (V.enc Kd.int).dflt), .bool (mget (mapOfRows (List.take l.length (List.drop 0 l))) k).isSome], .sl false 13 0 2 (rowsOf (mapOfRows (List.take l.length (List.drop 0 l)))).length ((rowsOf (mapOfRows (List.take l.length (List.drop 0 l)))).length + y)]) [(13, .arr 27 Kd.pr (rowsOf (mapOfRows (List.take l.length (List.drop 0 l)))) y), (12, .cells 35 [.int .i64 d, .int .i64 k, .int .i64 ((mget (mapOfRows (List.take l.length (List.drop 0 l))) k).getD (V.enc Kd.int).dflt), .bool (mget (mapOfRows (List.take l.length (List.drop 0 l))) k).isSome]), (10, .cells 35 [.int .i64 d, .int .i64 k, .int .i64 ((mget (mapOfRows (List.take l.length (List.drop 0 l))) k).getD (V.enc Kd.int).dflt), .bool (mget (mapOfRows (List.take l.length (List.drop 0 l))) k).isSome]), (7, .cells 35 [.int .i64 d, .int .i64 k, .int .i64 ((mget (mapOfRows (List.take l.length (List.drop 0 l))) k).getD (V.enc Kd.int).dflt), .bool (mget (mapOfRows (List.take l.length (List.drop 0 l))) k).isSome]), (6, .cells 35 [.int .i64 d, .int .i64 k, .int .i64 ((mget (mapOfRows (List.take l.length (List.drop 0 l))) k).getD (V.enc Kd.int).dflt), .bool (mget (mapOfRows (List.take l.length (List.drop 0 l))) k).isSome]), (5, .mp .i64 Kd.int (mapOfRows (List.take l.length (List.drop 0 l)))), (4, .cells 35 [.int .i64 d, .int .i64 k, .int .i64 ((mget (mapOfRows (List.take l.length (List.drop 0 l))) k).getD (V.enc Kd.int).dflt), .bool (mget (mapOfRows (List.take l.length (List.drop 0 l))) k).isSome]), (0, .ro Kd.pr l)] 15))) (Out.ite (d == 4) (Out.need ((mdel (mapOfRows (List.take l.length (List.drop 0 l))) k).length ≤ 1099511627776 ∧ ∀ (p : Int × V.El Kd.int), p ∈ mdel (mapOfRows (List.take l.length (List.drop 0 l))) k → inR p.fst) (Out.all Nat fun y => Out.fin (.tup [.agg [.int .i64 d, .int .i64 k, .int .i64 ((mget (mapOfRows (List.take l.length (List.drop 0 l))) k).getD (V.enc Kd.int).dflt), .bool (mget (mapOfRows (List.take l.length (List.drop 0 l))) k).isSome], .sl false 14 0 2 (rowsOf (mdel (mapOfRows (List.take l.length (List.drop 0 l))) k)).length ((rowsOf (mdel (mapOfRows (List.take l.length (List.drop 0 l))) k)).length + y)]) [(14, .arr 27 Kd.pr (rowsOf (mdel (mapOfRows (List.take l.length (List.drop 0 l))) k)) y), (12, .cells 35 [.int .i64 d, .int .i64 k, .int .i64 ((mget (mapOfRows (List.take l.length (List.drop 0 l))) k).getD (V.enc Kd.int).dflt), .bool (mget (mapOfRows (List.take l.length (List.drop 0 l))) k).isSome]), (10, .cells 35 [.int .i64 d, .int .i64 k, .int .i64 ((mget (mapOfRows (List.take l.length (List.drop 0 l))) k).getD (V.enc Kd.int).dflt), .bool (mget (mapOfRows (List.take l.length (List.drop 0 l))) k).isSome]), (7, .cells 35 [.int .i64 d, .int .i64 k, .int .i64 ((mget (mapOfRows (List.take l.length (List.drop 0 l))) k).getD (V.enc Kd.int).dflt), .bool (mget (mapOfRows (List.take l.length (List.drop 0 l))) k).isSome]), (6, .cells 35 [.int .i64 d, .int .i64 k, .int .i64 ((mget (mapOfRows (List.take l.length (List.drop 0 l))) k).getD (V.enc Kd.int).dflt), .bool (mget (mapOfRows (List.take l.length (List.drop 0 l))) k).isSome]), (5, .mp .i64 Kd.int (mdel (mapOfRows (List.take l.length (List.drop 0 l))) k)), (4, .cells 35 [.int .i64 d, .int .i64 k, .int .i64 ((mget (mapOfRows (List.take l.length (List.drop 0 l))) k).getD (V.enc Kd.int).dflt), .bool (mget (mapOfRows (List.take l.length (List.drop 0 l))) k).isSome]), (0, .ro Kd.pr l)] 16)) (Out.need (List.length (mapOfRows (List.take l.length (List.drop 0 l))) ≤ 1099511627776 ∧ ∀ (p : Int × V.El Kd.int), p ∈ mapOfRows (List.take l.length (List.drop 0 l)) → inR p.fst) (Out.all Nat fun y => Out.fin (.tup [.agg [.int .i64 d, .int .i64 k, .int .i64 ((mget (mapOfRows (List.take l.length (List.drop 0 l))) k).getD (V.enc Kd.int).dflt), .bool (mget (mapOfRows (List.take l.length (List.drop 0 l))) k).isSome], .sl false 13 0 2 (rowsOf (mapOfRows (List.take l.length (List.drop 0 l)))).length ((rowsOf (mapOfRows (List.take l.length (List.drop 0 l)))).length + y)]) [(13, .arr 27 Kd.pr (rowsOf (mapOfRows (List.take l.length (List.drop 0 l)))) y), (12, .cells 35 [.int .i64 d, .int .i64 k, .int .i64 ((mget (mapOfRows (List.take l.length (List.drop 0 l))) k).getD (V.enc Kd.int).dflt), .bool (mget (mapOfRows (List.take l.length (List.drop 0 l))) k).isSome]), (10, .cells 35 [.int .i64 d, .int .i64 k, .int .i64 ((mget (mapOfRows (List.take l.length (List.drop 0 l))) k).getD (V.enc Kd.int).dflt), .bool (mget (mapOfRows (List.take l.length (List.drop 0 l))) k).isSome]), (7, .cells 35 [.int .i64 d, .int .i64 k, .int .i64 ((mget (mapOfRows (List.take l.length (List.drop 0 l))) k).getD (V.enc Kd.int).dflt), .bool (mget (mapOfRows (List.take l.length (List.drop 0 l))) k).isSome]), (6, .cells 35 [.int .i64 d, .int .i64 k, .int .i64 ((mget (mapOfRows (List.take l.length (List.drop 0 l))) k).getD (V.enc Kd.int).dflt), .bool (mget (mapOfRows (List.take l.length (List.drop 0 l))) k).isSome]), (5, .mp .i64 Kd.int (mapOfRows (List.take l.length (List.drop 0 l)))), (4, .cells 35 [.int .i64 d, .int .i64 k, .int .i64 ((mget (mapOfRows (List.take l.length (List.drop 0 l))) k).getD (V.enc Kd.int).dflt), .bool (mget (mapOfRows (List.take l.length (List.drop 0 l))) k).isSome]), (0, .ro Kd.pr l)] 15))))) (Out.ite (d == 4) (Out.ite (!(mget (mapOfRows (List.take l.length (List.drop 0 l))) k).isSome) (Out.need (List.length (mapOfRows (List.take l.length (List.drop 0 l))) ≤ 1099511627776 ∧ ∀ (p : Int × V.El Kd.int), p ∈ mapOfRows (List.take l.length (List.drop 0 l)) → inR p.fst) (Out.all Nat fun y => Out.fin (.tup [.agg [.lit .i64 0, .lit .i64 0, .lit .i64 0, .ff], .sl false 12 0 2 (rowsOf (mapOfRows (List.take l.length (List.drop 0 l)))).length ((rowsOf (mapOfRows (List.take l.length (List.drop 0 l)))).length + y)]) [(12, .arr 27 Kd.pr (rowsOf (mapOfRows (List.take l.length (List.drop 0 l)))) y), (10, .cells 35 [.int .i64 d, .int .i64 k, .int .i64 ((mget (mapOfRows (List.take l.length (List.drop 0 l))) k).getD (V.enc Kd.int).dflt), .bool (mget (mapOfRows (List.take l.length (List.drop 0 l))) k).isSome]), (7, .cells 35 [.int .i64 d, .int .i64 k, .int .i64 ((mget (mapOfRows (List.take l.length (List.drop 0 l))) k).getD (V.enc Kd.int).dflt), .bool (mget (mapOfRows (List.take l.length (List.drop 0 l))) k).isSome]), (6, .cells 35 [.int .i64 d, .int .i64 k, .int .i64 ((mget (mapOfRows (List.take l.length (List.drop 0 l))) k).getD (V.enc Kd.int).dflt), .bool (mget (mapOfRows (List.take l.length (List.drop 0 l))) k).isSome]), (5, .mp .i64 Kd.int (mapOfRows (List.take l.length (List.drop 0 l)))), (4, .cells 35 [.lit .i64 0, .lit .i64 0, .lit .i64 0, .ff]), (0, .ro Kd.pr l)] 14)) (Out.ite (d == 2) (Out.need ((mput (mapOfRows (List.take l.length (List.drop 0 l))) k ((mget (mapOfRows (List.take l.length (List.drop 0 l))) k).getD (V.enc Kd.int).dflt)).length ≤ 1099511627776 ∧ ∀ (p : Int × V.El Kd.int), p ∈ mput (mapOfRows (List.take l.length (List.drop 0 l))) k ((mget (mapOfRows (List.take l.length (List.drop 0 l))) k).getD (V.enc Kd.int).dflt) → inR p.fst) (Out.all Nat fun y => Out.fin (.tup [.agg [.int .i64 d, .int .i64 k, .int .i64 ((mget (mapOfRows (List.take l.length (List.drop 0 l))) k).getD (V.enc Kd.int).dflt), .bool (mget (mapOfRows (List.take l.length (List.drop 0 l))) k).isSome], .sl false 14 0 2 (rowsOf (mput (mapOfRows (List.take l.length (List.drop 0 l))) k ((mget (mapOfRows (List.take l.length (List.drop 0 l))) k).getD (V.enc Kd.int).dflt))).length ((rowsOf (mput (mapOfRows (List.take l.length (List.drop 0 l))) k ((mget (mapOfRows (List.take l.length (List.drop 0 l))) k).getD (V.enc Kd.int).dflt))).length + y)]) [(14, .arr 27 Kd.pr (rowsOf (mput (mapOfRows (List.take l.length (List.drop 0 l))) k ((mget (mapOfRows (List.take l.length (List.drop 0 l))) k).getD (V.enc Kd.int).dflt))) y), (12, .cells 35 [.int .i64 d, .int .i64 k, .int .i64 ((mget (mapOfRows (List.take l.length (List.drop 0 l))) k).getD (V.enc Kd.int).dflt), .bool (mget (mapOfRows (List.take l.length (List.drop 0 l))) k).isSome]), (10, .cells 35 [.int .i64 d, .int .i64 k, .int .i64 ((mget (mapOfRows (List.take l.length (List.drop 0 l))) k).getD (V.enc Kd.int).dflt), .bool (mget (mapOfRows (List.take l.length (List.drop 0 l))) k).isSome]), (7, .cells 35 [.int .i64 d, .int .i64 k, .int .i64 ((mget (mapOfRows (List.take l.length (List.drop 0 l))) k).getD (V.enc Kd.int).dflt), .bool (mget (mapOfRows (List.take l.length (List.drop 0 l))) k).isSome]), (6, .cells 35 [.int .i64 d, .int .i64 k, .int .i64 ((mget (mapOfRows (List.take l.length (List.drop 0 l))) k).getD (V.enc Kd.int).dflt), .bool (mget (mapOfRows (List.take l.length (List.drop 0 l))) k).isSome]), (5, .mp .i64 Kd.int (mput (mapOfRows (List.take l.length (List.drop 0 l))) k ((mget (mapOfRows (List.take l.length (List.drop 0 l))) k).getD (V.enc Kd.int).dflt))), (4, .cells 35 [.int .i64 d, .int .i64 k, .int .i64 ((mget (mapOfRows (List.take l.length (List.drop 0 l))) k).getD (V.enc Kd.int).dflt), .bool (mget (mapOfRows (List.take l.length (List.drop 0 l))) k).isSome]), (0, .ro Kd.pr l)] 16)) (Out.ite (d == 3) (Out.ite (d == 3) (Out.need ((mdel (mapOfRows (List.take l.length (List.drop 0 l))) k).length ≤ 1099511627776 ∧ ∀ (p : Int × V.El Kd.int), p ∈ mdel (mapOfRows (List.take l.length (List.drop 0 l))) k → inR p.fst) (Out.all Nat fun y => Out.fin (.tup [.agg [.int .i64 d, .int .i64 k, .int .i64 ((mget (mapOfRows (List.take l.length (List.drop 0 l))) k).getD (V.enc Kd.int).dflt), .bool (mget (mapOfRows (List.take l.length (List.drop 0 l))) k).isSome], .sl false 14 0 2 (rowsOf (mdel (mapOfRows (List.take l.length (List.drop 0 l))) k)).length ((rowsOf (mdel (mapOfRows (List.take l.length (List.drop 0 l))) k)).length + y)]) [(14, .arr 27 Kd.pr (rowsOf (mdel (mapOfRows (List.take l.length (List.drop 0 l))) k)) y), (12, .cells 35 [.int .i64 d, .int .i64 k, .int .i64 ((mget (mapOfRows (List.take l.length (List.drop 0 l))) k).getD (V.enc Kd.int).dflt), .bool (mget (mapOfRows (List.take l.length (List.drop 0 l))) k).isSome]), (10, .cells 35 [.int .i64 d, .int .i64 k, .int .i64 ((mget (mapOfRows (List.take l.length (List.drop 0 l))) k).getD (V.enc Kd.int).dflt), .bool (mget (mapOfRows (List.take l.length (List.drop 0 l))) k).isSome]), (7, .cells 35 [.int .i64 d, .int .i64 k, .int .i64 ((mget (mapOfRows (List.take l.length (List.drop 0 l))) k).getD (V.enc Kd.int).dflt), .bool (mget (mapOfRows (List.take l.length (List.drop 0 l))) k).isSome]), (6, .cells 35 [.int .i64 d, .int .i64 k, .int .i64 ((mget (mapOfRows (List.take l.length (List.drop 0 l))) k).getD (V.enc Kd.int).dflt), .bool (mget (mapOfRows (List.take l.length (List.drop 0 l))) k).isSome]), (5, .mp .i64 Kd.int (mdel (mapOfRows (List.take l.length (List.drop 0 l))) k)), (4, .cells 35 [.int .i64 d, .int .i64 k, .int .i64 ((mget (mapOfRows (List.take l.length (List.drop 0 l))) k).getD (V.enc Kd.int).dflt), .bool (mget (mapOfRows (List.take l.length (List.drop 0 l))) k).isSome]), (0, .ro Kd.pr l)] 16)) (Out.need (List.length (mapOfRows (List.take l.length (List.drop 0 l))) ≤ 1099511627776 ∧ ∀ (p : Int × V.El Kd.int), p ∈ mapOfRows (List.take l.length (List.drop 0 l)) → inR p.fst) (Out.all Nat fun y => Out.fin (.tup [.agg [.int .i64 d, .int .i64 k, .int .i64 ((mget (mapOfRows (List.take l.length (List.drop 0 l))) k).getD (V.enc Kd.int).dflt), .bool (mget (mapOfRows (List.take l.length (List.drop 0 l))) k).isSome], .sl false 13 0 2 (rowsOf (mapOfRows (List.take l.length (List.drop 0 l)))).length ((rowsOf (mapOfRows (List.take l.length (List.drop 0 l)))).length + y)]) [(13, .arr 27 Kd.pr (rowsOf (mapOfRows (List.take l.length (List.drop 0 l)))) y), (12, .cells 35 [.int .i64 d, .int .i64 k, .int .i64 ((mget (mapOfRows (List.take l.length (List.drop 0 l))) k).getD (V.enc Kd.int).dflt), .bool (mget (mapOfRows (List.take l.length (List.drop 0 l))) k).isSome]), (10, .cells 35 [.int .i64 d, .int .i64 k, .int .i64 ((mget (mapOfRows (List.take l.length (List.drop 0 l))) k).getD (V.enc Kd.int).dflt), .bool (mget (mapOfRows (List.take l.length (List.drop 0 l))) k).isSome]), (7, .cells 35 [.int .i64 d, .int .i64 k, .int .i64 ((mget (mapOfRows (List.take l.length (List.drop 0 l))) k).getD (V.enc Kd.int).dflt), .bool (mget (mapOfRows (List.take l.length (List.drop 0 l))) k).isSome]), (6, .cells 35 [.int .i64 d, .int .i64 k, .int .i64 ((mget (mapOfRows (List.take l.length (List.drop 0 l))) k).getD (V.enc Kd.int).dflt), .bool (mget (mapOfRows (List.take l.length (List.drop 0 l))) k).isSome]), (5, .mp .i64 Kd.int (mapOfRows (List.take l.length (List.drop 0 l)))), (4, .cells 35 [.int .i64 d, .int .i64 k, .int .i64 ((mget (mapOfRows (List.take l.length (List.drop 0 l))) k).getD (V.enc Kd.int).dflt), .bool (mget (mapOfRows (List.take l.length (List.drop 0 l))) k).isSome]), (0, .ro Kd.pr l)] 15))) (Out.ite (d == 4) (Out.need ((mdel (mapOfRows (List.take l.length (List.drop 0 l))) k).length ≤ 1099511627776 ∧ ∀ (p : Int × V.El Kd.int), p ∈ mdel (mapOfRows (List.take l.length (List.drop 0 l))) k → inR p.fst) (Out.all Nat fun y => Out.fin (.tup [.agg [.int .i64 d, .int .i64 k, .int .i64 ((mget (mapOfRows (List.take l.length (List.drop 0 l))) k).getD (V.enc Kd.int).dflt), .bool (mget (mapOfRows (List.take l.length (List.drop 0 l))) k).isSome], .sl false 14 0 2 (rowsOf (mdel (mapOfRows (List.take l.length (List.drop 0 l))) k)).length ((rowsOf (mdel (mapOfRows (List.take l.length (List.drop 0 l))) k)).length + y)]) [(14, .arr 27 Kd.pr (rowsOf (mdel (mapOfRows (List.take l.length (List.drop 0 l))) k)) y), (12, .cells 35 [.int .i64 d, .int .i64 k, .int .i64 ((mget (mapOfRows (List.take l.length (List.drop 0 l))) k).getD (V.enc Kd.int).dflt), .bool (mget (mapOfRows (List.take l.length (List.drop 0 l))) k).isSome]), (10, .cells 35 [.int .i64 d, .int .i64 k, .int .i64 ((mget (mapOfRows (List.take l.length (List.drop 0 l))) k).getD (V.enc Kd.int).dflt), .bool (mget (mapOfRows (List.take l.length (List.drop 0 l))) k).isSome]), (7, .cells 35 [.int .i64 d, .int .i64 k, .int .i64 ((mget (mapOfRows (List.take l.length (List.drop 0 l))) k).getD (V.enc Kd.int).dflt), .bool (mget (mapOfRows (List.take l.length (List.drop 0 l))) k).isSome]), (6, .cells 35 [.int .i64 d, .int .i64 k, .int .i64 ((mget (mapOfRows (List.take l.length (List.drop 0 l))) k).getD (V.enc Kd.int).dflt), .bool (mget (mapOfRows (List.take l.length (List.drop 0 l))) k).isSome]), (5, .mp .i64 Kd.int (mdel (mapOfRows (List.take l.length (List.drop 0 l))) k)), (4, .cells 35 [.int .i64 d, .int .i64 k, .int .i64 ((mget (mapOfRows (List.take l.length (List.drop 0 l))) k).getD (V.enc Kd.int).dflt), .bool (mget (mapOfRows (List.take l.length (List.drop 0 l))) k).isSome]), (0, .ro Kd.pr l)] 16)) (Out.need (List.length (mapOfRows (List.take l.length (List.drop 0 l))) ≤ 1099511627776 ∧ ∀ (p : Int × V.El Kd.int), p ∈ mapOfRows (List.take l.length (List.drop 0 l)) → inR p.fst) (Out.all Nat fun y => Out.fin (.tup [.agg [.int .i64 d, .int .i64 k, .int .i64 ((mget (mapOfRows (List.take l.length (List.drop 0 l))) k).getD (V.enc Kd.int).dflt), .bool (mget (mapOfRows (List.take l.length (List.drop 0 l))) k).isSome], .sl false 13 0 2 (rowsOf (mapOfRows (List.take l.length (List.drop 0 l)))).length ((rowsOf (mapOfRows (List.take l.length (List.drop 0 l)))).length + y)]) [(13, .arr 27 Kd.pr (rowsOf (mapOfRows (List.take l.length (List.drop 0 l)))) y), (12, .cells 35 [.int .i64 d, .int .i64 k, .int .i64 ((mget (mapOfRows (List.take l.length (List.drop 0 l))) k).getD (V.enc Kd.int).dflt), .bool (mget (mapOfRows (List.take l.length (List.drop 0 l))) k).isSome]), (10, .cells 35 [.int .i64 d, .int .i64 k, .int .i64 ((mget (mapOfRows (List.take l.length (List.drop 0 l))) k).getD (V.enc Kd.int).dflt), .bool (mget (mapOfRows (List.take l.length (List.drop 0 l))) k).isSome]), (7, .cells 35 [.int .i64 d, .int .i64 k, .int .i64 ((mget (mapOfRows (List.take l.length (List.drop 0 l))) k).getD (V.enc Kd.int).dflt), .bool (mget (mapOfRows (List.take l.length (List.drop 0 l))) k).isSome]), (6, .cells 35 [.int .i64 d, .int .i64 k, .int .i64 ((mget (mapOfRows (List.take l.length (List.drop 0 l))) k).getD (V.enc Kd.int).dflt), .bool (mget (mapOfRows (List.take l.length (List.drop 0 l))) k).isSome]), (5, .mp .i64 Kd.int (mapOfRows (List.take l.length (List.drop 0 l)))), (4, .cells 35 [.int .i64 d, .int .i64 k, .int .i64 ((mget (mapOfRows (List.take l.length (List.drop 0 l))) k).getD (V.enc Kd.int).dflt), .bool (mget (mapOfRows (List.take l.length (List.drop 0 l))) k).isSome]), (0, .ro Kd.pr l)] 15)))))) (Out.need (List.length (mapOfRows (List.take l.length (List.drop 0 l))) ≤ 1099511627776 ∧ ∀ (p : Int × V.El Kd.int), p ∈ mapOfRows (List.take l.length (List.drop 0 l)) → inR p.fst) (Out.all Nat fun y => Out.fin (.tup [.agg [.lit .i64 0, .lit .i64 0, .lit .i64 0, .ff], .sl false 12 0 2 (rowsOf (mapOfRows (List.take l.length (List.drop 0 l)))).length ((rowsOf (mapOfRows (List.take l.length (List.drop 0 l)))).length + y)]) [(12, .arr 27 Kd.pr (rowsOf (mapOfRows (List.take l.length (List.drop 0 l)))) y), (10, .cells 35 [.lit .i64 0, .lit .i64 0, .lit .i64 0, .ff]), (7, .cells 35 [.int .i64 d, .int .i64 k, .int .i64 ((mget (mapOfRows (List.take l.length (List.drop 0 l))) k).getD (V.enc Kd.int).dflt), .bool (mget (mapOfRows (List.take l.length (List.drop 0 l))) k).isSome]), (6, .cells 35 [.lit .i64 0, .lit .i64 0, .lit .i64 0, .ff]), (5, .mp .i64 Kd.int (mapOfRows (List.take l.length (List.drop 0 l)))), (4, .cells 35 [.lit .i64 0, .lit .i64 0, .lit .i64 0, .ff]), (0, .ro Kd.pr l)] 14)))) (Out.ite (d == 3) (Out.ite (d == 2) (Out.need ((mput (mapOfRows (List.take l.length (List.drop 0 l))) k ((mget (mapOfRows (List.take l.length (List.drop 0 l))) k).getD (V.enc Kd.int).dflt)).length ≤ 1099511627776 ∧ ∀ (p : Int × V.El Kd.int), p ∈ mput (mapOfRows (List.take l.length (List.drop 0 l))) k ((mget (mapOfRows (List.take l.length (List.drop 0 l))) k).getD (V.enc Kd.int).dflt) → inR p.fst) (Out.all Nat fun y => Out.fin (.tup [.agg [.int .i64 d, .int .i64 k, .int .i64 ((mget (mapOfRows (List.take l.length (List.drop 0 l))) k).getD (V.enc Kd.int).dflt), .bool (mget (mapOfRows (List.take l.length (List.drop 0 l))) k).isSome], .sl false 14 0 2 (rowsOf (mput (mapOfRows (List.take l.length (List.drop 0 l))) k ((mget (mapOfRows (List.take l.length (List.drop 0 l))) k).getD (V.enc Kd.int).dflt))).length ((rowsOf (mput (mapOfRows (List.take l.length (List.drop 0 l))) k ((mget (mapOfRows (List.take l.length (List.drop 0 l))) k).getD (V.enc Kd.int).dflt))).length + y)]) [(14, .arr 27 Kd.pr (rowsOf (mput (mapOfRows (List.take l.length (List.drop 0 l))) k ((mget (mapOfRows (List.take l.length (List.drop 0 l))) k).getD (V.enc Kd.int).dflt))) y), (12, .cells 35 [.int .i64 d, .int .i64 k, .int .i64 ((mget (mapOfRows (List.take l.length (List.drop 0 l))) k).getD (V.enc Kd.int).dflt), .bool (mget (mapOfRows (List.take l.length (List.drop 0 l))) k).isSome]), (10, .cells 35 [.int .i64 d, .int .i64 k, .int .i64 ((mget (mapOfRows (List.take l.length (List.drop 0 l))) k).getD (V.enc Kd.int).dflt), .bool (mget (mapOfRows (List.take l.length (List.drop 0 l))) k).isSome]), (7, .cells 35 [.int .i64 d, .int .i64 k, .int .i64 ((mget (mapOfRows (List.take l.length (List.drop 0 l))) k).getD (V.enc Kd.int).dflt), .bool (mget (mapOfRows (List.take l.length (List.drop 0 l))) k).isSome]), (6, .cells 35 [.int .i64 d, .int .i64 k, .int .i64 ((mget (mapOfRows (List.take l.length (List.drop 0 l))) k).getD (V.enc Kd.int).dflt), .bool (mget (mapOfRows (List.take l.length (List.drop 0 l))) k).isSome]), (5, .mp .i64 Kd.int (mput (mapOfRows (List.take l.length (List.drop 0 l))) k ((mget (mapOfRows (List.take l.length (List.drop 0 l))) k).getD (V.enc Kd.int).dflt))), (4, .cells 35 [.int .i64 d, .int .i64 k, .int .i64 ((mget (mapOfRows (List.take l.length (List.drop 0 l))) k).getD (V.enc Kd.int).dflt), .bool (mget (mapOfRows (List.take l.length (List.drop 0 l))) k).isSome]), (0, .ro Kd.pr l)] 16)) (Out.ite (d == 3) (Out.ite (d == 3) (Out.need ((mdel (mapOfRows (List.take l.length (List.drop 0 l))) k).length ≤ 1099511627776 ∧ ∀ (p : Int × V.El Kd.int), p ∈ mdel (mapOfRows (List.take l.length (List.drop 0 l))) k → inR p.fst) (Out.all Nat fun y => Out.fin (.tup [.agg [.int .i64 d, .int .i64 k, .int .i64 ((mget (mapOfRows (List.take l.length (List.drop 0 l))) k).getD (V.enc Kd.int).dflt), .bool (mget (mapOfRows (List.take l.length (List.drop 0 l))) k).isSome], .sl false 14 0 2 (rowsOf (mdel (mapOfRows (List.take l.length (List.drop 0 l))) k)).length ((rowsOf (mdel (mapOfRows (List.take l.length (List.drop 0 l))) k)).length + y)]) [(14, .arr 27 Kd.pr (rowsOf (mdel (mapOfRows (List.take l.length (List.drop 0 l))) k)) y), (12, .cells 35 [.int .i64 d, .int .i64 k, .int .i64 ((mget (mapOfRows (List.take l.length (List.drop 0 l))) k).getD (V.enc Kd.int).dflt), .bool (mget (mapOfRows (List.take l.length (List.drop 0 l))) k).isSome]), (10, .cells 35 [.int .i64 d, .int .i64 k, .int .i64 ((mget (mapOfRows (List.take l.length (List.drop 0 l))) k).getD (V.enc Kd.int).dflt), .bool (mget (mapOfRows (List.take l.length (List.drop 0 l))) k).isSome]), (7, .cells 35 [.int .i64 d, .int .i64 k, .int .i64 ((mget (mapOfRows (List.take l.length (List.drop 0 l))) k).getD (V.enc Kd.int).dflt), .bool (mget (mapOfRows (List.take l.length (List.drop 0 l))) k).isSome]), (6, .cells 35 [.int .i64 d, .int .i64 k, .int .i64 ((mget (mapOfRows (List.take l.length (List.drop 0 l))) k).getD (V.enc Kd.int).dflt), .bool (mget (mapOfRows (List.take l.length (List.drop 0 l))) k).isSome]), (5, .mp .i64 Kd.int (mdel (mapOfRows (List.take l.length (List.drop 0 l))) k)), (4, .cells 35 [.int .i64 d, .int .i64 k, .int .i64 ((mget (mapOfRows (List.take l.length (List.drop 0 l))) k).getD (V.enc Kd.int).dflt), .bool (mget (mapOfRows (List.take l.length (List.drop 0 l))) k).isSome]), (0, .ro Kd.pr l)] 16)) (Out.need (List.length (mapOfRows (List.take l.length (List.drop 0 l))) ≤ 1099511627776 ∧ ∀ (p : Int × V.El Kd.int), p ∈ mapOfRows (List.take l.length (List.drop 0 l)) → inR p.fst) (Out.all Nat fun y => Out.fin (.tup [.agg [.int .i64 d, .int .i64 k, .int .i64 ((mget (mapOfRows (List.take l.length (List.drop 0 l))) k).getD (V.enc Kd.int).dflt), .bool (mget (mapOfRows (List.take l.length (List.drop 0 l))) k).isSome], .sl false 13 0 2 (rowsOf (mapOfRows (List.take l.length (List.drop 0 l)))).length ((rowsOf (mapOfRows (List.take l.length (List.drop 0 l)))).length + y)]) [(13, .arr 27 Kd.pr (rowsOf (mapOfRows (List.take l.length (List.drop 0 l)))) y), (12, .cells 35 [.int .i64 d, .int .i64 k, .int .i64 ((mget (mapOfRows (List.take l.length (List.drop 0 l))) k).getD (V.enc Kd.int).dflt), .bool (mget (mapOfRows (List.take l.length (List.drop 0 l))) k).isSome]), (10, .cells 35 [.int .i64 d, .int .i64 k, .int .i64 ((mget (mapOfRows (List.take l.length (List.drop 0 l))) k).getD (V.enc Kd.int).dflt), .bool (mget (mapOfRows (List.take l.length (List.drop 0 l))) k).isSome]), (7, .cells 35 [.int .i64 d, .int .i64 k, .int .i64 ((mget (mapOfRows (List.take l.length (List.drop 0 l))) k).getD (V.enc Kd.int).dflt), .bool (mget (mapOfRows (List.take l.length (List.drop 0 l))) k).isSome]), (6, .cells 35 [.int .i64 d, .int .i64 k, .int .i64 ((mget (mapOfRows (List.take l.length (List.drop 0 l))) k).getD (V.enc Kd.int).dflt), .bool (mget (mapOfRows (List.take l.length (List.drop 0 l))) k).isSome]), (5, .mp .i64 Kd.int (mapOfRows (List.take l.length (List.drop 0 l)))), (4, .cells 35 [.int .i64 d, .int .i64 k, .int .i64 ((mget (mapOfRows (List.take l.length (List.drop 0 l))) k).getD (V.enc Kd.int).dflt), .bool (mget (mapOfRows (List.take l.length (List.drop 0 l))) k).isSome]), (0, .ro Kd.pr l)] 15))) (Out.ite (d == 4) (Out.need ((mdel (mapOfRows (List.take l.length (List.drop 0 l))) k).length ≤ 1099511627776 ∧ ∀ (p : Int × V.El Kd.int), p ∈ mdel (mapOfRows (List.take l.length (List.drop 0 l))) k → inR p.fst) (Out.all Nat fun y => Out.fin (.tup [.agg [.int .i64 d, .int .i64 k, .int .i64 ((mget (mapOfRows (List.take l.length (List.drop 0 l))) k).getD (V.enc Kd.int).dflt), .bool (mget (mapOfRows (List.take l.length (List.drop 0 l))) k).isSome], .sl false 14 0 2 (rowsOf (mdel (mapOfRows (List.take l.length (List.drop 0 l))) k)).length ((rowsOf (mdel (mapOfRows (List.take l.length (List.drop 0 l))) k)).length + y)]) [(14, .arr 27 Kd.pr (rowsOf (mdel (mapOfRows (List.take l.length (List.drop 0 l))) k)) y), (12, .cells 35 [.int .i64 d, .int .i64 k, .int .i64 ((mget (mapOfRows (List.take l.length (List.drop 0 l))) k).getD (V.enc Kd.int).dflt), .bool (mget (mapOfRows (List.take l.length (List.drop 0 l))) k).isSome]), (10, .cells 35 [.int .i64 d, .int .i64 k, .int .i64 ((mget (mapOfRows (List.take l.length (List.drop 0 l))) k).getD (V.enc Kd.int).dflt), .bool (mget (mapOfRows (List.take l.length (List.drop 0 l))) k).isSome]), (7, .cells 35 [.int .i64 d, .int .i64 k, .int .i64 ((mget (mapOfRows (List.take l.length (List.drop 0 l))) k).getD (V.enc Kd.int).dflt), .bool (mget (mapOfRows (List.take l.length (List.drop 0 l))) k).isSome]), (6, .cells 35 [.int .i64 d, .int .i64 k, .int .i64 ((mget (mapOfRows (List.take l.length (List.drop 0 l))) k).getD (V.enc Kd.int).dflt), .bool (mget (mapOfRows (List.take l.length (List.drop 0 l))) k).isSome]), (5, .mp .i64 Kd.int (mdel (mapOfRows (List.take l.length (List.drop 0 l))) k)), (4, .cells 35 [.int .i64 d, .int .i64 k, .int .i64 ((mget (mapOfRows (List.take l.length (List.drop 0 l))) k).getD (V.enc Kd.int).dflt), .bool (mget (mapOfRows (List.take l.length (List.drop 0 l))) k).isSome]), (0, .ro Kd.pr l)] 16)) (Out.need (List.length (mapOfRows (List.take l.length (List.drop 0 l))) ≤ 1099511627776 ∧ ∀ (p : Int × V.El Kd.int), p ∈ mapOfRows (List.take l.length (List.drop 0 l)) → inR p.fst) (Out.all Nat fun y => Out.fin (.tup [.agg [.int .i64 d, .int .i64 k, .int .i64 ((mget (mapOfRows (List.take l.length (List.drop 0 l))) k).getD (V.enc Kd.int).dflt), .bool (mget (mapOfRows (List.take l.length (List.drop 0 l))) k).isSome], .sl false 13 0 2 (rowsOf (mapOfRows (List.take l.length (List.drop 0 l)))).length ((rowsOf (mapOfRows (List.take l.length (List.drop 0 l)))).length + y)]) [(13, .arr 27 Kd.pr (rowsOf (mapOfRows (List.take l.length (List.drop 0 l)))) y), (12, .cells 35 [.int .i64 d, .int .i64 k, .int .i64 ((mget (mapOfRows (List.take l.length (List.drop 0 l))) k).getD (V.enc Kd.int).dflt), .bool (mget (mapOfRows (List.take l.length (List.drop 0 l))) k).isSome]), (10, .cells 35 [.int .i64 d, .int .i64 k, .int .i64 ((mget (mapOfRows (List.take l.length (List.drop 0 l))) k).getD (V.enc Kd.int).dflt), .bool (mget (mapOfRows (List.take l.length (List.drop 0 l))) k).isSome]), (7, .cells 35 [.int .i64 d, .int .i64 k, .int .i64 ((mget (mapOfRows (List.take l.length (List.drop 0 l))) k).getD (V.enc Kd.int).dflt), .bool (mget (mapOfRows (List.take l.length (List.drop 0 l))) k).isSome]), (6, .cells 35 [.int .i64 d, .int .i64 k, .int .i64 ((mget (mapOfRows (List.take l.length (List.drop 0 l))) k).getD (V.enc Kd.int).dflt), .bool (mget (mapOfRows (List.take l.length (List.drop 0 l))) k).isSome]), (5, .mp .i64 Kd.int (mapOfRows (List.take l.length (List.drop 0 l)))), (4, .cells 35 [.int .i64 d, .int .i64 k, .int .i64 ((mget (mapOfRows (List.take l.length (List.drop 0 l))) k).getD (V.enc Kd.int).dflt), .bool (mget (mapOfRows (List.take l.length (List.drop 0 l))) k).isSome]), (0, .ro Kd.pr l)] 15))))) (Out.ite (d == 4) (Out.ite (!(mget (mapOfRows (List.take l.length (List.drop 0 l))) k).isSome) (Out.need (List.length (mapOfRows (List.take l.length (List.drop 0 l))) ≤ 1099511627776 ∧ ∀ (p : Int × V.El Kd.int), p ∈ mapOfRows (List.take l.length (List.drop 0 l)) → inR p.fst) (Out.all Nat fun y => Out.fin (.tup [.agg [.lit .i64 0, .lit .i64 0, .lit .i64 0, .ff], .sl false 12 0 2 (rowsOf (mapOfRows (List.take l.length (List.drop 0 l)))).length ((rowsOf (mapOfRows (List.take l.length (List.drop 0 l)))).length + y)]) [(12, .arr 27 Kd.pr (rowsOf (mapOfRows (List.take l.length (List.drop 0 l)))) y), (10, .cells 35 [.int .i64 d, .int .i64 k, .int .i64 ((mget (mapOfRows (List.take l.length (List.drop 0 l))) k).getD (V.enc Kd.int).dflt), .bool (mget (mapOfRows (List.take l.length (List.drop 0 l))) k).isSome]), (7, .cells 35 [.int .i64 d, .int .i64 k, .int .i64 ((mget (mapOfRows (List.take l.length (List.drop 0 l))) k).getD (V.enc Kd.int).dflt), .bool (mget (mapOfRows (List.take l.length (List.drop 0 l))) k).isSome]), (6, .cells 35 [.int .i64 d, .int .i64 k, .int .i64 ((mget (mapOfRows (List.take l.length (List.drop 0 l))) k).getD (V.enc Kd.int).dflt), .bool (mget (mapOfRows (List.take l.length (List.drop 0 l))) k).isSome]), (5, .mp .i64 Kd.int (mapOfRows (List.take l.length (List.drop 0 l)))), (4, .cells 35 [.lit .i64 0, .lit .i64 0, .lit .i64 0, .ff]), (0, .ro Kd.pr l)] 14)) (Out.ite (d == 2) (Out.need ((mput (mapOfRows (List.take l.length (List.drop 0 l))) k ((mget (mapOfRows (List.take l.length (List.drop 0 l))) k).getD (V.enc Kd.int).dflt)).length ≤ 1099511627776 ∧ ∀ (p : Int × V.El Kd.int), p ∈ mput (mapOfRows (List.take l.length (List.drop 0 l))) k ((mget (mapOfRows (List.take l.length (List.drop 0 l))) k).getD (V.enc Kd.int).dflt) → inR p.fst) (Out.all Nat fun y => Out.fin (.tup [.agg [.int .i64 d, .int .i64 k, .int .i64 ((mget (mapOfRows (List.take l.length (List.drop 0 l))) k).getD (V.enc Kd.int).dflt), .bool (mget (mapOfRows (List.take l.length (List.drop 0 l))) k).isSome], .sl false 14 0 2 (rowsOf (mput (mapOfRows (List.take l.length (List.drop 0 l))) k ((mget (mapOfRows (List.take l.length (List.drop 0 l))) k).getD (V.enc Kd.int).dflt))).length ((rowsOf (mput (mapOfRows (List.take l.length (List.drop 0 l))) k ((mget (mapOfRows (List.take l.length (List.drop 0 l))) k).getD (V.enc Kd.int).dflt))).length + y)]) [(14, .arr 27 Kd.pr (rowsOf (mput (mapOfRows (List.take l.length (List.drop 0 l))) k ((mget (mapOfRows (List.take l.length (List.drop 0 l))) k).getD (V.enc Kd.int).dflt))) y), (12, .cells 35 [.int .i64 d, .int .i64 k, .int .i64 ((mget (mapOfRows (List.take l.length (List.drop 0 l))) k).getD (V.enc Kd.int).dflt), .bool (mget (mapOfRows (List.take l.length (List.drop 0 l))) k).isSome]), (10, .cells 35 [.int .i64 d, .int .i64 k, .int .i64 ((mget (mapOfRows (List.take l.length (List.drop 0 l))) k).getD (V.enc Kd.int).dflt), .bool (mget (mapOfRows (List.take l.length (List.drop 0 l))) k).isSome]), (7, .cells 35 [.int .i64 d, .int .i64 k, .int .i64 ((mget (mapOfRows (List.take l.length (List.drop 0 l))) k).getD (V.enc Kd.int).dflt), .bool (mget (mapOfRows (List.take l.length (List.drop 0 l))) k).isSome]), (6, .cells 35 [.int .i64 d, .int .i64 k, .int .i64 ((mget (mapOfRows (List.take l.length (List.drop 0 l))) k).getD (V.enc Kd.int).dflt), .bool (mget (mapOfRows (List.take l.length (List.drop 0 l))) k).isSome]), (5, .mp .i64 Kd.int (mput (mapOfRows (List.take l.length (List.drop 0 l))) k ((mget (mapOfRows (List.take l.length (List.drop 0 l))) k).getD (V.enc Kd.int).dflt))), (4, .cells 35 [.int .i64 d, .int .i64 k, .int .i64 ((mget (mapOfRows (List.take l.length (List.drop 0 l))) k).getD (V.enc Kd.int).dflt), .bool (mget (mapOfRows (List.take l.length (List.drop 0 l))) k).isSome]), (0, .ro Kd.pr l)] 16)) (Out.ite (d == 3) (Out.ite (d == 3) (Out.need ((mdel (mapOfRows (List.take l.length (List.drop 0 l))) k).length ≤ 1099511627776 ∧ ∀ (p : Int × V.El Kd.int), p ∈ mdel (mapOfRows (List.take l.length (List.drop 0 l))) k → inR p.fst) (Out.all Nat fun y => Out.fin (.tup [.agg [.int .i64 d, .int .i64 k, .int .i64 ((mget (mapOfRows (List.take l.length (List.drop 0 l))) k).getD (V.enc Kd.int).dflt), .bool (mget (mapOfRows (List.take l.length (List.drop 0 l))) k).isSome], .sl false 14 0 2 (rowsOf (mdel (mapOfRows (List.take l.length (List.drop 0 l))) k)).length ((rowsOf (mdel (mapOfRows (List.take l.length (List.drop 0 l))) k)).length + y)]) [(14, .arr 27 Kd.pr (rowsOf (mdel (mapOfRows (List.take l.length (List.drop 0 l))) k)) y), (12, .cells 35 [.int .i64 d, .int .i64 k, .int .i64 ((mget (mapOfRows (List.take l.length (List.drop 0 l))) k).getD (V.enc Kd.int).dflt), .bool (mget (mapOfRows (List.take l.length (List.drop 0 l))) k).isSome]), (10, .cells 35 [.int .i64 d, .int .i64 k, .int .i64 ((mget (mapOfRows (List.take l.length (List.drop 0 l))) k).getD (V.enc Kd.int).dflt), .bool (mget (mapOfRows (List.take l.length (List.drop 0 l))) k).isSome]), (7, .cells 35 [.int .i64 d, .int .i64 k, .int .i64 ((mget (mapOfRows (List.take l.length (List.drop 0 l))) k).getD (V.enc Kd.int).dflt), .bool (mget (mapOfRows (List.take l.length (List.drop 0 l))) k).isSome]), (6, .cells 35 [.int .i64 d, .int .i64 k, .int .i64 ((mget (mapOfRows (List.take l.length (List.drop 0 l))) k).getD (V.enc Kd.int).dflt), .bool (mget (mapOfRows (List.take l.length (List.drop 0 l))) k).isSome]), (5, .mp .i64 Kd.int (mdel (mapOfRows (List.take l.length (List.drop 0 l))) k)), (4, .cells 35 [.int .i64 d, .int .i64 k, .int .i64 ((mget (mapOfRows (List.take l.length (List.drop 0 l))) k).getD (V.enc Kd.int).dflt), .bool (mget (mapOfRows (List.take l.length (List.drop 0 l))) k).isSome]), (0, .ro Kd.pr l)] 16)) (Out.need (List.length (mapOfRows (List.take l.length (List.drop 0 l))) ≤ 1099511627776 ∧ ∀ (p : Int × V.El Kd.int), p ∈ mapOfRows (List.take l.length (List.drop 0 l)) → inR p.fst) (Out.all Nat fun y => Out.fin (.tup [.agg [.int .i64 d, .int .i64 k, .int .i64 ((mget (mapOfRows (List.take l.length (List.drop 0 l))) k).getD (V.enc Kd.int).dflt), .bool (mget (mapOfRows (List.take l.length (List.drop 0 l))) k).isSome], .sl false 13 0 2 (rowsOf (mapOfRows (List.take l.length (List.drop 0 l)))).length ((rowsOf (mapOfRows (List.take l.length (List.drop 0 l)))).length + y)]) [(13, .arr 27 Kd.pr (rowsOf (mapOfRows (List.take l.length (List.drop 0 l)))) y), (12, .cells 35 [.int .i64 d, .int .i64 k, .int .i64 ((mget (mapOfRows (List.take l.length (List.drop 0 l))) k).getD (V.enc Kd.int).dflt), .bool (mget (mapOfRows (List.take l.length (List.drop 0 l))) k).isSome]), (10, .cells 35 [.int .i64 d, .int .i64 k, .int .i64 ((mget (mapOfRows (List.take l.length (List.drop 0 l))) k).getD (V.enc Kd.int).dflt), .bool (mget (mapOfRows (List.take l.length (List.drop 0 l))) k).isSome]), (7, .cells 35 [.int .i64 d, .int .i64 k, .int .i64 ((mget (mapOfRows (List.take l.length (List.drop 0 l))) k).getD (V.enc Kd.int).dflt), .bool (mget (mapOfRows (List.take l.length (List.drop 0 l))) k).isSome]), (6, .cells 35 [.int .i64 d, .int .i64 k, .int .i64 ((mget (mapOfRows (List.take l.length (List.drop 0 l))) k).getD (V.enc Kd.int).dflt), .bool (mget (mapOfRows (List.take l.length (List.drop 0 l))) k).isSome]), (5, .mp .i64 Kd.int (mapOfRows (List.take l.length (List.drop 0 l)))), (4, .cells 35 [.int .i64 d, .int .i64 k, .int .i64 ((mget (mapOfRows (List.take l.length (List.drop 0 l))) k).getD (V.enc Kd.int).dflt), .bool (mget (mapOfRows (List.take l.length (List.drop 0 l))) k).isSome]), (0, .ro Kd.pr l)] 15))) (Out.ite (d == 4) (Out.need ((mdel (mapOfRows (List.take l.length (List.drop 0 l))) k).length ≤ 1099511627776 ∧ ∀ (p : Int × V.El Kd.int), p ∈ mdel (mapOfRows (List.take l.length (List.drop 0 l))) k → inR p.fst) (Out.all Nat fun y => Out.fin (.tup [.agg [.int .i64 d, .int .i64 k, .int .i64 ((mget (mapOfRows (List.take l.length (List.drop 0 l))) k).getD (V.enc Kd.int).dflt), .bool (mget (mapOfRows (List.take l.length (List.drop 0 l))) k).isSome], .sl false 14 0 2 (rowsOf (mdel (mapOfRows (List.take l.length (List.drop 0 l))) k)).length ((rowsOf (mdel (mapOfRows (List.take l.length (List.drop 0 l))) k)).length + y)]) [(14, .arr 27 Kd.pr (rowsOf (mdel (mapOfRows (List.take l.length (List.drop 0 l))) k)) y), (12, .cells 35 [.int .i64 d, .int .i64 k, .int .i64 ((mget (mapOfRows (List.take l.length (List.drop 0 l))) k).getD (V.enc Kd.int).dflt), .bool (mget (mapOfRows (List.take l.length (List.drop 0 l))) k).isSome]), (10, .cells 35 [.int .i64 d, .int .i64 k, .int .i64 ((mget (mapOfRows (List.take l.length (List.drop 0 l))) k).getD (V.enc Kd.int).dflt), .bool (mget (mapOfRows (List.take l.length (List.drop 0 l))) k).isSome]), (7, .cells 35 [.int .i64 d, .int .i64 k, .int .i64 ((mget (mapOfRows (List.take l.length (List.drop 0 l))) k).getD (V.enc Kd.int).dflt), .bool (mget (mapOfRows (List.take l.length (List.drop 0 l))) k).isSome]), (6, .cells 35 [.int .i64 d, .int .i64 k, .int .i64 ((mget (mapOfRows (List.take l.length (List.drop 0 l))) k).getD (V.enc Kd.int).dflt), .bool (mget (mapOfRows (List.take l.length (List.drop 0 l))) k).isSome]), (5, .mp .i64 Kd.int (mdel (mapOfRows (List.take l.length (List.drop 0 l))) k)), (4, .cells 35 [.int .i64 d, .int .i64 k, .int .i64 ((mget (mapOfRows (List.take l.length (List.drop 0 l))) k).getD (V.enc Kd.int).dflt), .bool (mget (mapOfRows (List.take l.length (List.drop 0 l))) k).isSome]), (0, .ro Kd.pr l)] 16)) (Out.need (List.length (mapOfRows (List.take l.length (List.drop 0 l))) ≤ 1099511627776 ∧ ∀ (p : Int × V.El Kd.int), p ∈ mapOfRows (List.take l.length (List.drop 0 l)) → inR p.fst) (Out.all Nat fun y => Out.fin (.tup [.agg [.int .i64 d, .int .i64 k, .int .i64 ((mget (mapOfRows (List.take l.length (List.drop 0 l))) k).getD (V.enc Kd.int).dflt), .bool (mget (mapOfRows (List.take l.length (List.drop 0 l))) k).isSome], .sl false 13 0 2 (rowsOf (mapOfRows (List.take l.length (List.drop 0 l)))).length ((rowsOf (mapOfRows (List.take l.length (List.drop 0 l)))).length + y)]) [(13, .arr 27 Kd.pr (rowsOf (mapOfRows (List.take l.length (List.drop 0 l)))) y), (12, .cells 35 [.int .i64 d, .int .i64 k, .int .i64 ((mget (mapOfRows (List.take l.length (List.drop 0 l))) k).getD (V.enc Kd.int).dflt), .bool (mget (mapOfRows (List.take l.length (List.drop 0 l))) k).isSome]), (10, .cells 35 [.int .i64 d, .int .i64 k, .int .i64 ((mget (mapOfRows (List.take l.length (List.drop 0 l))) k).getD (V.enc Kd.int).dflt), .bool (mget (mapOfRows (List.take l.length (List.drop 0 l))) k).isSome]), (7, .cells 35 [.int .i64 d, .int .i64 k, .int .i64 ((mget (mapOfRows (List.take l.length (List.drop 0 l))) k).getD (V.enc Kd.int).dflt), .bool (mget (mapOfRows (List.take l.length (List.drop 0 l))) k).isSome]), (6, .cells 35 [.int .i64 d, .int .i64 k, .int .i64 ((mget (mapOfRows (List.take l.length (List.drop 0 l))) k).getD (V.enc Kd.int).dflt), .bool (mget (mapOfRows (List.take l.length (List.drop 0 l))) k).isSome]), (5, .mp .i64 Kd.int (mapOfRows (List.take l.length (List.drop 0 l)))), (4, .cells 35 [.int .i64 d, .int .i64 k, .int .i64 ((mget (mapOfRows (List.take l.length (List.drop 0 l))) k).getD (V.enc Kd.int).dflt), .bool (mget (mapOfRows (List.take l.length (List.drop 0 l))) k).isSome]), (0, .ro Kd.pr l)] 15)))))) (Out.need (List.length (mapOfRows (List.take l.length (List.drop 0 l))) ≤ 1099511627776 ∧ ∀ (p : Int × V.El Kd.int), p ∈ mapOfRows (List.take l.length (List.drop 0 l)) → inR p.fst) (Out.all Nat fun y => Out.fin (.tup [.agg [.lit .i64 0, .lit .i64 0, .lit .i64 0, .ff], .sl false 12 0 2 (rowsOf (mapOfRows (List.take l.length (List.drop 0 l)))).length ((rowsOf (mapOfRows (List.take l.length (List.drop 0 l)))).length + y)]) [(12, .arr 27 Kd.pr (rowsOf (mapOfRows (List.take l.length (List.drop 0 l)))) y), (10, .cells 35 [.lit .i64 0, .lit .i64 0, .lit .i64 0, .ff]), (7, .cells 35 [.int .i64 d, .int .i64 k, .int .i64 ((mget (mapOfRows (List.take l.length (List.drop 0 l))) k).getD (V.enc Kd.int).dflt), .bool (mget (mapOfRows (List.take l.length (List.drop 0 l))) k).isSome]), (6, .cells 35 [.lit .i64 0, .lit .i64 0, .lit .i64 0, .ff]), (5, .mp .i64 Kd.int (mapOfRows (List.take l.length (List.drop 0 l)))), (4, .cells 35 [.lit .i64 0, .lit .i64 0, .lit .i64 0, .ff]), (0, .ro Kd.pr l)] 14))))))) := by kernel_rfl

theorem qts10 (l : List Com) (c : Nat) : runF cfgA0 60 10 Try.f10 [.sl false 0 0 4 l.length c] [(0, .ro Kd.com l)] 1 = Out.need (0 + l.length ≤ l.length) (Out.need ((List.take l.length (List.drop 0 l)).length ≤ 1099511627776) (Out.need (List.length (runM (List.take l.length (List.drop 0 l)) []).snd ≤ 1099511627776 ∧ ∀ (p : Int × V.El Kd.int), p ∈ (runM (List.take l.length (List.drop 0 l)) []).snd → inR p.fst) (Out.all Nat fun y => Out.fin (.sl false 2 0 2 (rowsOf (runM (List.take l.length (List.drop 0 l)) []).snd).length ((rowsOf (runM (List.take l.length (List.drop 0 l)) []).snd).length + y)) [(2, .arr 27 Kd.pr (rowsOf (runM (List.take l.length (List.drop 0 l)) []).snd) y), (1, .mp .i64 Kd.int (runM (List.take l.length (List.drop 0 l)) []).snd), (0, .ro Kd.com l)] 3))) := by kernel_rfl

theorem qts12 (l : List Com) (c : Nat) : runF cfgA0 60 12 Try.f12 [.sl false 0 0 4 l.length c] [(0, .ro Kd.com l)] 1 = Out.need (0 + l.length ≤ l.length) (Out.need ((List.take l.length (List.drop 0 l)).length ≤ 1073741824) (Out.all Nat fun y => Out.fin (.sl false 1 0 2 (runR (List.take l.length (List.drop 0 l)) []).snd.length ((runR (List.take l.length (List.drop 0 l)) []).snd.length + y)) [(1, .arr 27 Kd.pr (runR (List.take l.length (List.drop 0 l)) []).snd y), (0, .ro Kd.com l)] 2)) := by kernel_rfl

end Sx
end Go.Proofs.Ythabfkcmhffjoaa

/-
  Answer and State: what the functions do, and that both ways are alike.
-/
namespace Go.Proofs.Ythabfkcmhffjoaa
namespace Sx
open Go
set_option linter.unusedSimpArgs false
set_option linter.unusedVariables false

theorem hooksA0_ok : ∀ g H, hooksA0 g = some H → HookOk Try.prog g H := by
  intro g H h
  unfold hooksA0 at h
  split at h
  · cases h; exact hRows
  · cases h; exact hOf
  · cases h; exact hSpecRun
  · cases h; exact hRefRun
  · cases h; exact hQ11
  · cases h; exact hQ20
  · cases h; exact hQ17
  · cases h; exact hAnswer
  · cases h; exact hSpecLegal
  · cases h; exact hRefLegal
  · cases h; exact hSpecPlain
  · cases h; exact hRefPlain
  · cases h; exact hSpecEvicted
  · cases h; exact hRefEvicted
  · cases h
theorem cfgA0_ok : cfgA0.ok := by
  refine ⟨tab_met, kinds_met, mixed_met, fun g fn h => ?_, hooksA0_ok⟩
  unfold cfgA0 fnsA0 at h
  simp only at h
  split at h <;> cases h <;> exact ⟨by kernel_rfl, by kernel_rfl⟩

/-! ## keys -/
def KIn (m : Mp) : Prop := ∀ p ∈ m, inR p.1
theorem kin_put : ∀ {m : Mp} {n x : Int}, KIn m → inR n → KIn (mput m n x)
  | [], n, x, _, hn, p, hp => by
    rw [List.mem_singleton.1 (show p ∈ [(n, x)] from hp)]; exact hn
  | (j, y) :: m, n, x, h, hn, p, hp => by
    unfold mput at hp
    split at hp
    · rcases List.mem_cons.1 hp with rfl | hp
      · exact h (j, y) (List.mem_cons_self ..)
      · exact h p (List.mem_cons_of_mem _ hp)
    · rcases List.mem_cons.1 hp with rfl | hp
      · exact h (j, y) (List.mem_cons_self ..)
      · exact kin_put (fun q hq => h q (List.mem_cons_of_mem _ hq)) hn p hp
theorem kin_del {m : Mp} {n : Int} (h : KIn m) : KIn (mdel m n) := fun p hp => h p ((mdel_sub m n).subset hp)
theorem len_put : ∀ (m : Mp) (n x : Int), (mput m n x).length ≤ m.length + 1
  | [], n, x => Nat.le_refl _
  | (j, y) :: m, n, x => by
    unfold mput
    split
    · show m.length + 1 ≤ m.length + 1 + 1; omega
    · have := len_put m n x
      show (mput m n x).length + 1 ≤ m.length + 1 + 1; omega
theorem len_del (m : Mp) (n : Int) : (mdel m n).length ≤ m.length := (mdel_sub m n).length_le
theorem kin_do {m : Mp} {c : Com} (h : KIn m) (hc : inR c.key) : KIn (doM m c) := by
  unfold doM
  split
  · exact kin_put h hc
  · split
    · exact kin_del h
    · exact h
theorem len_do (m : Mp) (c : Com) : (doM m c).length ≤ m.length + 1 := by
  unfold doM
  split
  · exact len_put ..
  · split
    · have := len_del m c.key; omega
    · omega
theorem run_keys : ∀ (l : List Com) {m : Mp}, KIn m → (∀ c ∈ l, inR c.key) → KIn (runM l m).2 ∧ (runM l m).2.length ≤ m.length + l.length
  | [], m, h, _ => ⟨h, Nat.le_refl _⟩
  | c :: l, m, h, hl => by
    have ih := run_keys l (kin_do h (hl c (List.mem_cons_self ..))) (fun d hd => hl d (List.mem_cons_of_mem _ hd))
    have := len_do m c
    unfold runM
    split
    · exact ⟨ih.1, by have := ih.2; show (runM l (doM m c)).2.length ≤ m.length + (l.length + 1); omega⟩
    · exact ⟨h, by show m.length ≤ m.length + (l.length + 1); omega⟩
theorem of_keys (l : List Pr) : ∀ {m : Mp}, KIn m → (∀ p ∈ l, inR p.k) → KIn (l.foldl (fun m p => mput m p.k p.v) m) ∧ (l.foldl (fun m p => mput m p.k p.v) m).length ≤ m.length + l.length := by
  induction l with
  | nil => exact fun h _ => ⟨h, Nat.le_refl _⟩
  | cons p l ih =>
    intro m h hl
    have := ih (kin_put (x := p.v) h (hl p (List.mem_cons_self ..))) (fun q hq => hl q (List.mem_cons_of_mem _ hq))
    have h2 := len_put m p.k p.v
    exact ⟨this.1, by have := this.2; show _ ≤ m.length + (l.length + 1); rw [List.foldl_cons]; omega⟩
theorem mapOfRows_keys {l : List Pr} (hl : ∀ p ∈ l, inR p.k) : KIn (mapOfRows l) ∧ (mapOfRows l).length ≤ l.length := by
  have := of_keys l (m := []) (fun p h => by cases h) hl
  unfold mapOfRows putAll
  rw [List.take_length]
  exact ⟨this.1, by have := this.2; simpa using this⟩

/-! ## a map's rows are the sorted row -/
theorem sorted_get_mem {l : List Pr} (h : Sorted l) : ∀ p ∈ l, rget l p.k = some p.v := by
  induction l with
  | nil => intro p hp; cases hp
  | cons q l ih =>
    have h' := List.pairwise_cons.1 h
    intro p hp
    rw [rget_cons]
    rcases List.mem_cons.1 hp with rfl | hp
    · rw [if_pos rfl]
    · have := h'.1 p hp
      rw [if_neg (by omega)]
      exact ih h'.2 p hp
theorem rget_mem : ∀ {l : List Pr} {k v : Int}, rget l k = some v → (⟨k, v⟩ : Pr) ∈ l
  | [], k, v, h => by cases h
  | q :: l, k, v, h => by
    rw [rget_cons] at h
    split at h
    · rename_i e
      cases h; subst e; exact List.mem_cons_self ..
    · exact List.mem_cons_of_mem _ (rget_mem h)
theorem mget_mem : ∀ {m : Mp} {k v : Int}, mget m k = some v → (k, v) ∈ m
  | [], k, v, h => by cases h
  | (j, y) :: m, k, v, h => by
    have h' : (if k = j then some y else mget m k) = some v := h
    split at h'
    · rename_i e; cases h'; subst e; exact List.mem_cons_self ..
    · exact List.mem_cons_of_mem _ (mget_mem h')
theorem mem_mget {m : Mp} (h : OneK m) : ∀ {k v : Int}, (k, v) ∈ m → mget m k = some v := by
  induction m with
  | nil => intro k v hm; cases hm
  | cons q m ih =>
    obtain ⟨j, y⟩ := q
    have h' := List.nodup_cons.1 h
    intro k v hm
    show (if k = j then some y else mget m k) = some v
    rcases List.mem_cons.1 hm with e | hm
    · cases e; rw [if_pos rfl]
    · rw [if_neg (fun e => h'.1 (by rw [← e]; exact List.mem_map.2 ⟨_, hm, rfl⟩))]
      exact ih h'.2 hm
theorem rows_alike {m : Mp} {l : List Pr} (A : Alike m l) : rowsOf m = l := by
  have hperm : (m.map (·.1)).Perm (l.map (·.k)) := by
    refine (List.perm_ext_iff_of_nodup A.one (List.Pairwise.map _ (fun a b h => ?_) A.srt)).2 fun k => ?_
    · show a.k ≠ b.k; omega
    · constructor
      · intro hk
        obtain ⟨⟨j, v⟩, hm, rfl⟩ := List.mem_map.1 hk
        have := mem_mget A.one hm
        rw [← A.get] at this
        exact List.mem_map.2 ⟨_, rget_mem this, rfl⟩
      · intro hk
        obtain ⟨p, hm, rfl⟩ := List.mem_map.1 hk
        have := sorted_get_mem A.srt p hm
        rw [A.get] at this
        exact List.mem_map.2 ⟨_, mget_mem this, rfl⟩
  have hs : sortK m = l.map (·.k) := by
    unfold sortK
    rw [mergeSort_of_perm_i hperm]
    refine List.mergeSort_of_pairwise ?_
    exact List.Pairwise.map _ (fun a b h => by show decide (a.k ≤ b.k) = true; exact decide_eq_true (by omega)) A.srt
  unfold rowsOf
  rw [hs, List.map_map]
  have : ∀ p ∈ l, (rowAt_ m ∘ fun x : Pr => x.k) p = p := fun p hp => by
    have := sorted_get_mem A.srt p hp
    rw [A.get] at this
    show (⟨p.k, (mget m p.k).getD 0⟩ : Pr) = p
    rw [this]; rfl
  rw [List.map_congr_left this, List.map_id']
theorem of_alike (l : List Pr) (h : Sorted l) : Alike (mapOfRows l) l := by
  have key : ∀ (t : List Pr) (m : Mp), OneK m → OneK (t.foldl (fun m p => mput m p.k p.v) m) ∧ (Sorted t → ∀ k, mget (t.foldl (fun m p => mput m p.k p.v) m) k = match rget t k with | some v => some v | none => mget m k) := by
    intro t
    induction t with
    | nil => exact fun m hm => ⟨hm, fun _ k => rfl⟩
    | cons p t ih =>
      intro m hm
      obtain ⟨i1, i2⟩ := ih (mput m p.k p.v) (mput_one hm _ _)
      refine ⟨i1, fun hs k => ?_⟩
      have hs' := List.pairwise_cons.1 hs
      rw [List.foldl_cons, i2 hs'.2 k, rget_cons, mgetput]
      by_cases hk : p.k = k
      · subst hk
        rw [low_none hs'.1, if_pos rfl, if_pos rfl]
      · rw [if_neg (fun e => hk e.symm), if_neg hk]
  obtain ⟨k1, k2⟩ := key l [] List.nodup_nil
  refine ⟨?_, h, fun k => ?_⟩
  · unfold mapOfRows putAll; rw [List.take_length]; exact k1
  · unfold mapOfRows putAll; rw [List.take_length, k2 h k]
    cases rget l k <;> rfl
/-! ## the functions -/
def runSAnswer : RunFree V := fun ar K => match ar with
  | [.rows .pr l c, .int .i64 d, .int .i64 k, .int .i64 v] => .need (l.length ≤ 1073741824 ∧ (∀ p ∈ l, inR p.k) ∧ inR k) (.all Nat fun sp => K (.tup [comAV (ansC (mget (mapOfRows l) k) d k v), .sl false 0 0 2 (rowsOf (doM (mapOfRows l) (ansC (mget (mapOfRows l) k) d k v))).length ((rowsOf (doM (mapOfRows l) (ansC (mget (mapOfRows l) k) d k v))).length + sp)]) [.arr 27 Kd.pr (rowsOf (doM (mapOfRows l) (ansC (mget (mapOfRows l) k) d k v))) sp])
  | _ => .bad 500
set_option maxHeartbeats 4000000 in
theorem hSAnswer : HookOk Try.prog 21 (hookFree [.rows Kd.pr, .int .i64, .int .i64, .int .i64] runSAnswer) := by
  refine free_hook (C := cfgA0) cfgA0_ok (n := 60) (fn := Try.f21) ⟨by kernel_rfl, by kernel_rfl⟩ (by kernel_rfl) ?_
  intro M ar K0 H
  unfold runSAnswer at H
  split at H
  · rename_i l c d k v
    obtain ⟨⟨hb, hp, hk⟩, H⟩ := H
    refine ⟨show 4 ≤ _ by decide +kernel, ?_⟩
    show (runF cfgA0 60 21 Try.f21 [.sl false 0 0 2 l.length c, .int .i64 d, .int .i64 k, .int .i64 v] [(0, .ro Kd.pr l)] 4).holds _
    rw [qt21]
    rw [show List.take l.length (List.drop 0 l) = l from List.take_length ..]
    obtain ⟨m1, m2⟩ := mapOfRows_keys hp
    generalize mapOfRows l = m at H m1 m2 ⊢
    have p1 := kin_put (x := v) m1 hk
    have p2 := len_put m k v
    have d1 := kin_del (n := k) m1
    have d2 := len_del m k
    have fin : ∀ (A : Com) (m' : Mp) (y id n' : Nat) (x1 x2 x3 b : AV) (h' : Heap V), ansC (mget m k) d k v = A → doM m A = m' → (x1.sub (.int .i64 A.act) ∧ x2.sub (.int .i64 A.key) ∧ x3.sub (.int .i64 A.value) ∧ b.sub (.bool A.hit)) → h'.get id = some (.arr 27 Kd.pr (rowsOf m') y) →
        (∃ w E, (K0 w E).holds M ∧ EndFree n' (.tup [.agg [x1, x2, x3, b], .sl false id 0 2 (rowsOf m').length ((rowsOf m').length + y)]) h' w E) := by
      intro A m' y id n' x1 x2 x3 b h' hA hm ⟨s1, s2, s3, hb'⟩ hg
      have h0 := H y
      rw [hA, hm] at h0
      refine ⟨_, _, h0, _, HImp.refl _ _, ⟨⟨fun _ => id, ⟨by rw [hg]; exact .same _, trivial⟩, ?_⟩, rfl, rfl⟩⟩
      exact AV.sub_two (AV.sub_agg fun r vs hr => by
        simp only [relL] at hr ⊢
        obtain ⟨v1, u1, rfl, e1, v2, u2, rfl, e2, v3, u3, rfl, e3, v4, u4, rfl, e4, rfl⟩ := hr
        exact ⟨v1, _, rfl, s1 r v1 e1, v2, _, rfl, s2 r v2 e2, v3, _, rfl, s3 r v3 e3, v4, _, rfl, hb' r v4 e4, rfl⟩) (AV.sub_same _)
    rw [show (V.enc Kd.int).dflt = (0 : Int) from rfl]
    by_cases h2 : d = 2
    · subst h2
      simp only [Out.holds, Int.reduceBEq, true_implies, false_implies, and_true, true_and, Bool.true_eq_false, Bool.false_eq_true, reduceCtorEq, beq_self_eq_true]
      exact ⟨by omega, by omega, ⟨by omega, p1⟩, fun y => fin ⟨2, k, v, false⟩ _ y 14 _ _ _ _ .ff _ rfl rfl ⟨AV.sub_same _, AV.sub_same _, AV.sub_same _, AV.sub_ff rfl⟩ rfl⟩
    · have nput : ∀ (g : Option Int), d ≠ 2 → (d = 1 ∨ d = 3) → ansC g d k v = ⟨d, k, g.getD 0, g.isSome⟩ := fun g h1 h3 => by unfold ansC; rw [if_neg h1, if_pos h3]
      by_cases h1 : d = 1
      · subst h1
        simp only [Out.holds, Int.reduceBEq, true_implies, false_implies, and_true, true_and, Bool.true_eq_false, Bool.false_eq_true, reduceCtorEq, beq_self_eq_true]
        exact ⟨by omega, by omega, ⟨by omega, m1⟩, fun y => fin ⟨1, k, _, _⟩ _ y 13 _ _ _ _ (.bool _) _ (nput _ (by decide) (.inl rfl)) rfl ⟨AV.sub_same _, AV.sub_same _, AV.sub_same _, AV.sub_same _⟩ rfl⟩
      · by_cases h3 : d = 3
        · subst h3
          simp only [Out.holds, Int.reduceBEq, true_implies, false_implies, and_true, true_and, Bool.true_eq_false, Bool.false_eq_true, reduceCtorEq, beq_self_eq_true]
          exact ⟨by omega, by omega, ⟨by omega, d1⟩, fun y => fin ⟨3, k, _, _⟩ _ y 14 _ _ _ _ (.bool _) _ (nput _ (by decide) (.inr rfl)) rfl ⟨AV.sub_same _, AV.sub_same _, AV.sub_same _, AV.sub_same _⟩ rfl⟩
        · by_cases h4 : d = 4
          · subst h4
            simp only [Out.holds, Int.reduceBEq, true_implies, false_implies, and_true, true_and, Bool.true_eq_false, Bool.false_eq_true, reduceCtorEq, beq_self_eq_true]
            refine ⟨by omega, by omega, fun hs => ⟨⟨by omega, m1⟩, fun y => fin cc0 _ y 12 _ _ _ _ .ff _ ?_ rfl ⟨AV.sub_lit', AV.sub_lit', AV.sub_lit', AV.sub_ff rfl⟩ rfl⟩, fun hs => ⟨⟨by omega, d1⟩, fun y => fin ⟨4, k, _, true⟩ _ y 14 _ _ _ _ (.bool _) _ ?_ rfl ⟨AV.sub_same _, AV.sub_same _, AV.sub_same _, AV.sub_bool (by simpa using hs)⟩ rfl⟩⟩
            · unfold ansC; rw [if_neg (by decide), if_neg (by decide), if_neg (by intro h; rw [h.2] at hs; cases hs)]
            · unfold ansC; rw [if_neg (by decide), if_neg (by decide), if_pos ⟨rfl, by simpa using hs⟩]; cases mget m k <;> rfl
          · have b1 : (d == 1) = false := beq_false_of_ne h1
            have b2 : (d == 2) = false := beq_false_of_ne h2
            have b3 : (d == 3) = false := beq_false_of_ne h3
            have b4 : (d == 4) = false := beq_false_of_ne h4
            simp only [Out.holds, b1, b2, b3, b4, true_implies, false_implies, and_true, true_and, Bool.true_eq_false, Bool.false_eq_true, reduceCtorEq]
            refine ⟨by omega, by omega, ⟨by omega, m1⟩, fun y => fin cc0 _ y 12 _ _ _ _ .ff _ ?_ rfl ⟨AV.sub_lit', AV.sub_lit', AV.sub_lit', AV.sub_ff rfl⟩ rfl⟩
            unfold ansC; rw [if_neg h2, if_neg (by omega), if_neg (by omega)]
  · exact H.elim

def runState : RunFree V := fun ar K => match ar with
  | [.rows .com l c] => .need (l.length ≤ 1073741824 ∧ ∀ c ∈ l, inR c.key) (.all Nat fun sp => K (.sl false 0 0 2 (rowsOf (runM l []).2).length ((rowsOf (runM l []).2).length + sp)) [.arr 27 Kd.pr (rowsOf (runM l []).2) sp])
  | _ => .bad 500
theorem hState : HookOk Try.prog 10 (hookFree [.rows Kd.com] runState) := by
  refine free_hook (C := cfgA0) cfgA0_ok (n := 60) (fn := Try.f10) ⟨by kernel_rfl, by kernel_rfl⟩ (by kernel_rfl) ?_
  intro M ar K0 H
  unfold runState at H
  split at H
  · rename_i l c
    obtain ⟨⟨hb, hl⟩, H⟩ := H
    refine ⟨show 1 ≤ _ by decide +kernel, ?_⟩
    show (runF cfgA0 60 10 Try.f10 [.sl false 0 0 4 l.length c] [(0, .ro Kd.com l)] 1).holds _
    rw [qts10]
    rw [show List.take l.length (List.drop 0 l) = l from List.take_length ..]
    obtain ⟨k1, k2⟩ := run_keys l (m := []) (fun p h => by cases h) hl
    simp only [List.length_nil] at k2
    exact ⟨by omega, by omega, ⟨by omega, k1⟩, fun y => ⟨_, _, H y, _, HImp.refl _ _, ⟨⟨fun _ => 2, ⟨.same _, trivial⟩, AV.sub_same _⟩, rfl, rfl⟩⟩⟩
  · exact H.elim
theorem hRefState : HookOk Try.prog 12 (hookFree [.rows Kd.com] runState) := by
  refine free_hook (C := cfgA0) cfgA0_ok (n := 60) (fn := Try.f12) ⟨by kernel_rfl, by kernel_rfl⟩ (by kernel_rfl) ?_
  intro M ar K0 H
  unfold runState at H
  split at H
  · rename_i l c
    obtain ⟨⟨hb, hl⟩, H⟩ := H
    refine ⟨show 1 ≤ _ by decide +kernel, ?_⟩
    show (runF cfgA0 60 12 Try.f12 [.sl false 0 0 4 l.length c] [(0, .ro Kd.com l)] 1).holds _
    rw [qts12]
    rw [show List.take l.length (List.drop 0 l) = l from List.take_length .., ← rows_alike (run_alike l Alike.nil).2]
    exact ⟨by omega, by omega, fun y => ⟨_, _, H y, _, HImp.refl _ _, ⟨⟨fun _ => 1, ⟨.same _, trivial⟩, AV.sub_same _⟩, rfl, rfl⟩⟩⟩
  · exact H.elim

end Sx
end Go.Proofs.Ythabfkcmhffjoaa

/-
  The small case: the runs of the machine.
-/
namespace Go.Proofs.Ythabfkcmhffjoaa
namespace Sx
open Go
set_option maxRecDepth 100000
set_option linter.unusedVariables false

def hooksB0 : Nat → Option (HookS V) := fun g => match g with
  | 10 => some (hookFree [.rows Kd.com] runState)
  | 12 => some (hookFree [.rows Kd.com] runState)
  | 21 => some (hookFree [.rows Kd.pr, .int .i64, .int .i64, .int .i64] runSAnswer)
  | g => hooksA0 g
noncomputable def fnsB0 : Nat → Option Func := fun g => match g with | 23 => some Try.f23 | _ => none
noncomputable def cfgB0 : Cfg Try.prog V := ⟨tab, kinds, fnsB0, hooksB0, fun _ _ => none⟩
def runSmallQ : RunFree V := fun ar K => match ar with
  | [] => K .tt []
  | _ => .bad 500
def hooksB : Nat → Option (HookS V) := fun g => match g with
  | 9 => some (hookFree [] runSmallQ)
  | g => hooksB0 g
noncomputable def cfgB : Cfg Try.prog V := ⟨tab, kinds, fun _ => none, hooksB, fun _ _ => none⟩
theorem qt9s  : runF cfgB0 60 9 Try.f9 [] [] 0 = Out.need ((1 : Nat) ≤ (1073741824 : Nat) ∧ (∀ (p : V.El Kd.pr), p ∈ [{k := (3 : Int), v := (5 : Int) : Pr }] → inR p.k) ∧ inR (3 : Int)) (Out.all Nat fun y => Out.need ((5 : Nat) ≤ (1073741824 : Nat)) (Out.ite ((4 : Int) == (4 : Int)) (Out.need ((5 : Nat) ≤ (1073741824 : Nat) ∧ ∀ (c : V.El Kd.com), c ∈ [{act := (2 : Int), key := (7 : Int), value := (1 : Int), hit := false : Com }, {act := (1 : Int), key := (7 : Int), value := (1 : Int), hit := true : Com }, {act := (4 : Int), key := (7 : Int), value := (1 : Int), hit := true : Com }, {act := (1 : Int), key := (7 : Int), value := (0 : Int), hit := false : Com }, {act := (1 : Int), key := (7 : Int), value := (1 : Int), hit := true : Com }] → inR c.key) (Out.all Nat fun y_1 => Out.ite ((0 : Int) == (0 : Int)) (Out.need ((5 : Nat) ≤ (1073741824 : Nat)) (Out.ite (!plainOf [{act := (2 : Int), key := (7 : Int), value := (1 : Int), hit := false : Com }, {act := (1 : Int), key := (7 : Int), value := (1 : Int), hit := true : Com }, {act := (4 : Int), key := (7 : Int), value := (1 : Int), hit := true : Com }, {act := (1 : Int), key := (7 : Int), value := (0 : Int), hit := false : Com }, {act := (1 : Int), key := (7 : Int), value := (1 : Int), hit := true : Com }]) (Out.need ((0 : Int) ≤ (2 : Int) ∧ (2 : Int) ≤ (5 : Int)) (Out.need ((2 : Nat) ≤ (1073741824 : Nat)) (Out.ite (plainOf [{act := (2 : Int), key := (7 : Int), value := (1 : Int), hit := false : Com }, {act := (1 : Int), key := (7 : Int), value := (1 : Int), hit := true : Com }]) (Out.need ((0 : Int) ≤ (2 : Int) ∧ (2 : Int) ≤ (5 : Int)) (Out.need ((2 : Nat) ≤ (1073741824 : Nat) ∧ ∀ (c : V.El Kd.com), c ∈ [{act := (2 : Int), key := (7 : Int), value := (1 : Int), hit := false : Com }, {act := (1 : Int), key := (7 : Int), value := (1 : Int), hit := true : Com }] → inR c.key) (Out.all Nat fun y_2 => Out.need ((1 : Nat) ≤ (1 : Nat)) (Out.need ((1 : Nat) ≤ (1099511627776 : Nat)) (Out.ite (decide (List.take (1 : Nat) (List.drop (0 : Nat) (rowsOf (runM [{act := (2 : Int), key := (7 : Int), value := (1 : Int), hit := false : Com }, {act := (1 : Int), key := (7 : Int), value := (1 : Int), hit := true : Com }] []).snd)) = [{k := (7 : Int), v := (1 : Int) : Pr }])) (Out.ite ((3 : Int) == (3 : Int) && ((3 : Int) == (3 : Int) && ((5 : Int) == (5 : Int) && ((ansC (mget (mapOfRows [{k := (3 : Int), v := (5 : Int) : Pr }]) (3 : Int)) (3 : Int) (3 : Int) (0 : Int)).hit == true && true)))) (Out.ite ((0 : Int) == (0 : Int)) (Out.need ((5 : Nat) ≤ (1099511627776 : Nat)) (Out.all Nat fun y_3 => Out.need ((1 : Nat) ≤ (1 : Nat)) (Out.need ((1 : Nat) ≤ (1099511627776 : Nat)) (Out.fin (.bool (decide (List.take (1 : Nat) (List.drop (0 : Nat) (evsOf [{act := (2 : Int), key := (7 : Int), value := (1 : Int), hit := false : Com }, {act := (1 : Int), key := (7 : Int), value := (1 : Int), hit := true : Com }, {act := (4 : Int), key := (7 : Int), value := (1 : Int), hit := true : Com }, {act := (1 : Int), key := (7 : Int), value := (0 : Int), hit := false : Com }, {act := (1 : Int), key := (7 : Int), value := (1 : Int), hit := true : Com }])) = [(7 : Int)]))) [((9 : Nat), .cells (3 : Nat) [.lit .i64 (7 : Int)]), ((8 : Nat), .arr (3 : Nat) Kd.int (evsOf [{act := (2 : Int), key := (7 : Int), value := (1 : Int), hit := false : Com }, {act := (1 : Int), key := (7 : Int), value := (1 : Int), hit := true : Com }, {act := (4 : Int), key := (7 : Int), value := (1 : Int), hit := true : Com }, {act := (1 : Int), key := (7 : Int), value := (0 : Int), hit := false : Com }, {act := (1 : Int), key := (7 : Int), value := (1 : Int), hit := true : Com }]) y_3), ((7 : Nat), .cells (27 : Nat) [.lit .i64 (7 : Int), .lit .i64 (1 : Int)]), ((6 : Nat), .arr (27 : Nat) Kd.pr (rowsOf (runM [{act := (2 : Int), key := (7 : Int), value := (1 : Int), hit := false : Com }, {act := (1 : Int), key := (7 : Int), value := (1 : Int), hit := true : Com }] []).snd) y_2), ((5 : Nat), .arr (27 : Nat) Kd.pr (rowsOf (runM [{act := (2 : Int), key := (7 : Int), value := (1 : Int), hit := false : Com }, {act := (1 : Int), key := (7 : Int), value := (1 : Int), hit := true : Com }, {act := (4 : Int), key := (7 : Int), value := (1 : Int), hit := true : Com }, {act := (1 : Int), key := (7 : Int), value := (0 : Int), hit := false : Com }, {act := (1 : Int), key := (7 : Int), value := (1 : Int), hit := true : Com }] []).snd) y_1), ((3 : Nat), .cells (35 : Nat) [.int .i64 (3 : Int), .int .i64 (3 : Int), .int .i64 (5 : Int), .bool (ansC (mget (mapOfRows [{k := (3 : Int), v := (5 : Int) : Pr }]) (3 : Int)) (3 : Int) (3 : Int) (0 : Int)).hit]), ((2 : Nat), .arr (27 : Nat) Kd.pr (rowsOf (doM (mapOfRows [{k := (3 : Int), v := (5 : Int) : Pr }]) (ansC (mget (mapOfRows [{k := (3 : Int), v := (5 : Int) : Pr }]) (3 : Int)) (3 : Int) (3 : Int) (0 : Int)))) y), ((1 : Nat), .cells (27 : Nat) [.lit .i64 (3 : Int), .lit .i64 (5 : Int)]), ((0 : Nat), .cells (35 : Nat) [.lit .i64 (2 : Int), .lit .i64 (7 : Int), .lit .i64 (1 : Int), .ff, .lit .i64 (1 : Int), .lit .i64 (7 : Int), .lit .i64 (1 : Int), .tt, .lit .i64 (4 : Int), .lit .i64 (7 : Int), .lit .i64 (1 : Int), .tt, .lit .i64 (1 : Int), .lit .i64 (7 : Int), .lit .i64 (0 : Int), .ff, .lit .i64 (1 : Int), .lit .i64 (7 : Int), .lit .i64 (1 : Int), .tt])] (10 : Nat))))) (Out.fin .ff [((7 : Nat), .cells (27 : Nat) [.lit .i64 (7 : Int), .lit .i64 (1 : Int)]), ((6 : Nat), .arr (27 : Nat) Kd.pr (rowsOf (runM [{act := (2 : Int), key := (7 : Int), value := (1 : Int), hit := false : Com }, {act := (1 : Int), key := (7 : Int), value := (1 : Int), hit := true : Com }] []).snd) y_2), ((5 : Nat), .arr (27 : Nat) Kd.pr (rowsOf (runM [{act := (2 : Int), key := (7 : Int), value := (1 : Int), hit := false : Com }, {act := (1 : Int), key := (7 : Int), value := (1 : Int), hit := true : Com }, {act := (4 : Int), key := (7 : Int), value := (1 : Int), hit := true : Com }, {act := (1 : Int), key := (7 : Int), value := (0 : Int), hit := false : Com }, {act := (1 : Int), key := (7 : Int), value := (1 : Int), hit := true : Com }] []).snd) y_1), ((3 : Nat), .cells (35 : Nat) [.int .i64 (3 : Int), .int .i64 (3 : Int), .int .i64 (5 : Int), .bool (ansC (mget (mapOfRows [{k := (3 : Int), v := (5 : Int) : Pr }]) (3 : Int)) (3 : Int) (3 : Int) (0 : Int)).hit]), ((2 : Nat), .arr (27 : Nat) Kd.pr (rowsOf (doM (mapOfRows [{k := (3 : Int), v := (5 : Int) : Pr }]) (ansC (mget (mapOfRows [{k := (3 : Int), v := (5 : Int) : Pr }]) (3 : Int)) (3 : Int) (3 : Int) (0 : Int)))) y), ((1 : Nat), .cells (27 : Nat) [.lit .i64 (3 : Int), .lit .i64 (5 : Int)]), ((0 : Nat), .cells (35 : Nat) [.lit .i64 (2 : Int), .lit .i64 (7 : Int), .lit .i64 (1 : Int), .ff, .lit .i64 (1 : Int), .lit .i64 (7 : Int), .lit .i64 (1 : Int), .tt, .lit .i64 (4 : Int), .lit .i64 (7 : Int), .lit .i64 (1 : Int), .tt, .lit .i64 (1 : Int), .lit .i64 (7 : Int), .lit .i64 (0 : Int), .ff, .lit .i64 (1 : Int), .lit .i64 (7 : Int), .lit .i64 (1 : Int), .tt])] (8 : Nat))) (Out.fin .ff [((7 : Nat), .cells (27 : Nat) [.lit .i64 (7 : Int), .lit .i64 (1 : Int)]), ((6 : Nat), .arr (27 : Nat) Kd.pr (rowsOf (runM [{act := (2 : Int), key := (7 : Int), value := (1 : Int), hit := false : Com }, {act := (1 : Int), key := (7 : Int), value := (1 : Int), hit := true : Com }] []).snd) y_2), ((5 : Nat), .arr (27 : Nat) Kd.pr (rowsOf (runM [{act := (2 : Int), key := (7 : Int), value := (1 : Int), hit := false : Com }, {act := (1 : Int), key := (7 : Int), value := (1 : Int), hit := true : Com }, {act := (4 : Int), key := (7 : Int), value := (1 : Int), hit := true : Com }, {act := (1 : Int), key := (7 : Int), value := (0 : Int), hit := false : Com }, {act := (1 : Int), key := (7 : Int), value := (1 : Int), hit := true : Com }] []).snd) y_1), ((3 : Nat), .cells (35 : Nat) [.int .i64 (3 : Int), .int .i64 (3 : Int), .int .i64 (5 : Int), .bool (ansC (mget (mapOfRows [{k := (3 : Int), v := (5 : Int) : Pr }]) (3 : Int)) (3 : Int) (3 : Int) (0 : Int)).hit]), ((2 : Nat), .arr (27 : Nat) Kd.pr (rowsOf (doM (mapOfRows [{k := (3 : Int), v := (5 : Int) : Pr }]) (ansC (mget (mapOfRows [{k := (3 : Int), v := (5 : Int) : Pr }]) (3 : Int)) (3 : Int) (3 : Int) (0 : Int)))) y), ((1 : Nat), .cells (27 : Nat) [.lit .i64 (3 : Int), .lit .i64 (5 : Int)]), ((0 : Nat), .cells (35 : Nat) [.lit .i64 (2 : Int), .lit .i64 (7 : Int), .lit .i64 (1 : Int), .ff, .lit .i64 (1 : Int), .lit .i64 (7 : Int), .lit .i64 (1 : Int), .tt, .lit .i64 (4 : Int), .lit .i64 (7 : Int), .lit .i64 (1 : Int), .tt, .lit .i64 (1 : Int), .lit .i64 (7 : Int), .lit .i64 (0 : Int), .ff, .lit .i64 (1 : Int), .lit .i64 (7 : Int), .lit .i64 (1 : Int), .tt])] (8 : Nat))) (Out.fin .ff [((7 : Nat), .cells (27 : Nat) [.lit .i64 (7 : Int), .lit .i64 (1 : Int)]), ((6 : Nat), .arr (27 : Nat) Kd.pr (rowsOf (runM [{act := (2 : Int), key := (7 : Int), value := (1 : Int), hit := false : Com }, {act := (1 : Int), key := (7 : Int), value := (1 : Int), hit := true : Com }] []).snd) y_2), ((5 : Nat), .arr (27 : Nat) Kd.pr (rowsOf (runM [{act := (2 : Int), key := (7 : Int), value := (1 : Int), hit := false : Com }, {act := (1 : Int), key := (7 : Int), value := (1 : Int), hit := true : Com }, {act := (4 : Int), key := (7 : Int), value := (1 : Int), hit := true : Com }, {act := (1 : Int), key := (7 : Int), value := (0 : Int), hit := false : Com }, {act := (1 : Int), key := (7 : Int), value := (1 : Int), hit := true : Com }] []).snd) y_1), ((3 : Nat), .cells (35 : Nat) [.int .i64 (3 : Int), .int .i64 (3 : Int), .int .i64 (5 : Int), .bool (ansC (mget (mapOfRows [{k := (3 : Int), v := (5 : Int) : Pr }]) (3 : Int)) (3 : Int) (3 : Int) (0 : Int)).hit]), ((2 : Nat), .arr (27 : Nat) Kd.pr (rowsOf (doM (mapOfRows [{k := (3 : Int), v := (5 : Int) : Pr }]) (ansC (mget (mapOfRows [{k := (3 : Int), v := (5 : Int) : Pr }]) (3 : Int)) (3 : Int) (3 : Int) (0 : Int)))) y), ((1 : Nat), .cells (27 : Nat) [.lit .i64 (3 : Int), .lit .i64 (5 : Int)]), ((0 : Nat), .cells (35 : Nat) [.lit .i64 (2 : Int), .lit .i64 (7 : Int), .lit .i64 (1 : Int), .ff, .lit .i64 (1 : Int), .lit .i64 (7 : Int), .lit .i64 (1 : Int), .tt, .lit .i64 (4 : Int), .lit .i64 (7 : Int), .lit .i64 (1 : Int), .tt, .lit .i64 (1 : Int), .lit .i64 (7 : Int), .lit .i64 (0 : Int), .ff, .lit .i64 (1 : Int), .lit .i64 (7 : Int), .lit .i64 (1 : Int), .tt])] (8 : Nat))))))) (Out.fin .ff [((5 : Nat), .arr (27 : Nat) Kd.pr (rowsOf (runM [{act := (2 : Int), key := (7 : Int), value := (1 : Int), hit := false : Com }, {act := (1 : Int), key := (7 : Int), value := (1 : Int), hit := true : Com }, {act := (4 : Int), key := (7 : Int), value := (1 : Int), hit := true : Com }, {act := (1 : Int), key := (7 : Int), value := (0 : Int), hit := false : Com }, {act := (1 : Int), key := (7 : Int), value := (1 : Int), hit := true : Com }] []).snd) y_1), ((3 : Nat), .cells (35 : Nat) [.int .i64 (3 : Int), .int .i64 (3 : Int), .int .i64 (5 : Int), .bool (ansC (mget (mapOfRows [{k := (3 : Int), v := (5 : Int) : Pr }]) (3 : Int)) (3 : Int) (3 : Int) (0 : Int)).hit]), ((2 : Nat), .arr (27 : Nat) Kd.pr (rowsOf (doM (mapOfRows [{k := (3 : Int), v := (5 : Int) : Pr }]) (ansC (mget (mapOfRows [{k := (3 : Int), v := (5 : Int) : Pr }]) (3 : Int)) (3 : Int) (3 : Int) (0 : Int)))) y), ((1 : Nat), .cells (27 : Nat) [.lit .i64 (3 : Int), .lit .i64 (5 : Int)]), ((0 : Nat), .cells (35 : Nat) [.lit .i64 (2 : Int), .lit .i64 (7 : Int), .lit .i64 (1 : Int), .ff, .lit .i64 (1 : Int), .lit .i64 (7 : Int), .lit .i64 (1 : Int), .tt, .lit .i64 (4 : Int), .lit .i64 (7 : Int), .lit .i64 (1 : Int), .tt, .lit .i64 (1 : Int), .lit .i64 (7 : Int), .lit .i64 (0 : Int), .ff, .lit .i64 (1 : Int), .lit .i64 (7 : Int), .lit .i64 (1 : Int), .tt])] (6 : Nat))))) (Out.fin .ff [((5 : Nat), .arr (27 : Nat) Kd.pr (rowsOf (runM [{act := (2 : Int), key := (7 : Int), value := (1 : Int), hit := false : Com }, {act := (1 : Int), key := (7 : Int), value := (1 : Int), hit := true : Com }, {act := (4 : Int), key := (7 : Int), value := (1 : Int), hit := true : Com }, {act := (1 : Int), key := (7 : Int), value := (0 : Int), hit := false : Com }, {act := (1 : Int), key := (7 : Int), value := (1 : Int), hit := true : Com }] []).snd) y_1), ((3 : Nat), .cells (35 : Nat) [.int .i64 (3 : Int), .int .i64 (3 : Int), .int .i64 (5 : Int), .bool (ansC (mget (mapOfRows [{k := (3 : Int), v := (5 : Int) : Pr }]) (3 : Int)) (3 : Int) (3 : Int) (0 : Int)).hit]), ((2 : Nat), .arr (27 : Nat) Kd.pr (rowsOf (doM (mapOfRows [{k := (3 : Int), v := (5 : Int) : Pr }]) (ansC (mget (mapOfRows [{k := (3 : Int), v := (5 : Int) : Pr }]) (3 : Int)) (3 : Int) (3 : Int) (0 : Int)))) y), ((1 : Nat), .cells (27 : Nat) [.lit .i64 (3 : Int), .lit .i64 (5 : Int)]), ((0 : Nat), .cells (35 : Nat) [.lit .i64 (2 : Int), .lit .i64 (7 : Int), .lit .i64 (1 : Int), .ff, .lit .i64 (1 : Int), .lit .i64 (7 : Int), .lit .i64 (1 : Int), .tt, .lit .i64 (4 : Int), .lit .i64 (7 : Int), .lit .i64 (1 : Int), .tt, .lit .i64 (1 : Int), .lit .i64 (7 : Int), .lit .i64 (0 : Int), .ff, .lit .i64 (1 : Int), .lit .i64 (7 : Int), .lit .i64 (1 : Int), .tt])] (6 : Nat)))) (Out.fin .ff [((5 : Nat), .arr (27 : Nat) Kd.pr (rowsOf (runM [{act := (2 : Int), key := (7 : Int), value := (1 : Int), hit := false : Com }, {act := (1 : Int), key := (7 : Int), value := (1 : Int), hit := true : Com }, {act := (4 : Int), key := (7 : Int), value := (1 : Int), hit := true : Com }, {act := (1 : Int), key := (7 : Int), value := (0 : Int), hit := false : Com }, {act := (1 : Int), key := (7 : Int), value := (1 : Int), hit := true : Com }] []).snd) y_1), ((3 : Nat), .cells (35 : Nat) [.int .i64 (3 : Int), .int .i64 (3 : Int), .int .i64 (5 : Int), .bool (ansC (mget (mapOfRows [{k := (3 : Int), v := (5 : Int) : Pr }]) (3 : Int)) (3 : Int) (3 : Int) (0 : Int)).hit]), ((2 : Nat), .arr (27 : Nat) Kd.pr (rowsOf (doM (mapOfRows [{k := (3 : Int), v := (5 : Int) : Pr }]) (ansC (mget (mapOfRows [{k := (3 : Int), v := (5 : Int) : Pr }]) (3 : Int)) (3 : Int) (3 : Int) (0 : Int)))) y), ((1 : Nat), .cells (27 : Nat) [.lit .i64 (3 : Int), .lit .i64 (5 : Int)]), ((0 : Nat), .cells (35 : Nat) [.lit .i64 (2 : Int), .lit .i64 (7 : Int), .lit .i64 (1 : Int), .ff, .lit .i64 (1 : Int), .lit .i64 (7 : Int), .lit .i64 (1 : Int), .tt, .lit .i64 (4 : Int), .lit .i64 (7 : Int), .lit .i64 (1 : Int), .tt, .lit .i64 (1 : Int), .lit .i64 (7 : Int), .lit .i64 (0 : Int), .ff, .lit .i64 (1 : Int), .lit .i64 (7 : Int), .lit .i64 (1 : Int), .tt])] (6 : Nat)))) (Out.fin .ff [((3 : Nat), .cells (35 : Nat) [.int .i64 (3 : Int), .int .i64 (3 : Int), .int .i64 (5 : Int), .bool (ansC (mget (mapOfRows [{k := (3 : Int), v := (5 : Int) : Pr }]) (3 : Int)) (3 : Int) (3 : Int) (0 : Int)).hit]), ((2 : Nat), .arr (27 : Nat) Kd.pr (rowsOf (doM (mapOfRows [{k := (3 : Int), v := (5 : Int) : Pr }]) (ansC (mget (mapOfRows [{k := (3 : Int), v := (5 : Int) : Pr }]) (3 : Int)) (3 : Int) (3 : Int) (0 : Int)))) y), ((1 : Nat), .cells (27 : Nat) [.lit .i64 (3 : Int), .lit .i64 (5 : Int)]), ((0 : Nat), .cells (35 : Nat) [.lit .i64 (2 : Int), .lit .i64 (7 : Int), .lit .i64 (1 : Int), .ff, .lit .i64 (1 : Int), .lit .i64 (7 : Int), .lit .i64 (1 : Int), .tt, .lit .i64 (4 : Int), .lit .i64 (7 : Int), .lit .i64 (1 : Int), .tt, .lit .i64 (1 : Int), .lit .i64 (7 : Int), .lit .i64 (0 : Int), .ff, .lit .i64 (1 : Int), .lit .i64 (7 : Int), .lit .i64 (1 : Int), .tt])] (5 : Nat)))) := by kernel_rfl

end Sx
end Go.Proofs.Ythabfkcmhffjoaa

/-
  Laws of commits: the runs of the machine.
-/
namespace Go.Proofs.Ythabfkcmhffjoaa
namespace Sx
open Go
set_option maxRecDepth 100000
set_option linter.unusedVariables false

noncomputable def cfgB1 : Cfg Try.prog V := ⟨tab, kinds, fun _ => none, hooksB, fun _ _ => none⟩
structure QL_ where
  l : List Com
  c : Nat
  hb : l.length ≤ 200
structure QT3 extends QL_ where
  y : Nat
  a : List Pr
  sa : Nat
  same : Bool
  ha : a.length ≤ 1099511627776
def J3 (p : QT3) (x : Nat × List Pr) : St V := ⟨[(0, .sl false 0 0 4 p.l.length p.c), (3, .tt), (4, .sl false 2 0 4 p.l.length (p.l.length + p.y)), (5, .sl false 3 0 2 p.a.length (p.a.length + p.sa)), (6, .bool p.same), (7, .int .i64 (x.1 : Int))],
  [(3, .arr 27 Kd.pr x.2 p.sa), (2, .arr 35 Kd.com p.l p.y), (0, .ro Kd.com p.l)], 5, 69, TQ⟩
def E3 (p : QT3) : St V := ⟨[(0, .sl false 0 0 4 p.l.length p.c), (3, .tt), (4, .sl false 2 0 4 p.l.length (p.l.length + p.y)), (6, .bool p.same)],
  [(2, .arr 35 Kd.com p.l p.y), (0, .ro Kd.com p.l)], 5, 69, TQ⟩
def M3 : LoopS V := trimLoop (trimSt [0, 3, 4, 5, 6, 7] [0, 2, 3]) (loopH 5 (fun p : QT3 => J3 p (0, p.a)) (fun _ (_ : Unit) => True) (fun p _ => E3 p))
def backN (l : List Com) (key : Int) : Nat → Nat
  | 0 => 0
  | n + 1 => if (l.getD n cc0).key = key ∧ (l.getD n cc0).act ≠ 1 then n + 1 else backN l key n
structure QT6 extends QL_ where
  i : Nat
  hi : i < l.length
def J62 (q : QT6) (x : Nat) : St V := ⟨[(0, .sl false 0 0 4 q.l.length q.c), (3, .tt), (4, .int .i64 (legal q.l : Int)), (5, .int .i64 (q.i : Int)), (6, .int .i64 ((x : Int) - 1))], [(0, .ro Kd.com q.l)], 1, 105, TQ⟩
def M62 : LoopS V := trimLoop (trimSt [0, 3, 4, 5, 6] [0]) (loopH 1 (fun q : QT6 => J62 q q.i) (fun q (x : Nat) => x = backN q.l (q.l.getD q.i cc0).key q.i) (fun q x => J62 q x))
noncomputable def cfgB62 : Cfg Try.prog V := ⟨tab, kinds, fun _ => none, hooksB, fun g id => match g, id with | 6, 2 => some M62 | _, _ => none⟩
def J6 (p : QL_) (i : Nat) : St V := ⟨[(0, .sl false 0 0 4 p.l.length p.c), (3, .tt), (4, .int .i64 (legal p.l : Int)), (5, .int .i64 (i : Int))], [(0, .ro Kd.com p.l)], 1, 105, TQ⟩
def M6 : LoopS V := trimLoop (trimSt [0, 3, 4, 5] [0]) (loopH 1 (fun p : QL_ => J6 p 0) (fun _ (_ : Unit) => True) (fun p _ => J6 p (legal p.l)))
def ownTo (l : List Com) (key : Int) (n : Nat) : List Com := (l.take n).filter fun c => decide (c.key = key)
def ownOf (l : List Com) (key : Int) : List Com := l.filter fun c => decide (c.key = key)
def eachTo (l : List Com) : Nat → Bool
  | 0 => true
  | n + 1 => eachTo l n && decide (legal (ownOf l (l.getD n cc0).key) = (ownOf l (l.getD n cc0).key).length)
def J82 (q : QT6) (x : Nat × Nat) : St V := ⟨[(0, .sl false 0 0 4 q.l.length q.c), (3, .tt), (4, .bool (eachTo q.l q.i)), (5, .int .i64 (q.i : Int)), (6, .sl false 1 0 4 (ownTo q.l (q.l.getD q.i cc0).key x.1).length ((ownTo q.l (q.l.getD q.i cc0).key x.1).length + x.2)), (7, .int .i64 (x.1 : Int))],
  [(1, .arr 35 Kd.com (ownTo q.l (q.l.getD q.i cc0).key x.1) x.2), (0, .ro Kd.com q.l)], 2, 61, TQ⟩
def M82 : LoopS V := trimLoop (trimSt [0, 3, 4, 5, 6, 7] [0]) (loopH 1 (fun q : QT6 => J82 q (0, 0)) (fun _ (_ : Nat) => True) (fun q s => J82 q (q.l.length, s)))
noncomputable def cfgB82 : Cfg Try.prog V := ⟨tab, kinds, fun _ => none, hooksB, fun g id => match g, id with | 8, 2 => some M82 | _, _ => none⟩
def J8 (p : QL_) (i : Nat) : St V := ⟨[(0, .sl false 0 0 4 p.l.length p.c), (3, .tt), (4, .bool (eachTo p.l i)), (5, .int .i64 (i : Int))], [(0, .ro Kd.com p.l)], 1, 61, TQ⟩
def M8 : LoopS V := trimLoop (trimSt [0, 3, 4, 5] [0]) (loopH 1 (fun p : QL_ => J8 p 0) (fun _ (_ : Unit) => True) (fun p _ => J8 p p.l.length))
noncomputable def cfgB3 : Cfg Try.prog V := ⟨tab, kinds, fun _ => none, hooksB, fun g id => match g, id with | 3, 0 => some M3 | 6, 0 => some M6 | 8, 0 => some M8 | _, _ => none⟩
end Sx
end Go.Proofs.Ythabfkcmhffjoaa

/-
  Which commits are legal, key by key, and by their beginnings: plain laws.
-/
namespace Go.Proofs.Ythabfkcmhffjoaa
namespace Sx
open Go
set_option linter.unusedSimpArgs false
set_option linter.unusedVariables false

theorem no_of {p : Prop} {b : Bool} (h : b = true) (k : b = false) : p := absurd (h.symm.trans k) (by decide)
def vStep (key : Int) (g : Option Int) (c : Com) : Option Int := if c.key = key then (if c.act = 2 then some c.value else if c.act = 3 ∨ c.act = 4 then none else g) else g
def vAt (l : List Com) (key : Int) : Option Int := l.foldl (vStep key) none
theorem fold_get : ∀ (l : List Com) {m : Mp} (key : Int), OneK m → mget (l.foldl doM m) key = l.foldl (vStep key) (mget m key)
  | [], m, key, _ => rfl
  | c :: l, m, key, h => by
    rw [List.foldl_cons, fold_get l key (doM_one h c), List.foldl_cons]
    congr 1
    rw [doM_get h]
    unfold vStep
    by_cases e : key = c.key
    · subst e; rw [if_pos rfl]
    · rw [if_neg e, if_neg (fun h => e h.symm)]
theorem fold_vAt (l : List Com) (key : Int) : mget (l.foldl doM []) key = vAt l key := fold_get l key List.nodup_nil
/-- Legal up to n: each of the first n is what may be done. -/
theorem run_ok : ∀ (l : List Com) {m : Mp} (h : OneK m), (∀ i, i < (runM l m).1 → okC (mget ((l.take i).foldl doM m) (l.getD i cc0).key) (l.getD i cc0)) ∧ ((runM l m).1 < l.length → ¬ okC (mget ((l.take (runM l m).1).foldl doM m) (l.getD (runM l m).1 cc0).key) (l.getD (runM l m).1 cc0)) ∧ (runM l m).2 = (l.take (runM l m).1).foldl doM m
  | [], m, h => ⟨fun i hi => absurd hi (Nat.not_lt_zero _), fun h => absurd h (Nat.lt_irrefl _), rfl⟩
  | c :: l, m, h => by
    obtain ⟨i1, i2, i3⟩ := run_ok l (doM_one h c)
    by_cases hc : okC (mget m c.key) c
    · have e : runM (c :: l) m = ((runM l (doM m c)).1 + 1, (runM l (doM m c)).2) := by show (if _ then _ else _) = _; rw [if_pos hc]
      rw [e]
      refine ⟨fun i hi => ?_, fun hl => ?_, ?_⟩
      · cases i with
        | zero => exact hc
        | succ i => exact i1 i (by simpa using hi)
      · exact i2 (by simpa using hl)
      · exact i3
    · have e : runM (c :: l) m = (0, m) := by show (if _ then _ else _) = _; rw [if_neg hc]
      rw [e]
      exact ⟨fun i hi => absurd hi (Nat.not_lt_zero _), fun _ => hc, rfl⟩
theorem legal_ok {l : List Com} {i : Nat} (h : i < legal l) : okC (vAt (l.take i) (l.getD i cc0).key) (l.getD i cc0) := by
  rw [← fold_vAt]; exact (run_ok l (m := []) List.nodup_nil).1 i h
theorem legal_stop {l : List Com} (h : legal l < l.length) : ¬ okC (vAt (l.take (legal l)) (l.getD (legal l) cc0).key) (l.getD (legal l) cc0) := by
  rw [← fold_vAt]; exact (run_ok l (m := []) List.nodup_nil).2.1 h
theorem legal_le (l : List Com) : legal l ≤ l.length := runM_le l []
theorem state_is (l : List Com) : (runM l []).2 = (l.take (legal l)).foldl doM [] := (run_ok l (m := []) List.nodup_nil).2.2
/-- Legal is the greatest such number. -/
theorem legal_is {l : List Com} {n : Nat} (hn : n ≤ l.length) (h1 : ∀ i, i < n → okC (vAt (l.take i) (l.getD i cc0).key) (l.getD i cc0)) (h2 : n < l.length → ¬ okC (vAt (l.take n) (l.getD n cc0).key) (l.getD n cc0)) : legal l = n := by
  have := legal_le l
  rcases Nat.lt_trichotomy (legal l) n with h | h | h
  · exact absurd (h1 _ h) (legal_stop (by omega))
  · exact h
  · exact absurd (legal_ok h) (h2 (by omega))
/-! ## one more -/
theorem legal_app {l : List Com} (hl : legal l = l.length) (c : Com) : legal (l ++ [c]) = if okC (vAt l c.key) c then l.length + 1 else l.length := by
  have e1 : (l ++ [c]).getD l.length cc0 = c := by rw [List.getD_eq_getElem?_getD, List.getElem?_append_right (Nat.le_refl _), Nat.sub_self]; rfl
  have e2 : ∀ i, i < l.length → (l ++ [c]).getD i cc0 = l.getD i cc0 := fun i hi => by rw [List.getD_eq_getElem?_getD, List.getElem?_append_left hi, ← List.getD_eq_getElem?_getD]
  have e3 : ∀ i, i ≤ l.length → (l ++ [c]).take i = l.take i := fun i hi => List.take_append_of_le_length hi
  split
  · rename_i h
    refine legal_is (by simp) (fun i hi => ?_) (fun h => by simp at h)
    by_cases hi2 : i < l.length
    · rw [e3 i (by omega), e2 i hi2]; exact legal_ok (by omega)
    · have : i = l.length := by omega
      subst this
      rw [e3 _ (Nat.le_refl _), e1, List.take_length]; exact h
  · rename_i h
    refine legal_is (by simp) (fun i hi => ?_) (fun _ => ?_)
    · rw [e3 i (by omega), e2 i hi]; exact legal_ok (by omega)
    · rw [e3 _ (Nat.le_refl _), e1, List.take_length]; exact h

/-! ## the last put -/
/-! ## each key alone -/
def AllOk (l : List Com) : Prop := ∀ (a b : List Com) (c : Com), l = a ++ c :: b → okC (vAt a c.key) c
end Sx
end Go.Proofs.Ythabfkcmhffjoaa

/-
  The laws of commits: what comes of them.
-/
namespace Go.Proofs.Ythabfkcmhffjoaa
namespace Sx
open Go
set_option linter.unusedSimpArgs false
set_option linter.unusedVariables false

theorem hooksB0_ok : ∀ g H, hooksB0 g = some H → HookOk Try.prog g H := by
  intro g H h
  unfold hooksB0 at h
  split at h
  · cases h; exact hState
  · cases h; exact hRefState
  · cases h; exact hSAnswer
  · exact hooksA0_ok _ _ h
theorem cfgB0_ok : cfgB0.ok := by
  refine ⟨tab_met, kinds_met, mixed_met, fun g fn h => ?_, hooksB0_ok⟩
  unfold cfgB0 fnsB0 at h
  simp only at h
  split at h <;> cases h
  exact ⟨by kernel_rfl, by kernel_rfl⟩
theorem hSmallQ : HookOk Try.prog 9 (hookFree [] runSmallQ) := by
  refine free_hook (C := cfgB0) cfgB0_ok (n := 60) (fn := Try.f9) ⟨by kernel_rfl, by kernel_rfl⟩ (by kernel_rfl) ?_
  intro M ar K0 H
  unfold runSmallQ at H
  split at H
  · refine ⟨Nat.zero_le _, ?_⟩
    show (runF cfgB0 60 9 Try.f9 [] [] 0).holds _
    rw [qt9s]
    refine ⟨⟨by decide, by decide +kernel, by decide +kernel⟩, fun y => ⟨by decide, fun _ => ?_, fun h => no_of (by decide +kernel) h⟩⟩
    refine ⟨⟨by decide, by decide +kernel⟩, fun y1 => ⟨fun _ => ?_, fun h => no_of (by decide +kernel) h⟩⟩
    refine ⟨by decide, fun _ => ?_, fun h => no_of (by decide +kernel) h⟩
    refine ⟨by decide, by decide, fun _ => ?_, fun h => no_of (by decide +kernel) h⟩
    refine ⟨by decide, ⟨by decide, by decide +kernel⟩, fun y2 => ⟨by decide, by decide, fun _ => ?_, fun h => no_of (by decide +kernel) h⟩⟩
    refine ⟨fun _ => ?_, fun h => no_of (by decide +kernel) h⟩
    refine ⟨fun _ => ?_, fun h => no_of (by decide +kernel) h⟩
    exact ⟨by decide, fun y3 => ⟨by decide, by decide, _, _, H, endPlain (fun r z hz => hz.trans (congrArg Value.bool (by decide +kernel))) rfl⟩⟩
  · exact H.elim
theorem hooksB_ok : ∀ g H, hooksB g = some H → HookOk Try.prog g H := by
  intro g H h
  unfold hooksB at h
  split at h
  · cases h; exact hSmallQ
  · exact hooksB0_ok _ _ h
theorem take_allQ {α : Type} (l : List α) : List.take l.length (List.drop 0 l) = l := List.take_length ..

/-! ## any commits tell alike -/
theorem rowsOf_len (m : Mp) : (rowsOf m).length = m.length := by unfold rowsOf; rw [List.length_map, sortK_len]
/-! ## misses -/
/-! ## key by key -/
end Sx
end Go.Proofs.Ythabfkcmhffjoaa

/-
  The laws of commits: what Answer tells, and beginnings.
-/
namespace Go.Proofs.Ythabfkcmhffjoaa
namespace Sx
open Go
set_option linter.unusedSimpArgs false
set_option linter.unusedVariables false

theorem next_alike {m : Mp} {l : List Pr} (A : Alike m l) (d k v : Int) : Alike (doM m (ansC (rget l k) d k v)) (nextR l d k v) := by
  refine ⟨doM_one A.one _, nextR_sorted A.srt _ _ _, fun j => ?_⟩
  rw [nextR_get A.srt, doM_get A.one, A.get]
  by_cases h2 : d = 2
  · have hA : ansC (mget m k) d k v = ⟨2, k, v, false⟩ := if_pos h2
    rw [hA]
    by_cases hj : j = k
    · subst hj; simp [h2]
    · simp [hj, A.get]
  · by_cases h13 : d = 1 ∨ d = 3
    · have hA : ansC (mget m k) d k v = ⟨d, k, (mget m k).getD 0, (mget m k).isSome⟩ := by unfold ansC; rw [if_neg h2, if_pos h13]
      rw [hA]
      by_cases hj : j = k
      · subst hj
        rcases h13 with rfl | rfl <;> simp [A.get]
      · simp [hj, A.get]
    · by_cases h4 : d = 4 ∧ (mget m k).isSome = true
      · have hA : ansC (mget m k) d k v = ⟨4, k, (mget m k).getD 0, true⟩ := by unfold ansC; rw [if_neg h2, if_neg h13, if_pos h4]
        rw [hA]
        obtain ⟨rfl, h5⟩ := h4
        by_cases hj : j = k
        · subst hj; simp
        · simp [hj, A.get]
      · have hA : ansC (mget m k) d k v = cc0 := by unfold ansC; rw [if_neg h2, if_neg h13, if_neg h4]
        rw [hA]
        have hR : (if j = cc0.key then (if cc0.act = 2 then some cc0.value else if cc0.act = 3 ∨ cc0.act = 4 then none else mget m cc0.key) else mget m j) = mget m j := by
          split
          · rename_i e0; rw [e0]; rfl
          · rfl
        rw [hR]
        by_cases hj : j = k
        · subst hj
          rw [if_pos rfl, if_neg h2]
          by_cases h34 : d = 3 ∨ d = 4
          · rw [if_pos h34]
            cases hm : mget m j with
            | none => rfl
            | some x => exact absurd ⟨by omega, by rw [hm]; rfl⟩ h4
          · rw [if_neg h34]
        · rw [if_neg hj]; exact A.get j
theorem next_rows {m : Mp} {l : List Pr} (A : Alike m l) (d k v : Int) : rowsOf (doM m (ansC (rget l k) d k v)) = nextR l d k v := rows_alike (next_alike A d k v)
theorem rows_keys {m : Mp} (h : KIn m) : ∀ p ∈ rowsOf m, inR p.k := by
  intro p hp
  unfold rowsOf at hp
  obtain ⟨k, hk, rfl⟩ := List.mem_map.1 hp
  unfold sortK at hk
  obtain ⟨q, hq, rfl⟩ := List.mem_map.1 ((List.mergeSort_perm _ _).subset hk)
  exact h q hq
theorem state_alike (l : List Com) : Alike (runM l []).2 (rowsOf (runM l []).2) := by
  have := (run_alike l Alike.nil).2
  rw [rows_alike this]; exact this

end Sx
end Go.Proofs.Ythabfkcmhffjoaa

