/-
  Entries sorted by their keys: what the library's function does, told for all callers.
-/
import Derived.Test.YtkadlfadmjhahaaPlaysP6
import Derived.Shelf.SlSortCmp.NoneTotal
namespace Go.Proofs.Ytkadlfadmjhahaa
open Go.RowKit Go.Sort Go.Shelf
namespace Sx
open Go
set_option linter.unusedSimpArgs false
set_option linter.unusedVariables false

def encE (e : Ent) : List Value := [.int .i64 e.key, .int .i64 e.value, .int .i64 e.weight, .int .i64 e.node]
instance : Inhabited Ent := ⟨e0⟩
def cmpE (x y : Ent) : Int := Lib.compareInt x.key y.key

set_option maxHeartbeats 1000000 in
theorem closure_map (x y : Ent) (W : World) : Calls Try.prog 35 #[.agg (encE x).toArray, .agg (encE y).toArray] W fun e w' => e = .returned (.int .i64 (cmpE x y)) ∧ ∃ q os', w' = grow (W.drewN q) os' := by
  have hcon := fun W' => AnyG.cmp_Compare_int Try.cmpL x.key y.key W'
  change ∀ W', Calls Try.prog 36 _ _ _ at hcon
  unfold cmpE
  generalize Lib.compareInt x.key y.key = r at hcon ⊢
  show Calls Try.prog 35 #[.agg #[.int .i64 x.key, .int .i64 x.value, .int .i64 x.weight, .int .i64 x.node], .agg #[.int .i64 y.key, .int .i64 y.value, .int .i64 y.weight, .int .i64 y.node]] W _
  go_enter Try.func35, Try.ntmps35
  go_wp2_with (go_at_call 36; refine (hcon _).mono ?_; rintro e w' ⟨rfl, rfl⟩)
  go_ret
  exact ⟨rfl, 0, _, by rw [alloc_eq_grow, alloc_eq_grow, grow_grow]; rfl⟩
set_option maxHeartbeats 1000000 in
theorem closure_tab (x y : Ent) (W : World) : Calls Try.prog 35 #[.agg (encE x).toArray, .agg (encE y).toArray] W fun e w' => e = .returned (.int .i64 (cmpE x y)) ∧ ∃ q os', w' = grow (W.drewN q) os' := by
  have hcon := fun W' => AnyG.cmp_Compare_int Try.cmpL x.key y.key W'
  change ∀ W', Calls Try.prog 36 _ _ _ at hcon
  unfold cmpE
  generalize Lib.compareInt x.key y.key = r at hcon ⊢
  show Calls Try.prog 35 #[.agg #[.int .i64 x.key, .int .i64 x.value, .int .i64 x.weight, .int .i64 x.node], .agg #[.int .i64 y.key, .int .i64 y.value, .int .i64 y.weight, .int .i64 y.node]] W _
  go_enter Try.func35, Try.ntmps35
  go_wp2_with (go_at_call 36; refine (hcon _).mono ?_; rintro e w' ⟨rfl, rfl⟩)
  go_ret
  exact ⟨rfl, 0, _, by rw [alloc_eq_grow, alloc_eq_grow, grow_grow]; rfl⟩

theorem cmp_lt (x y : Ent) : ltOf cmpE x y = decide (x.key < y.key) := by
  unfold ltOf cmpE Lib.compareInt
  by_cases h1 : x.key < y.key
  · simp [h1]
  · by_cases h2 : x.key > y.key <;> simp [h1, h2]
theorem swo_key : SWO (ltOf cmpE) := by
  refine ⟨fun x => ?_, fun x y z h k => ?_, fun x y z h k => ?_⟩
  · rw [cmp_lt]; simp
  · rw [cmp_lt] at *; simp at *; omega
  · rw [cmp_lt] at *; simp at *; omega

/-! ## rows of entries in memory -/
theorem relL_ent {r : Nm} {e : Ent} {vs : List Value} (h : relL r (Ent.enc e) vs) : vs = encE e := by
  simp only [Ent.enc, relL, rel] at h
  obtain ⟨v, us, rfl, rfl, v2, us2, rfl, rfl, v3, us3, rfl, rfl, v4, us4, rfl, rfl, rfl⟩ := h
  rfl
theorem ent_relL (r : Nm) (e : Ent) : relL r (Ent.enc e) (encE e) := relL_cons.2 ⟨rfl, relL_cons.2 ⟨rfl, relL_cons.2 ⟨rfl, relL_cons.2 ⟨rfl, relL_nil⟩⟩⟩⟩
theorem encE_get (e : Ent) {j : Nat} (h : j < 4) : (encE e)[j]? = some ((encE e)[j]!) := by
  have : j < (encE e).length := h
  rw [List.getElem?_eq_getElem this, getElem!_pos _ j this]
theorem getA {xs : List Ent} {i : Nat} (h : i < xs.length) : xs.toArray[i]! = xs[i] := by rw [getElem!_pos _ i (by simpa using h)]; simp

theorem holds_row {w : World} {b T : Nat} {c : Array Value} {r : Nm} {xs : List Ent} (hb : w.heap[b]? = some (.cells c T (0, 0))) (hrow : rowAt Ent.lay r xs c 0) : HoldsK encE 4 w b 0 xs.toArray := by
  intro j hj
  rw [size_flatK] at hj
  have hj : j < xs.length * 4 := by simpa using hj
  rw [get_flatK _ _ _ _ (by simpa using hj)]
  have hi : j / 4 < xs.length := by omega
  have h1 := relL_ent (hrow (j / 4) xs[j / 4] (List.getElem?_eq_getElem hi))
  have h2 : (encE xs[j / 4])[j % 4]? = c[j]? := by
    rw [← h1]
    rw [List.getElem?_take, if_pos (show j % 4 < Ent.lay.w by show j % 4 < 4; omega), List.getElem?_drop]
    rw [show 0 + j / 4 * Ent.lay.w + j % 4 = j by show 0 + j / 4 * 4 + j % 4 = j; omega]
    simp
  refine ⟨?_, ?_⟩
  · rw [cell_of_row w b (0 + j) c T (0, 0) hb, Nat.zero_add, ← h2, encE_get _ (by omega), getA hi]; rfl
  · simp [World.frozen?, hb]

theorem heap_sort {w : World} {b T : Nat} {c : Array Value} (hb : w.heap[b]? = some (.cells c T (0, 0))) (d : Array Ent) (n : Nat) (os : Array Obj) :
    (sortWorldK encE 4 w b 0 n d os).heap[b]? = some (.cells (putCells id 0 (flatK encE 4 d) c) T (0, 0)) ∧ (∀ x, x ≠ b → x < w.heap.size → (sortWorldK encE 4 w b 0 n d os).heap[x]? = w.heap[x]?) ∧
    (sortWorldK encE 4 w b 0 n d os).os = w.os ∧ (sortWorldK encE 4 w b 0 n d os).output = w.output ∧ (sortWorldK encE 4 w b 0 n d os).tape = w.tape := by
  have hlt : b < w.heap.size := (Array.getElem?_eq_some_iff.1 hb).1
  have hsz : (putRowK encE 4 (Sort.ahead w n) b 0 d).heap.size = w.heap.size := size_putRowK ..
  refine ⟨?_, fun x hx hl => ?_, rfl, rfl, rfl⟩
  · unfold sortWorldK
    rw [heap_grow_old _ _ (by rw [hsz]; exact hlt)]
    show (w.heap.modify b (onCells (putCells id 0 (flatK encE 4 d))))[b]? = _
    rw [Array.getElem?_modify, if_pos rfl, hb]; rfl
  · unfold sortWorldK
    rw [heap_grow_old _ _ (by rw [hsz]; exact hl)]
    show (w.heap.modify b (onCells (putCells id 0 (flatK encE 4 d))))[x]? = _
    rw [Array.getElem?_modify, if_neg (Ne.symm hx)]

theorem row_sorted {c : Array Value} {d : Array Ent} {r : Nm} (hs : d.size * 4 ≤ c.size) : rowAt Ent.lay r d.toList (putCells id 0 (flatK encE 4 d) c) 0 ∧ (putCells id 0 (flatK encE 4 d) c).size = c.size := by
  refine ⟨fun i x hx => ?_, by simp [putCells]⟩
  have hi : i < d.toList.length := (List.getElem?_eq_some_iff.1 hx).1
  have hi' : i < d.size := by simpa using hi
  have hxe : d[i]! = x := by
    rw [getElem!_pos d i hi']
    have := (List.getElem?_eq_some_iff.1 hx).2
    simpa using this
  have : ((putCells id 0 (flatK encE 4 d) c).toList.drop (0 + i * Ent.lay.w)).take Ent.lay.w = encE x := by
    apply List.ext_getElem?
    intro j
    show (List.take 4 (List.drop (0 + i * 4) (putCells id 0 (flatK encE 4 d) c).toList))[j]? = _
    rw [List.getElem?_take]
    by_cases hj : j < 4
    · rw [if_pos hj, List.getElem?_drop, encE_get _ hj]
      have hk : i * 4 + j < d.size * 4 := by omega
      have e1 : (putCells id 0 (flatK encE 4 d) c).toList[0 + i * 4 + j]? = (putCells id 0 (flatK encE 4 d) c)[i * 4 + j]? := by simp
      rw [e1]
      unfold putCells
      rw [Array.getElem?_mapIdx, Array.getElem?_eq_getElem (show i * 4 + j < c.size by omega)]
      simp only [Option.map_some, id, Nat.zero_le, true_and, Nat.zero_add, size_flatK, hk, if_true, Nat.sub_zero]
      rw [get_flatK _ _ _ _ hk, show (i * 4 + j) / 4 = i by omega, show (i * 4 + j) % 4 = j by omega, hxe]
    · rw [if_neg hj, List.getElem?_eq_none (by show 4 ≤ j; omega)]
  rw [this]; exact ent_relL r x

def isCmp (g : Nat) : Bool := Nat.beq g 35 || Nat.beq g 35
def sortGo (id w st len : Nat) (h : Heap V) (nx : Nat) (K : AV → Heap V → Nat → List Nat → Out V) : Option (Blk V) → Out V
  | some (.arr T .ent xs sp) => bif Nat.beq w 4 then .need (st = 0 ∧ len = xs.length ∧ xs.length ≤ 1099511627776) (.all (List Ent) fun ys => .asm (ys.Perm xs ∧ ys.Pairwise (fun a b => a.key ≤ b.key)) (K (.tup []) (h.set id (.arr T .ent ys sp)) nx [id])) else .bad 551
  | _ => .bad 552
def hookSort : HookS V := fun args h nx K => match args with
  | [.sl _ id st w len _, .fn g [] []] => bif isCmp g then sortGo id w st len h nx K (h.get id) else .bad 553
  | _ => .bad 554

/-- One block of ours written anew, and new blocks that are none's. -/
theorem Sat.writeNew {β : Base} {r : Nm} {hp : Heap V} {w w' : World} (k : Sat β r hp w) {id : Nat} {B B' : Blk V} (hg : hp.get id = some B)
    {b : Nat} (o' : Obj) (hone : ∀ H1, B.den β.G r id H1 → ∃ o, H1 = Hp.one b o)
    (hB : B'.den β.G r id (Hp.one b o')) (hw : w'.heap[b]? = some o') (hs : ∀ x, x ≠ b → x < w.heap.size → w'.heap[x]? = w.heap[x]?)
    (h1 : w'.os = w.os) (h2 : w'.output = w.output) (h3 : w'.tape = w.tape) : Sat β r (hp.set id B') w' := by
  obtain ⟨a, H, p, c, d⟩ := k
  obtain ⟨H1, H2, q1, q2, q3, _, q5⟩ := Heap.focus p hg
  obtain ⟨o, rfl⟩ := hone H1 q1
  subst q3
  have c' := Hp.join_apart.1 c
  have ap : (Hp.one b o').apart H2 := Hp.one_apart.2 (Hp.one_apart.1 q2)
  have apG : (Hp.one b o').apart β.G := Hp.one_apart.2 (Hp.one_apart.1 c'.1)
  have d' := (Hp.inW_join q2).1 d
  have keep : ∀ {A : Hp}, A.inW w → A b = none → A.inW w' := fun {A} hA hb x o e => by
    rw [hs x (fun hx => by rw [hx, hb] at e; cases e) (Hp.lt hA e)]; exact hA x o e
  exact ⟨⟨h1.trans a.os, h2.trans a.output, h3.trans a.tape, keep a.G (Hp.one_apart.1 c'.1)⟩, (Hp.one b o').join H2, q5 r B' _ (Nm.le.refl r) hB ap, Hp.join_apart.2 ⟨apG, c'.2⟩, (Hp.inW_join ap).2 ⟨Hp.inW_one.2 hw, keep d'.2 (Hp.one_apart.1 q2)⟩⟩

theorem Sat.setSame {β : Base} {r : Nm} {hp : Heap V} {w : World} (k : Sat β r hp w) {id : Nat} {B : Blk V} (hg : hp.get id = some B) : Sat β r (hp.set id B) w := by
  obtain ⟨a, H, p, c, d⟩ := k
  obtain ⟨H1, H2, q1, q2, q3, _, q5⟩ := Heap.focus p hg
  subst q3
  exact ⟨a, _, q5 r B H1 (Nm.le.refl r) q1 q2, c, d⟩

theorem hSort : HookOk Try.prog 34 hookSort := by
  intro M args h nx K H
  unfold hookSort at H
  split at H
  · rename_i kn id st wd len cap g
    rw [holds_bif] at H
    split at H
    · rename_i hg
      unfold sortGo at H
      split at H
      · rename_i T xs sp hB
        rw [holds_bif] at H
        split at H
        · rename_i hw
          have hw := Nat.eq_of_beq_eq_true hw
          subst hw
          obtain ⟨⟨h0, hl, h2⟩, H⟩ := H
          subst h0; subst hl
          refine ⟨⟨Try.f34, by kernel_rfl, by kernel_rfl, by kernel_rfl⟩, fun β r vs w hr hs hfresh => ?_⟩
          simp only [relL] at hr
          obtain ⟨v0, us, rfl, ⟨a, rfl, hlc, ha⟩, v1, us1, rfl, ⟨u1, u2, hu1, hu2, rfl⟩, rfl⟩ := hr
          have hu1 : u1 = [] := hu1
          have hu2 : u2 = [] := hu2
          subst hu1; subst hu2
          rcases Nat.eq_zero_or_pos xs.length with hz | h1
          · have hx : xs = [] := List.length_eq_zero_iff.1 hz
            have hS := AnyF.slices_SortFunc_none Try.sortFL a cap (.func (.func g) #[] #[]) w
            rw [← hz] at hS
            refine Calls.mono (show Calls Try.prog 34 _ w _ from hS) fun e w' hh => ?_
            obtain ⟨rfl, rfl⟩ := hh
            exact ⟨_, _, _, _, _, r, rfl, H xs ⟨List.Perm.refl _, by rw [hx]; exact List.Pairwise.nil⟩, Nm.le.refl r, hfresh, ⟨[], relL_nil, rfl⟩, Sat.setSame hs hB, Kept.of fun i B hi hn => by rw [Heap.get_set_ne (by simpa using hn)]; exact hi⟩
          obtain ⟨H1, hden, hinw, _⟩ := hs.at hB
          rcases hden with ⟨hz, _⟩ | ⟨b, c, hb, hrow, hsz, hmx, rfl⟩
          · omega
          have hblk := Hp.inW_one.1 hinw
          have hlt : b < w.heap.size := (Array.getElem?_eq_some_iff.1 hblk).1
          have haddr : a = some ⟨b, 0, none⟩ := by
            rcases ha with h0 | ⟨y, hy, e⟩
            · omega
            · rw [hb] at hy; cases hy; rw [e]
          subst haddr
          have hcl : (∀ x y W, Calls Try.prog g #[.agg (encE x).toArray, .agg (encE y).toArray] W fun e w' => e = .returned (.int .i64 (cmpE x y)) ∧ ∃ q os', w' = grow (W.drewN q) os') ∧ ∀ args w, (callFunc g args).run Try.prog w = .ok (.enter g args) w := by
            unfold isCmp at hg
            simp only [Bool.or_eq_true] at hg
            rcases hg with hg | hg
            · have := Nat.eq_of_beq_eq_true hg; subst this
              exact ⟨closure_map, enters_of Try.func35 (by kernel_rfl) rfl⟩
            · have := Nat.eq_of_beq_eq_true hg; subst this
              exact ⟨closure_tab, enters_of Try.func35 (by kernel_rfl) rfl⟩
          have hS := AnyQ.slices_SortFunc Try.sortFL 4 Try.isAgg29 Try.sizeOf29 encE (fun _ => rfl) (fun x v hv => by simp [encE] at hv; rcases hv with rfl | rfl | rfl | rfl <;> rfl) cmpE swo_key g #[] b 0 cap xs.toArray w hcl.2 (fun _ _ _ _ x y => hcl.1 x y _) (holds_row hblk hrow) hlt (by simp; omega)
          have hsize : xs.toArray.size = xs.length := by simp
          rw [hsize] at hS
          refine Calls.mono (show Calls Try.prog 34 _ w _ from hS) fun e w' hh => ?_
          obtain ⟨rfl, d', n, os, hp, hso, rfl⟩ := hh
          obtain ⟨hd1, _, hd3⟩ := hp
          have hds : d'.size = xs.length := by rw [hd1]; simp
          have hperm : d'.toList.Perm xs := by
            have e1 : d'.extract 0 xs.length = d' := by rw [← hds]; simp
            have e2 : xs.toArray.extract 0 xs.length = xs.toArray := by rw [← hsize]; simp
            rw [e1, e2] at hd3; simpa using hd3
          have hpw : d'.toList.Pairwise (fun a b => a.key ≤ b.key) := by
            rw [List.pairwise_iff_getElem]
            intro i j hi hj hij
            have hi' : i < d'.size := by simpa using hi
            have hj' : j < d'.size := by simpa using hj
            have := hso i j (Nat.zero_le _) hij (by omega)
            rw [cmp_lt, getElem!_pos d' i hi', getElem!_pos d' j hj'] at this
            simp at this ⊢
            exact this
          obtain ⟨s1, s2, s3, s4, s5⟩ := heap_sort hblk d' n os
          have hcs : d'.size * 4 ≤ c.size := by rw [hsz, hds]; show _ ≤ (xs.length + sp) * 4; omega
          obtain ⟨t1, t2⟩ := row_sorted (r := r) hcs
          have hln : d'.toList.length = xs.length := by simpa using hds
          refine ⟨_, _, _, _, _, r, rfl, H d'.toList ⟨hperm, hpw⟩, Nm.le.refl r, hfresh, ⟨[], relL_nil, rfl⟩, ?_, Kept.of fun i B hi hn => by rw [Heap.get_set_ne (by simpa using hn)]; exact hi⟩
          refine Sat.writeNew hs hB (b := b) (.cells (putCells (fun x => x) 0 (flatK encE 4 d') c) T (0, 0)) ?_ (.inr ⟨b, _, hb, t1, ?_, ?_, rfl⟩) s1 s2 s3 s4 s5
          · rintro Hx (⟨hz, _⟩ | ⟨b', c', hb', _, _, _, rfl⟩)
            · omega
            · rw [hb] at hb'; cases hb'; exact ⟨_, rfl⟩
          · rw [t2, hln]; exact hsz
          · rw [hln]; exact hmx
        · exact H.elim
      · exact H.elim
    · exact H.elim
  · exact H.elim

end Sx
end Go.Proofs.Ytkadlfadmjhahaa

/-
  Tables: the runs of the machine.
-/
namespace Go.Proofs.Ytkadlfadmjhahaa
namespace Sx
open Go
set_option maxRecDepth 100000
set_option linter.unusedVariables false

noncomputable def hooksAll : Nat → Option (HookS V) := fun g => match g with | 34 => some hookSort | _ => none
noncomputable def cfgAll : Cfg Try.prog V := ⟨tab, kinds, fun _ => none, hooksAll, fun _ _ => none⟩
structure PAll where
  p : Pool
  j : Int
  a0 : Option (Nat × Nat)
  n0 : Nat
  c0 : Nat
  a1 : Option (Nat × Nat)
  n1 : Nat
  c1 : Nat
  row : Option (Nat × Nat)
  n : Nat
  c : Nat
  i : Int
structure XAll where
  x : Option (Nat × Nat)
  ys : List Ent
  sp : Nat
def AI4 (q : PAll) (z : XAll) : St V := ⟨[(22, .lit .i64 2), (21, .sl true 2 0 1 2 2), (23, .lit .i64 q.j), (27, .rs q.row q.n q.c), (28, .int .i64 (q.n : Int)), (29, .int .i64 q.i), (3, .sl false 8 0 4 z.ys.length (z.ys.length + z.sp)), (7, .rp z.x)],
  [(8, .arr 29 .ent z.ys z.sp), (2, .cells 52 [.rs q.a0 q.n0 q.c0, .rs q.a1 q.n1 q.c1]), (0, .pool q.p)], 9, 51, TQ⟩
theorem tball4 (q : PAll) (z : XAll) : runCode cfgAll 60 15 (loopOf Try.f15 4) (AI4 q z) (stopT (trimSt [3, 7, 21, 22, 23, 27, 28, 29] [0, 2, 8, 9, 10])) = Out.ite (!z.x.isNone) (Out.need (z.x.isSome = true) (Out.need (z.x.isSome = true) (Out.ex Int fun y => Out.ex Int fun y_1 => Out.ex Int fun y_2 => Out.ex Int fun y_3 => Out.need (q.p.at (shiftA z.x (0 : Nat)) [PD.int .i64 y, PD.int .i64 y_1, PD.int .i64 y_2, PD.int .i64 y_3]) (Out.need ((0 : Nat) = (0 : Nat) ∧ z.ys.length = z.ys.length ∧ z.ys.length + z.3 = z.ys.length + z.3 ∧ (z.ys.length + (1 : Nat)) * (32 : Nat) ≤ (140737488355328 : Nat)) (Out.all Nat fun y_4 => Out.need (z.x.isSome = true) (Out.need (z.x.isSome = true) (Out.ex (Option (Nat × Nat)) fun y_5 => Out.need (q.p.at (shiftA z.x (4 : Nat)) [PD.ptr y_5]) (Out.stop EX.nx {env := [((3 : Nat), .sl false (10 : Nat) (0 : Nat) (4 : Nat) (z.ys.length + (1 : Nat)) (z.ys.length + (1 : Nat) + y_4)), ((7 : Nat), AV.rp y_5), ((21 : Nat), .sl true (2 : Nat) (0 : Nat) (1 : Nat) (2 : Nat) (2 : Nat)), ((22 : Nat), .lit .i64 (2 : Int)), ((23 : Nat), .lit .i64 q.j), ((27 : Nat), AV.rs q.row q.10 q.11), ((28 : Nat), .int .i64 (↑q.10 : Int)), ((29 : Nat), .int .i64 q.i)], heap := [((10 : Nat), .arr (29 : Nat) Kd.ent (z.ys ++ [{key := y, value := y_1, weight := y_2, node := y_3 : Ent }]) y_4), ((9 : Nat), .cells (29 : Nat) [.int .i64 y, .int .i64 y_1, .int .i64 y_2, .int .i64 y_3]), ((2 : Nat), .cells (52 : Nat) [AV.rs q.a0 q.4 q.5, AV.rs q.a1 q.7 q.8]), ((0 : Nat), Blk.pool q.p)], nx := (11 : Nat), nt := (51 : Nat), tl := [(8 : Nat), (0 : Nat), (1 : Nat), (2 : Nat), (3 : Nat), (4 : Nat), (5 : Nat), (6 : Nat), (7 : Nat), (8 : Nat), (9 : Nat), (10 : Nat), (11 : Nat), (12 : Nat), (13 : Nat), (14 : Nat), (15 : Nat), (16 : Nat)] : St V })))))))) (Out.stop (EX.ex (4 : Nat)) {env := [((3 : Nat), .sl false (8 : Nat) (0 : Nat) (4 : Nat) z.ys.length (z.ys.length + z.3)), ((7 : Nat), AV.rp z.x), ((21 : Nat), .sl true (2 : Nat) (0 : Nat) (1 : Nat) (2 : Nat) (2 : Nat)), ((22 : Nat), .lit .i64 (2 : Int)), ((23 : Nat), .lit .i64 q.j), ((27 : Nat), AV.rs q.row q.10 q.11), ((28 : Nat), .int .i64 (↑q.10 : Int)), ((29 : Nat), .int .i64 q.i)], heap := [((8 : Nat), .arr (29 : Nat) Kd.ent z.ys z.3), ((2 : Nat), .cells (52 : Nat) [AV.rs q.a0 q.4 q.5, AV.rs q.a1 q.7 q.8]), ((0 : Nat), Blk.pool q.p)], nx := (9 : Nat), nt := (51 : Nat), tl := [(0 : Nat), (1 : Nat), (2 : Nat), (3 : Nat), (4 : Nat), (5 : Nat), (6 : Nat), (7 : Nat), (8 : Nat), (9 : Nat), (10 : Nat), (11 : Nat), (12 : Nat), (13 : Nat), (14 : Nat), (15 : Nat), (16 : Nat)] : St V }) := by kernel_rfl

end Sx
end Go.Proofs.Ytkadlfadmjhahaa

/-
  All entries of a table: what the function does.
-/
namespace Go.Proofs.Ytkadlfadmjhahaa
namespace Sx
open Go
set_option linter.unusedSimpArgs false
set_option linter.unusedVariables false

theorem hooksAll_ok : ∀ g H, hooksAll g = some H → HookOk Try.prog g H := by
  intro g H h
  unfold hooksAll at h
  split at h
  · cases h; exact hSort
  · cases h
theorem cfgAll_ok : cfgAll.ok := ⟨tab_met, kinds_met, mixed_met, fun g fn h => (by cases h), hooksAll_ok⟩

theorem tbody4 (q : PAll) (r : Chn) (z : XAll) (hs : Seg q.p z.x r) (hn : z.ys.length + r.length ≤ 1099511627776) (Q : EX → St V → Prop) (F : AV → Heap V → Nat → Prop)
    (hnx : ∀ (ST : St V) a e c' o' sp', r = (a, e) :: c' → Seg q.p o' c' → Wk 8 [(8, 10)] ST (AI4 q ⟨o', z.ys ++ [e], sp'⟩) → Q .nx ST)
    (hex : ∀ ST : St V, r = [] → Wk 8 [(8, 8)] ST (AI4 q z) → Q (.ex 4) ST) :
    (runCode cfgAll 60 15 (loopOf Try.f15 4) (AI4 q z) (stopT (trimSt [3, 7, 21, 22, 23, 27, 28, 29] [0, 2, 8, 9, 10]))).holds ⟨Q, F⟩ := by
  rw [tball4]
  obtain ⟨x, ys, sp⟩ := z
  simp only [Out.holds, decide_eq_true_eq, decide_eq_false_iff_not, beq_iff_eq, beq_eq_false_iff_ne, bne_iff_ne, ne_eq, bne_eq_false_iff_eq, Bool.true_and, Bool.and_true, Bool.not_eq_true', Bool.not_eq_false', Bool.and_eq_true, Bool.or_eq_true, Bool.and_eq_false_imp, true_implies, true_and, Bool.not_true, Bool.not_false, Bool.false_eq_true, Bool.true_eq_false, false_implies, and_true, beq_self_eq_true, Decidable.not_not, not_true_eq_false, not_false_eq_true]
  cases r with
  | nil =>
    have hx : x = none := hs
    subst hx
    exact ⟨fun h => by simp at h, fun _ => hex _ rfl (by (refine ⟨?_, ?_, rfl, tl_ok rfl, ?_, ⟨Nat.le_of_ble_eq_true rfl, rfl⟩⟩ <;> (repeat' first | with_reducible exact trivial | exact AV.sub_same _ | exact .same _ | exact .inr rfl | exact .inl (in_ok rfl) | exact AV.sub_lit' | exact AV.sub_nilS | exact .none _ _ | exact trivial | refine ⟨?_, ?_⟩)))⟩
  | cons y c' =>
    obtain ⟨a, e⟩ := y
    obtain ⟨hx, o', h1, h2⟩ := hs
    have hx : x = some (a, 0) := hx
    subst hx
    simp only [show ys.length + 1 = (ys ++ [e]).length by simp]
    have hb : (ys ++ [e]).length * 32 ≤ 140737488355328 := by simp only [List.length_cons, List.length_append, List.length_nil] at hn ⊢; omega
    refine ⟨fun _ => ⟨rfl, rfl, e.key, e.value, e.weight, e.node, at_whole h1 0 _ rfl (by simp [linkPD]), hb, fun sp' => ⟨rfl, rfl, o', at_whole h1 4 _ rfl (by simp [linkPD]), hnx _ a e c' o' sp' rfl h2 (by (refine ⟨?_, ?_, rfl, tl_ok rfl, ?_, ⟨Nat.le_of_ble_eq_true rfl, rfl⟩⟩ <;> (repeat' first | with_reducible exact trivial | exact AV.sub_same _ | exact .same _ | exact .inr rfl | exact .inl (in_ok rfl) | exact AV.sub_lit' | exact AV.sub_nilS | exact .none _ _ | exact trivial | refine ⟨?_, ?_⟩)))⟩⟩, fun h => by simp at h⟩

structure PC4 where
  q : PAll
  ch : Chn
  z0 : XAll
  hS : Seg q.p z0.x ch
  hn : z0.ys.length + ch.length ≤ 1099511627776
structure J4a (p : PC4) (x : Chn × XAll) : Prop where
  s : Seg p.q.p x.2.x x.1
  e : x.2.ys ++ ents x.1 = p.z0.ys ++ ents p.ch
  n : x.2.ys.length + x.1.length ≤ 1099511627776
def AL4 : LoopS V := trimLoop (trimSt [3, 7, 21, 22, 23, 27, 28, 29] [0, 1, 2, 3, 4, 5, 6, 7, 8]) (loopH 8 (fun p : PC4 => AI4 p.q p.z0) (fun p (_ : Nat) => True) (fun p sp => AI4 p.q ⟨none, p.z0.ys ++ ents p.ch, sp⟩))
theorem al4_ok : LoopOk Try.prog 4 (loopOf Try.f15 4) AL4 := by
  refine trimLoop_ok (trim_ok _ _) (loopTH_ok (C := cfgAll) cfgAll_ok (f := 15) (n := 60) (trim_ok [3, 7, 21, 22, 23, 27, 28, 29] [0, 2, 8, 9, 10]) 8 (fun (p : PC4) (x : Chn × XAll) => AI4 p.q x.2) J4a (fun p => (p.ch, p.z0)) (fun p x => x.1.length) (fun _ (_ : Nat) => True) (fun p sp => AI4 p.q ⟨none, p.z0.ys ++ ents p.ch, sp⟩) (fun p => ⟨p.hS, rfl, p.hn⟩) ?_)
  intro p x hx
  obtain ⟨r, z⟩ := x
  obtain ⟨h1, h2, h3⟩ := hx
  refine tbody4 p.q r z h1 h3 _ _ (fun ST a e c' o' sp' hr hs hw => SImp.of_wk (c', ⟨o', z.ys ++ [e], sp'⟩) hw ⟨⟨hs, ?_, ?_⟩, ?_⟩) (fun ST hr hw => ⟨rfl, ?_⟩)
  · subst hr; rw [← h2]; simp [ents]
  · subst hr; simp only [List.length_cons, List.length_append, List.length_nil] at h3 ⊢; omega
  · subst hr; simp
  · subst hr
    obtain ⟨x, ys, sp⟩ := z
    have hx : x = none := h1
    subst hx
    have hy : ys = p.z0.ys ++ ents p.ch := by rw [← h2]; simp [ents]
    subst hy
    exact SImp.of_wk sp hw trivial

end Sx
end Go.Proofs.Ytkadlfadmjhahaa

/-
  Tables: the runs of the machine.
-/
namespace Go.Proofs.Ytkadlfadmjhahaa
namespace Sx
open Go
set_option maxRecDepth 100000
set_option linter.unusedVariables false

noncomputable def cfgAll4 : Cfg Try.prog V := ⟨tab, kinds, fun _ => none, hooksAll, fun f id => match f, id with | 15, 4 => some AL4 | _, _ => none⟩
structure X2 where
  i : Nat
  ys : List Ent
  sp : Nat
def AI2 (k : Nat) (j : Int) (q : PAll) (z : X2) : St V := ⟨[(22, .lit .i64 2), (21, .sl true 2 0 1 2 2), (23, .lit .i64 j), (27, .rs q.row q.n q.c), (28, .int .i64 (q.n : Int)), (29, .int .i64 (z.i : Int)), (3, .sl false k 0 4 z.ys.length (z.ys.length + z.sp))],
  [(k, .arr 29 .ent z.ys z.sp), (2, .cells 52 [.rs q.a0 q.n0 q.c0, .rs q.a1 q.n1 q.c1]), (0, .pool q.p)], k + 1, 51, TQ⟩
theorem tball2a (q : PAll) (z : X2) : runCode cfgAll4 60 15 (loopOf Try.f15 2) (AI2 3 0 q z) (stopT (trimSt [3, 21, 22, 23, 27, 28, 29] [0, 2, 3, 5, 8])) = Out.ite (decide ((↑z.1 : Int) < (↑q.10 : Int))) (Out.need ((0 : Int) ≤ (↑z.1 : Int) ∧ (↑z.1 : Int) < (↑q.10 : Int) ∧ q.row.isSome = true) (Out.ex (Option (Nat × Nat)) fun y => Out.need (q.p.at (shiftA q.row (z.1 * (1 : Nat))) [PD.ptr y]) (Out.need (LoopFor Try.prog (15 : Nat) (4 : Nat) (loopOf Try.f15 (4 : Nat)) AL4) (Out.ex (PC4 → Prop) fun y_1 => Out.need ((4 : Nat) ≤ (8 : Nat) ∧ SImp (8 : Nat) {env := [((3 : Nat), .sl false (3 : Nat) (0 : Nat) (4 : Nat) z.ys.length (z.ys.length + z.3)), ((7 : Nat), AV.rp y), ((21 : Nat), .sl true (2 : Nat) (0 : Nat) (1 : Nat) (2 : Nat) (2 : Nat)), ((22 : Nat), .lit .i64 (2 : Int)), ((23 : Nat), .lit .i64 (0 : Int)), ((27 : Nat), AV.rs q.row q.10 q.11), ((28 : Nat), .int .i64 (↑q.10 : Int)), ((29 : Nat), .int .i64 (↑z.1 : Int))], heap := [((3 : Nat), .arr (29 : Nat) Kd.ent z.ys z.3), ((2 : Nat), .cells (52 : Nat) [AV.rs q.a0 q.4 q.5, AV.rs q.a1 q.7 q.8]), ((0 : Nat), Blk.pool q.p)], nx := (4 : Nat), nt := (51 : Nat), tl := [(0 : Nat), (1 : Nat), (2 : Nat), (3 : Nat), (4 : Nat), (5 : Nat), (6 : Nat), (7 : Nat), (8 : Nat), (9 : Nat), (10 : Nat), (11 : Nat), (12 : Nat), (13 : Nat), (14 : Nat), (15 : Nat), (16 : Nat)] : St V } (fun p => AI4 p.q p.z0) y_1) (Out.all PC4 fun y => Out.asm (y_1 y) (Out.all Nat fun y_2 => Out.asm ((fun p x => True) y y_2) (Out.stop EX.nx {env := [((3 : Nat), .sl false (8 : Nat) (0 : Nat) (4 : Nat) {x := none, ys := y.z0.ys ++ ents y.ch, sp := y_2 : XAll }.ys.length ({x := none, ys := y.z0.ys ++ ents y.ch, sp := y_2 : XAll }.ys.length + y_2)), ((21 : Nat), .sl true (2 : Nat) (0 : Nat) (1 : Nat) (2 : Nat) (2 : Nat)), ((22 : Nat), .lit .i64 (2 : Int)), ((23 : Nat), .lit .i64 y.q.j), ((27 : Nat), AV.rs y.q.row y.q.10 y.q.11), ((28 : Nat), .int .i64 (↑y.q.10 : Int)), ((29 : Nat), .int .i64 (IntKind.i64.wrap (y.q.i + (1 : Int))))], heap := [((8 : Nat), .arr (29 : Nat) Kd.ent {x := none, ys := y.z0.ys ++ ents y.ch, sp := y_2 : XAll }.ys y_2), ((2 : Nat), .cells (52 : Nat) [AV.rs y.q.a0 y.q.4 y.q.5, AV.rs y.q.a1 y.q.7 y.q.8]), ((0 : Nat), Blk.pool y.q.p)], nx := (9 : Nat), nt := (51 : Nat), tl := [(0 : Nat), (1 : Nat), (2 : Nat), (3 : Nat), (4 : Nat), (5 : Nat), (6 : Nat), (7 : Nat), (8 : Nat), (9 : Nat), (10 : Nat), (11 : Nat), (12 : Nat), (13 : Nat), (14 : Nat), (15 : Nat), (16 : Nat)] : St V }))))))) (Out.stop (EX.ex (2 : Nat)) {env := [((3 : Nat), .sl false (3 : Nat) (0 : Nat) (4 : Nat) z.ys.length (z.ys.length + z.3)), ((21 : Nat), .sl true (2 : Nat) (0 : Nat) (1 : Nat) (2 : Nat) (2 : Nat)), ((22 : Nat), .lit .i64 (2 : Int)), ((23 : Nat), .lit .i64 (0 : Int)), ((27 : Nat), AV.rs q.row q.10 q.11), ((28 : Nat), .int .i64 (↑q.10 : Int)), ((29 : Nat), .int .i64 (↑z.1 : Int))], heap := [((3 : Nat), .arr (29 : Nat) Kd.ent z.ys z.3), ((2 : Nat), .cells (52 : Nat) [AV.rs q.a0 q.4 q.5, AV.rs q.a1 q.7 q.8]), ((0 : Nat), Blk.pool q.p)], nx := (4 : Nat), nt := (51 : Nat), tl := [(0 : Nat), (1 : Nat), (2 : Nat), (3 : Nat), (4 : Nat), (5 : Nat), (6 : Nat), (7 : Nat), (8 : Nat), (9 : Nat), (10 : Nat), (11 : Nat), (12 : Nat), (13 : Nat), (14 : Nat), (15 : Nat), (16 : Nat)] : St V }) := by kernel_rfl

theorem tball2b (q : PAll) (z : X2) : runCode cfgAll4 60 15 (loopOf Try.f15 2) (AI2 5 1 q z) (stopT (trimSt [3, 21, 22, 23, 27, 28, 29] [0, 2, 3, 5, 8])) = Out.ite (decide ((↑z.1 : Int) < (↑q.10 : Int))) (Out.need ((0 : Int) ≤ (↑z.1 : Int) ∧ (↑z.1 : Int) < (↑q.10 : Int) ∧ q.row.isSome = true) (Out.ex (Option (Nat × Nat)) fun y => Out.need (q.p.at (shiftA q.row (z.1 * (1 : Nat))) [PD.ptr y]) (Out.need (LoopFor Try.prog (15 : Nat) (4 : Nat) (loopOf Try.f15 (4 : Nat)) AL4) (Out.ex (PC4 → Prop) fun y_1 => Out.need ((6 : Nat) ≤ (8 : Nat) ∧ SImp (8 : Nat) {env := [((3 : Nat), .sl false (5 : Nat) (0 : Nat) (4 : Nat) z.ys.length (z.ys.length + z.3)), ((7 : Nat), AV.rp y), ((21 : Nat), .sl true (2 : Nat) (0 : Nat) (1 : Nat) (2 : Nat) (2 : Nat)), ((22 : Nat), .lit .i64 (2 : Int)), ((23 : Nat), .lit .i64 (1 : Int)), ((27 : Nat), AV.rs q.row q.10 q.11), ((28 : Nat), .int .i64 (↑q.10 : Int)), ((29 : Nat), .int .i64 (↑z.1 : Int))], heap := [((5 : Nat), .arr (29 : Nat) Kd.ent z.ys z.3), ((2 : Nat), .cells (52 : Nat) [AV.rs q.a0 q.4 q.5, AV.rs q.a1 q.7 q.8]), ((0 : Nat), Blk.pool q.p)], nx := (6 : Nat), nt := (51 : Nat), tl := [(0 : Nat), (1 : Nat), (2 : Nat), (3 : Nat), (4 : Nat), (5 : Nat), (6 : Nat), (7 : Nat), (8 : Nat), (9 : Nat), (10 : Nat), (11 : Nat), (12 : Nat), (13 : Nat), (14 : Nat), (15 : Nat), (16 : Nat)] : St V } (fun p => AI4 p.q p.z0) y_1) (Out.all PC4 fun y => Out.asm (y_1 y) (Out.all Nat fun y_2 => Out.asm ((fun p x => True) y y_2) (Out.stop EX.nx {env := [((3 : Nat), .sl false (8 : Nat) (0 : Nat) (4 : Nat) {x := none, ys := y.z0.ys ++ ents y.ch, sp := y_2 : XAll }.ys.length ({x := none, ys := y.z0.ys ++ ents y.ch, sp := y_2 : XAll }.ys.length + y_2)), ((21 : Nat), .sl true (2 : Nat) (0 : Nat) (1 : Nat) (2 : Nat) (2 : Nat)), ((22 : Nat), .lit .i64 (2 : Int)), ((23 : Nat), .lit .i64 y.q.j), ((27 : Nat), AV.rs y.q.row y.q.10 y.q.11), ((28 : Nat), .int .i64 (↑y.q.10 : Int)), ((29 : Nat), .int .i64 (IntKind.i64.wrap (y.q.i + (1 : Int))))], heap := [((8 : Nat), .arr (29 : Nat) Kd.ent {x := none, ys := y.z0.ys ++ ents y.ch, sp := y_2 : XAll }.ys y_2), ((2 : Nat), .cells (52 : Nat) [AV.rs y.q.a0 y.q.4 y.q.5, AV.rs y.q.a1 y.q.7 y.q.8]), ((0 : Nat), Blk.pool y.q.p)], nx := (9 : Nat), nt := (51 : Nat), tl := [(0 : Nat), (1 : Nat), (2 : Nat), (3 : Nat), (4 : Nat), (5 : Nat), (6 : Nat), (7 : Nat), (8 : Nat), (9 : Nat), (10 : Nat), (11 : Nat), (12 : Nat), (13 : Nat), (14 : Nat), (15 : Nat), (16 : Nat)] : St V }))))))) (Out.stop (EX.ex (2 : Nat)) {env := [((3 : Nat), .sl false (5 : Nat) (0 : Nat) (4 : Nat) z.ys.length (z.ys.length + z.3)), ((21 : Nat), .sl true (2 : Nat) (0 : Nat) (1 : Nat) (2 : Nat) (2 : Nat)), ((22 : Nat), .lit .i64 (2 : Int)), ((23 : Nat), .lit .i64 (1 : Int)), ((27 : Nat), AV.rs q.row q.10 q.11), ((28 : Nat), .int .i64 (↑q.10 : Int)), ((29 : Nat), .int .i64 (↑z.1 : Int))], heap := [((5 : Nat), .arr (29 : Nat) Kd.ent z.ys z.3), ((2 : Nat), .cells (52 : Nat) [AV.rs q.a0 q.4 q.5, AV.rs q.a1 q.7 q.8]), ((0 : Nat), Blk.pool q.p)], nx := (6 : Nat), nt := (51 : Nat), tl := [(0 : Nat), (1 : Nat), (2 : Nat), (3 : Nat), (4 : Nat), (5 : Nat), (6 : Nat), (7 : Nat), (8 : Nat), (9 : Nat), (10 : Nat), (11 : Nat), (12 : Nat), (13 : Nat), (14 : Nat), (15 : Nat), (16 : Nat)] : St V }) := by kernel_rfl

end Sx
end Go.Proofs.Ytkadlfadmjhahaa

/-
  All entries of a table: the loop over a row of chains.
-/
namespace Go.Proofs.Ytkadlfadmjhahaa
namespace Sx
open Go
set_option linter.unusedSimpArgs false
set_option linter.unusedVariables false

theorem cfgAll4_ok : cfgAll4.ok := ⟨tab_met, kinds_met, mixed_met, fun g fn h => (by cases h), hooksAll_ok⟩

structure PC2 where
  q : PAll
  chs : List Chn
  z0 : X2
  h0 : z0.i = 0
  hl : q.n = chs.length
  hn : q.n ≤ 2147483648
  hs : ∀ i, i < chs.length → q.row.isSome = true ∧ ∃ o, q.p.at (shiftA q.row (i * 1)) [.ptr o] ∧ Seg q.p o (chs.getD i [])
  hy : z0.ys.length + (chs.flatMap ents).length ≤ 1099511627776
structure J2 (p : PC2) (z : X2) : Prop where
  i : z.i ≤ p.chs.length
  e : z.ys = p.z0.ys ++ (p.chs.take z.i).flatMap ents
theorem flat_take_le : ∀ (l : List Chn) (i : Nat), ((l.take i).flatMap ents).length + (l.getD i []).length ≤ (l.flatMap ents).length
  | [], i => by simp
  | x :: l, 0 => by simp [ents]
  | x :: l, i + 1 => by have := flat_take_le l i; simp only [List.take_succ_cons, List.flatMap_cons, List.length_append, List.getD_cons_succ]; omega
theorem flat_take_succ : ∀ (l : List Chn) (i : Nat), i < l.length → (l.take (i + 1)).flatMap ents = (l.take i).flatMap ents ++ ents (l.getD i [])
  | [], i, h => by simp at h
  | x :: l, 0, h => by simp
  | x :: l, i + 1, h => by
    have := flat_take_succ l i (by simpa using h)
    rw [List.take_succ_cons, List.take_succ_cons, List.flatMap_cons, List.flatMap_cons, this, List.append_assoc, List.getD_cons_succ]

theorem tbody2a (q : PAll) (z : X2) (c : Chn) (hi : z.i ≤ q.n) (hn : q.n ≤ 2147483648) (hs : z.i < q.n → q.row.isSome = true ∧ ∃ o, q.p.at (shiftA q.row (z.i * 1)) [.ptr o] ∧ Seg q.p o c) (hy : z.ys.length + c.length ≤ 1099511627776) (Q : EX → St V → Prop) (F : AV → Heap V → Nat → Prop)
    (hnx : ∀ (ST : St V) sp', z.i < q.n → Wk 3 [(3, 8)] ST (AI2 3 0 q ⟨z.i + 1, z.ys ++ ents c, sp'⟩) → Q .nx ST)
    (hex : ∀ ST : St V, z.i = q.n → Wk 3 [(3, 3)] ST (AI2 3 0 q z) → Q (.ex 2) ST) :
    (runCode cfgAll4 60 15 (loopOf Try.f15 2) (AI2 3 0 q z) (stopT (trimSt [3, 21, 22, 23, 27, 28, 29] [0, 2, 3, 5, 8]))).holds ⟨Q, F⟩ := by
  rw [tball2a]
  obtain ⟨i, ys, sp⟩ := z
  simp only at hi hs hy hnx hex
  simp only [Out.holds, decide_eq_true_eq, decide_eq_false_iff_not, beq_iff_eq, beq_eq_false_iff_ne, bne_iff_ne, ne_eq, bne_eq_false_iff_eq, Bool.true_and, Bool.and_true, Bool.not_eq_true', Bool.not_eq_false', Bool.and_eq_true, Bool.or_eq_true, Bool.and_eq_false_imp, true_implies, true_and, Bool.not_true, Bool.not_false, Bool.false_eq_true, Bool.true_eq_false, false_implies, and_true, beq_self_eq_true, Decidable.not_not, not_true_eq_false, not_false_eq_true]
  refine ⟨fun hlt => ?_, fun hge => hex _ (by omega) (by (refine ⟨?_, ?_, rfl, tl_ok rfl, ?_, ⟨Nat.le_of_ble_eq_true rfl, rfl⟩⟩ <;> (repeat' first | with_reducible exact trivial | exact AV.sub_same _ | exact .same _ | exact .inr rfl | exact .inl (in_ok rfl) | exact AV.sub_lit' | exact AV.sub_nilS | exact .none _ _ | exact trivial | refine ⟨?_, ?_⟩)))⟩
  have hlt' : i < q.n := by omega
  obtain ⟨h1, o, h2, h3⟩ := hs hlt'
  have hw : IntKind.wrap .i64 ((i : Int) + 1) = ((i + 1 : Nat) : Int) := wrap_nat (by omega)
  refine ⟨⟨by omega, by omega, h1⟩, o, h2, al4_ok, fun p => p = ⟨{ q with i := (i : Int), j := 0 }, c, ⟨o, ys, sp⟩, h3, hy⟩, ⟨by decide, SImp.of_wk (ren := [(8, 3)]) ⟨{ q with i := (i : Int), j := 0 }, c, ⟨o, ys, sp⟩, h3, hy⟩ (by (refine ⟨?_, ?_, rfl, tl_ok rfl, ?_, ⟨Nat.le_of_ble_eq_true rfl, rfl⟩⟩ <;> (repeat' first | with_reducible exact trivial | exact AV.sub_same _ | exact .same _ | exact .inr rfl | exact .inl (in_ok rfl) | exact AV.sub_lit' | exact AV.sub_nilS | exact .none _ _ | exact trivial | refine ⟨?_, ?_⟩))) rfl⟩, ?_⟩
  rintro _ rfl sp'
  exact hnx _ sp' hlt' (by (refine ⟨?_, ?_, rfl, tl_ok rfl, ?_, ⟨Nat.le_of_ble_eq_true rfl, rfl⟩⟩ <;> (repeat' first | with_reducible exact trivial | (exact AV.sub_int hw) | exact AV.sub_same _ | exact .same _ | exact .inr rfl | exact .inl (in_ok rfl) | exact AV.sub_lit' | exact AV.sub_nilS | exact .none _ _ | exact trivial | refine ⟨?_, ?_⟩)))

def AL2a : LoopS V := trimLoop (trimSt [3, 21, 22, 23, 27, 28, 29] [0, 1, 2, 3, 4, 5, 6, 7, 8]) (loopH 3 (fun p : PC2 => AI2 3 0 p.q p.z0) (fun p (_ : Nat) => True) (fun p sp => AI2 3 0 p.q ⟨p.chs.length, p.z0.ys ++ p.chs.flatMap ents, sp⟩))
theorem al2a_ok : LoopOk Try.prog 2 (loopOf Try.f15 2) AL2a := by
  refine trimLoop_ok (trim_ok _ _) (loopTH_ok (C := cfgAll4) cfgAll4_ok (f := 15) (n := 60) (trim_ok [3, 21, 22, 23, 27, 28, 29] [0, 2, 3, 5, 8]) 3 (fun (p : PC2) (x : X2) => AI2 3 0 p.q x) J2 (fun p => p.z0) (fun p x => p.chs.length - x.i) (fun _ (_ : Nat) => True) (fun p sp => AI2 3 0 p.q ⟨p.chs.length, p.z0.ys ++ p.chs.flatMap ents, sp⟩) (fun p => ⟨by rw [p.h0]; exact Nat.zero_le _, by rw [p.h0]; simp⟩) ?_)
  intro p z hz
  obtain ⟨h1, h2⟩ := hz
  have hl := p.hl
  have hy := p.hy
  have hf := flat_take_le p.chs z.i
  refine tbody2a p.q z (p.chs.getD z.i []) (by omega) p.hn (fun h => p.hs z.i (by omega)) ?_ _ _ (fun ST sp' hlt hw => SImp.of_wk ⟨z.i + 1, z.ys ++ ents (p.chs.getD z.i []), sp'⟩ hw ⟨⟨?_, ?_⟩, ?_⟩) (fun ST he hw => ⟨rfl, ?_⟩)
  · rw [h2, List.length_append]; omega
  · show z.i + 1 ≤ _; omega
  · show z.ys ++ _ = _
    rw [flat_take_succ p.chs z.i (by omega), h2, List.append_assoc]
  · show p.chs.length - (z.i + 1) < p.chs.length - z.i; omega
  · obtain ⟨i, ys, sp⟩ := z
    simp only at he h2
    rw [hl] at he; subst he
    rw [List.take_length] at h2; subst h2
    exact SImp.of_wk sp hw trivial

theorem tbody2b (q : PAll) (z : X2) (c : Chn) (hi : z.i ≤ q.n) (hn : q.n ≤ 2147483648) (hs : z.i < q.n → q.row.isSome = true ∧ ∃ o, q.p.at (shiftA q.row (z.i * 1)) [.ptr o] ∧ Seg q.p o c) (hy : z.ys.length + c.length ≤ 1099511627776) (Q : EX → St V → Prop) (F : AV → Heap V → Nat → Prop)
    (hnx : ∀ (ST : St V) sp', z.i < q.n → Wk 5 [(5, 8)] ST (AI2 5 1 q ⟨z.i + 1, z.ys ++ ents c, sp'⟩) → Q .nx ST)
    (hex : ∀ ST : St V, z.i = q.n → Wk 5 [(5, 5)] ST (AI2 5 1 q z) → Q (.ex 2) ST) :
    (runCode cfgAll4 60 15 (loopOf Try.f15 2) (AI2 5 1 q z) (stopT (trimSt [3, 21, 22, 23, 27, 28, 29] [0, 2, 3, 5, 8]))).holds ⟨Q, F⟩ := by
  rw [tball2b]
  obtain ⟨i, ys, sp⟩ := z
  simp only at hi hs hy hnx hex
  simp only [Out.holds, decide_eq_true_eq, decide_eq_false_iff_not, beq_iff_eq, beq_eq_false_iff_ne, bne_iff_ne, ne_eq, bne_eq_false_iff_eq, Bool.true_and, Bool.and_true, Bool.not_eq_true', Bool.not_eq_false', Bool.and_eq_true, Bool.or_eq_true, Bool.and_eq_false_imp, true_implies, true_and, Bool.not_true, Bool.not_false, Bool.false_eq_true, Bool.true_eq_false, false_implies, and_true, beq_self_eq_true, Decidable.not_not, not_true_eq_false, not_false_eq_true]
  refine ⟨fun hlt => ?_, fun hge => hex _ (by omega) (by (refine ⟨?_, ?_, rfl, tl_ok rfl, ?_, ⟨Nat.le_of_ble_eq_true rfl, rfl⟩⟩ <;> (repeat' first | with_reducible exact trivial | exact AV.sub_same _ | exact .same _ | exact .inr rfl | exact .inl (in_ok rfl) | exact AV.sub_lit' | exact AV.sub_nilS | exact .none _ _ | exact trivial | refine ⟨?_, ?_⟩)))⟩
  have hlt' : i < q.n := by omega
  obtain ⟨h1, o, h2, h3⟩ := hs hlt'
  have hw : IntKind.wrap .i64 ((i : Int) + 1) = ((i + 1 : Nat) : Int) := wrap_nat (by omega)
  refine ⟨⟨by omega, by omega, h1⟩, o, h2, al4_ok, fun p => p = ⟨{ q with i := (i : Int), j := 1 }, c, ⟨o, ys, sp⟩, h3, hy⟩, ⟨by decide, SImp.of_wk (ren := [(8, 5)]) ⟨{ q with i := (i : Int), j := 1 }, c, ⟨o, ys, sp⟩, h3, hy⟩ (by (refine ⟨?_, ?_, rfl, tl_ok rfl, ?_, ⟨Nat.le_of_ble_eq_true rfl, rfl⟩⟩ <;> (repeat' first | with_reducible exact trivial | exact AV.sub_same _ | exact .same _ | exact .inr rfl | exact .inl (in_ok rfl) | exact AV.sub_lit' | exact AV.sub_nilS | exact .none _ _ | exact trivial | refine ⟨?_, ?_⟩))) rfl⟩, ?_⟩
  rintro _ rfl sp'
  exact hnx _ sp' hlt' (by (refine ⟨?_, ?_, rfl, tl_ok rfl, ?_, ⟨Nat.le_of_ble_eq_true rfl, rfl⟩⟩ <;> (repeat' first | with_reducible exact trivial | (exact AV.sub_int hw) | exact AV.sub_same _ | exact .same _ | exact .inr rfl | exact .inl (in_ok rfl) | exact AV.sub_lit' | exact AV.sub_nilS | exact .none _ _ | exact trivial | refine ⟨?_, ?_⟩)))

def AL2b : LoopS V := trimLoop (trimSt [3, 21, 22, 23, 27, 28, 29] [0, 1, 2, 3, 4, 5, 6, 7, 8]) (loopH 5 (fun p : PC2 => AI2 5 1 p.q p.z0) (fun p (_ : Nat) => True) (fun p sp => AI2 5 1 p.q ⟨p.chs.length, p.z0.ys ++ p.chs.flatMap ents, sp⟩))
theorem al2b_ok : LoopOk Try.prog 2 (loopOf Try.f15 2) AL2b := by
  refine trimLoop_ok (trim_ok _ _) (loopTH_ok (C := cfgAll4) cfgAll4_ok (f := 15) (n := 60) (trim_ok [3, 21, 22, 23, 27, 28, 29] [0, 2, 3, 5, 8]) 5 (fun (p : PC2) (x : X2) => AI2 5 1 p.q x) J2 (fun p => p.z0) (fun p x => p.chs.length - x.i) (fun _ (_ : Nat) => True) (fun p sp => AI2 5 1 p.q ⟨p.chs.length, p.z0.ys ++ p.chs.flatMap ents, sp⟩) (fun p => ⟨by rw [p.h0]; exact Nat.zero_le _, by rw [p.h0]; simp⟩) ?_)
  intro p z hz
  obtain ⟨h1, h2⟩ := hz
  have hl := p.hl
  have hy := p.hy
  have hf := flat_take_le p.chs z.i
  refine tbody2b p.q z (p.chs.getD z.i []) (by omega) p.hn (fun h => p.hs z.i (by omega)) ?_ _ _ (fun ST sp' hlt hw => SImp.of_wk ⟨z.i + 1, z.ys ++ ents (p.chs.getD z.i []), sp'⟩ hw ⟨⟨?_, ?_⟩, ?_⟩) (fun ST he hw => ⟨rfl, ?_⟩)
  · rw [h2, List.length_append]; omega
  · show z.i + 1 ≤ _; omega
  · show z.ys ++ _ = _
    rw [flat_take_succ p.chs z.i (by omega), h2, List.append_assoc]
  · show p.chs.length - (z.i + 1) < p.chs.length - z.i; omega
  · obtain ⟨i, ys, sp⟩ := z
    simp only at he h2
    rw [hl] at he; subst he
    rw [List.take_length] at h2; subst h2
    exact SImp.of_wk sp hw trivial

end Sx
end Go.Proofs.Ytkadlfadmjhahaa

/-
  Tables: the runs of the machine.
-/
namespace Go.Proofs.Ytkadlfadmjhahaa
namespace Sx
open Go
set_option maxRecDepth 100000
set_option linter.unusedVariables false

def AL2 : LoopS V := fun s K => bif Nat.ble s.nx 3 then AL2a s K else AL2b s K
noncomputable def cfgAll2 : Cfg Try.prog V := ⟨tab, kinds, fun _ => none, hooksAll, fun f id => match f, id with | 15, 2 => some AL2 | _, _ => none⟩
theorem tall (p : Pool) (b : Nat) : runF cfgAll2 60 15 Try.f15 [.rp (some (b, 0))] [(0, .pool p)] 2 = Out.need ((some (b, (0 : Nat))).isSome = true) (Out.need ((some (b, (0 : Nat))).isSome = true) (Out.ex (Option (Nat × Nat)) fun y => Out.ex Nat fun y_1 => Out.ex Nat fun y_2 => Out.need (p.at (shiftA (some (b, (0 : Nat))) (1 : Nat)) [PD.sl y y_1 y_2]) (Out.need ((some (b, (0 : Nat))).isSome = true) (Out.need ((some (b, (0 : Nat))).isSome = true) (Out.ex (Option (Nat × Nat)) fun y_3 => Out.ex Nat fun y_4 => Out.ex Nat fun y_5 => Out.need (p.at (shiftA (some (b, (0 : Nat))) (2 : Nat)) [PD.sl y_3 y_4 y_5]) (Out.need ((some (b, (0 : Nat))).isSome = true) (Out.need ((some (b, (0 : Nat))).isSome = true) (Out.ex Int fun y_6 => Out.need (p.at (shiftA (some (b, (0 : Nat))) (3 : Nat)) [PD.int .i64 y_6]) (Out.need ((0 : Int) ≤ y_6 ∧ y_6 ≤ (↑y_4 : Int) ∧ y_4 ≤ y_5) (Out.need ((0 : Int) ≤ (0 : Int) ∧ (0 : Int) < (2 : Int)) (Out.need (LoopFor Try.prog (15 : Nat) (2 : Nat) (loopOf Try.f15 (2 : Nat)) AL2) (Out.ex (PC2 → Prop) fun y_7 => Out.need ((3 : Nat) ≤ (3 : Nat) ∧ SImp (3 : Nat) {env := [((3 : Nat), .nilS), ((21 : Nat), .sl true (2 : Nat) (0 : Nat) (1 : Nat) (2 : Nat) (2 : Nat)), ((22 : Nat), .lit .i64 (2 : Int)), ((23 : Nat), .lit .i64 (0 : Int)), ((27 : Nat), AV.rs y y_1 y_2), ((28 : Nat), .int .i64 (↑y_1 : Int)), ((29 : Nat), .lit .i64 (0 : Int))], heap := [((2 : Nat), .cells (52 : Nat) [AV.rs y y_1 y_2, AV.rs (if y_5 = y_6.toNat then y_3 else shiftA y_3 (y_6.toNat * (1 : Nat))) (y_4 - y_6.toNat) (y_5 - y_6.toNat)]), ((0 : Nat), Blk.pool p)], nx := (3 : Nat), nt := (51 : Nat), tl := [] : St V } (fun p => AI2 (3 : Nat) (0 : Int) p.q p.z0) y_7) (Out.all PC2 fun y => Out.asm (y_7 y) (Out.all Nat fun y_8 => Out.asm ((fun p x => True) y y_8) (Out.need ((0 : Int) ≤ (1 : Int) ∧ (1 : Int) < (2 : Int)) (Out.need (LoopFor Try.prog (15 : Nat) (2 : Nat) (loopOf Try.f15 (2 : Nat)) AL2) (Out.ex (PC2 → Prop) fun y_9 => Out.need ((4 : Nat) ≤ (5 : Nat) ∧ SImp (5 : Nat) {env := [((3 : Nat), .sl false (3 : Nat) (0 : Nat) (4 : Nat) {i := y.chs.length, ys := y.z0.ys ++ List.flatMap ents y.chs, sp := y_8 : X2 }.ys.length ({i := y.chs.length, ys := y.z0.ys ++ List.flatMap ents y.chs, sp := y_8 : X2 }.ys.length + y_8)), ((21 : Nat), .sl true (2 : Nat) (0 : Nat) (1 : Nat) (2 : Nat) (2 : Nat)), ((22 : Nat), .lit .i64 (2 : Int)), ((23 : Nat), .lit .i64 (1 : Int)), ((27 : Nat), AV.rs y.q.a1 y.q.7 y.q.8), ((28 : Nat), .int .i64 (↑y.q.7 : Int)), ((29 : Nat), .lit .i64 (0 : Int))], heap := [((3 : Nat), .arr (29 : Nat) Kd.ent {i := y.chs.length, ys := y.z0.ys ++ List.flatMap ents y.chs, sp := y_8 : X2 }.ys y_8), ((2 : Nat), .cells (52 : Nat) [AV.rs y.q.a0 y.q.4 y.q.5, AV.rs y.q.a1 y.q.7 y.q.8]), ((0 : Nat), Blk.pool y.q.p)], nx := (4 : Nat), nt := (51 : Nat), tl := [(0 : Nat), (1 : Nat), (2 : Nat), (3 : Nat), (4 : Nat), (5 : Nat), (6 : Nat), (7 : Nat), (8 : Nat), (9 : Nat), (10 : Nat), (11 : Nat), (12 : Nat), (13 : Nat), (14 : Nat), (15 : Nat), (16 : Nat)] : St V } (fun p => AI2 (5 : Nat) (1 : Int) p.q p.z0) y_9) (Out.all PC2 fun y => Out.asm (y_9 y) (Out.all Nat fun y_10 => Out.asm ((fun p x => True) y y_10) (Out.need ((0 : Nat) = (0 : Nat) ∧ {i := y.chs.length, ys := y.z0.ys ++ List.flatMap ents y.chs, sp := y_10 : X2 }.ys.length = {i := y.chs.length, ys := y.z0.ys ++ List.flatMap ents y.chs, sp := y_10 : X2 }.ys.length ∧ {i := y.chs.length, ys := y.z0.ys ++ List.flatMap ents y.chs, sp := y_10 : X2 }.ys.length ≤ (1099511627776 : Nat)) (Out.all (List Ent) fun y_11 => Out.asm (y_11.Perm {i := y.chs.length, ys := y.z0.ys ++ List.flatMap ents y.chs, sp := y_10 : X2 }.ys ∧ List.Pairwise (fun a b => a.key ≤ b.key) y_11) (Out.fin (.sl false (5 : Nat) (0 : Nat) (4 : Nat) {i := y.chs.length, ys := y.z0.ys ++ List.flatMap ents y.chs, sp := y_10 : X2 }.ys.length ({i := y.chs.length, ys := y.z0.ys ++ List.flatMap ents y.chs, sp := y_10 : X2 }.ys.length + y_10)) [((5 : Nat), .arr (29 : Nat) Kd.ent y_11 y_10), ((2 : Nat), .cells (52 : Nat) [AV.rs y.q.a0 y.q.4 y.q.5, AV.rs y.q.a1 y.q.7 y.q.8]), ((0 : Nat), Blk.pool y.q.p)] (6 : Nat))))))))))))))))))))))) := by kernel_rfl

end Sx
end Go.Proofs.Ytkadlfadmjhahaa

/-
  All entries of a table: the contract.
-/
namespace Go.Proofs.Ytkadlfadmjhahaa
namespace Sx
open Go
set_option linter.unusedSimpArgs false
set_option linter.unusedVariables false

theorem al2_ok : LoopOk Try.prog 2 (loopOf Try.f15 2) AL2 := by
  intro M s K h
  unfold AL2 at h
  cases hb : Nat.ble s.nx 3 <;> rw [hb] at h
  · exact al2b_ok M s K h
  · exact al2a_ok M s K h

/-- A row's chains from a place on, as the loop wants them. -/
theorem Arr.rows {p : Pool} {lab : Nat → Lab} {old : Bool} {blk : Nat} {cs : List Chn} {m : Nat} (h : Arr p lab old blk cs m) (hm : m ≤ cs.length) :
    ∀ i, i < (cs.drop m).length → (some (blk, m) : Adr).isSome = true ∧ ∃ o, p.at (shiftA (some (blk, m)) (i * 1)) [.ptr o] ∧ Seg p o ((cs.drop m).getD i []) := by
  intro i hi
  obtain ⟨hs, a1, a2, a3, a4⟩ := h
  rw [List.length_drop] at hi
  refine ⟨rfl, hs.getD (m + i) none, ?_, ?_⟩
  · rw [show shiftA (some (blk, m)) (i * 1) = some (blk, m + i) by simp [shiftA]]
    exact at_arr a1 (by omega)
  · have := (a4 (m + i) (by omega) (by omega)).1
    rwa [show (cs.drop m).getD i [] = cs.getD (m + i) [] by simp [List.getD_eq_getElem?_getD, List.getElem?_drop]]

def rowsAll (L : TL) : List Ent := L.B.flatMap ents ++ (L.O.drop L.moved).flatMap ents
def runAll : RunPool V := fun p ar K => match ar with
  | [.val (.rp a)] => .ex Nat fun b => .need (a = some (b, 0)) <| .ex TL fun L => .need (TabAt p b L ∧ L.fits ∧ (rowsAll L).length ≤ 1099511627776) (.all (List Ent) fun ys => .all Nat fun sp => .asm (ys.Perm (rowsAll L) ∧ ys.Pairwise (fun a b => a.key ≤ b.key)) (K (.sl false 1 0 4 (rowsAll L).length ((rowsAll L).length + sp)) p [.arr 29 .ent ys sp]))
  | _ => .bad 500
theorem hAll : HookOk Try.prog 15 (hookPool [.val] runAll) := by
  refine pool_hook (C := cfgAll2) ⟨tab_met, kinds_met, mixed_met, fun g fn h => (by cases h), hooksAll_ok⟩ (n := 60) (fn := Try.f15) ⟨by kernel_rfl, by kernel_rfl⟩ (by kernel_rfl) ?_
  intro M p ar K0 H
  unfold runAll at H
  split at H
  · rename_i a
    obtain ⟨b, rfl, L, ⟨hT, hF, hN⟩, H⟩ := H
    refine ⟨show 1 ≤ _ by decide +kernel, ?_⟩
    show (runF cfgAll2 60 15 Try.f15 [.rp (some (b, 0))] [(0, .pool p)] 2).holds _
    rw [tall]
    have f1 := hT.f1; have f2 := hT.f2; have f3 := hT.f3
    have hmv := hT.2.2.2.2.1
    simp only [Out.holds, decide_eq_true_eq, decide_eq_false_iff_not, beq_iff_eq, beq_eq_false_iff_ne, bne_iff_ne, ne_eq, bne_eq_false_iff_eq, Bool.true_and, Bool.and_true, Bool.not_eq_true', Bool.not_eq_false', Bool.and_eq_true, Bool.or_eq_true, Bool.and_eq_false_imp, true_implies, true_and, Bool.not_true, Bool.not_false, Bool.false_eq_true, Bool.true_eq_false, false_implies, and_true, beq_self_eq_true, Decidable.not_not, not_true_eq_false, not_false_eq_true]
    refine ⟨rfl, rfl, _, _, _, f1, rfl, rfl, _, _, _, f2, rfl, rfl, _, f3, ⟨by omega, by omega, by omega⟩, ⟨by omega, by omega⟩, al2_ok, ?_⟩
    obtain ⟨g1, g2, g3, g4⟩ := hF
    have hnn : (L.moved : Int).toNat = L.moved := Int.toNat_natCast _
    simp only [hnn]
    generalize ha : (if L.O.length = L.moved then L.oo else shiftA L.oo (L.moved * 1)) = a1
    have hlen : (rowsAll L).length = (L.B.flatMap ents).length + ((L.O.drop L.moved).flatMap ents).length := by simp [rowsAll]
    have hs0 : ∀ i, i < L.B.length → (some (L.bb, 0) : Adr).isSome = true ∧ ∃ o, p.at (shiftA (some (L.bb, 0)) (i * 1)) [.ptr o] ∧ Seg p o (L.B.getD i []) := Arr.rows hT.2.2.1 (Nat.zero_le _)
    have hs1 : ∀ i, i < (L.O.drop L.moved).length → a1.isSome = true ∧ ∃ o, p.at (shiftA a1 (i * 1)) [.ptr o] ∧ Seg p o ((L.O.drop L.moved).getD i []) := by
      intro i hi
      have hi' := hi
      rw [List.length_drop] at hi'
      have hO : L.O ≠ [] := fun e => by rw [e] at hi'; simp at hi'
      have ea : a1 = some (L.ob, L.moved) := by
        rw [← ha, if_neg (by omega)]; unfold TL.oo; rw [if_neg hO]; simp [shiftA]
      rw [ea]; exact Arr.rows (hT.2.2.2.1 hO) hmv i hi
    refine ⟨fun q => q = ⟨⟨p, 0, some (L.bb, 0), L.B.length, L.B.length, a1, L.O.length - L.moved, L.O.length - L.moved, some (L.bb, 0), L.B.length, L.B.length, 0⟩, L.B, ⟨0, [], 0⟩, rfl, rfl, (by show L.B.length ≤ _; omega), hs0, (by show 0 + _ ≤ _; omega)⟩, ⟨by decide, SImp.of_wk (ren := [(3, 99)]) _ ?_ rfl⟩, ?_⟩
    · exact ⟨⟨AV.sub_same _, AV.sub_same _, AV.sub_same _, AV.sub_same _, AV.sub_same _, AV.sub_lit', AV.sub_nilS, trivial⟩, ⟨.none _ _, .same _, .same _, trivial⟩, rfl, tl_ok rfl, ⟨.inr rfl, .inr rfl, trivial⟩, ⟨Nat.le_of_ble_eq_true rfl, rfl⟩⟩
    · rintro _ rfl sp1
      refine ⟨⟨by omega, by omega⟩, al2_ok, fun q => q = ⟨⟨p, 1, some (L.bb, 0), L.B.length, L.B.length, a1, L.O.length - L.moved, L.O.length - L.moved, a1, L.O.length - L.moved, L.O.length - L.moved, 0⟩, L.O.drop L.moved, ⟨0, [] ++ L.B.flatMap ents, sp1⟩, rfl, (by simp), (by show L.O.length - L.moved ≤ _; omega), hs1, (by show ([] ++ L.B.flatMap ents).length + _ ≤ _; rw [List.nil_append]; omega)⟩, ⟨by decide, SImp.of_wk (ren := [(5, 3)]) _ ?_ rfl⟩, ?_⟩
      · (refine ⟨?_, ?_, rfl, tl_ok rfl, ?_, ⟨Nat.le_of_ble_eq_true rfl, rfl⟩⟩ <;> (repeat' first | with_reducible exact trivial | (exact AV.sub_lit') | exact AV.sub_same _ | exact .same _ | exact .inr rfl | exact .inl (in_ok rfl) | exact AV.sub_lit' | exact AV.sub_nilS | exact .none _ _ | exact trivial | refine ⟨?_, ?_⟩))
      · rintro _ rfl sp2
        exact ⟨hN, fun ys hys => ⟨_, p, _, H ys sp2 hys, ⟨_, HImp.refl _ _, rfl, ⟨⟨fun _ => 5, ⟨.same _, trivial⟩, AV.sub_same _⟩, rfl, rfl⟩⟩⟩⟩
  · exact H.elim

end Sx
end Go.Proofs.Ytkadlfadmjhahaa

/-
  Plain tables: the row of all entries; no program in sight.
-/
namespace Go.Proofs.Ytkadlfadmjhahaa
namespace Sx
open Go
set_option linter.unusedSimpArgs false
set_option linter.unusedVariables false

def TM.all (t : TM) : List Ent := t.B.flatten ++ (t.O.drop t.moved).flatten
theorem rows_all (L : TL) : rowsAll L = L.tm.all := by
  unfold rowsAll TM.all TL.tm
  dsimp only
  rw [List.flatMap_def, List.flatMap_def, List.map_drop]
theorem TM.all_length (t : TM) : t.all.length = t.total := by
  unfold TM.all TM.total
  rw [List.length_append, List.length_flatten, List.length_flatten]
theorem getD_of {α : Type} {l : List α} {d : α} {i : Nat} (h : i < l.length) : l.getD i d = l[i] := by rw [List.getD_eq_getElem?_getD, List.getElem?_eq_getElem h]; rfl
theorem TM.mem_all {t : TM} (h : t.Core) (e : Ent) : e ∈ t.all ↔ t.get e.key = some e := by
  unfold TM.all
  rw [List.mem_append]
  constructor
  · rintro (hm | hm)
    · obtain ⟨l, hl, he⟩ := List.mem_flatten.1 hm
      obtain ⟨i, hi, rfl⟩ := List.mem_iff_getElem.1 hl
      have hq : t.live (false, i) := by unfold TM.live; simpa using hi
      refine TM.get_mem h hq ?_
      show e ∈ t.B.getD i []
      rw [getD_of hi]; exact he
    · obtain ⟨l, hl, he⟩ := List.mem_flatten.1 hm
      obtain ⟨i, hi, rfl⟩ := List.mem_iff_getElem.1 hl
      rw [List.length_drop] at hi
      have hq : t.live (true, t.moved + i) := by unfold TM.live; simp only [if_true]; omega
      refine TM.get_mem h hq ?_
      show e ∈ t.O.getD (t.moved + i) []
      rw [getD_of (by omega)]
      rwa [List.getElem_drop] at he
  · intro hg
    obtain ⟨_, h2, h3⟩ := TM.get_some h hg
    generalize t.pl e.key = q at h2 h3
    obtain ⟨o, i⟩ := q
    unfold TM.live at h2
    unfold TM.row at h3
    cases o
    · left
      have hi : i < t.B.length := by simpa using h2
      have h3 : e ∈ t.B.getD i [] := h3
      rw [getD_of hi] at h3
      exact List.mem_flatten.2 ⟨_, List.getElem_mem hi, h3⟩
    · right
      simp only [if_true] at h2
      have h3 : e ∈ t.O.getD i [] := h3
      rw [getD_of h2.2] at h3
      refine List.mem_flatten.2 ⟨t.O[i], ?_, h3⟩
      have : i - t.moved < (t.O.drop t.moved).length := by rw [List.length_drop]; omega
      have e1 : (t.O.drop t.moved)[i - t.moved] = t.O[i] := by rw [List.getElem_drop]; congr 1; omega
      rw [← e1]; exact List.getElem_mem this
theorem flat_nodup (pl : Int → Plc) : ∀ (ls : List (List Ent)) (P : Nat → Plc), (∀ i j, P i = P j → i = j) → (∀ i, i < ls.length → ∀ e ∈ ls.getD i [], pl e.key = P i) → (∀ i, i < ls.length → ((ls.getD i []).map (·.key)).Nodup) → (ls.flatten.map (·.key)).Nodup
  | [], _, _, _, _ => List.nodup_nil
  | l :: ls, P, hP, h1, h2 => by
    rw [List.flatten_cons, List.map_append, List.nodup_append]
    refine ⟨h2 0 (Nat.zero_lt_succ _), flat_nodup pl ls (fun i => P (i + 1)) (fun i j e => Nat.succ.inj (hP _ _ e)) (fun i hi e he => h1 (i + 1) (Nat.succ_lt_succ hi) e he) (fun i hi => h2 (i + 1) (Nat.succ_lt_succ hi)), ?_⟩
    intro a ha b hb e
    obtain ⟨x, hx, rfl⟩ := List.mem_map.1 ha
    obtain ⟨y, hy, rfl⟩ := List.mem_map.1 hb
    obtain ⟨m, hm, hy⟩ := List.mem_flatten.1 hy
    obtain ⟨i, hi, rfl⟩ := List.mem_iff_getElem.1 hm
    have a1 := h1 0 (Nat.zero_lt_succ _) x hx
    have a2 := h1 (i + 1) (Nat.succ_lt_succ hi) y (by rw [List.getD_cons_succ, getD_of hi]; exact hy)
    rw [← e, a1] at a2
    have := hP _ _ a2; omega
theorem TM.all_nodup {t : TM} (h : t.Core) : (t.all.map (·.key)).Nodup := by
  unfold TM.all
  rw [List.map_append, List.nodup_append]
  have hl1 : ∀ i, i < t.B.length → t.live (false, i) := fun i hi => by unfold TM.live; simpa using hi
  have hl2 : ∀ i, i < (t.O.drop t.moved).length → t.live (true, t.moved + i) ∧ (t.O.drop t.moved).getD i [] = t.row (true, t.moved + i) := fun i hi => by
    rw [List.length_drop] at hi
    refine ⟨by unfold TM.live; simp only [if_true]; omega, ?_⟩
    show _ = t.O.getD (t.moved + i) []
    simp only [List.getD, List.getElem?_drop]
  refine ⟨flat_nodup t.pl t.B (fun i => (false, i)) (fun i j e => congrArg Prod.snd e) (fun i hi e he => h.home _ (hl1 i hi) e he) (fun i hi => h.nd _ (hl1 i hi)),
    flat_nodup t.pl (t.O.drop t.moved) (fun i => (true, t.moved + i)) (fun i j e => Nat.add_left_cancel (congrArg Prod.snd e)) (fun i hi e he => by obtain ⟨a, b⟩ := hl2 i hi; rw [b] at he; exact h.home _ a e he) (fun i hi => by obtain ⟨a, b⟩ := hl2 i hi; rw [b]; exact h.nd _ a), ?_⟩
  intro a ha b hb e
  obtain ⟨x, hx, rfl⟩ := List.mem_map.1 ha
  obtain ⟨y, hy, rfl⟩ := List.mem_map.1 hb
  obtain ⟨m, hm, hx⟩ := List.mem_flatten.1 hx
  obtain ⟨i, hi, rfl⟩ := List.mem_iff_getElem.1 hm
  obtain ⟨m, hm, hy⟩ := List.mem_flatten.1 hy
  obtain ⟨j, hj, rfl⟩ := List.mem_iff_getElem.1 hm
  have a1 := h.home _ (hl1 i hi) x (by show x ∈ t.B.getD i []; rw [getD_of hi]; exact hx)
  obtain ⟨b1, b2⟩ := hl2 j hj
  have a2 := h.home _ b1 y (by rw [← b2, getD_of hj]; exact hy)
  rw [← e, a1] at a2
  cases a2

/-- The row of all entries of what is held: ascending by key, each that is held once. -/
structure AllRow (f : Int → Option Ent) (ys : List Ent) : Prop where
  asc : ys.Pairwise (fun a b => a.key < b.key)
  mem : ∀ e, e ∈ ys ↔ f e.key = some e
theorem AllRow.of {f : Int → Option Ent} {xs ys : List Ent} (hp : ys.Perm xs) (ha : ys.Pairwise (fun a b => a.key ≤ b.key)) (hn : (xs.map (·.key)).Nodup) (hm : ∀ e, e ∈ xs ↔ f e.key = some e) : AllRow f ys := by
  have hn' : (ys.map (·.key)).Nodup := (hp.map (·.key)).nodup_iff.2 hn
  refine ⟨?_, fun e => hp.mem_iff.trans (hm e)⟩
  have h2 : ys.Pairwise (fun a b => a.key ≠ b.key) := List.pairwise_map.1 hn'
  exact (ha.and h2).imp fun ⟨a, b⟩ => by omega
theorem AllRow.uniq {f : Int → Option Ent} : ∀ {xs ys : List Ent}, AllRow f xs → AllRow f ys → xs = ys := by
  have key : ∀ (xs ys : List Ent), xs.Pairwise (fun a b => a.key < b.key) → ys.Pairwise (fun a b => a.key < b.key) → (∀ e, e ∈ xs ↔ e ∈ ys) → xs = ys := by
    intro xs
    induction xs with
    | nil =>
      intro ys _ _ h
      cases ys with
      | nil => rfl
      | cons y ys => exact absurd ((h y).2 (List.mem_cons_self ..)) (by simp)
    | cons x xs ih =>
      intro ys h1 h2 h
      cases ys with
      | nil => exact absurd ((h x).1 (List.mem_cons_self ..)) (by simp)
      | cons y ys =>
        rw [List.pairwise_cons] at h1 h2
        have e : x = y := by
          rcases List.mem_cons.1 ((h x).1 (List.mem_cons_self ..)) with e | hx
          · exact e
          · rcases List.mem_cons.1 ((h y).2 (List.mem_cons_self ..)) with e | hy
            · exact e.symm
            · have a := h2.1 x hx; have b := h1.1 y hy; omega
        subst e
        rw [ih ys h1.2 h2.2 fun z => ?_]
        constructor
        · intro hz
          rcases List.mem_cons.1 ((h z).1 (List.mem_cons_of_mem _ hz)) with e | hh
          · subst e; have := h1.1 z hz; omega
          · exact hh
        · intro hz
          rcases List.mem_cons.1 ((h z).2 (List.mem_cons_of_mem _ hz)) with e | hh
          · subst e; have := h2.1 z hz; omega
          · exact hh
  intro xs ys hx hy
  exact key xs ys hx.asc hy.asc fun e => (hx.mem e).trans (hy.mem e).symm

end Sx
end Go.Proofs.Ytkadlfadmjhahaa

/-
  Tables: lengths and chains: the runs of the machine.
-/
namespace Go.Proofs.Ytkadlfadmjhahaa
namespace Sx
open Go
set_option maxRecDepth 100000
set_option linter.unusedVariables false

noncomputable def cfgL0 : Cfg Try.prog V := ⟨tab, kinds, fun _ => none, fun _ => none, fun _ _ => none⟩
structure XCh where
  x : Option (Nat × Nat)
  ys : List Int
  sp : Nat
def CI (p : Pool) (z : XCh) : St V := ⟨[(5, .sl false 3 0 1 z.ys.length (z.ys.length + z.sp)), (6, .rp z.x)], [(3, .arr 3 Kd.int z.ys z.sp), (0, .pool p)], 4, 40, TQ⟩
structure PCh where
  p : Pool
  ch : Chn
  x0 : Option (Nat × Nat)
  hS : Seg p x0 ch
  hn : ch.length ≤ 1099511627776
def keysOf (c : Chn) : List Int := (ents c).map (·.key)
def CL : LoopS V := trimLoop (trimSt [5, 6] [0, 3]) (loopH 3 (fun p : PCh => CI p.p ⟨p.x0, [], 0⟩) (fun p (_ : Nat) => True) (fun p sp => CI p.p ⟨none, keysOf p.ch, sp⟩))
noncomputable def cfgL1 : Cfg Try.prog V := ⟨tab, kinds, fun _ => none, fun _ => none, fun f id => match f, id with | 26, 0 => some CL | _, _ => none⟩
theorem tlen (p : Pool) (b : Nat) : runF cfgL0 60 14 Try.f14 [.rp (some (b, 0))] [(0, .pool p)] 2 = Out.need ((some (b, (0 : Nat))).isSome = true) (Out.need ((some (b, (0 : Nat))).isSome = true) (Out.ex Int fun y => Out.need (p.at (shiftA (some (b, (0 : Nat))) (4 : Nat)) [PD.int .i64 y]) (Out.fin (.int .i64 y) [((0 : Nat), Blk.pool p)] (2 : Nat)))) := by kernel_rfl

theorem tleft (p : Pool) (b : Nat) : runF cfgL0 60 16 Try.f16 [.rp (some (b, 0))] [(0, .pool p)] 2 = Out.need ((some (b, (0 : Nat))).isSome = true) (Out.need ((some (b, (0 : Nat))).isSome = true) (Out.ex (Option (Nat × Nat)) fun y => Out.ex Nat fun y_1 => Out.ex Nat fun y_2 => Out.need (p.at (shiftA (some (b, (0 : Nat))) (2 : Nat)) [PD.sl y y_1 y_2]) (Out.need ((some (b, (0 : Nat))).isSome = true) (Out.need ((some (b, (0 : Nat))).isSome = true) (Out.ex Int fun y => Out.need (p.at (shiftA (some (b, (0 : Nat))) (3 : Nat)) [PD.int .i64 y]) (Out.fin (.int .i64 (IntKind.i64.wrap ((↑y_1 : Int) - y))) [((0 : Nat), Blk.pool p)] (2 : Nat))))))) := by kernel_rfl

theorem tbuck (p : Pool) (b : Nat) : runF cfgL0 60 17 Try.f17 [.rp (some (b, 0))] [(0, .pool p)] 2 = Out.need ((some (b, (0 : Nat))).isSome = true) (Out.need ((some (b, (0 : Nat))).isSome = true) (Out.ex (Option (Nat × Nat)) fun y => Out.ex Nat fun y_1 => Out.ex Nat fun y_2 => Out.need (p.at (shiftA (some (b, (0 : Nat))) (1 : Nat)) [PD.sl y y_1 y_2]) (Out.fin (.int .i64 (↑y_1 : Int)) [((0 : Nat), Blk.pool p)] (2 : Nat)))) := by kernel_rfl

theorem tbch (p : Pool) (z : XCh) : runCode cfgL0 60 26 (loopOf Try.f26 0) (CI p z) (stopT (trimSt [5, 6] [0, 3, 4, 5])) = Out.ite (!z.x.isNone) (Out.need (z.x.isSome = true) (Out.need (z.x.isSome = true) (Out.need ((shiftA z.x (0 : Nat)).isSome = true) (Out.ex Int fun y => Out.need (p.at (shiftA (shiftA z.x (0 : Nat)) (0 : Nat)) [PD.int .i64 y]) (Out.need ((0 : Nat) = (0 : Nat) ∧ z.ys.length = z.ys.length ∧ z.ys.length + z.3 = z.ys.length + z.3 ∧ (z.ys.length + (1 : Nat)) * (8 : Nat) ≤ (140737488355328 : Nat)) (Out.all Nat fun y_1 => Out.need (z.x.isSome = true) (Out.need (z.x.isSome = true) (Out.ex (Option (Nat × Nat)) fun y_2 => Out.need (p.at (shiftA z.x (4 : Nat)) [PD.ptr y_2]) (Out.stop EX.nx {env := [((5 : Nat), .sl false (5 : Nat) (0 : Nat) (1 : Nat) (z.ys.length + (1 : Nat)) (z.ys.length + (1 : Nat) + y_1)), ((6 : Nat), AV.rp y_2)], heap := [((5 : Nat), .arr (3 : Nat) Kd.int (z.ys ++ [y]) y_1), ((4 : Nat), .cells (3 : Nat) [.int .i64 y]), ((0 : Nat), Blk.pool p)], nx := (6 : Nat), nt := (40 : Nat), tl := [(3 : Nat), (0 : Nat), (1 : Nat), (2 : Nat), (3 : Nat), (4 : Nat), (5 : Nat), (6 : Nat), (7 : Nat), (8 : Nat), (9 : Nat), (10 : Nat), (11 : Nat), (12 : Nat), (13 : Nat), (14 : Nat), (15 : Nat), (16 : Nat)] : St V }))))))))) (Out.stop (EX.ex (0 : Nat)) {env := [((5 : Nat), .sl false (3 : Nat) (0 : Nat) (1 : Nat) z.ys.length (z.ys.length + z.3)), ((6 : Nat), AV.rp z.x)], heap := [((3 : Nat), .arr (3 : Nat) Kd.int z.ys z.3), ((0 : Nat), Blk.pool p)], nx := (4 : Nat), nt := (40 : Nat), tl := [(0 : Nat), (1 : Nat), (2 : Nat), (3 : Nat), (4 : Nat), (5 : Nat), (6 : Nat), (7 : Nat), (8 : Nat), (9 : Nat), (10 : Nat), (11 : Nat), (12 : Nat), (13 : Nat), (14 : Nat), (15 : Nat), (16 : Nat)] : St V }) := by kernel_rfl

theorem tchain (p : Pool) (b : Nat) (k : Int) : runF cfgL1 60 26 Try.f26 [.rp (some (b, 0)), .int .i64 k] [(0, .pool p)] 3 = Out.ite (decide (k < (0 : Int))) (Out.fin .nilS [((0 : Nat), Blk.pool p)] (3 : Nat)) (Out.need ((some (b, (0 : Nat))).isSome = true) (Out.need ((some (b, (0 : Nat))).isSome = true) (Out.ex (Option (Nat × Nat)) fun y => Out.ex Nat fun y_1 => Out.ex Nat fun y_2 => Out.need (p.at (shiftA (some (b, (0 : Nat))) (1 : Nat)) [PD.sl y y_1 y_2]) (Out.ite (decide (k ≥ (↑y_1 : Int))) (Out.fin .nilS [((0 : Nat), Blk.pool p)] (3 : Nat)) (Out.need ((some (b, (0 : Nat))).isSome = true) (Out.need ((some (b, (0 : Nat))).isSome = true) (Out.ex (Option (Nat × Nat)) fun y => Out.ex Nat fun y_3 => Out.ex Nat fun y_4 => Out.need (p.at (shiftA (some (b, (0 : Nat))) (1 : Nat)) [PD.sl y y_3 y_4]) (Out.need ((0 : Int) ≤ k ∧ k < (↑y_3 : Int) ∧ y.isSome = true) (Out.ex (Option (Nat × Nat)) fun y_5 => Out.need (p.at (shiftA y (k.toNat * (1 : Nat))) [PD.ptr y_5]) (Out.need (LoopFor Try.prog (26 : Nat) (0 : Nat) (loopOf Try.f26 (0 : Nat)) CL) (Out.ex (PCh → Prop) fun y => Out.need ((3 : Nat) ≤ (3 : Nat) ∧ SImp (3 : Nat) {env := [((5 : Nat), .nilS), ((6 : Nat), AV.rp y_5)], heap := [((0 : Nat), Blk.pool p)], nx := (3 : Nat), nt := (40 : Nat), tl := [] : St V } (fun p => CI p.p {x := p.x0, ys := [], sp := (0 : Nat) : XCh }) y) (Out.all PCh fun y_6 => Out.asm (y y_6) (Out.all Nat fun y => Out.asm ((fun p x => True) y_6 y) (Out.fin (.sl false (3 : Nat) (0 : Nat) (1 : Nat) {x := none, ys := keysOf y_6.ch, sp := y : XCh }.ys.length ({x := none, ys := keysOf y_6.ch, sp := y : XCh }.ys.length + y)) [((3 : Nat), .arr (3 : Nat) Kd.int {x := none, ys := keysOf y_6.ch, sp := y : XCh }.ys y), ((0 : Nat), Blk.pool y_6.p)] (4 : Nat))))))))))))))) := by kernel_rfl

end Sx
end Go.Proofs.Ytkadlfadmjhahaa

/-
  Tables: lengths, and the keys of a chain: the contracts.
-/
namespace Go.Proofs.Ytkadlfadmjhahaa
namespace Sx
open Go
set_option linter.unusedSimpArgs false
set_option linter.unusedVariables false

theorem cfgL0_ok : cfgL0.ok := ⟨tab_met, kinds_met, mixed_met, fun g fn h => (by cases h), fun g H h => (by cases h)⟩
theorem cfgL1_ok : cfgL1.ok := ⟨cfgL0_ok.τ, cfgL0_ok.κ, cfgL0_ok.mixed, cfgL0_ok.fns, cfgL0_ok.hooks⟩

def TM.left (t : TM) : Nat := t.O.length - t.moved
def TL.left (L : TL) : Nat := L.O.length - L.moved
def runTLen : RunPool V := fun p ar K => match ar with
  | [.val (.rp o)] => .ex Nat fun b => .need (o = some (b, 0)) (.ex TL fun L => .need (TabAt p b L) (K (.int .i64 (L.len : Int)) p []))
  | _ => .bad 500
theorem hTLen : HookOk Try.prog 14 (hookPool [.val] runTLen) := by
  refine pool_hook (C := cfgL0) cfgL0_ok (n := 60) (fn := Try.f14) ⟨by kernel_rfl, by kernel_rfl⟩ (by kernel_rfl) ?_
  intro M p ar K0 H
  unfold runTLen at H
  split at H
  · rename_i o
    obtain ⟨b, rfl, L, hT, H⟩ := H
    refine ⟨show 1 ≤ _ by decide +kernel, ?_⟩
    show (runF cfgL0 60 14 Try.f14 [.rp (some (b, 0))] [(0, .pool p)] 2).holds _
    rw [tlen]
    exact ⟨rfl, rfl, _, at_whole hT.1 4 _ rfl (by simp), _, p, _, H, endPool (AV.sub_same _) rfl rfl⟩
  · exact H.elim
def runTBuck : RunPool V := fun p ar K => match ar with
  | [.val (.rp o)] => .ex Nat fun b => .need (o = some (b, 0)) (.ex TL fun L => .need (TabAt p b L) (K (.int .i64 (L.B.length : Int)) p []))
  | _ => .bad 500
theorem hTBuck : HookOk Try.prog 17 (hookPool [.val] runTBuck) := by
  refine pool_hook (C := cfgL0) cfgL0_ok (n := 60) (fn := Try.f17) ⟨by kernel_rfl, by kernel_rfl⟩ (by kernel_rfl) ?_
  intro M p ar K0 H
  unfold runTBuck at H
  split at H
  · rename_i o
    obtain ⟨b, rfl, L, hT, H⟩ := H
    refine ⟨show 1 ≤ _ by decide +kernel, ?_⟩
    show (runF cfgL0 60 17 Try.f17 [.rp (some (b, 0))] [(0, .pool p)] 2).holds _
    rw [tbuck]
    exact ⟨rfl, rfl, _, _, _, hT.f1, _, p, _, H, endPool (AV.sub_same _) rfl rfl⟩
  · exact H.elim
def runTLeft : RunPool V := fun p ar K => match ar with
  | [.val (.rp o)] => .ex Nat fun b => .need (o = some (b, 0)) (.ex TL fun L => .need (TabAt p b L ∧ L.fits) (K (.int .i64 (L.left : Int)) p []))
  | _ => .bad 500
theorem hTLeft : HookOk Try.prog 16 (hookPool [.val] runTLeft) := by
  refine pool_hook (C := cfgL0) cfgL0_ok (n := 60) (fn := Try.f16) ⟨by kernel_rfl, by kernel_rfl⟩ (by kernel_rfl) ?_
  intro M p ar K0 H
  unfold runTLeft at H
  split at H
  · rename_i o
    obtain ⟨b, rfl, L, ⟨hT, hF⟩, H⟩ := H
    refine ⟨show 1 ≤ _ by decide +kernel, ?_⟩
    show (runF cfgL0 60 16 Try.f16 [.rp (some (b, 0))] [(0, .pool p)] 2).holds _
    rw [tleft]
    have hm := hT.2.2.2.2.1
    obtain ⟨g1, g2, g3, g4⟩ := hF
    refine ⟨rfl, rfl, _, _, _, hT.f2, rfl, rfl, _, hT.f3, _, p, _, H, endPool (AV.sub_int ?_) rfl rfl⟩
    have : ((L.left : Nat) : Int) = (L.O.length : Int) - (L.moved : Int) := by unfold TL.left; omega
    rw [this]; exact wrap_low (by omega) (by omega)
  · exact H.elim

theorem chbody (p : Pool) (r : Chn) (z : XCh) (hs : Seg p z.x r) (hn : z.ys.length + r.length ≤ 1099511627776) (Q : EX → St V → Prop) (F : AV → Heap V → Nat → Prop)
    (hnx : ∀ (ST : St V) a e c' o' sp', r = (a, e) :: c' → Seg p o' c' → Wk 3 [(3, 5)] ST (CI p ⟨o', z.ys ++ [e.key], sp'⟩) → Q .nx ST)
    (hex : ∀ ST : St V, r = [] → Wk 3 [(3, 3)] ST (CI p z) → Q (.ex 0) ST) :
    (runCode cfgL0 60 26 (loopOf Try.f26 0) (CI p z) (stopT (trimSt [5, 6] [0, 3, 4, 5]))).holds ⟨Q, F⟩ := by
  rw [tbch]
  obtain ⟨x, ys, sp⟩ := z
  simp only [Out.holds, decide_eq_true_eq, decide_eq_false_iff_not, beq_iff_eq, beq_eq_false_iff_ne, bne_iff_ne, ne_eq, bne_eq_false_iff_eq, Bool.true_and, Bool.and_true, Bool.not_eq_true', Bool.not_eq_false', Bool.and_eq_true, Bool.or_eq_true, Bool.and_eq_false_imp, true_implies, true_and, Bool.not_true, Bool.not_false, Bool.false_eq_true, Bool.true_eq_false, false_implies, and_true, beq_self_eq_true, Decidable.not_not, not_true_eq_false, not_false_eq_true]
  cases r with
  | nil =>
    have hx : x = none := hs
    subst hx
    exact ⟨fun h => by simp at h, fun _ => hex _ rfl (by (refine ⟨?_, ?_, rfl, tl_ok rfl, ?_, ⟨Nat.le_of_ble_eq_true rfl, rfl⟩⟩ <;> (repeat' first | with_reducible exact trivial | exact AV.sub_same _ | exact .same _ | exact .inr rfl | exact .inl (in_ok rfl) | exact AV.sub_lit' | exact AV.sub_nilS | exact .none _ _ | exact trivial | refine ⟨?_, ?_⟩)))⟩
  | cons y c' =>
    obtain ⟨a, e⟩ := y
    obtain ⟨hx, o', h1, h2⟩ := hs
    have hx : x = some (a, 0) := hx
    subst hx
    have hb : (ys ++ [e.key]).length * 8 ≤ 140737488355328 := by simp only [List.length_cons, List.length_append, List.length_nil] at hn ⊢; omega
    have e1 : ys.length + 1 = (ys ++ [e.key]).length := by simp
    refine ⟨fun _ => ⟨rfl, rfl, rfl, e.key, at_whole h1 0 _ rfl (by simp [linkPD]), by rw [e1]; exact hb, fun sp' => ⟨rfl, rfl, o', at_whole h1 4 _ rfl (by simp [linkPD]), ?_⟩⟩, fun h => by simp at h⟩
    rw [e1]
    exact hnx _ a e c' o' sp' rfl h2 (by (refine ⟨?_, ?_, rfl, tl_ok rfl, ?_, ⟨Nat.le_of_ble_eq_true rfl, rfl⟩⟩ <;> (repeat' first | with_reducible exact trivial | exact AV.sub_same _ | exact .same _ | exact .inr rfl | exact .inl (in_ok rfl) | exact AV.sub_lit' | exact AV.sub_nilS | exact .none _ _ | exact trivial | refine ⟨?_, ?_⟩)))
structure JCh (p : PCh) (x : Chn × XCh) : Prop where
  s : Seg p.p x.2.x x.1
  e : x.2.ys ++ keysOf x.1 = keysOf p.ch
  n : x.2.ys.length + x.1.length ≤ 1099511627776
theorem cl_ok : LoopOk Try.prog 0 (loopOf Try.f26 0) CL := by
  refine trimLoop_ok (trim_ok _ _) (loopTH_ok (C := cfgL0) cfgL0_ok (f := 26) (n := 60) (trim_ok [5, 6] [0, 3, 4, 5]) 3 (fun (p : PCh) (x : Chn × XCh) => CI p.p x.2) JCh (fun p => (p.ch, ⟨p.x0, [], 0⟩)) (fun p x => x.1.length) (fun _ (_ : Nat) => True) (fun p sp => CI p.p ⟨none, keysOf p.ch, sp⟩) (fun p => ⟨p.hS, rfl, by simpa using p.hn⟩) ?_)
  intro p x hx
  obtain ⟨r, z⟩ := x
  obtain ⟨h1, h2, h3⟩ := hx
  refine chbody p.p r z h1 h3 _ _ (fun ST a e c' o' sp' hr hs hw => SImp.of_wk (c', ⟨o', z.ys ++ [e.key], sp'⟩) hw ⟨⟨hs, ?_, ?_⟩, ?_⟩) (fun ST hr hw => ⟨rfl, ?_⟩)
  · subst hr; rw [← h2]; simp [keysOf, ents]
  · subst hr; simp only [List.length_cons, List.length_append, List.length_nil] at h3 ⊢; omega
  · subst hr; simp
  · subst hr
    obtain ⟨x, ys, sp⟩ := z
    have hx : x = none := h1
    subst hx
    have hy : ys = keysOf p.ch := by rw [← h2]; simp [keysOf, ents]
    subst hy
    exact SImp.of_wk sp hw trivial

def TM.chainKeys (t : TM) (k : Int) : List Int := if 0 ≤ k ∧ k < (t.B.length : Int) then (t.B.getD k.toNat []).map (·.key) else []
def runTChain : RunPool V := fun p ar K => match ar with
  | [.val (.rp o), .int .i64 k] => .ex Nat fun b => .need (o = some (b, 0)) (.ex TL fun L => .need (TabAt p b L ∧ L.fits ∧ ∀ i, (L.B.getD i []).length ≤ 1099511627776)
      (.all Nat fun sp => K (.sl false 1 0 1 (L.tm.chainKeys k).length ((L.tm.chainKeys k).length + sp)) p [.arr 3 Kd.int (L.tm.chainKeys k) sp]))
  | _ => .bad 500
theorem chainKeys_in {L : TL} {k : Int} (h0 : 0 ≤ k) (h1 : k < (L.B.length : Int)) : L.tm.chainKeys k = keysOf (L.B.getD k.toNat []) := by
  unfold TM.chainKeys
  have e : L.tm.B.length = L.B.length := by simp [TL.tm]
  rw [if_pos ⟨h0, by rw [e]; exact h1⟩]
  have : L.tm.B.getD k.toNat [] = ents (L.B.getD k.toNat []) := by
    show (L.B.map ents).getD k.toNat [] = _
    simp only [List.getD_eq_getElem?_getD, List.getElem?_map]
    cases L.B[k.toNat]? <;> rfl
  rw [this]; rfl
theorem chainKeys_out {L : TL} {k : Int} (h : k < 0 ∨ k ≥ (L.B.length : Int)) : L.tm.chainKeys k = [] := by
  unfold TM.chainKeys
  have e : L.tm.B.length = L.B.length := by simp [TL.tm]
  rw [if_neg (by rw [e]; omega)]
theorem hTChain : HookOk Try.prog 26 (hookPool [.val, .int .i64] runTChain) := by
  refine pool_hook (C := cfgL1) cfgL1_ok (n := 60) (fn := Try.f26) ⟨by kernel_rfl, by kernel_rfl⟩ (by kernel_rfl) ?_
  intro M p ar K0 H
  unfold runTChain at H
  split at H
  · rename_i o k
    obtain ⟨b, rfl, L, ⟨hT, hF, hC⟩, H⟩ := H
    refine ⟨show 2 ≤ _ by decide +kernel, ?_⟩
    show (runF cfgL1 60 26 Try.f26 [.rp (some (b, 0)), .int .i64 k] [(0, .pool p)] 3).holds _
    rw [tchain]
    simp only [Out.holds, decide_eq_true_eq, decide_eq_false_iff_not, beq_iff_eq, beq_eq_false_iff_ne, bne_iff_ne, ne_eq, bne_eq_false_iff_eq, Bool.true_and, Bool.and_true, Bool.not_eq_true', Bool.not_eq_false', Bool.and_eq_true, Bool.or_eq_true, Bool.and_eq_false_imp, true_implies, true_and, Bool.not_true, Bool.not_false, Bool.false_eq_true, Bool.true_eq_false, false_implies, and_true, beq_self_eq_true, Decidable.not_not, not_true_eq_false, not_false_eq_true]
    have out : L.tm.chainKeys k = [] → ∃ v p' E, Out.holds M (K0 v p' E) ∧ EndPool 3 AV.nilS [((0 : Nat), Blk.pool p)] v p' E := fun he => by
      have h0 := H 0
      rw [he] at h0
      refine ⟨_, p, _, h0, ⟨_, HImp.refl _ _, rfl, ⟨⟨fun _ => 3, ⟨.none _ _, trivial⟩, AV.sub_nilS⟩, rfl, rfl⟩⟩⟩
    refine ⟨fun h => out (chainKeys_out (.inl h)), fun h => ⟨rfl, rfl, _, _, _, hT.f1, fun h2 => out (chainKeys_out (.inr (by omega))), fun h2 => ?_⟩⟩
    have hlt : k.toNat < L.B.length := by omega
    have hr := Arr.rows hT.2.2.1 (Nat.zero_le _) k.toNat (by simpa using hlt)
    obtain ⟨r1, o', r2, r3⟩ := hr
    rw [List.drop_zero] at r3
    refine ⟨rfl, rfl, _, _, _, hT.f1, ⟨by omega, by omega, rfl⟩, o', r2, cl_ok, fun q => q = ⟨p, L.B.getD k.toNat [], o', r3, hC _⟩, ⟨Nat.le_refl _, SImp.of_wk (ren := [(3, 99)]) ⟨p, L.B.getD k.toNat [], o', r3, hC _⟩ ?_ rfl⟩, ?_⟩
    · (refine ⟨?_, ?_, rfl, tl_ok rfl, ?_, ⟨Nat.le_of_ble_eq_true rfl, rfl⟩⟩ <;> (repeat' first | with_reducible exact trivial | exact AV.sub_same _ | exact .same _ | exact .inr rfl | exact .inl (in_ok rfl) | exact AV.sub_lit' | exact AV.sub_nilS | exact .none _ _ | exact trivial | refine ⟨?_, ?_⟩))
    · rintro _ rfl sp
      have h0 := H sp
      rw [chainKeys_in (by omega) (by omega)] at h0
      exact ⟨_, p, _, h0, ⟨_, HImp.refl _ _, rfl, ⟨⟨fun _ => 3, ⟨.same _, trivial⟩, AV.sub_same _⟩, rfl, rfl⟩⟩⟩
  · exact H.elim

end Sx
end Go.Proofs.Ytkadlfadmjhahaa

/-
  Plain tables: how many buckets, old ones, moved ones; several tables in one pool.
-/
namespace Go.Proofs.Ytkadlfadmjhahaa
namespace Sx
open Go
set_option linter.unusedSimpArgs false
set_option linter.unusedVariables false

abbrev Shp := Nat × Nat × Nat
def TM.sh (t : TM) : Shp := (t.B.length, t.O.length, t.moved)
def shMove (s : Shp) : Shp := if s.2.1 ≤ s.2.2 then s else if s.2.1 ≤ s.2.2 + 1 then (s.1, 0, 0) else (s.1, s.2.1, s.2.2 + 1)
def shGrow (len : Nat) (s : Shp) : Shp := if s.2.1 ≤ s.2.2 ∧ s.1 < len ∧ s.1 < 65536 then (2 * s.1, s.1, s.2.2) else s
theorem move_sh (t : TM) : t.move.sh = shMove t.sh := by
  obtain ⟨l1, l2, l3, l4, l5⟩ := insAll_len (t.O.getD t.moved []) { t with moved := t.moved + 1 }
  unfold TM.move shMove TM.sh
  dsimp only
  split
  · rfl
  · split
    · show (t.stepMoved.B.length, _, _) = _
      rw [show t.stepMoved.B.length = t.B.length from l2]; rfl
    · show (t.stepMoved.B.length, t.stepMoved.O.length, t.stepMoved.moved) = _
      rw [show t.stepMoved.B.length = t.B.length from l2, show t.stepMoved.O.length = t.O.length from l1, show t.stepMoved.moved = t.moved + 1 from l3]
theorem with_sh (t : TM) (k : Int) (c : List Ent) : (t.with_ k c).sh = t.sh := by
  rw [TM.with_row]
  obtain ⟨a, b, d, _, _⟩ := t.setRow_same (t.pl k) c
  unfold TM.sh; rw [a, b, d]
theorem grow_sh (t : TM) : t.grow.sh = shGrow t.len t.sh := by
  unfold TM.grow shGrow TM.sh
  dsimp only
  split
  · simp
  · rfl
theorem put_sh {t : TM} (h : t.Good) (e : Ent) : (t.put e).sh = if (t.get e.key).isSome then shMove t.sh else shGrow (t.len + 1) (shMove t.sh) := by
  obtain ⟨m1, m2, m3⟩ := move_good h
  have ml := (move_lens t).2.1
  unfold TM.put
  rw [m3]
  cases t.get e.key with
  | some x => dsimp only; rw [with_sh, move_sh]; rfl
  | none =>
    dsimp only
    rw [grow_sh]
    show shGrow (t.move.len + 1) (insE t.move e).sh = _
    rw [ml]
    show shGrow _ (t.move.with_ _ _).sh = _
    rw [with_sh, move_sh]; rfl
theorem rem_sh {t : TM} (h : t.Good) (k : Int) : (t.remove k).sh = shMove t.sh := by
  obtain ⟨m1, m2, m3⟩ := move_good h
  unfold TM.remove
  rw [m3]
  cases t.get k with
  | some x => dsimp only; exact (with_sh _ _ _).trans (move_sh t)
  | none => dsimp only; exact move_sh t
theorem TM.key {t : TM} (h : t.Good) {k : Int} {e : Ent} (hg : t.get k = some e) : e.key = k := (TM.get_some h.core hg).1

/-! ## several tables in one pool -/
theorem good_fits {L : TL} (h : L.tm.Good) (hl : L.len ≤ 1073741824) : L.fits := by
  have e1 : L.tm.B.length = L.B.length := by simp [TL.tm]
  have e2 : L.tm.O.length = L.O.length := by simp [TL.tm]
  have := h.core.b1; have := h.core.b2; have := h.core.b3
  exact ⟨by omega, by omega, by omega, hl⟩
theorem good_tight {L : TL} (h : L.tm.Good) : L.O.length ≤ L.moved → L.O = [] := by
  intro hh
  have e2 : L.tm.O.length = L.O.length := by simp [TL.tm]
  have := h.tight (by rw [e2]; exact hh)
  exact List.eq_nil_of_length_eq_zero (by rw [← e2, this]; rfl)
theorem TabAt.other {p q : Pool} {b : Nat} {L : TL} (h : TabAt p b L) (k : ∀ n, L.lab n ≠ .no → q n = p n) : TabAt q b L := by
  obtain ⟨h1, h2, h3, h4, h5, h6⟩ := h
  refine ⟨by rw [k b (by rw [h2]; simp)]; exact h1, h2, h3.frame fun n hn => ⟨k n ?_, rfl⟩, fun hO => (h4 hO).frame fun n hn => ⟨k n ?_, rfl⟩, h5, fun n hn => by rw [k n hn]; exact h6 n hn⟩
  · rcases hn with e | ⟨i, _, e⟩ <;> rw [e] <;> simp
  · rcases hn with e | ⟨i, _, e⟩ <;> rw [e] <;> simp

abbrev Tbs := List (Nat × TM)
def t0 : Nat × TM := (0, TM.new 0)
structure TT (p : Pool) (l : Tbs) : Prop where
  ex : ∃ L : Nat → TL, (∀ i, i < l.length → TabAt p (l.getD i t0).1 (L i) ∧ (L i).tm = (l.getD i t0).2 ∧ (l.getD i t0).2.Good ∧ (l.getD i t0).2.len ≤ 1048576) ∧
    ∀ i j, i < l.length → j < l.length → i ≠ j → ∀ n, (L i).lab n ≠ .no → (L j).lab n = .no
theorem TT.good {p : Pool} {l : Tbs} (h : TT p l) {i : Nat} (hi : i < l.length) : (l.getD i t0).2.Good := by
  obtain ⟨L, h1, _⟩ := h.ex; exact (h1 i hi).2.2.1
theorem getD_set {α : Type} {l : List α} {i j : Nat} {x d : α} (hj : j < l.length) : (l.set i x).getD j d = if j = i then x else l.getD j d := by
  simp only [List.getD_eq_getElem?_getD, List.getElem?_set]
  by_cases e : i = j
  · subst e; simp [hj]
  · simp [e, Ne.symm e]
theorem TT.step {p : Pool} {l : Tbs} (h : TT p l) {i : Nat} (hi : i < l.length) : ∃ L : TL, TabAt p (l.getD i t0).1 L ∧ L.tm = (l.getD i t0).2 ∧ L.fits ∧ (L.O.length ≤ L.moved → L.O = []) ∧
    ∀ (p' : Pool) (L' : TL) (t' : TM), TabAt p' (l.getD i t0).1 L' → L'.tm = t' → t'.Good → t'.len ≤ 1048576 → Frame p p' L L' → TT p' (l.set i ((l.getD i t0).1, t')) := by
  obtain ⟨L, h1, h2⟩ := h.ex
  obtain ⟨a1, a2, a3, a4⟩ := h1 i hi
  have hlen : (L i).len ≤ 1048576 := by have := congrArg TM.len a2; rw [← this] at a4; exact a4
  refine ⟨L i, a1, a2, good_fits (by rw [a2]; exact a3) (by omega), good_tight (by rw [a2]; exact a3), fun p' L' t' b1 b2 b3 b4 fr => ⟨fun j => if j = i then L' else L j, fun j hj => ?_, fun j k hj hk hjk n hn => ?_⟩⟩
  · rw [List.length_set] at hj
    rw [getD_set hj]
    dsimp only
    by_cases e : j = i
    · simp only [if_pos e]; exact ⟨b1, b2, b3, b4⟩
    · simp only [if_neg e]
      obtain ⟨c1, c2, c3, c4⟩ := h1 j hj
      exact ⟨c1.other fun n hn => (fr n (h2 j i hj hi e n hn) (c1.2.2.2.2.2 n hn)).1, c2, c3, c4⟩
  · rw [List.length_set] at hj hk
    dsimp only at hn ⊢
    by_cases ej : j = i
    · rw [if_pos ej] at hn
      have ek : k ≠ i := fun e => hjk (ej.trans e.symm)
      rw [if_neg ek]
      by_cases hh : (L k).lab n = .no
      · exact hh
      · have hn0 : (L i).lab n = .no := h2 k i hk hi ek n hh
        exact absurd (fr n hn0 ((h1 k hk).1.2.2.2.2.2 n hh)).2 hn
    · rw [if_neg ej] at hn
      by_cases ek : k = i
      · rw [if_pos ek]; exact (fr n (h2 j i hj hi ej n hn) ((h1 j hj).1.2.2.2.2.2 n hn)).2
      · rw [if_neg ek]; exact h2 j k hj hk hjk n hn
theorem TT.nil : TT Pool.nil [] := ⟨fun _ => TL.new 0 0 0, fun i hi => by simp at hi, fun i j hi => by simp at hi⟩
theorem getD_app {α : Type} {l : List α} {x d : α} {i : Nat} : (l ++ [x]).getD i d = if i = l.length then x else l.getD i d := by
  simp only [List.getD_eq_getElem?_getD]
  by_cases h : i < l.length
  · rw [List.getElem?_append_left h, if_neg (by omega)]
  · by_cases e : i = l.length
    · subst e; simp
    · rw [if_neg e, List.getElem?_eq_none (by simp; omega), List.getElem?_eq_none (by omega)]
theorem TT.new {p : Pool} {l : Tbs} (h : TT p l) (s : Int) {p' : Pool} {b : Nat} {L' : TL} (h1 : TabAt p' b L') (h2 : L'.tm = TM.new s) (h3 : ∀ n, p n ≠ none → p' n = p n ∧ L'.lab n = .no) : TT p' (l ++ [(b, TM.new s)]) := by
  obtain ⟨L, a1, a2⟩ := h.ex
  refine ⟨fun i => if i = l.length then L' else L i, fun i hi => ?_, fun i j hi hj hij n hn => ?_⟩
  · have hi : i < l.length + 1 := by simpa using hi
    rw [getD_app]
    dsimp only
    by_cases e : i = l.length
    · simp only [if_pos e]; exact ⟨h1, h2, (new_good s).1, Nat.zero_le _⟩
    · simp only [if_neg e]
      obtain ⟨c1, c2, c3, c4⟩ := a1 i (by omega)
      exact ⟨c1.other fun n hn => (h3 n (c1.2.2.2.2.2 n hn)).1, c2, c3, c4⟩
  · have hi : i < l.length + 1 := by simpa using hi
    have hj : j < l.length + 1 := by simpa using hj
    dsimp only at hn ⊢
    by_cases ei : i = l.length
    · rw [if_pos ei] at hn
      rw [if_neg (by omega)]
      by_cases hh : (L j).lab n = .no
      · exact hh
      · exact absurd (h3 n ((a1 j (by omega)).1.2.2.2.2.2 n hh)).2 hn
    · rw [if_neg ei] at hn
      by_cases ej : j = l.length
      · rw [if_pos ej]; exact (h3 n ((a1 i (by omega)).1.2.2.2.2.2 n hn)).2
      · rw [if_neg ej]; exact a2 i j (by omega) (by omega) hij n hn

end Sx
end Go.Proofs.Ytkadlfadmjhahaa

/-
  Tables: the contracts in the words of plain tables.
-/
namespace Go.Proofs.Ytkadlfadmjhahaa
namespace Sx
open Go
set_option linter.unusedSimpArgs false
set_option linter.unusedVariables false

abbrev Tbs.at (z : Tbs × Nat) : Nat × TM := z.1.getD z.2 t0
abbrev Tbs.put (z : Tbs × Nat) (t : TM) : Tbs := z.1.set z.2 ((Tbs.at z).1, t)
structure TIn (p : Pool) (z : Tbs × Nat) (o : Option (Nat × Nat)) : Prop where
  tt : TT p z.1
  lt : z.2 < z.1.length
  at_ : o = some ((Tbs.at z).1, 0)
def runLNew : RunPool V := fun p ar K => match ar with
  | [.int .i64 s] => .ex Tbs fun l => .need (TT p l) (.all (Pool × Nat) fun y => .asm (TT y.1 (l ++ [(y.2, TM.new s)])) (K (.rp (some (y.2, 0))) y.1 []))
  | _ => .bad 500
theorem hLNew : HookOk Try.prog 10 (hookPool [.int .i64] runLNew) := by
  refine hNew.pool fun M p ar K H => ?_
  unfold runLNew at H
  unfold runNew
  split at H
  · obtain ⟨l, hl, H⟩ := H
    rintro ⟨p', b, L⟩ ⟨h1, h2, h3, h4⟩
    exact H (p', b) (hl.new _ h1 h3 h4)
  · exact H.elim
def runLPut : RunPool V := fun p ar K => match ar with
  | [.val (.rp o), .el .ent e] => .ex (Tbs × Nat) fun z => .need (TIn p z o ∧ (Tbs.at z).2.len < 1000000) (.all Pool fun p' => .asm (TT p' (Tbs.put z ((Tbs.at z).2.put e))) (K (foundAV ((Tbs.at z).2.get e.key)) p' []))
  | _ => .bad 500
theorem hLPut : HookOk Try.prog 11 (hookPool [.val, .el Kd.ent] runLPut) := by
  refine hPut.pool fun M p ar K H => ?_
  unfold runLPut at H
  unfold runPut
  split at H
  · rename_i o e
    obtain ⟨z, ⟨⟨hT, hi, ho⟩, hlen⟩, H⟩ := H
    obtain ⟨L, a1, a2, a3, a4, a5⟩ := hT.step hi
    have hg := hT.good hi
    have hl : L.len = (Tbs.at z).2.len := congrArg TM.len a2
    obtain ⟨q1, q2, q3⟩ := put_good hg e
    refine ⟨_, ho, L, ⟨a1, a3, by rw [a2]; exact (move_good hg).1, a4, by omega⟩, ?_⟩
    rintro ⟨p', L'⟩ ⟨h1, h2, h3, h4⟩
    rw [a2, (move_good hg).2.2]
    refine H p' (a5 p' L' _ h1 (by rw [h3, a2]) q1 ?_ h4)
    rw [q3]; have : (z.1.getD z.2 t0).2.len < 1000000 := hlen; split <;> omega
  · exact H.elim
def runLRem : RunPool V := fun p ar K => match ar with
  | [.val (.rp o), .int .i64 k] => .ex (Tbs × Nat) fun z => .need (TIn p z o) (.all Pool fun p' => .asm (TT p' (Tbs.put z ((Tbs.at z).2.remove k))) (K (foundAV ((Tbs.at z).2.get k)) p' []))
  | _ => .bad 500
theorem hLRem : HookOk Try.prog 12 (hookPool [.val, .int .i64] runLRem) := by
  refine hRem.pool fun M p ar K H => ?_
  unfold runLRem at H
  unfold runRem
  split at H
  · rename_i o k
    obtain ⟨z, ⟨hT, hi, ho⟩, H⟩ := H
    obtain ⟨L, a1, a2, a3, a4, a5⟩ := hT.step hi
    have hg := hT.good hi
    have hl : L.len = (Tbs.at z).2.len := congrArg TM.len a2
    obtain ⟨q1, q2, q3, q4⟩ := remove_good hg k
    have hmg := (move_good hg).2.2 k
    refine ⟨_, ho, L, ⟨a1, a3, by rw [a2]; exact (move_good hg).1, fun hn => ?_⟩, ?_⟩
    · rw [a2, hmg] at hn; have := q4 hn; rw [hl]; exact this
    · rintro ⟨p', L'⟩ ⟨h1, h2, h3, h4⟩
      rw [a2, hmg]
      refine H p' (a5 p' L' _ h1 (by rw [h3, a2]) q1 ?_ h4)
      obtain ⟨LL, b1, _⟩ := hT.ex
      have := (b1 z.2 hi).2.2.2
      rw [q3]; omega
  · exact H.elim
def runLGet : RunPool V := fun p ar K => match ar with
  | [.val (.rp o), .int .i64 k] => .ex (Tbs × Nat) fun z => .need (TIn p z o) (K (foundAV ((Tbs.at z).2.get k)) p [])
  | _ => .bad 500
theorem hLGet : HookOk Try.prog 13 (hookPool [.val, .int .i64] runLGet) := by
  refine hGet.pool fun M p ar K H => ?_
  unfold runLGet at H
  unfold runGet
  split at H
  · rename_i o k
    obtain ⟨z, ⟨hT, hi, ho⟩, H⟩ := H
    obtain ⟨L, a1, a2, a3, a4, a5⟩ := hT.step hi
    refine ⟨_, ho, L, ⟨a1, a3⟩, ?_⟩
    rw [a2]; exact H
  · exact H.elim
def runLNum (f : TM → Int) : RunPool V := fun p ar K => match ar with
  | [.val (.rp o)] => .ex (Tbs × Nat) fun z => .need (TIn p z o) (K (.int .i64 (f (Tbs.at z).2)) p [])
  | _ => .bad 500
theorem hLLen : HookOk Try.prog 14 (hookPool [.val] (runLNum fun t => (t.len : Int))) := by
  refine hTLen.pool fun M p ar K H => ?_
  unfold runLNum at H
  unfold runTLen
  split at H
  · rename_i o
    obtain ⟨z, ⟨hT, hi, ho⟩, H⟩ := H
    obtain ⟨L, a1, a2, a3, a4, a5⟩ := hT.step hi
    refine ⟨_, ho, L, a1, ?_⟩
    rw [show L.len = (Tbs.at z).2.len from congrArg TM.len a2]; exact H
  · exact H.elim
theorem hLBuck : HookOk Try.prog 17 (hookPool [.val] (runLNum fun t => (t.B.length : Int))) := by
  refine hTBuck.pool fun M p ar K H => ?_
  unfold runLNum at H
  unfold runTBuck
  split at H
  · rename_i o
    obtain ⟨z, ⟨hT, hi, ho⟩, H⟩ := H
    obtain ⟨L, a1, a2, a3, a4, a5⟩ := hT.step hi
    refine ⟨_, ho, L, a1, ?_⟩
    have : L.B.length = (Tbs.at z).2.B.length := by rw [← a2]; simp [TL.tm]
    rw [this]; exact H
  · exact H.elim
theorem hLLeft : HookOk Try.prog 16 (hookPool [.val] (runLNum fun t => (t.left : Int))) := by
  refine hTLeft.pool fun M p ar K H => ?_
  unfold runLNum at H
  unfold runTLeft
  split at H
  · rename_i o
    obtain ⟨z, ⟨hT, hi, ho⟩, H⟩ := H
    obtain ⟨L, a1, a2, a3, a4, a5⟩ := hT.step hi
    refine ⟨_, ho, L, ⟨a1, a3⟩, ?_⟩
    have : L.left = (Tbs.at z).2.left := by rw [← a2]; simp [TL.tm, TL.left, TM.left]
    rw [this]; exact H
  · exact H.elim
theorem row_le : ∀ (l : List (List Ent)) (i : Nat), (l.getD i []).length ≤ (l.map List.length).sum
  | [], i => by simp
  | x :: l, 0 => by simp
  | x :: l, i + 1 => by have := row_le l i; simp only [List.getD_cons_succ, List.map_cons, List.sum_cons]; omega
def runLChain : RunPool V := fun p ar K => match ar with
  | [.val (.rp o), .int .i64 k] => .ex (Tbs × Nat) fun z => .need (TIn p z o)
      (.all Nat fun sp => K (.sl false 1 0 1 ((Tbs.at z).2.chainKeys k).length (((Tbs.at z).2.chainKeys k).length + sp)) p [.arr 3 Kd.int ((Tbs.at z).2.chainKeys k) sp])
  | _ => .bad 500
theorem TM.chain_le {t : TM} (h : t.Good) (i : Nat) : (t.B.getD i []).length ≤ t.len := by
  have := row_le t.B i
  have e := h.len
  unfold TM.total at e; omega
theorem hLChain : HookOk Try.prog 26 (hookPool [.val, .int .i64] runLChain) := by
  refine hTChain.pool fun M p ar K H => ?_
  unfold runLChain at H
  unfold runTChain
  split at H
  · rename_i o k
    obtain ⟨z, ⟨hT, hi, ho⟩, H⟩ := H
    obtain ⟨L, a1, a2, a3, a4, a5⟩ := hT.step hi
    have hg := hT.good hi
    obtain ⟨LL, b1, _⟩ := hT.ex
    have hl := (b1 z.2 hi).2.2.2
    refine ⟨_, ho, L, ⟨a1, a3, fun i => ?_⟩, ?_⟩
    · have := TM.chain_le hg i
      rw [← a2] at this
      have e : L.tm.B.getD i [] = ents (L.B.getD i []) := by
        show (L.B.map ents).getD i [] = _
        simp only [List.getD_eq_getElem?_getD, List.getElem?_map]
        cases L.B[i]? <;> rfl
      rw [e] at this
      have e2 : (ents (L.B.getD i [])).length = (L.B.getD i []).length := by simp [ents]
      rw [e2, a2] at this; omega
    · rw [a2]; exact H
  · exact H.elim
def runLAll : RunPool V := fun p ar K => match ar with
  | [.val (.rp o)] => .ex (Tbs × Nat) fun z => .need (TIn p z o)
      (.all (List Ent) fun ys => .all Nat fun sp => .asm (AllRow (Tbs.at z).2.get ys ∧ ys.length = (Tbs.at z).2.len ∧ ys.length ≤ 1048576) (K (.sl false 1 0 4 ys.length (ys.length + sp)) p [.arr 29 .ent ys sp]))
  | _ => .bad 500
theorem hLAll : HookOk Try.prog 15 (hookPool [.val] runLAll) := by
  refine hAll.pool fun M p ar K H => ?_
  unfold runLAll at H
  unfold runAll
  split at H
  · rename_i o
    obtain ⟨z, ⟨hT, hi, ho⟩, H⟩ := H
    obtain ⟨L, a1, a2, a3, a4, a5⟩ := hT.step hi
    have hg := hT.good hi
    obtain ⟨LL, b1, _⟩ := hT.ex
    have hl := (b1 z.2 hi).2.2.2
    have hlen : (rowsAll L).length = (Tbs.at z).2.len := by rw [rows_all, a2, TM.all_length, hg.len]
    refine ⟨_, ho, L, ⟨a1, a3, by rw [hlen]; show (z.1.getD z.2 t0).2.len ≤ _; omega⟩, fun ys sp hys => ?_⟩
    have hyl := hys.1.length_eq
    rw [← hyl]
    refine H ys sp ⟨AllRow.of hys.1 hys.2 (by rw [rows_all, a2]; exact TM.all_nodup hg.core) (fun e => by rw [rows_all, a2]; exact TM.mem_all hg.core e), by rw [hyl, hlen], by rw [hyl, hlen]; exact hl⟩
  · exact H.elim

end Sx
end Go.Proofs.Ytkadlfadmjhahaa

/-
  A small case: the runs of the machine.
-/
namespace Go.Proofs.Ytkadlfadmjhahaa
namespace Sx
open Go
set_option maxRecDepth 100000
set_option linter.unusedVariables false

noncomputable def hooksL : Nat → Option (HookS V) := fun g => match g with
  | 10 => some (hookPool [.int .i64] runLNew)
  | 11 => some (hookPool [.val, .el Kd.ent] runLPut)
  | 12 => some (hookPool [.val, .int .i64] runLRem)
  | 13 => some (hookPool [.val, .int .i64] runLGet)
  | 14 => some (hookPool [.val] (runLNum fun t => (t.len : Int)))
  | 17 => some (hookPool [.val] (runLNum fun t => (t.B.length : Int)))
  | 16 => some (hookPool [.val] (runLNum fun t => (t.left : Int)))
  | 26 => some (hookPool [.val, .int .i64] runLChain)
  | 15 => some (hookPool [.val] runLAll)
  | 18 => some (hookFree [.rows Kd.ent, .rows Kd.ent] runSame)
  | _ => none
noncomputable def cfgL : Cfg Try.prog V := ⟨tab, kinds, fun _ => none, hooksL, fun _ _ => none⟩

def SI (b : Nat) (x : Nat × Pool) : St V := ⟨[(1, .rp (some (b, 0))), (2, .int .i64 (x.1 : Int))], [(0, .pool x.2)], 1, 101, TQ⟩
structure JS (b : Nat) (x : Nat × Pool) : Prop where
  le : x.1 ≤ 9
  ex : ∃ t : TM, TT x.2 [(b, t)] ∧ t.len = x.1 ∧ (∀ k, t.get k = if 0 ≤ k ∧ k < (x.1 : Int) then some ⟨k, 10 * k, 0, 0⟩ else none) ∧ t.sh = if x.1 ≤ 8 then (8, 0, 0) else (16, 8, 0)
structure PSm0 where
  b : Nat
  p0 : Pool
  h : JS b (0, p0)
def LS9 : LoopS V := trimLoop (trimSt [1, 2] [0]) (loopH 1 (fun q : PSm0 => SI q.b (0, q.p0)) (fun q (p : Pool) => JS q.b (9, p)) (fun q p => SI q.b (9, p)))
noncomputable def cfgL9 : Cfg Try.prog V := ⟨tab, kinds, fun _ => none, hooksL, fun f id => match f, id with | 9, 0 => some LS9 | _, _ => none⟩
theorem tb9 (b : Nat) (x : Nat × Pool) : runCode cfgL 60 9 (loopOf Try.f9 0) (SI b x) (stopT (trimSt [1, 2] [0])) = Out.ite (decide ((↑x.1 : Int) < (9 : Int))) (Out.ex (Tbs × Nat) fun y => Out.need (TIn x.snd y (some (b, (0 : Nat))) ∧ (Tbs.at y).snd.len < (1000000 : Nat)) (Out.all Pool fun y_1 => Out.asm (TT y_1 (Tbs.put y ((Tbs.at y).snd.put {key := (↑x.1 : Int), value := IntKind.i64.wrap ((10 : Int) * (↑x.1 : Int)), weight := (0 : Int), node := (0 : Int) : Ent }))) (Out.stop EX.nx {env := [((1 : Nat), AV.rp (some (b, (0 : Nat)))), ((2 : Nat), .int .i64 (IntKind.i64.wrap ((↑x.1 : Int) + (1 : Int))))], heap := [((0 : Nat), Blk.pool y_1)], nx := (1 : Nat), nt := (101 : Nat), tl := [(0 : Nat), (0 : Nat), (1 : Nat), (2 : Nat), (3 : Nat), (4 : Nat), (5 : Nat), (6 : Nat), (7 : Nat), (8 : Nat), (9 : Nat), (10 : Nat), (11 : Nat), (12 : Nat), (13 : Nat), (14 : Nat), (15 : Nat), (16 : Nat)] : St V }))) (Out.stop (EX.ex (0 : Nat)) {env := [((1 : Nat), AV.rp (some (b, (0 : Nat)))), ((2 : Nat), .int .i64 (↑x.1 : Int))], heap := [((0 : Nat), Blk.pool x.snd)], nx := (1 : Nat), nt := (101 : Nat), tl := [(0 : Nat), (1 : Nat), (2 : Nat), (3 : Nat), (4 : Nat), (5 : Nat), (6 : Nat), (7 : Nat), (8 : Nat), (9 : Nat), (10 : Nat), (11 : Nat), (12 : Nat), (13 : Nat), (14 : Nat), (15 : Nat), (16 : Nat)] : St V }) := by kernel_rfl

theorem t9  : runL cfgL9 60 9 Try.f9 [] [(0, .pool Pool.nil)] 1 = Out.ex Tbs fun y => Out.need (TT Pool.nil y) (Out.all (Pool × Nat) fun y_1 => Out.asm (TT y_1.fst (y ++ [(y_1.2, TM.new (1 : Int))])) (Out.ite (some (y_1.2, (0 : Nat))).isNone (Out.fin .ff [] (0 : Nat)) (Out.need (LoopFor Try.prog (9 : Nat) (0 : Nat) (loopOf Try.f9 (0 : Nat)) LS9) (Out.ex (PSm0 → Prop) fun y => Out.need ((1 : Nat) ≤ (1 : Nat) ∧ SImp (1 : Nat) {env := [((1 : Nat), AV.rp (some (y_1.2, (0 : Nat)))), ((2 : Nat), .lit .i64 (0 : Int))], heap := [((0 : Nat), Blk.pool y_1.fst)], nx := (1 : Nat), nt := (101 : Nat), tl := [(0 : Nat)] : St V } (fun q => SI q.1 ((0 : Nat), q.p0)) y) (Out.all PSm0 fun y_2 => Out.asm (y y_2) (Out.all Pool fun y => Out.asm ((fun q p => JS q.1 ((9 : Nat), p)) y_2 y) (Out.ex (Tbs × Nat) fun y_3 => Out.need (TIn ((9 : Nat), y).snd y_3 (some (y_2.1, (0 : Nat)))) (Out.ex (Tbs × Nat) fun y_4 => Out.need (TIn ((9 : Nat), y).snd y_4 (some (y_2.1, (0 : Nat)))) (Out.ex (Tbs × Nat) fun y_5 => Out.need (TIn ((9 : Nat), y).snd y_5 (some (y_2.1, (0 : Nat))) ∧ (Tbs.at y_5).snd.len < (1000000 : Nat)) (Out.all Pool fun y => Out.asm (TT y (Tbs.put y_5 ((Tbs.at y_5).snd.put {key := (3 : Int), value := (1 : Int), weight := (0 : Int), node := (0 : Int) : Ent }))) (Out.ex (Tbs × Nat) fun y_6 => Out.need (TIn y y_6 (some (y_2.1, (0 : Nat)))) (Out.ex (Tbs × Nat) fun y_7 => Out.need (TIn y y_7 (some (y_2.1, (0 : Nat)))) (Out.all Pool fun y => Out.asm (TT y (Tbs.put y_7 ((Tbs.at y_7).snd.remove (4 : Int)))) (Out.ex (Tbs × Nat) fun y_8 => Out.need (TIn y y_8 (some (y_2.1, (0 : Nat)))) (Out.ite ((fun t => (↑t.B.length : Int)) (Tbs.at y_3).snd == (16 : Int)) (Out.ite ((fun t => (↑t.left : Int)) (Tbs.at y_4).snd == (8 : Int)) (Out.ite ((((Tbs.at y_5).snd.get (3 : Int)).getD e0).value == (30 : Int)) (Out.ite ((Tbs.at y_5).snd.get (3 : Int)).isSome (Out.ite ((((Tbs.at y_6).snd.get (3 : Int)).getD e0).value == (1 : Int)) (Out.ite ((Tbs.at y_6).snd.get (3 : Int)).isSome (Out.ite ((((Tbs.at y_7).snd.get (4 : Int)).getD e0).value == (40 : Int)) (Out.ite ((Tbs.at y_7).snd.get (4 : Int)).isSome (Out.ite (!((Tbs.at y_8).snd.get (4 : Int)).isSome) (Out.ex (Tbs × Nat) fun y_9 => Out.need (TIn y y_9 (some (y_2.1, (0 : Nat)))) (Out.ite ((fun t => (↑t.5 : Int)) (Tbs.at y_9).snd == (8 : Int)) (Out.ex (Tbs × Nat) fun y_10 => Out.need (TIn y y_10 (some (y_2.1, (0 : Nat)))) (Out.ite ((fun t => (↑t.left : Int)) (Tbs.at y_10).snd == (6 : Int)) (Out.ex (Tbs × Nat) fun y_11 => Out.need (TIn y y_11 (some (y_2.1, (0 : Nat)))) (Out.all (List Ent) fun y => Out.all Nat fun y_12 => Out.asm (AllRow (Tbs.at y_11).snd.get y ∧ y.length = (Tbs.at y_11).snd.len ∧ y.length ≤ (1048576 : Nat)) (Out.fin (.bool ((↑y.length : Int) == (8 : Int))) [] (0 : Nat)))) (Out.fin .ff [] (0 : Nat)))) (Out.fin .ff [] (0 : Nat)))) (Out.fin .ff [] (0 : Nat))) (Out.fin .ff [] (0 : Nat))) (Out.fin .ff [] (0 : Nat))) (Out.fin .ff [] (0 : Nat))) (Out.fin .ff [] (0 : Nat))) (Out.fin .ff [] (0 : Nat))) (Out.fin .ff [] (0 : Nat))) (Out.fin .ff [] (0 : Nat))) (Out.fin .ff [] (0 : Nat))))))))))))))))) := by kernel_rfl

end Sx
end Go.Proofs.Ytkadlfadmjhahaa

/-
  A small case comes out right.
-/
namespace Go.Proofs.Ytkadlfadmjhahaa
namespace Sx
open Go
set_option linter.unusedSimpArgs false
set_option linter.unusedVariables false

theorem hooksL_ok : ∀ g H, hooksL g = some H → HookOk Try.prog g H := by
  intro g H h
  unfold hooksL at h
  split at h
  · cases h; exact hLNew
  · cases h; exact hLPut
  · cases h; exact hLRem
  · cases h; exact hLGet
  · cases h; exact hLLen
  · cases h; exact hLBuck
  · cases h; exact hLLeft
  · cases h; exact hLChain
  · cases h; exact hLAll
  · cases h; exact hSame
  · cases h
theorem cfgL_ok : cfgL.ok := ⟨tab_met, kinds_met, mixed_met, fun g fn h => (by cases h), hooksL_ok⟩
theorem cfgL9_ok : cfgL9.ok := ⟨tab_met, kinds_met, mixed_met, fun g fn h => (by cases h), hooksL_ok⟩

theorem sh3 {t : TM} {a b c : Nat} (h : t.sh = (a, b, c)) : t.B.length = a ∧ t.O.length = b ∧ t.moved = c := by
  unfold TM.sh at h; simp only [Prod.mk.injEq] at h; exact h
theorem body9 (b : Nat) (x : Nat × Pool) (h : JS b x) (Q : EX → St V → Prop) (F : AV → Heap V → Nat → Prop)
    (hnx : ∀ (ST : St V) (p : Pool), x.1 < 9 → JS b (x.1 + 1, p) → Wk 1 [] ST (SI b (x.1 + 1, p)) → Q .nx ST) (hex : ∀ ST : St V, x.1 = 9 → Wk 1 [] ST (SI b x) → Q (.ex 0) ST) :
    (runCode cfgL 60 9 (loopOf Try.f9 0) (SI b x) (stopT (trimSt [1, 2] [0]))).holds ⟨Q, F⟩ := by
  rw [tb9]
  obtain ⟨hle, t, hT, hl, hg, hs⟩ := h
  simp only [Out.holds, decide_eq_true_eq, decide_eq_false_iff_not, beq_iff_eq, beq_eq_false_iff_ne, bne_iff_ne, ne_eq, bne_eq_false_iff_eq, Bool.true_and, Bool.and_true, Bool.not_eq_true', Bool.not_eq_false', Bool.and_eq_true, Bool.or_eq_true, Bool.and_eq_false_imp, true_implies, true_and, Bool.not_true, Bool.not_false, Bool.false_eq_true, Bool.true_eq_false, false_implies, and_true, beq_self_eq_true, Decidable.not_not, not_true_eq_false, not_false_eq_true]
  refine ⟨fun hlt => ?_, fun hge => hex _ (by omega) (by (refine ⟨?_, ?_, rfl, tl_ok rfl, ?_, ⟨Nat.le_of_ble_eq_true rfl, rfl⟩⟩ <;> (repeat' first | with_reducible exact trivial | exact AV.sub_same _ | exact .same _ | exact .inr rfl | exact .inl (in_ok rfl) | exact AV.sub_lit' | exact AV.sub_nilS | exact .none _ _ | exact trivial | refine ⟨?_, ?_⟩)))⟩
  have hlt' : x.1 < 9 := by omega
  have hw : IntKind.wrap .i64 ((x.1 : Int) + 1) = ((x.1 + 1 : Nat) : Int) := wrap_nat (by omega)
  have hw2 : IntKind.wrap .i64 (10 * (x.1 : Int)) = 10 * (x.1 : Int) := wrap_low (by omega) (by omega)
  rw [hw2]
  refine ⟨([(b, t)], 0), ⟨⟨hT, Nat.zero_lt_one, rfl⟩, by show t.len < _; omega⟩, fun p' hp' => ?_⟩
  have hG : t.Good := hT.good (i := 0) Nat.zero_lt_one
  obtain ⟨q1, q2, q3⟩ := put_good hG ⟨(x.1 : Int), 10 * (x.1 : Int), 0, 0⟩
  have hn : t.get (x.1 : Int) = none := by rw [hg, if_neg (by omega)]
  refine hnx _ p' hlt' ⟨hlt', t.put ⟨(x.1 : Int), 10 * (x.1 : Int), 0, 0⟩, hp', ?_, fun k => ?_, ?_⟩ (by (refine ⟨?_, ?_, rfl, tl_ok rfl, ?_, ⟨Nat.le_of_ble_eq_true rfl, rfl⟩⟩ <;> (repeat' first | with_reducible exact trivial | (exact AV.sub_int hw) | exact AV.sub_same _ | exact .same _ | exact .inr rfl | exact .inl (in_ok rfl) | exact AV.sub_lit' | exact AV.sub_nilS | exact .none _ _ | exact trivial | refine ⟨?_, ?_⟩)))
  · rw [q3]; show t.len + (if t.get (x.1 : Int) = none then 1 else 0) = x.1 + 1
    rw [if_pos hn, hl]
  · rw [q2, hg]
    show (if k = (x.1 : Int) then _ else _) = _
    by_cases hk : k = (x.1 : Int)
    · rw [if_pos hk, if_pos (by show 0 ≤ k ∧ k < ((x.1 + 1 : Nat) : Int); omega), hk]
    · rw [if_neg hk]
      by_cases h0 : 0 ≤ k ∧ k < (x.1 : Int)
      · rw [if_pos h0, if_pos (by show 0 ≤ k ∧ k < ((x.1 + 1 : Nat) : Int); omega)]
      · rw [if_neg h0, if_neg (by show ¬ (0 ≤ k ∧ k < ((x.1 + 1 : Nat) : Int)); omega)]
  · rw [put_sh hG]
    show (if (t.get (x.1 : Int)).isSome = true then _ else _) = _
    rw [hn, hl, hs]
    have h8 : x.1 ≤ 8 := by omega
    rw [if_pos h8]
    show shGrow (x.1 + 1) (shMove (8, 0, 0)) = if x.1 + 1 ≤ 8 then (8, 0, 0) else (16, 8, 0)
    have : shMove (8, 0, 0) = (8, 0, 0) := rfl
    rw [this]
    unfold shGrow
    dsimp only
    by_cases h7 : x.1 + 1 ≤ 8
    · rw [if_pos h7, if_neg (by omega)]
    · rw [if_neg h7, if_pos (by omega)]
theorem ls9_ok : LoopOk Try.prog 0 (loopOf Try.f9 0) LS9 := by
  refine trimLoop_ok (trim_ok _ _) (loopTH_ok (C := cfgL) cfgL_ok (f := 9) (n := 60) (trim_ok [1, 2] [0]) 1 (fun p : PSm0 => SI p.b) (fun p x => JS p.b x) (fun p => (0, p.p0)) (fun p x => 9 - x.1) (fun q (p : Pool) => JS q.b (9, p)) (fun q p => SI q.b (9, p)) (fun p => p.h) ?_)
  intro p x h
  refine body9 p.b x h _ _ (fun ST y hlt hy hw => SImp.of_wk (x.1 + 1, y) hw ⟨hy, ?_⟩) (fun ST he hw => ⟨rfl, SImp.of_wk (ren := []) x.2 ?_ ?_⟩)
  · show 9 - (x.1 + 1) < 9 - x.1; omega
  · obtain ⟨i, m⟩ := x; simp only at he; subst he; exact hw
  · obtain ⟨i, m⟩ := x; simp only at he; subst he; exact h

def runSmall : RunFree V := fun ar K => match ar with
  | [] => K .tt []
  | _ => .bad 500
theorem new_js (b : Nat) (p : Pool) (s : Int) (h : TT p [(b, TM.new s)]) : JS b (0, p) :=
  ⟨Nat.zero_le _, TM.new s, h, rfl, fun k => by rw [(new_good s).2, if_neg (by show ¬ (0 ≤ k ∧ k < ((0 : Nat) : Int)); omega)], rfl⟩
theorem small_holds : (runL cfgL9 60 9 Try.f9 [] [(0, .pool Pool.nil)] 1).holds ⟨fun _ _ => False, fun v _ _ => v.sub .tt⟩ := by
  rw [t9]
  refine ⟨[], TT.nil, ?_⟩
  rintro ⟨p0, b⟩ h0
  simp only [Out.holds, decide_eq_true_eq, decide_eq_false_iff_not, beq_iff_eq, beq_eq_false_iff_ne, bne_iff_ne, ne_eq, bne_eq_false_iff_eq, Bool.true_and, Bool.and_true, Bool.not_eq_true', Bool.not_eq_false', Bool.and_eq_true, Bool.or_eq_true, Bool.and_eq_false_imp, true_implies, true_and, Bool.not_true, Bool.not_false, Bool.false_eq_true, Bool.true_eq_false, false_implies, and_true, beq_self_eq_true, Decidable.not_not, not_true_eq_false, not_false_eq_true]
  refine ⟨fun hh => by simp at hh, fun _ => ⟨ls9_ok, fun q => q = ⟨b, p0, new_js b p0 1 h0⟩, ⟨Nat.le_refl _, SImp.of_wk (ren := []) ⟨b, p0, new_js b p0 1 h0⟩ (by (refine ⟨?_, ?_, rfl, tl_ok rfl, ?_, ⟨Nat.le_of_ble_eq_true rfl, rfl⟩⟩ <;> (repeat' first | with_reducible exact trivial | exact AV.sub_same _ | exact .same _ | exact .inr rfl | exact .inl (in_ok rfl) | exact AV.sub_lit' | exact AV.sub_nilS | exact .none _ _ | exact trivial | refine ⟨?_, ?_⟩))) rfl⟩, ?_⟩⟩
  rintro _ rfl p1 ⟨_, t, hT, hl, hg, hs⟩
  dsimp only at hT hl hg hs ⊢
  have hG : t.Good := hT.good (i := 0) Nat.zero_lt_one
  have hs : t.sh = (16, 8, 0) := hs
  obtain ⟨a1, a2, a3⟩ := sh3 hs
  have g3 : t.get 3 = some ⟨3, 30, 0, 0⟩ := by rw [hg]; rfl
  have g4 : t.get 4 = some ⟨4, 40, 0, 0⟩ := by rw [hg]; rfl
  refine ⟨([(b, t)], 0), ⟨hT, Nat.zero_lt_one, rfl⟩, ([(b, t)], 0), ⟨hT, Nat.zero_lt_one, rfl⟩, ([(b, t)], 0), ⟨⟨hT, Nat.zero_lt_one, rfl⟩, by show t.len < _; omega⟩, fun p2 hT2 => ?_⟩
  have hT2 : TT p2 [(b, t.put ⟨3, 1, 0, 0⟩)] := hT2
  obtain ⟨q1, q2, q3⟩ := put_good hG ⟨3, 1, 0, 0⟩
  have l2 : (t.put ⟨3, 1, 0, 0⟩).len = 9 := by
    rw [q3, if_neg (by show ¬ t.get 3 = none; rw [g3]; simp), hl]
  have s2 : (t.put ⟨3, 1, 0, 0⟩).sh = (16, 8, 1) := by
    rw [put_sh hG, if_pos (by show (t.get 3).isSome = true; rw [g3]; rfl), hs]; rfl
  have k3 : (t.put ⟨3, 1, 0, 0⟩).get 3 = some ⟨3, 1, 0, 0⟩ := by rw [q2]; rfl
  have k4 : (t.put ⟨3, 1, 0, 0⟩).get 4 = some ⟨4, 40, 0, 0⟩ := by rw [q2, if_neg (by show ¬ (4 : Int) = 3; decide)]; exact g4
  generalize t.put ⟨3, 1, 0, 0⟩ = t2 at *
  refine ⟨([(b, t2)], 0), ⟨hT2, Nat.zero_lt_one, rfl⟩, ([(b, t2)], 0), ⟨hT2, Nat.zero_lt_one, rfl⟩, fun p3 hT3 => ?_⟩
  have hT3 : TT p3 [(b, t2.remove 4)] := hT3
  obtain ⟨r1, r2, r3, _⟩ := remove_good q1 4
  have l3 : (t2.remove 4).len = 8 := by rw [r3, k4, l2]; rfl
  have s3 : (t2.remove 4).sh = (16, 8, 2) := by rw [rem_sh q1, s2]; rfl
  have m4 : (t2.remove 4).get 4 = none := by rw [r2]; rfl
  generalize t2.remove 4 = t3 at *
  obtain ⟨b1, b2, b3⟩ := sh3 s3
  have e1 : ((Tbs.at ([(b, t)], 0)).2.B.length : Int) = 16 := by show (t.B.length : Int) = 16; omega
  have e2 : ((Tbs.at ([(b, t)], 0)).2.left : Int) = 8 := by show ((t.O.length - t.moved : Nat) : Int) = 8; omega
  have e3 : ((Tbs.at ([(b, t3)], 0)).2.len : Int) = 8 := by show (t3.len : Int) = 8; omega
  have e4 : ((Tbs.at ([(b, t3)], 0)).2.left : Int) = 6 := by show ((t3.O.length - t3.moved : Nat) : Int) = 6; omega
  have f3 : (Tbs.at ([(b, t)], 0)).2.get 3 = some ⟨3, 30, 0, 0⟩ := g3
  have f4 : (Tbs.at ([(b, t2)], 0)).2.get 3 = some ⟨3, 1, 0, 0⟩ := k3
  have f5 : (Tbs.at ([(b, t2)], 0)).2.get 4 = some ⟨4, 40, 0, 0⟩ := k4
  have f6 : (Tbs.at ([(b, t3)], 0)).2.get 4 = none := m4
  refine ⟨([(b, t3)], 0), ⟨hT3, Nat.zero_lt_one, rfl⟩, ?_⟩
  simp only [e1, e2, f3, f4, f5, f6, Option.getD_some, Option.isSome_some, Option.isSome_none, Out.holds, decide_eq_true_eq, decide_eq_false_iff_not, beq_iff_eq, beq_eq_false_iff_ne, bne_iff_ne, ne_eq, bne_eq_false_iff_eq, Bool.true_and, Bool.and_true, Bool.not_eq_true', Bool.not_eq_false', Bool.and_eq_true, Bool.or_eq_true, Bool.and_eq_false_imp, true_implies, true_and, Bool.not_true, Bool.not_false, Bool.false_eq_true, Bool.true_eq_false, false_implies, and_true, beq_self_eq_true, Decidable.not_not, not_true_eq_false, not_false_eq_true]
  refine ⟨([(b, t3)], 0), ⟨hT3, Nat.zero_lt_one, rfl⟩, fun _ => ⟨([(b, t3)], 0), ⟨hT3, Nat.zero_lt_one, rfl⟩, fun _ => ⟨([(b, t3)], 0), ⟨hT3, Nat.zero_lt_one, rfl⟩, fun ys sp hys => ?_⟩, fun hh => absurd e4 hh⟩, fun hh => absurd e3 hh⟩
  have hyl : ((ys.length : Nat) : Int) = 8 := by rw [hys.2.1]; exact e3
  rw [hyl]; exact AV.sub_same _
theorem hSmall : HookOk Try.prog 9 (hookFree [] runSmall) := by
  refine hookFree_ok ⟨Try.f9, by kernel_rfl, by kernel_rfl, by kernel_rfl⟩ ?_
  intro M ar K0 h
  unfold runSmall at h
  split at h
  · refine ⟨?_, ?_⟩
    · exact ⟨Try.f9, by kernel_rfl, by kernel_rfl, by kernel_rfl⟩
    · intro β r vs w hr hs hf
      refine (((calls_runL cfgL9_ok (n := 60) (g := 9) (fn := Try.f9) ⟨by kernel_rfl, by kernel_rfl⟩ (by kernel_rfl) (by decide +kernel) small_holds).nilPool (nx := 0) rfl (by decide)).2 β r vs w hr hs hf).mono ?_
      rintro e w' ⟨v, h', nx', T, z, r', rfl, h1, h2, h3, h4, h5, h6⟩
      exact ⟨v, h', nx', T, z, r', rfl, ⟨_, _, h, endPlain h1 rfl⟩, h2, h3, h4, h5, h6⟩
  · exact h.elim

end Sx
end Go.Proofs.Ytkadlfadmjhahaa

/-
  The laws: the runs of the machine.
-/
namespace Go.Proofs.Ytkadlfadmjhahaa
namespace Sx
open Go
set_option maxRecDepth 100000
set_option linter.unusedVariables false

noncomputable def hooksW : Nat → Option (HookS V) := fun g => match g with | 9 => some (hookFree [] runSmall) | g => hooksL g
noncomputable def cfgW : Cfg Try.prog V := ⟨tab, kinds, fun _ => none, hooksW, fun _ _ => none⟩
structure P4 where
  l : List Three
  c : Nat
  b : Nat
  hl : l.length ≤ 300
def GI (q : P4) (x : Nat × Pool) : St V := ⟨[(1, .sl false 0 0 3 q.l.length q.c), (5, .tt), (6, .rp (some (q.b, 0))), (7, .int .i64 (x.1 : Int))], [(1, .pool x.2), (0, .ro Kd.three q.l)], 2, 107, TQ⟩
structure J4 (q : P4) (x : Nat × Pool) : Prop where
  le : x.1 ≤ q.l.length
  ex : ∃ t : TM, TT x.2 [(q.b, t)] ∧ t.len ≤ x.1 ∧ 8 ≤ t.B.length
structure P4s where
  q : P4
  p0 : Pool
  h : J4 q (0, p0)
def LG4 : LoopS V := trimLoop (trimSt [1, 5, 6, 7] [0, 1]) (loopH 2 (fun q : P4s => GI q.q (0, q.p0)) (fun q (p : Pool) => J4 q.q (q.q.l.length, p)) (fun q p => GI q.q (q.q.l.length, p)))
noncomputable def cfgW4 : Cfg Try.prog V := ⟨tab, kinds, fun _ => none, hooksW, fun f id => match f, id with | 4, 0 => some LG4 | _, _ => none⟩
structure P5 where
  l : List Three
  c : Nat
  b : Nat
  d : Nat
  hl : l.length ≤ 200
def DI (q : P5) (x : Nat × Pool) : St V := ⟨[(2, .sl false 0 0 3 q.l.length q.c), (7, .tt), (8, .rp (some (q.b, 0))), (9, .rp (some (q.d, 0))), (10, .int .i64 (x.1 : Int))], [(1, .pool x.2), (0, .ro Kd.three q.l)], 2, 147, TQ⟩
structure J5 (q : P5) (x : Nat × Pool) : Prop where
  le : x.1 ≤ q.l.length
  ex : ∃ t u : TM, TT x.2 [(q.b, t), (q.d, u)] ∧ t.len ≤ x.1 ∧ t.len = u.len ∧ t.sh = u.sh ∧ ∀ k, t.get k = u.get k
structure P5s where
  q : P5
  p0 : Pool
  h : J5 q (0, p0)
def LD5 : LoopS V := trimLoop (trimSt [2, 7, 8, 9, 10] [0, 1]) (loopH 2 (fun q : P5s => DI q.q (0, q.p0)) (fun q (p : Pool) => J5 q.q (q.q.l.length, p)) (fun q p => DI q.q (q.q.l.length, p)))
noncomputable def cfgW5 : Cfg Try.prog V := ⟨tab, kinds, fun _ => none, hooksW, fun f id => match f, id with | 5, 0 => some LD5 | _, _ => none⟩
theorem t4 (s : Int) (l : List Three) (c : Nat) : runL cfgW4 60 4 Try.f4 [.int .i64 s, .sl false 0 0 3 l.length c] [(1, .pool Pool.nil), (0, .ro Kd.three l)] 2 = Out.ex Tbs fun y => Out.need (TT Pool.nil y) (Out.all (Pool × Nat) fun y_1 => Out.asm (TT y_1.fst (y ++ [(y_1.2, TM.new s)])) (Out.ite (some (y_1.2, (0 : Nat))).isNone (Out.fin (.bool !(some (y_1.2, (0 : Nat))).isNone) [] (0 : Nat)) (Out.ite (decide ((↑l.length : Int) > (300 : Int))) (Out.fin (.bool !(some (y_1.2, (0 : Nat))).isNone) [] (0 : Nat)) (Out.need (LoopFor Try.prog (4 : Nat) (0 : Nat) (loopOf Try.f4 (0 : Nat)) LG4) (Out.ex (P4s → Prop) fun y => Out.need ((2 : Nat) ≤ (2 : Nat) ∧ SImp (2 : Nat) {env := [((1 : Nat), .sl false (0 : Nat) (0 : Nat) (3 : Nat) l.length c), ((5 : Nat), .tt), ((6 : Nat), AV.rp (some (y_1.2, (0 : Nat)))), ((7 : Nat), .lit .i64 (0 : Int))], heap := [((1 : Nat), Blk.pool y_1.fst), ((0 : Nat), .ro Kd.three l)], nx := (2 : Nat), nt := (107 : Nat), tl := [(1 : Nat)] : St V } (fun q => GI q.q ((0 : Nat), q.p0)) y) (Out.all P4s fun y_2 => Out.asm (y y_2) (Out.all Pool fun y => Out.asm ((fun q p => J4 q.q (q.q.l.length, p)) y_2 y) (Out.ex (Tbs × Nat) fun y_3 => Out.need (TIn (y_2.q.l.length, y).snd y_3 (some (y_2.q.3, (0 : Nat)))) (Out.fin (.bool (decide ((fun t => (↑t.B.length : Int)) (Tbs.at y_3).snd ≥ (8 : Int)))) [] (0 : Nat)))))))))) := by kernel_rfl

theorem t5 (s s2 : Int) (l : List Three) (c : Nat) : runL cfgW5 60 5 Try.f5 [.int .i64 s, .int .i64 s2, .sl false 0 0 3 l.length c] [(1, .pool Pool.nil), (0, .ro Kd.three l)] 2 = Out.ex Tbs fun y => Out.need (TT Pool.nil y) (Out.all (Pool × Nat) fun y_1 => Out.asm (TT y_1.fst (y ++ [(y_1.2, TM.new s)])) (Out.ex Tbs fun y => Out.need (TT y_1.fst y) (Out.all (Pool × Nat) fun y_2 => Out.asm (TT y_2.fst (y ++ [(y_2.2, TM.new s2)])) (Out.ite (some (y_1.2, (0 : Nat))).isNone (Out.ite (!(some (y_1.2, (0 : Nat))).isNone) (Out.fin (.bool !(some (y_2.2, (0 : Nat))).isNone) [] (0 : Nat)) (Out.fin .ff [] (0 : Nat))) (Out.ite (some (y_2.2, (0 : Nat))).isNone (Out.ite (!(some (y_1.2, (0 : Nat))).isNone) (Out.fin (.bool !(some (y_2.2, (0 : Nat))).isNone) [] (0 : Nat)) (Out.fin .ff [] (0 : Nat))) (Out.ite (decide ((↑l.length : Int) > (200 : Int))) (Out.ite (!(some (y_1.2, (0 : Nat))).isNone) (Out.fin (.bool !(some (y_2.2, (0 : Nat))).isNone) [] (0 : Nat)) (Out.fin .ff [] (0 : Nat))) (Out.need (LoopFor Try.prog (5 : Nat) (0 : Nat) (loopOf Try.f5 (0 : Nat)) LD5) (Out.ex (P5s → Prop) fun y => Out.need ((2 : Nat) ≤ (2 : Nat) ∧ SImp (2 : Nat) {env := [((2 : Nat), .sl false (0 : Nat) (0 : Nat) (3 : Nat) l.length c), ((7 : Nat), .tt), ((8 : Nat), AV.rp (some (y_1.2, (0 : Nat)))), ((9 : Nat), AV.rp (some (y_2.2, (0 : Nat)))), ((10 : Nat), .lit .i64 (0 : Int))], heap := [((1 : Nat), Blk.pool y_2.fst), ((0 : Nat), .ro Kd.three l)], nx := (2 : Nat), nt := (147 : Nat), tl := [(1 : Nat), (1 : Nat)] : St V } (fun q => DI q.q ((0 : Nat), q.p0)) y) (Out.all P5s fun y_3 => Out.asm (y y_3) (Out.all Pool fun y => Out.asm ((fun q p => J5 q.q (q.q.l.length, p)) y_3 y) (Out.ex (Tbs × Nat) fun y_4 => Out.need (TIn (y_3.q.l.length, y).snd y_4 (some (y_3.q.3, (0 : Nat)))) (Out.all (List Ent) fun y_5 => Out.all Nat fun y_6 => Out.asm (AllRow (Tbs.at y_4).snd.get y_5 ∧ y_5.length = (Tbs.at y_4).snd.len ∧ y_5.length ≤ (1048576 : Nat)) (Out.ex (Tbs × Nat) fun y_7 => Out.need (TIn (y_3.q.l.length, y).snd y_7 (some (y_3.q.4, (0 : Nat)))) (Out.all (List Ent) fun y_8 => Out.all Nat fun y_9 => Out.asm (AllRow (Tbs.at y_7).snd.get y_8 ∧ y_8.length = (Tbs.at y_7).snd.len ∧ y_8.length ≤ (1048576 : Nat)) (Out.need ((0 : Nat) + y_5.length ≤ y_5.length) (Out.need ((0 : Nat) + y_8.length ≤ y_8.length) (Out.need ((List.take y_5.length (List.drop (0 : Nat) y_5)).length ≤ (1099511627776 : Nat)) (Out.ite (decide (List.take y_5.length (List.drop (0 : Nat) y_5) = List.take y_8.length (List.drop (0 : Nat) y_8))) (Out.ex (Tbs × Nat) fun y_10 => Out.need (TIn (y_3.q.l.length, y).snd y_10 (some (y_3.q.3, (0 : Nat)))) (Out.ex (Tbs × Nat) fun y_11 => Out.need (TIn (y_3.q.l.length, y).snd y_11 (some (y_3.q.4, (0 : Nat)))) (Out.ite ((fun t => (↑t.B.length : Int)) (Tbs.at y_10).snd == (fun t => (↑t.B.length : Int)) (Tbs.at y_11).snd) (Out.ex (Tbs × Nat) fun y_12 => Out.need (TIn (y_3.q.l.length, y).snd y_12 (some (y_3.q.3, (0 : Nat)))) (Out.ex (Tbs × Nat) fun y_13 => Out.need (TIn (y_3.q.l.length, y).snd y_13 (some (y_3.q.4, (0 : Nat)))) (Out.fin (.bool ((fun t => (↑t.left : Int)) (Tbs.at y_12).snd == (fun t => (↑t.left : Int)) (Tbs.at y_13).snd)) [] (0 : Nat)))) (Out.fin .ff [] (0 : Nat))))) (Out.fin .ff [] (0 : Nat)))))))))))))))))))) := by kernel_rfl

end Sx
end Go.Proofs.Ytkadlfadmjhahaa

/-
  Old buckets go down by one, and when a table grows: the law.
-/
namespace Go.Proofs.Ytkadlfadmjhahaa
namespace Sx
open Go
set_option linter.unusedSimpArgs false
set_option linter.unusedVariables false

theorem hooksW_ok : ∀ g H, hooksW g = some H → HookOk Try.prog g H := by
  intro g H h
  unfold hooksW at h
  split at h
  · cases h; exact hSmall
  · exact hooksL_ok _ _ h
theorem TM.none_left {t : TM} (h : t.Good) (hl : t.O.length ≤ t.moved) : t.O.length = 0 ∧ t.moved = 0 := by
  have := h.tight hl
  have hm := h.core.mv
  rw [this] at hm ⊢
  simp at hm ⊢; exact hm
end Sx
end Go.Proofs.Ytkadlfadmjhahaa

/-
  What a table holds does not hang on its seed: the law.
-/
namespace Go.Proofs.Ytkadlfadmjhahaa
namespace Sx
open Go
set_option linter.unusedSimpArgs false
set_option linter.unusedVariables false

end Sx
end Go.Proofs.Ytkadlfadmjhahaa

/-
  Keys in the chains of their places: the runs of the machine.
-/
namespace Go.Proofs.Ytkadlfadmjhahaa
namespace Sx
open Go
set_option maxRecDepth 100000
set_option linter.unusedVariables false

noncomputable def hooksV : Nat → Option (HookS V) := fun g => match g with | 30 => some (hookFree [.int .i64, .int .i64] runMix) | 29 => some (hookFree [.int .u64, .int .i64, .int .i64] runIndex) | g => hooksW g
noncomputable def cfgV : Cfg Try.prog V := ⟨tab, kinds, fun _ => none, hooksV, fun _ _ => none⟩
structure P7 where
  s : Int
  l : List Int
  c : Nat
  b : Nat
  hl : l.length ≤ 150
def K0 (q : P7) (x : Nat × Pool) : St V := ⟨[(0, .int .i64 q.s), (1, .sl false 0 0 1 q.l.length q.c), (5, .tt), (6, .rp (some (q.b, 0))), (7, .int .i64 (x.1 : Int))], [(1, .pool x.2), (0, .ro Kd.int q.l)], 2, 109, TQ⟩
structure JK0 (q : P7) (x : Nat × Pool) : Prop where
  le : x.1 ≤ q.l.length
  ex : ∃ t : TM, TT x.2 [(q.b, t)] ∧ t.seed = q.s ∧ t.len ≤ x.1 ∧ t.O.length ≤ 150
structure P7s where
  q : P7
  p0 : Pool
  h : JK0 q (0, p0)
def LK0 : LoopS V := trimLoop (trimSt [0, 1, 5, 6, 7] [0, 1]) (loopH 2 (fun q : P7s => K0 q.q (0, q.p0)) (fun q (p : Pool) => JK0 q.q (q.q.l.length, p)) (fun q p => K0 q.q (q.q.l.length, p)))
def K2 (q : P7) (x : Nat × Pool) : St V := ⟨[(0, .int .i64 q.s), (5, .tt), (6, .rp (some (q.b, 0))), (8, .int .i64 (x.1 : Int))], [(1, .pool x.2)], 2, 109, TQ⟩
structure JK2 (q : P7) (x : Nat × Pool) : Prop where
  le : x.1 ≤ 2000
  ex : ∃ t : TM, TT x.2 [(q.b, t)] ∧ t.seed = q.s ∧ t.left + x.1 ≤ 150 + (x.1 - 150)
structure P72 where
  q : P7
  p0 : Pool
  h : JK2 q (0, p0)
def LK2 : LoopS V := trimLoop (trimSt [0, 5, 6, 8] [1]) (loopH 2 (fun q : P72 => K2 q.q (0, q.p0)) (fun q (p : Nat × Pool) => ∃ t : TM, TT p.2 [(q.q.b, t)] ∧ t.seed = q.q.s ∧ t.left = 0) (fun q p => K2 q.q p))
structure P74 where
  s : Int
  b : Nat
  t : TM
  p : Pool
  hT : TT p [(b, t)]
  hs : t.seed = s
  hl : t.left = 0
def K4 (q : P74) (x : Nat × Nat) : St V := ⟨[(0, .int .i64 q.s), (5, .tt), (6, .rp (some (q.b, 0))), (9, .int .i64 (x.2 : Int)), (10, .int .i64 (x.1 : Int))], [(1, .pool q.p)], 2, 109, TQ⟩
structure P76 where
  q : P74
  bb : Nat
  n : Nat
  sp : Nat
  hb : bb < q.t.B.length
abbrev P76.ks (q : P76) : List Int := q.q.t.chainKeys (q.bb : Int)
def K6 (q : P76) (k : Nat) : St V := ⟨[(0, .int .i64 q.q.s), (5, .tt), (6, .rp (some (q.q.b, 0))), (9, .int .i64 (q.n : Int)), (10, .int .i64 (q.bb : Int)), (11, .sl false 2 0 1 q.ks.length (q.ks.length + q.sp)), (12, .int .i64 (k : Int))], [(2, .arr 3 Kd.int q.ks q.sp), (1, .pool q.q.p)], 4, 109, TQ⟩
def LK6 : LoopS V := trimLoop (trimSt [0, 5, 6, 9, 10, 11, 12] [1, 2]) (loopH 4 (fun q : P76 => K6 q 0) (fun q (_ : Unit) => True) (fun q _ => K6 q q.ks.length))
noncomputable def cfgV6 : Cfg Try.prog V := ⟨tab, kinds, fun _ => none, hooksV, fun f id => match f, id with | 7, 6 => some LK6 | _, _ => none⟩
structure JK4 (q : P74) (x : Nat × Nat) : Prop where
  le : x.1 ≤ q.t.B.length
  n : x.2 = ((q.t.B.take x.1).map List.length).sum
def LK4 : LoopS V := trimLoop (trimSt [0, 5, 6, 9, 10] [1]) (loopH 2 (fun q : P74 => K4 q (0, 0)) (fun q (_ : Unit) => True) (fun q _ => K4 q (q.t.B.length, (q.t.B.map List.length).sum)))
noncomputable def cfgV7 : Cfg Try.prog V := ⟨tab, kinds, fun _ => none, hooksV, fun f id => match f, id with | 7, 0 => some LK0 | 7, 2 => some LK2 | 7, 4 => some LK4 | _, _ => none⟩
end Sx
end Go.Proofs.Ytkadlfadmjhahaa

/-
  When no old buckets are left each key is in the chain of its place: the law.
-/
namespace Go.Proofs.Ytkadlfadmjhahaa
namespace Sx
open Go
set_option linter.unusedSimpArgs false
set_option linter.unusedVariables false

/-! ## each key in the chain of its place -/
theorem P74.oempty (q : P74) : q.t.O = [] ∧ q.t.moved = 0 := by
  have hG : q.t.Good := q.hT.good (i := 0) Nat.zero_lt_one
  have hl := q.hl
  unfold TM.left at hl
  have := TM.none_left hG (by omega)
  exact ⟨List.eq_nil_of_length_eq_zero this.1, this.2⟩
theorem P76.in_ (q : P76) : q.ks = (q.q.t.B.getD q.bb []).map (·.key) := by
  unfold P76.ks TM.chainKeys
  have := q.hb
  rw [if_pos ⟨by omega, by omega⟩, Int.toNat_natCast]
theorem P76.place (q : P76) {k : Nat} (hk : k < q.ks.length) : (q.q.t.get (q.ks.getD k 0)).isSome = true ∧ idxF (mixF q.q.s (q.ks.getD k 0)) 0 (q.q.t.B.length : Int) = (q.bb : Int) := by
  have hG : q.q.t.Good := q.q.hT.good (i := 0) Nat.zero_lt_one
  obtain ⟨o1, o2⟩ := q.q.oempty
  rw [q.in_] at hk ⊢
  rw [List.length_map] at hk
  have hg : ((q.q.t.B.getD q.bb []).map (·.key)).getD k 0 = ((q.q.t.B.getD q.bb [])[k]).key := by
    rw [List.getD_eq_getElem?_getD, List.getElem?_map, List.getElem?_eq_getElem hk]; rfl
  rw [hg]
  have hm : (q.q.t.B.getD q.bb [])[k] ∈ q.q.t.row (false, q.bb) := List.getElem_mem hk
  have hlv : q.q.t.live (false, q.bb) := q.hb
  have h1 := TM.get_mem hG.core hlv hm
  have h2 := hG.core.home _ hlv _ hm
  refine ⟨by rw [h1]; rfl, ?_⟩
  unfold TM.pl at h2
  have hin : q.q.t.inOld ((q.q.t.B.getD q.bb [])[k]).key = false := by unfold TM.inOld; rw [o1]; simp
  rw [hin] at h2
  have h2 : idxN q.q.t.seed ((q.q.t.B.getD q.bb [])[k]).key q.q.t.B.length = q.bb := congrArg Prod.snd h2
  have h3 := idxN_cast (seed := q.q.t.seed) (key := ((q.q.t.B.getD q.bb [])[k]).key) hG.core.b1 (by have := hG.core.b2; omega)
  rw [h2, q.q.hs] at h3
  exact h3.symm
end Sx
end Go.Proofs.Ytkadlfadmjhahaa

/-
  A chain, and none: the runs of the machine.
-/
namespace Go.Proofs.Ytkadlfadmjhahaa
namespace Sx
open Go
set_option maxRecDepth 100000
set_option linter.unusedVariables false

structure PC0 where
  p : Pool
  x : Option (Nat × Nat)
  hx : x = none
def CI0 (p : Pool) (x : Option (Nat × Nat)) : St V := ⟨[(5, .nilS), (6, .rp x)], [(0, .pool p)], 4, 40, TQ⟩
def CL0 : LoopS V := trimLoop (trimSt [5, 6] [0]) (loopH 3 (fun p : PC0 => CI0 p.p p.x) (fun _ (_ : Unit) => True) (fun p _ => CI0 p.p p.x))
noncomputable def cfgL2 : Cfg Try.prog V := ⟨tab, kinds, fun _ => none, fun _ => none, fun f id => match f, id with | 26, 0 => some (orLoop CL0 CL) | _, _ => none⟩
end Sx
end Go.Proofs.Ytkadlfadmjhahaa

/-
  A table's chain, and none where there is none.
-/
namespace Go.Proofs.Ytkadlfadmjhahaa
namespace Sx
open Go
set_option linter.unusedSimpArgs false
set_option linter.unusedVariables false

def runTChainN : RunPool V := fun p ar K => match ar with
  | [.val (.rp o), .int .i64 k] => .ex Nat fun b => .need (o = some (b, 0)) (.ex TL fun L => .need (TabAt p b L ∧ L.fits ∧ ∀ i, (L.B.getD i []).length ≤ 1099511627776)
      (.ite (L.tm.chainKeys k).isEmpty (K .nilS p []) (.all Nat fun sp => K (.sl false 1 0 1 (L.tm.chainKeys k).length ((L.tm.chainKeys k).length + sp)) p [.arr 3 Kd.int (L.tm.chainKeys k) sp])))
  | _ => .bad 500
def runLChainN : RunPool V := fun p ar K => match ar with
  | [.val (.rp o), .int .i64 k] => .ex (Tbs × Nat) fun z => .need (TIn p z o)
      (.ite ((Tbs.at z).2.chainKeys k).isEmpty (K .nilS p []) (.all Nat fun sp => K (.sl false 1 0 1 ((Tbs.at z).2.chainKeys k).length (((Tbs.at z).2.chainKeys k).length + sp)) p [.arr 3 Kd.int ((Tbs.at z).2.chainKeys k) sp]))
  | _ => .bad 500
end Sx
end Go.Proofs.Ytkadlfadmjhahaa

/-
  Rows of numbers compared: the runs of the machine.
-/
namespace Go.Proofs.Ytkadlfadmjhahaa
namespace Sx
open Go
set_option maxRecDepth 100000
set_option linter.unusedVariables false

structure PIn where
  xs : List Int
  c : Nat
  ys : List Int
  d : Nat
  hl : xs.length = ys.length
  hb : xs.length ≤ 1099511627776
def IIn (p : PIn) (i : Nat) : St V := ⟨[(0, .sl false 0 0 1 p.xs.length p.c), (1, .sl false 1 0 1 p.ys.length p.d), (5, .int .i64 (i : Int))], [(0, .ro Kd.int p.xs), (1, .ro Kd.int p.ys)], 2, 26, [0, 1, 2, 3, 4, 5, 6, 7]⟩
def RInts (p : PIn) : St V := ⟨[(4, .ff)], [(0, .ro Kd.int p.xs), (1, .ro Kd.int p.ys)], 2, 26, [0, 1, 2, 3, 4, 5, 6, 7]⟩
def LIn : LoopS V := loopS 2 (fun p : PIn => IIn p 0) (fun p _ => p.xs = p.ys) (fun p (_ : Unit) => IIn p p.xs.length) (fun p _ => p.xs ≠ p.ys) (fun p (_ : Unit) => RInts p)
noncomputable def cfgIn : Cfg Try.prog V := ⟨tab, kinds, fun _ => none, fun _ => none, fun _ _ => none⟩
noncomputable def cfgIn1 : Cfg Try.prog V := ⟨tab, kinds, fun _ => none, fun _ => none, fun f id => match f, id with | 25, 0 => some LIn | _, _ => none⟩
theorem bints (p : PIn) (i : Nat) : runCode cfgIn 40 25 (loopOf Try.f25 0) (IIn p i) Out.stop = Out.ite (decide ((↑i : Int) < (↑p.xs.length : Int))) (Out.need (0 ≤ (↑i : Int) ∧ (↑i : Int) < (↑p.xs.length : Int)) (Out.need (0 + i < p.xs.length) (Out.need (0 ≤ (↑i : Int) ∧ (↑i : Int) < (↑p.ys.length : Int)) (Out.need (0 + i < p.ys.length) (Out.ite (p.xs.getD (0 + i) (V.enc Kd.int).dflt != p.ys.getD (0 + i) (V.enc Kd.int).dflt) (Out.stop EX.rt {env := [(4, .ff), (25, .bool (p.xs.getD (0 + i) (V.enc Kd.int).dflt != p.ys.getD (0 + i) (V.enc Kd.int).dflt)), (24, .int .i64 (p.ys.getD (0 + i) (V.enc Kd.int).dflt)), (23, .ptrR 1 (0 + i) 1 0), (22, .int .i64 (↑i : Int)), (21, .sl false 1 0 1 p.ys.length p.4), (20, .int .i64 (p.xs.getD (0 + i) (V.enc Kd.int).dflt)), (19, .ptrR 0 (0 + i) 1 0), (18, .int .i64 (↑i : Int)), (17, .sl false 0 0 1 p.xs.length p.2), (14, .bool (decide ((↑i : Int) < (↑p.xs.length : Int)))), (13, .int .i64 (↑p.xs.length : Int)), (12, .sl false 0 0 1 p.xs.length p.2), (11, .int .i64 (↑i : Int)), (0, .sl false 0 0 1 p.xs.length p.2), (1, .sl false 1 0 1 p.ys.length p.4), (5, .int .i64 (↑i : Int))], heap := [(0, .ro Kd.int p.xs), (1, .ro Kd.int p.ys)], nx := 2, nt := 26, tl := [0, 1, 2, 3, 4, 5, 6, 7] : St V }) (Out.stop EX.nx {env := [(5, .int .i64 (IntKind.i64.wrap ((↑i : Int) + 1))), (16, .int .i64 (IntKind.i64.wrap ((↑i : Int) + 1))), (15, .int .i64 (↑i : Int)), (25, .bool (p.xs.getD (0 + i) (V.enc Kd.int).dflt != p.ys.getD (0 + i) (V.enc Kd.int).dflt)), (24, .int .i64 (p.ys.getD (0 + i) (V.enc Kd.int).dflt)), (23, .ptrR 1 (0 + i) 1 0), (22, .int .i64 (↑i : Int)), (21, .sl false 1 0 1 p.ys.length p.4), (20, .int .i64 (p.xs.getD (0 + i) (V.enc Kd.int).dflt)), (19, .ptrR 0 (0 + i) 1 0), (18, .int .i64 (↑i : Int)), (17, .sl false 0 0 1 p.xs.length p.2), (14, .bool (decide ((↑i : Int) < (↑p.xs.length : Int)))), (13, .int .i64 (↑p.xs.length : Int)), (12, .sl false 0 0 1 p.xs.length p.2), (11, .int .i64 (↑i : Int)), (0, .sl false 0 0 1 p.xs.length p.2), (1, .sl false 1 0 1 p.ys.length p.4), (5, .int .i64 (↑i : Int))], heap := [(0, .ro Kd.int p.xs), (1, .ro Kd.int p.ys)], nx := 2, nt := 26, tl := [0, 1, 2, 3, 4, 5, 6, 7] : St V })))))) (Out.stop (EX.ex 0) {env := [(14, .bool (decide ((↑i : Int) < (↑p.xs.length : Int)))), (13, .int .i64 (↑p.xs.length : Int)), (12, .sl false 0 0 1 p.xs.length p.2), (11, .int .i64 (↑i : Int)), (0, .sl false 0 0 1 p.xs.length p.2), (1, .sl false 1 0 1 p.ys.length p.4), (5, .int .i64 (↑i : Int))], heap := [(0, .ro Kd.int p.xs), (1, .ro Kd.int p.ys)], nx := 2, nt := 26, tl := [0, 1, 2, 3, 4, 5, 6, 7] : St V }) := by kernel_rfl

theorem tints (xs ys : List Int) (c d : Nat) : runF cfgIn1 40 25 Try.f25 [.sl false 0 0 1 xs.length c, .sl false 1 0 1 ys.length d] [(0, .ro Kd.int xs), (1, .ro Kd.int ys)] 2 = Out.ite ((↑xs.length : Int) != (↑ys.length : Int)) (Out.fin .ff [(0, .ro Kd.int xs), (1, .ro Kd.int ys)] 2) (Out.need (LoopFor Try.prog 25 0 (loopOf Try.f25 0) LIn) (Out.ex PIn fun y => Out.ex (List (Nat × Nat)) fun y_1 => Out.need (2 ≤ 2 ∧ Wk 2 y_1 {env := [(5, .lit .i64 0), (10, .bool ((↑xs.length : Int) != (↑ys.length : Int))), (9, .int .i64 (↑ys.length : Int)), (8, .sl false 1 0 1 ys.length d), (7, .int .i64 (↑xs.length : Int)), (6, .sl false 0 0 1 xs.length c), (4, .ff), (0, .sl false 0 0 1 xs.length c), (1, .sl false 1 0 1 ys.length d)], heap := [(0, .ro Kd.int xs), (1, .ro Kd.int ys)], nx := 2, nt := 26, tl := [] : St V } ((fun p => IIn p 0) y)) ((Out.all Unit fun y_2 => Out.asm ((fun p x => p.xs = p.ys) y y_2) (Out.fin .tt [(0, .ro Kd.int y.xs), (1, .ro Kd.int y.ys)] 2)).both (Out.all Unit fun y_2 => Out.asm ((fun p x => p.xs ≠ p.ys) y y_2) (Out.fin .ff [(0, .ro Kd.int y.xs), (1, .ro Kd.int y.ys)] 2))))) := by kernel_rfl

end Sx
end Go.Proofs.Ytkadlfadmjhahaa

/-
  Rows of numbers compared: the function tells whether they are the same.
-/
namespace Go.Proofs.Ytkadlfadmjhahaa
namespace Sx
open Go
set_option linter.unusedSimpArgs false
set_option linter.unusedVariables false

theorem cfgIn_ok : cfgIn.ok := ⟨tab_met, kinds_met, mixed_met, fun g fn h => (by cases h), fun g H h => (by cases h)⟩
theorem cfgIn1_ok : cfgIn1.ok := ⟨cfgIn_ok.τ, cfgIn_ok.κ, cfgIn_ok.mixed, cfgIn_ok.fns, cfgIn_ok.hooks⟩
theorem lIn_ok : LoopOk Try.prog 0 (loopOf Try.f25 0) LIn := by
  refine loopS_ok (C := cfgIn) cfgIn_ok (f := 25) (n := 40) 2 IIn (fun p i => i ≤ p.xs.length ∧ p.xs.take i = p.ys.take i) (fun _ => 0) (fun p i => p.xs.length - i) (fun p _ => p.xs = p.ys) (fun p (_ : Unit) => IIn p p.xs.length) (fun p _ => p.xs ≠ p.ys) (fun p (_ : Unit) => RInts p) (fun p => ⟨Nat.zero_le _, rfl⟩) ?_
  intro p i ⟨hi, ht⟩
  rw [bints]
  simp only [Out.holds, Nat.zero_add, decide_eq_true_eq, decide_eq_false_iff_not, bne_iff_ne, bne_eq_false_iff_eq, ne_eq]
  have hb := p.hb
  have hl := p.hl
  have hx : ∀ (h : i < p.xs.length), p.xs.getD i (V.enc Kd.int).dflt = p.xs[i] := fun h => by rw [List.getD_eq_getElem?_getD, List.getElem?_eq_getElem h]; rfl
  have hy : ∀ (h : i < p.ys.length), p.ys.getD i (V.enc Kd.int).dflt = p.ys[i] := fun h => by rw [List.getD_eq_getElem?_getD, List.getElem?_eq_getElem h]; rfl
  refine ⟨fun h => ⟨by omega, by omega, by omega, by omega, fun h2 => ⟨(), [], ?_, ?_⟩, fun h2 => ⟨i + 1, [], ?_, ⟨by omega, ?_⟩, by omega⟩⟩, fun h => ⟨trivial, (), [], ?_, ?_⟩⟩
  · exact ⟨⟨AV.sub_same _, trivial⟩, ⟨.same _, .same _, trivial⟩, rfl, tl_ok rfl, ⟨.inr rfl, .inr rfl, trivial⟩, ⟨Nat.le_of_ble_eq_true rfl, rfl⟩⟩
  · intro hxy
    exact h2 (by rw [hxy])
  · exact ⟨⟨AV.sub_same _, AV.sub_same _, AV.sub_int (wrap_nat (by omega)), trivial⟩, ⟨.same _, .same _, trivial⟩, rfl, tl_ok rfl, ⟨.inr rfl, .inr rfl, trivial⟩, ⟨Nat.le_of_ble_eq_true rfl, rfl⟩⟩
  · have h1 : i < p.xs.length := by omega
    have h3 : i < p.ys.length := by omega
    rw [List.take_succ_eq_append_getElem h1, List.take_succ_eq_append_getElem h3, ht, ← hx h1, ← hy h3]
    exact congrArg (fun z => List.take i p.ys ++ [z]) h2
  · exact ⟨⟨AV.sub_same _, AV.sub_same _, AV.sub_int (by omega), trivial⟩, ⟨.same _, .same _, trivial⟩, rfl, tl_ok rfl, ⟨.inr rfl, .inr rfl, trivial⟩, ⟨Nat.le_of_ble_eq_true rfl, rfl⟩⟩
  · have e1 : p.xs.take i = p.xs := List.take_of_length_le (by omega)
    have e2 : p.ys.take i = p.ys := List.take_of_length_le (by omega)
    rw [← e1, ht, e2]
def runInts : RunFree V := fun ar K => match ar with
  | [.rows .int xs c, .rows .int ys d] => .need (xs.length ≤ 1099511627776) (K (.bool (decide (xs = ys))) [])
  | _ => .bad 500
theorem hInts : HookOk Try.prog 25 (hookFree [.rows Kd.int, .rows Kd.int] runInts) := by
  refine free_hook (C := cfgIn1) cfgIn1_ok (n := 40) (fn := Try.f25) ⟨by kernel_rfl, by kernel_rfl⟩ (by kernel_rfl) ?_
  intro M ar K0 H
  unfold runInts at H
  split at H
  · rename_i xs c ys d
    obtain ⟨hb, H⟩ := H
    refine ⟨show 2 ≤ _ by decide +kernel, ?_⟩
    show (runF cfgIn1 40 25 Try.f25 [.sl false 0 0 1 xs.length c, .sl false 1 0 1 ys.length d] [(0, .ro Kd.int xs), (1, .ro Kd.int ys)] 2).holds _
    rw [tints]
    refine ⟨fun h => ⟨_, _, H, endPlain ?_ rfl⟩, fun h => ?_⟩
    · refine fun r v hv => ?_
      rw [show decide (xs = ys) = false from decide_eq_false (fun e => by subst e; simp at h)]; exact hv
    · have hl : xs.length = ys.length := by
        have h' : (xs.length : Int) = (ys.length : Int) := by simpa using h
        omega
      refine ⟨lIn_ok, ⟨xs, c, ys, d, hl, hb⟩, [], ⟨Nat.le_refl _, ?_⟩, fun _ he => ⟨_, _, H, endPlain ?_ rfl⟩, fun _ he => ⟨_, _, H, endPlain ?_ rfl⟩⟩
      · exact ⟨⟨AV.sub_same _, AV.sub_same _, AV.sub_lit', trivial⟩, ⟨.same _, .same _, trivial⟩, rfl, tl_ok rfl, ⟨.inr rfl, .inr rfl, trivial⟩, ⟨Nat.le_of_ble_eq_true rfl, rfl⟩⟩
      · rw [show decide (xs = ys) = true from decide_eq_true he]; exact fun _ _ h => h
      · rw [show decide (xs = ys) = false from decide_eq_false he]; exact fun _ _ h => h
  · exact H.elim

end Sx
end Go.Proofs.Ytkadlfadmjhahaa

/-
  The document on places: the runs of the machine.
-/
namespace Go.Proofs.Ytkadlfadmjhahaa
namespace Sx
open Go
set_option maxRecDepth 100000
set_option linter.unusedVariables false

noncomputable def cfgR0 : Cfg Try.prog V := ⟨tab, kinds, fun _ => none, fun _ => none, fun _ _ => none⟩
def RTI (h0 : Int) : St V := ⟨[(0, .int .u64 h0), (5, .int .i64 0), (6, .int .i64 0)], [], 2, 26, TQ⟩
def RTL : LoopS V := trimLoop (trimSt [0, 5, 6] []) (loopH 2 (fun q : Int => RTI q) (fun _ (_ : Unit) => True) (fun q _ => RTI q))
noncomputable def cfgR1 : Cfg Try.prog V := ⟨tab, kinds, fun _ => none, fun _ => none, fun f id => match f, id with | 67, 0 => some RTL | _, _ => none⟩
def runRTurn : RunFree V := fun ar K => match ar with
  | [.int .u64 h, .int .i64 b] => .need (b = 0) (K (.int .u64 h) [])
  | _ => .bad 500
def runRIndex : RunFree V := fun ar K => match ar with
  | [.int .u64 h, .int .i64 row, .int .i64 size] => .need (row = 0 ∧ 0 ≤ h ∧ h < 18446744073709551616 ∧ 1 ≤ size ∧ size ≤ 1000000) (K (.int .i64 (idxF h 0 size)) [])
  | _ => .bad 500
noncomputable def cfgR2 : Cfg Try.prog V := ⟨tab, kinds, fun _ => none, fun g => match g with | 67 => some (hookFree [.int .u64, .int .i64] runRTurn) | _ => none, fun _ _ => none⟩
theorem trtb (h0 : Int) : runCode cfgR0 60 67 (loopOf Try.f67 0) (RTI h0) (stopT (trimSt [0, 5, 6] [])) = Out.ite (decide ((0 : Int) < (0 : Int))) (Out.need ((0 : Int) ≤ (63 : Int)) (Out.stop EX.nx {env := [((0 : Nat), .int IntKind.u64 (IntKind.u64.wrap (IntKind.u64.wrap (h0 * (2 : Int)) + h0.fdiv (9223372036854775808 : Int)))), ((5 : Nat), .int .i64 (0 : Int)), ((6 : Nat), .int .i64 (1 : Int))], heap := [], nx := (2 : Nat), nt := (26 : Nat), tl := [(0 : Nat), (1 : Nat), (2 : Nat), (3 : Nat), (4 : Nat), (5 : Nat), (6 : Nat), (7 : Nat), (8 : Nat), (9 : Nat), (10 : Nat), (11 : Nat), (12 : Nat), (13 : Nat), (14 : Nat), (15 : Nat), (16 : Nat)] : St V })) (Out.stop (EX.ex (0 : Nat)) {env := [((0 : Nat), .int IntKind.u64 h0), ((5 : Nat), .int .i64 (0 : Int)), ((6 : Nat), .int .i64 (0 : Int))], heap := [], nx := (2 : Nat), nt := (26 : Nat), tl := [(0 : Nat), (1 : Nat), (2 : Nat), (3 : Nat), (4 : Nat), (5 : Nat), (6 : Nat), (7 : Nat), (8 : Nat), (9 : Nat), (10 : Nat), (11 : Nat), (12 : Nat), (13 : Nat), (14 : Nat), (15 : Nat), (16 : Nat)] : St V }) := by kernel_rfl

theorem trturn (h b : Int) : runF cfgR1 60 67 Try.f67 [.int .u64 h, .int .i64 b] [] 2 = Out.ite (decide (b.tmod (64 : Int) < (0 : Int))) (Out.need (LoopFor Try.prog (67 : Nat) (0 : Nat) (loopOf Try.f67 (0 : Nat)) RTL) (Out.ex (Int → Prop) fun y => Out.need ((2 : Nat) ≤ (2 : Nat) ∧ SImp (2 : Nat) {env := [((0 : Nat), .int IntKind.u64 h), ((5 : Nat), .int .i64 (IntKind.i64.wrap (b.tmod (64 : Int) + (64 : Int)))), ((6 : Nat), .lit .i64 (0 : Int))], heap := [], nx := (2 : Nat), nt := (26 : Nat), tl := [] : St V } (fun q => RTI q) y) (Out.all Int fun y_1 => Out.asm (y y_1) (Out.all Unit fun y => Out.asm ((fun x x_1 => True) y_1 y) (Out.fin (.int IntKind.u64 y_1) [] (2 : Nat)))))) (Out.need (LoopFor Try.prog (67 : Nat) (0 : Nat) (loopOf Try.f67 (0 : Nat)) RTL) (Out.ex (Int → Prop) fun y => Out.need ((2 : Nat) ≤ (2 : Nat) ∧ SImp (2 : Nat) {env := [((0 : Nat), .int IntKind.u64 h), ((5 : Nat), .int .i64 (b.tmod (64 : Int))), ((6 : Nat), .lit .i64 (0 : Int))], heap := [], nx := (2 : Nat), nt := (26 : Nat), tl := [] : St V } (fun q => RTI q) y) (Out.all Int fun y_1 => Out.asm (y y_1) (Out.all Unit fun y => Out.asm ((fun x x_1 => True) y_1 y) (Out.fin (.int IntKind.u64 y_1) [] (2 : Nat)))))) := by kernel_rfl

theorem trmix (s k : Int) : runF cfgR0 60 61 Try.f61 [.int .i64 s, .int .i64 k] [] 2 = Out.need ((0 : Int) ≤ (30 : Int)) (Out.need ((0 : Int) ≤ (27 : Int)) (Out.need ((0 : Int) ≤ (31 : Int)) (Out.fin (.int IntKind.u64 (bitsOp BinOp.xor IntKind.u64 (IntKind.u64.wrap (bitsOp BinOp.xor IntKind.u64 (IntKind.u64.wrap (bitsOp BinOp.xor IntKind.u64 (bitsOp BinOp.xor IntKind.u64 (IntKind.u64.wrap k) (IntKind.u64.wrap (IntKind.u64.wrap s * (11400714819323198485 : Int)))) ((bitsOp BinOp.xor IntKind.u64 (IntKind.u64.wrap k) (IntKind.u64.wrap (IntKind.u64.wrap s * (11400714819323198485 : Int)))).fdiv (1073741824 : Int)) * (13787848793156543929 : Int))) ((IntKind.u64.wrap (bitsOp BinOp.xor IntKind.u64 (bitsOp BinOp.xor IntKind.u64 (IntKind.u64.wrap k) (IntKind.u64.wrap (IntKind.u64.wrap s * (11400714819323198485 : Int)))) ((bitsOp BinOp.xor IntKind.u64 (IntKind.u64.wrap k) (IntKind.u64.wrap (IntKind.u64.wrap s * (11400714819323198485 : Int)))).fdiv (1073741824 : Int)) * (13787848793156543929 : Int))).fdiv (134217728 : Int)) * (10723151780598845931 : Int))) ((IntKind.u64.wrap (bitsOp BinOp.xor IntKind.u64 (IntKind.u64.wrap (bitsOp BinOp.xor IntKind.u64 (bitsOp BinOp.xor IntKind.u64 (IntKind.u64.wrap k) (IntKind.u64.wrap (IntKind.u64.wrap s * (11400714819323198485 : Int)))) ((bitsOp BinOp.xor IntKind.u64 (IntKind.u64.wrap k) (IntKind.u64.wrap (IntKind.u64.wrap s * (11400714819323198485 : Int)))).fdiv (1073741824 : Int)) * (13787848793156543929 : Int))) ((IntKind.u64.wrap (bitsOp BinOp.xor IntKind.u64 (bitsOp BinOp.xor IntKind.u64 (IntKind.u64.wrap k) (IntKind.u64.wrap (IntKind.u64.wrap s * (11400714819323198485 : Int)))) ((bitsOp BinOp.xor IntKind.u64 (IntKind.u64.wrap k) (IntKind.u64.wrap (IntKind.u64.wrap s * (11400714819323198485 : Int)))).fdiv (1073741824 : Int)) * (13787848793156543929 : Int))).fdiv (134217728 : Int)) * (10723151780598845931 : Int))).fdiv (2147483648 : Int)))) [] (2 : Nat)))) := by kernel_rfl

theorem trindex (h row size : Int) : runF cfgR2 60 60 Try.f60 [.int .u64 h, .int .i64 row, .int .i64 size] [] 3 = Out.ite (decide (size < (1 : Int))) (Out.fin (.lit .i64 (0 : Int)) [] (3 : Nat)) (Out.need (IntKind.i64.wrap ((16 : Int) * row) = (0 : Int)) (Out.need (IntKind.u64.wrap size ≠ (0 : Int)) (Out.fin (.int .i64 (IntKind.i64.wrap (h.tmod (IntKind.u64.wrap size)))) [] (3 : Nat)))) := by kernel_rfl

end Sx
end Go.Proofs.Ytkadlfadmjhahaa

/-
  The document on places: its words and places are the program's.
-/
namespace Go.Proofs.Ytkadlfadmjhahaa
namespace Sx
open Go
set_option linter.unusedSimpArgs false
set_option linter.unusedVariables false

theorem cfgR0_ok : cfgR0.ok := ⟨tab_met, kinds_met, mixed_met, fun g fn h => (by cases h), fun g H h => (by cases h)⟩
theorem cfgR1_ok : cfgR1.ok := ⟨tab_met, kinds_met, mixed_met, fun g fn h => (by cases h), fun g H h => (by cases h)⟩
theorem rtl_ok : LoopOk Try.prog 0 (loopOf Try.f67 0) RTL := by
  refine trimLoop_ok (trim_ok _ _) (loopTH_ok (C := cfgR0) cfgR0_ok (f := 67) (n := 60) (trim_ok [0, 5, 6] []) 2 (fun (q : Int) (_ : Unit) => RTI q) (fun _ _ => True) (fun _ => ()) (fun _ _ => 0) (fun _ (_ : Unit) => True) (fun q _ => RTI q) (fun _ => trivial) ?_)
  intro q i h
  rw [trtb]
  exact ⟨fun hh => absurd hh (by decide), fun _ => ⟨rfl, SImp.of_wk (ren := []) () (by (refine ⟨?_, ?_, rfl, tl_ok rfl, ?_, ⟨Nat.le_of_ble_eq_true rfl, rfl⟩⟩ <;> (repeat' first | with_reducible exact trivial | exact AV.sub_same _ | exact .same _ | exact .inr rfl | exact .inl (in_ok rfl) | exact AV.sub_lit' | exact AV.sub_nilS | exact .none _ _ | exact trivial | refine ⟨?_, ?_⟩))) trivial⟩⟩
theorem hRTurn : HookOk Try.prog 67 (hookFree [.int .u64, .int .i64] runRTurn) := by
  refine free_hook (C := cfgR1) cfgR1_ok (n := 60) (fn := Try.f67) ⟨by kernel_rfl, by kernel_rfl⟩ (by kernel_rfl) ?_
  intro M ar K0 H
  unfold runRTurn at H
  split at H
  · rename_i h b
    obtain ⟨rfl, H⟩ := H
    refine ⟨show 2 ≤ _ by decide +kernel, ?_⟩
    show (runF cfgR1 60 67 Try.f67 [.int .u64 h, .int .i64 0] [] 2).holds _
    rw [trturn]
    refine ⟨fun hh => absurd hh (by decide), fun _ => ⟨rtl_ok, fun q => q = h, ⟨Nat.le_refl _, SImp.of_wk (ren := []) h (by (refine ⟨?_, ?_, rfl, tl_ok rfl, ?_, ⟨Nat.le_of_ble_eq_true rfl, rfl⟩⟩ <;> (repeat' first | with_reducible exact trivial | (exact AV.sub_int rfl) | exact AV.sub_same _ | exact .same _ | exact .inr rfl | exact .inl (in_ok rfl) | exact AV.sub_lit' | exact AV.sub_nilS | exact .none _ _ | exact trivial | refine ⟨?_, ?_⟩))) rfl⟩, ?_⟩⟩
    rintro _ rfl _ _
    exact ⟨_, _, H, endPlain (AV.sub_same _) rfl⟩
  · exact H.elim
theorem hRMix : HookOk Try.prog 61 (hookFree [.int .i64, .int .i64] runMix) := by
  refine free_hook (C := cfgR0) cfgR0_ok (n := 60) (fn := Try.f61) ⟨by kernel_rfl, by kernel_rfl⟩ (by kernel_rfl) ?_
  intro M ar K0 H
  unfold runMix at H
  split at H
  · rename_i s k
    refine ⟨show 2 ≤ _ by decide +kernel, ?_⟩
    show (runF cfgR0 60 61 Try.f61 [.int .i64 s, .int .i64 k] [] 2).holds _
    rw [trmix]
    exact ⟨by decide, by decide, by decide, _, _, H, endPlain (AV.sub_int rfl) rfl⟩
  · exact H.elim
theorem wrapU_lit (x : Int) : IntKind.wrap .u64 x = x % 18446744073709551616 := by
  simp [IntKind.wrap, IntKind.bits, IntKind.signed]
theorem turn0 {h : Int} (h0 : 0 ≤ h) (h1 : h < 18446744073709551616) : turnF h 0 = h := by
  obtain ⟨m, rfl⟩ : ∃ m : Nat, h = (m : Int) := ⟨h.toNat, by omega⟩
  have hb : turnBy 0 = 0 := by decide
  unfold turnF
  rw [hb, show min (0 : Int).toNat 64 = 0 from by decide, show min (IntKind.wrap .u64 (64 - 0)).toNat 64 = 64 from by decide]
  have eZ : (2 : Int) ^ 64 = 18446744073709551616 := by decide
  rw [eZ, wrapU_lit, Int.fdiv_eq_ediv_of_nonneg _ (by decide)]
  have a1 : (m : Int) * 2 ^ 0 % 18446744073709551616 = (m : Int) := by simp only [Int.pow_zero]; omega
  have a2 : (m : Int) / 18446744073709551616 = 0 := by omega
  rw [a1, a2]
  unfold bitsOp
  dsimp only
  have b1 : (BitVec.ofInt 64 (m : Int)).toNat = m := by rw [BitVec.toNat_ofInt]; omega
  have b3 : (BitVec.ofInt 64 (m : Int) ||| BitVec.ofInt 64 0).toNat = m := by
    rw [BitVec.toNat_or, b1]; simp
  show IntKind.wrap .u64 ((BitVec.ofInt 64 (m : Int) ||| BitVec.ofInt 64 0).toNat : Int) = (m : Int)
  rw [b3, wrapU_lit]
  omega
theorem mixF_range (s k : Int) : 0 ≤ mixF s k ∧ mixF s k < 18446744073709551616 := by
  have h : ∀ a b : Int, 0 ≤ xorU a b ∧ xorU a b < 18446744073709551616 := fun a b => by
    unfold xorU bitsOp
    dsimp only
    rw [wrapU_lit]; omega
  unfold mixF
  exact h _ _
theorem hRIndex : HookOk Try.prog 60 (hookFree [.int .u64, .int .i64, .int .i64] runRIndex) := by
  refine free_hook (C := cfgR2) ⟨tab_met, kinds_met, mixed_met, fun g fn h => (by cases h), fun g H h => ?_⟩ (n := 60) (fn := Try.f60) ⟨by kernel_rfl, by kernel_rfl⟩ (by kernel_rfl) ?_
  · unfold cfgR2 at h
    dsimp only at h
    split at h
    · cases h; exact hRTurn
    · cases h
  intro M ar K0 H
  unfold runRIndex at H
  split at H
  · rename_i h row size
    obtain ⟨⟨rfl, h0, h1, h2, h3⟩, H⟩ := H
    refine ⟨show 3 ≤ _ by decide +kernel, ?_⟩
    show (runF cfgR2 60 60 Try.f60 [.int .u64 h, .int .i64 0, .int .i64 size] [] 3).holds _
    rw [trindex]
    simp only [Out.holds, decide_eq_true_eq, decide_eq_false_iff_not, beq_iff_eq, beq_eq_false_iff_ne, bne_iff_ne, ne_eq, bne_eq_false_iff_eq, Bool.true_and, Bool.and_true, Bool.not_eq_true', Bool.not_eq_false', Bool.and_eq_true, Bool.or_eq_true, Bool.and_eq_false_imp, true_implies, true_and, Bool.not_true, Bool.not_false, Bool.false_eq_true, Bool.true_eq_false, false_implies, and_true, beq_self_eq_true, Decidable.not_not, not_true_eq_false, not_false_eq_true]
    have hs : IntKind.wrap .u64 size = size := wrapU_low (by omega) (by omega)
    refine ⟨fun hh => absurd hh (by omega), fun _ => ⟨by decide, by rw [hs]; omega, _, _, H, endPlain (AV.sub_int ?_) rfl⟩⟩
    unfold idxF
    rw [if_neg (by omega), turn0 h0 h1, hs]
  · exact H.elim

end Sx
end Go.Proofs.Ytkadlfadmjhahaa

/-
  The document's table as it lies in a pool: rows of rows of entries.
-/
namespace Go.Proofs.Ytkadlfadmjhahaa
namespace Sx
open Go
set_option linter.unusedSimpArgs false
set_option linter.unusedVariables false

abbrev Rwp := Option (Nat × Nat) × Nat × Nat
abbrev w0 : Rwp := (none, 0, 0)
def rwd (w : Rwp) : PD := .sl w.1 w.2.1 w.2.2
def rav (w : Rwp) : AV := .rs w.1 w.2.1 w.2.2
def flatE (e : Ent) : List PD := [.int .i64 e.key, .int .i64 e.value, .int .i64 e.weight, .int .i64 e.node]
def flats (l : List Ent) : List PD := l.flatMap flatE
theorem flats_len (l : List Ent) : (flats l).length = l.length * 4 := by
  unfold flats
  induction l with
  | nil => rfl
  | cons a l ih => rw [List.flatMap_cons, List.length_append, ih]; simp [flatE]; omega
theorem flats_app (a b : List Ent) : flats (a ++ b) = flats a ++ flats b := by unfold flats; rw [List.flatMap_append]
theorem flats_take (l : List Ent) (i : Nat) : (flats l).take (i * 4) = flats (l.take i) := by
  induction l generalizing i with
  | nil => simp [flats]
  | cons a l ih =>
    cases i with
    | zero => simp [flats]
    | succ i =>
      have : flats (a :: l) = flatE a ++ flats l := by unfold flats; rw [List.flatMap_cons]
      rw [this, List.take_append, show (flatE a).length = 4 from rfl, List.take_of_length_le (by simp [flatE]; omega), show (i + 1) * 4 - 4 = i * 4 by omega, ih]
      show _ = flats (a :: l.take i)
      unfold flats; rw [List.flatMap_cons]
theorem flats_drop (l : List Ent) (i : Nat) : (flats l).drop (i * 4) = flats (l.drop i) := by
  induction l generalizing i with
  | nil => simp [flats]
  | cons a l ih =>
    cases i with
    | zero => simp [flats]
    | succ i =>
      have : flats (a :: l) = flatE a ++ flats l := by unfold flats; rw [List.flatMap_cons]
      rw [this, List.drop_append, show (flatE a).length = 4 from rfl, List.drop_of_length_le (by simp [flatE]; omega), show (i + 1) * 4 - 4 = i * 4 by omega, ih, List.nil_append]
      rfl

/-- A row lies there. -/
structure RowP (p : Pool) (w : Rwp) (l : List Ent) : Prop where
  len : w.2.1 = l.length
  le : l.length ≤ w.2.2
  ex : w.2.2 = 0 ∨ ∃ n cs, w.1 = some (n, 0) ∧ p n = some (29, cs) ∧ cs.length = w.2.2 * 4 ∧ cs.take (l.length * 4) = flats l
theorem RowP.nil (p : Pool) : RowP p w0 [] := ⟨rfl, Nat.le_refl _, .inl rfl⟩
/-- Its block. -/
def own (w : Rwp) : Option Nat := if w.2.2 = 0 then none else w.1.map Prod.fst
theorem RowP.same {p q : Pool} {w : Rwp} {l : List Ent} (h : RowP p w l) (k : ∀ n, own w = some n → q n = p n) : RowP q w l := by
  refine ⟨h.len, h.le, ?_⟩
  rcases h.ex with h0 | ⟨n, cs, h1, h2, h3, h4⟩
  · exact .inl h0
  · by_cases hc : w.2.2 = 0
    · exact .inl hc
    · exact .inr ⟨n, cs, h1, by rw [k n (by unfold own; rw [if_neg hc, h1]; rfl)]; exact h2, h3, h4⟩
/-- An entry of it, and its parts. -/
theorem RowP.ent {p : Pool} {w : Rwp} {l : List Ent} (h : RowP p w l) {i : Nat} (hi : i < l.length) : w.1.isSome = true ∧ p.at (shiftA w.1 (i * 4)) (flatE l[i]) := by
  rcases h.ex with h0 | ⟨n, cs, h1, h2, h3, h4⟩
  · have := h.le; omega
  · have hle := h.le
    refine ⟨by rw [h1]; rfl, ⟨n, i * 4, 29, cs, by rw [h1]; simp, h2, by rw [h3]; simp [flatE]; omega, ?_⟩⟩
    have e : (cs.drop (i * 4)).take 4 = ((cs.take (l.length * 4)).drop (i * 4)).take 4 := by
      rw [List.drop_take, List.take_take, show min 4 (l.length * 4 - i * 4) = 4 by omega]
    show (cs.drop (i * 4)).take 4 = _
    rw [e, h4, flats_drop, show (4 : Nat) = 1 * 4 from rfl, flats_take, List.drop_eq_getElem_cons hi]
    simp only [flats, List.take_succ_cons, List.take_zero, List.flatMap_cons, List.flatMap_nil, List.append_nil]
theorem at_sub {p : Pool} {o : Option (Nat × Nat)} {ds : List PD} (h : p.at o ds) (c n : Nat) (hc : c + n ≤ ds.length) : p.at (shiftA o c) ((ds.drop c).take n) := by
  obtain ⟨b, off, T, cs, rfl, h1, h2, h3⟩ := h
  have hl : ((ds.drop c).take n).length = n := by rw [List.length_take, List.length_drop]; omega
  refine ⟨b, off + c, T, cs, rfl, h1, by rw [hl]; omega, ?_⟩
  rw [hl, ← h3, List.drop_take, List.take_take, List.drop_drop, show min n (ds.length - c) = n by omega]

inductive RLab where
  | no | self | b | o | rb (i : Nat) | ro (i : Nat)
  deriving DecidableEq
structure RL where
  bb : Nat
  B : List Rwp
  ob : Nat
  O : List Rwp
  lab : Nat → RLab
def osl (L : RL) : PD := if L.O = [] then .sl none 0 0 else .sl (some (L.ob, 0)) L.O.length L.O.length
/-- The document's table lies there. -/
structure RAt (p : Pool) (b : Nat) (L : RL) (t : TM) : Prop where
  self : p b = some (43, [.sl (some (L.bb, 0)) L.B.length L.B.length, osl L, .int .i64 (t.moved : Int), .int .i64 t.seed])
  brow : p L.bb = some (34, L.B.map rwd)
  orow : L.O ≠ [] → p L.ob = some (34, L.O.map rwd)
  bl : L.B.length = t.B.length
  ol : L.O.length = t.O.length
  bs : ∀ i, i < t.B.length → RowP p (L.B.getD i w0) (t.B.getD i [])
  os : ∀ i, t.moved ≤ i → i < t.O.length → RowP p (L.O.getD i w0) (t.O.getD i [])
  l1 : L.lab b = .self
  l2 : L.lab L.bb = .b
  l3 : L.O ≠ [] → L.lab L.ob = .o
  l4 : ∀ i, i < t.B.length → ∀ n, own (L.B.getD i w0) = some n → L.lab n = .rb i
  l5 : ∀ i, t.moved ≤ i → i < t.O.length → ∀ n, own (L.O.getD i w0) = some n → L.lab n = .ro i
  l6 : ∀ n, L.lab n ≠ .no → p n ≠ none
theorem RAt.f {p : Pool} {b : Nat} {L : RL} {t : TM} (h : RAt p b L t) : p.at (some (b, 0)) [.sl (some (L.bb, 0)) L.B.length L.B.length, osl L, .int .i64 (t.moved : Int), .int .i64 t.seed] :=
  ⟨b, 0, 43, _, rfl, h.self, by simp, rfl⟩
theorem RAt.fB {p : Pool} {b : Nat} {L : RL} {t : TM} (h : RAt p b L t) : p.at (shiftA (some (b, 0)) 0) [.sl (some (L.bb, 0)) L.B.length L.B.length] := at_sub h.f 0 1 (by simp)
theorem RAt.fO {p : Pool} {b : Nat} {L : RL} {t : TM} (h : RAt p b L t) : p.at (shiftA (some (b, 0)) 1) [osl L] := at_sub h.f 1 1 (by simp)
theorem RAt.fM {p : Pool} {b : Nat} {L : RL} {t : TM} (h : RAt p b L t) : p.at (shiftA (some (b, 0)) 2) [.int .i64 (t.moved : Int)] := at_sub h.f 2 1 (by simp)
theorem RAt.fS {p : Pool} {b : Nat} {L : RL} {t : TM} (h : RAt p b L t) : p.at (shiftA (some (b, 0)) 3) [.int .i64 t.seed] := at_sub h.f 3 1 (by simp)
theorem row_at {p : Pool} {bb : Nat} {R : List Rwp} (h : p bb = some (34, R.map rwd)) {i : Nat} (hi : i < R.length) : p.at (shiftA (some (bb, 0)) (i * 1)) [rwd (R.getD i w0)] := by
  refine ⟨bb, i * 1, 34, R.map rwd, by simp, h, by simp; omega, ?_⟩
  rw [Nat.mul_one, List.drop_eq_getElem_cons (by simpa using hi)]
  simp [List.getD_eq_getElem?_getD, hi]
theorem osl_has {L : RL} (h : L.O ≠ []) : osl L = .sl (some (L.ob, 0)) L.O.length L.O.length := by unfold osl; rw [if_neg h]

end Sx
end Go.Proofs.Ytkadlfadmjhahaa

/-
  The document on tables, small functions: the runs of the machine.
-/
namespace Go.Proofs.Ytkadlfadmjhahaa
namespace Sx
open Go
set_option maxRecDepth 100000
set_option linter.unusedVariables false

noncomputable def hooksR1 : Nat → Option (HookS V) := fun g => match g with
  | 61 => some (hookFree [.int .i64, .int .i64] runMix)
  | 60 => some (hookFree [.int .u64, .int .i64, .int .i64] runRIndex)
  | _ => none
noncomputable def cfgRA : Cfg Try.prog V := ⟨tab, kinds, fun _ => none, hooksR1, fun _ _ => none⟩
noncomputable def cfgRB : Cfg Try.prog V := ⟨tab, kinds, fun g => match g with | 24 => some Try.f24 | 47 => some Try.f47 | 48 => some Try.f48 | _ => none, hooksR1, fun _ _ => none⟩
theorem rtleft (p : Pool) (b : Nat) : runF cfgRA 60 24 Try.f24 [.rp (some (b, 0))] [(0, .pool p)] 2 = Out.need ((some (b, (0 : Nat))).isSome = true) (Out.need ((some (b, (0 : Nat))).isSome = true) (Out.ex (Option (Nat × Nat)) fun y => Out.ex Nat fun y_1 => Out.ex Nat fun y_2 => Out.need (p.at (shiftA (some (b, (0 : Nat))) (1 : Nat)) [PD.sl y y_1 y_2]) (Out.need ((some (b, (0 : Nat))).isSome = true) (Out.need ((some (b, (0 : Nat))).isSome = true) (Out.ex Int fun y => Out.need (p.at (shiftA (some (b, (0 : Nat))) (2 : Nat)) [PD.int .i64 y]) (Out.fin (.int .i64 (IntKind.i64.wrap ((↑y_1 : Int) - y))) [((0 : Nat), Blk.pool p)] (2 : Nat))))))) := by kernel_rfl

theorem rtat (p : Pool) (b : Nat) (k n : Int) : runF cfgRA 60 47 Try.f47 [.rp (some (b, 0)), .int .i64 k, .int .i64 n] [(0, .pool p)] 4 = Out.need ((some (b, (0 : Nat))).isSome = true) (Out.need ((some (b, (0 : Nat))).isSome = true) (Out.ex Int fun y => Out.need (p.at (shiftA (some (b, (0 : Nat))) (3 : Nat)) [PD.int .i64 y]) (Out.need ((0 : Int) = (0 : Int) ∧ (0 : Int) ≤ mixF y k ∧ mixF y k < (18446744073709551616 : Int) ∧ (1 : Int) ≤ n ∧ n ≤ (1000000 : Int)) (Out.fin (.int .i64 (idxF (mixF y k) (0 : Int) n)) [((0 : Nat), Blk.pool p)] (4 : Nat))))) := by kernel_rfl

theorem rtold (p : Pool) (b : Nat) (k : Int) : runF cfgRB 60 48 Try.f48 [.rp (some (b, 0)), .int .i64 k] [(0, .pool p)] 3 = Out.need ((some (b, (0 : Nat))).isSome = true) (Out.need ((some (b, (0 : Nat))).isSome = true) (Out.ex (Option (Nat × Nat)) fun y => Out.ex Nat fun y_1 => Out.ex Nat fun y_2 => Out.need (p.at (shiftA (some (b, (0 : Nat))) (1 : Nat)) [PD.sl y y_1 y_2]) (Out.need ((some (b, (0 : Nat))).isSome = true) (Out.need ((some (b, (0 : Nat))).isSome = true) (Out.ex Int fun y => Out.need (p.at (shiftA (some (b, (0 : Nat))) (2 : Nat)) [PD.int .i64 y]) (Out.ite (IntKind.i64.wrap ((↑y_1 : Int) - y) == (0 : Int)) (Out.fin (.tup [.lit .i64 (0 : Int), .ff]) [((0 : Nat), Blk.pool p)] (3 : Nat)) (Out.need ((some (b, (0 : Nat))).isSome = true) (Out.need ((some (b, (0 : Nat))).isSome = true) (Out.ex (Option (Nat × Nat)) fun y => Out.ex Nat fun y_3 => Out.ex Nat fun y_4 => Out.need (p.at (shiftA (some (b, (0 : Nat))) (1 : Nat)) [PD.sl y y_3 y_4]) (Out.need ((some (b, (0 : Nat))).isSome = true) (Out.need ((some (b, (0 : Nat))).isSome = true) (Out.ex Int fun y => Out.need (p.at (shiftA (some (b, (0 : Nat))) (3 : Nat)) [PD.int .i64 y]) (Out.need ((0 : Int) = (0 : Int) ∧ (0 : Int) ≤ mixF y k ∧ mixF y k < (18446744073709551616 : Int) ∧ (1 : Int) ≤ (↑y_3 : Int) ∧ (↑y_3 : Int) ≤ (1000000 : Int)) (Out.need ((some (b, (0 : Nat))).isSome = true) (Out.need ((some (b, (0 : Nat))).isSome = true) (Out.ex Int fun y_5 => Out.need (p.at (shiftA (some (b, (0 : Nat))) (2 : Nat)) [PD.int .i64 y_5]) (Out.fin (.tup [.int .i64 (idxF (mixF y k) (0 : Int) (↑y_3 : Int)), .bool (decide (idxF (mixF y k) (0 : Int) (↑y_3 : Int) ≥ y_5))]) [((0 : Nat), Blk.pool p)] (3 : Nat)))))))))))))))))) := by kernel_rfl

end Sx
end Go.Proofs.Ytkadlfadmjhahaa

/-
  The document on tables: how many are left, and where a key is.
-/
namespace Go.Proofs.Ytkadlfadmjhahaa
namespace Sx
open Go
set_option linter.unusedSimpArgs false
set_option linter.unusedVariables false

theorem hooksR1_ok : ∀ g H, hooksR1 g = some H → HookOk Try.prog g H := by
  intro g H h
  unfold hooksR1 at h
  split at h
  · cases h; exact hRMix
  · cases h; exact hRIndex
  · cases h
theorem cfgRA_ok : cfgRA.ok := ⟨tab_met, kinds_met, mixed_met, fun g fn h => (by cases h), hooksR1_ok⟩
theorem cfgRB_ok : cfgRB.ok := by
  refine ⟨tab_met, kinds_met, mixed_met, fun g fn h => ?_, hooksR1_ok⟩
  unfold cfgRB at h
  simp only at h
  split at h <;> cases h <;> exact ⟨by kernel_rfl, by kernel_rfl⟩

abbrev RZ := Nat × RL × TM
structure RIn (p : Pool) (z : RZ) (o : Option (Nat × Nat)) : Prop where
  o : o = some (z.1, 0)
  at_ : RAt p z.1 z.2.1 z.2.2
  core : z.2.2.Core
theorem osl_all (L : RL) : ∃ o, osl L = .sl o L.O.length L.O.length ∧ (L.O ≠ [] → o = some (L.ob, 0)) := by
  unfold osl
  by_cases h : L.O = []
  · rw [if_pos h, h]; exact ⟨none, rfl, fun k => absurd rfl k⟩
  · rw [if_neg h]; exact ⟨_, rfl, fun _ => rfl⟩

def runRLeft : RunPR V := fun p ar K => match ar with
  | [.val (.rp o)] => .ex RZ fun z => .need (RIn p z o) (K (.int .i64 (z.2.2.left : Int)) [])
  | _ => .bad 500
theorem cRLeft : PoolR Try.prog 24 runRLeft := by
  refine pool_callsR (C := cfgRA) cfgRA_ok (n := 60) (fn := Try.f24) ⟨by kernel_rfl, by kernel_rfl⟩ (by kernel_rfl) ?_
  intro M p ar K0 H
  unfold runRLeft at H
  split at H
  · rename_i o
    obtain ⟨⟨b, L, t⟩, ⟨ho, hA, hc⟩, H⟩ := H
    dsimp only at ho hA hc H
    subst ho
    refine ⟨show 1 ≤ _ by decide +kernel, ?_⟩
    show (runF cfgRA 60 24 Try.f24 [.rp (some (b, 0))] [(0, .pool p)] 2).holds _
    rw [rtleft]
    obtain ⟨oo, e1, _⟩ := osl_all L
    have hO := hA.fO
    rw [e1] at hO
    refine ⟨rfl, rfl, _, _, _, hO, rfl, rfl, _, hA.fM, _, _, H, endPool (AV.sub_int ?_) rfl rfl⟩
    have := hc.mv; have := hc.b3; have := hA.ol
    have e : ((t.left : Nat) : Int) = (L.O.length : Int) - (t.moved : Int) := by unfold TM.left; omega
    rw [e]; exact wrap_low (by omega) (by omega)
  · exact H.elim
def runRAt : RunPR V := fun p ar K => match ar with
  | [.val (.rp o), .int .i64 k, .int .i64 n] => .ex RZ fun z => .need (RIn p z o ∧ 1 ≤ n ∧ n ≤ 1000000) (K (.int .i64 (idxF (mixF z.2.2.seed k) 0 n)) [])
  | _ => .bad 500
theorem cRAt : PoolR Try.prog 47 runRAt := by
  refine pool_callsR (C := cfgRA) cfgRA_ok (n := 60) (fn := Try.f47) ⟨by kernel_rfl, by kernel_rfl⟩ (by kernel_rfl) ?_
  intro M p ar K0 H
  unfold runRAt at H
  split at H
  · rename_i o k n
    obtain ⟨⟨b, L, t⟩, ⟨⟨ho, hA, hc⟩, h1, h2⟩, H⟩ := H
    dsimp only at ho hA hc H
    subst ho
    refine ⟨show 3 ≤ _ by decide +kernel, ?_⟩
    show (runF cfgRA 60 47 Try.f47 [.rp (some (b, 0)), .int .i64 k, .int .i64 n] [(0, .pool p)] 4).holds _
    rw [rtat]
    obtain ⟨m1, m2⟩ := mixF_range t.seed k
    exact ⟨rfl, rfl, _, hA.fS, ⟨rfl, m1, m2, h1, h2⟩, _, _, H, endPool (AV.sub_same _) rfl rfl⟩
  · exact H.elim
def runROld : RunPR V := fun p ar K => match ar with
  | [.val (.rp o), .int .i64 k] => .ex RZ fun z => .need (RIn p z o) (.ite (z.2.2.inOld k) (K (.tup [.int .i64 (idxN z.2.2.seed k z.2.2.O.length : Int), .tt]) []) (.all Int fun j => K (.tup [.int .i64 j, .ff]) []))
  | _ => .bad 500
theorem cROld : PoolR Try.prog 48 runROld := by
  refine pool_callsR (C := cfgRB) cfgRB_ok (n := 60) (fn := Try.f48) ⟨by kernel_rfl, by kernel_rfl⟩ (by kernel_rfl) ?_
  intro M p ar K0 H
  unfold runROld at H
  split at H
  · rename_i o k
    obtain ⟨⟨b, L, t⟩, ⟨ho, hA, hc⟩, H1, H2⟩ := H
    dsimp only at ho hA hc H1 H2
    subst ho
    refine ⟨show 2 ≤ _ by decide +kernel, ?_⟩
    show (runF cfgRB 60 48 Try.f48 [.rp (some (b, 0)), .int .i64 k] [(0, .pool p)] 3).holds _
    rw [rtold]
    obtain ⟨oo, e1, _⟩ := osl_all L
    have hO := hA.fO
    rw [e1] at hO
    have hmv := hc.mv
    have hb3 := hc.b3
    have hol := hA.ol
    have hw : IntKind.wrap .i64 ((L.O.length : Int) - (t.moved : Int)) = (L.O.length : Int) - (t.moved : Int) := wrap_low (by omega) (by omega)
    refine ⟨rfl, rfl, _, _, _, hO, rfl, rfl, _, hA.fM, ?_⟩
    rw [hw]
    refine ⟨fun h0 => ?_, fun h0 => ?_⟩
    · have h0 : (L.O.length : Int) - (t.moved : Int) = 0 := eq_of_beq h0
      have hin : t.inOld k = false := by
        unfold TM.inOld
        rw [show decide (t.moved < t.O.length) = false from decide_eq_false (by omega)]; rfl
      exact ⟨_, _, H2 hin 0, endPool (AV.sub_two AV.sub_lit' (AV.sub_same _)) rfl rfl⟩
    · have h0 : ¬ (L.O.length : Int) - (t.moved : Int) = 0 := by intro e; rw [e] at h0; exact absurd h0 (by decide)
      have hlt : t.moved < t.O.length := by omega
      obtain ⟨m1, m2⟩ := mixF_range t.seed k
      have hcast := idxN_cast (seed := t.seed) (key := k) (n := t.O.length) (by omega) (by omega)
      refine ⟨rfl, rfl, _, _, _, hO, rfl, rfl, _, hA.fS, ⟨rfl, m1, m2, by omega, by omega⟩, rfl, rfl, _, hA.fM, ?_⟩
      rw [hol, ← hcast]
      by_cases hin : t.inOld k = true
      · have h1 := hin
        unfold TM.inOld at h1
        simp only [Bool.and_eq_true, decide_eq_true_eq] at h1
        refine ⟨_, _, H1 hin, endPool ?_ rfl rfl⟩
        rw [show decide ((idxN t.seed k t.O.length : Int) ≥ (t.moved : Int)) = true from decide_eq_true (by omega)]
        exact AV.sub_same _
      · have hin : t.inOld k = false := by simpa using hin
        have h1 := hin
        unfold TM.inOld at h1
        rw [show decide (t.moved < t.O.length) = true from decide_eq_true hlt, Bool.true_and, decide_eq_false_iff_not] at h1
        refine ⟨_, _, H2 hin (idxN t.seed k t.O.length : Int), endPool ?_ rfl rfl⟩
        rw [show decide ((idxN t.seed k t.O.length : Int) ≥ (t.moved : Int)) = false from decide_eq_false (by omega)]
        exact AV.sub_same _
  · exact H.elim

end Sx
end Go.Proofs.Ytkadlfadmjhahaa

/-
  The document on tables, chains: the runs of the machine.
-/
namespace Go.Proofs.Ytkadlfadmjhahaa
namespace Sx
open Go
set_option maxRecDepth 100000
set_option linter.unusedVariables false

noncomputable def hooksR2 : Nat → Option (HookS V) := fun g => match g with
  | 24 => some (hookPoolRAt 0 [.val] runRLeft)
  | 47 => some (hookPoolRAt 0 [.val, .int .i64, .int .i64] runRAt)
  | 48 => some (hookPoolRAt 0 [.val, .int .i64] runROld)
  | g => hooksR1 g
noncomputable def cfgRC : Cfg Try.prog V := ⟨tab, kinds, fun _ => none, hooksR2, fun _ _ => none⟩
def TQR : List Nat := [0, 1, 2, 3, 4, 5, 6, 7, 8, 9, 10, 11, 12, 13, 14, 15, 16]
def FI (p : Pool) (w : Rwp) (k : Int) (i : Nat) : St V := ⟨[(0, rav w), (1, .int .i64 k), (5, .int .i64 (i : Int))], [(0, .pool p)], 3, 20, TQR⟩
def FR (p : Pool) (i : Nat) : St V := ⟨[(4, .int .i64 (i : Int))], [(0, .pool p)], 3, 20, TQR⟩
structure PFi where
  p : Pool
  w : Rwp
  l : List Ent
  k : Int
  hR : RowP p w l
  hl : l.length ≤ 1000000
theorem rtchain (p : Pool) (b : Nat) (k : Int) : runF cfgRC 60 38 Try.f38 [.rp (some (b, 0)), .int .i64 k] [(0, .pool p)] 3 = Out.ex RZ fun y => Out.need (RIn p y (some (b, (0 : Nat)))) (Out.ite (y.snd.snd.inOld k) (Out.need ((some (b, (0 : Nat))).isSome = true) (Out.need ((some (b, (0 : Nat))).isSome = true) (Out.ex (Option (Nat × Nat)) fun y_1 => Out.ex Nat fun y_2 => Out.ex Nat fun y_3 => Out.need (p.at (shiftA (some (b, (0 : Nat))) (1 : Nat)) [PD.sl y_1 y_2 y_3]) (Out.need ((0 : Int) ≤ (↑(idxN y.snd.snd.seed k y.snd.snd.O.length) : Int) ∧ (↑(idxN y.snd.snd.seed k y.snd.snd.O.length) : Int) < (↑y_2 : Int) ∧ y_1.isSome = true) (Out.ex (Option (Nat × Nat)) fun y_4 => Out.ex Nat fun y_5 => Out.ex Nat fun y_6 => Out.need (p.at (shiftA y_1 ((↑(idxN y.snd.snd.seed k y.snd.snd.O.length) : Int).toNat * (1 : Nat))) [PD.sl y_4 y_5 y_6]) (Out.fin (AV.rs y_4 y_5 y_6) [((0 : Nat), Blk.pool p)] (3 : Nat))))))) (Out.all Int fun y => Out.need ((some (b, (0 : Nat))).isSome = true) (Out.need ((some (b, (0 : Nat))).isSome = true) (Out.ex (Option (Nat × Nat)) fun y => Out.ex Nat fun y_1 => Out.ex Nat fun y_2 => Out.need (p.at (shiftA (some (b, (0 : Nat))) (0 : Nat)) [PD.sl y y_1 y_2]) (Out.need ((some (b, (0 : Nat))).isSome = true) (Out.need ((some (b, (0 : Nat))).isSome = true) (Out.ex (Option (Nat × Nat)) fun y_3 => Out.ex Nat fun y_4 => Out.ex Nat fun y_5 => Out.need (p.at (shiftA (some (b, (0 : Nat))) (0 : Nat)) [PD.sl y_3 y_4 y_5]) (Out.ex RZ fun y_6 => Out.need (RIn p y_6 (some (b, (0 : Nat))) ∧ (1 : Int) ≤ (↑y_4 : Int) ∧ (↑y_4 : Int) ≤ (1000000 : Int)) (Out.need ((0 : Int) ≤ idxF (mixF y_6.snd.snd.seed k) (0 : Int) (↑y_4 : Int) ∧ idxF (mixF y_6.snd.snd.seed k) (0 : Int) (↑y_4 : Int) < (↑y_1 : Int) ∧ y.isSome = true) (Out.ex (Option (Nat × Nat)) fun y_7 => Out.ex Nat fun y_8 => Out.ex Nat fun y_9 => Out.need (p.at (shiftA y ((idxF (mixF y_6.snd.snd.seed k) (0 : Int) (↑y_4 : Int)).toNat * (1 : Nat))) [PD.sl y_7 y_8 y_9]) (Out.fin (AV.rs y_7 y_8 y_9) [((0 : Nat), Blk.pool p)] (3 : Nat)))))))))))) := by kernel_rfl

theorem rtset (p : Pool) (b : Nat) (k : Int) (o : Option (Nat × Nat)) (l c : Nat) : runF cfgRC 60 40 Try.f40 [.rp (some (b, 0)), .int .i64 k, .rs o l c] [(0, .pool p)] 4 = Out.ex RZ fun y => Out.need (RIn p y (some (b, (0 : Nat)))) (Out.ite (y.snd.snd.inOld k) (Out.need ((some (b, (0 : Nat))).isSome = true) (Out.need ((some (b, (0 : Nat))).isSome = true) (Out.ex (Option (Nat × Nat)) fun y_1 => Out.ex Nat fun y_2 => Out.ex Nat fun y_3 => Out.need (p.at (shiftA (some (b, (0 : Nat))) (1 : Nat)) [PD.sl y_1 y_2 y_3]) (Out.need ((0 : Int) ≤ (↑(idxN y.snd.snd.seed k y.snd.snd.O.length) : Int) ∧ (↑(idxN y.snd.snd.seed k y.snd.snd.O.length) : Int) < (↑y_2 : Int) ∧ y_1.isSome = true) (Out.need (p.has (shiftA y_1 ((↑(idxN y.snd.snd.seed k y.snd.snd.O.length) : Int).toNat * (1 : Nat))) (1 : Nat)) (Out.fin (.tup []) [((0 : Nat), Blk.pool (p.set (shiftA y_1 ((↑(idxN y.snd.snd.seed k y.snd.snd.O.length) : Int).toNat * (1 : Nat))) [PD.sl o l c]))] (5 : Nat))))))) (Out.all Int fun y => Out.need ((some (b, (0 : Nat))).isSome = true) (Out.need ((some (b, (0 : Nat))).isSome = true) (Out.ex (Option (Nat × Nat)) fun y => Out.ex Nat fun y_1 => Out.ex Nat fun y_2 => Out.need (p.at (shiftA (some (b, (0 : Nat))) (0 : Nat)) [PD.sl y y_1 y_2]) (Out.need ((some (b, (0 : Nat))).isSome = true) (Out.need ((some (b, (0 : Nat))).isSome = true) (Out.ex (Option (Nat × Nat)) fun y_3 => Out.ex Nat fun y_4 => Out.ex Nat fun y_5 => Out.need (p.at (shiftA (some (b, (0 : Nat))) (0 : Nat)) [PD.sl y_3 y_4 y_5]) (Out.ex RZ fun y_6 => Out.need (RIn p y_6 (some (b, (0 : Nat))) ∧ (1 : Int) ≤ (↑y_4 : Int) ∧ (↑y_4 : Int) ≤ (1000000 : Int)) (Out.need ((0 : Int) ≤ idxF (mixF y_6.snd.snd.seed k) (0 : Int) (↑y_4 : Int) ∧ idxF (mixF y_6.snd.snd.seed k) (0 : Int) (↑y_4 : Int) < (↑y_1 : Int) ∧ y.isSome = true) (Out.need (p.has (shiftA y ((idxF (mixF y_6.snd.snd.seed k) (0 : Int) (↑y_4 : Int)).toNat * (1 : Nat))) (1 : Nat)) (Out.fin (.tup []) [((0 : Nat), Blk.pool (p.set (shiftA y ((idxF (mixF y_6.snd.snd.seed k) (0 : Int) (↑y_4 : Int)).toNat * (1 : Nat))) [PD.sl o l c]))] (5 : Nat)))))))))))) := by kernel_rfl

theorem rbfind (p : Pool) (w : Rwp) (k : Int) (i : Nat) : runCode cfgRC 60 39 (loopOf Try.f39 0) (FI p w k i) Out.stop = Out.ite (decide ((↑i : Int) < (↑w.snd.1 : Int))) (Out.need ((0 : Int) ≤ (↑i : Int) ∧ (↑i : Int) < (↑w.snd.1 : Int) ∧ w.fst.isSome = true) (Out.need ((shiftA w.fst (i * (4 : Nat))).isSome = true) (Out.ex Int fun y => Out.need (p.at (shiftA (shiftA w.fst (i * (4 : Nat))) (0 : Nat)) [PD.int .i64 y]) (Out.ite (y == k) (Out.stop EX.rt {env := [((4 : Nat), .int .i64 (↑i : Int)), ((19 : Nat), .int .i64 (↑i : Int)), ((18 : Nat), .bool (y == k)), ((17 : Nat), .int .i64 k), ((16 : Nat), .int .i64 y), ((15 : Nat), AV.rp (shiftA (shiftA w.fst (i * (4 : Nat))) (0 : Nat))), ((14 : Nat), AV.rp (shiftA w.fst (i * (4 : Nat)))), ((13 : Nat), .int .i64 (↑i : Int)), ((12 : Nat), AV.rs w.fst w.snd.1 w.snd.2), ((9 : Nat), .bool (decide ((↑i : Int) < (↑w.snd.1 : Int)))), ((8 : Nat), .int .i64 (↑w.snd.1 : Int)), ((7 : Nat), AV.rs w.fst w.snd.1 w.snd.2), ((6 : Nat), .int .i64 (↑i : Int)), ((0 : Nat), AV.rs w.fst w.snd.1 w.snd.2), ((1 : Nat), .int .i64 k), ((5 : Nat), .int .i64 (↑i : Int))], heap := [((0 : Nat), Blk.pool p)], nx := (3 : Nat), nt := (20 : Nat), tl := [(0 : Nat), (1 : Nat), (2 : Nat), (3 : Nat), (4 : Nat), (5 : Nat), (6 : Nat), (7 : Nat), (8 : Nat), (9 : Nat), (10 : Nat), (11 : Nat), (12 : Nat), (13 : Nat), (14 : Nat), (15 : Nat), (16 : Nat)] : St V }) (Out.stop EX.nx {env := [((5 : Nat), .int .i64 (IntKind.i64.wrap ((↑i : Int) + (1 : Int)))), ((11 : Nat), .int .i64 (IntKind.i64.wrap ((↑i : Int) + (1 : Int)))), ((10 : Nat), .int .i64 (↑i : Int)), ((18 : Nat), .bool (y == k)), ((17 : Nat), .int .i64 k), ((16 : Nat), .int .i64 y), ((15 : Nat), AV.rp (shiftA (shiftA w.fst (i * (4 : Nat))) (0 : Nat))), ((14 : Nat), AV.rp (shiftA w.fst (i * (4 : Nat)))), ((13 : Nat), .int .i64 (↑i : Int)), ((12 : Nat), AV.rs w.fst w.snd.1 w.snd.2), ((9 : Nat), .bool (decide ((↑i : Int) < (↑w.snd.1 : Int)))), ((8 : Nat), .int .i64 (↑w.snd.1 : Int)), ((7 : Nat), AV.rs w.fst w.snd.1 w.snd.2), ((6 : Nat), .int .i64 (↑i : Int)), ((0 : Nat), AV.rs w.fst w.snd.1 w.snd.2), ((1 : Nat), .int .i64 k), ((5 : Nat), .int .i64 (↑i : Int))], heap := [((0 : Nat), Blk.pool p)], nx := (3 : Nat), nt := (20 : Nat), tl := [(0 : Nat), (1 : Nat), (2 : Nat), (3 : Nat), (4 : Nat), (5 : Nat), (6 : Nat), (7 : Nat), (8 : Nat), (9 : Nat), (10 : Nat), (11 : Nat), (12 : Nat), (13 : Nat), (14 : Nat), (15 : Nat), (16 : Nat)] : St V }))))) (Out.stop (EX.ex (0 : Nat)) {env := [((9 : Nat), .bool (decide ((↑i : Int) < (↑w.snd.1 : Int)))), ((8 : Nat), .int .i64 (↑w.snd.1 : Int)), ((7 : Nat), AV.rs w.fst w.snd.1 w.snd.2), ((6 : Nat), .int .i64 (↑i : Int)), ((0 : Nat), AV.rs w.fst w.snd.1 w.snd.2), ((1 : Nat), .int .i64 k), ((5 : Nat), .int .i64 (↑i : Int))], heap := [((0 : Nat), Blk.pool p)], nx := (3 : Nat), nt := (20 : Nat), tl := [(0 : Nat), (1 : Nat), (2 : Nat), (3 : Nat), (4 : Nat), (5 : Nat), (6 : Nat), (7 : Nat), (8 : Nat), (9 : Nat), (10 : Nat), (11 : Nat), (12 : Nat), (13 : Nat), (14 : Nat), (15 : Nat), (16 : Nat)] : St V }) := by kernel_rfl

end Sx
end Go.Proofs.Ytkadlfadmjhahaa

/-
  The document's table in a pool: a row put in the place of another.
-/
namespace Go.Proofs.Ytkadlfadmjhahaa
namespace Sx
open Go
set_option linter.unusedSimpArgs false
set_option linter.unusedVariables false

def labR (L : RL) (w : Rwp) (a : RLab) : Nat → RLab := fun n => if own w = some n then a else if L.lab n = a then .no else L.lab n
theorem labR_old {L : RL} {w : Rwp} {a c : RLab} (hf : ∀ n, own w = some n → L.lab n = .no ∨ L.lab n = a) {n : Nat} (h0 : L.lab n ≠ .no) (h1 : L.lab n ≠ a) (h2 : L.lab n = c) : labR L w a n = c := by
  unfold labR
  rw [if_neg (fun k => (hf n k).elim h0 h1), if_neg h1, h2]
theorem labR_some {p : Pool} {L : RL} {w : Rwp} {l : List Ent} {a : RLab} (h6 : ∀ n, L.lab n ≠ .no → p n ≠ none) (hw : RowP p w l) {n : Nat} (hn : labR L w a n ≠ .no) : p n ≠ none := by
  unfold labR at hn
  split at hn
  · rename_i ho
    unfold own at ho
    split at ho
    · cases ho
    · rename_i hc
      rcases hw.ex with h0 | ⟨m, cs, e1, e2, _⟩
      · exact absurd h0 hc
      · rw [e1] at ho; cases ho; rw [e2]; exact fun k => by cases k
  · split at hn
    · exact absurd rfl hn
    · exact h6 n hn
theorem set_some {p : Pool} {n m i : Nat} {ds : List PD} (h : p n ≠ none) : p.set (some (m, i)) ds n ≠ none := by
  show (if n = m then (p m).map _ else p n) ≠ none
  split
  · rename_i e
    rw [← e]
    cases hp : p n with
    | none => exact absurd hp h
    | some q => exact fun k => by cases k
  · exact h
theorem setAt_one {cs : List PD} {i : Nat} {d : PD} (h : i < cs.length) : setAt cs i [d] = cs.set i d := by
  unfold setAt
  rw [List.set_eq_take_append_cons_drop, if_pos h]
  simp
theorem RAt.setB {p : Pool} {b : Nat} {L : RL} {t : TM} (h : RAt p b L t) {i : Nat} (hi : i < t.B.length) {w : Rwp} {l : List Ent} (hw : RowP p w l) (hf : ∀ n, own w = some n → L.lab n = .no ∨ L.lab n = .rb i) :
    RAt (p.set (some (L.bb, i)) [rwd w]) b { L with B := L.B.set i w, lab := labR L w (.rb i) } { t with B := t.B.set i l } := by
  have hbl := h.bl
  have hp : ∀ x, x ≠ L.bb → p.set (some (L.bb, i)) [rwd w] x = p x := fun x hx => by show (if x = L.bb then _ else p x) = p x; rw [if_neg hx]
  have hself : b ≠ L.bb := fun e => by have := h.l1; rw [e, h.l2] at this; cases this
  have hnew : ∀ n, own w = some n → n ≠ L.bb := fun n hn e => by have := hf n hn; rw [e, h.l2] at this; rcases this with k | k <;> cases k
  refine ⟨?_, ?_, fun hO => ?_, ?_, h.ol, fun j hj => ?_, fun j hj1 hj2 => ?_, ?_, ?_, fun hO => ?_, fun j hj n hn => ?_, fun j hj1 hj2 n hn => ?_, fun n hn => ?_⟩
  · rw [hp _ hself, h.self]
    show some (43, [PD.sl (some (L.bb, 0)) L.B.length L.B.length, osl L, _, _]) = some (43, [PD.sl (some (L.bb, 0)) (L.B.set i w).length (L.B.set i w).length, osl L, _, _])
    rw [List.length_set]
  · show (if L.bb = L.bb then (p L.bb).map (fun q => (q.1, setAt q.2 i [rwd w])) else p L.bb) = some (34, (L.B.set i w).map rwd)
    rw [if_pos rfl, h.brow]
    show some (34, setAt (L.B.map rwd) i [rwd w]) = _
    rw [setAt_one (by rw [List.length_map]; omega), List.map_set]
  · have : L.ob ≠ L.bb := fun e => by have := h.l3 hO; rw [e, h.l2] at this; cases this
    rw [hp _ this]; exact h.orow hO
  · show (L.B.set i w).length = (t.B.set i l).length
    rw [List.length_set, List.length_set]; exact hbl
  · have hj : j < t.B.length := by simpa using hj
    show RowP _ ((L.B.set i w).getD j w0) ((t.B.set i l).getD j [])
    rw [getD_set (by omega), getD_set hj]
    by_cases e : j = i
    · rw [if_pos e, if_pos e]; exact hw.same fun n hn => hp n (hnew n hn)
    · rw [if_neg e, if_neg e]
      exact (h.bs j hj).same fun n hn => hp n fun e2 => by have := h.l4 j hj n hn; rw [e2, h.l2] at this; cases this
  · exact (h.os j hj1 hj2).same fun n hn => hp n fun e2 => by have := h.l5 j hj1 hj2 n hn; rw [e2, h.l2] at this; cases this
  · exact labR_old hf (by rw [h.l1]; exact fun k => RLab.noConfusion k) (by rw [h.l1]; exact fun k => RLab.noConfusion k) h.l1
  · exact labR_old hf (by rw [h.l2]; exact fun k => RLab.noConfusion k) (by rw [h.l2]; exact fun k => RLab.noConfusion k) h.l2
  · exact labR_old hf (by rw [h.l3 hO]; exact fun k => RLab.noConfusion k) (by rw [h.l3 hO]; exact fun k => RLab.noConfusion k) (h.l3 hO)
  · have hj : j < t.B.length := by simpa using hj
    have hn : own ((L.B.set i w).getD j w0) = some n := hn
    rw [getD_set (by omega)] at hn
    show labR L w (.rb i) n = .rb j
    by_cases e : j = i
    · rw [if_pos e] at hn; unfold labR; rw [if_pos hn, e]
    · rw [if_neg e] at hn
      have := h.l4 j hj n hn
      exact labR_old hf (by rw [this]; exact fun k => RLab.noConfusion k) (by rw [this]; exact fun k => e (RLab.rb.inj k)) this
  · have := h.l5 j hj1 hj2 n hn
    exact labR_old hf (by rw [this]; exact fun k => RLab.noConfusion k) (by rw [this]; exact fun k => RLab.noConfusion k) this
  · have hn : labR L w (.rb i) n ≠ .no := hn
    exact set_some (labR_some h.l6 hw hn)
theorem RAt.setO {p : Pool} {b : Nat} {L : RL} {t : TM} (h : RAt p b L t) {i : Nat} (hi0 : t.moved ≤ i) (hi : i < t.O.length) {w : Rwp} {l : List Ent} (hw : RowP p w l) (hf : ∀ n, own w = some n → L.lab n = .no ∨ L.lab n = .ro i) :
    RAt (p.set (some (L.ob, i)) [rwd w]) b { L with O := L.O.set i w, lab := labR L w (.ro i) } { t with O := t.O.set i l } := by
  have hol := h.ol
  have hO : L.O ≠ [] := fun e => by rw [e] at hol; simp at hol; omega
  have hO' : L.O.set i w ≠ [] := fun e => hO (by have := congrArg List.length e; rw [List.length_set] at this; exact List.eq_nil_of_length_eq_zero this)
  have h3 := h.l3 hO
  have hp : ∀ x, x ≠ L.ob → p.set (some (L.ob, i)) [rwd w] x = p x := fun x hx => by show (if x = L.ob then _ else p x) = p x; rw [if_neg hx]
  have hself : b ≠ L.ob := fun e => by have := h.l1; rw [e, h3] at this; cases this
  have hnew : ∀ n, own w = some n → n ≠ L.ob := fun n hn e => by have := hf n hn; rw [e, h3] at this; rcases this with k | k <;> cases k
  refine ⟨?_, ?_, fun _ => ?_, h.bl, ?_, fun j hj => ?_, fun j hj1 hj2 => ?_, ?_, ?_, fun _ => ?_, fun j hj n hn => ?_, fun j hj1 hj2 n hn => ?_, fun n hn => ?_⟩
  · rw [hp _ hself, h.self]
    have : osl { L with O := L.O.set i w, lab := labR L w (.ro i) } = osl L := by
      unfold osl; rw [if_neg hO, if_neg hO']; show PD.sl _ (L.O.set i w).length (L.O.set i w).length = _; rw [List.length_set]
    rw [this]
  · have : L.bb ≠ L.ob := fun e => by have := h.l2; rw [e, h3] at this; cases this
    rw [hp _ this]; exact h.brow
  · show (if L.ob = L.ob then (p L.ob).map (fun q => (q.1, setAt q.2 i [rwd w])) else p L.ob) = some (34, (L.O.set i w).map rwd)
    rw [if_pos rfl, h.orow hO]
    show some (34, setAt (L.O.map rwd) i [rwd w]) = _
    rw [setAt_one (by rw [List.length_map]; omega), List.map_set]
  · show (L.O.set i w).length = (t.O.set i l).length
    rw [List.length_set, List.length_set]; exact hol
  · exact (h.bs j hj).same fun n hn => hp n fun e2 => by have := h.l4 j hj n hn; rw [e2, h3] at this; cases this
  · have hj2 : j < t.O.length := by simpa using hj2
    show RowP _ ((L.O.set i w).getD j w0) ((t.O.set i l).getD j [])
    rw [getD_set (by omega), getD_set hj2]
    by_cases e : j = i
    · rw [if_pos e, if_pos e]; exact hw.same fun n hn => hp n (hnew n hn)
    · rw [if_neg e, if_neg e]
      exact (h.os j hj1 hj2).same fun n hn => hp n fun e2 => by have := h.l5 j hj1 hj2 n hn; rw [e2, h3] at this; cases this
  · exact labR_old hf (by rw [h.l1]; exact fun k => RLab.noConfusion k) (by rw [h.l1]; exact fun k => RLab.noConfusion k) h.l1
  · exact labR_old hf (by rw [h.l2]; exact fun k => RLab.noConfusion k) (by rw [h.l2]; exact fun k => RLab.noConfusion k) h.l2
  · exact labR_old hf (by rw [h3]; exact fun k => RLab.noConfusion k) (by rw [h3]; exact fun k => RLab.noConfusion k) h3
  · have := h.l4 j hj n hn
    exact labR_old hf (by rw [this]; exact fun k => RLab.noConfusion k) (by rw [this]; exact fun k => RLab.noConfusion k) this
  · have hj2 : j < t.O.length := by simpa using hj2
    have hn : own ((L.O.set i w).getD j w0) = some n := hn
    rw [getD_set (by omega)] at hn
    show labR L w (.ro i) n = .ro j
    by_cases e : j = i
    · rw [if_pos e] at hn; unfold labR; rw [if_pos hn, e]
    · rw [if_neg e] at hn
      have := h.l5 j hj1 hj2 n hn
      exact labR_old hf (by rw [this]; exact fun k => RLab.noConfusion k) (by rw [this]; exact fun k => e (RLab.ro.inj k)) this
  · have hn : labR L w (.ro i) n ≠ .no := hn
    exact set_some (labR_some h.l6 hw hn)

def rowW (L : RL) (t : TM) (k : Int) : Rwp := if t.inOld k then L.O.getD (idxN t.seed k t.O.length) w0 else L.B.getD (idxN t.seed k t.B.length) w0
theorem RAt.rowW {p : Pool} {b : Nat} {L : RL} {t : TM} (h : RAt p b L t) (hc : t.Core) (k : Int) : RowP p (rowW L t k) (t.chain k) := by
  unfold Sx.rowW TM.chain
  by_cases hin : t.inOld k = true
  · rw [if_pos hin, if_pos hin]
    have h1 := hin
    unfold TM.inOld at h1
    simp only [Bool.and_eq_true, decide_eq_true_eq] at h1
    exact h.os _ h1.2 (idxN_lt (by omega) (by have := hc.b3; omega))
  · rw [if_neg hin, if_neg hin]
    exact h.bs _ (idxN_lt hc.b1 (by have := hc.b2; omega))
def runRChain : RunPR V := fun p ar K => match ar with
  | [.val (.rp o), .int .i64 k] => .ex RZ fun z => .need (RIn p z o) (K (.rs (rowW z.2.1 z.2.2 k).1 (rowW z.2.1 z.2.2 k).2.1 (rowW z.2.1 z.2.2 k).2.2) [])
  | _ => .bad 500
def runRSet : RunPool V := fun p ar K => match ar with
  | [.val (.rp o), .int .i64 k, .val (.rs ow lw cw)] => .ex RZ fun z => .ex (List Ent) fun l => .need (RIn p z o ∧ RowP p (ow, lw, cw) l ∧ ∀ n, own (ow, lw, cw) = some n → z.2.1.lab n = .no)
      (.all (Pool × RL) fun y => .asm (RAt y.1 z.1 y.2 (z.2.2.with_ k l)) (K (.tup []) y.1 []))
  | _ => .bad 500
theorem hooksR2_ok : ∀ g H, hooksR2 g = some H → HookOk Try.prog g H := by
  intro g H h
  unfold hooksR2 at h
  split at h
  · cases h; exact cRLeft.hookAt
  · cases h; exact cRAt.hookAt
  · cases h; exact cROld.hookAt
  · exact hooksR1_ok _ _ h
theorem cfgRC_ok : cfgRC.ok := ⟨tab_met, kinds_met, mixed_met, fun g fn h => (by cases h), hooksR2_ok⟩
theorem cRChain : PoolR Try.prog 38 runRChain := by
  refine pool_callsR (C := cfgRC) cfgRC_ok (n := 60) (fn := Try.f38) ⟨by kernel_rfl, by kernel_rfl⟩ (by kernel_rfl) ?_
  intro M p ar K0 H
  unfold runRChain at H
  split at H
  · rename_i o k
    obtain ⟨⟨b, L, t⟩, hI, H⟩ := H
    have hI' := hI
    obtain ⟨ho, hA, hc⟩ := hI
    dsimp only at ho hA hc H
    subst ho
    refine ⟨show 2 ≤ _ by decide +kernel, ?_⟩
    show (runF cfgRC 60 38 Try.f38 [.rp (some (b, 0)), .int .i64 k] [(0, .pool p)] 3).holds _
    rw [rtchain]
    have hb1 := hc.b1
    have hb2 := hc.b2
    have hb3 := hc.b3
    have hbl := hA.bl
    have hol := hA.ol
    unfold rowW at H
    refine ⟨_, hI', fun hin => ?_, fun hin j => ?_⟩
    · have hin : t.inOld k = true := hin
      rw [if_pos hin] at H
      have h1 := hin
      unfold TM.inOld at h1
      simp only [Bool.and_eq_true, decide_eq_true_eq] at h1
      have hlt := idxN_lt (seed := t.seed) (key := k) (n := t.O.length) (by omega) (by omega)
      have hO : L.O ≠ [] := fun e => by rw [e] at hol; simp at hol; omega
      have hf := hA.fO
      rw [osl_has hO] at hf
      refine ⟨rfl, rfl, _, _, _, hf, ⟨by omega, by rw [hol]; exact Int.ofNat_lt.2 hlt, rfl⟩, _, _, _, row_at (hA.orow hO) (i := idxN t.seed k t.O.length) (by omega), _, _, H, endPool (AV.sub_same _) rfl rfl⟩
    · have hin : t.inOld k = false := hin
      rw [if_neg (by rw [hin]; decide)] at H
      have hlt := idxN_lt (seed := t.seed) (key := k) (n := t.B.length) hb1 (by omega)
      have hcast := idxN_cast (seed := t.seed) (key := k) (n := t.B.length) hb1 (by omega)
      refine ⟨rfl, rfl, _, _, _, hA.fB, rfl, rfl, _, _, _, hA.fB, _, ⟨hI', by omega, by omega⟩, ?_⟩
      show Out.holds _ (Out.need ((0 : Int) ≤ idxF (mixF t.seed k) 0 (L.B.length : Int) ∧ idxF (mixF t.seed k) 0 (L.B.length : Int) < (L.B.length : Int) ∧ _) _)
      rw [hbl, ← hcast, Int.toNat_natCast]
      exact ⟨⟨by omega, Int.ofNat_lt.2 hlt, rfl⟩, _, _, _, row_at hA.brow (i := idxN t.seed k t.B.length) (by omega), _, _, H, endPool (AV.sub_same _) rfl rfl⟩
  · exact H.elim
theorem has_one {p : Pool} {bb : Nat} {R : List Rwp} (h : p bb = some (34, R.map rwd)) {i : Nat} (hi : i < R.length) : p.has (shiftA (some (bb, 0)) (i * 1)) 1 :=
  ⟨bb, i * 1, 34, R.map rwd, by simp, h, by simp; omega⟩
theorem cRSet : PoolC Try.prog 40 runRSet := by
  refine pool_calls (C := cfgRC) cfgRC_ok (n := 60) (fn := Try.f40) ⟨by kernel_rfl, by kernel_rfl⟩ (by kernel_rfl) ?_
  intro M p ar K0 H
  unfold runRSet at H
  split at H
  · rename_i o k ow lw cw
    obtain ⟨⟨b, L, t⟩, l, ⟨hI, hw, hf⟩, H⟩ := H
    have hI' := hI
    obtain ⟨ho, hA, hc⟩ := hI
    dsimp only at ho hA hc H hf
    subst ho
    refine ⟨show 3 ≤ _ by decide +kernel, ?_⟩
    show (runF cfgRC 60 40 Try.f40 [.rp (some (b, 0)), .int .i64 k, .rs ow lw cw] [(0, .pool p)] 4).holds _
    rw [rtset]
    have hb1 := hc.b1
    have hb2 := hc.b2
    have hb3 := hc.b3
    have hbl := hA.bl
    have hol := hA.ol
    refine ⟨_, hI', fun hin => ?_, fun hin j => ?_⟩
    · have hin : t.inOld k = true := hin
      have h1 := hin
      unfold TM.inOld at h1
      simp only [Bool.and_eq_true, decide_eq_true_eq] at h1
      have hlt := idxN_lt (seed := t.seed) (key := k) (n := t.O.length) (by omega) (by omega)
      have hO : L.O ≠ [] := fun e => by rw [e] at hol; simp at hol; omega
      have hfO := hA.fO
      rw [osl_has hO] at hfO
      have hR := hA.setO h1.2 hlt hw (fun n hn => .inl (hf n hn))
      have hwith : t.with_ k l = { t with O := t.O.set (idxN t.seed k t.O.length) l } := by unfold TM.with_; rw [if_pos hin]
      rw [← hwith] at hR
      refine ⟨rfl, rfl, _, _, _, hfO, ⟨by omega, by rw [hol]; exact Int.ofNat_lt.2 hlt, rfl⟩, has_one (hA.orow hO) (i := idxN t.seed k t.O.length) (by omega), _, _, _, H (_, _) hR, endPool (AV.sub_same _) rfl ?_⟩
      show some (Blk.pool (p.set (shiftA (some (L.ob, 0)) (((idxN t.seed k t.O.length : Nat) : Int).toNat * 1)) _)) = _
      rw [Int.toNat_natCast, Nat.mul_one, shiftA_some, Nat.zero_add]; rfl
    · have hin : t.inOld k = false := hin
      have hlt := idxN_lt (seed := t.seed) (key := k) (n := t.B.length) hb1 (by omega)
      have hcast := idxN_cast (seed := t.seed) (key := k) (n := t.B.length) hb1 (by omega)
      have hR := hA.setB hlt hw (fun n hn => .inl (hf n hn))
      have hwith : t.with_ k l = { t with B := t.B.set (idxN t.seed k t.B.length) l } := by unfold TM.with_; rw [if_neg (by rw [hin]; decide)]
      rw [← hwith] at hR
      refine ⟨rfl, rfl, _, _, _, hA.fB, rfl, rfl, _, _, _, hA.fB, _, ⟨hI', by omega, by omega⟩, ?_⟩
      show Out.holds _ (Out.need ((0 : Int) ≤ idxF (mixF t.seed k) 0 (L.B.length : Int) ∧ idxF (mixF t.seed k) 0 (L.B.length : Int) < (L.B.length : Int) ∧ _) _)
      rw [hbl, ← hcast, Int.toNat_natCast]
      refine ⟨⟨by omega, Int.ofNat_lt.2 hlt, rfl⟩, has_one hA.brow (i := idxN t.seed k t.B.length) (by omega), _, _, _, H (_, _) hR, endPool (AV.sub_same _) rfl ?_⟩
      show some (Blk.pool (p.set (shiftA (some (L.bb, 0)) (idxN t.seed k t.B.length * 1)) _)) = _
      rw [Nat.mul_one, shiftA_some, Nat.zero_add]; rfl
  · exact H.elim

end Sx
end Go.Proofs.Ytkadlfadmjhahaa

/-
  The document on tables, a place in a chain: the runs of the machine.
-/
namespace Go.Proofs.Ytkadlfadmjhahaa
namespace Sx
open Go
set_option maxRecDepth 100000
set_option linter.unusedVariables false

def kIs (k : Int) (e : Ent) : Bool := decide (e.key = k)
def fstE (l : List Ent) (k : Int) (i : Nat) : Prop := i < l.length ∧ l.findIdx (kIs k) = i
def LFi : LoopS V := loopS 3 (fun p : PFi => FI p.p p.w p.k 0) (fun p (_ : Unit) => p.l.findIdx (kIs p.k) = p.l.length) (fun p (_ : Unit) => FI p.p p.w p.k p.l.length) (fun p (i : Nat) => fstE p.l p.k i) (fun p i => FR p.p i)
noncomputable def cfgRF : Cfg Try.prog V := ⟨tab, kinds, fun _ => none, hooksR2, fun f id => match f, id with | 39, 0 => some LFi | _, _ => none⟩
def fndE (l : List Ent) (k : Int) : Int := if l.findIdx (kIs k) < l.length then (l.findIdx (kIs k) : Int) else -1
theorem rtfind (p : Pool) (w : Rwp) (k : Int) : runF cfgRF 60 39 Try.f39 [rav w, .int .i64 k] [(0, .pool p)] 3 = Out.need (LoopFor Try.prog (39 : Nat) (0 : Nat) (loopOf Try.f39 (0 : Nat)) LFi) (Out.ex PFi fun y => Out.ex (List (Nat × Nat)) fun y_1 => Out.need ((3 : Nat) ≤ (3 : Nat) ∧ Wk (3 : Nat) y_1 {env := [((5 : Nat), .lit .i64 (0 : Int)), ((4 : Nat), .lit .i64 (0 : Int)), ((0 : Nat), AV.rs w.fst w.snd.1 w.snd.2), ((1 : Nat), .int .i64 k)], heap := [((0 : Nat), Blk.pool p)], nx := (3 : Nat), nt := (20 : Nat), tl := [] : St V } ((fun p => FI p.p p.w p.k (0 : Nat)) y)) ((Out.all Unit fun y_2 => Out.asm ((fun p x => List.findIdx (kIs p.k) p.l = p.l.length) y y_2) (Out.fin (.lit .i64 (-1 : Int)) [((0 : Nat), Blk.pool y.p)] (3 : Nat))).both (Out.all Nat fun y_2 => Out.asm ((fun p i => fstE p.l p.k i) y y_2) (Out.fin (.int .i64 (↑y_2 : Int)) [((0 : Nat), Blk.pool y.p)] (3 : Nat))))) := by kernel_rfl

end Sx
end Go.Proofs.Ytkadlfadmjhahaa

/-
  The document on tables: the place of a key in a chain.
-/
namespace Go.Proofs.Ytkadlfadmjhahaa
namespace Sx
open Go
set_option linter.unusedSimpArgs false
set_option linter.unusedVariables false

theorem RowP.key {p : Pool} {w : Rwp} {l : List Ent} (h : RowP p w l) {i : Nat} (hi : i < l.length) : p.at (shiftA (shiftA w.1 (i * 4)) 0) [.int .i64 (l[i]).key] := at_sub (h.ent hi).2 0 1 (by simp [flatE])
theorem find_lt {l : List Ent} {k : Int} {i : Nat} (h : ∀ j, j < i → ∀ hj : j < l.length, (l[j]).key ≠ k) (hi : i ≤ l.length) : i ≤ l.findIdx (kIs k) := by
  rcases Nat.lt_or_ge (l.findIdx (kIs k)) i with hh | hh
  · have hlt : l.findIdx (kIs k) < l.length := by omega
    have := List.findIdx_getElem (w := hlt)
    unfold kIs at this
    exact absurd (of_decide_eq_true this) (h _ hh hlt)
  · exact hh
theorem lFi_ok : LoopOk Try.prog 0 (loopOf Try.f39 0) LFi := by
  refine loopS_ok (C := cfgRC) cfgRC_ok (f := 39) (n := 60) 3 (fun p : PFi => FI p.p p.w p.k) (fun p i => i ≤ p.l.length ∧ ∀ j, j < i → ∀ hj : j < p.l.length, (p.l[j]).key ≠ p.k) (fun _ => 0) (fun p i => p.l.length - i) (fun p (_ : Unit) => p.l.findIdx (kIs p.k) = p.l.length) (fun p (_ : Unit) => FI p.p p.w p.k p.l.length) (fun p (i : Nat) => fstE p.l p.k i) (fun p i => FR p.p i) (fun p => ⟨Nat.zero_le _, fun j hj => absurd hj (Nat.not_lt_zero _)⟩) ?_
  intro p i ⟨hi, ht⟩
  rw [rbfind]
  obtain ⟨p, w, l, k, hR, hl⟩ := p
  dsimp only at hi ht ⊢
  have hlen := hR.len
  simp only [Out.holds, decide_eq_true_eq, decide_eq_false_iff_not, beq_iff_eq, beq_eq_false_iff_ne, ne_eq]
  refine ⟨fun h => ?_, fun h => ⟨trivial, (), [], ?_, ?_⟩⟩
  · have hlt : i < l.length := by omega
    refine ⟨⟨by omega, by omega, (hR.ent hlt).1⟩, by have := (hR.ent hlt).1; obtain ⟨q, hq⟩ := Option.isSome_iff_exists.1 this; rw [hq]; rfl, _, hR.key hlt, fun he => ⟨i, [], ?_, ⟨hlt, ?_⟩⟩, fun he => ⟨i + 1, [], ?_, ⟨by omega, ?_⟩, by omega⟩⟩
    · (refine ⟨?_, ?_, rfl, tl_ok rfl, ?_, ⟨Nat.le_of_ble_eq_true rfl, rfl⟩⟩ <;> (repeat' first | with_reducible exact trivial | exact AV.sub_same _ | exact .same _ | exact .inr rfl | exact .inl (in_ok rfl) | exact AV.sub_lit' | exact AV.sub_nilS | exact .none _ _ | exact trivial | refine ⟨?_, ?_⟩))
    · have h1 := find_lt ht hi
      rcases Nat.lt_or_ge i (l.findIdx (kIs k)) with hh | hh
      · have := List.not_of_lt_findIdx hh
        unfold kIs at this
        simp at this
        exact absurd he this
      · omega
    · (refine ⟨?_, ?_, rfl, tl_ok rfl, ?_, ⟨Nat.le_of_ble_eq_true rfl, rfl⟩⟩ <;> (repeat' first | with_reducible exact trivial | (exact AV.sub_int (wrap_nat (by omega))) | exact AV.sub_same _ | exact .same _ | exact .inr rfl | exact .inl (in_ok rfl) | exact AV.sub_lit' | exact AV.sub_nilS | exact .none _ _ | exact trivial | refine ⟨?_, ?_⟩))
    · intro j hj hj2
      by_cases e : j = i
      · subst e; exact he
      · exact ht j (by omega) hj2
  · (refine ⟨?_, ?_, rfl, tl_ok rfl, ?_, ⟨Nat.le_of_ble_eq_true rfl, rfl⟩⟩ <;> (repeat' first | with_reducible exact trivial | (exact AV.sub_int (by omega)) | exact AV.sub_same _ | exact .same _ | exact .inr rfl | exact .inl (in_ok rfl) | exact AV.sub_lit' | exact AV.sub_nilS | exact .none _ _ | exact trivial | refine ⟨?_, ?_⟩))
  · have h1 := find_lt ht hi
    have h2 := List.findIdx_le_length (p := kIs k) (xs := l)
    omega
theorem cfgRF_ok : cfgRF.ok := ⟨tab_met, kinds_met, mixed_met, fun g fn h => (by cases h), hooksR2_ok⟩
def runRFind : RunPR V := fun p ar K => match ar with
  | [.val (.rs o n c), .int .i64 k] => .ex (List Ent) fun l => .need (RowP p (o, n, c) l ∧ l.length ≤ 1000000) (K (.int .i64 (fndE l k)) [])
  | _ => .bad 500
theorem cRFind : PoolR Try.prog 39 runRFind := by
  refine pool_callsR (C := cfgRF) cfgRF_ok (n := 60) (fn := Try.f39) ⟨by kernel_rfl, by kernel_rfl⟩ (by kernel_rfl) ?_
  intro M p ar K0 H
  unfold runRFind at H
  split at H
  · rename_i o n c k
    obtain ⟨l, ⟨hR, hl⟩, H⟩ := H
    refine ⟨show 2 ≤ _ by decide +kernel, ?_⟩
    show (runF cfgRF 60 39 Try.f39 [rav (o, n, c), .int .i64 k] [(0, .pool p)] 3).holds _
    rw [rtfind]
    have h2 := List.findIdx_le_length (p := kIs k) (xs := l)
    refine ⟨lFi_ok, ⟨p, (o, n, c), l, k, hR, hl⟩, [], ⟨Nat.le_refl _, ?_⟩, fun _ he => ⟨_, _, H, endPool ?_ rfl rfl⟩, fun i he => ⟨_, _, H, endPool ?_ rfl rfl⟩⟩
    · (refine ⟨?_, ?_, rfl, tl_ok rfl, ?_, ⟨Nat.le_of_ble_eq_true rfl, rfl⟩⟩ <;> (repeat' first | with_reducible exact trivial | exact AV.sub_same _ | exact .same _ | exact .inr rfl | exact .inl (in_ok rfl) | exact AV.sub_lit' | exact AV.sub_nilS | exact .none _ _ | exact trivial | refine ⟨?_, ?_⟩))
    · have he : l.findIdx (kIs k) = l.length := he
      unfold fndE
      rw [if_neg (by omega)]
      first | exact AV.sub_same _ | exact AV.sub_lit'
    · obtain ⟨h3, h4⟩ : i < l.length ∧ l.findIdx (kIs k) = i := he
      unfold fndE
      rw [if_pos (by omega), h4]
      exact AV.sub_same _
  · exact H.elim

end Sx
end Go.Proofs.Ytkadlfadmjhahaa

/-
  The document on tables, Get: the runs of the machine.
-/
namespace Go.Proofs.Ytkadlfadmjhahaa
namespace Sx
open Go
set_option maxRecDepth 100000
set_option linter.unusedVariables false

noncomputable def hooksR3 : Nat → Option (HookS V) := fun g => match g with
  | 38 => some (hookPoolRAt 0 [.val, .int .i64] runRChain)
  | 39 => some (hookPoolRAt 0 [.val, .int .i64] runRFind)
  | g => hooksR2 g
noncomputable def cfgRG : Cfg Try.prog V := ⟨tab, kinds, fun _ => none, hooksR3, fun _ _ => none⟩
theorem rtget (p : Pool) (b : Nat) (k : Int) : runF cfgRG 60 22 Try.f22 [.rp (some (b, 0)), .int .i64 k] [(0, .pool p)] 3 = Out.ex RZ fun y => Out.need (RIn p y (some (b, (0 : Nat)))) (Out.ex (List Ent) fun y_1 => Out.need (RowP p ((rowW y.snd.fst y.snd.snd k).fst, (rowW y.snd.fst y.snd.snd k).snd.fst, (rowW y.snd.fst y.snd.snd k).snd.snd) y_1 ∧ y_1.length ≤ (1000000 : Nat)) (Out.ite (decide (fndE y_1 k < (0 : Int))) (Out.fin (.tup [.agg [.lit .i64 (0 : Int), .lit .i64 (0 : Int), .lit .i64 (0 : Int), .lit .i64 (0 : Int)], .ff]) [((3 : Nat), .cells (29 : Nat) [.lit .i64 (0 : Int), .lit .i64 (0 : Int), .lit .i64 (0 : Int), .lit .i64 (0 : Int)]), ((0 : Nat), Blk.pool p)] (5 : Nat)) (Out.need ((0 : Int) ≤ fndE y_1 k ∧ fndE y_1 k < (↑(rowW y.snd.fst y.snd.snd k).snd.fst : Int) ∧ (rowW y.snd.fst y.snd.snd k).fst.isSome = true) (Out.ex Int fun y_2 => Out.ex Int fun y_3 => Out.ex Int fun y_4 => Out.ex Int fun y_5 => Out.need (p.at (shiftA (rowW y.snd.fst y.snd.snd k).fst ((fndE y_1 k).toNat * (4 : Nat))) [PD.int .i64 y_2, PD.int .i64 y_3, PD.int .i64 y_4, PD.int .i64 y_5]) (Out.fin (.tup [.agg [.int .i64 y_2, .int .i64 y_3, .int .i64 y_4, .int .i64 y_5], .tt]) [((3 : Nat), .cells (29 : Nat) [.int .i64 y_2, .int .i64 y_3, .int .i64 y_4, .int .i64 y_5]), ((0 : Nat), Blk.pool p)] (5 : Nat)))))) := by kernel_rfl

end Sx
end Go.Proofs.Ytkadlfadmjhahaa

/-
  The document on tables: Get.
-/
namespace Go.Proofs.Ytkadlfadmjhahaa
namespace Sx
open Go
set_option linter.unusedSimpArgs false
set_option linter.unusedVariables false

theorem hooksR3_ok : ∀ g H, hooksR3 g = some H → HookOk Try.prog g H := by
  intro g H h
  unfold hooksR3 at h
  split at h
  · cases h; exact cRChain.hookAt
  · cases h; exact cRFind.hookAt
  · exact hooksR2_ok _ _ h
theorem cfgRG_ok : cfgRG.ok := ⟨tab_met, kinds_met, mixed_met, fun g fn h => (by cases h), hooksR3_ok⟩
theorem find_idx (k : Int) : ∀ l : List Ent, (l.find? fun e => decide (e.key = k)) = l[l.findIdx (kIs k)]?
  | [] => rfl
  | a :: l => by
    rw [List.find?_cons, List.findIdx_cons]
    by_cases h : a.key = k
    · simp [kIs, h]
    · have : kIs k a = false := decide_eq_false h
      rw [this, decide_eq_false h]
      show l.find? _ = (a :: l)[l.findIdx (kIs k) + 1]?
      rw [List.getElem?_cons_succ]
      exact find_idx k l
theorem get_idx (t : TM) (k : Int) : t.get k = (t.chain k)[(t.chain k).findIdx (kIs k)]? := find_idx k _
theorem TM.core_chain {t : TM} (h : t.Good) (k : Int) : (t.chain k).length ≤ t.len := by
  rw [TM.chain_row]
  have hl := TM.pl_live h.core k
  have e := h.len
  unfold TM.total at e
  unfold TM.row
  unfold TM.live at hl
  split
  · rename_i hh
    rw [if_pos hh] at hl
    have h1 := row_le (t.O.drop t.moved) ((t.pl k).2 - t.moved)
    have h2 : (t.O.drop t.moved).getD ((t.pl k).2 - t.moved) [] = t.O.getD (t.pl k).2 [] := by
      rw [List.getD_eq_getElem?_getD, List.getElem?_drop, List.getD_eq_getElem?_getD, show t.moved + ((t.pl k).2 - t.moved) = (t.pl k).2 by omega]
    rw [h2] at h1; omega
  · have h1 := row_le t.B (t.pl k).2
    omega
theorem AV.sub_aggR {xs bs : List AV} (h : ∀ r vs, relL r xs vs → relL r bs vs) : (AV.agg xs).sub (.agg bs) := fun r v ⟨vs, e, k⟩ => ⟨vs, h r vs e, k⟩
def runRGet : RunPR V := fun p ar K => match ar with
  | [.val (.rp o), .int .i64 k] => .ex RZ fun z => .need (RIn p z o ∧ (z.2.2.chain k).length ≤ 1000000) (K (foundAV (z.2.2.get k)) [])
  | _ => .bad 500
theorem cRGet : PoolR Try.prog 22 runRGet := by
  refine pool_callsR (C := cfgRG) cfgRG_ok (n := 60) (fn := Try.f22) ⟨by kernel_rfl, by kernel_rfl⟩ (by kernel_rfl) ?_
  intro M p ar K0 H
  unfold runRGet at H
  split at H
  · rename_i o k
    obtain ⟨⟨b, L, t⟩, ⟨hI, hlen⟩, H⟩ := H
    have hI' := hI
    obtain ⟨ho, hA, hc⟩ := hI
    dsimp only at ho hA hc H hlen
    subst ho
    refine ⟨show 2 ≤ _ by decide +kernel, ?_⟩
    show (runF cfgRG 60 22 Try.f22 [.rp (some (b, 0)), .int .i64 k] [(0, .pool p)] 3).holds _
    rw [rtget]
    have hR := hA.rowW hc k
    have hfl := List.findIdx_le_length (p := kIs k) (xs := t.chain k)
    have hge := get_idx t k
    refine ⟨_, hI', t.chain k, ⟨hR, hlen⟩, fun hlt => ?_, fun hge2 => ?_⟩
    · have hlt : fndE (t.chain k) k < 0 := of_decide_eq_true hlt
      have h1 : ¬ (t.chain k).findIdx (kIs k) < (t.chain k).length := fun hh => by unfold fndE at hlt; rw [if_pos hh] at hlt; omega
      have h2 : t.get k = none := by rw [hge]; exact List.getElem?_eq_none (by omega)
      rw [h2] at H
      exact ⟨_, _, H, endPool (by exact AV.sub_two (AV.sub_aggR (AV.subL_cons AV.sub_lit' (AV.subL_cons AV.sub_lit' (AV.subL_cons AV.sub_lit' (AV.subL_cons AV.sub_lit' AV.subL_nil))))) (AV.sub_ff rfl)) rfl rfl⟩
    · have hge2 : ¬ fndE (t.chain k) k < 0 := of_decide_eq_false hge2
      have h1 : (t.chain k).findIdx (kIs k) < (t.chain k).length := by
        rcases Nat.lt_or_ge ((t.chain k).findIdx (kIs k)) (t.chain k).length with hh | hh
        · exact hh
        · unfold fndE at hge2; rw [if_neg (by omega)] at hge2; exact absurd (show (-1 : Int) < 0 by decide) hge2
      have hf : fndE (t.chain k) k = ((t.chain k).findIdx (kIs k) : Int) := by unfold fndE; rw [if_pos h1]
      have h2 : t.get k = some ((t.chain k)[(t.chain k).findIdx (kIs k)]) := by rw [hge]; exact List.getElem?_eq_getElem h1
      rw [h2] at H
      have hrl := hR.len
      obtain ⟨he1, he2⟩ := hR.ent h1
      rw [hf, Int.toNat_natCast]
      exact ⟨⟨by omega, by rw [hrl]; exact Int.ofNat_lt.2 h1, he1⟩, _, _, _, _, he2, _, _, H, endPool (AV.sub_two (AV.sub_same _) (AV.sub_tt rfl)) rfl rfl⟩
  · exact H.elim

end Sx
end Go.Proofs.Ytkadlfadmjhahaa

/-
  The document's table in a pool: what else is written leaves it; a row that grows in its own block.
-/
namespace Go.Proofs.Ytkadlfadmjhahaa
namespace Sx
open Go
set_option linter.unusedSimpArgs false
set_option linter.unusedVariables false

theorem own_some {p : Pool} {w : Rwp} {l : List Ent} (h : RowP p w l) {n : Nat} (hn : own w = some n) : ∃ cs, w.1 = some (n, 0) ∧ p n = some (29, cs) ∧ cs.length = w.2.2 * 4 ∧ cs.take (l.length * 4) = flats l := by
  unfold own at hn
  split at hn
  · cases hn
  · rename_i hc
    rcases h.ex with h0 | ⟨m, cs, e1, e2, e3, e4⟩
    · exact absurd h0 hc
    · rw [e1] at hn; cases hn; exact ⟨cs, e1, e2, e3, e4⟩
theorem RAt.frame {p q : Pool} {b : Nat} {L : RL} {t : TM} (h : RAt p b L t) (k : ∀ n, L.lab n ≠ .no → q n = p n) : RAt q b L t := by
  refine ⟨?_, ?_, fun hO => ?_, h.bl, h.ol, fun i hi => ?_, fun i h1 h2 => ?_, h.l1, h.l2, h.l3, h.l4, h.l5, fun n hn => by rw [k n hn]; exact h.l6 n hn⟩
  · rw [k b (by rw [h.l1]; exact fun k => RLab.noConfusion k)]; exact h.self
  · rw [k L.bb (by rw [h.l2]; exact fun k => RLab.noConfusion k)]; exact h.brow
  · rw [k L.ob (by rw [h.l3 hO]; exact fun k => RLab.noConfusion k)]; exact h.orow hO
  · exact (h.bs i hi).same fun n hn => k n (by rw [h.l4 i hi n hn]; exact fun k => RLab.noConfusion k)
  · exact (h.os i h1 h2).same fun n hn => k n (by rw [h.l5 i h1 h2 n hn]; exact fun k => RLab.noConfusion k)
theorem RAt.put {p : Pool} {b : Nat} {L : RL} {t : TM} (h : RAt p b L t) {n T : Nat} {ds : List PD} (hn : p n = none) : RAt (p.put n T ds) b L t :=
  h.frame fun m hm => by
    have hne : m ≠ n := fun e => h.l6 m hm (by rw [e]; exact hn)
    unfold Pool.put; rw [if_neg hne]
theorem RAt.no {p : Pool} {b : Nat} {L : RL} {t : TM} (h : RAt p b L t) {n : Nat} (hn : p n = none) : L.lab n = .no := by
  cases hh : L.lab n with
  | no => rfl
  | _ => exact absurd hn (h.l6 n (by rw [hh]; exact fun k => RLab.noConfusion k))
theorem RowP.put {p : Pool} {w : Rwp} {l : List Ent} (h : RowP p w l) {n T : Nat} {ds : List PD} (hn : p n = none) : RowP (p.put n T ds) w l :=
  h.same fun m hm => by
    obtain ⟨cs, _, e, _⟩ := own_some h hm
    have hne : m ≠ n := fun k => by rw [k, hn] at e; cases e
    unfold Pool.put; rw [if_neg hne]
/-- A new row. -/
theorem row_new {p : Pool} {n : Nat} (l : List Ent) (sp : Nat) (zs : List PD) (hz : zs.length = 4) : RowP (p.put n 29 (flats l ++ (List.replicate sp zs).flatten)) (some (n, 0), l.length, l.length + sp) l := by
  refine ⟨rfl, Nat.le_add_right _ _, .inr ⟨n, _, rfl, by unfold Pool.put; rw [if_pos rfl], ?_, ?_⟩⟩
  · rw [List.length_append, flats_len]; simp [hz]; omega
  · rw [List.take_append_of_le_length (by rw [flats_len]; exact Nat.le_refl _), ← flats_len, List.take_length]
/-- One more in its own block. -/
theorem RowP.more {p : Pool} {n len cap : Nat} {l : List Ent} (h : RowP p (some (n, 0), len, cap) l) (hc : len + 1 ≤ cap) (e : Ent) :
    RowP (p.set (some (n, len * 4)) (flatE e)) (some (n, 0), len + 1, cap) (l ++ [e]) ∧ RowP (p.set (some (n, len * 4)) (flatE e)) (some (n, 0), len, cap) l := by
  have hl : len = l.length := h.len
  subst hl
  rcases h.ex with h0 | ⟨m, cs, e1, e2, e3, e4⟩
  · have h0 : cap = 0 := h0; omega
  · cases e1
    have e3 : cs.length = cap * 4 := e3
    have hp : p.set (some (n, l.length * 4)) (flatE e) n = some (29, setAt cs (l.length * 4) (flatE e)) := by
      show (if n = n then (p n).map (fun q => (q.1, setAt q.2 (l.length * 4) (flatE e))) else p n) = _
      rw [if_pos rfl, e2]; rfl
    have hsl : (setAt cs (l.length * 4) (flatE e)).length = cap * 4 := by
      unfold setAt; simp only [List.length_append, List.length_take, List.length_drop]
      show _ + 4 + (cs.length - (l.length * 4 + 4)) = _
      omega
    refine ⟨⟨by simp, by simp; omega, .inr ⟨n, _, rfl, hp, hsl, ?_⟩⟩, ⟨rfl, by show l.length ≤ cap; omega, .inr ⟨n, _, rfl, hp, hsl, ?_⟩⟩⟩
    · rw [flats_app, ← e4]
      unfold setAt
      have : (flats [e]) = flatE e := by simp [flats]
      rw [this, List.take_append_of_le_length (by simp [flatE]; omega), List.take_of_length_le (by simp [flatE]; omega)]
    · unfold setAt
      rw [List.append_assoc, List.take_append_of_le_length (by simp; omega), List.take_take, Nat.min_self]; exact e4
theorem RAt.spare {p : Pool} {b : Nat} {L : RL} {t : TM} (h : RAt p b L t) {k : Nat} (hk : k < t.B.length) {n len cap : Nat} (hw : L.B.getD k w0 = (some (n, 0), len, cap)) (hc : len + 1 ≤ cap) (e : Ent) :
    RAt (p.set (some (n, len * 4)) (flatE e)) b L t ∧ RowP (p.set (some (n, len * 4)) (flatE e)) (some (n, 0), len + 1, cap) (t.B.getD k [] ++ [e]) := by
  have hr := h.bs k hk
  rw [hw] at hr
  obtain ⟨m1, m2⟩ := hr.more hc e
  have hown : own (L.B.getD k w0) = some n := by rw [hw]; unfold own; rw [if_neg (by show ¬ cap = 0; omega)]; rfl
  have hlab := h.l4 k hk n hown
  have hp : ∀ x, x ≠ n → p.set (some (n, len * 4)) (flatE e) x = p x := fun x hx => by show (if x = n then _ else p x) = p x; rw [if_neg hx]
  refine ⟨⟨?_, ?_, fun hO => ?_, h.bl, h.ol, fun i hi => ?_, fun i h1 h2 => ?_, h.l1, h.l2, h.l3, h.l4, h.l5, fun x hx => set_some (h.l6 x hx)⟩, m1⟩
  · rw [hp b (fun e => by have := h.l1; rw [e, hlab] at this; cases this)]; exact h.self
  · rw [hp L.bb (fun e => by have := h.l2; rw [e, hlab] at this; cases this)]; exact h.brow
  · rw [hp L.ob (fun e => by have := h.l3 hO; rw [e, hlab] at this; cases this)]; exact h.orow hO
  · by_cases e' : i = k
    · subst e'; rw [hw]; exact m2
    · exact (h.bs i hi).same fun x hx => hp x fun e2 => by have := h.l4 i hi x hx; rw [e2, hlab] at this; exact e' (RLab.rb.inj this).symm
  · exact (h.os i h1 h2).same fun x hx => hp x fun e2 => by have := h.l5 i h1 h2 x hx; rw [e2, hlab] at this; cases this

end Sx
end Go.Proofs.Ytkadlfadmjhahaa

/-
  The document on tables, moving: the runs of the machine.
-/
namespace Go.Proofs.Ytkadlfadmjhahaa
namespace Sx
open Go
set_option maxRecDepth 100000
set_option linter.unusedVariables false

def tabY : Tab := fun t => match t with
  | 29 => some { ty29 with pool := true }
  | 34 => some { ty34 with pool := true }
  | 43 => some { ty43 with pool := true }
  | t => tab t
noncomputable def cfgY : Cfg Try.prog V := ⟨tabY, kinds, fun _ => none, hooksR3, fun _ _ => none⟩
def TQM : List Nat := [0, 1, 2, 3, 4, 5, 6, 7, 8, 9, 10, 11, 12, 13, 14, 15, 16]
def MvI (b : Nat) (w : Rwp) (i : Nat) (p : Pool) : St V := ⟨[(0, .rp (some (b, 0))), (2, rav w), (3, .int .i64 (i : Int))], [(0, .pool p)], 3, 78, TQM⟩
theorem rbmove (b : Nat) (w : Rwp) (i : Nat) (p : Pool) : runCode cfgY 60 37 (loopOf Try.f37 0) (MvI b w i p) (stopT (trimSt [0, 2, 3] [0])) = Out.ite (decide ((↑i : Int) < (↑w.snd.1 : Int))) (Out.need ((0 : Int) ≤ (↑i : Int) ∧ (↑i : Int) < (↑w.snd.1 : Int) ∧ w.fst.isSome = true) (Out.need ((shiftA w.fst (i * (4 : Nat))).isSome = true) (Out.ex Int fun y => Out.need (p.at (shiftA (shiftA w.fst (i * (4 : Nat))) (0 : Nat)) [PD.int .i64 y]) (Out.need ((some (b, (0 : Nat))).isSome = true) (Out.need ((some (b, (0 : Nat))).isSome = true) (Out.ex (Option (Nat × Nat)) fun y_1 => Out.ex Nat fun y_2 => Out.ex Nat fun y_3 => Out.need (p.at (shiftA (some (b, (0 : Nat))) (0 : Nat)) [PD.sl y_1 y_2 y_3]) (Out.ex RZ fun y_4 => Out.need (RIn p y_4 (some (b, (0 : Nat))) ∧ (1 : Int) ≤ (↑y_2 : Int) ∧ (↑y_2 : Int) ≤ (1000000 : Int)) (Out.need ((some (b, (0 : Nat))).isSome = true) (Out.need ((some (b, (0 : Nat))).isSome = true) (Out.need ((some (b, (0 : Nat))).isSome = true) (Out.need ((some (b, (0 : Nat))).isSome = true) (Out.ex (Option (Nat × Nat)) fun y_5 => Out.ex Nat fun y_6 => Out.ex Nat fun y_7 => Out.need (p.at (shiftA (some (b, (0 : Nat))) (0 : Nat)) [PD.sl y_5 y_6 y_7]) (Out.need ((0 : Int) ≤ idxF (mixF y_4.snd.snd.seed y) (0 : Int) (↑y_2 : Int) ∧ idxF (mixF y_4.snd.snd.seed y) (0 : Int) (↑y_2 : Int) < (↑y_6 : Int) ∧ y_5.isSome = true) (Out.ex (Option (Nat × Nat)) fun y_8 => Out.ex Nat fun y_9 => Out.ex Nat fun y_10 => Out.need (p.at (shiftA y_5 ((idxF (mixF y_4.snd.snd.seed y) (0 : Int) (↑y_2 : Int)).toNat * (1 : Nat))) [PD.sl y_8 y_9 y_10]) (Out.need ((0 : Int) ≤ (↑i : Int) ∧ (↑i : Int) < (↑w.snd.1 : Int) ∧ w.fst.isSome = true) (Out.ex Int fun y_11 => Out.ex Int fun y_12 => Out.ex Int fun y_13 => Out.ex Int fun y_14 => Out.need (p.at (shiftA w.fst (i * (4 : Nat))) [PD.int .i64 y_11, PD.int .i64 y_12, PD.int .i64 y_13, PD.int .i64 y_14]) ((Out.ex (Option (Nat × Nat)) fun y_15 => Out.ex Nat fun y_16 => Out.ex Nat fun y_17 => Out.need (p.at (shiftA (some (b, (0 : Nat))) (0 : Nat)) [PD.sl y_15 y_16 y_17]) (Out.all Nat fun y_18 => Out.asm (p y_18 = none) (Out.ex (List PD) fun y_19 => Out.need (y_19.length = (4 : Nat) ∧ ((1 : Nat) = (0 : Nat) ∨ (p.put y_18 (29 : Nat) [PD.int .i64 y_11, PD.int .i64 y_12, PD.int .i64 y_13, PD.int .i64 y_14]).at (some (y_18, (0 : Nat))) y_19)) (Out.ex (List PD) fun y_20 => Out.need (y_20.length = y_9 * (4 : Nat) ∧ (y_9 = (0 : Nat) ∨ (p.put y_18 (29 : Nat) [PD.int .i64 y_11, PD.int .i64 y_12, PD.int .i64 y_13, PD.int .i64 y_14]).at y_8 y_20)) (Out.need (y_9 ≤ y_10 ∧ y_9 + (1 : Nat) ≤ (4294967296 : Nat) ∧ (y_9 + (1 : Nat)) * (32 : Nat) ≤ (140737488355328 : Nat)) (Out.ite (decide (y_9 + (1 : Nat) ≤ y_10)) (Out.need ((1 : Nat) = (0 : Nat) ∨ (p.put y_18 (29 : Nat) [PD.int .i64 y_11, PD.int .i64 y_12, PD.int .i64 y_13, PD.int .i64 y_14]).has (shiftA y_8 (y_9 * (4 : Nat))) (4 : Nat)) (Out.need ((0 : Int) ≤ idxF (mixF y_4.snd.snd.seed y) (0 : Int) (↑y_2 : Int) ∧ idxF (mixF y_4.snd.snd.seed y) (0 : Int) (↑y_2 : Int) < (↑y_16 : Int) ∧ y_15.isSome = true) (Out.need (((p.put y_18 (29 : Nat) [PD.int .i64 y_11, PD.int .i64 y_12, PD.int .i64 y_13, PD.int .i64 y_14]).set (shiftA y_8 (y_9 * (4 : Nat))) y_19).has (shiftA y_15 ((idxF (mixF y_4.snd.snd.seed y) (0 : Int) (↑y_2 : Int)).toNat * (1 : Nat))) (1 : Nat)) (Out.stop EX.nx {env := [((0 : Nat), AV.rp (some (b, (0 : Nat)))), ((2 : Nat), AV.rs w.fst w.snd.1 w.snd.2), ((3 : Nat), .int .i64 (IntKind.i64.wrap ((↑i : Int) + (1 : Int))))], heap := [((0 : Nat), Blk.pool (((p.put y_18 (29 : Nat) [PD.int .i64 y_11, PD.int .i64 y_12, PD.int .i64 y_13, PD.int .i64 y_14]).set (shiftA y_8 (y_9 * (4 : Nat))) y_19).set (shiftA y_15 ((idxF (mixF y_4.snd.snd.seed y) (0 : Int) (↑y_2 : Int)).toNat * (1 : Nat))) [PD.sl y_8 (y_9 + (1 : Nat)) y_10]))], nx := (6 : Nat), nt := (78 : Nat), tl := [(0 : Nat), (0 : Nat), (0 : Nat), (1 : Nat), (2 : Nat), (3 : Nat), (4 : Nat), (5 : Nat), (6 : Nat), (7 : Nat), (8 : Nat), (9 : Nat), (10 : Nat), (11 : Nat), (12 : Nat), (13 : Nat), (14 : Nat), (15 : Nat), (16 : Nat)] : St V })))) (Out.all Nat fun y_21 => Out.all Nat fun y_22 => Out.asm (p.put y_18 (29 : Nat) [PD.int .i64 y_11, PD.int .i64 y_12, PD.int .i64 y_13, PD.int .i64 y_14] y_21 = none) (Out.need ((0 : Int) ≤ idxF (mixF y_4.snd.snd.seed y) (0 : Int) (↑y_2 : Int) ∧ idxF (mixF y_4.snd.snd.seed y) (0 : Int) (↑y_2 : Int) < (↑y_16 : Int) ∧ y_15.isSome = true) (Out.need (((p.put y_18 (29 : Nat) [PD.int .i64 y_11, PD.int .i64 y_12, PD.int .i64 y_13, PD.int .i64 y_14]).put y_21 (29 : Nat) (y_20 ++ y_19 ++ (List.replicate y_22 [PD.int .i64 (0 : Int), PD.int .i64 (0 : Int), PD.int .i64 (0 : Int), PD.int .i64 (0 : Int)]).flatten)).has (shiftA y_15 ((idxF (mixF y_4.snd.snd.seed y) (0 : Int) (↑y_2 : Int)).toNat * (1 : Nat))) (1 : Nat)) (Out.stop EX.nx {env := [((0 : Nat), AV.rp (some (b, (0 : Nat)))), ((2 : Nat), AV.rs w.fst w.snd.1 w.snd.2), ((3 : Nat), .int .i64 (IntKind.i64.wrap ((↑i : Int) + (1 : Int))))], heap := [((0 : Nat), Blk.pool (((p.put y_18 (29 : Nat) [PD.int .i64 y_11, PD.int .i64 y_12, PD.int .i64 y_13, PD.int .i64 y_14]).put y_21 (29 : Nat) (y_20 ++ y_19 ++ (List.replicate y_22 [PD.int .i64 (0 : Int), PD.int .i64 (0 : Int), PD.int .i64 (0 : Int), PD.int .i64 (0 : Int)]).flatten)).set (shiftA y_15 ((idxF (mixF y_4.snd.snd.seed y) (0 : Int) (↑y_2 : Int)).toNat * (1 : Nat))) [PD.sl (some (y_21, (0 : Nat))) (y_9 + (1 : Nat)) (y_9 + (1 : Nat) + y_22)]))], nx := (6 : Nat), nt := (78 : Nat), tl := [(0 : Nat), (0 : Nat), (1 : Nat), (2 : Nat), (3 : Nat), (4 : Nat), (5 : Nat), (6 : Nat), (7 : Nat), (8 : Nat), (9 : Nat), (10 : Nat), (11 : Nat), (12 : Nat), (13 : Nat), (14 : Nat), (15 : Nat), (16 : Nat)] : St V })))))))))).both (Out.all Nat fun y_15 => Out.asm (p y_15 = none) ((Out.ex (Option (Nat × Nat)) fun y_16 => Out.ex Nat fun y_17 => Out.ex Nat fun y_18 => Out.need ((p.put y_15 (29 : Nat) [PD.int .i64 y_11, PD.int .i64 y_12, PD.int .i64 y_13, PD.int .i64 y_14]).at (shiftA (some (b, (0 : Nat))) (0 : Nat)) [PD.sl y_16 y_17 y_18]) (Out.ex (List PD) fun y_19 => Out.need (y_19.length = (4 : Nat) ∧ ((1 : Nat) = (0 : Nat) ∨ (p.put y_15 (29 : Nat) [PD.int .i64 y_11, PD.int .i64 y_12, PD.int .i64 y_13, PD.int .i64 y_14]).at (some (y_15, (0 : Nat))) y_19)) (Out.ex (List PD) fun y_20 => Out.need (y_20.length = y_9 * (4 : Nat) ∧ (y_9 = (0 : Nat) ∨ (p.put y_15 (29 : Nat) [PD.int .i64 y_11, PD.int .i64 y_12, PD.int .i64 y_13, PD.int .i64 y_14]).at y_8 y_20)) (Out.need (y_9 ≤ y_10 ∧ y_9 + (1 : Nat) ≤ (4294967296 : Nat) ∧ (y_9 + (1 : Nat)) * (32 : Nat) ≤ (140737488355328 : Nat)) (Out.ite (decide (y_9 + (1 : Nat) ≤ y_10)) (Out.need ((1 : Nat) = (0 : Nat) ∨ (p.put y_15 (29 : Nat) [PD.int .i64 y_11, PD.int .i64 y_12, PD.int .i64 y_13, PD.int .i64 y_14]).has (shiftA y_8 (y_9 * (4 : Nat))) (4 : Nat)) (Out.need ((0 : Int) ≤ idxF (mixF y_4.snd.snd.seed y) (0 : Int) (↑y_2 : Int) ∧ idxF (mixF y_4.snd.snd.seed y) (0 : Int) (↑y_2 : Int) < (↑y_17 : Int) ∧ y_16.isSome = true) (Out.need (((p.put y_15 (29 : Nat) [PD.int .i64 y_11, PD.int .i64 y_12, PD.int .i64 y_13, PD.int .i64 y_14]).set (shiftA y_8 (y_9 * (4 : Nat))) y_19).has (shiftA y_16 ((idxF (mixF y_4.snd.snd.seed y) (0 : Int) (↑y_2 : Int)).toNat * (1 : Nat))) (1 : Nat)) (Out.stop EX.nx {env := [((0 : Nat), AV.rp (some (b, (0 : Nat)))), ((2 : Nat), AV.rs w.fst w.snd.1 w.snd.2), ((3 : Nat), .int .i64 (IntKind.i64.wrap ((↑i : Int) + (1 : Int))))], heap := [((0 : Nat), Blk.pool (((p.put y_15 (29 : Nat) [PD.int .i64 y_11, PD.int .i64 y_12, PD.int .i64 y_13, PD.int .i64 y_14]).set (shiftA y_8 (y_9 * (4 : Nat))) y_19).set (shiftA y_16 ((idxF (mixF y_4.snd.snd.seed y) (0 : Int) (↑y_2 : Int)).toNat * (1 : Nat))) [PD.sl y_8 (y_9 + (1 : Nat)) y_10]))], nx := (6 : Nat), nt := (78 : Nat), tl := [(0 : Nat), (0 : Nat), (0 : Nat), (1 : Nat), (2 : Nat), (3 : Nat), (4 : Nat), (5 : Nat), (6 : Nat), (7 : Nat), (8 : Nat), (9 : Nat), (10 : Nat), (11 : Nat), (12 : Nat), (13 : Nat), (14 : Nat), (15 : Nat), (16 : Nat)] : St V })))) (Out.all Nat fun y_21 => Out.all Nat fun y_22 => Out.asm (p.put y_15 (29 : Nat) [PD.int .i64 y_11, PD.int .i64 y_12, PD.int .i64 y_13, PD.int .i64 y_14] y_21 = none) (Out.need ((0 : Int) ≤ idxF (mixF y_4.snd.snd.seed y) (0 : Int) (↑y_2 : Int) ∧ idxF (mixF y_4.snd.snd.seed y) (0 : Int) (↑y_2 : Int) < (↑y_17 : Int) ∧ y_16.isSome = true) (Out.need (((p.put y_15 (29 : Nat) [PD.int .i64 y_11, PD.int .i64 y_12, PD.int .i64 y_13, PD.int .i64 y_14]).put y_21 (29 : Nat) (y_20 ++ y_19 ++ (List.replicate y_22 [PD.int .i64 (0 : Int), PD.int .i64 (0 : Int), PD.int .i64 (0 : Int), PD.int .i64 (0 : Int)]).flatten)).has (shiftA y_16 ((idxF (mixF y_4.snd.snd.seed y) (0 : Int) (↑y_2 : Int)).toNat * (1 : Nat))) (1 : Nat)) (Out.stop EX.nx {env := [((0 : Nat), AV.rp (some (b, (0 : Nat)))), ((2 : Nat), AV.rs w.fst w.snd.1 w.snd.2), ((3 : Nat), .int .i64 (IntKind.i64.wrap ((↑i : Int) + (1 : Int))))], heap := [((0 : Nat), Blk.pool (((p.put y_15 (29 : Nat) [PD.int .i64 y_11, PD.int .i64 y_12, PD.int .i64 y_13, PD.int .i64 y_14]).put y_21 (29 : Nat) (y_20 ++ y_19 ++ (List.replicate y_22 [PD.int .i64 (0 : Int), PD.int .i64 (0 : Int), PD.int .i64 (0 : Int), PD.int .i64 (0 : Int)]).flatten)).set (shiftA y_16 ((idxF (mixF y_4.snd.snd.seed y) (0 : Int) (↑y_2 : Int)).toNat * (1 : Nat))) [PD.sl (some (y_21, (0 : Nat))) (y_9 + (1 : Nat)) (y_9 + (1 : Nat) + y_22)]))], nx := (6 : Nat), nt := (78 : Nat), tl := [(0 : Nat), (0 : Nat), (1 : Nat), (2 : Nat), (3 : Nat), (4 : Nat), (5 : Nat), (6 : Nat), (7 : Nat), (8 : Nat), (9 : Nat), (10 : Nat), (11 : Nat), (12 : Nat), (13 : Nat), (14 : Nat), (15 : Nat), (16 : Nat)] : St V }))))))))).both (Out.ex (List PD) fun y_16 => Out.need (y_16.length = (4 : Nat) ∧ ((1 : Nat) = (0 : Nat) ∨ (p.put y_15 (29 : Nat) [PD.int .i64 y_11, PD.int .i64 y_12, PD.int .i64 y_13, PD.int .i64 y_14]).at (some (y_15, (0 : Nat))) y_16)) (Out.ex (List PD) fun y_17 => Out.need (y_17.length = y_9 * (4 : Nat) ∧ (y_9 = (0 : Nat) ∨ (p.put y_15 (29 : Nat) [PD.int .i64 y_11, PD.int .i64 y_12, PD.int .i64 y_13, PD.int .i64 y_14]).at y_8 y_17)) (Out.need (y_9 ≤ y_10 ∧ y_9 + (1 : Nat) ≤ (4294967296 : Nat) ∧ (y_9 + (1 : Nat)) * (32 : Nat) ≤ (140737488355328 : Nat)) (Out.ite (decide (y_9 + (1 : Nat) ≤ y_10)) (Out.need ((1 : Nat) = (0 : Nat) ∨ (p.put y_15 (29 : Nat) [PD.int .i64 y_11, PD.int .i64 y_12, PD.int .i64 y_13, PD.int .i64 y_14]).has (shiftA y_8 (y_9 * (4 : Nat))) (4 : Nat)) (Out.ex (Option (Nat × Nat)) fun y_18 => Out.ex Nat fun y_19 => Out.ex Nat fun y_20 => Out.need (((p.put y_15 (29 : Nat) [PD.int .i64 y_11, PD.int .i64 y_12, PD.int .i64 y_13, PD.int .i64 y_14]).set (shiftA y_8 (y_9 * (4 : Nat))) y_16).at (shiftA (some (b, (0 : Nat))) (0 : Nat)) [PD.sl y_18 y_19 y_20]) (Out.need ((0 : Int) ≤ idxF (mixF y_4.snd.snd.seed y) (0 : Int) (↑y_2 : Int) ∧ idxF (mixF y_4.snd.snd.seed y) (0 : Int) (↑y_2 : Int) < (↑y_19 : Int) ∧ y_18.isSome = true) (Out.need (((p.put y_15 (29 : Nat) [PD.int .i64 y_11, PD.int .i64 y_12, PD.int .i64 y_13, PD.int .i64 y_14]).set (shiftA y_8 (y_9 * (4 : Nat))) y_16).has (shiftA y_18 ((idxF (mixF y_4.snd.snd.seed y) (0 : Int) (↑y_2 : Int)).toNat * (1 : Nat))) (1 : Nat)) (Out.stop EX.nx {env := [((0 : Nat), AV.rp (some (b, (0 : Nat)))), ((2 : Nat), AV.rs w.fst w.snd.1 w.snd.2), ((3 : Nat), .int .i64 (IntKind.i64.wrap ((↑i : Int) + (1 : Int))))], heap := [((0 : Nat), Blk.pool (((p.put y_15 (29 : Nat) [PD.int .i64 y_11, PD.int .i64 y_12, PD.int .i64 y_13, PD.int .i64 y_14]).set (shiftA y_8 (y_9 * (4 : Nat))) y_16).set (shiftA y_18 ((idxF (mixF y_4.snd.snd.seed y) (0 : Int) (↑y_2 : Int)).toNat * (1 : Nat))) [PD.sl y_8 (y_9 + (1 : Nat)) y_10]))], nx := (6 : Nat), nt := (78 : Nat), tl := [(0 : Nat), (0 : Nat), (0 : Nat), (1 : Nat), (2 : Nat), (3 : Nat), (4 : Nat), (5 : Nat), (6 : Nat), (7 : Nat), (8 : Nat), (9 : Nat), (10 : Nat), (11 : Nat), (12 : Nat), (13 : Nat), (14 : Nat), (15 : Nat), (16 : Nat)] : St V }))))) (Out.all Nat fun y_18 => Out.all Nat fun y_19 => Out.asm (p.put y_15 (29 : Nat) [PD.int .i64 y_11, PD.int .i64 y_12, PD.int .i64 y_13, PD.int .i64 y_14] y_18 = none) (Out.ex (Option (Nat × Nat)) fun y_20 => Out.ex Nat fun y_21 => Out.ex Nat fun y_22 => Out.need (((p.put y_15 (29 : Nat) [PD.int .i64 y_11, PD.int .i64 y_12, PD.int .i64 y_13, PD.int .i64 y_14]).put y_18 (29 : Nat) (y_17 ++ y_16 ++ (List.replicate y_19 [PD.int .i64 (0 : Int), PD.int .i64 (0 : Int), PD.int .i64 (0 : Int), PD.int .i64 (0 : Int)]).flatten)).at (shiftA (some (b, (0 : Nat))) (0 : Nat)) [PD.sl y_20 y_21 y_22]) (Out.need ((0 : Int) ≤ idxF (mixF y_4.snd.snd.seed y) (0 : Int) (↑y_2 : Int) ∧ idxF (mixF y_4.snd.snd.seed y) (0 : Int) (↑y_2 : Int) < (↑y_21 : Int) ∧ y_20.isSome = true) (Out.need (((p.put y_15 (29 : Nat) [PD.int .i64 y_11, PD.int .i64 y_12, PD.int .i64 y_13, PD.int .i64 y_14]).put y_18 (29 : Nat) (y_17 ++ y_16 ++ (List.replicate y_19 [PD.int .i64 (0 : Int), PD.int .i64 (0 : Int), PD.int .i64 (0 : Int), PD.int .i64 (0 : Int)]).flatten)).has (shiftA y_20 ((idxF (mixF y_4.snd.snd.seed y) (0 : Int) (↑y_2 : Int)).toNat * (1 : Nat))) (1 : Nat)) (Out.stop EX.nx {env := [((0 : Nat), AV.rp (some (b, (0 : Nat)))), ((2 : Nat), AV.rs w.fst w.snd.1 w.snd.2), ((3 : Nat), .int .i64 (IntKind.i64.wrap ((↑i : Int) + (1 : Int))))], heap := [((0 : Nat), Blk.pool (((p.put y_15 (29 : Nat) [PD.int .i64 y_11, PD.int .i64 y_12, PD.int .i64 y_13, PD.int .i64 y_14]).put y_18 (29 : Nat) (y_17 ++ y_16 ++ (List.replicate y_19 [PD.int .i64 (0 : Int), PD.int .i64 (0 : Int), PD.int .i64 (0 : Int), PD.int .i64 (0 : Int)]).flatten)).set (shiftA y_20 ((idxF (mixF y_4.snd.snd.seed y) (0 : Int) (↑y_2 : Int)).toNat * (1 : Nat))) [PD.sl (some (y_18, (0 : Nat))) (y_9 + (1 : Nat)) (y_9 + (1 : Nat) + y_19)]))], nx := (6 : Nat), nt := (78 : Nat), tl := [(0 : Nat), (0 : Nat), (1 : Nat), (2 : Nat), (3 : Nat), (4 : Nat), (5 : Nat), (6 : Nat), (7 : Nat), (8 : Nat), (9 : Nat), (10 : Nat), (11 : Nat), (12 : Nat), (13 : Nat), (14 : Nat), (15 : Nat), (16 : Nat)] : St V })))))))))))))))))))))))))))) (Out.stop (EX.ex (0 : Nat)) {env := [((0 : Nat), AV.rp (some (b, (0 : Nat)))), ((2 : Nat), AV.rs w.fst w.snd.1 w.snd.2), ((3 : Nat), .int .i64 (↑i : Int))], heap := [((0 : Nat), Blk.pool p)], nx := (3 : Nat), nt := (78 : Nat), tl := [(0 : Nat), (1 : Nat), (2 : Nat), (3 : Nat), (4 : Nat), (5 : Nat), (6 : Nat), (7 : Nat), (8 : Nat), (9 : Nat), (10 : Nat), (11 : Nat), (12 : Nat), (13 : Nat), (14 : Nat), (15 : Nat), (16 : Nat)] : St V }) := by kernel_rfl

theorem rtnew (p : Pool) (s : Int) : runF cfgY 60 19 Try.f19 [.int .i64 s] [(0, .pool p)] 2 = Out.need ((0 : Int) ≤ (8 : Int) ∧ (8 : Int) ≤ (8 : Int) ∧ (8 : Int) ≤ (4294967296 : Int) ∧ (24 : Nat) ≤ (64 : Nat)) (Out.all Nat fun y => Out.asm (p y = none) (Out.all Nat fun y_1 => Out.asm (p.put y (34 : Nat) (List.replicate (8 : Nat) (PD.sl none (0 : Nat) (0 : Nat))) y_1 = none) (Out.fin (AV.rp (some (y_1, (0 : Nat)))) [((0 : Nat), Blk.pool ((p.put y (34 : Nat) (List.replicate (8 : Nat) (PD.sl none (0 : Nat) (0 : Nat)))).put y_1 (43 : Nat) [PD.sl (some (y, (0 : Nat))) (8 : Nat) (8 : Nat), PD.sl none (0 : Nat) (0 : Nat), PD.int .i64 (0 : Int), PD.int .i64 s]))] (4 : Nat)))) := by kernel_rfl

end Sx
end Go.Proofs.Ytkadlfadmjhahaa

/-
  The document on tables, moving: what one entry does.
-/
namespace Go.Proofs.Ytkadlfadmjhahaa
namespace Sx
open Go
set_option linter.unusedSimpArgs false
set_option linter.unusedVariables false

theorem tabY_met : tabY.met Try.prog := by
  intro t R h
  unfold tabY at h
  split at h
  · cases h; exact ⟨ty29_met.kind, ty29_met.info, ty29_met.cmp⟩
  · cases h; exact ⟨ty34_met.kind, ty34_met.info, ty34_met.cmp⟩
  · cases h; exact ⟨ty43_met.kind, ty43_met.info, ty43_met.cmp⟩
  · exact tab_met t R h
theorem kindsY_met : kinds.met tabY := by
  intro e k h
  unfold kinds at h
  split at h <;> cases h
  · exact ⟨ty3, rfl, rfl, rfl, by decide, fun r vs h => h⟩
  · exact ⟨ty4, rfl, rfl, rfl, by decide, fun r vs h => h⟩
  · exact ⟨{ ty29 with pool := true }, rfl, rfl, rfl, by decide, fun r vs h => h⟩
  · exact ⟨ty24, rfl, rfl, rfl, by decide, fun r vs h => h⟩
  · exact ⟨ty27, rfl, rfl, rfl, by decide, fun r vs h => h⟩
  · exact ⟨ty26, rfl, rfl, rfl, by decide, fun r vs h => rsBack [.nilS] (none, 0, 0) rfl r vs h⟩
theorem cfgY_ok : cfgY.ok := ⟨tabY_met, kindsY_met, mixed_met, fun g fn h => (by cases h), hooksR3_ok⟩

/-! ## what is written into the table itself -/
theorem RAt.moved {p : Pool} {b : Nat} {L : RL} {t : TM} (h : RAt p b L t) : RAt (p.set (some (b, 2)) [.int .i64 ((t.moved + 1 : Nat) : Int)]) b L { t with moved := t.moved + 1 } := by
  have hp : ∀ x, x ≠ b → p.set (some (b, 2)) [.int .i64 ((t.moved + 1 : Nat) : Int)] x = p x := fun x hx => by show (if x = b then _ else p x) = p x; rw [if_neg hx]
  refine ⟨?_, ?_, fun hO => ?_, h.bl, h.ol, fun i hi => ?_, fun i h1 h2 => ?_, h.l1, h.l2, h.l3, h.l4, fun i h1 h2 => h.l5 i (by have h1 : t.moved + 1 ≤ i := h1; omega) h2, fun n hn => set_some (h.l6 n hn)⟩
  · show (if b = b then (p b).map (fun q => (q.1, setAt q.2 2 _)) else p b) = _
    rw [if_pos rfl, h.self]; rfl
  · rw [hp L.bb (fun e => by have := h.l1; rw [← e, h.l2] at this; cases this)]; exact h.brow
  · rw [hp L.ob (fun e => by have := h.l1; rw [← e, h.l3 hO] at this; cases this)]; exact h.orow hO
  · exact (h.bs i hi).same fun x hx => hp x fun e => by have := h.l4 i hi x hx; rw [e, h.l1] at this; cases this
  · have h1 : t.moved + 1 ≤ i := h1
    exact (h.os i (by omega) h2).same fun x hx => hp x fun e => by have := h.l5 i (by omega) h2 x hx; rw [e, h.l1] at this; cases this
theorem RAt.done {p : Pool} {b : Nat} {L : RL} {t : TM} (h : RAt p b L t) : RAt ((p.set (some (b, 1)) [.sl none 0 0]).set (some (b, 2)) [.int .i64 0]) b { L with O := [], lab := fun n => match L.lab n with | .o => .no | .ro _ => .no | a => a } { t with O := [], moved := 0 } := by
  have hp : ∀ x, x ≠ b → (p.set (some (b, 1)) [.sl none 0 0]).set (some (b, 2)) [.int .i64 0] x = p x := fun x hx => by
    show (if x = b then _ else (if x = b then _ else p x)) = p x
    rw [if_neg hx, if_neg hx]
  refine ⟨?_, ?_, fun hO => absurd rfl hO, h.bl, rfl, fun i hi => ?_, fun i h1 h2 => absurd h2 (by simp), by show (match L.lab b with | .o => RLab.no | .ro _ => .no | a => a) = _; rw [h.l1], by show (match L.lab L.bb with | .o => RLab.no | .ro _ => .no | a => a) = _; rw [h.l2], fun hO => absurd rfl hO, fun i hi n hn => ?_, fun i h1 h2 => absurd h2 (by simp), fun n hn => ?_⟩
  · show (if b = b then ((p.set (some (b, 1)) [.sl none 0 0]) b).map (fun q => (q.1, setAt q.2 2 _)) else _) = _
    rw [if_pos rfl]
    show ((if b = b then (p b).map (fun q => (q.1, setAt q.2 1 _)) else p b)).map (fun q => (q.1, setAt q.2 2 _)) = _
    rw [if_pos rfl, h.self]; rfl
  · show _ = some (34, L.B.map rwd)
    rw [hp L.bb (fun e => by have := h.l1; rw [← e, h.l2] at this; cases this)]; exact h.brow
  · exact (h.bs i hi).same fun x hx => hp x fun e => by have := h.l4 i hi x hx; rw [e, h.l1] at this; cases this
  · show (match L.lab n with | .o => RLab.no | .ro _ => .no | a => a) = _
    rw [h.l4 i hi n hn]
  · have hn : (match L.lab n with | .o => RLab.no | .ro _ => .no | a => a) ≠ .no := hn
    exact set_some (set_some (h.l6 n (fun e => hn (by rw [e]))))

/-! ## one entry more at its place -/
theorem insAll_app : ∀ (a : List Ent) (t : TM) (c : List Ent), insAll t (a ++ c) = insAll (insAll t a) c
  | [], _, _ => rfl
  | e :: a, t, c => insAll_app a (insE t e) c
theorem ins_B {t : TM} {e : Ent} (h : t.inOld e.key = false) : insE t e = { t with B := t.B.set (idxN t.seed e.key t.B.length) (t.B.getD (idxN t.seed e.key t.B.length) [] ++ [e]) } := by
  unfold insE TM.with_ TM.chain
  rw [if_neg (by rw [h]; decide), if_neg (by rw [h]; decide)]
/-- The row at a place of the buckets grows by one, in its own block or in a new one. -/
theorem RAt.grow {p : Pool} {b : Nat} {L : RL} {t : TM} (h : RAt p b L t) {k : Nat} (hk : k < t.B.length) (e : Ent) {n sp : Nat} (hn : p n = none) (zs : List PD) (hz : zs.length = 4) :
    RAt ((p.put n 29 (flats (t.B.getD k []) ++ flatE e ++ (List.replicate sp zs).flatten)).set (some (L.bb, k)) [.sl (some (n, 0)) ((t.B.getD k []).length + 1) ((t.B.getD k []).length + 1 + sp)]) b
      { L with B := L.B.set k (some (n, 0), (t.B.getD k []).length + 1, (t.B.getD k []).length + 1 + sp), lab := labR L (some (n, 0), (t.B.getD k []).length + 1, (t.B.getD k []).length + 1 + sp) (.rb k) }
      { t with B := t.B.set k (t.B.getD k [] ++ [e]) } := by
  have hfl : flats (t.B.getD k []) ++ flatE e = flats (t.B.getD k [] ++ [e]) := by rw [flats_app]; simp [flats]
  have hrow := row_new (p := p) (n := n) (t.B.getD k [] ++ [e]) sp zs hz
  rw [← hfl, List.length_append, List.length_singleton] at hrow
  exact (h.put hn).setB hk hrow fun m hm => by
    unfold own at hm
    split at hm
    · cases hm
    · cases hm; exact .inl (h.no hn)
theorem RAt.growIn {p : Pool} {b : Nat} {L : RL} {t : TM} (h : RAt p b L t) {k : Nat} (hk : k < t.B.length) (e : Ent) {n len cap : Nat} (hw : L.B.getD k w0 = (some (n, 0), len, cap)) (hc : len + 1 ≤ cap) :
    RAt ((p.set (some (n, len * 4)) (flatE e)).set (some (L.bb, k)) [.sl (some (n, 0)) (len + 1) cap]) b { L with B := L.B.set k (some (n, 0), len + 1, cap), lab := labR L (some (n, 0), len + 1, cap) (.rb k) } { t with B := t.B.set k (t.B.getD k [] ++ [e]) } := by
  obtain ⟨h1, h2⟩ := h.spare hk hw hc e
  refine h1.setB hk h2 fun m hm => ?_
  have hown : own (L.B.getD k w0) = some n := by rw [hw]; unfold own; rw [if_neg (by show ¬ cap = 0; omega)]; rfl
  unfold own at hm
  split at hm
  · cases hm
  · cases hm; exact .inr (h.l4 k hk n hown)

end Sx
end Go.Proofs.Ytkadlfadmjhahaa

/-
  The document on tables, moving: the run of the machine.
-/
namespace Go.Proofs.Ytkadlfadmjhahaa
namespace Sx
open Go
set_option maxRecDepth 100000
set_option linter.unusedVariables false

structure PMw where
  b : Nat
  w : Rwp
  l : List Ent
  t1 : TM
  m : Nat
  p0 : Pool
  L0 : RL
  hin : ∀ e ∈ l, idxN t1.seed e.key t1.O.length = m
  hmv : t1.moved = m + 1
  hcore : ∀ i, i ≤ l.length → (insAll t1 (l.take i)).Core
  hmax : l.length ≤ 1000000
  hlen : ∀ i k, i ≤ l.length → ((insAll t1 (l.take i)).B.getD k []).length ≤ 1000000
  h0 : RAt p0 b L0 t1
  h1 : RowP p0 w l
  h2 : ∀ n, own w = some n → L0.lab n = .ro m
structure XMw where
  i : Nat
  p : Pool
  L : RL
structure JMw (q : PMw) (z : XMw) : Prop where
  le : z.i ≤ q.l.length
  at_ : RAt z.p q.b z.L (insAll q.t1 (q.l.take z.i))
  row : RowP z.p q.w q.l
  own : ∀ n, own q.w = some n → z.L.lab n = .ro q.m
def LMv : LoopS V := trimLoop (trimSt [0, 2, 3] [0]) (loopH 3 (fun q : PMw => MvI q.b q.w 0 q.p0) (fun q (z : XMw) => JMw q z ∧ z.i = q.l.length) (fun q z => MvI q.b q.w z.i z.p))
noncomputable def cfgYM : Cfg Try.prog V := ⟨tabY, kinds, fun _ => none, hooksR3, fun f id => match f, id with | 37, 0 => some LMv | _, _ => none⟩
theorem rtmove (p : Pool) (b : Nat) : runF cfgYM 60 37 Try.f37 [.rp (some (b, 0))] [(0, .pool p)] 2 = Out.ex RZ fun y => Out.need (RIn p y (some (b, (0 : Nat)))) (Out.ite ((↑y.snd.snd.left : Int) == (0 : Int)) (Out.fin (.tup []) [((0 : Nat), Blk.pool p)] (2 : Nat)) (Out.need ((some (b, (0 : Nat))).isSome = true) (Out.need ((some (b, (0 : Nat))).isSome = true) (Out.ex (Option (Nat × Nat)) fun y => Out.ex Nat fun y_1 => Out.ex Nat fun y_2 => Out.need (p.at (shiftA (some (b, (0 : Nat))) (1 : Nat)) [PD.sl y y_1 y_2]) (Out.need ((some (b, (0 : Nat))).isSome = true) (Out.need ((some (b, (0 : Nat))).isSome = true) (Out.ex Int fun y_3 => Out.need (p.at (shiftA (some (b, (0 : Nat))) (2 : Nat)) [PD.int .i64 y_3]) (Out.need ((0 : Int) ≤ y_3 ∧ y_3 < (↑y_1 : Int) ∧ y.isSome = true) (Out.ex (Option (Nat × Nat)) fun y_4 => Out.ex Nat fun y_5 => Out.ex Nat fun y_6 => Out.need (p.at (shiftA y (y_3.toNat * (1 : Nat))) [PD.sl y_4 y_5 y_6]) (Out.need ((some (b, (0 : Nat))).isSome = true) (Out.need ((some (b, (0 : Nat))).isSome = true) (Out.ex Int fun y => Out.need (p.at (shiftA (some (b, (0 : Nat))) (2 : Nat)) [PD.int .i64 y]) (Out.need ((some (b, (0 : Nat))).isSome = true) (Out.need ((some (b, (0 : Nat))).isSome = true) (Out.need (p.has (shiftA (some (b, (0 : Nat))) (2 : Nat)) (1 : Nat)) (Out.need (LoopFor Try.prog (37 : Nat) (0 : Nat) (loopOf Try.f37 (0 : Nat)) LMv) (Out.ex (PMw → Prop) fun y_7 => Out.need ((3 : Nat) ≤ (3 : Nat) ∧ SImp (3 : Nat) {env := [((0 : Nat), AV.rp (some (b, (0 : Nat)))), ((2 : Nat), AV.rs y_4 y_5 y_6), ((3 : Nat), .lit .i64 (0 : Int))], heap := [((0 : Nat), Blk.pool (p.set (shiftA (some (b, (0 : Nat))) (2 : Nat)) [PD.int .i64 (IntKind.i64.wrap (y + (1 : Int)))]))], nx := (3 : Nat), nt := (78 : Nat), tl := [(0 : Nat)] : St V } (fun q => MvI q.1 q.w (0 : Nat) q.p0) y_7) (Out.all PMw fun y => Out.asm (y_7 y) (Out.all XMw fun y_8 => Out.asm ((fun q z => JMw q z ∧ z.1 = q.l.length) y y_8) (Out.need ((some (y.1, (0 : Nat))).isSome = true) (Out.need ((some (y.1, (0 : Nat))).isSome = true) (Out.ex Int fun y_9 => Out.need (y_8.p.at (shiftA (some (y.1, (0 : Nat))) (2 : Nat)) [PD.int .i64 y_9]) (Out.need ((some (y.1, (0 : Nat))).isSome = true) (Out.need ((some (y.1, (0 : Nat))).isSome = true) (Out.ex (Option (Nat × Nat)) fun y_10 => Out.ex Nat fun y_11 => Out.ex Nat fun y_12 => Out.need (y_8.p.at (shiftA (some (y.1, (0 : Nat))) (1 : Nat)) [PD.sl y_10 y_11 y_12]) (Out.ite (y_9 == (↑y_11 : Int)) (Out.need ((some (y.1, (0 : Nat))).isSome = true) (Out.need ((some (y.1, (0 : Nat))).isSome = true) (Out.need (y_8.p.has (shiftA (some (y.1, (0 : Nat))) (1 : Nat)) (1 : Nat)) (Out.need ((some (y.1, (0 : Nat))).isSome = true) (Out.need ((some (y.1, (0 : Nat))).isSome = true) (Out.need ((y_8.p.set (shiftA (some (y.1, (0 : Nat))) (1 : Nat)) [PD.sl none (0 : Nat) (0 : Nat)]).has (shiftA (some (y.1, (0 : Nat))) (2 : Nat)) (1 : Nat)) (Out.fin (.tup []) [((0 : Nat), Blk.pool ((y_8.p.set (shiftA (some (y.1, (0 : Nat))) (1 : Nat)) [PD.sl none (0 : Nat) (0 : Nat)]).set (shiftA (some (y.1, (0 : Nat))) (2 : Nat)) [PD.int .i64 (0 : Int)]))] (5 : Nat)))))))) (Out.fin (.tup []) [((0 : Nat), Blk.pool y_8.p)] (3 : Nat)))))))))))))))))))))))))))) := by kernel_rfl

end Sx
end Go.Proofs.Ytkadlfadmjhahaa

/-
  The document on tables: a bucket is moved.
-/
namespace Go.Proofs.Ytkadlfadmjhahaa
namespace Sx
open Go
set_option linter.unusedSimpArgs false
set_option linter.unusedVariables false

theorem RowP.all {p : Pool} {o : Option (Nat × Nat)} {len cap : Nat} {l : List Ent} (h : RowP p (o, len, cap) l) : len = 0 ∨ p.at o (flats l) := by
  have hl : len = l.length := h.len
  have hle : l.length ≤ cap := h.le
  rcases h.ex with h0 | ⟨n, cs, h1, h2, h3, h4⟩
  · have h0 : cap = 0 := h0; exact .inl (by omega)
  · refine .inr ⟨n, 0, 29, cs, h1, h2, ?_, ?_⟩
    · rw [flats_len, h3]; show 0 + _ ≤ cap * 4; omega
    · rw [List.drop_zero, flats_len]; exact h4
theorem RowP.room {p : Pool} {o : Option (Nat × Nat)} {len cap : Nat} {l : List Ent} (h : RowP p (o, len, cap) l) (hc : len + 1 ≤ cap) : ∃ n, o = some (n, 0) ∧ p.has (shiftA o (len * 4)) 4 := by
  rcases h.ex with h0 | ⟨n, cs, h1, h2, h3, h4⟩
  · have h0 : cap = 0 := h0; omega
  · have h1 : o = some (n, 0) := h1
    have h3 : cs.length = cap * 4 := h3
    exact ⟨n, h1, n, len * 4, 29, cs, by rw [h1]; simp, h2, by omega⟩
theorem RowP.setOther {p : Pool} {w : Rwp} {l : List Ent} (h : RowP p w l) {m i : Nat} {ds : List PD} (hm : ∀ n, own w = some n → n ≠ m) : RowP (p.set (some (m, i)) ds) w l :=
  h.same fun x hx => by show (if x = m then _ else p x) = p x; rw [if_neg (hm x hx)]
theorem put_at {p : Pool} {n T : Nat} {ds : List PD} : (p.put n T ds).at (some (n, 0)) ds := ⟨n, 0, T, ds, rfl, by unfold Pool.put; rw [if_pos rfl], by simp, by simp⟩

theorem mwbody (q : PMw) (z : XMw) (h : JMw q z) (Q : EX → St V → Prop) (F : AV → Heap V → Nat → Prop)
    (hnx : ∀ (ST : St V) (y : XMw), z.i < q.l.length → JMw q y → y.i = z.i + 1 → Wk 3 [] ST (MvI q.b q.w y.i y.p) → Q .nx ST) (hex : ∀ ST : St V, z.i = q.l.length → Wk 3 [] ST (MvI q.b q.w z.i z.p) → Q (.ex 0) ST) :
    (runCode cfgY 60 37 (loopOf Try.f37 0) (MvI q.b q.w z.i z.p) (stopT (trimSt [0, 2, 3] [0]))).holds ⟨Q, F⟩ := by
  rw [rbmove]
  obtain ⟨i, p, L⟩ := z
  obtain ⟨hle, hA, hR, hO⟩ := h
  dsimp only at hle hA hR hO hnx hex ⊢
  have hwl := hR.len
  refine ⟨fun hlt => ?_, fun hge => hex _ (by have := of_decide_eq_false hge; omega) (by (refine ⟨?_, ?_, rfl, tl_ok rfl, ?_, ⟨Nat.le_of_ble_eq_true rfl, rfl⟩⟩ <;> (repeat' first | with_reducible exact trivial | exact AV.sub_same _ | exact .same _ | exact .inr rfl | exact .inl (in_ok rfl) | exact AV.sub_lit' | exact AV.sub_nilS | exact .none _ _ | exact trivial | refine ⟨?_, ?_⟩)))⟩
  have hlt : i < q.l.length := by have := of_decide_eq_true hlt; omega
  have hlen1 : q.l.length ≤ 1000000000 := by
    by_cases hh : q.l.length ≤ 1000000000
    · exact hh
    · exact absurd hh (by have := q.hmax; omega)
  have hw1 : IntKind.wrap .i64 ((i : Int) + 1) = ((i + 1 : Nat) : Int) := wrap_nat (by omega)
  obtain ⟨hsome, hent⟩ := hR.ent hlt
  have hC := q.hcore i hle
  obtain ⟨l1, l2, l3, l4, l5⟩ := insAll_len (q.l.take i) q.t1
  have htk : insAll q.t1 (q.l.take (i + 1)) = insE (insAll q.t1 (q.l.take i)) q.l[i] := by
    rw [List.take_succ_eq_append_getElem hlt, insAll_app]; rfl
  have hidx := q.hin _ (List.getElem_mem hlt)
  have hmv := q.hmv
  have hlens := q.hlen i
  generalize q.l[i] = e at hent htk hidx
  generalize hte : insAll q.t1 (q.l.take i) = t at hA hC l1 l2 l3 l4 l5 htk hlens
  have hin : t.inOld e.key = false := by
    unfold TM.inOld
    rw [l3, l5, l1, hidx, hmv, show decide (q.m + 1 ≤ q.m) = false from decide_eq_false (by omega), Bool.and_false]
  have hbl := hA.bl
  have hb1 := hC.b1
  have hb2 := hC.b2
  have hk := idxN_lt (seed := t.seed) (key := e.key) (n := t.B.length) hb1 (by omega)
  have hcast := idxN_cast (seed := t.seed) (key := e.key) (n := t.B.length) hb1 (by omega)
  have hins := ins_B hin
  generalize hkk : idxN t.seed e.key t.B.length = k at hk hcast hins
  have hI : RIn p (q.b, L, t) (some (q.b, 0)) := ⟨rfl, hA, hC⟩
  have hrow := hA.bs k hk
  have hlk := hlens k hle
  generalize hwk : L.B.getD k w0 = wk at hrow
  obtain ⟨o, len, cap⟩ := wk
  generalize hlr : t.B.getD k [] = lr at hrow hlk hins
  have hln : len = lr.length := hrow.len
  have hlc : lr.length ≤ cap := hrow.le
  have hat0 := row_at hA.brow (i := k) (by omega)
  rw [hwk] at hat0
  have hat0 : p.at (shiftA (some (L.bb, 0)) (k * 1)) [PD.sl o len cap] := hat0
  have hsh : ∀ x, shiftA (some (L.bb, 0)) ((x : Nat) * 1) = some (L.bb, x) := fun x => by rw [shiftA_some, Nat.mul_one, Nat.zero_add]
  -- what is left behind, in its own block or in a new one
  have LI : ∀ n1, p n1 = none → len + 1 ≤ cap → ∃ L', JMw q ⟨i + 1, ((p.put n1 29 (flatE e)).set (shiftA o (len * 4)) (flatE e)).set (some (L.bb, k)) [.sl o (len + 1) cap], L'⟩ := by
    intro n1 hn1 hc
    obtain ⟨n, rfl, _⟩ := hrow.room hc
    rw [show shiftA (some (n, 0)) (len * 4) = some (n, len * 4) from by rw [shiftA_some, Nat.zero_add]]
    have hA1 := hA.put (T := 29) (ds := flatE e) hn1
    have := hA1.growIn hk e hwk hc
    rw [hlr, ← hins, ← htk] at this
    refine ⟨_, hlt, this, ?_, fun m hm => ?_⟩
    · have hown : own (L.B.getD k w0) = some n := by rw [hwk]; unfold own; rw [if_neg (by show ¬ cap = 0; omega)]; rfl
      have hlab := hA.l4 k hk n hown
      refine ((hR.put hn1).setOther fun x hx e' => ?_).setOther fun x hx e' => ?_
      · have := hO x hx; rw [e', hlab] at this; cases this
      · have := hO x hx; rw [e', hA.l2] at this; cases this
    · have h1 := hO m hm
      exact labR_old (fun x hx => by
        unfold own at hx
        split at hx
        · cases hx
        · cases hx
          have hown : own (L.B.getD k w0) = some n := by rw [hwk]; unfold own; rw [if_neg (by show ¬ cap = 0; omega)]; rfl
          exact .inr (hA.l4 k hk n hown)) (by rw [h1]; exact fun k => RLab.noConfusion k) (by rw [h1]; exact fun k => RLab.noConfusion k) h1
  have LO : ∀ n1 n2 sp, p n1 = none → (p.put n1 29 (flatE e)) n2 = none → ∃ L', JMw q ⟨i + 1, ((p.put n1 29 (flatE e)).put n2 29 (flats lr ++ flatE e ++ (List.replicate sp [PD.int .i64 0, .int .i64 0, .int .i64 0, .int .i64 0]).flatten)).set (some (L.bb, k)) [.sl (some (n2, 0)) (len + 1) (len + 1 + sp)], L'⟩ := by
    intro n1 n2 sp hn1 hn2
    have hA1 := hA.put (T := 29) (ds := flatE e) hn1
    have := hA1.grow hk e (sp := sp) hn2 [PD.int .i64 0, .int .i64 0, .int .i64 0, .int .i64 0] rfl
    rw [hlr, ← hins, ← htk, ← hln] at this
    refine ⟨_, hlt, this, ?_, fun m hm => ?_⟩
    · refine ((hR.put hn1).put hn2).setOther fun x hx e' => ?_
      have := hO x hx; rw [e', hA.l2] at this; cases this
    · have h1 := hO m hm
      exact labR_old (fun x hx => by
        unfold own at hx
        split at hx
        · cases hx
        · cases hx; exact .inl (hA1.no hn2)) (by rw [h1]; exact fun k => RLab.noConfusion k) (by rw [h1]; exact fun k => RLab.noConfusion k) h1
  have hb : (q.l.length : Int) = (q.w.2.1 : Int) := by omega
  refine ⟨⟨by omega, by omega, hsome⟩, by obtain ⟨x, hx⟩ := Option.isSome_iff_exists.1 hsome; rw [hx]; rfl, _, at_sub hent 0 1 (by simp [flatE]), rfl, rfl, _, _, _, hA.fB, _, ⟨hI, by omega, by omega⟩, rfl, rfl, rfl, rfl, _, _, _, hA.fB, ?_⟩
  show Out.holds _ (Out.need ((0 : Int) ≤ idxF (mixF t.seed e.key) 0 (L.B.length : Int) ∧ idxF (mixF t.seed e.key) 0 (L.B.length : Int) < (L.B.length : Int) ∧ _) _)
  rw [hbl, ← hcast, Int.toNat_natCast]
  have hA2I : ∀ n1, p n1 = none → len + 1 ≤ cap → RAt ((p.put n1 29 (flatE e)).set (shiftA o (len * 4)) (flatE e)) q.b L t := by
    intro n1 hn1 hc
    obtain ⟨n, rfl, _⟩ := hrow.room hc
    rw [show shiftA (some (n, 0)) (len * 4) = some (n, len * 4) from by rw [shiftA_some, Nat.zero_add]]
    exact ((hA.put hn1).spare hk hwk hc e).1
  have hA2O : ∀ n1 n2 ds, p n1 = none → (p.put n1 29 (flatE e)) n2 = none → RAt ((p.put n1 29 (flatE e)).put n2 29 ds) q.b L t := fun n1 n2 ds hn1 hn2 => (hA.put hn1).put hn2
  have hroom : ∀ n1, p n1 = none → len + 1 ≤ cap → (p.put n1 29 (flatE e)).has (shiftA o (len * 4)) 4 := fun n1 hn1 hc => by
    obtain ⟨n, _, h⟩ := (hrow.put (T := 29) (ds := flatE e) hn1).room hc
    exact h
  have hasB : ∀ {p' : Pool}, RAt p' q.b L t → p'.has (shiftA (some (L.bb, 0)) (k * 1)) 1 := fun h => has_one h.brow (by omega)
  have hkb : (0 : Int) ≤ (k : Int) ∧ (k : Int) < (t.B.length : Int) ∧ (some (L.bb, 0)).isSome = true := ⟨by omega, by omega, rfl⟩
  have hkb' : (0 : Int) ≤ (k : Int) ∧ (k : Int) < (L.B.length : Int) ∧ (some (L.bb, 0)).isSome = true := ⟨by omega, by omega, rfl⟩
  have hfl : (flats lr).length = len * 4 := by rw [flats_len, hln]
  have hbound : len ≤ cap ∧ len + 1 ≤ 4294967296 ∧ (len + 1) * 32 ≤ 140737488355328 := ⟨by omega, by omega, by omega⟩
  have leafI : ∀ n1, p n1 = none → len + 1 ≤ cap → ∀ ST : St V, Wk 3 [] ST (MvI q.b q.w (i + 1) (((p.put n1 29 (flatE e)).set (shiftA o (len * 4)) (flatE e)).set (some (L.bb, k)) [.sl o (len + 1) cap])) → Q .nx ST := fun n1 hn1 hc ST hw => by
    obtain ⟨L', hJ⟩ := LI n1 hn1 hc
    exact hnx ST _ hlt hJ rfl hw
  have leafO : ∀ n1 n2 sp, p n1 = none → (p.put n1 29 (flatE e)) n2 = none → ∀ ST : St V, Wk 3 [] ST (MvI q.b q.w (i + 1) (((p.put n1 29 (flatE e)).put n2 29 (flats lr ++ flatE e ++ (List.replicate sp [PD.int .i64 0, .int .i64 0, .int .i64 0, .int .i64 0]).flatten)).set (some (L.bb, k)) [.sl (some (n2, 0)) (len + 1) (len + 1 + sp)])) → Q .nx ST := fun n1 n2 sp hn1 hn2 ST hw => by
    obtain ⟨L', hJ⟩ := LO n1 n2 sp hn1 hn2
    exact hnx ST _ hlt hJ rfl hw
  rw [show (some (L.bb, k) : Option (Nat × Nat)) = shiftA (some (L.bb, 0)) (k * 1) from (hsh k).symm] at leafI leafO
  refine ⟨hkb, _, _, _, hat0, ⟨by omega, by omega, hsome⟩, _, _, _, _, hent, ?_, fun n1 hn1 => ⟨?_, ?_⟩⟩
  · refine ⟨_, _, _, hA.fB, fun n1 hn1 => ⟨flatE e, ⟨rfl, .inr put_at⟩, flats lr, ⟨hfl, (hrow.put hn1).all⟩, hbound, fun hc => ?_, fun hc n2 sp hn2 => ?_⟩⟩
    · have hc := of_decide_eq_true hc
      exact ⟨.inr (hroom n1 hn1 hc), hkb', hasB (hA2I n1 hn1 hc), leafI n1 hn1 hc _ (by (refine ⟨?_, ?_, rfl, tl_ok rfl, ?_, ⟨Nat.le_of_ble_eq_true rfl, rfl⟩⟩ <;> (repeat' first | with_reducible exact trivial | (exact AV.sub_int hw1) | exact AV.sub_same _ | exact .same _ | exact .inr rfl | exact .inl (in_ok rfl) | exact AV.sub_lit' | exact AV.sub_nilS | exact .none _ _ | exact trivial | refine ⟨?_, ?_⟩)))⟩
    · exact ⟨hkb', hasB (hA2O n1 n2 _ hn1 hn2), leafO n1 n2 sp hn1 hn2 _ (by (refine ⟨?_, ?_, rfl, tl_ok rfl, ?_, ⟨Nat.le_of_ble_eq_true rfl, rfl⟩⟩ <;> (repeat' first | with_reducible exact trivial | (exact AV.sub_int hw1) | exact AV.sub_same _ | exact .same _ | exact .inr rfl | exact .inl (in_ok rfl) | exact AV.sub_lit' | exact AV.sub_nilS | exact .none _ _ | exact trivial | refine ⟨?_, ?_⟩)))⟩
  · refine ⟨_, _, _, (hA.put hn1).fB, flatE e, ⟨rfl, .inr put_at⟩, flats lr, ⟨hfl, (hrow.put hn1).all⟩, hbound, fun hc => ?_, fun hc n2 sp hn2 => ?_⟩
    · have hc := of_decide_eq_true hc
      exact ⟨.inr (hroom n1 hn1 hc), hkb', hasB (hA2I n1 hn1 hc), leafI n1 hn1 hc _ (by (refine ⟨?_, ?_, rfl, tl_ok rfl, ?_, ⟨Nat.le_of_ble_eq_true rfl, rfl⟩⟩ <;> (repeat' first | with_reducible exact trivial | (exact AV.sub_int hw1) | exact AV.sub_same _ | exact .same _ | exact .inr rfl | exact .inl (in_ok rfl) | exact AV.sub_lit' | exact AV.sub_nilS | exact .none _ _ | exact trivial | refine ⟨?_, ?_⟩)))⟩
    · exact ⟨hkb', hasB (hA2O n1 n2 _ hn1 hn2), leafO n1 n2 sp hn1 hn2 _ (by (refine ⟨?_, ?_, rfl, tl_ok rfl, ?_, ⟨Nat.le_of_ble_eq_true rfl, rfl⟩⟩ <;> (repeat' first | with_reducible exact trivial | (exact AV.sub_int hw1) | exact AV.sub_same _ | exact .same _ | exact .inr rfl | exact .inl (in_ok rfl) | exact AV.sub_lit' | exact AV.sub_nilS | exact .none _ _ | exact trivial | refine ⟨?_, ?_⟩)))⟩
  · refine ⟨flatE e, ⟨rfl, .inr put_at⟩, flats lr, ⟨hfl, (hrow.put hn1).all⟩, hbound, fun hc => ?_, fun hc n2 sp hn2 => ?_⟩
    · have hc := of_decide_eq_true hc
      exact ⟨.inr (hroom n1 hn1 hc), _, _, _, (hA2I n1 hn1 hc).fB, hkb', hasB (hA2I n1 hn1 hc), leafI n1 hn1 hc _ (by (refine ⟨?_, ?_, rfl, tl_ok rfl, ?_, ⟨Nat.le_of_ble_eq_true rfl, rfl⟩⟩ <;> (repeat' first | with_reducible exact trivial | (exact AV.sub_int hw1) | exact AV.sub_same _ | exact .same _ | exact .inr rfl | exact .inl (in_ok rfl) | exact AV.sub_lit' | exact AV.sub_nilS | exact .none _ _ | exact trivial | refine ⟨?_, ?_⟩)))⟩
    · exact ⟨_, _, _, (hA2O n1 n2 _ hn1 hn2).fB, hkb', hasB (hA2O n1 n2 _ hn1 hn2), leafO n1 n2 sp hn1 hn2 _ (by (refine ⟨?_, ?_, rfl, tl_ok rfl, ?_, ⟨Nat.le_of_ble_eq_true rfl, rfl⟩⟩ <;> (repeat' first | with_reducible exact trivial | (exact AV.sub_int hw1) | exact AV.sub_same _ | exact .same _ | exact .inr rfl | exact .inl (in_ok rfl) | exact AV.sub_lit' | exact AV.sub_nilS | exact .none _ _ | exact trivial | refine ⟨?_, ?_⟩)))⟩

end Sx
end Go.Proofs.Ytkadlfadmjhahaa

/-
  The document on tables: move.
-/
namespace Go.Proofs.Ytkadlfadmjhahaa
namespace Sx
open Go
set_option linter.unusedSimpArgs false
set_option linter.unusedVariables false

theorem lMw_ok : LoopOk Try.prog 0 (loopOf Try.f37 0) LMv := by
  refine trimLoop_ok (trim_ok _ _) (loopTH_ok (C := cfgY) cfgY_ok (f := 37) (n := 60) (trim_ok [0, 2, 3] [0]) 3 (fun (q : PMw) (z : XMw) => MvI q.b q.w z.i z.p) (fun q z => JMw q z) (fun q => ⟨0, q.p0, q.L0⟩) (fun q z => q.l.length - z.i) (fun q (z : XMw) => JMw q z ∧ z.i = q.l.length) (fun q z => MvI q.b q.w z.i z.p) (fun q => ⟨Nat.zero_le _, q.h0, q.h1, q.h2⟩) ?_)
  intro q z h
  refine mwbody q z h _ _ (fun ST y hlt hy he hw => SImp.of_wk y hw ⟨hy, ?_⟩) (fun ST he hw => ⟨rfl, SImp.of_wk z hw ⟨h, he⟩⟩)
  show q.l.length - y.i < q.l.length - z.i; omega
theorem cfgYM_ok : cfgYM.ok := ⟨tabY_met, kindsY_met, mixed_met, fun g fn h => (by cases h), hooksR3_ok⟩
theorem at_has {p : Pool} {b c n : Nat} {T : Nat} {cs : List PD} (h : p b = some (T, cs)) (hc : c + n ≤ cs.length) : p.has (shiftA (some (b, 0)) c) n := ⟨b, c, T, cs, by simp, h, hc⟩
def runRMove : RunPool V := fun p ar K => match ar with
  | [.val (.rp o)] => .ex RZ fun z => .need (RIn p z o ∧ z.2.2.Good ∧ z.2.2.len ≤ 1000000) (.all (Pool × RL) fun y => .asm (RAt y.1 z.1 y.2 z.2.2.move) (K (.tup []) y.1 []))
  | _ => .bad 500
theorem cRMove : PoolC Try.prog 37 runRMove := by
  refine pool_calls (C := cfgYM) cfgYM_ok (n := 60) (fn := Try.f37) ⟨by kernel_rfl, by kernel_rfl⟩ (by kernel_rfl) ?_
  intro M p ar K0 H
  unfold runRMove at H
  split at H
  · rename_i o
    obtain ⟨⟨b, L, t⟩, ⟨hI, hG, hmax⟩, H⟩ := H
    have hI' := hI
    obtain ⟨ho, hA, hc⟩ := hI
    dsimp only at ho hA hc H hG hmax
    subst ho
    refine ⟨show 1 ≤ _ by decide +kernel, ?_⟩
    show (runF cfgYM 60 37 Try.f37 [.rp (some (b, 0))] [(0, .pool p)] 2).holds _
    rw [rtmove]
    have hol := hA.ol
    have hmv := hc.mv
    have hb3 := hc.b3
    refine ⟨_, hI', fun h0 => ?_, fun h0 => ?_⟩
    · have h0 : ((t.left : Nat) : Int) = 0 := eq_of_beq h0
      have : t.move = t := by unfold TM.move; rw [if_pos (by unfold TM.left at h0; omega)]
      rw [this] at H
      exact ⟨_, _, _, H (p, L) hA, endPool (AV.sub_same _) rfl rfl⟩
    · have h0 : ¬ ((t.left : Nat) : Int) = 0 := by
        intro e
        have h0 : (((t.left : Nat) : Int) == 0) = false := h0
        rw [e] at h0; exact absurd h0 (by decide)
      have hlt : t.moved < t.O.length := by unfold TM.left at h0; omega
      have hO : L.O ≠ [] := fun e => by rw [e] at hol; simp at hol; omega
      have hfO := hA.fO
      rw [osl_has hO] at hfO
      have hlv : t.live (true, t.moved) := by unfold TM.live; simp [hlt]
      have hrow : t.row (true, t.moved) = t.O.getD t.moved [] := rfl
      obtain ⟨n1, n2⟩ := hc.next hlt
      have hpl : ∀ e ∈ t.O.getD t.moved [], t.pl e.key = (true, t.moved) := fun e he => hc.home _ hlv e (by rw [hrow]; exact he)
      have hnone : ∀ e ∈ t.O.getD t.moved [], ({ t with moved := t.moved + 1 } : TM).get e.key = none := fun e he => by rw [n2, if_pos (hpl e he)]
      have hnd : ((t.O.getD t.moved []).map (·.key)).Nodup := hc.nd _ hlv
      have hcore : ∀ i, i ≤ (t.O.getD t.moved []).length → (insAll { t with moved := t.moved + 1 } ((t.O.getD t.moved []).take i)).Core := fun i hi =>
        (n1.insAll ((t.O.getD t.moved []).take i) (fun e he => hnone e (List.mem_of_mem_take he)) (hnd.sublist ((List.take_sublist _ _).map _))).2.1
      have ht1 : ({ t with moved := t.moved + 1 } : TM).total + (t.O.getD t.moved []).length = t.total := by
        unfold TM.total
        dsimp only
        rw [List.drop_eq_getElem_cons hlt]
        have : t.O.getD t.moved [] = t.O[t.moved] := by rw [List.getD_eq_getElem?_getD, List.getElem?_eq_getElem hlt]; rfl
        rw [this]; simp only [List.map_cons, List.sum_cons]; omega
      have htl := hG.len
      have hlens : ∀ i k, i ≤ (t.O.getD t.moved []).length → ((insAll { t with moved := t.moved + 1 } ((t.O.getD t.moved []).take i)).B.getD k []).length ≤ 1000000 := fun i k hi => by
        have h1 := TM.total_insAll n1 ((t.O.getD t.moved []).take i) (fun e he => hnone e (List.mem_of_mem_take he)) (hnd.sublist ((List.take_sublist _ _).map _))
        have h2 := row_le (insAll { t with moved := t.moved + 1 } ((t.O.getD t.moved []).take i)).B k
        have h3 : ((insAll { t with moved := t.moved + 1 } ((t.O.getD t.moved []).take i)).B.map List.length).sum ≤ (insAll { t with moved := t.moved + 1 } ((t.O.getD t.moved []).take i)).total := by unfold TM.total; omega
        rw [List.length_take] at h1
        omega
      have hin : ∀ e ∈ t.O.getD t.moved [], idxN t.seed e.key t.O.length = t.moved := fun e he => by
        have := hpl e he
        unfold TM.pl at this
        split at this
        · exact congrArg Prod.snd this
        · cases congrArg Prod.fst this
      have hw1 : IntKind.wrap .i64 ((t.moved : Int) + 1) = ((t.moved + 1 : Nat) : Int) := wrap_nat (by omega)
      have hs2 : shiftA (some (b, 0)) 2 = some (b, 2) := rfl
      have hA1 := hA.moved
      have hR := hA.os t.moved (Nat.le_refl _) hlt
      have hlab := hA.l5 t.moved (Nat.le_refl _) hlt
      have hR1 : RowP (p.set (some (b, 2)) [.int .i64 ((t.moved + 1 : Nat) : Int)]) (L.O.getD t.moved w0) (t.O.getD t.moved []) := hR.setOther fun n hn e => by have := hlab n hn; rw [e, hA.l1] at this; cases this
      have hat := row_at (hA.orow hO) (i := t.moved) (by omega)
      generalize hwk : L.O.getD t.moved w0 = w at hat hR1 hlab
      obtain ⟨wo, wl, wc⟩ := w
      have hat : p.at (shiftA (some (L.ob, 0)) (t.moved * 1)) [PD.sl wo wl wc] := hat
      have hlen : (t.O.getD t.moved []).length ≤ 1000000 := by omega
      let q : PMw := ⟨b, (wo, wl, wc), t.O.getD t.moved [], { t with moved := t.moved + 1 }, t.moved, p.set (some (b, 2)) [.int .i64 ((t.moved + 1 : Nat) : Int)], L, hin, rfl, hcore, hlen, hlens, hA1, hR1, hlab⟩
      refine ⟨rfl, rfl, _, _, _, hfO, rfl, rfl, _, hA.fM, ⟨by omega, by omega, rfl⟩, _, _, _, hat, rfl, rfl, _, hA.fM, rfl, rfl, at_has hA.self (by simp), lMw_ok, fun x => x = q, ?_, ?_⟩
      · rw [hw1]
        exact ⟨Nat.le_refl _, SImp.of_wk (ren := []) q (by (refine ⟨?_, ?_, rfl, tl_ok rfl, ?_, ⟨Nat.le_of_ble_eq_true rfl, rfl⟩⟩ <;> (repeat' first | with_reducible exact trivial | exact AV.sub_same _ | exact .same _ | exact .inr rfl | exact .inl (in_ok rfl) | exact AV.sub_lit' | exact AV.sub_nilS | exact .none _ _ | exact trivial | refine ⟨?_, ?_⟩))) rfl⟩
      rintro _ rfl z ⟨⟨_, hA2, _, _⟩, hz⟩
      have hz : z.i = (t.O.getD t.moved []).length := hz
      rw [hz] at hA2
      have hA2 : RAt z.p b z.L (insAll { t with moved := t.moved + 1 } ((t.O.getD t.moved []).take (t.O.getD t.moved []).length)) := hA2
      rw [List.take_length] at hA2
      obtain ⟨l1, l2, l3, l4, l5⟩ := insAll_len (t.O.getD t.moved []) { t with moved := t.moved + 1 }
      have hsm : t.stepMoved = insAll { t with moved := t.moved + 1 } (t.O.getD t.moved []) := rfl
      rw [← hsm] at hA2 l1 l3
      have l1 : t.stepMoved.O.length = t.O.length := l1
      have l3 : t.stepMoved.moved = t.moved + 1 := l3
      have hO2 : z.L.O ≠ [] := fun e => by have := hA2.ol; rw [e] at this; simp at this; omega
      have hfO2 := hA2.fO
      rw [osl_has hO2] at hfO2
      have hol2 := hA2.ol
      refine ⟨rfl, rfl, _, hA2.fM, rfl, rfl, _, _, _, hfO2, fun he => ?_, fun he => ?_⟩
      · have he : (t.stepMoved.moved : Int) = (z.L.O.length : Int) := eq_of_beq he
        have hm : t.move = { t.stepMoved with O := [], moved := 0 } := by unfold TM.move; rw [if_neg (by omega), if_pos (by omega)]
        rw [hm] at H
        have hD := hA2.done
        refine ⟨rfl, rfl, at_has hA2.self (by simp), rfl, rfl, ?_, _, _, _, H (_, _) hD, endPool (AV.sub_same _) rfl rfl⟩
        have : ((z.p.set (some (b, 1)) [.sl none 0 0]) b) = some (43, setAt [.sl (some (z.L.bb, 0)) z.L.B.length z.L.B.length, osl z.L, .int .i64 (t.stepMoved.moved : Int), .int .i64 t.stepMoved.seed] 1 [.sl none 0 0]) := by
          show (if b = b then (z.p b).map (fun q => (q.1, setAt q.2 1 _)) else z.p b) = _
          rw [if_pos rfl, hA2.self]; rfl
        exact at_has this (by simp [setAt])
      · have he : ¬ (t.stepMoved.moved : Int) = (z.L.O.length : Int) := fun e => by
          have he : ((t.stepMoved.moved : Int) == (z.L.O.length : Int)) = false := he
          rw [e] at he; simp at he
        have hm : t.move = t.stepMoved := by unfold TM.move; rw [if_neg (by omega), if_neg (by omega)]
        rw [hm] at H
        exact ⟨_, _, _, H (_, _) hA2, endPool (AV.sub_same _) rfl rfl⟩
  · exact H.elim

end Sx
end Go.Proofs.Ytkadlfadmjhahaa

