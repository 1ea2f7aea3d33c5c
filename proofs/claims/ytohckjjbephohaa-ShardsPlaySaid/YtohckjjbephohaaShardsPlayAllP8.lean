/-
  Entries sorted by their keys: what the library's function does, told for all callers.
-/
import Derived.Test.YtohckjjbephohaaShardsPlayAllP7
import Derived.Shelf.SlSortCmp.NoneTotal
namespace Go.Proofs.Ytohckjjbephohaa
open Go.RowKit Go.Sort Go.Shelf
namespace Sx
open Go
set_option linter.unusedSimpArgs false
set_option linter.unusedVariables false

def encE (e : Ent) : List Value := [.int .i64 e.key, .int .i64 e.value, .int .i64 e.weight, .int .i64 e.node]
instance : Inhabited Ent := ⟨e0⟩
def cmpE (x y : Ent) : Int := Lib.compareInt x.key y.key

set_option maxHeartbeats 1000000 in
theorem closure_map (x y : Ent) (W : World) : Calls Try.prog 38 #[.agg (encE x).toArray, .agg (encE y).toArray] W fun e w' => e = .returned (.int .i64 (cmpE x y)) ∧ ∃ q os', w' = grow (W.drewN q) os' := by
  have hcon := fun W' => AnyG.cmp_Compare_int Try.cmpL x.key y.key W'
  change ∀ W', Calls Try.prog 39 _ _ _ at hcon
  unfold cmpE
  generalize Lib.compareInt x.key y.key = r at hcon ⊢
  show Calls Try.prog 38 #[.agg #[.int .i64 x.key, .int .i64 x.value, .int .i64 x.weight, .int .i64 x.node], .agg #[.int .i64 y.key, .int .i64 y.value, .int .i64 y.weight, .int .i64 y.node]] W _
  go_enter Try.func38, Try.ntmps38
  go_wp2_with (go_at_call 39; refine (hcon _).mono ?_; rintro e w' ⟨rfl, rfl⟩)
  go_ret
  exact ⟨rfl, 0, _, by rw [alloc_eq_grow, alloc_eq_grow, grow_grow]; rfl⟩
set_option maxHeartbeats 1000000 in
theorem closure_tab (x y : Ent) (W : World) : Calls Try.prog 54 #[.agg (encE x).toArray, .agg (encE y).toArray] W fun e w' => e = .returned (.int .i64 (cmpE x y)) ∧ ∃ q os', w' = grow (W.drewN q) os' := by
  have hcon := fun W' => AnyG.cmp_Compare_int Try.cmpL x.key y.key W'
  change ∀ W', Calls Try.prog 39 _ _ _ at hcon
  unfold cmpE
  generalize Lib.compareInt x.key y.key = r at hcon ⊢
  show Calls Try.prog 54 #[.agg #[.int .i64 x.key, .int .i64 x.value, .int .i64 x.weight, .int .i64 x.node], .agg #[.int .i64 y.key, .int .i64 y.value, .int .i64 y.weight, .int .i64 y.node]] W _
  go_enter Try.func54, Try.ntmps54
  go_wp2_with (go_at_call 39; refine (hcon _).mono ?_; rintro e w' ⟨rfl, rfl⟩)
  go_ret
  exact ⟨rfl, 0, _, by rw [alloc_eq_grow, alloc_eq_grow, grow_grow]; rfl⟩

theorem cmp_lt (x y : Ent) : ltOf cmpE x y = decide (x.key < y.key) := by
  unfold ltOf cmpE Lib.compareInt
  by_cases h1 : x.key < y.key
  · simp [h1]
  · by_cases h2 : x.key > y.key <;> simp [h1, h2]
theorem swo_key : SWO (ltOf cmpE) := by
  refine ⟨fun x => ?_, fun x y z h k => ?_, fun x y z h k => ?_⟩
  · rw [cmp_lt]; simp
  · rw [cmp_lt] at *; simp at *; omega
  · rw [cmp_lt] at *; simp at *; omega

/-! ## rows of entries in memory -/
theorem relL_ent {r : Nm} {e : Ent} {vs : List Value} (h : relL r (Ent.enc e) vs) : vs = encE e := by
  simp only [Ent.enc, relL, rel] at h
  obtain ⟨v, us, rfl, rfl, v2, us2, rfl, rfl, v3, us3, rfl, rfl, v4, us4, rfl, rfl, rfl⟩ := h
  rfl
theorem ent_relL (r : Nm) (e : Ent) : relL r (Ent.enc e) (encE e) := relL_cons.2 ⟨rfl, relL_cons.2 ⟨rfl, relL_cons.2 ⟨rfl, relL_cons.2 ⟨rfl, relL_nil⟩⟩⟩⟩
theorem encE_get (e : Ent) {j : Nat} (h : j < 4) : (encE e)[j]? = some ((encE e)[j]!) := by
  have : j < (encE e).length := h
  rw [List.getElem?_eq_getElem this, getElem!_pos _ j this]
theorem getA {xs : List Ent} {i : Nat} (h : i < xs.length) : xs.toArray[i]! = xs[i] := by rw [getElem!_pos _ i (by simpa using h)]; simp

theorem holds_row {w : World} {b T : Nat} {c : Array Value} {r : Nm} {xs : List Ent} (hb : w.heap[b]? = some (.cells c T (0, 0))) (hrow : rowAt Ent.lay r xs c 0) : HoldsK encE 4 w b 0 xs.toArray := by
  intro j hj
  rw [size_flatK] at hj
  have hj : j < xs.length * 4 := by simpa using hj
  rw [get_flatK _ _ _ _ (by simpa using hj)]
  have hi : j / 4 < xs.length := by omega
  have h1 := relL_ent (hrow (j / 4) xs[j / 4] (List.getElem?_eq_getElem hi))
  have h2 : (encE xs[j / 4])[j % 4]? = c[j]? := by
    rw [← h1]
    rw [List.getElem?_take, if_pos (show j % 4 < Ent.lay.w by show j % 4 < 4; omega), List.getElem?_drop]
    rw [show 0 + j / 4 * Ent.lay.w + j % 4 = j by show 0 + j / 4 * 4 + j % 4 = j; omega]
    simp
  refine ⟨?_, ?_⟩
  · rw [cell_of_row w b (0 + j) c T (0, 0) hb, Nat.zero_add, ← h2, encE_get _ (by omega), getA hi]; rfl
  · simp [World.frozen?, hb]

theorem heap_sort {w : World} {b T : Nat} {c : Array Value} (hb : w.heap[b]? = some (.cells c T (0, 0))) (d : Array Ent) (n : Nat) (os : Array Obj) :
    (sortWorldK encE 4 w b 0 n d os).heap[b]? = some (.cells (putCells id 0 (flatK encE 4 d) c) T (0, 0)) ∧ (∀ x, x ≠ b → x < w.heap.size → (sortWorldK encE 4 w b 0 n d os).heap[x]? = w.heap[x]?) ∧
    (sortWorldK encE 4 w b 0 n d os).os = w.os ∧ (sortWorldK encE 4 w b 0 n d os).output = w.output ∧ (sortWorldK encE 4 w b 0 n d os).tape = w.tape := by
  have hlt : b < w.heap.size := (Array.getElem?_eq_some_iff.1 hb).1
  have hsz : (putRowK encE 4 (Sort.ahead w n) b 0 d).heap.size = w.heap.size := size_putRowK ..
  refine ⟨?_, fun x hx hl => ?_, rfl, rfl, rfl⟩
  · unfold sortWorldK
    rw [heap_grow_old _ _ (by rw [hsz]; exact hlt)]
    show (w.heap.modify b (onCells (putCells id 0 (flatK encE 4 d))))[b]? = _
    rw [Array.getElem?_modify, if_pos rfl, hb]; rfl
  · unfold sortWorldK
    rw [heap_grow_old _ _ (by rw [hsz]; exact hl)]
    show (w.heap.modify b (onCells (putCells id 0 (flatK encE 4 d))))[x]? = _
    rw [Array.getElem?_modify, if_neg (Ne.symm hx)]

theorem row_sorted {c : Array Value} {d : Array Ent} {r : Nm} (hs : d.size * 4 ≤ c.size) : rowAt Ent.lay r d.toList (putCells id 0 (flatK encE 4 d) c) 0 ∧ (putCells id 0 (flatK encE 4 d) c).size = c.size := by
  refine ⟨fun i x hx => ?_, by simp [putCells]⟩
  have hi : i < d.toList.length := (List.getElem?_eq_some_iff.1 hx).1
  have hi' : i < d.size := by simpa using hi
  have hxe : d[i]! = x := by
    rw [getElem!_pos d i hi']
    have := (List.getElem?_eq_some_iff.1 hx).2
    simpa using this
  have : ((putCells id 0 (flatK encE 4 d) c).toList.drop (0 + i * Ent.lay.w)).take Ent.lay.w = encE x := by
    apply List.ext_getElem?
    intro j
    show (List.take 4 (List.drop (0 + i * 4) (putCells id 0 (flatK encE 4 d) c).toList))[j]? = _
    rw [List.getElem?_take]
    by_cases hj : j < 4
    · rw [if_pos hj, List.getElem?_drop, encE_get _ hj]
      have hk : i * 4 + j < d.size * 4 := by omega
      have e1 : (putCells id 0 (flatK encE 4 d) c).toList[0 + i * 4 + j]? = (putCells id 0 (flatK encE 4 d) c)[i * 4 + j]? := by simp
      rw [e1]
      unfold putCells
      rw [Array.getElem?_mapIdx, Array.getElem?_eq_getElem (show i * 4 + j < c.size by omega)]
      simp only [Option.map_some, id, Nat.zero_le, true_and, Nat.zero_add, size_flatK, hk, if_true, Nat.sub_zero]
      rw [get_flatK _ _ _ _ hk, show (i * 4 + j) / 4 = i by omega, show (i * 4 + j) % 4 = j by omega, hxe]
    · rw [if_neg hj, List.getElem?_eq_none (by show 4 ≤ j; omega)]
  rw [this]; exact ent_relL r x

def isCmp (g : Nat) : Bool := Nat.beq g 38 || Nat.beq g 54
def sortGo (id w st len : Nat) (h : Heap V) (nx : Nat) (K : AV → Heap V → Nat → List Nat → Out V) : Option (Blk V) → Out V
  | some (.arr T .ent xs sp) => bif Nat.beq w 4 then .need (st = 0 ∧ len = xs.length ∧ xs.length ≤ 1099511627776) (.all (List Ent) fun ys => .asm (ys.Perm xs ∧ ys.Pairwise (fun a b => a.key ≤ b.key)) (K (.tup []) (h.set id (.arr T .ent ys sp)) nx [id])) else .bad 551
  | _ => .bad 552
def hookSort : HookS V := fun args h nx K => match args with
  | [.sl _ id st w len _, .fn g [] []] => bif isCmp g then sortGo id w st len h nx K (h.get id) else .bad 553
  | _ => .bad 554

/-- One block of ours written anew, and new blocks that are none's. -/
theorem Sat.writeNew {β : Base} {r : Nm} {hp : Heap V} {w w' : World} (k : Sat β r hp w) {id : Nat} {B B' : Blk V} (hg : hp.get id = some B)
    {b : Nat} (o' : Obj) (hone : ∀ H1, B.den β.G r id H1 → ∃ o, H1 = Hp.one b o)
    (hB : B'.den β.G r id (Hp.one b o')) (hw : w'.heap[b]? = some o') (hs : ∀ x, x ≠ b → x < w.heap.size → w'.heap[x]? = w.heap[x]?)
    (h1 : w'.os = w.os) (h2 : w'.output = w.output) (h3 : w'.tape = w.tape) : Sat β r (hp.set id B') w' := by
  obtain ⟨a, H, p, c, d⟩ := k
  obtain ⟨H1, H2, q1, q2, q3, _, q5⟩ := Heap.focus p hg
  obtain ⟨o, rfl⟩ := hone H1 q1
  subst q3
  have c' := Hp.join_apart.1 c
  have ap : (Hp.one b o').apart H2 := Hp.one_apart.2 (Hp.one_apart.1 q2)
  have apG : (Hp.one b o').apart β.G := Hp.one_apart.2 (Hp.one_apart.1 c'.1)
  have d' := (Hp.inW_join q2).1 d
  have keep : ∀ {A : Hp}, A.inW w → A b = none → A.inW w' := fun {A} hA hb x o e => by
    rw [hs x (fun hx => by rw [hx, hb] at e; cases e) (Hp.lt hA e)]; exact hA x o e
  exact ⟨⟨h1.trans a.os, h2.trans a.output, h3.trans a.tape, keep a.G (Hp.one_apart.1 c'.1)⟩, (Hp.one b o').join H2, q5 r B' _ (Nm.le.refl r) hB ap, Hp.join_apart.2 ⟨apG, c'.2⟩, (Hp.inW_join ap).2 ⟨Hp.inW_one.2 hw, keep d'.2 (Hp.one_apart.1 q2)⟩⟩

theorem Sat.setSame {β : Base} {r : Nm} {hp : Heap V} {w : World} (k : Sat β r hp w) {id : Nat} {B : Blk V} (hg : hp.get id = some B) : Sat β r (hp.set id B) w := by
  obtain ⟨a, H, p, c, d⟩ := k
  obtain ⟨H1, H2, q1, q2, q3, _, q5⟩ := Heap.focus p hg
  subst q3
  exact ⟨a, _, q5 r B H1 (Nm.le.refl r) q1 q2, c, d⟩

theorem hSort : HookOk Try.prog 37 hookSort := by
  intro M args h nx K H
  unfold hookSort at H
  split at H
  · rename_i kn id st wd len cap g
    rw [holds_bif] at H
    split at H
    · rename_i hg
      unfold sortGo at H
      split at H
      · rename_i T xs sp hB
        rw [holds_bif] at H
        split at H
        · rename_i hw
          have hw := Nat.eq_of_beq_eq_true hw
          subst hw
          obtain ⟨⟨h0, hl, h2⟩, H⟩ := H
          subst h0; subst hl
          refine ⟨⟨Try.f37, by kernel_rfl, by kernel_rfl, by kernel_rfl⟩, fun β r vs w hr hs hfresh => ?_⟩
          simp only [relL] at hr
          obtain ⟨v0, us, rfl, ⟨a, rfl, hlc, ha⟩, v1, us1, rfl, ⟨u1, u2, hu1, hu2, rfl⟩, rfl⟩ := hr
          have hu1 : u1 = [] := hu1
          have hu2 : u2 = [] := hu2
          subst hu1; subst hu2
          rcases Nat.eq_zero_or_pos xs.length with hz | h1
          · have hx : xs = [] := List.length_eq_zero_iff.1 hz
            have hS := AnyF.slices_SortFunc_none Try.sortFL a cap (.func (.func g) #[] #[]) w
            rw [← hz] at hS
            refine Calls.mono (show Calls Try.prog 37 _ w _ from hS) fun e w' hh => ?_
            obtain ⟨rfl, rfl⟩ := hh
            exact ⟨_, _, _, _, _, r, rfl, H xs ⟨List.Perm.refl _, by rw [hx]; exact List.Pairwise.nil⟩, Nm.le.refl r, hfresh, ⟨[], relL_nil, rfl⟩, Sat.setSame hs hB, Kept.of fun i B hi hn => by rw [Heap.get_set_ne (by simpa using hn)]; exact hi⟩
          obtain ⟨H1, hden, hinw, _⟩ := hs.at hB
          rcases hden with ⟨hz, _⟩ | ⟨b, c, hb, hrow, hsz, hmx, rfl⟩
          · omega
          have hblk := Hp.inW_one.1 hinw
          have hlt : b < w.heap.size := (Array.getElem?_eq_some_iff.1 hblk).1
          have haddr : a = some ⟨b, 0, none⟩ := by
            rcases ha with h0 | ⟨y, hy, e⟩
            · omega
            · rw [hb] at hy; cases hy; rw [e]
          subst haddr
          have hcl : (∀ x y W, Calls Try.prog g #[.agg (encE x).toArray, .agg (encE y).toArray] W fun e w' => e = .returned (.int .i64 (cmpE x y)) ∧ ∃ q os', w' = grow (W.drewN q) os') ∧ ∀ args w, (callFunc g args).run Try.prog w = .ok (.enter g args) w := by
            unfold isCmp at hg
            simp only [Bool.or_eq_true] at hg
            rcases hg with hg | hg
            · have := Nat.eq_of_beq_eq_true hg; subst this
              exact ⟨closure_map, enters_of Try.func38 (by kernel_rfl) rfl⟩
            · have := Nat.eq_of_beq_eq_true hg; subst this
              exact ⟨closure_tab, enters_of Try.func54 (by kernel_rfl) rfl⟩
          have hS := AnyQ.slices_SortFunc Try.sortFL 4 Try.isAgg28 Try.sizeOf28 encE (fun _ => rfl) (fun x v hv => by simp [encE] at hv; rcases hv with rfl | rfl | rfl | rfl <;> rfl) cmpE swo_key g #[] b 0 cap xs.toArray w hcl.2 (fun _ _ _ _ x y => hcl.1 x y _) (holds_row hblk hrow) hlt (by simp; omega)
          have hsize : xs.toArray.size = xs.length := by simp
          rw [hsize] at hS
          refine Calls.mono (show Calls Try.prog 37 _ w _ from hS) fun e w' hh => ?_
          obtain ⟨rfl, d', n, os, hp, hso, rfl⟩ := hh
          obtain ⟨hd1, _, hd3⟩ := hp
          have hds : d'.size = xs.length := by rw [hd1]; simp
          have hperm : d'.toList.Perm xs := by
            have e1 : d'.extract 0 xs.length = d' := by rw [← hds]; simp
            have e2 : xs.toArray.extract 0 xs.length = xs.toArray := by rw [← hsize]; simp
            rw [e1, e2] at hd3; simpa using hd3
          have hpw : d'.toList.Pairwise (fun a b => a.key ≤ b.key) := by
            rw [List.pairwise_iff_getElem]
            intro i j hi hj hij
            have hi' : i < d'.size := by simpa using hi
            have hj' : j < d'.size := by simpa using hj
            have := hso i j (Nat.zero_le _) hij (by omega)
            rw [cmp_lt, getElem!_pos d' i hi', getElem!_pos d' j hj'] at this
            simp at this ⊢
            exact this
          obtain ⟨s1, s2, s3, s4, s5⟩ := heap_sort hblk d' n os
          have hcs : d'.size * 4 ≤ c.size := by rw [hsz, hds]; show _ ≤ (xs.length + sp) * 4; omega
          obtain ⟨t1, t2⟩ := row_sorted (r := r) hcs
          have hln : d'.toList.length = xs.length := by simpa using hds
          refine ⟨_, _, _, _, _, r, rfl, H d'.toList ⟨hperm, hpw⟩, Nm.le.refl r, hfresh, ⟨[], relL_nil, rfl⟩, ?_, Kept.of fun i B hi hn => by rw [Heap.get_set_ne (by simpa using hn)]; exact hi⟩
          refine Sat.writeNew hs hB (b := b) (.cells (putCells (fun x => x) 0 (flatK encE 4 d') c) T (0, 0)) ?_ (.inr ⟨b, _, hb, t1, ?_, ?_, rfl⟩) s1 s2 s3 s4 s5
          · rintro Hx (⟨hz, _⟩ | ⟨b', c', hb', _, _, _, rfl⟩)
            · omega
            · rw [hb] at hb'; cases hb'; exact ⟨_, rfl⟩
          · rw [t2, hln]; exact hsz
          · rw [hln]; exact hmx
        · exact H.elim
      · exact H.elim
    · exact H.elim
  · exact H.elim

end Sx
end Go.Proofs.Ytohckjjbephohaa

/-
  Tables: the runs of the machine.
-/
namespace Go.Proofs.Ytohckjjbephohaa
namespace Sx
open Go
set_option maxRecDepth 100000
set_option linter.unusedVariables false

noncomputable def hooksAll : Nat → Option (HookS V) := fun g => match g with | 37 => some hookSort | _ => none
noncomputable def cfgAll : Cfg Try.prog V := ⟨tab, kinds, fun _ => none, hooksAll, fun _ _ => none⟩
structure PAll where
  p : Pool
  j : Int
  a0 : Option (Nat × Nat)
  n0 : Nat
  c0 : Nat
  a1 : Option (Nat × Nat)
  n1 : Nat
  c1 : Nat
  row : Option (Nat × Nat)
  n : Nat
  c : Nat
  i : Int
structure XAll where
  x : Option (Nat × Nat)
  ys : List Ent
  sp : Nat
def AI4 (q : PAll) (z : XAll) : St V := ⟨[(22, .lit .i64 2), (21, .sl true 2 0 1 2 2), (23, .lit .i64 q.j), (27, .rs q.row q.n q.c), (28, .int .i64 (q.n : Int)), (29, .int .i64 q.i), (3, .sl false 8 0 4 z.ys.length (z.ys.length + z.sp)), (7, .rp z.x)],
  [(8, .arr 28 .ent z.ys z.sp), (2, .cells 69 [.rs q.a0 q.n0 q.c0, .rs q.a1 q.n1 q.c1]), (0, .pool q.p)], 9, 51, TQ⟩
theorem tball4 (q : PAll) (z : XAll) : runCode cfgAll 60 36 (loopOf Try.f36 4) (AI4 q z) (stopT (trimSt [3, 7, 21, 22, 23, 27, 28, 29] [0, 2, 8, 9, 10])) = Out.ite (!z.x.isNone) (Out.need (z.x.isSome = true) (Out.need (z.x.isSome = true) (Out.ex Int fun y => Out.ex Int fun y_1 => Out.ex Int fun y_2 => Out.ex Int fun y_3 => Out.need (q.p.at (shiftA z.x (0 : Nat)) [PD.int .i64 y, PD.int .i64 y_1, PD.int .i64 y_2, PD.int .i64 y_3]) (Out.need ((0 : Nat) = (0 : Nat) ∧ z.ys.length = z.ys.length ∧ z.ys.length + z.3 = z.ys.length + z.3 ∧ (z.ys.length + (1 : Nat)) * (32 : Nat) ≤ (140737488355328 : Nat)) (Out.all Nat fun y_4 => Out.need (z.x.isSome = true) (Out.need (z.x.isSome = true) (Out.ex (Option (Nat × Nat)) fun y_5 => Out.need (q.p.at (shiftA z.x (4 : Nat)) [PD.ptr y_5]) (Out.stop EX.nx {env := [((3 : Nat), .sl false (10 : Nat) (0 : Nat) (4 : Nat) (z.ys.length + (1 : Nat)) (z.ys.length + (1 : Nat) + y_4)), ((7 : Nat), AV.rp y_5), ((21 : Nat), .sl true (2 : Nat) (0 : Nat) (1 : Nat) (2 : Nat) (2 : Nat)), ((22 : Nat), .lit .i64 (2 : Int)), ((23 : Nat), .lit .i64 q.j), ((27 : Nat), AV.rs q.row q.10 q.11), ((28 : Nat), .int .i64 (↑q.10 : Int)), ((29 : Nat), .int .i64 q.i)], heap := [((10 : Nat), .arr (28 : Nat) Kd.ent (z.ys ++ [{key := y, value := y_1, weight := y_2, node := y_3 : Ent }]) y_4), ((9 : Nat), .cells (28 : Nat) [.int .i64 y, .int .i64 y_1, .int .i64 y_2, .int .i64 y_3]), ((2 : Nat), .cells (69 : Nat) [AV.rs q.a0 q.4 q.5, AV.rs q.a1 q.7 q.8]), ((0 : Nat), Blk.pool q.p)], nx := (11 : Nat), nt := (51 : Nat), tl := [(8 : Nat), (0 : Nat), (1 : Nat), (2 : Nat), (3 : Nat), (4 : Nat), (5 : Nat), (6 : Nat), (7 : Nat), (8 : Nat), (9 : Nat), (10 : Nat), (11 : Nat), (12 : Nat), (13 : Nat), (14 : Nat), (15 : Nat), (16 : Nat)] : St V })))))))) (Out.stop (EX.ex (4 : Nat)) {env := [((3 : Nat), .sl false (8 : Nat) (0 : Nat) (4 : Nat) z.ys.length (z.ys.length + z.3)), ((7 : Nat), AV.rp z.x), ((21 : Nat), .sl true (2 : Nat) (0 : Nat) (1 : Nat) (2 : Nat) (2 : Nat)), ((22 : Nat), .lit .i64 (2 : Int)), ((23 : Nat), .lit .i64 q.j), ((27 : Nat), AV.rs q.row q.10 q.11), ((28 : Nat), .int .i64 (↑q.10 : Int)), ((29 : Nat), .int .i64 q.i)], heap := [((8 : Nat), .arr (28 : Nat) Kd.ent z.ys z.3), ((2 : Nat), .cells (69 : Nat) [AV.rs q.a0 q.4 q.5, AV.rs q.a1 q.7 q.8]), ((0 : Nat), Blk.pool q.p)], nx := (9 : Nat), nt := (51 : Nat), tl := [(0 : Nat), (1 : Nat), (2 : Nat), (3 : Nat), (4 : Nat), (5 : Nat), (6 : Nat), (7 : Nat), (8 : Nat), (9 : Nat), (10 : Nat), (11 : Nat), (12 : Nat), (13 : Nat), (14 : Nat), (15 : Nat), (16 : Nat)] : St V }) := by kernel_rfl

end Sx
end Go.Proofs.Ytohckjjbephohaa

/-
  All entries of a table: what the function does.
-/
namespace Go.Proofs.Ytohckjjbephohaa
namespace Sx
open Go
set_option linter.unusedSimpArgs false
set_option linter.unusedVariables false

theorem hooksAll_ok : ∀ g H, hooksAll g = some H → HookOk Try.prog g H := by
  intro g H h
  unfold hooksAll at h
  split at h
  · cases h; exact hSort
  · cases h
theorem cfgAll_ok : cfgAll.ok := ⟨tab_met, kinds_met, mixed_met, fun g fn h => (by cases h), hooksAll_ok⟩

theorem tbody4 (q : PAll) (r : Chn) (z : XAll) (hs : Seg q.p z.x r) (hn : z.ys.length + r.length ≤ 1099511627776) (Q : EX → St V → Prop) (F : AV → Heap V → Nat → Prop)
    (hnx : ∀ (ST : St V) a e c' o' sp', r = (a, e) :: c' → Seg q.p o' c' → Wk 8 [(8, 10)] ST (AI4 q ⟨o', z.ys ++ [e], sp'⟩) → Q .nx ST)
    (hex : ∀ ST : St V, r = [] → Wk 8 [(8, 8)] ST (AI4 q z) → Q (.ex 4) ST) :
    (runCode cfgAll 60 36 (loopOf Try.f36 4) (AI4 q z) (stopT (trimSt [3, 7, 21, 22, 23, 27, 28, 29] [0, 2, 8, 9, 10]))).holds ⟨Q, F⟩ := by
  rw [tball4]
  obtain ⟨x, ys, sp⟩ := z
  simp only [Out.holds, decide_eq_true_eq, decide_eq_false_iff_not, beq_iff_eq, beq_eq_false_iff_ne, bne_iff_ne, ne_eq, bne_eq_false_iff_eq, Bool.true_and, Bool.and_true, Bool.not_eq_true', Bool.not_eq_false', Bool.and_eq_true, Bool.or_eq_true, Bool.and_eq_false_imp, true_implies, true_and, Bool.not_true, Bool.not_false, Bool.false_eq_true, Bool.true_eq_false, false_implies, and_true, beq_self_eq_true, Decidable.not_not, not_true_eq_false, not_false_eq_true]
  cases r with
  | nil =>
    have hx : x = none := hs
    subst hx
    exact ⟨fun h => by simp at h, fun _ => hex _ rfl (by (refine ⟨?_, ?_, rfl, tl_ok rfl, ?_, ⟨Nat.le_of_ble_eq_true rfl, rfl⟩⟩ <;> (repeat' first | with_reducible exact trivial | exact AV.sub_same _ | exact .same _ | exact .inr rfl | exact .inl (in_ok rfl) | exact AV.sub_lit' | exact AV.sub_nilS | exact .none _ _ | exact trivial | refine ⟨?_, ?_⟩)))⟩
  | cons y c' =>
    obtain ⟨a, e⟩ := y
    obtain ⟨hx, o', h1, h2⟩ := hs
    have hx : x = some (a, 0) := hx
    subst hx
    simp only [show ys.length + 1 = (ys ++ [e]).length by simp]
    have hb : (ys ++ [e]).length * 32 ≤ 140737488355328 := by simp only [List.length_cons, List.length_append, List.length_nil] at hn ⊢; omega
    refine ⟨fun _ => ⟨rfl, rfl, e.key, e.value, e.weight, e.node, at_whole h1 0 _ rfl (by simp [linkPD]), hb, fun sp' => ⟨rfl, rfl, o', at_whole h1 4 _ rfl (by simp [linkPD]), hnx _ a e c' o' sp' rfl h2 (by (refine ⟨?_, ?_, rfl, tl_ok rfl, ?_, ⟨Nat.le_of_ble_eq_true rfl, rfl⟩⟩ <;> (repeat' first | with_reducible exact trivial | exact AV.sub_same _ | exact .same _ | exact .inr rfl | exact .inl (in_ok rfl) | exact AV.sub_lit' | exact AV.sub_nilS | exact .none _ _ | exact trivial | refine ⟨?_, ?_⟩)))⟩⟩, fun h => by simp at h⟩

structure PC4 where
  q : PAll
  ch : Chn
  z0 : XAll
  hS : Seg q.p z0.x ch
  hn : z0.ys.length + ch.length ≤ 1099511627776
structure J4a (p : PC4) (x : Chn × XAll) : Prop where
  s : Seg p.q.p x.2.x x.1
  e : x.2.ys ++ ents x.1 = p.z0.ys ++ ents p.ch
  n : x.2.ys.length + x.1.length ≤ 1099511627776
def AL4 : LoopS V := trimLoop (trimSt [3, 7, 21, 22, 23, 27, 28, 29] [0, 1, 2, 3, 4, 5, 6, 7, 8]) (loopH 8 (fun p : PC4 => AI4 p.q p.z0) (fun p (_ : Nat) => True) (fun p sp => AI4 p.q ⟨none, p.z0.ys ++ ents p.ch, sp⟩))
theorem al4_ok : LoopOk Try.prog 4 (loopOf Try.f36 4) AL4 := by
  refine trimLoop_ok (trim_ok _ _) (loopTH_ok (C := cfgAll) cfgAll_ok (f := 36) (n := 60) (trim_ok [3, 7, 21, 22, 23, 27, 28, 29] [0, 2, 8, 9, 10]) 8 (fun (p : PC4) (x : Chn × XAll) => AI4 p.q x.2) J4a (fun p => (p.ch, p.z0)) (fun p x => x.1.length) (fun _ (_ : Nat) => True) (fun p sp => AI4 p.q ⟨none, p.z0.ys ++ ents p.ch, sp⟩) (fun p => ⟨p.hS, rfl, p.hn⟩) ?_)
  intro p x hx
  obtain ⟨r, z⟩ := x
  obtain ⟨h1, h2, h3⟩ := hx
  refine tbody4 p.q r z h1 h3 _ _ (fun ST a e c' o' sp' hr hs hw => SImp.of_wk (c', ⟨o', z.ys ++ [e], sp'⟩) hw ⟨⟨hs, ?_, ?_⟩, ?_⟩) (fun ST hr hw => ⟨rfl, ?_⟩)
  · subst hr; rw [← h2]; simp [ents]
  · subst hr; simp only [List.length_cons, List.length_append, List.length_nil] at h3 ⊢; omega
  · subst hr; simp
  · subst hr
    obtain ⟨x, ys, sp⟩ := z
    have hx : x = none := h1
    subst hx
    have hy : ys = p.z0.ys ++ ents p.ch := by rw [← h2]; simp [ents]
    subst hy
    exact SImp.of_wk sp hw trivial

end Sx
end Go.Proofs.Ytohckjjbephohaa

/-
  Tables: the runs of the machine.
-/
namespace Go.Proofs.Ytohckjjbephohaa
namespace Sx
open Go
set_option maxRecDepth 100000
set_option linter.unusedVariables false

noncomputable def cfgAll4 : Cfg Try.prog V := ⟨tab, kinds, fun _ => none, hooksAll, fun f id => match f, id with | 36, 4 => some AL4 | _, _ => none⟩
structure X2 where
  i : Nat
  ys : List Ent
  sp : Nat
def AI2 (k : Nat) (j : Int) (q : PAll) (z : X2) : St V := ⟨[(22, .lit .i64 2), (21, .sl true 2 0 1 2 2), (23, .lit .i64 j), (27, .rs q.row q.n q.c), (28, .int .i64 (q.n : Int)), (29, .int .i64 (z.i : Int)), (3, .sl false k 0 4 z.ys.length (z.ys.length + z.sp))],
  [(k, .arr 28 .ent z.ys z.sp), (2, .cells 69 [.rs q.a0 q.n0 q.c0, .rs q.a1 q.n1 q.c1]), (0, .pool q.p)], k + 1, 51, TQ⟩
theorem tball2a (q : PAll) (z : X2) : runCode cfgAll4 60 36 (loopOf Try.f36 2) (AI2 3 0 q z) (stopT (trimSt [3, 21, 22, 23, 27, 28, 29] [0, 2, 3, 5, 8])) = Out.ite (decide ((↑z.1 : Int) < (↑q.10 : Int))) (Out.need ((0 : Int) ≤ (↑z.1 : Int) ∧ (↑z.1 : Int) < (↑q.10 : Int) ∧ q.row.isSome = true) (Out.ex (Option (Nat × Nat)) fun y => Out.need (q.p.at (shiftA q.row (z.1 * (1 : Nat))) [PD.ptr y]) (Out.need (LoopFor Try.prog (36 : Nat) (4 : Nat) (loopOf Try.f36 (4 : Nat)) AL4) (Out.ex (PC4 → Prop) fun y_1 => Out.need ((4 : Nat) ≤ (8 : Nat) ∧ SImp (8 : Nat) {env := [((3 : Nat), .sl false (3 : Nat) (0 : Nat) (4 : Nat) z.ys.length (z.ys.length + z.3)), ((7 : Nat), AV.rp y), ((21 : Nat), .sl true (2 : Nat) (0 : Nat) (1 : Nat) (2 : Nat) (2 : Nat)), ((22 : Nat), .lit .i64 (2 : Int)), ((23 : Nat), .lit .i64 (0 : Int)), ((27 : Nat), AV.rs q.row q.10 q.11), ((28 : Nat), .int .i64 (↑q.10 : Int)), ((29 : Nat), .int .i64 (↑z.1 : Int))], heap := [((3 : Nat), .arr (28 : Nat) Kd.ent z.ys z.3), ((2 : Nat), .cells (69 : Nat) [AV.rs q.a0 q.4 q.5, AV.rs q.a1 q.7 q.8]), ((0 : Nat), Blk.pool q.p)], nx := (4 : Nat), nt := (51 : Nat), tl := [(0 : Nat), (1 : Nat), (2 : Nat), (3 : Nat), (4 : Nat), (5 : Nat), (6 : Nat), (7 : Nat), (8 : Nat), (9 : Nat), (10 : Nat), (11 : Nat), (12 : Nat), (13 : Nat), (14 : Nat), (15 : Nat), (16 : Nat)] : St V } (fun p => AI4 p.q p.z0) y_1) (Out.all PC4 fun y => Out.asm (y_1 y) (Out.all Nat fun y_2 => Out.asm ((fun p x => True) y y_2) (Out.stop EX.nx {env := [((3 : Nat), .sl false (8 : Nat) (0 : Nat) (4 : Nat) {x := none, ys := y.z0.ys ++ ents y.ch, sp := y_2 : XAll }.ys.length ({x := none, ys := y.z0.ys ++ ents y.ch, sp := y_2 : XAll }.ys.length + y_2)), ((21 : Nat), .sl true (2 : Nat) (0 : Nat) (1 : Nat) (2 : Nat) (2 : Nat)), ((22 : Nat), .lit .i64 (2 : Int)), ((23 : Nat), .lit .i64 y.q.j), ((27 : Nat), AV.rs y.q.row y.q.10 y.q.11), ((28 : Nat), .int .i64 (↑y.q.10 : Int)), ((29 : Nat), .int .i64 (IntKind.i64.wrap (y.q.i + (1 : Int))))], heap := [((8 : Nat), .arr (28 : Nat) Kd.ent {x := none, ys := y.z0.ys ++ ents y.ch, sp := y_2 : XAll }.ys y_2), ((2 : Nat), .cells (69 : Nat) [AV.rs y.q.a0 y.q.4 y.q.5, AV.rs y.q.a1 y.q.7 y.q.8]), ((0 : Nat), Blk.pool y.q.p)], nx := (9 : Nat), nt := (51 : Nat), tl := [(0 : Nat), (1 : Nat), (2 : Nat), (3 : Nat), (4 : Nat), (5 : Nat), (6 : Nat), (7 : Nat), (8 : Nat), (9 : Nat), (10 : Nat), (11 : Nat), (12 : Nat), (13 : Nat), (14 : Nat), (15 : Nat), (16 : Nat)] : St V }))))))) (Out.stop (EX.ex (2 : Nat)) {env := [((3 : Nat), .sl false (3 : Nat) (0 : Nat) (4 : Nat) z.ys.length (z.ys.length + z.3)), ((21 : Nat), .sl true (2 : Nat) (0 : Nat) (1 : Nat) (2 : Nat) (2 : Nat)), ((22 : Nat), .lit .i64 (2 : Int)), ((23 : Nat), .lit .i64 (0 : Int)), ((27 : Nat), AV.rs q.row q.10 q.11), ((28 : Nat), .int .i64 (↑q.10 : Int)), ((29 : Nat), .int .i64 (↑z.1 : Int))], heap := [((3 : Nat), .arr (28 : Nat) Kd.ent z.ys z.3), ((2 : Nat), .cells (69 : Nat) [AV.rs q.a0 q.4 q.5, AV.rs q.a1 q.7 q.8]), ((0 : Nat), Blk.pool q.p)], nx := (4 : Nat), nt := (51 : Nat), tl := [(0 : Nat), (1 : Nat), (2 : Nat), (3 : Nat), (4 : Nat), (5 : Nat), (6 : Nat), (7 : Nat), (8 : Nat), (9 : Nat), (10 : Nat), (11 : Nat), (12 : Nat), (13 : Nat), (14 : Nat), (15 : Nat), (16 : Nat)] : St V }) := by kernel_rfl

theorem tball2b (q : PAll) (z : X2) : runCode cfgAll4 60 36 (loopOf Try.f36 2) (AI2 5 1 q z) (stopT (trimSt [3, 21, 22, 23, 27, 28, 29] [0, 2, 3, 5, 8])) = Out.ite (decide ((↑z.1 : Int) < (↑q.10 : Int))) (Out.need ((0 : Int) ≤ (↑z.1 : Int) ∧ (↑z.1 : Int) < (↑q.10 : Int) ∧ q.row.isSome = true) (Out.ex (Option (Nat × Nat)) fun y => Out.need (q.p.at (shiftA q.row (z.1 * (1 : Nat))) [PD.ptr y]) (Out.need (LoopFor Try.prog (36 : Nat) (4 : Nat) (loopOf Try.f36 (4 : Nat)) AL4) (Out.ex (PC4 → Prop) fun y_1 => Out.need ((6 : Nat) ≤ (8 : Nat) ∧ SImp (8 : Nat) {env := [((3 : Nat), .sl false (5 : Nat) (0 : Nat) (4 : Nat) z.ys.length (z.ys.length + z.3)), ((7 : Nat), AV.rp y), ((21 : Nat), .sl true (2 : Nat) (0 : Nat) (1 : Nat) (2 : Nat) (2 : Nat)), ((22 : Nat), .lit .i64 (2 : Int)), ((23 : Nat), .lit .i64 (1 : Int)), ((27 : Nat), AV.rs q.row q.10 q.11), ((28 : Nat), .int .i64 (↑q.10 : Int)), ((29 : Nat), .int .i64 (↑z.1 : Int))], heap := [((5 : Nat), .arr (28 : Nat) Kd.ent z.ys z.3), ((2 : Nat), .cells (69 : Nat) [AV.rs q.a0 q.4 q.5, AV.rs q.a1 q.7 q.8]), ((0 : Nat), Blk.pool q.p)], nx := (6 : Nat), nt := (51 : Nat), tl := [(0 : Nat), (1 : Nat), (2 : Nat), (3 : Nat), (4 : Nat), (5 : Nat), (6 : Nat), (7 : Nat), (8 : Nat), (9 : Nat), (10 : Nat), (11 : Nat), (12 : Nat), (13 : Nat), (14 : Nat), (15 : Nat), (16 : Nat)] : St V } (fun p => AI4 p.q p.z0) y_1) (Out.all PC4 fun y => Out.asm (y_1 y) (Out.all Nat fun y_2 => Out.asm ((fun p x => True) y y_2) (Out.stop EX.nx {env := [((3 : Nat), .sl false (8 : Nat) (0 : Nat) (4 : Nat) {x := none, ys := y.z0.ys ++ ents y.ch, sp := y_2 : XAll }.ys.length ({x := none, ys := y.z0.ys ++ ents y.ch, sp := y_2 : XAll }.ys.length + y_2)), ((21 : Nat), .sl true (2 : Nat) (0 : Nat) (1 : Nat) (2 : Nat) (2 : Nat)), ((22 : Nat), .lit .i64 (2 : Int)), ((23 : Nat), .lit .i64 y.q.j), ((27 : Nat), AV.rs y.q.row y.q.10 y.q.11), ((28 : Nat), .int .i64 (↑y.q.10 : Int)), ((29 : Nat), .int .i64 (IntKind.i64.wrap (y.q.i + (1 : Int))))], heap := [((8 : Nat), .arr (28 : Nat) Kd.ent {x := none, ys := y.z0.ys ++ ents y.ch, sp := y_2 : XAll }.ys y_2), ((2 : Nat), .cells (69 : Nat) [AV.rs y.q.a0 y.q.4 y.q.5, AV.rs y.q.a1 y.q.7 y.q.8]), ((0 : Nat), Blk.pool y.q.p)], nx := (9 : Nat), nt := (51 : Nat), tl := [(0 : Nat), (1 : Nat), (2 : Nat), (3 : Nat), (4 : Nat), (5 : Nat), (6 : Nat), (7 : Nat), (8 : Nat), (9 : Nat), (10 : Nat), (11 : Nat), (12 : Nat), (13 : Nat), (14 : Nat), (15 : Nat), (16 : Nat)] : St V }))))))) (Out.stop (EX.ex (2 : Nat)) {env := [((3 : Nat), .sl false (5 : Nat) (0 : Nat) (4 : Nat) z.ys.length (z.ys.length + z.3)), ((21 : Nat), .sl true (2 : Nat) (0 : Nat) (1 : Nat) (2 : Nat) (2 : Nat)), ((22 : Nat), .lit .i64 (2 : Int)), ((23 : Nat), .lit .i64 (1 : Int)), ((27 : Nat), AV.rs q.row q.10 q.11), ((28 : Nat), .int .i64 (↑q.10 : Int)), ((29 : Nat), .int .i64 (↑z.1 : Int))], heap := [((5 : Nat), .arr (28 : Nat) Kd.ent z.ys z.3), ((2 : Nat), .cells (69 : Nat) [AV.rs q.a0 q.4 q.5, AV.rs q.a1 q.7 q.8]), ((0 : Nat), Blk.pool q.p)], nx := (6 : Nat), nt := (51 : Nat), tl := [(0 : Nat), (1 : Nat), (2 : Nat), (3 : Nat), (4 : Nat), (5 : Nat), (6 : Nat), (7 : Nat), (8 : Nat), (9 : Nat), (10 : Nat), (11 : Nat), (12 : Nat), (13 : Nat), (14 : Nat), (15 : Nat), (16 : Nat)] : St V }) := by kernel_rfl

end Sx
end Go.Proofs.Ytohckjjbephohaa

/-
  All entries of a table: the loop over a row of chains.
-/
namespace Go.Proofs.Ytohckjjbephohaa
namespace Sx
open Go
set_option linter.unusedSimpArgs false
set_option linter.unusedVariables false

theorem cfgAll4_ok : cfgAll4.ok := ⟨tab_met, kinds_met, mixed_met, fun g fn h => (by cases h), hooksAll_ok⟩

structure PC2 where
  q : PAll
  chs : List Chn
  z0 : X2
  h0 : z0.i = 0
  hl : q.n = chs.length
  hn : q.n ≤ 2147483648
  hs : ∀ i, i < chs.length → q.row.isSome = true ∧ ∃ o, q.p.at (shiftA q.row (i * 1)) [.ptr o] ∧ Seg q.p o (chs.getD i [])
  hy : z0.ys.length + (chs.flatMap ents).length ≤ 1099511627776
structure J2 (p : PC2) (z : X2) : Prop where
  i : z.i ≤ p.chs.length
  e : z.ys = p.z0.ys ++ (p.chs.take z.i).flatMap ents
theorem flat_take_le : ∀ (l : List Chn) (i : Nat), ((l.take i).flatMap ents).length + (l.getD i []).length ≤ (l.flatMap ents).length
  | [], i => by simp
  | x :: l, 0 => by simp [ents]
  | x :: l, i + 1 => by have := flat_take_le l i; simp only [List.take_succ_cons, List.flatMap_cons, List.length_append, List.getD_cons_succ]; omega
theorem flat_take_succ : ∀ (l : List Chn) (i : Nat), i < l.length → (l.take (i + 1)).flatMap ents = (l.take i).flatMap ents ++ ents (l.getD i [])
  | [], i, h => by simp at h
  | x :: l, 0, h => by simp
  | x :: l, i + 1, h => by
    have := flat_take_succ l i (by simpa using h)
    rw [List.take_succ_cons, List.take_succ_cons, List.flatMap_cons, List.flatMap_cons, this, List.append_assoc, List.getD_cons_succ]

theorem tbody2a (q : PAll) (z : X2) (c : Chn) (hi : z.i ≤ q.n) (hn : q.n ≤ 2147483648) (hs : z.i < q.n → q.row.isSome = true ∧ ∃ o, q.p.at (shiftA q.row (z.i * 1)) [.ptr o] ∧ Seg q.p o c) (hy : z.ys.length + c.length ≤ 1099511627776) (Q : EX → St V → Prop) (F : AV → Heap V → Nat → Prop)
    (hnx : ∀ (ST : St V) sp', z.i < q.n → Wk 3 [(3, 8)] ST (AI2 3 0 q ⟨z.i + 1, z.ys ++ ents c, sp'⟩) → Q .nx ST)
    (hex : ∀ ST : St V, z.i = q.n → Wk 3 [(3, 3)] ST (AI2 3 0 q z) → Q (.ex 2) ST) :
    (runCode cfgAll4 60 36 (loopOf Try.f36 2) (AI2 3 0 q z) (stopT (trimSt [3, 21, 22, 23, 27, 28, 29] [0, 2, 3, 5, 8]))).holds ⟨Q, F⟩ := by
  rw [tball2a]
  obtain ⟨i, ys, sp⟩ := z
  simp only at hi hs hy hnx hex
  simp only [Out.holds, decide_eq_true_eq, decide_eq_false_iff_not, beq_iff_eq, beq_eq_false_iff_ne, bne_iff_ne, ne_eq, bne_eq_false_iff_eq, Bool.true_and, Bool.and_true, Bool.not_eq_true', Bool.not_eq_false', Bool.and_eq_true, Bool.or_eq_true, Bool.and_eq_false_imp, true_implies, true_and, Bool.not_true, Bool.not_false, Bool.false_eq_true, Bool.true_eq_false, false_implies, and_true, beq_self_eq_true, Decidable.not_not, not_true_eq_false, not_false_eq_true]
  refine ⟨fun hlt => ?_, fun hge => hex _ (by omega) (by (refine ⟨?_, ?_, rfl, tl_ok rfl, ?_, ⟨Nat.le_of_ble_eq_true rfl, rfl⟩⟩ <;> (repeat' first | with_reducible exact trivial | exact AV.sub_same _ | exact .same _ | exact .inr rfl | exact .inl (in_ok rfl) | exact AV.sub_lit' | exact AV.sub_nilS | exact .none _ _ | exact trivial | refine ⟨?_, ?_⟩)))⟩
  have hlt' : i < q.n := by omega
  obtain ⟨h1, o, h2, h3⟩ := hs hlt'
  have hw : IntKind.wrap .i64 ((i : Int) + 1) = ((i + 1 : Nat) : Int) := wrap_nat (by omega)
  refine ⟨⟨by omega, by omega, h1⟩, o, h2, al4_ok, fun p => p = ⟨{ q with i := (i : Int), j := 0 }, c, ⟨o, ys, sp⟩, h3, hy⟩, ⟨by decide, SImp.of_wk (ren := [(8, 3)]) ⟨{ q with i := (i : Int), j := 0 }, c, ⟨o, ys, sp⟩, h3, hy⟩ (by (refine ⟨?_, ?_, rfl, tl_ok rfl, ?_, ⟨Nat.le_of_ble_eq_true rfl, rfl⟩⟩ <;> (repeat' first | with_reducible exact trivial | exact AV.sub_same _ | exact .same _ | exact .inr rfl | exact .inl (in_ok rfl) | exact AV.sub_lit' | exact AV.sub_nilS | exact .none _ _ | exact trivial | refine ⟨?_, ?_⟩))) rfl⟩, ?_⟩
  rintro _ rfl sp'
  exact hnx _ sp' hlt' (by (refine ⟨?_, ?_, rfl, tl_ok rfl, ?_, ⟨Nat.le_of_ble_eq_true rfl, rfl⟩⟩ <;> (repeat' first | with_reducible exact trivial | (exact AV.sub_int hw) | exact AV.sub_same _ | exact .same _ | exact .inr rfl | exact .inl (in_ok rfl) | exact AV.sub_lit' | exact AV.sub_nilS | exact .none _ _ | exact trivial | refine ⟨?_, ?_⟩)))

def AL2a : LoopS V := trimLoop (trimSt [3, 21, 22, 23, 27, 28, 29] [0, 1, 2, 3, 4, 5, 6, 7, 8]) (loopH 3 (fun p : PC2 => AI2 3 0 p.q p.z0) (fun p (_ : Nat) => True) (fun p sp => AI2 3 0 p.q ⟨p.chs.length, p.z0.ys ++ p.chs.flatMap ents, sp⟩))
theorem al2a_ok : LoopOk Try.prog 2 (loopOf Try.f36 2) AL2a := by
  refine trimLoop_ok (trim_ok _ _) (loopTH_ok (C := cfgAll4) cfgAll4_ok (f := 36) (n := 60) (trim_ok [3, 21, 22, 23, 27, 28, 29] [0, 2, 3, 5, 8]) 3 (fun (p : PC2) (x : X2) => AI2 3 0 p.q x) J2 (fun p => p.z0) (fun p x => p.chs.length - x.i) (fun _ (_ : Nat) => True) (fun p sp => AI2 3 0 p.q ⟨p.chs.length, p.z0.ys ++ p.chs.flatMap ents, sp⟩) (fun p => ⟨by rw [p.h0]; exact Nat.zero_le _, by rw [p.h0]; simp⟩) ?_)
  intro p z hz
  obtain ⟨h1, h2⟩ := hz
  have hl := p.hl
  have hy := p.hy
  have hf := flat_take_le p.chs z.i
  refine tbody2a p.q z (p.chs.getD z.i []) (by omega) p.hn (fun h => p.hs z.i (by omega)) ?_ _ _ (fun ST sp' hlt hw => SImp.of_wk ⟨z.i + 1, z.ys ++ ents (p.chs.getD z.i []), sp'⟩ hw ⟨⟨?_, ?_⟩, ?_⟩) (fun ST he hw => ⟨rfl, ?_⟩)
  · rw [h2, List.length_append]; omega
  · show z.i + 1 ≤ _; omega
  · show z.ys ++ _ = _
    rw [flat_take_succ p.chs z.i (by omega), h2, List.append_assoc]
  · show p.chs.length - (z.i + 1) < p.chs.length - z.i; omega
  · obtain ⟨i, ys, sp⟩ := z
    simp only at he h2
    rw [hl] at he; subst he
    rw [List.take_length] at h2; subst h2
    exact SImp.of_wk sp hw trivial

theorem tbody2b (q : PAll) (z : X2) (c : Chn) (hi : z.i ≤ q.n) (hn : q.n ≤ 2147483648) (hs : z.i < q.n → q.row.isSome = true ∧ ∃ o, q.p.at (shiftA q.row (z.i * 1)) [.ptr o] ∧ Seg q.p o c) (hy : z.ys.length + c.length ≤ 1099511627776) (Q : EX → St V → Prop) (F : AV → Heap V → Nat → Prop)
    (hnx : ∀ (ST : St V) sp', z.i < q.n → Wk 5 [(5, 8)] ST (AI2 5 1 q ⟨z.i + 1, z.ys ++ ents c, sp'⟩) → Q .nx ST)
    (hex : ∀ ST : St V, z.i = q.n → Wk 5 [(5, 5)] ST (AI2 5 1 q z) → Q (.ex 2) ST) :
    (runCode cfgAll4 60 36 (loopOf Try.f36 2) (AI2 5 1 q z) (stopT (trimSt [3, 21, 22, 23, 27, 28, 29] [0, 2, 3, 5, 8]))).holds ⟨Q, F⟩ := by
  rw [tball2b]
  obtain ⟨i, ys, sp⟩ := z
  simp only at hi hs hy hnx hex
  simp only [Out.holds, decide_eq_true_eq, decide_eq_false_iff_not, beq_iff_eq, beq_eq_false_iff_ne, bne_iff_ne, ne_eq, bne_eq_false_iff_eq, Bool.true_and, Bool.and_true, Bool.not_eq_true', Bool.not_eq_false', Bool.and_eq_true, Bool.or_eq_true, Bool.and_eq_false_imp, true_implies, true_and, Bool.not_true, Bool.not_false, Bool.false_eq_true, Bool.true_eq_false, false_implies, and_true, beq_self_eq_true, Decidable.not_not, not_true_eq_false, not_false_eq_true]
  refine ⟨fun hlt => ?_, fun hge => hex _ (by omega) (by (refine ⟨?_, ?_, rfl, tl_ok rfl, ?_, ⟨Nat.le_of_ble_eq_true rfl, rfl⟩⟩ <;> (repeat' first | with_reducible exact trivial | exact AV.sub_same _ | exact .same _ | exact .inr rfl | exact .inl (in_ok rfl) | exact AV.sub_lit' | exact AV.sub_nilS | exact .none _ _ | exact trivial | refine ⟨?_, ?_⟩)))⟩
  have hlt' : i < q.n := by omega
  obtain ⟨h1, o, h2, h3⟩ := hs hlt'
  have hw : IntKind.wrap .i64 ((i : Int) + 1) = ((i + 1 : Nat) : Int) := wrap_nat (by omega)
  refine ⟨⟨by omega, by omega, h1⟩, o, h2, al4_ok, fun p => p = ⟨{ q with i := (i : Int), j := 1 }, c, ⟨o, ys, sp⟩, h3, hy⟩, ⟨by decide, SImp.of_wk (ren := [(8, 5)]) ⟨{ q with i := (i : Int), j := 1 }, c, ⟨o, ys, sp⟩, h3, hy⟩ (by (refine ⟨?_, ?_, rfl, tl_ok rfl, ?_, ⟨Nat.le_of_ble_eq_true rfl, rfl⟩⟩ <;> (repeat' first | with_reducible exact trivial | exact AV.sub_same _ | exact .same _ | exact .inr rfl | exact .inl (in_ok rfl) | exact AV.sub_lit' | exact AV.sub_nilS | exact .none _ _ | exact trivial | refine ⟨?_, ?_⟩))) rfl⟩, ?_⟩
  rintro _ rfl sp'
  exact hnx _ sp' hlt' (by (refine ⟨?_, ?_, rfl, tl_ok rfl, ?_, ⟨Nat.le_of_ble_eq_true rfl, rfl⟩⟩ <;> (repeat' first | with_reducible exact trivial | (exact AV.sub_int hw) | exact AV.sub_same _ | exact .same _ | exact .inr rfl | exact .inl (in_ok rfl) | exact AV.sub_lit' | exact AV.sub_nilS | exact .none _ _ | exact trivial | refine ⟨?_, ?_⟩)))

def AL2b : LoopS V := trimLoop (trimSt [3, 21, 22, 23, 27, 28, 29] [0, 1, 2, 3, 4, 5, 6, 7, 8]) (loopH 5 (fun p : PC2 => AI2 5 1 p.q p.z0) (fun p (_ : Nat) => True) (fun p sp => AI2 5 1 p.q ⟨p.chs.length, p.z0.ys ++ p.chs.flatMap ents, sp⟩))
theorem al2b_ok : LoopOk Try.prog 2 (loopOf Try.f36 2) AL2b := by
  refine trimLoop_ok (trim_ok _ _) (loopTH_ok (C := cfgAll4) cfgAll4_ok (f := 36) (n := 60) (trim_ok [3, 21, 22, 23, 27, 28, 29] [0, 2, 3, 5, 8]) 5 (fun (p : PC2) (x : X2) => AI2 5 1 p.q x) J2 (fun p => p.z0) (fun p x => p.chs.length - x.i) (fun _ (_ : Nat) => True) (fun p sp => AI2 5 1 p.q ⟨p.chs.length, p.z0.ys ++ p.chs.flatMap ents, sp⟩) (fun p => ⟨by rw [p.h0]; exact Nat.zero_le _, by rw [p.h0]; simp⟩) ?_)
  intro p z hz
  obtain ⟨h1, h2⟩ := hz
  have hl := p.hl
  have hy := p.hy
  have hf := flat_take_le p.chs z.i
  refine tbody2b p.q z (p.chs.getD z.i []) (by omega) p.hn (fun h => p.hs z.i (by omega)) ?_ _ _ (fun ST sp' hlt hw => SImp.of_wk ⟨z.i + 1, z.ys ++ ents (p.chs.getD z.i []), sp'⟩ hw ⟨⟨?_, ?_⟩, ?_⟩) (fun ST he hw => ⟨rfl, ?_⟩)
  · rw [h2, List.length_append]; omega
  · show z.i + 1 ≤ _; omega
  · show z.ys ++ _ = _
    rw [flat_take_succ p.chs z.i (by omega), h2, List.append_assoc]
  · show p.chs.length - (z.i + 1) < p.chs.length - z.i; omega
  · obtain ⟨i, ys, sp⟩ := z
    simp only at he h2
    rw [hl] at he; subst he
    rw [List.take_length] at h2; subst h2
    exact SImp.of_wk sp hw trivial

end Sx
end Go.Proofs.Ytohckjjbephohaa

/-
  Tables: the runs of the machine.
-/
namespace Go.Proofs.Ytohckjjbephohaa
namespace Sx
open Go
set_option maxRecDepth 100000
set_option linter.unusedVariables false

def AL2 : LoopS V := fun s K => bif Nat.ble s.nx 3 then AL2a s K else AL2b s K
noncomputable def cfgAll2 : Cfg Try.prog V := ⟨tab, kinds, fun _ => none, hooksAll, fun f id => match f, id with | 36, 2 => some AL2 | _, _ => none⟩
theorem tall (p : Pool) (b : Nat) : runF cfgAll2 60 36 Try.f36 [.rp (some (b, 0))] [(0, .pool p)] 2 = Out.need ((some (b, (0 : Nat))).isSome = true) (Out.need ((some (b, (0 : Nat))).isSome = true) (Out.ex (Option (Nat × Nat)) fun y => Out.ex Nat fun y_1 => Out.ex Nat fun y_2 => Out.need (p.at (shiftA (some (b, (0 : Nat))) (1 : Nat)) [PD.sl y y_1 y_2]) (Out.need ((some (b, (0 : Nat))).isSome = true) (Out.need ((some (b, (0 : Nat))).isSome = true) (Out.ex (Option (Nat × Nat)) fun y_3 => Out.ex Nat fun y_4 => Out.ex Nat fun y_5 => Out.need (p.at (shiftA (some (b, (0 : Nat))) (2 : Nat)) [PD.sl y_3 y_4 y_5]) (Out.need ((some (b, (0 : Nat))).isSome = true) (Out.need ((some (b, (0 : Nat))).isSome = true) (Out.ex Int fun y_6 => Out.need (p.at (shiftA (some (b, (0 : Nat))) (3 : Nat)) [PD.int .i64 y_6]) (Out.need ((0 : Int) ≤ y_6 ∧ y_6 ≤ (↑y_4 : Int) ∧ y_4 ≤ y_5) (Out.need ((0 : Int) ≤ (0 : Int) ∧ (0 : Int) < (2 : Int)) (Out.need (LoopFor Try.prog (36 : Nat) (2 : Nat) (loopOf Try.f36 (2 : Nat)) AL2) (Out.ex (PC2 → Prop) fun y_7 => Out.need ((3 : Nat) ≤ (3 : Nat) ∧ SImp (3 : Nat) {env := [((3 : Nat), .nilS), ((21 : Nat), .sl true (2 : Nat) (0 : Nat) (1 : Nat) (2 : Nat) (2 : Nat)), ((22 : Nat), .lit .i64 (2 : Int)), ((23 : Nat), .lit .i64 (0 : Int)), ((27 : Nat), AV.rs y y_1 y_2), ((28 : Nat), .int .i64 (↑y_1 : Int)), ((29 : Nat), .lit .i64 (0 : Int))], heap := [((2 : Nat), .cells (69 : Nat) [AV.rs y y_1 y_2, AV.rs (if y_5 = y_6.toNat then y_3 else shiftA y_3 (y_6.toNat * (1 : Nat))) (y_4 - y_6.toNat) (y_5 - y_6.toNat)]), ((0 : Nat), Blk.pool p)], nx := (3 : Nat), nt := (51 : Nat), tl := [] : St V } (fun p => AI2 (3 : Nat) (0 : Int) p.q p.z0) y_7) (Out.all PC2 fun y => Out.asm (y_7 y) (Out.all Nat fun y_8 => Out.asm ((fun p x => True) y y_8) (Out.need ((0 : Int) ≤ (1 : Int) ∧ (1 : Int) < (2 : Int)) (Out.need (LoopFor Try.prog (36 : Nat) (2 : Nat) (loopOf Try.f36 (2 : Nat)) AL2) (Out.ex (PC2 → Prop) fun y_9 => Out.need ((4 : Nat) ≤ (5 : Nat) ∧ SImp (5 : Nat) {env := [((3 : Nat), .sl false (3 : Nat) (0 : Nat) (4 : Nat) {i := y.chs.length, ys := y.z0.ys ++ List.flatMap ents y.chs, sp := y_8 : X2 }.ys.length ({i := y.chs.length, ys := y.z0.ys ++ List.flatMap ents y.chs, sp := y_8 : X2 }.ys.length + y_8)), ((21 : Nat), .sl true (2 : Nat) (0 : Nat) (1 : Nat) (2 : Nat) (2 : Nat)), ((22 : Nat), .lit .i64 (2 : Int)), ((23 : Nat), .lit .i64 (1 : Int)), ((27 : Nat), AV.rs y.q.a1 y.q.7 y.q.8), ((28 : Nat), .int .i64 (↑y.q.7 : Int)), ((29 : Nat), .lit .i64 (0 : Int))], heap := [((3 : Nat), .arr (28 : Nat) Kd.ent {i := y.chs.length, ys := y.z0.ys ++ List.flatMap ents y.chs, sp := y_8 : X2 }.ys y_8), ((2 : Nat), .cells (69 : Nat) [AV.rs y.q.a0 y.q.4 y.q.5, AV.rs y.q.a1 y.q.7 y.q.8]), ((0 : Nat), Blk.pool y.q.p)], nx := (4 : Nat), nt := (51 : Nat), tl := [(0 : Nat), (1 : Nat), (2 : Nat), (3 : Nat), (4 : Nat), (5 : Nat), (6 : Nat), (7 : Nat), (8 : Nat), (9 : Nat), (10 : Nat), (11 : Nat), (12 : Nat), (13 : Nat), (14 : Nat), (15 : Nat), (16 : Nat)] : St V } (fun p => AI2 (5 : Nat) (1 : Int) p.q p.z0) y_9) (Out.all PC2 fun y => Out.asm (y_9 y) (Out.all Nat fun y_10 => Out.asm ((fun p x => True) y y_10) (Out.need ((0 : Nat) = (0 : Nat) ∧ {i := y.chs.length, ys := y.z0.ys ++ List.flatMap ents y.chs, sp := y_10 : X2 }.ys.length = {i := y.chs.length, ys := y.z0.ys ++ List.flatMap ents y.chs, sp := y_10 : X2 }.ys.length ∧ {i := y.chs.length, ys := y.z0.ys ++ List.flatMap ents y.chs, sp := y_10 : X2 }.ys.length ≤ (1099511627776 : Nat)) (Out.all (List Ent) fun y_11 => Out.asm (y_11.Perm {i := y.chs.length, ys := y.z0.ys ++ List.flatMap ents y.chs, sp := y_10 : X2 }.ys ∧ List.Pairwise (fun a b => a.key ≤ b.key) y_11) (Out.fin (.sl false (5 : Nat) (0 : Nat) (4 : Nat) {i := y.chs.length, ys := y.z0.ys ++ List.flatMap ents y.chs, sp := y_10 : X2 }.ys.length ({i := y.chs.length, ys := y.z0.ys ++ List.flatMap ents y.chs, sp := y_10 : X2 }.ys.length + y_10)) [((5 : Nat), .arr (28 : Nat) Kd.ent y_11 y_10), ((2 : Nat), .cells (69 : Nat) [AV.rs y.q.a0 y.q.4 y.q.5, AV.rs y.q.a1 y.q.7 y.q.8]), ((0 : Nat), Blk.pool y.q.p)] (6 : Nat))))))))))))))))))))))) := by kernel_rfl

end Sx
end Go.Proofs.Ytohckjjbephohaa

/-
  All entries of a table: the contract.
-/
namespace Go.Proofs.Ytohckjjbephohaa
namespace Sx
open Go
set_option linter.unusedSimpArgs false
set_option linter.unusedVariables false

theorem al2_ok : LoopOk Try.prog 2 (loopOf Try.f36 2) AL2 := by
  intro M s K h
  unfold AL2 at h
  cases hb : Nat.ble s.nx 3 <;> rw [hb] at h
  · exact al2b_ok M s K h
  · exact al2a_ok M s K h

/-- A row's chains from a place on, as the loop wants them. -/
theorem Arr.rows {p : Pool} {lab : Nat → Lab} {old : Bool} {blk : Nat} {cs : List Chn} {m : Nat} (h : Arr p lab old blk cs m) (hm : m ≤ cs.length) :
    ∀ i, i < (cs.drop m).length → (some (blk, m) : Adr).isSome = true ∧ ∃ o, p.at (shiftA (some (blk, m)) (i * 1)) [.ptr o] ∧ Seg p o ((cs.drop m).getD i []) := by
  intro i hi
  obtain ⟨hs, a1, a2, a3, a4⟩ := h
  rw [List.length_drop] at hi
  refine ⟨rfl, hs.getD (m + i) none, ?_, ?_⟩
  · rw [show shiftA (some (blk, m)) (i * 1) = some (blk, m + i) by simp [shiftA]]
    exact at_arr a1 (by omega)
  · have := (a4 (m + i) (by omega) (by omega)).1
    rwa [show (cs.drop m).getD i [] = cs.getD (m + i) [] by simp [List.getD_eq_getElem?_getD, List.getElem?_drop]]

def rowsAll (L : TL) : List Ent := L.B.flatMap ents ++ (L.O.drop L.moved).flatMap ents
def runAll : RunPool V := fun p ar K => match ar with
  | [.val (.rp a)] => .ex Nat fun b => .need (a = some (b, 0)) <| .ex TL fun L => .need (TabAt p b L ∧ L.fits ∧ (rowsAll L).length ≤ 1099511627776) (.all (List Ent) fun ys => .all Nat fun sp => .asm (ys.Perm (rowsAll L) ∧ ys.Pairwise (fun a b => a.key ≤ b.key)) (K (.sl false 1 0 4 (rowsAll L).length ((rowsAll L).length + sp)) p [.arr 28 .ent ys sp]))
  | _ => .bad 500
theorem hAll : HookOk Try.prog 36 (hookPool [.val] runAll) := by
  refine pool_hook (C := cfgAll2) ⟨tab_met, kinds_met, mixed_met, fun g fn h => (by cases h), hooksAll_ok⟩ (n := 60) (fn := Try.f36) ⟨by kernel_rfl, by kernel_rfl⟩ (by kernel_rfl) ?_
  intro M p ar K0 H
  unfold runAll at H
  split at H
  · rename_i a
    obtain ⟨b, rfl, L, ⟨hT, hF, hN⟩, H⟩ := H
    refine ⟨show 1 ≤ _ by decide +kernel, ?_⟩
    show (runF cfgAll2 60 36 Try.f36 [.rp (some (b, 0))] [(0, .pool p)] 2).holds _
    rw [tall]
    have f1 := hT.f1; have f2 := hT.f2; have f3 := hT.f3
    have hmv := hT.2.2.2.2.1
    simp only [Out.holds, decide_eq_true_eq, decide_eq_false_iff_not, beq_iff_eq, beq_eq_false_iff_ne, bne_iff_ne, ne_eq, bne_eq_false_iff_eq, Bool.true_and, Bool.and_true, Bool.not_eq_true', Bool.not_eq_false', Bool.and_eq_true, Bool.or_eq_true, Bool.and_eq_false_imp, true_implies, true_and, Bool.not_true, Bool.not_false, Bool.false_eq_true, Bool.true_eq_false, false_implies, and_true, beq_self_eq_true, Decidable.not_not, not_true_eq_false, not_false_eq_true]
    refine ⟨rfl, rfl, _, _, _, f1, rfl, rfl, _, _, _, f2, rfl, rfl, _, f3, ⟨by omega, by omega, by omega⟩, ⟨by omega, by omega⟩, al2_ok, ?_⟩
    obtain ⟨g1, g2, g3, g4⟩ := hF
    have hnn : (L.moved : Int).toNat = L.moved := Int.toNat_natCast _
    simp only [hnn]
    generalize ha : (if L.O.length = L.moved then L.oo else shiftA L.oo (L.moved * 1)) = a1
    have hlen : (rowsAll L).length = (L.B.flatMap ents).length + ((L.O.drop L.moved).flatMap ents).length := by simp [rowsAll]
    have hs0 : ∀ i, i < L.B.length → (some (L.bb, 0) : Adr).isSome = true ∧ ∃ o, p.at (shiftA (some (L.bb, 0)) (i * 1)) [.ptr o] ∧ Seg p o (L.B.getD i []) := Arr.rows hT.2.2.1 (Nat.zero_le _)
    have hs1 : ∀ i, i < (L.O.drop L.moved).length → a1.isSome = true ∧ ∃ o, p.at (shiftA a1 (i * 1)) [.ptr o] ∧ Seg p o ((L.O.drop L.moved).getD i []) := by
      intro i hi
      have hi' := hi
      rw [List.length_drop] at hi'
      have hO : L.O ≠ [] := fun e => by rw [e] at hi'; simp at hi'
      have ea : a1 = some (L.ob, L.moved) := by
        rw [← ha, if_neg (by omega)]; unfold TL.oo; rw [if_neg hO]; simp [shiftA]
      rw [ea]; exact Arr.rows (hT.2.2.2.1 hO) hmv i hi
    refine ⟨fun q => q = ⟨⟨p, 0, some (L.bb, 0), L.B.length, L.B.length, a1, L.O.length - L.moved, L.O.length - L.moved, some (L.bb, 0), L.B.length, L.B.length, 0⟩, L.B, ⟨0, [], 0⟩, rfl, rfl, (by show L.B.length ≤ _; omega), hs0, (by show 0 + _ ≤ _; omega)⟩, ⟨by decide, SImp.of_wk (ren := [(3, 99)]) _ ?_ rfl⟩, ?_⟩
    · exact ⟨⟨AV.sub_same _, AV.sub_same _, AV.sub_same _, AV.sub_same _, AV.sub_same _, AV.sub_lit', AV.sub_nilS, trivial⟩, ⟨.none _ _, .same _, .same _, trivial⟩, rfl, tl_ok rfl, ⟨.inr rfl, .inr rfl, trivial⟩, ⟨Nat.le_of_ble_eq_true rfl, rfl⟩⟩
    · rintro _ rfl sp1
      refine ⟨⟨by omega, by omega⟩, al2_ok, fun q => q = ⟨⟨p, 1, some (L.bb, 0), L.B.length, L.B.length, a1, L.O.length - L.moved, L.O.length - L.moved, a1, L.O.length - L.moved, L.O.length - L.moved, 0⟩, L.O.drop L.moved, ⟨0, [] ++ L.B.flatMap ents, sp1⟩, rfl, (by simp), (by show L.O.length - L.moved ≤ _; omega), hs1, (by show ([] ++ L.B.flatMap ents).length + _ ≤ _; rw [List.nil_append]; omega)⟩, ⟨by decide, SImp.of_wk (ren := [(5, 3)]) _ ?_ rfl⟩, ?_⟩
      · (refine ⟨?_, ?_, rfl, tl_ok rfl, ?_, ⟨Nat.le_of_ble_eq_true rfl, rfl⟩⟩ <;> (repeat' first | with_reducible exact trivial | (exact AV.sub_lit') | exact AV.sub_same _ | exact .same _ | exact .inr rfl | exact .inl (in_ok rfl) | exact AV.sub_lit' | exact AV.sub_nilS | exact .none _ _ | exact trivial | refine ⟨?_, ?_⟩))
      · rintro _ rfl sp2
        exact ⟨hN, fun ys hys => ⟨_, p, _, H ys sp2 hys, ⟨_, HImp.refl _ _, rfl, ⟨⟨fun _ => 5, ⟨.same _, trivial⟩, AV.sub_same _⟩, rfl, rfl⟩⟩⟩⟩
  · exact H.elim

end Sx
end Go.Proofs.Ytohckjjbephohaa

/-
  Plain tables: the row of all entries; no program in sight.
-/
namespace Go.Proofs.Ytohckjjbephohaa
namespace Sx
open Go
set_option linter.unusedSimpArgs false
set_option linter.unusedVariables false

def TM.all (t : TM) : List Ent := t.B.flatten ++ (t.O.drop t.moved).flatten
theorem rows_all (L : TL) : rowsAll L = L.tm.all := by
  unfold rowsAll TM.all TL.tm
  dsimp only
  rw [List.flatMap_def, List.flatMap_def, List.map_drop]
theorem TM.all_length (t : TM) : t.all.length = t.total := by
  unfold TM.all TM.total
  rw [List.length_append, List.length_flatten, List.length_flatten]
theorem getD_of {α : Type} {l : List α} {d : α} {i : Nat} (h : i < l.length) : l.getD i d = l[i] := by rw [List.getD_eq_getElem?_getD, List.getElem?_eq_getElem h]; rfl
theorem TM.mem_all {t : TM} (h : t.Core) (e : Ent) : e ∈ t.all ↔ t.get e.key = some e := by
  unfold TM.all
  rw [List.mem_append]
  constructor
  · rintro (hm | hm)
    · obtain ⟨l, hl, he⟩ := List.mem_flatten.1 hm
      obtain ⟨i, hi, rfl⟩ := List.mem_iff_getElem.1 hl
      have hq : t.live (false, i) := by unfold TM.live; simpa using hi
      refine TM.get_mem h hq ?_
      show e ∈ t.B.getD i []
      rw [getD_of hi]; exact he
    · obtain ⟨l, hl, he⟩ := List.mem_flatten.1 hm
      obtain ⟨i, hi, rfl⟩ := List.mem_iff_getElem.1 hl
      rw [List.length_drop] at hi
      have hq : t.live (true, t.moved + i) := by unfold TM.live; simp only [if_true]; omega
      refine TM.get_mem h hq ?_
      show e ∈ t.O.getD (t.moved + i) []
      rw [getD_of (by omega)]
      rwa [List.getElem_drop] at he
  · intro hg
    obtain ⟨_, h2, h3⟩ := TM.get_some h hg
    generalize t.pl e.key = q at h2 h3
    obtain ⟨o, i⟩ := q
    unfold TM.live at h2
    unfold TM.row at h3
    cases o
    · left
      have hi : i < t.B.length := by simpa using h2
      have h3 : e ∈ t.B.getD i [] := h3
      rw [getD_of hi] at h3
      exact List.mem_flatten.2 ⟨_, List.getElem_mem hi, h3⟩
    · right
      simp only [if_true] at h2
      have h3 : e ∈ t.O.getD i [] := h3
      rw [getD_of h2.2] at h3
      refine List.mem_flatten.2 ⟨t.O[i], ?_, h3⟩
      have : i - t.moved < (t.O.drop t.moved).length := by rw [List.length_drop]; omega
      have e1 : (t.O.drop t.moved)[i - t.moved] = t.O[i] := by rw [List.getElem_drop]; congr 1; omega
      rw [← e1]; exact List.getElem_mem this
theorem flat_nodup (pl : Int → Plc) : ∀ (ls : List (List Ent)) (P : Nat → Plc), (∀ i j, P i = P j → i = j) → (∀ i, i < ls.length → ∀ e ∈ ls.getD i [], pl e.key = P i) → (∀ i, i < ls.length → ((ls.getD i []).map (·.key)).Nodup) → (ls.flatten.map (·.key)).Nodup
  | [], _, _, _, _ => List.nodup_nil
  | l :: ls, P, hP, h1, h2 => by
    rw [List.flatten_cons, List.map_append, List.nodup_append]
    refine ⟨h2 0 (Nat.zero_lt_succ _), flat_nodup pl ls (fun i => P (i + 1)) (fun i j e => Nat.succ.inj (hP _ _ e)) (fun i hi e he => h1 (i + 1) (Nat.succ_lt_succ hi) e he) (fun i hi => h2 (i + 1) (Nat.succ_lt_succ hi)), ?_⟩
    intro a ha b hb e
    obtain ⟨x, hx, rfl⟩ := List.mem_map.1 ha
    obtain ⟨y, hy, rfl⟩ := List.mem_map.1 hb
    obtain ⟨m, hm, hy⟩ := List.mem_flatten.1 hy
    obtain ⟨i, hi, rfl⟩ := List.mem_iff_getElem.1 hm
    have a1 := h1 0 (Nat.zero_lt_succ _) x hx
    have a2 := h1 (i + 1) (Nat.succ_lt_succ hi) y (by rw [List.getD_cons_succ, getD_of hi]; exact hy)
    rw [← e, a1] at a2
    have := hP _ _ a2; omega
theorem TM.all_nodup {t : TM} (h : t.Core) : (t.all.map (·.key)).Nodup := by
  unfold TM.all
  rw [List.map_append, List.nodup_append]
  have hl1 : ∀ i, i < t.B.length → t.live (false, i) := fun i hi => by unfold TM.live; simpa using hi
  have hl2 : ∀ i, i < (t.O.drop t.moved).length → t.live (true, t.moved + i) ∧ (t.O.drop t.moved).getD i [] = t.row (true, t.moved + i) := fun i hi => by
    rw [List.length_drop] at hi
    refine ⟨by unfold TM.live; simp only [if_true]; omega, ?_⟩
    show _ = t.O.getD (t.moved + i) []
    simp only [List.getD, List.getElem?_drop]
  refine ⟨flat_nodup t.pl t.B (fun i => (false, i)) (fun i j e => congrArg Prod.snd e) (fun i hi e he => h.home _ (hl1 i hi) e he) (fun i hi => h.nd _ (hl1 i hi)),
    flat_nodup t.pl (t.O.drop t.moved) (fun i => (true, t.moved + i)) (fun i j e => Nat.add_left_cancel (congrArg Prod.snd e)) (fun i hi e he => by obtain ⟨a, b⟩ := hl2 i hi; rw [b] at he; exact h.home _ a e he) (fun i hi => by obtain ⟨a, b⟩ := hl2 i hi; rw [b]; exact h.nd _ a), ?_⟩
  intro a ha b hb e
  obtain ⟨x, hx, rfl⟩ := List.mem_map.1 ha
  obtain ⟨y, hy, rfl⟩ := List.mem_map.1 hb
  obtain ⟨m, hm, hx⟩ := List.mem_flatten.1 hx
  obtain ⟨i, hi, rfl⟩ := List.mem_iff_getElem.1 hm
  obtain ⟨m, hm, hy⟩ := List.mem_flatten.1 hy
  obtain ⟨j, hj, rfl⟩ := List.mem_iff_getElem.1 hm
  have a1 := h.home _ (hl1 i hi) x (by show x ∈ t.B.getD i []; rw [getD_of hi]; exact hx)
  obtain ⟨b1, b2⟩ := hl2 j hj
  have a2 := h.home _ b1 y (by rw [← b2, getD_of hj]; exact hy)
  rw [← e, a1] at a2
  cases a2

/-- The row of all entries of what is held: ascending by key, each that is held once. -/
structure AllRow (f : Int → Option Ent) (ys : List Ent) : Prop where
  asc : ys.Pairwise (fun a b => a.key < b.key)
  mem : ∀ e, e ∈ ys ↔ f e.key = some e
theorem AllRow.of {f : Int → Option Ent} {xs ys : List Ent} (hp : ys.Perm xs) (ha : ys.Pairwise (fun a b => a.key ≤ b.key)) (hn : (xs.map (·.key)).Nodup) (hm : ∀ e, e ∈ xs ↔ f e.key = some e) : AllRow f ys := by
  have hn' : (ys.map (·.key)).Nodup := (hp.map (·.key)).nodup_iff.2 hn
  refine ⟨?_, fun e => hp.mem_iff.trans (hm e)⟩
  have h2 : ys.Pairwise (fun a b => a.key ≠ b.key) := List.pairwise_map.1 hn'
  exact (ha.and h2).imp fun ⟨a, b⟩ => by omega
theorem AllRow.uniq {f : Int → Option Ent} : ∀ {xs ys : List Ent}, AllRow f xs → AllRow f ys → xs = ys := by
  have key : ∀ (xs ys : List Ent), xs.Pairwise (fun a b => a.key < b.key) → ys.Pairwise (fun a b => a.key < b.key) → (∀ e, e ∈ xs ↔ e ∈ ys) → xs = ys := by
    intro xs
    induction xs with
    | nil =>
      intro ys _ _ h
      cases ys with
      | nil => rfl
      | cons y ys => exact absurd ((h y).2 (List.mem_cons_self ..)) (by simp)
    | cons x xs ih =>
      intro ys h1 h2 h
      cases ys with
      | nil => exact absurd ((h x).1 (List.mem_cons_self ..)) (by simp)
      | cons y ys =>
        rw [List.pairwise_cons] at h1 h2
        have e : x = y := by
          rcases List.mem_cons.1 ((h x).1 (List.mem_cons_self ..)) with e | hx
          · exact e
          · rcases List.mem_cons.1 ((h y).2 (List.mem_cons_self ..)) with e | hy
            · exact e.symm
            · have a := h2.1 x hx; have b := h1.1 y hy; omega
        subst e
        rw [ih ys h1.2 h2.2 fun z => ?_]
        constructor
        · intro hz
          rcases List.mem_cons.1 ((h z).1 (List.mem_cons_of_mem _ hz)) with e | hh
          · subst e; have := h1.1 z hz; omega
          · exact hh
        · intro hz
          rcases List.mem_cons.1 ((h z).2 (List.mem_cons_of_mem _ hz)) with e | hh
          · subst e; have := h2.1 z hz; omega
          · exact hh
  intro xs ys hx hy
  exact key xs ys hx.asc hy.asc fun e => (hx.mem e).trans (hy.mem e).symm

end Sx
end Go.Proofs.Ytohckjjbephohaa

/-
  All entries of a map: the runs of the machine.
-/
namespace Go.Proofs.Ytohckjjbephohaa
namespace Sx
open Go
set_option maxRecDepth 100000
set_option linter.unusedVariables false

noncomputable def hooksMA : Nat → Option (HookS V) := fun g => match g with | 36 => some (hookPool [.val] runAll) | 37 => some hookSort | _ => none
noncomputable def cfgMA : Cfg Try.prog V := ⟨tab, kinds, fun _ => none, hooksMA, fun _ _ => none⟩
structure PMA where
  s : MO
  sp : Nat
  b : Nat → Nat
  L : Nat → TL
  hn : s.tabs.length ≤ 64
  ht : ∀ i, i < s.tabs.length → s.tabs.getD i none = some (b i, 0) ∧ TabAt s.pool (b i) (L i) ∧ (L i).fits ∧ (rowsAll (L i)).length ≤ 1073741824
structure XMA where
  i : Nat
  ys : List Ent
  sp : Nat
def IMA (q : PMA) (z : XMA) : St V := ⟨[(11, .int .i64 (z.i : Int)), (10, .int .i64 (q.s.tabs.length : Int)), (9, .sl false 1 0 1 q.s.tabs.length (q.s.tabs.length + q.sp)), (3, .sl false 5 0 4 z.ys.length (z.ys.length + z.sp))],
  [(5, .arr 28 .ent z.ys z.sp), (0, .cells 54 [.int .i64 q.s.seed, .sl false 1 0 1 q.s.tabs.length (q.s.tabs.length + q.sp), .int .i64 q.s.given, .mp 2, .mp 3, .int .i64 q.s.weight]), (1, .arr 56 Kd.ptr q.s.tabs q.sp), (2, .mp .i64 Kd.int q.s.keys), (3, .mp .i64 Kd.bool q.s.gone), (4, .pool q.s.pool)], 6, 23, TQ⟩
structure JMA (q : PMA) (z : XMA) : Prop where
  le : z.i ≤ q.s.tabs.length
  perm : z.ys.Perm ((List.range z.i).flatMap fun i => rowsAll (q.L i))
def LMA : LoopS V := trimLoop (trimSt [3, 9, 10, 11] [0, 1, 2, 3, 4, 5]) (loopH 5 (fun q : PMA => IMA q ⟨0, [], 0⟩) (fun q (z : XMA) => JMA q z ∧ z.i = q.s.tabs.length) (fun q z => IMA q z))
noncomputable def cfgMA1 : Cfg Try.prog V := ⟨tab, kinds, fun _ => none, hooksMA, fun f id => match f, id with | 19, 0 => some LMA | _, _ => none⟩
theorem tbma (q : PMA) (z : XMA) : runCode cfgMA 60 19 (loopOf Try.f19 0) (IMA q z) (stopT (trimSt [3, 9, 10, 11] [0, 1, 2, 3, 4, 5, 6, 7, 8, 9, 10])) = Out.ite (decide ((↑z.1 : Int) < (↑q.s.tabs.length : Int))) (Out.need ((0 : Int) ≤ (↑z.1 : Int) ∧ (↑z.1 : Int) < (↑q.s.tabs.length : Int)) (Out.need ((0 : Nat) + z.1 < q.s.tabs.length) (Out.ex Nat fun y => Out.need (q.s.tabs.getD ((0 : Nat) + z.1) (V.enc Kd.ptr).dflt = some (y, (0 : Nat))) (Out.ex TL fun y_1 => Out.need (TabAt q.s.pool y y_1 ∧ y_1.fits ∧ (rowsAll y_1).length ≤ (1099511627776 : Nat)) (Out.all (List Ent) fun y => Out.all Nat fun y_2 => Out.asm (y.Perm (rowsAll y_1) ∧ List.Pairwise (fun a b => a.key ≤ b.key) y) (Out.need ((0 : Nat) + (rowsAll y_1).length ≤ y.length) (Out.need ((0 : Nat) = (0 : Nat) ∧ z.ys.length = z.ys.length ∧ z.ys.length + z.3 = z.ys.length + z.3 ∧ (z.ys.length + (List.take (rowsAll y_1).length (List.drop (0 : Nat) y)).length) * (32 : Nat) ≤ (140737488355328 : Nat)) (Out.all Nat fun y_3 => Out.stop EX.nx {env := [((3 : Nat), .sl false (7 : Nat) (0 : Nat) (4 : Nat) (z.ys.length + (List.take (rowsAll y_1).length (List.drop (0 : Nat) y)).length) (z.ys.length + (List.take (rowsAll y_1).length (List.drop (0 : Nat) y)).length + y_3)), ((9 : Nat), .sl false (1 : Nat) (0 : Nat) (1 : Nat) q.s.tabs.length (q.s.tabs.length + q.2)), ((10 : Nat), .int .i64 (↑q.s.tabs.length : Int)), ((11 : Nat), .int .i64 (IntKind.i64.wrap ((↑z.1 : Int) + (1 : Int))))], heap := [((7 : Nat), .arr (28 : Nat) Kd.ent (z.ys ++ List.take (rowsAll y_1).length (List.drop (0 : Nat) y)) y_3), ((6 : Nat), .arr (28 : Nat) Kd.ent y y_2), ((0 : Nat), .cells (54 : Nat) [.int .i64 q.s.seed, .sl false (1 : Nat) (0 : Nat) (1 : Nat) q.s.tabs.length (q.s.tabs.length + q.2), .int .i64 q.s.given, .mp (2 : Nat), .mp (3 : Nat), .int .i64 q.s.weight]), ((1 : Nat), .arr (56 : Nat) Kd.ptr q.s.tabs q.2), ((2 : Nat), .mp .i64 Kd.int q.s.keys), ((3 : Nat), .mp .i64 Kd.bool q.s.gone), ((4 : Nat), Blk.pool q.s.pool)], nx := (8 : Nat), nt := (23 : Nat), tl := [(5 : Nat), (4 : Nat), (0 : Nat), (1 : Nat), (2 : Nat), (3 : Nat), (4 : Nat), (5 : Nat), (6 : Nat), (7 : Nat), (8 : Nat), (9 : Nat), (10 : Nat), (11 : Nat), (12 : Nat), (13 : Nat), (14 : Nat), (15 : Nat), (16 : Nat)] : St V })))))))) (Out.stop (EX.ex (0 : Nat)) {env := [((3 : Nat), .sl false (5 : Nat) (0 : Nat) (4 : Nat) z.ys.length (z.ys.length + z.3)), ((9 : Nat), .sl false (1 : Nat) (0 : Nat) (1 : Nat) q.s.tabs.length (q.s.tabs.length + q.2)), ((10 : Nat), .int .i64 (↑q.s.tabs.length : Int)), ((11 : Nat), .int .i64 (↑z.1 : Int))], heap := [((5 : Nat), .arr (28 : Nat) Kd.ent z.ys z.3), ((0 : Nat), .cells (54 : Nat) [.int .i64 q.s.seed, .sl false (1 : Nat) (0 : Nat) (1 : Nat) q.s.tabs.length (q.s.tabs.length + q.2), .int .i64 q.s.given, .mp (2 : Nat), .mp (3 : Nat), .int .i64 q.s.weight]), ((1 : Nat), .arr (56 : Nat) Kd.ptr q.s.tabs q.2), ((2 : Nat), .mp .i64 Kd.int q.s.keys), ((3 : Nat), .mp .i64 Kd.bool q.s.gone), ((4 : Nat), Blk.pool q.s.pool)], nx := (6 : Nat), nt := (23 : Nat), tl := [(0 : Nat), (1 : Nat), (2 : Nat), (3 : Nat), (4 : Nat), (5 : Nat), (6 : Nat), (7 : Nat), (8 : Nat), (9 : Nat), (10 : Nat), (11 : Nat), (12 : Nat), (13 : Nat), (14 : Nat), (15 : Nat), (16 : Nat)] : St V }) := by kernel_rfl

theorem tma (s : MO) (sp : Nat) : runF cfgMA1 60 19 Try.f19 [.ptr 0 0] (mUp s sp) 5 = Out.need (LoopFor Try.prog (19 : Nat) (0 : Nat) (loopOf Try.f19 (0 : Nat)) LMA) (Out.ex (PMA → Prop) fun y => Out.need ((5 : Nat) ≤ (5 : Nat) ∧ SImp (5 : Nat) {env := [((3 : Nat), .nilS), ((9 : Nat), .sl false (1 : Nat) (0 : Nat) (1 : Nat) s.tabs.length (s.tabs.length + sp)), ((10 : Nat), .int .i64 (↑s.tabs.length : Int)), ((11 : Nat), .lit .i64 (0 : Int))], heap := [((0 : Nat), .cells (54 : Nat) [.int .i64 s.seed, .sl false (1 : Nat) (0 : Nat) (1 : Nat) s.tabs.length (s.tabs.length + sp), .int .i64 s.given, .mp (2 : Nat), .mp (3 : Nat), .int .i64 s.weight]), ((1 : Nat), .arr (56 : Nat) Kd.ptr s.tabs sp), ((2 : Nat), .mp .i64 Kd.int s.keys), ((3 : Nat), .mp .i64 Kd.bool s.gone), ((4 : Nat), Blk.pool s.pool)], nx := (5 : Nat), nt := (23 : Nat), tl := [] : St V } (fun q => IMA q {i := (0 : Nat), ys := [], sp := (0 : Nat) : XMA }) y) (Out.all PMA fun y_1 => Out.asm (y y_1) (Out.all XMA fun y => Out.asm ((fun q z => JMA q z ∧ z.1 = q.s.tabs.length) y_1 y) (Out.need ((0 : Nat) = (0 : Nat) ∧ y.ys.length = y.ys.length ∧ y.ys.length ≤ (1099511627776 : Nat)) (Out.all (List Ent) fun y_2 => Out.asm (y_2.Perm y.ys ∧ List.Pairwise (fun a b => a.key ≤ b.key) y_2) (Out.fin (.sl false (5 : Nat) (0 : Nat) (4 : Nat) y.ys.length (y.ys.length + y.3)) [((5 : Nat), .arr (28 : Nat) Kd.ent y_2 y.3), ((0 : Nat), .cells (54 : Nat) [.int .i64 y_1.s.seed, .sl false (1 : Nat) (0 : Nat) (1 : Nat) y_1.s.tabs.length (y_1.s.tabs.length + y_1.2), .int .i64 y_1.s.given, .mp (2 : Nat), .mp (3 : Nat), .int .i64 y_1.s.weight]), ((1 : Nat), .arr (56 : Nat) Kd.ptr y_1.s.tabs y_1.2), ((2 : Nat), .mp .i64 Kd.int y_1.s.keys), ((3 : Nat), .mp .i64 Kd.bool y_1.s.gone), ((4 : Nat), Blk.pool y_1.s.pool)] (6 : Nat))))))) := by kernel_rfl

end Sx
end Go.Proofs.Ytohckjjbephohaa

/-
  All entries of a map of shards: the contract.
-/
namespace Go.Proofs.Ytohckjjbephohaa
namespace Sx
open Go
set_option linter.unusedSimpArgs false
set_option linter.unusedVariables false

theorem hooksMA_ok : ∀ g H, hooksMA g = some H → HookOk Try.prog g H := by
  intro g H h
  unfold hooksMA at h
  split at h
  · cases h; exact hAll
  · cases h; exact hSort
  · cases h
theorem cfgMA_ok : cfgMA.ok := ⟨tab_met, kinds_met, mixed_met, fun g fn h => (by cases h), hooksMA_ok⟩
theorem cfgMA1_ok : cfgMA1.ok := ⟨tab_met, kinds_met, mixed_met, fun g fn h => (by cases h), hooksMA_ok⟩

theorem flat_len {α : Type} (f : Nat → List α) (M : Nat) : ∀ n, (∀ i, i < n → (f i).length ≤ M) → ((List.range n).flatMap f).length ≤ n * M
  | 0, _ => by simp
  | n + 1, h => by
    have h1 := flat_len f M n fun i hi => h i (by omega)
    have h2 := h n (by omega)
    rw [List.range_succ, List.flatMap_append, List.length_append]
    have : ([n].flatMap f).length = (f n).length := by simp
    rw [this, Nat.succ_mul]; omega
theorem range_flat {α : Type} (f : Nat → List α) (n : Nat) : (List.range (n + 1)).flatMap f = (List.range n).flatMap f ++ f n := by
  rw [List.range_succ, List.flatMap_append]; simp

theorem mabody (q : PMA) (z : XMA) (h : JMA q z) (Q : EX → St V → Prop) (F : AV → Heap V → Nat → Prop)
    (hnx : ∀ (ST : St V) (y : List Ent) sp', z.i < q.s.tabs.length → y.Perm (rowsAll (q.L z.i)) → Wk 5 [(5, 7)] ST (IMA q ⟨z.i + 1, z.ys ++ y, sp'⟩) → Q .nx ST)
    (hex : ∀ ST : St V, z.i = q.s.tabs.length → Wk 5 [(5, 5)] ST (IMA q z) → Q (.ex 0) ST) :
    (runCode cfgMA 60 19 (loopOf Try.f19 0) (IMA q z) (stopT (trimSt [3, 9, 10, 11] [0, 1, 2, 3, 4, 5, 6, 7, 8, 9, 10]))).holds ⟨Q, F⟩ := by
  rw [tbma]
  have hle := h.le
  have hn := q.hn
  have hl := h.perm.length_eq
  have hb := flat_len (fun i => rowsAll (q.L i)) 1073741824 z.i (fun i hi => (q.ht i (by omega)).2.2.2)
  simp only [Out.holds, decide_eq_true_eq, decide_eq_false_iff_not, beq_iff_eq, beq_eq_false_iff_ne, bne_iff_ne, ne_eq, bne_eq_false_iff_eq, Bool.true_and, Bool.and_true, Bool.not_eq_true', Bool.not_eq_false', Bool.and_eq_true, Bool.or_eq_true, Bool.and_eq_false_imp, true_implies, true_and, Bool.not_true, Bool.not_false, Bool.false_eq_true, Bool.true_eq_false, false_implies, and_true, beq_self_eq_true, Decidable.not_not, not_true_eq_false, not_false_eq_true]
  refine ⟨fun hlt => ?_, fun hge => hex _ (by omega) (by (refine ⟨?_, ?_, rfl, tl_ok rfl, ?_, ⟨Nat.le_of_ble_eq_true rfl, rfl⟩⟩ <;> (repeat' first | with_reducible exact trivial | exact AV.sub_same _ | exact .same _ | exact .inr rfl | exact .inl (in_ok rfl) | exact AV.sub_lit' | exact AV.sub_nilS | exact .none _ _ | exact trivial | refine ⟨?_, ?_⟩)))⟩
  have hlt' : z.i < q.s.tabs.length := by omega
  obtain ⟨h1, h2, h3, h4⟩ := q.ht z.i hlt'
  have hw : IntKind.wrap .i64 ((z.i : Int) + 1) = ((z.i + 1 : Nat) : Int) := wrap_nat (by omega)
  refine ⟨by omega, by omega, q.b z.i, by rw [Nat.zero_add]; exact h1, q.L z.i, ⟨h2, h3, by omega⟩, fun y sp1 hy => ?_⟩
  have hyl := hy.1.length_eq
  have et : List.take (rowsAll (q.L z.i)).length (List.drop 0 y) = y := by rw [List.drop_zero]; exact List.take_of_length_le (by omega)
  rw [et]
  refine ⟨by omega, ?_, fun sp' => ?_⟩
  · have : z.i * 1073741824 ≤ 64 * 1073741824 := Nat.mul_le_mul_right _ (by omega)
    omega
  · have el : z.ys.length + y.length = (z.ys ++ y).length := by rw [List.length_append]
    rw [el]
    exact hnx _ y sp' hlt' hy.1 (by (refine ⟨?_, ?_, rfl, tl_ok rfl, ?_, ⟨Nat.le_of_ble_eq_true rfl, rfl⟩⟩ <;> (repeat' first | with_reducible exact trivial | (exact AV.sub_int hw) | exact AV.sub_same _ | exact .same _ | exact .inr rfl | exact .inl (in_ok rfl) | exact AV.sub_lit' | exact AV.sub_nilS | exact .none _ _ | exact trivial | refine ⟨?_, ?_⟩)))
theorem lma_ok : LoopOk Try.prog 0 (loopOf Try.f19 0) LMA := by
  refine trimLoop_ok (trim_ok _ _) (loopTH_ok (C := cfgMA) cfgMA_ok (f := 19) (n := 60) (trim_ok [3, 9, 10, 11] [0, 1, 2, 3, 4, 5, 6, 7, 8, 9, 10]) 5 IMA JMA (fun _ => ⟨0, [], 0⟩) (fun q z => q.s.tabs.length - z.i) (fun q (z : XMA) => JMA q z ∧ z.i = q.s.tabs.length) (fun q z => IMA q z) (fun q => ⟨Nat.zero_le _, List.Perm.refl _⟩) ?_)
  intro q z h
  refine mabody q z h _ _ (fun ST y sp' hlt hy hw => SImp.of_wk ⟨z.i + 1, z.ys ++ y, sp'⟩ hw ⟨⟨hlt, ?_⟩, ?_⟩) (fun ST he hw => ⟨rfl, SImp.of_wk z hw ⟨h, he⟩⟩)
  · show (z.ys ++ y).Perm ((List.range (z.i + 1)).flatMap _)
    rw [range_flat]; exact h.perm.append hy
  · show q.s.tabs.length - (z.i + 1) < q.s.tabs.length - z.i; omega

/-- What a map holds, as one row. -/
theorem MapOk.rows {s : MO} {f : Int → Option Ent} (h : MapOk s f) : ∃ (b : Nat → Nat) (L : Nat → TL), (∀ i, i < s.tabs.length → s.tabs.getD i none = some (b i, 0) ∧ TabAt s.pool (b i) (L i) ∧ (L i).fits ∧ (rowsAll (L i)).length ≤ 1073741824) ∧
    (((List.range s.tabs.length).flatMap fun i => rowsAll (L i)).map (·.key)).Nodup ∧ ∀ e, e ∈ ((List.range s.tabs.length).flatMap fun i => rowsAll (L i)) ↔ f e.key = some e := by
  obtain ⟨b, L, h1, h2, h3, h4⟩ := h.ex
  have hgv := h.giv
  have mem : ∀ i, i < s.tabs.length → ∀ e, e ∈ rowsAll (L i) ↔ (L i).tm.get e.key = some e := fun i hi e => by rw [rows_all]; exact TM.mem_all (h1 i hi).2.2.1.core e
  have hsh : ∀ i, i < s.tabs.length → ∀ e, e ∈ rowsAll (L i) → shN s e.key = i := fun i hi e he => h4 i hi _ _ ((mem i hi e).1 he)
  refine ⟨b, L, fun i hi => ?_, ?_, fun e => ?_⟩
  · obtain ⟨a1, a2, a3, a4⟩ := h1 i hi
    refine ⟨a1, a2, good_fits a3 (by omega), ?_⟩
    rw [rows_all, TM.all_length, ← a3.len]
    show (L i).len ≤ _; omega
  · have key : ∀ n, n ≤ s.tabs.length → (((List.range n).flatMap fun i => rowsAll (L i)).map (·.key)).Nodup := by
      intro n
      induction n with
      | zero => intro _; exact List.nodup_nil
      | succ n ih =>
        intro hn
        rw [range_flat, List.map_append, List.nodup_append]
        refine ⟨ih (by omega), by rw [rows_all]; exact TM.all_nodup (h1 n (by omega)).2.2.1.core, fun a ha c hc e => ?_⟩
        obtain ⟨x, hx, rfl⟩ := List.mem_map.1 ha
        obtain ⟨y, hy, rfl⟩ := List.mem_map.1 hc
        obtain ⟨j, hj, hx⟩ := List.mem_flatMap.1 hx
        have hj := List.mem_range.1 hj
        have e1 := hsh j (by omega) x hx
        have e2 := hsh n (by omega) y hy
        rw [e, e2] at e1; omega
    exact key _ (Nat.le_refl _)
  · rw [List.mem_flatMap]
    constructor
    · rintro ⟨i, hi, he⟩
      have hi := List.mem_range.1 hi
      have e1 := hsh i hi e he
      rw [h3, e1]; exact (mem i hi e).1 he
    · intro he
      obtain ⟨_, _, hk⟩ := h.sh e.key
      exact ⟨_, List.mem_range.2 hk, (mem _ hk e).2 (by rw [← h3]; exact he)⟩

theorem endMRow {n' : Nat} {h' : Heap V} {v0 v : AV} {s' : MO} {sp : Nat} {ys : List Ent} {spx : Nat}
    (h0 : h'.get 0 = some (.cells 54 [.int .i64 s'.seed, .sl false 1 0 1 s'.tabs.length (s'.tabs.length + sp), .int .i64 s'.given, .mp 2, .mp 3, .int .i64 s'.weight]))
    (h1 : h'.get 1 = some (.arr 56 Kd.ptr s'.tabs sp)) (h2 : h'.get 2 = some (.mp .i64 Kd.int s'.keys)) (h3 : h'.get 3 = some (.mp .i64 Kd.bool s'.gone)) (h4 : h'.get 4 = some (.pool s'.pool))
    (h5 : h'.get 5 = some (.arr 28 Kd.ent ys spx)) (hv : v0.sub (v.ren fun _ => 5)) (hn : v.on (fun i => Nat.ble 5 i && Nat.blt i 6) = true) : EndObj 5 n' v0 h' v (oM s') [.arr 28 .ent ys spx] := by
  refine ⟨_, pack (ren := [(0, 0), (1, 1), (2, 2), (3, 3), (4, 4)]) laid_V (x := oM s') (n := 5) (m := 0) (h := h') ⟨mBlk s' sp, rfl, rfl, sp, rfl⟩ rfl rfl ⟨?_, ?_, ?_, ?_, ?_, trivial⟩ rfl, rfl, ⟨⟨fun _ => 5, ⟨?_, trivial⟩, hv⟩, rfl, hn⟩⟩
  · show BSub (h'.get 0) _
    rw [h0]; exact .same _
  · show BSub ((h'.del 0).get 1) _
    rw [Heap.get_del_ne (by decide), h1]; exact .same _
  · show BSub (((h'.del 0).del 1).get 2) _
    rw [Heap.get_del_ne (by decide), Heap.get_del_ne (by decide), h2]; exact .same _
  · show BSub ((((h'.del 0).del 1).del 2).get 3) _
    rw [Heap.get_del_ne (by decide), Heap.get_del_ne (by decide), Heap.get_del_ne (by decide), h3]; exact .same _
  · show BSub (((((h'.del 0).del 1).del 2).del 3).get 4) _
    rw [Heap.get_del_ne (by decide), Heap.get_del_ne (by decide), Heap.get_del_ne (by decide), Heap.get_del_ne (by decide), h4]; exact .same _
  · show BSub ((((((h'.del 0).del 1).del 2).del 3).del 4).get 5) _
    rw [Heap.get_del_ne (by decide), Heap.get_del_ne (by decide), Heap.get_del_ne (by decide), Heap.get_del_ne (by decide), Heap.get_del_ne (by decide), h5]; exact .same _

def runMAll : RunM := fun s ar K => match ar with
  | [] => .ex (Int → Option Ent) fun f => .need (MapOk s f) (.all (List Ent) fun ys => .all Nat fun sp => .asm (AllRow f ys ∧ ys.length ≤ 68719476736) (K (.sl false 5 0 4 ys.length (ys.length + sp)) s [.arr 28 .ent ys sp]))
  | _ => .bad 500
theorem hMAll : HookOk Try.prog 19 (hookObj 5 [] (onM runMAll)) := by
  refine map_hook cfgMA1_ok (n := 60) (fn := Try.f19) ⟨by kernel_rfl, by kernel_rfl⟩ (by kernel_rfl) ?_
  intro M s ar K0 H
  unfold runMAll at H
  split at H
  · obtain ⟨f, hM, H⟩ := H
    refine ⟨show 1 ≤ _ by decide +kernel, fun sp => ?_⟩
    show (runF cfgMA1 60 19 Try.f19 [.ptr 0 0] (mUp s sp) 5).holds _
    rw [tma]
    obtain ⟨b, L, h1, h2, h3⟩ := hM.rows
    have hn2 := hM.n2
    refine ⟨lma_ok, fun q => q = ⟨s, sp, b, L, hn2, h1⟩, ⟨Nat.le_refl _, SImp.of_wk (ren := [(5, 99)]) ⟨s, sp, b, L, hn2, h1⟩ (by (refine ⟨?_, ?_, rfl, tl_ok rfl, ?_, ⟨Nat.le_of_ble_eq_true rfl, rfl⟩⟩ <;> (repeat' first | with_reducible exact trivial | exact AV.sub_same _ | exact .same _ | exact .inr rfl | exact .inl (in_ok rfl) | exact AV.sub_lit' | exact AV.sub_nilS | exact .none _ _ | exact trivial | refine ⟨?_, ?_⟩))) rfl⟩, ?_⟩
    rintro _ rfl z ⟨hz, hzi⟩
    have hl := hz.perm.length_eq
    have hb := flat_len (fun i => rowsAll (L i)) 1073741824 z.i (fun i hi => (h1 i (by have := hz.le; have := hzi; dsimp only at *; omega)).2.2.2)
    have hi64 : z.i ≤ 64 := by have := hz.le; dsimp only at this; omega
    have hm : z.i * 1073741824 ≤ 64 * 1073741824 := Nat.mul_le_mul_right _ hi64
    refine ⟨⟨rfl, rfl, by dsimp only at hl; omega⟩, fun ys hys => ?_⟩
    have hp : ys.Perm ((List.range s.tabs.length).flatMap fun i => rowsAll (L i)) := by
      have := hys.1.trans hz.perm
      rwa [hzi] at this
    have hyl : ys.length = z.ys.length := hys.1.length_eq
    refine ⟨_, _, _, H ys z.sp ⟨AllRow.of hp hys.2 h2 h3, by dsimp only at hl; omega⟩, endMRow (sp := sp) rfl rfl rfl rfl rfl rfl (by rw [hyl]; exact AV.sub_same _) rfl⟩
  · exact H.elim

end Sx
end Go.Proofs.Ytohckjjbephohaa

/-
  What a map of shards holds, as a row: nodes, states, weights; no program in sight.
-/
namespace Go.Proofs.Ytohckjjbephohaa
namespace Sx
open Go
set_option linter.unusedSimpArgs false
set_option linter.unusedVariables false

/-! ## rows of pairs -/
theorem mget_put_ne {α : Type} : ∀ (m : List (Int × α)) (k j : Int) (a : α), j ≠ k → mget (mput m k a) j = mget m j
  | [], k, j, a, h => by simp [mput, mget, h]
  | (i, b) :: m, k, j, a, h => by
    unfold mput
    by_cases e : k = i
    · subst e; simp [mget, h]
    · simp only [e, if_false, mget]; rw [mget_put_ne m k j a h]
theorem mput_new {α : Type} : ∀ (m : List (Int × α)) (k : Int) (a : α), mget m k = none → mput m k a = m ++ [(k, a)]
  | [], k, a, _ => rfl
  | (i, b) :: m, k, a, h => by
    unfold mget at h
    unfold mput
    by_cases e : k = i
    · rw [if_pos e] at h; cases h
    · rw [if_neg e] at h ⊢; rw [mput_new m k a h]; rfl
theorem mget_mem {α : Type} : ∀ (m : List (Int × α)), (m.map (·.1)).Nodup → ∀ k a, mget m k = some a ↔ (k, a) ∈ m
  | [], _, k, a => by simp [mget]
  | (i, b) :: m, h, k, a => by
    rw [List.map_cons, List.nodup_cons] at h
    unfold mget
    by_cases e : k = i
    · subst e
      rw [if_pos rfl, List.mem_cons]
      constructor
      · intro hh; cases hh; exact .inl rfl
      · rintro (hh | hh)
        · cases hh; rfl
        · exact absurd (List.mem_map.2 ⟨_, hh, rfl⟩) h.1
    · rw [if_neg e, mget_mem m h.2 k a, List.mem_cons]
      constructor
      · exact .inr
      · rintro (hh | hh)
        · cases hh; exact absurd rfl e
        · exact hh
theorem mdel_perm {α : Type} : ∀ (m : List (Int × α)), (m.map (·.1)).Nodup → ∀ k a, (k, a) ∈ m → m.Perm ((k, a) :: mdel m k)
  | [], _, k, a, h => by cases h
  | (i, b) :: m, h, k, a, hm => by
    rw [List.map_cons, List.nodup_cons] at h
    unfold mdel
    by_cases e : k = i
    · subst e
      rw [if_pos rfl]
      rcases List.mem_cons.1 hm with hh | hh
      · cases hh; exact List.Perm.refl _
      · exact absurd (List.mem_map.2 ⟨_, hh, rfl⟩) h.1
    · rw [if_neg e]
      rcases List.mem_cons.1 hm with hh | hh
      · cases hh; exact absurd rfl e
      · exact ((mdel_perm m h.2 k a hh).cons (i, b)).trans (List.Perm.swap ..)

/-! ## what is held, as a row -/
structure Holds (f : Int → Option Ent) (xs : List Ent) : Prop where
  nd : (xs.map (·.key)).Nodup
  mem : ∀ e, e ∈ xs ↔ f e.key = some e
theorem nodup_of_map {α β : Type} {g : α → β} {xs : List α} (h : (xs.map g).Nodup) : xs.Nodup := (List.pairwise_map.1 h).imp fun h e => h (by rw [e])
theorem AllRow.holds {f : Int → Option Ent} {ys : List Ent} (h : AllRow f ys) : Holds f ys := ⟨List.pairwise_map.2 (h.asc.imp fun h => by omega), h.mem⟩
theorem Holds.uniq {f : Int → Option Ent} {xs ys : List Ent} (h : Holds f xs) (k : Holds f ys) : xs.Perm ys :=
  (List.perm_ext_iff_of_nodup (nodup_of_map h.nd) (nodup_of_map k.nd)).2 fun e => (h.mem e).trans (k.mem e).symm
theorem Holds.perm {f : Int → Option Ent} {xs ys : List Ent} (h : Holds f xs) (p : xs.Perm ys) : Holds f ys := ⟨(p.map _).nodup_iff.1 h.nd, fun e => p.mem_iff.symm.trans (h.mem e)⟩
theorem Holds.new {f : Int → Option Ent} {xs : List Ent} (h : Holds f xs) {e : Ent} (hf : f e.key = none) : Holds (updF f e.key (some e)) (e :: xs) := by
  refine ⟨?_, fun x => ?_⟩
  · rw [List.map_cons, List.nodup_cons]
    refine ⟨fun hm => ?_, h.nd⟩
    obtain ⟨x, hx, e1⟩ := List.mem_map.1 hm
    have := (h.mem x).1 hx
    rw [e1, hf] at this; cases this
  · unfold updF
    rw [List.mem_cons]
    by_cases hk : x.key = e.key
    · rw [if_pos hk]
      constructor
      · rintro (hh | hh)
        · rw [hh]
        · have := (h.mem x).1 hh; rw [hk, hf] at this; cases this
      · intro hh; cases hh; exact .inl rfl
    · rw [if_neg hk]
      constructor
      · rintro (hh | hh)
        · rw [hh] at hk; exact absurd rfl hk
        · exact (h.mem x).1 hh
      · intro hh; exact .inr ((h.mem x).2 hh)
theorem Holds.gone {f : Int → Option Ent} {xs : List Ent} {o : Ent} (h : Holds f (o :: xs)) : Holds (updF f o.key none) xs := by
  have hn := h.nd
  rw [List.map_cons, List.nodup_cons] at hn
  refine ⟨hn.2, fun x => ?_⟩
  unfold updF
  by_cases hk : x.key = o.key
  · rw [if_pos hk]
    constructor
    · intro hh; exact absurd (List.mem_map.2 ⟨x, hh, hk⟩) hn.1
    · intro hh; cases hh
  · rw [if_neg hk, ← h.mem x, List.mem_cons]
    constructor
    · exact .inr
    · rintro (hh | hh)
      · rw [hh] at hk; exact absurd rfl hk
      · exact hh
theorem updF_updF (f : Int → Option Ent) (k : Int) (a b : Option Ent) : updF (updF f k a) k b = updF f k b := by
  funext j; unfold updF; split <;> rfl
theorem updF_none {f : Int → Option Ent} {k : Int} (h : f k = none) : updF f k none = f := by
  funext j; unfold updF; split
  · rename_i e; rw [e, h]
  · rfl

theorem MapOk.key {s : MO} {f : Int → Option Ent} (h : MapOk s f) {k : Int} {e : Ent} (hf : f k = some e) : e.key = k := by
  obtain ⟨b, L, h1, h2, h3, h4⟩ := h.ex
  obtain ⟨_, _, hk⟩ := h.sh k
  rw [h3] at hf
  exact (TM.get_some (h1 _ hk).2.2.1.core hf).1

def wsum (xs : List Ent) : Int := (xs.map (·.weight)).sum
structure MK (s : MO) (f : Int → Option Ent) (xs : List Ent) : Prop where
  m : MapOk s f
  h : Holds f xs
  keys : s.keys.Perm (xs.map fun e => (e.node, e.key))
  nn : (xs.map (·.node)).Nodup
  nr : ∀ e ∈ xs, 1 ≤ e.node ∧ e.node ≤ s.given
  al : ∀ n, 1 ≤ n → n ≤ s.given → (mget s.gone n = none ↔ ∃ e ∈ xs, e.node = n)
  gr : ∀ n, mget s.gone n ≠ none → 1 ≤ n ∧ n ≤ s.given
  wt : s.weight = IntKind.wrap .i64 (wsum xs)
theorem sum_perm {xs ys : List Int} (p : xs.Perm ys) : xs.sum = ys.sum := by
  induction p with
  | nil => rfl
  | cons x p ih => simp only [List.sum_cons, ih]
  | swap x y l => simp only [List.sum_cons]; omega
  | trans p q a b => exact a.trans b
theorem wsum_perm {xs ys : List Ent} (p : xs.Perm ys) : wsum xs = wsum ys := sum_perm (p.map _)
theorem MK.perm {s : MO} {f : Int → Option Ent} {xs ys : List Ent} (h : MK s f xs) (p : xs.Perm ys) : MK s f ys :=
  ⟨h.m, h.h.perm p, h.keys.trans (p.map _), (p.map _).nodup_iff.1 h.nn, fun e he => h.nr e (p.mem_iff.2 he), fun n a b => (h.al n a b).trans ⟨fun ⟨e, he, hn⟩ => ⟨e, p.mem_iff.1 he, hn⟩, fun ⟨e, he, hn⟩ => ⟨e, p.mem_iff.2 he, hn⟩⟩, h.gr, by rw [h.wt, wsum_perm p]⟩
theorem MK.kn {s : MO} {f : Int → Option Ent} {xs : List Ent} (h : MK s f xs) : (s.keys.map (·.1)).Nodup := by
  refine (h.keys.map (·.1)).nodup_iff.2 ?_
  rw [List.map_map]; exact h.nn
theorem MK.node {s : MO} {f : Int → Option Ent} {xs : List Ent} (h : MK s f xs) (n k : Int) : mget s.keys n = some k ↔ ∃ e ∈ xs, e.node = n ∧ e.key = k := by
  rw [mget_mem _ h.kn, h.keys.mem_iff, List.mem_map]
  constructor
  · rintro ⟨e, he, e1⟩; cases e1; exact ⟨e, he, rfl, rfl⟩
  · rintro ⟨e, he, rfl, rfl⟩; exact ⟨e, he, rfl⟩
theorem MK.out {s : MO} {f : Int → Option Ent} {xs : List Ent} (h : MK s f xs) {k : Int} {o : Ent} (hf : f k = some o) : ∃ xs0, MK s f (o :: xs0) := by
  have hk := h.m.key hf
  have hm : o ∈ xs := (h.h.mem o).2 (by rw [hk]; exact hf)
  obtain ⟨a, b, rfl⟩ := List.append_of_mem hm
  exact ⟨a ++ b, h.perm List.perm_middle⟩
theorem wrap_sum {a b : Int} : IntKind.wrap .i64 (IntKind.wrap .i64 a + IntKind.wrap .i64 b) = IntKind.wrap .i64 (a + b) := by
  simp [IntKind.wrap, IntKind.bits, IntKind.signed]; omega
theorem wrap_sumR {a b : Int} : IntKind.wrap .i64 (IntKind.wrap .i64 a + b) = IntKind.wrap .i64 (a + b) := by
  simp [IntKind.wrap, IntKind.bits, IntKind.signed]; omega
theorem wrap_subR {a b : Int} : IntKind.wrap .i64 (IntKind.wrap .i64 a - b) = IntKind.wrap .i64 (a - b) := by
  simp [IntKind.wrap, IntKind.bits, IntKind.signed]; omega

theorem MK.new (n s : Int) (y : MO) (e : y = newS s y.tabs y.pool) (m : MapOk y fun _ => none) : MK y (fun _ => none) [] := by
  have e1 : y.keys = [] := by rw [e]; rfl
  have e2 : y.gone = [] := by rw [e]; rfl
  have e3 : y.given = 0 := by rw [e]; rfl
  have e4 : y.weight = 0 := by rw [e]; rfl
  refine ⟨m, ⟨List.nodup_nil, fun e => by simp⟩, by rw [e1]; exact List.Perm.refl _, List.nodup_nil, fun e he => (by cases he), fun n a b => (by rw [e3] at b; omega), fun n hn => (by rw [e2] at hn; exact absurd rfl hn), (by rw [e4]; rfl)⟩
theorem MK.put {s y : MO} {f : Int → Option Ent} {xs : List Ent} (h : MK s f xs) (hg : s.given < 536870912) {k v w : Int} (e : y = putS s (f k) k w y.pool) (m : MapOk y (updF f k (some (putE s (f k) k v w)))) :
    ∃ xs', MK y (updF f k (some (putE s (f k) k v w))) xs' ∧ y.gone = s.gone ∧ y.given = s.given + (if (f k).isSome then 0 else 1) := by
  have hgv := h.m.giv
  have hw1 : IntKind.wrap .i64 (s.given + 1) = s.given + 1 := wrap_low (by omega) (by omega)
  cases hf : f k with
  | none =>
    rw [hf] at e m
    have e1 : y.given = s.given + 1 := by rw [e]; exact hw1
    have e2 : y.gone = s.gone := by rw [e]; rfl
    have e3 : y.keys = s.keys ++ [(s.given + 1, k)] := by
      rw [e]
      show mput s.keys (IntKind.wrap .i64 (s.given + 1)) k = _
      rw [hw1]
      refine mput_new _ _ _ ?_
      cases hh : mget s.keys (s.given + 1) with
      | none => rfl
      | some j =>
        obtain ⟨x, hx, hn, _⟩ := (h.node _ _).1 hh
        have := (h.nr x hx).2; omega
    have e4 : y.weight = IntKind.wrap .i64 (cw w + wsum xs) := by
      rw [e]
      show IntKind.wrap .i64 (s.weight + IntKind.wrap .i64 (cw w - 0)) = _
      rw [h.wt, wrap_sum]; congr 1; omega
    have en : putE s none k v w = ⟨k, v, cw w, s.given + 1⟩ := by unfold putE; rw [hw1]
    rw [en] at m ⊢
    refine ⟨⟨k, v, cw w, s.given + 1⟩ :: xs, ⟨m, h.h.new (e := ⟨k, v, cw w, s.given + 1⟩) hf, ?_, ?_, fun x hx => ?_, fun n a b => ?_, fun n hn => ?_, ?_⟩, e2, by rw [e1]; simp⟩
    · rw [e3]; exact (List.perm_append_comm).trans ((h.keys).cons _)
    · rw [List.map_cons, List.nodup_cons]
      refine ⟨fun hm => ?_, h.nn⟩
      obtain ⟨x, hx, hn⟩ := List.mem_map.1 hm
      have := (h.nr x hx).2
      have hn : x.node = s.given + 1 := hn
      omega
    · rw [e1]
      rcases List.mem_cons.1 hx with rfl | hx
      · dsimp only; omega
      · have := h.nr x hx; omega
    · rw [e1] at b
      rw [e2]
      by_cases hn : n = s.given + 1
      · constructor
        · intro _; exact ⟨_, List.mem_cons_self .., hn.symm⟩
        · intro _
          cases hh : mget s.gone n with
          | none => rfl
          | some _ => have := h.gr n (by rw [hh]; simp); omega
      · rw [h.al n a (by omega)]
        constructor
        · rintro ⟨x, hx, hh⟩; exact ⟨x, List.mem_cons_of_mem _ hx, hh⟩
        · rintro ⟨x, hx, hh⟩
          rcases List.mem_cons.1 hx with rfl | hx
          · exact absurd hh.symm hn
          · exact ⟨x, hx, hh⟩
    · rw [e2] at hn; have := h.gr n hn; rw [e1]; omega
    · rw [e4]; simp [wsum]
  | some o =>
    rw [hf] at e m
    obtain ⟨xs0, h⟩ := h.out hf
    have hk := h.m.key hf
    have e1 : y.given = s.given := by rw [e]; rfl
    have e2 : y.gone = s.gone := by rw [e]; rfl
    have e3 : y.keys = s.keys := by rw [e]; rfl
    have e4 : y.weight = IntKind.wrap .i64 (cw w + wsum xs0) := by
      rw [e]
      show IntKind.wrap .i64 (s.weight + IntKind.wrap .i64 (cw w - o.weight)) = _
      rw [h.wt, wrap_sum]
      show IntKind.wrap .i64 ((o.weight + (xs0.map (·.weight)).sum) + _) = _
      congr 1; unfold wsum; omega
    have en : putE s (some o) k v w = ⟨k, v, cw w, o.node⟩ := rfl
    rw [en] at m ⊢
    subst hk
    have h0 := h.h.gone
    have h1 : Holds (updF f o.key (some ⟨o.key, v, cw w, o.node⟩)) (⟨o.key, v, cw w, o.node⟩ :: xs0) := by
      have := h0.new (e := ⟨o.key, v, cw w, o.node⟩) (if_pos rfl)
      rwa [updF_updF] at this
    refine ⟨⟨o.key, v, cw w, o.node⟩ :: xs0, ⟨m, h1, by rw [e3]; exact h.keys, h.nn, fun x hx => ?_, fun n a b => ?_, fun n hn => by rw [e1]; rw [e2] at hn; exact h.gr n hn, by rw [e4]; simp [wsum]⟩, e2, by rw [e1]; simp⟩
    · rw [e1]
      rcases List.mem_cons.1 hx with rfl | hx
      · exact h.nr o (List.mem_cons_self ..)
      · exact h.nr x (List.mem_cons_of_mem _ hx)
    · rw [e1] at b
      rw [e2, h.al n a b]
      constructor
      · rintro ⟨x, hx, hh⟩
        rcases List.mem_cons.1 hx with rfl | hx
        · exact ⟨_, List.mem_cons_self .., hh⟩
        · exact ⟨x, List.mem_cons_of_mem _ hx, hh⟩
      · rintro ⟨x, hx, hh⟩
        rcases List.mem_cons.1 hx with rfl | hx
        · exact ⟨_, List.mem_cons_self .., hh⟩
        · exact ⟨x, List.mem_cons_of_mem _ hx, hh⟩
theorem MK.rem {s y : MO} {f : Int → Option Ent} {xs : List Ent} (h : MK s f xs) {j : Int} {dead : Bool} (e : y = remS s (f j) dead y.pool) (m : MapOk y (updF f j none)) :
    ∃ xs', MK y (updF f j none) xs' ∧ y.given = s.given := by
  have e1 : y.given = s.given := by rw [e]; rfl
  cases hf : f j with
  | none =>
    rw [hf] at e
    rw [updF_none hf] at m ⊢
    have e2 : y.gone = s.gone := by rw [e]; rfl
    have e3 : y.keys = s.keys := by rw [e]; rfl
    have e4 : y.weight = s.weight := by rw [e]; rfl
    exact ⟨xs, ⟨m, h.h, by rw [e3]; exact h.keys, h.nn, by rw [e1]; exact h.nr, by rw [e1, e2]; exact h.al, by rw [e1, e2]; exact h.gr, by rw [e4]; exact h.wt⟩, e1⟩
  | some o =>
    rw [hf] at e
    obtain ⟨xs0, h⟩ := h.out hf
    have hk := h.m.key hf
    have hnr := h.nr o (List.mem_cons_self ..)
    have e2 : y.gone = mput s.gone o.node dead := by rw [e]; rfl
    have e3 : y.keys = mdel s.keys o.node := by rw [e]; rfl
    have e4 : y.weight = IntKind.wrap .i64 (wsum xs0) := by
      rw [e]
      show IntKind.wrap .i64 (s.weight - o.weight) = _
      rw [h.wt, wrap_subR]; congr 1; simp only [wsum, List.map_cons, List.sum_cons]; omega
    have hnn := h.nn
    rw [List.map_cons, List.nodup_cons] at hnn
    subst hk
    refine ⟨xs0, ⟨m, h.h.gone, ?_, hnn.2, fun x hx => by rw [e1]; exact h.nr x (List.mem_cons_of_mem _ hx), fun n a b => ?_, fun n hn => ?_, e4⟩, e1⟩
    · have hm : (o.node, o.key) ∈ s.keys := h.keys.mem_iff.2 (List.mem_map.2 ⟨o, List.mem_cons_self .., rfl⟩)
      have := (mdel_perm _ h.kn _ _ hm).symm.trans h.keys
      rw [e3]
      exact (List.perm_cons _).1 this
    · rw [e1] at b
      rw [e2]
      by_cases hn : n = o.node
      · subst hn
        rw [mget_put]
        constructor
        · intro hh; cases hh
        · rintro ⟨x, hx, hh⟩; exact absurd (List.mem_map.2 ⟨x, hx, hh⟩) hnn.1
      · rw [mget_put_ne _ _ _ _ hn, h.al n a b]
        constructor
        · rintro ⟨x, hx, hh⟩
          rcases List.mem_cons.1 hx with rfl | hx
          · exact absurd hh.symm hn
          · exact ⟨x, hx, hh⟩
        · rintro ⟨x, hx, hh⟩; exact ⟨x, List.mem_cons_of_mem _ hx, hh⟩
    · rw [e1]
      rw [e2] at hn
      by_cases hh : n = o.node
      · subst hh; exact hnr
      · rw [mget_put_ne _ _ _ _ hh] at hn; exact h.gr n hn
theorem MK.bury {s : MO} {f : Int → Option Ent} {xs : List Ent} (h : MK s f xs) (n : Int) : MK (buryS s n) f xs ∧ (buryS s n).given = s.given := by
  unfold buryS
  split
  · rename_i hs
    have hst := hs
    unfold stateOf at hst
    split at hst
    · cases hst
    · rename_i hr
      cases hg : mget s.gone n with
      | none => rw [hg] at hst; cases hst
      | some b =>
        refine ⟨⟨h.m.same _ rfl rfl rfl rfl, h.h, h.keys, h.nn, h.nr, fun i a c => ?_, fun i hi => ?_, h.wt⟩, rfl⟩
        · rw [← h.al i a c]
          show mget (mput s.gone n true) i = none ↔ _
          by_cases hh : i = n
          · subst hh; rw [mget_put, hg]; simp
          · rw [mget_put_ne _ _ _ _ hh]
        · by_cases hh : i = n
          · subst hh; show 1 ≤ i ∧ i ≤ s.given; omega
          · exact h.gr i (by have : mget (mput s.gone n true) i ≠ none := hi; rwa [mget_put_ne _ _ _ _ hh] at this)
  · exact ⟨h, rfl⟩
theorem MK.alive {s : MO} {f : Int → Option Ent} {xs : List Ent} (h : MK s f xs) (n : Int) : stateOf s n = 1 ↔ ∃ e ∈ xs, e.node = n := by
  unfold stateOf
  by_cases hr : n < 1 ∨ n > s.given
  · rw [if_pos hr]
    constructor
    · intro hh; cases hh
    · rintro ⟨e, he, rfl⟩; have := h.nr e he; omega
  · rw [if_neg hr, ← h.al n (by omega) (by omega)]
    cases mget s.gone n with
    | none => simp
    | some b => cases b <;> simp

end Sx
end Go.Proofs.Ytohckjjbephohaa

/-
  The laws on what is held: the runs of the machine.
-/
namespace Go.Proofs.Ytohckjjbephohaa
namespace Sx
open Go
set_option maxRecDepth 100000
set_option linter.unusedVariables false

noncomputable def hooksX : Nat → Option (HookS V) := fun g => match g with | 9 => some (hookFree [] runSmall) | 19 => some (hookObj 5 [] (onM runMAll)) | 22 => some (hookFree [.rows Kd.ent, .rows Kd.ent] runSame) | g => hooksL g
noncomputable def cfgX : Cfg Try.prog V := ⟨tab, kinds, fun _ => none, hooksX, fun _ _ => none⟩
structure P8 where
  l : List Int
  c : Nat
  k : Int
  hl : l.length ≤ 100
structure X8 where
  i : Nat
  x : MO
  y : MO
def LI8 (q : P8) (x : X8) : St V := ⟨[(2, .sl false 0 0 1 q.l.length q.c), (3, .int .i64 q.k), (9, .tt), (10, .ptr 1 0), (11, .ptr 2 0), (12, .int .i64 (x.i : Int))],
  [(2, .obj (oM x.y)), (1, .obj (oM x.x)), (0, .ro Kd.int q.l)], 3, 157, TQ⟩
structure J8 (q : P8) (x : X8) : Prop where
  le : x.i ≤ q.l.length
  m : ∃ f xs ys, MK x.x f xs ∧ MK x.y f ys
  giv : x.x.given = x.y.given ∧ x.x.given ≤ x.i
structure P8s where
  q : P8
  x0 : MO
  y0 : MO
  h : J8 q ⟨0, x0, y0⟩
def LL8 : LoopS V := trimLoop (trimSt [2, 3, 9, 10, 11, 12] [0, 1, 2]) (loopH 3 (fun p : P8s => LI8 p.q ⟨0, p.x0, p.y0⟩) (fun p (z : MO × MO) => J8 p.q ⟨p.q.l.length, z.1, z.2⟩) (fun p z => LI8 p.q ⟨p.q.l.length, z.1, z.2⟩))
noncomputable def cfgX8 : Cfg Try.prog V := ⟨tab, kinds, fun _ => none, hooksX, fun f id => match f, id with | 8, 0 => some LL8 | _, _ => none⟩
structure P6 where
  l : List Four
  c : Nat
  hl : l.length ≤ 200
def LI6 (q : P6) (x : X8) : St V := ⟨[(2, .sl false 0 0 4 q.l.length q.c), (7, .tt), (8, .ptr 3 0), (9, .ptr 4 0), (10, .int .i64 (x.i : Int))],
  [(4, .obj (oM x.y)), (3, .obj (oM x.x)), (0, .ro Kd.four q.l)], 5, 132, TQ⟩
structure J6 (q : P6) (x : X8) : Prop where
  le : x.i ≤ q.l.length
  m : ∃ f xs ys, MK x.x f xs ∧ MK x.y f ys
  giv : x.x.given = x.y.given ∧ x.x.given ≤ x.i
structure P6s where
  q : P6
  x0 : MO
  y0 : MO
  h : J6 q ⟨0, x0, y0⟩
def LL6 : LoopS V := trimLoop (trimSt [2, 7, 8, 9, 10] [0, 3, 4]) (loopH 5 (fun p : P6s => LI6 p.q ⟨0, p.x0, p.y0⟩) (fun p (z : MO × MO) => J6 p.q ⟨p.q.l.length, z.1, z.2⟩) (fun p z => LI6 p.q ⟨p.q.l.length, z.1, z.2⟩))
noncomputable def cfgX6 : Cfg Try.prog V := ⟨tab, kinds, fun _ => none, hooksX, fun f id => match f, id with | 6, 0 => some LL6 | _, _ => none⟩
theorem t6 (n s n2 s2 : Int) (l : List Four) (c : Nat) : runL cfgX6 60 6 Try.f6 [.agg [.int .i64 n, .int .i64 s], .agg [.int .i64 n2, .int .i64 s2], .sl false 0 0 4 l.length c] [(0, .ro Kd.four l)] 1 = Out.all MO fun y => Out.asm (y = newS s y.tabs y.pool ∧ (MapOk y fun x => none) ∧ y.tabs.length = cntN n) (Out.all MO fun y_1 => Out.asm (y_1 = newS s2 y_1.tabs y_1.pool ∧ (MapOk y_1 fun x => none) ∧ y_1.tabs.length = cntN n2) (Out.ite (decide ((↑l.length : Int) > (200 : Int))) (Out.fin .tt [] (0 : Nat)) (Out.need (LoopFor Try.prog (6 : Nat) (0 : Nat) (loopOf Try.f6 (0 : Nat)) LL6) (Out.ex (P6s → Prop) fun y_2 => Out.need ((5 : Nat) ≤ (5 : Nat) ∧ SImp (5 : Nat) {env := [((2 : Nat), .sl false (0 : Nat) (0 : Nat) (4 : Nat) l.length c), ((7 : Nat), .tt), ((8 : Nat), .ptr (3 : Nat) (0 : Nat)), ((9 : Nat), .ptr (4 : Nat) (0 : Nat)), ((10 : Nat), .lit .i64 (0 : Int))], heap := [((4 : Nat), .obj (oM y_1)), ((3 : Nat), .obj (oM y)), ((0 : Nat), .ro Kd.four l)], nx := (5 : Nat), nt := (132 : Nat), tl := [(2 : Nat), (1 : Nat)] : St V } (fun p => LI6 p.q {i := (0 : Nat), x := p.x0, y := p.y0 : X8 }) y_2) (Out.all P6s fun y => Out.asm (y_2 y) (Out.all (MO × MO) fun y_3 => Out.asm ((fun p z => J6 p.q {i := p.q.l.length, x := z.fst, y := z.snd : X8 }) y y_3) (Out.ex (Int → Option Ent) fun y_4 => Out.need (MapOk {i := y.q.l.length, x := y_3.fst, y := y_3.snd : X8 }.x y_4) (Out.all (List Ent) fun y_5 => Out.all Nat fun y_6 => Out.asm (AllRow y_4 y_5 ∧ y_5.length ≤ (68719476736 : Nat)) (Out.ex (Int → Option Ent) fun y_7 => Out.need (MapOk {i := y.q.l.length, x := y_3.fst, y := y_3.snd : X8 }.y y_7) (Out.all (List Ent) fun y_8 => Out.all Nat fun y_9 => Out.asm (AllRow y_7 y_8 ∧ y_8.length ≤ (68719476736 : Nat)) (Out.need ((0 : Nat) + y_5.length ≤ y_5.length) (Out.need ((0 : Nat) + y_8.length ≤ y_8.length) (Out.need ((List.take y_5.length (List.drop (0 : Nat) y_5)).length ≤ (1099511627776 : Nat)) (Out.ite (decide (List.take y_5.length (List.drop (0 : Nat) y_5) = List.take y_8.length (List.drop (0 : Nat) y_8))) (Out.fin (.bool ({i := y.q.l.length, x := y_3.fst, y := y_3.snd : X8 }.x.weight == {i := y.q.l.length, x := y_3.fst, y := y_3.snd : X8 }.y.weight)) [] (0 : Nat)) (Out.fin .ff [] (0 : Nat)))))))))))))))) := by kernel_rfl

end Sx
end Go.Proofs.Ytohckjjbephohaa

/-
  How many shards, and which seed: no matter to what is held: the law.
-/
namespace Go.Proofs.Ytohckjjbephohaa
namespace Sx
open Go
set_option linter.unusedSimpArgs false
set_option linter.unusedVariables false

theorem hooksX_ok : ∀ g H, hooksX g = some H → HookOk Try.prog g H := by
  intro g H h
  unfold hooksX at h
  split at h
  · cases h; exact hSmall
  · cases h; exact hMAll
  · cases h; exact hSame
  · exact hooksL_ok _ _ h
end Sx
end Go.Proofs.Ytohckjjbephohaa

/-
  An eviction leaves what a removal does, but for the node's state: the law.
-/
namespace Go.Proofs.Ytohckjjbephohaa
namespace Sx
open Go
set_option linter.unusedSimpArgs false
set_option linter.unusedVariables false

theorem rem_state {s y : MO} {o : Ent} {dead : Bool} (e : y = remS s (some o) dead y.pool) (h1 : 1 ≤ o.node) (h2 : o.node ≤ s.given) : stateOf y o.node = if dead then 3 else 2 := by
  have eg : y.given = s.given := by rw [e]; rfl
  have eo : y.gone = mput s.gone o.node dead := by rw [e]; rfl
  unfold stateOf
  rw [if_neg (by rw [eg]; omega), eo, mget_put]
  cases dead <;> rfl
end Sx
end Go.Proofs.Ytohckjjbephohaa

/-
  States of nodes go on alone; how many are alive; no program in sight.
-/
namespace Go.Proofs.Ytohckjjbephohaa
namespace Sx
open Go
set_option linter.unusedSimpArgs false
set_option linter.unusedVariables false

def Goes (a b : Int) : Prop := b = a ∨ (a = 0 ∧ b = 1) ∨ (a = 1 ∧ b = 2) ∨ (a = 1 ∧ b = 3) ∨ (a = 2 ∧ b = 3)
theorem state_of {s y : MO} (h1 : y.given = s.given) {n : Int} (h2 : mget y.gone n = mget s.gone n) : stateOf y n = stateOf s n := by
  unfold stateOf; rw [h1, h2]
def aliveN (s : MO) (n : Nat) : Nat := ((List.range n).filter fun (j : Nat) => decide (1 ≤ j ∧ stateOf s (j : Int) = 1)).length
theorem wsum_take {ys : List Ent} {k : Nat} (h : k < ys.length) : wsum (ys.take (k + 1)) = wsum (ys.take k) + (ys.getD k e0).weight := by
  unfold wsum
  rw [List.take_succ_eq_append_getElem h, List.map_append, List.sum_append]
  rw [List.getD_eq_getElem?_getD, List.getElem?_eq_getElem h]
  simp

end Sx
end Go.Proofs.Ytohckjjbephohaa

/-
  States go on alone: the runs of the machine.
-/
namespace Go.Proofs.Ytohckjjbephohaa
namespace Sx
open Go
set_option maxRecDepth 100000
set_option linter.unusedVariables false

structure P0 where
  l : List Four
  c : Nat
  hl : l.length ≤ 150
structure X0 where
  i : Nat
  x : MO
  was : List Int
def LI0 (q : P0) (x : X0) : St V := ⟨[(2, .sl false 0 0 4 q.l.length q.c), (7, .tt), (8, .ptr 1 0), (9, .sl true 2 0 1 200 200), (10, .int .i64 (x.i : Int))],
  [(2, .arr 3 Kd.int x.was 0), (1, .obj (oM x.x)), (0, .ro Kd.four q.l)], 3, 194, TQ⟩
structure PA where
  q : P0
  i : Nat
  s : MO
  w0 : List Int
  hw : w0.length = 200
  hg : ∀ j : Nat, 1 ≤ j → j < 200 → Goes (w0.getD j 0) (stateOf s (j : Int))
structure XA where
  n : Nat
  al : Nat
  was : List Int
structure JA (p : PA) (z : XA) : Prop where
  n1 : 1 ≤ z.n
  n2 : z.n ≤ 200
  wl : z.was.length = 200
  old : ∀ j, z.n ≤ j → z.was.getD j 0 = p.w0.getD j 0
  new : ∀ j : Nat, 1 ≤ j → j < z.n → z.was.getD j 0 = stateOf p.s (j : Int)
  al : z.al = aliveN p.s z.n
def IA (p : PA) (z : XA) : St V := ⟨[(2, .sl false 0 0 4 p.q.l.length p.q.c), (7, .tt), (8, .ptr 1 0), (9, .sl true 2 0 1 200 200), (10, .int .i64 (p.i : Int)), (12, .int .i64 (z.al : Int)), (13, .int .i64 (z.n : Int))],
  [(2, .arr 3 Kd.int z.was 0), (1, .obj (oM p.s)), (0, .ro Kd.four p.q.l)], 9, 194, TQ⟩
def LA : LoopS V := trimLoop (trimSt [2, 7, 8, 9, 10, 12, 13] [0, 1, 2]) (loopH 9 (fun p : PA => IA p ⟨1, 0, p.w0⟩) (fun p (z : XA) => JA p z ∧ z.n = 200) (fun p z => IA p z))
structure PB where
  p : PA
  z : XA
  ys : List Ent
  sp : Nat
  hl : ys.length ≤ 1099511627776
  asc : ys.Pairwise (fun a b => a.key < b.key)
  al : ∀ e ∈ ys, stateOf p.s e.node = 1
def IB (p : PB) (z : Nat × Int) : St V := ⟨[(2, .sl false 0 0 4 p.p.q.l.length p.p.q.c), (7, .tt), (8, .ptr 1 0), (9, .sl true 2 0 1 200 200), (10, .int .i64 (p.p.i : Int)), (12, .int .i64 (p.z.al : Int)), (15, .sl false 9 0 4 p.ys.length (p.ys.length + p.sp)), (16, .int .i64 z.2), (17, .int .i64 (z.1 : Int))],
  [(9, .arr 28 .ent p.ys p.sp), (2, .arr 3 Kd.int p.z.was 0), (1, .obj (oM p.p.s)), (0, .ro Kd.four p.p.q.l)], 12, 194, TQ⟩
structure JB (p : PB) (z : Nat × Int) : Prop where
  le : z.1 ≤ p.ys.length
  sum : z.2 = IntKind.wrap .i64 (wsum (p.ys.take z.1))
def LB : LoopS V := trimLoop (trimSt [2, 7, 8, 9, 10, 12, 15, 16, 17] [0, 1, 2, 9]) (loopH 12 (fun p : PB => IB p (0, 0)) (fun p (_ : Unit) => True) (fun p _ => IB p (p.ys.length, IntKind.wrap .i64 (wsum p.ys))))
noncomputable def cfgX5a : Cfg Try.prog V := ⟨tab, kinds, fun _ => none, hooksX, fun f id => match f, id with | 5, 3 => some LA | 5, 5 => some LB | _, _ => none⟩
structure J0 (q : P0) (x : X0) : Prop where
  le : x.i ≤ q.l.length
  m : ∃ f xs, MK x.x f xs
  giv : x.x.given ≤ x.i
  wl : x.was.length = 200
  w : ∀ j : Nat, 1 ≤ j → j < 200 → x.was.getD j 0 = stateOf x.x (j : Int)
structure P0s where
  q : P0
  x0 : MO
  w0 : List Int
  h : J0 q ⟨0, x0, w0⟩
def LL0 : LoopS V := trimLoop (trimSt [2, 7, 8, 9, 10] [0, 1, 2]) (loopH 3 (fun p : P0s => LI0 p.q ⟨0, p.x0, p.w0⟩) (fun p (z : MO × List Int) => J0 p.q ⟨p.q.l.length, z.1, z.2⟩) (fun p z => LI0 p.q ⟨p.q.l.length, z.1, z.2⟩))
noncomputable def cfgX5b : Cfg Try.prog V := ⟨tab, kinds, fun _ => none, hooksX, fun f id => match f, id with | 5, 0 => some LL0 | 5, 3 => some LA | 5, 5 => some LB | _, _ => none⟩
theorem t50 (n s : Int) (l : List Four) (c : Nat) : runL cfgX5b 60 5 Try.f5 [.int .i64 n, .int .i64 s, .sl false 0 0 4 l.length c] [(0, .ro Kd.four l)] 1 = Out.all MO fun y => Out.asm (y = newS s y.tabs y.pool ∧ (MapOk y fun x => none) ∧ y.tabs.length = cntN n) (Out.ite (decide ((↑l.length : Int) > (150 : Int))) (Out.fin .tt [] (0 : Nat)) (Out.need ((0 : Int) ≤ (200 : Int) ∧ (200 : Int) ≤ (200 : Int) ∧ (1600 : Int) ≤ (281474976710656 : Int)) (Out.need (LoopFor Try.prog (5 : Nat) (0 : Nat) (loopOf Try.f5 (0 : Nat)) LL0) (Out.ex (P0s → Prop) fun y_1 => Out.need ((3 : Nat) ≤ (3 : Nat) ∧ SImp (3 : Nat) {env := [((2 : Nat), .sl false (0 : Nat) (0 : Nat) (4 : Nat) l.length c), ((7 : Nat), .tt), ((8 : Nat), .ptr (1 : Nat) (0 : Nat)), ((9 : Nat), .sl true (2 : Nat) (0 : Nat) (1 : Nat) (200 : Nat) (200 : Nat)), ((10 : Nat), .lit .i64 (0 : Int))], heap := [((2 : Nat), .arr (3 : Nat) Kd.int (List.replicate (200 : Nat) (V.enc Kd.int).dflt) (0 : Nat)), ((1 : Nat), .obj (oM y)), ((0 : Nat), .ro Kd.four l)], nx := (3 : Nat), nt := (194 : Nat), tl := [] : St V } (fun p => LI0 p.q {i := (0 : Nat), x := p.x0, was := p.w0 : X0 }) y_1) (Out.all P0s fun y => Out.asm (y_1 y) (Out.all (MO × List Int) fun y_2 => Out.asm ((fun p z => J0 p.q {i := p.q.l.length, x := z.fst, was := z.snd : X0 }) y y_2) (Out.fin .tt [] (0 : Nat)))))))) := by kernel_rfl

end Sx
end Go.Proofs.Ytohckjjbephohaa

/-
  States go on alone, each key has one node that is alive at most, weights are those of all entries: the law.
-/
namespace Go.Proofs.Ytohckjjbephohaa
namespace Sx
open Go
set_option linter.unusedSimpArgs false
set_option linter.unusedVariables false
set_option maxHeartbeats 1000000

end Sx
end Go.Proofs.Ytohckjjbephohaa

/-
  The document on places: the runs of the machine.
-/
namespace Go.Proofs.Ytohckjjbephohaa
namespace Sx
open Go
set_option maxRecDepth 100000
set_option linter.unusedVariables false

def rotS (h : Int) : Int := IntKind.wrap .u64 (IntKind.wrap .u64 (h * 2) + h.fdiv 9223372036854775808)
def rotN : Nat → Int → Int
  | 0, h => h
  | n + 1, h => rotS (rotN n h)
noncomputable def cfgR0 : Cfg Try.prog V := ⟨tab, kinds, fun _ => none, fun _ => none, fun _ _ => none⟩
def RTI (h0 : Int) (i : Nat) : St V := ⟨[(0, .int .u64 (rotN i h0)), (5, .int .i64 32), (6, .int .i64 (i : Int))], [], 2, 26, TQ⟩
structure PRT where
  h : Int
  h0 : 0 ≤ h
  h1 : h < 18446744073709551616
def RTL : LoopS V := trimLoop (trimSt [0, 5, 6] []) (loopH 2 (fun q : PRT => RTI q.h 0) (fun _ (_ : Unit) => True) (fun q _ => RTI q.h 32))
noncomputable def cfgR1 : Cfg Try.prog V := ⟨tab, kinds, fun _ => none, fun _ => none, fun f id => match f, id with | 61, 0 => some RTL | _, _ => none⟩
def runRTurn : RunFree V := fun ar K => match ar with
  | [.int .u64 h, .int .i64 b] => .need (b = 32 ∧ 0 ≤ h ∧ h < 18446744073709551616) (K (.int .u64 (rotN 32 h)) [])
  | _ => .bad 500
def runRIndex : RunFree V := fun ar K => match ar with
  | [.int .u64 h, .int .i64 row, .int .i64 size] => .need (row = 2 ∧ 0 ≤ h ∧ h < 18446744073709551616 ∧ 1 ≤ size ∧ size ≤ 64) (K (.int .i64 (idxF h 2 size)) [])
  | _ => .bad 500
noncomputable def cfgR2 : Cfg Try.prog V := ⟨tab, kinds, fun _ => none, fun g => match g with | 61 => some (hookFree [.int .u64, .int .i64] runRTurn) | _ => none, fun _ _ => none⟩
theorem trtb (h0 : Int) (i : Nat) : runCode cfgR0 60 61 (loopOf Try.f61 0) (RTI h0 i) (stopT (trimSt [0, 5, 6] [])) = Out.ite (decide ((↑i : Int) < (32 : Int))) (Out.need ((0 : Int) ≤ (63 : Int)) (Out.stop EX.nx {env := [((0 : Nat), .int IntKind.u64 (IntKind.u64.wrap (IntKind.u64.wrap (rotN i h0 * (2 : Int)) + (rotN i h0).fdiv (9223372036854775808 : Int)))), ((5 : Nat), .int .i64 (32 : Int)), ((6 : Nat), .int .i64 (IntKind.i64.wrap ((↑i : Int) + (1 : Int))))], heap := [], nx := (2 : Nat), nt := (26 : Nat), tl := [(0 : Nat), (1 : Nat), (2 : Nat), (3 : Nat), (4 : Nat), (5 : Nat), (6 : Nat), (7 : Nat), (8 : Nat), (9 : Nat), (10 : Nat), (11 : Nat), (12 : Nat), (13 : Nat), (14 : Nat), (15 : Nat), (16 : Nat)] : St V })) (Out.stop (EX.ex (0 : Nat)) {env := [((0 : Nat), .int IntKind.u64 (rotN i h0)), ((5 : Nat), .int .i64 (32 : Int)), ((6 : Nat), .int .i64 (↑i : Int))], heap := [], nx := (2 : Nat), nt := (26 : Nat), tl := [(0 : Nat), (1 : Nat), (2 : Nat), (3 : Nat), (4 : Nat), (5 : Nat), (6 : Nat), (7 : Nat), (8 : Nat), (9 : Nat), (10 : Nat), (11 : Nat), (12 : Nat), (13 : Nat), (14 : Nat), (15 : Nat), (16 : Nat)] : St V }) := by kernel_rfl

theorem trturn (h b : Int) : runF cfgR1 60 61 Try.f61 [.int .u64 h, .int .i64 b] [] 2 = Out.ite (decide (b.tmod (64 : Int) < (0 : Int))) (Out.need (LoopFor Try.prog (61 : Nat) (0 : Nat) (loopOf Try.f61 (0 : Nat)) RTL) (Out.ex (PRT → Prop) fun y => Out.need ((2 : Nat) ≤ (2 : Nat) ∧ SImp (2 : Nat) {env := [((0 : Nat), .int IntKind.u64 h), ((5 : Nat), .int .i64 (IntKind.i64.wrap (b.tmod (64 : Int) + (64 : Int)))), ((6 : Nat), .lit .i64 (0 : Int))], heap := [], nx := (2 : Nat), nt := (26 : Nat), tl := [] : St V } (fun q => RTI q.h (0 : Nat)) y) (Out.all PRT fun y_1 => Out.asm (y y_1) (Out.all Unit fun y => Out.asm ((fun x x_1 => True) y_1 y) (Out.fin (.int IntKind.u64 (rotN (32 : Nat) y_1.h)) [] (2 : Nat)))))) (Out.need (LoopFor Try.prog (61 : Nat) (0 : Nat) (loopOf Try.f61 (0 : Nat)) RTL) (Out.ex (PRT → Prop) fun y => Out.need ((2 : Nat) ≤ (2 : Nat) ∧ SImp (2 : Nat) {env := [((0 : Nat), .int IntKind.u64 h), ((5 : Nat), .int .i64 (b.tmod (64 : Int))), ((6 : Nat), .lit .i64 (0 : Int))], heap := [], nx := (2 : Nat), nt := (26 : Nat), tl := [] : St V } (fun q => RTI q.h (0 : Nat)) y) (Out.all PRT fun y_1 => Out.asm (y y_1) (Out.all Unit fun y => Out.asm ((fun x x_1 => True) y_1 y) (Out.fin (.int IntKind.u64 (rotN (32 : Nat) y_1.h)) [] (2 : Nat)))))) := by kernel_rfl

theorem trmix (s k : Int) : runF cfgR0 60 47 Try.f47 [.int .i64 s, .int .i64 k] [] 2 = Out.need ((0 : Int) ≤ (30 : Int)) (Out.need ((0 : Int) ≤ (27 : Int)) (Out.need ((0 : Int) ≤ (31 : Int)) (Out.fin (.int IntKind.u64 (bitsOp BinOp.xor IntKind.u64 (IntKind.u64.wrap (bitsOp BinOp.xor IntKind.u64 (IntKind.u64.wrap (bitsOp BinOp.xor IntKind.u64 (bitsOp BinOp.xor IntKind.u64 (IntKind.u64.wrap k) (IntKind.u64.wrap (IntKind.u64.wrap s * (11400714819323198485 : Int)))) ((bitsOp BinOp.xor IntKind.u64 (IntKind.u64.wrap k) (IntKind.u64.wrap (IntKind.u64.wrap s * (11400714819323198485 : Int)))).fdiv (1073741824 : Int)) * (13787848793156543929 : Int))) ((IntKind.u64.wrap (bitsOp BinOp.xor IntKind.u64 (bitsOp BinOp.xor IntKind.u64 (IntKind.u64.wrap k) (IntKind.u64.wrap (IntKind.u64.wrap s * (11400714819323198485 : Int)))) ((bitsOp BinOp.xor IntKind.u64 (IntKind.u64.wrap k) (IntKind.u64.wrap (IntKind.u64.wrap s * (11400714819323198485 : Int)))).fdiv (1073741824 : Int)) * (13787848793156543929 : Int))).fdiv (134217728 : Int)) * (10723151780598845931 : Int))) ((IntKind.u64.wrap (bitsOp BinOp.xor IntKind.u64 (IntKind.u64.wrap (bitsOp BinOp.xor IntKind.u64 (bitsOp BinOp.xor IntKind.u64 (IntKind.u64.wrap k) (IntKind.u64.wrap (IntKind.u64.wrap s * (11400714819323198485 : Int)))) ((bitsOp BinOp.xor IntKind.u64 (IntKind.u64.wrap k) (IntKind.u64.wrap (IntKind.u64.wrap s * (11400714819323198485 : Int)))).fdiv (1073741824 : Int)) * (13787848793156543929 : Int))) ((IntKind.u64.wrap (bitsOp BinOp.xor IntKind.u64 (bitsOp BinOp.xor IntKind.u64 (IntKind.u64.wrap k) (IntKind.u64.wrap (IntKind.u64.wrap s * (11400714819323198485 : Int)))) ((bitsOp BinOp.xor IntKind.u64 (IntKind.u64.wrap k) (IntKind.u64.wrap (IntKind.u64.wrap s * (11400714819323198485 : Int)))).fdiv (1073741824 : Int)) * (13787848793156543929 : Int))).fdiv (134217728 : Int)) * (10723151780598845931 : Int))).fdiv (2147483648 : Int)))) [] (2 : Nat)))) := by kernel_rfl

theorem trindex (h row size : Int) : runF cfgR2 60 46 Try.f46 [.int .u64 h, .int .i64 row, .int .i64 size] [] 3 = Out.ite (decide (size < (1 : Int))) (Out.fin (.lit .i64 (0 : Int)) [] (3 : Nat)) (Out.need (IntKind.i64.wrap ((16 : Int) * row) = (32 : Int) ∧ (0 : Int) ≤ h ∧ h < (18446744073709551616 : Int)) (Out.need (IntKind.u64.wrap size ≠ (0 : Int)) (Out.fin (.int .i64 (IntKind.i64.wrap ((rotN (32 : Nat) h).tmod (IntKind.u64.wrap size)))) [] (3 : Nat)))) := by kernel_rfl

end Sx
end Go.Proofs.Ytohckjjbephohaa

/-
  The document on places: its words and places are the program's.
-/
namespace Go.Proofs.Ytohckjjbephohaa
namespace Sx
open Go
set_option linter.unusedSimpArgs false
set_option linter.unusedVariables false

theorem cfgR0_ok : cfgR0.ok := ⟨tab_met, kinds_met, mixed_met, fun g fn h => (by cases h), fun g H h => (by cases h)⟩
theorem cfgR1_ok : cfgR1.ok := ⟨tab_met, kinds_met, mixed_met, fun g fn h => (by cases h), fun g H h => (by cases h)⟩

theorem rtbody (h0 : Int) (i : Nat) (h : i ≤ 32) (Q : EX → St V → Prop) (F : AV → Heap V → Nat → Prop)
    (hnx : ∀ ST : St V, i < 32 → Wk 2 [] ST (RTI h0 (i + 1)) → Q .nx ST) (hex : ∀ ST : St V, i = 32 → Wk 2 [] ST (RTI h0 i) → Q (.ex 0) ST) :
    (runCode cfgR0 60 61 (loopOf Try.f61 0) (RTI h0 i) (stopT (trimSt [0, 5, 6] []))).holds ⟨Q, F⟩ := by
  rw [trtb]
  simp only [Out.holds, decide_eq_true_eq, decide_eq_false_iff_not, beq_iff_eq, beq_eq_false_iff_ne, bne_iff_ne, ne_eq, bne_eq_false_iff_eq, Bool.true_and, Bool.and_true, Bool.not_eq_true', Bool.not_eq_false', Bool.and_eq_true, Bool.or_eq_true, Bool.and_eq_false_imp, true_implies, true_and, Bool.not_true, Bool.not_false, Bool.false_eq_true, Bool.true_eq_false, false_implies, and_true, beq_self_eq_true, Decidable.not_not, not_true_eq_false, not_false_eq_true]
  refine ⟨fun hlt => ?_, fun hge => hex _ (by omega) (by (refine ⟨?_, ?_, rfl, tl_ok rfl, ?_, ⟨Nat.le_of_ble_eq_true rfl, rfl⟩⟩ <;> (repeat' first | with_reducible exact trivial | exact AV.sub_same _ | exact .same _ | exact .inr rfl | exact .inl (in_ok rfl) | exact AV.sub_lit' | exact AV.sub_nilS | exact .none _ _ | exact trivial | refine ⟨?_, ?_⟩)))⟩
  have hlt' : i < 32 := by omega
  have hw : IntKind.wrap .i64 ((i : Int) + 1) = ((i + 1 : Nat) : Int) := wrap_nat (by omega)
  exact ⟨by decide, hnx _ hlt' (by (refine ⟨?_, ?_, rfl, tl_ok rfl, ?_, ⟨Nat.le_of_ble_eq_true rfl, rfl⟩⟩ <;> (repeat' first | with_reducible exact trivial | (exact AV.sub_int hw) | (exact AV.sub_int rfl) | exact AV.sub_same _ | exact .same _ | exact .inr rfl | exact .inl (in_ok rfl) | exact AV.sub_lit' | exact AV.sub_nilS | exact .none _ _ | exact trivial | refine ⟨?_, ?_⟩)))⟩
theorem rtl_ok : LoopOk Try.prog 0 (loopOf Try.f61 0) RTL := by
  refine trimLoop_ok (trim_ok _ _) (loopTH_ok (C := cfgR0) cfgR0_ok (f := 61) (n := 60) (trim_ok [0, 5, 6] []) 2 (fun q : PRT => RTI q.h) (fun _ i => i ≤ 32) (fun _ => 0) (fun _ i => 32 - i) (fun _ (_ : Unit) => True) (fun q _ => RTI q.h 32) (fun _ => Nat.zero_le _) ?_)
  intro q i h
  refine rtbody q.h i h _ _ (fun ST hlt hw => SImp.of_wk (i + 1) hw ⟨hlt, ?_⟩) (fun ST he hw => ⟨rfl, SImp.of_wk (ren := []) () ?_ trivial⟩)
  · show 32 - (i + 1) < 32 - i; omega
  · subst he; exact hw
theorem hRTurn : HookOk Try.prog 61 (hookFree [.int .u64, .int .i64] runRTurn) := by
  refine free_hook (C := cfgR1) cfgR1_ok (n := 60) (fn := Try.f61) ⟨by kernel_rfl, by kernel_rfl⟩ (by kernel_rfl) ?_
  intro M ar K0 H
  unfold runRTurn at H
  split at H
  · rename_i h b
    obtain ⟨⟨rfl, h0, h1⟩, H⟩ := H
    refine ⟨show 2 ≤ _ by decide +kernel, ?_⟩
    show (runF cfgR1 60 61 Try.f61 [.int .u64 h, .int .i64 32] [] 2).holds _
    rw [trturn]
    refine ⟨fun hh => absurd hh (by decide), fun _ => ⟨rtl_ok, fun q => q = ⟨h, h0, h1⟩, ⟨Nat.le_refl _, SImp.of_wk (ren := []) ⟨h, h0, h1⟩ (by (refine ⟨?_, ?_, rfl, tl_ok rfl, ?_, ⟨Nat.le_of_ble_eq_true rfl, rfl⟩⟩ <;> (repeat' first | with_reducible exact trivial | (exact AV.sub_int rfl) | exact AV.sub_same _ | exact .same _ | exact .inr rfl | exact .inl (in_ok rfl) | exact AV.sub_lit' | exact AV.sub_nilS | exact .none _ _ | exact trivial | refine ⟨?_, ?_⟩))) rfl⟩, ?_⟩⟩
    rintro _ rfl _ _
    exact ⟨_, _, H, endPlain (AV.sub_same _) rfl⟩
  · exact H.elim
theorem hRMix : HookOk Try.prog 47 (hookFree [.int .i64, .int .i64] runMix) := by
  refine free_hook (C := cfgR0) cfgR0_ok (n := 60) (fn := Try.f47) ⟨by kernel_rfl, by kernel_rfl⟩ (by kernel_rfl) ?_
  intro M ar K0 H
  unfold runMix at H
  split at H
  · rename_i s k
    refine ⟨show 2 ≤ _ by decide +kernel, ?_⟩
    show (runF cfgR0 60 47 Try.f47 [.int .i64 s, .int .i64 k] [] 2).holds _
    rw [trmix]
    exact ⟨by decide, by decide, by decide, _, _, H, endPlain (AV.sub_int rfl) rfl⟩
  · exact H.elim

/-! ## a turn by 32 -/
theorem wrapU_lit (x : Int) : IntKind.wrap .u64 x = x % 18446744073709551616 := by
  simp [IntKind.wrap, IntKind.bits, IntKind.signed]
theorem rotN_split (m : Nat) (hm : m < 18446744073709551616) : ∀ k, k ≤ 64 → ∃ q u : Nat, m = q * 2 ^ (64 - k) + u ∧ u < 2 ^ (64 - k) ∧ q < 2 ^ k ∧ rotN k (m : Int) = ((u * 2 ^ k + q : Nat) : Int)
  | 0, _ => ⟨0, m, by simp, by simpa using hm, by simp, by simp [rotN]⟩
  | k + 1, hk => by
    obtain ⟨q, u, e1, e2, e3, e4⟩ := rotN_split m hm k (by omega)
    have hP : 2 ^ (64 - k) = 2 * 2 ^ (64 - (k + 1)) := by rw [show 64 - k = (64 - (k + 1)) + 1 by omega, Nat.pow_succ, Nat.mul_comm]
    have hQ : 2 ^ (k + 1) = 2 * 2 ^ k := by rw [Nat.pow_succ, Nat.mul_comm]
    have hPQ : 2 ^ (64 - (k + 1)) * 2 ^ k = 9223372036854775808 := by rw [← Nat.pow_add, show 64 - (k + 1) + k = 63 by omega]
    rw [hP] at e1 e2
    generalize 2 ^ (64 - (k + 1)) = P at *
    generalize hQ' : 2 ^ k = Q at *
    have hsplit : ∃ t v, u = t * P + v ∧ v < P ∧ t ≤ 1 := by
      by_cases hh : u < P
      · exact ⟨0, u, by omega, hh, by omega⟩
      · exact ⟨1, u - P, by omega, by omega, by omega⟩
    obtain ⟨t, v, f1, f2, f3⟩ := hsplit
    refine ⟨2 * q + t, v, ?_, f2, by omega, ?_⟩
    · rw [e1, f1, Nat.add_mul, Nat.mul_comm 2 q, Nat.mul_assoc]; omega
    · show rotS (rotN k (m : Int)) = _
      rw [e4, f1]
      have g1 : (t * P + v) * Q + q = t * 9223372036854775808 + (v * Q + q) := by rw [Nat.add_mul, Nat.mul_assoc, hPQ]; omega
      have g2 : v * Q + q < 9223372036854775808 := by
        have : (v + 1) * Q ≤ P * Q := Nat.mul_le_mul_right _ f2
        rw [hPQ, Nat.add_mul] at this; omega
      have g3 : v * (2 * Q) = 2 * (v * Q) := by rw [← Nat.mul_assoc, Nat.mul_comm v 2, Nat.mul_assoc]
      rw [g1, hQ, g3]
      clear g1 e1 e2 e4 f1 hP hQ hPQ g3
      generalize v * Q = vq at *
      obtain ⟨w, hw⟩ : ∃ w, w = vq + q := ⟨_, rfl⟩
      rw [← hw]
      rw [← hw] at g2
      rw [show (2 * vq + (2 * q + t) : Nat) = 2 * w + t by omega]
      unfold rotS
      rw [wrapU_lit, wrapU_lit, Int.fdiv_eq_ediv_of_nonneg _ (by decide)]
      have k1 : ((t * 9223372036854775808 + w : Nat) : Int) / 9223372036854775808 = (t : Int) := by
        rw [show ((t * 9223372036854775808 + w : Nat) : Int) = (w : Int) + (t : Int) * 9223372036854775808 by omega, Int.add_mul_ediv_right _ _ (by decide), Int.ediv_eq_zero_of_lt (by omega) (by omega)]; omega
      have k2 : ((t * 9223372036854775808 + w : Nat) : Int) * 2 % 18446744073709551616 = 2 * (w : Int) := by
        rw [show ((t * 9223372036854775808 + w : Nat) : Int) * 2 = 2 * (w : Int) + (t : Int) * 18446744073709551616 by omega, Int.add_mul_emod_self_right, Int.emod_eq_of_lt (by omega) (by omega)]
      rw [k1, k2, Int.emod_eq_of_lt (by omega) (by omega)]
      omega
theorem rot32 {h : Int} (h0 : 0 ≤ h) (h1 : h < 18446744073709551616) : rotN 32 h = turnF h 2 := by
  obtain ⟨m, rfl⟩ : ∃ m : Nat, h = (m : Int) := ⟨h.toNat, by omega⟩
  obtain ⟨q, u, e1, e2, e3, e4⟩ := rotN_split m (by omega) 32 (by decide)
  rw [e4]
  have hb : turnBy 2 = 32 := by decide
  unfold turnF
  rw [hb, show min (32 : Int).toNat 64 = 32 from by decide, show min (IntKind.wrap .u64 (64 - 32)).toNat 64 = 32 from by decide]
  have eQ : (2 : Nat) ^ 32 = 4294967296 := by decide
  have eZ : (2 : Int) ^ 32 = 4294967296 := by decide
  rw [show 64 - 32 = 32 from rfl, eQ] at e1 e2
  rw [eQ] at e3 ⊢
  rw [eZ, wrapU_lit, Int.fdiv_eq_ediv_of_nonneg _ (by decide)]
  have a1 : (m : Int) * 4294967296 % 18446744073709551616 = ((u * 4294967296 : Nat) : Int) := by omega
  have a2 : (m : Int) / 4294967296 = ((q : Nat) : Int) := by omega
  rw [a1, a2]
  unfold bitsOp
  dsimp only
  have b1 : (BitVec.ofInt 64 ((u * 4294967296 : Nat) : Int)).toNat = u * 4294967296 := by
    rw [BitVec.toNat_ofInt]; omega
  have b2 : (BitVec.ofInt 64 ((q : Nat) : Int)).toNat = q := by
    rw [BitVec.toNat_ofInt]; omega
  have b3 : (BitVec.ofInt 64 ((u * 4294967296 : Nat) : Int) ||| BitVec.ofInt 64 ((q : Nat) : Int)).toNat = u * 4294967296 + q := by
    rw [BitVec.toNat_or, b1, b2]
    have := Nat.shiftLeft_add_eq_or_of_lt (i := 32) (b := q) (by rw [eQ]; exact e3) u
    rw [Nat.shiftLeft_eq, eQ] at this
    exact this.symm
  show ((u * 4294967296 + q : Nat) : Int) = IntKind.wrap .u64 ((BitVec.ofInt 64 ((u * 4294967296 : Nat) : Int) ||| BitVec.ofInt 64 ((q : Nat) : Int)).toNat : Int)
  rw [b3, wrapU_lit]
  omega
theorem mixF_range (s k : Int) : 0 ≤ mixF s k ∧ mixF s k < 18446744073709551616 := by
  have h : ∀ a b : Int, 0 ≤ xorU a b ∧ xorU a b < 18446744073709551616 := fun a b => by
    unfold xorU bitsOp
    dsimp only
    rw [wrapU_lit]; omega
  unfold mixF
  exact h _ _
theorem hRIndex : HookOk Try.prog 46 (hookFree [.int .u64, .int .i64, .int .i64] runRIndex) := by
  refine free_hook (C := cfgR2) ⟨tab_met, kinds_met, mixed_met, fun g fn h => (by cases h), fun g H h => ?_⟩ (n := 60) (fn := Try.f46) ⟨by kernel_rfl, by kernel_rfl⟩ (by kernel_rfl) ?_
  · unfold cfgR2 at h
    dsimp only at h
    split at h
    · cases h; exact hRTurn
    · cases h
  intro M ar K0 H
  unfold runRIndex at H
  split at H
  · rename_i h row size
    obtain ⟨⟨rfl, h0, h1, h2, h3⟩, H⟩ := H
    refine ⟨show 3 ≤ _ by decide +kernel, ?_⟩
    show (runF cfgR2 60 46 Try.f46 [.int .u64 h, .int .i64 2, .int .i64 size] [] 3).holds _
    rw [trindex]
    simp only [Out.holds, decide_eq_true_eq, decide_eq_false_iff_not, beq_iff_eq, beq_eq_false_iff_ne, bne_iff_ne, ne_eq, bne_eq_false_iff_eq, Bool.true_and, Bool.and_true, Bool.not_eq_true', Bool.not_eq_false', Bool.and_eq_true, Bool.or_eq_true, Bool.and_eq_false_imp, true_implies, true_and, Bool.not_true, Bool.not_false, Bool.false_eq_true, Bool.true_eq_false, false_implies, and_true, beq_self_eq_true, Decidable.not_not, not_true_eq_false, not_false_eq_true]
    have hs : IntKind.wrap .u64 size = size := wrapU_low (by omega) (by omega)
    refine ⟨fun hh => absurd hh (by omega), fun _ => ⟨⟨by decide, h0, h1⟩, by rw [hs]; omega, _, _, H, endPlain (AV.sub_int ?_) rfl⟩⟩
    unfold idxF
    rw [if_neg (by omega), rot32 h0 h1]
  · exact H.elim

end Sx
end Go.Proofs.Ytohckjjbephohaa

/-
  The document on maps: the runs of the machine.
-/
namespace Go.Proofs.Ytohckjjbephohaa
namespace Sx
open Go
set_option maxRecDepth 100000
set_option linter.unusedVariables false

def rUp (s : RM) (a b : Nat) : Heap V :=
  [(0, .cells 48 [.int .i64 s.n, .int .i64 s.seed, .sl false 1 0 4 s.L.length (s.L.length + a), .sl false 2 0 1 s.st.length (s.st.length + b)]),
   (1, .arr 28 Kd.ent s.L a), (2, .arr 3 Kd.int s.st b)]
abbrev oR (s : RM) : V.O := .inl (.inr s)
abbrev RunR := RM → List (Arg V) → (AV → RM → List (Blk V) → Out V) → Out V
def onR (f : RunR) : RunObj V := fun x ar K => match x with
  | .inl (.inr s) => f s ar fun v s' E => K v (oR s') E
  | _ => .bad 500
noncomputable def hooksR : Nat → Option (HookS V) := fun g => match g with | 47 => some (hookFree [.int .i64, .int .i64] runMix) | 46 => some (hookFree [.int .u64, .int .i64, .int .i64] runRIndex) | _ => none
noncomputable def fnsR : Nat → Option Func := fun g => match g with | 26 => some Try.f26 | 60 => some Try.f60 | 59 => some Try.f59 | _ => none
noncomputable def cfgRA : Cfg Try.prog V := ⟨tab, kinds, fnsR, hooksR, fun _ _ => none⟩
noncomputable def cfgRN : Cfg Try.prog V := ⟨tab, kinds, fun g => match g with | 40 => some Try.f40 | 58 => some Try.f58 | _ => none, fun _ => none, fun _ _ => none⟩
def TQR : List Nat := [0, 1, 2, 3, 4, 5, 6, 7, 8, 9, 10, 11, 12, 13, 14, 15, 16, 20, 21, 22, 23, 24, 25, 26, 27, 28, 29, 30, 31, 32, 33, 34, 35, 36, 37, 38, 39, 40]
structure PRF where
  s : RM
  a : Nat
  b : Nat
  k : Int
  v : Int
  w : Int
  hl : s.L.length ≤ 1000000
def firstAt (L : List Ent) (k : Int) (i : Nat) : Prop := i < L.length ∧ (L.getD i e0).key = k ∧ ∀ j, j < i → (L.getD j e0).key ≠ k
def noneAt (L : List Ent) (k : Int) (i : Nat) : Prop := ∀ j, j < i → (L.getD j e0).key ≠ k
def wR (w : Int) : Int := if (2147483648 : Int) < if (0 : Int) > w then (0 : Int) else w then (2147483648 : Int) else if (0 : Int) > w then (0 : Int) else w

def RFI0 (q : PRF) (i : Nat) : St V := ⟨[(0, .ptr 0 0), (1, .int .i64 q.k), (5, .int .i64 (i : Int))], [(4, .cells 28 [.lit .i64 0, .lit .i64 0, .lit .i64 0, .lit .i64 0]), (0, .cells 48 [.int .i64 q.s.n, .int .i64 q.s.seed, .sl false 1 0 4 q.s.L.length (q.s.L.length + q.a), .sl false 2 0 1 q.s.st.length (q.s.st.length + q.b)]), (1, .arr 28 Kd.ent q.s.L q.a), (2, .arr 3 Kd.int q.s.st q.b)], 20, 26, TQR⟩
def RFR0 (q : PRF) (i : Nat) : St V := ⟨[(4, .int .i64 (i : Int))], [(4, .cells 28 [.lit .i64 0, .lit .i64 0, .lit .i64 0, .lit .i64 0]), (0, .cells 48 [.int .i64 q.s.n, .int .i64 q.s.seed, .sl false 1 0 4 q.s.L.length (q.s.L.length + q.a), .sl false 2 0 1 q.s.st.length (q.s.st.length + q.b)]), (1, .arr 28 Kd.ent q.s.L q.a), (2, .arr 3 Kd.int q.s.st q.b)], 20, 26, TQR⟩
def RFL0 : LoopS V := trimLoop (trimSt [0, 1, 4, 5] [0, 1, 2, 4]) (loopG 20 (fun q : PRF => RFI0 q 0) (fun q (_ : Unit) => noneAt q.s.L q.k q.s.L.length) (fun q _ => RFI0 q q.s.L.length) (fun q i => firstAt q.s.L q.k i) (fun q i => RFR0 q i))
noncomputable def cfgRF0 : Cfg Try.prog V := ⟨tab, kinds, fnsR, hooksR, fun f id => match f, id with | 59, 0 => some RFL0 | _, _ => none⟩

def RFI1 (q : PRF) (i : Nat) : St V := ⟨[(0, .ptr 0 0), (1, .int .i64 q.k), (5, .int .i64 (i : Int))], [(7, .cells 28 [.int .i64 q.k, .int .i64 q.v, .int .i64 (wR q.w), .lit .i64 0]), (6, .cells 28 [.lit .i64 0, .lit .i64 0, .lit .i64 0, .lit .i64 0]), (0, .cells 48 [.int .i64 q.s.n, .int .i64 q.s.seed, .sl false 1 0 4 q.s.L.length (q.s.L.length + q.a), .sl false 2 0 1 q.s.st.length (q.s.st.length + q.b)]), (1, .arr 28 Kd.ent q.s.L q.a), (2, .arr 3 Kd.int q.s.st q.b)], 20, 26, TQR⟩
def RFR1 (q : PRF) (i : Nat) : St V := ⟨[(4, .int .i64 (i : Int))], [(7, .cells 28 [.int .i64 q.k, .int .i64 q.v, .int .i64 (wR q.w), .lit .i64 0]), (6, .cells 28 [.lit .i64 0, .lit .i64 0, .lit .i64 0, .lit .i64 0]), (0, .cells 48 [.int .i64 q.s.n, .int .i64 q.s.seed, .sl false 1 0 4 q.s.L.length (q.s.L.length + q.a), .sl false 2 0 1 q.s.st.length (q.s.st.length + q.b)]), (1, .arr 28 Kd.ent q.s.L q.a), (2, .arr 3 Kd.int q.s.st q.b)], 20, 26, TQR⟩
def RFL1 : LoopS V := trimLoop (trimSt [0, 1, 4, 5] [0, 1, 2, 6, 7]) (loopG 20 (fun q : PRF => RFI1 q 0) (fun q (_ : Unit) => noneAt q.s.L q.k q.s.L.length) (fun q _ => RFI1 q q.s.L.length) (fun q i => firstAt q.s.L q.k i) (fun q i => RFR1 q i))
noncomputable def cfgRF1 : Cfg Try.prog V := ⟨tab, kinds, fnsR, hooksR, fun f id => match f, id with | 59, 0 => some RFL1 | _, _ => none⟩

structure PRI where
  q : PRF
  sp : Nat
def PII (p : PRI) (i : Nat) : St V := ⟨[(0, .ptr 0 0), (1, .int .i64 p.q.k), (8, .ptr 6 0), (9, .ff), (10, .ptr 7 0), (13, .int .i64 (i : Int))],
  [(22, .arr 3 Kd.int (p.q.s.st ++ [1]) p.sp), (7, .cells 28 [.int .i64 p.q.k, .int .i64 p.q.v, .int .i64 (wR p.q.w), .int .i64 (p.q.s.st.length : Int)]), (6, .cells 28 [.lit .i64 0, .lit .i64 0, .lit .i64 0, .lit .i64 0]),
   (0, .cells 48 [.int .i64 p.q.s.n, .int .i64 p.q.s.seed, .sl false 1 0 4 p.q.s.L.length (p.q.s.L.length + p.q.a), .sl false 22 0 1 (p.q.s.st.length + 1) (p.q.s.st.length + 1 + p.sp)]), (1, .arr 28 Kd.ent p.q.s.L p.q.a)], 26, 101, TQR⟩
def insP (L : List Ent) (k : Int) (i : Nat) : Prop := i ≤ L.length ∧ (∀ j, j < i → (L.getD j e0).key < k) ∧ (i < L.length → ¬ (L.getD i e0).key < k)
def PIL : LoopS V := trimLoop (trimSt [0, 1, 8, 9, 10, 13] [0, 1, 6, 7, 22]) (loopH 26 (fun p : PRI => PII p 0) (fun p (i : Nat) => insP p.q.s.L p.q.k i) (fun p i => PII p i))
noncomputable def cfgRP : Cfg Try.prog V := ⟨tab, kinds, fnsR, hooksR, fun f id => match f, id with | 59, 0 => some RFL1 | 41, 0 => some PIL | _, _ => none⟩
def EVI (q : PRF) (i : Nat) : St V := ⟨[(0, .ptr 0 0), (1, .int .i64 q.k), (4, .ptr 4 0), (5, .ff), (6, .int .i64 (i : Int))], [(4, .cells 28 [.lit .i64 0, .lit .i64 0, .lit .i64 0, .lit .i64 0]), (0, .cells 48 [.int .i64 q.s.n, .int .i64 q.s.seed, .sl false 1 0 4 q.s.L.length (q.s.L.length + q.a), .sl false 2 0 1 q.s.st.length (q.s.st.length + q.b)]), (1, .arr 28 Kd.ent q.s.L q.a), (2, .arr 3 Kd.int q.s.st q.b)], 20, 30, TQR⟩
def WGI (q : PRF) (z : Nat × Int) : St V := ⟨[(0, .ptr 0 0), (3, .int .i64 z.2), (4, .int .i64 (z.1 : Int))], [(0, .cells 48 [.int .i64 q.s.n, .int .i64 q.s.seed, .sl false 1 0 4 q.s.L.length (q.s.L.length + q.a), .sl false 2 0 1 q.s.st.length (q.s.st.length + q.b)]), (1, .arr 28 Kd.ent q.s.L q.a), (2, .arr 3 Kd.int q.s.st q.b)], 20, 25, TQR⟩

def outL (L : List Ent) (i : Nat) : List Ent := List.take i L ++ List.take (L.length - (i + 1)) (List.drop (i + 1) L)
def EVR (q : PRF) (z : Nat × Nat) : St V := ⟨[(0, .ptr 0 0), (4, .ptr 4 0), (5, .tt)], [(20, .arr 28 Kd.ent (outL q.s.L z.1) z.2), (4, .cells 28 (Ent.enc (q.s.L.getD z.1 e0))), (0, .cells 48 [.int .i64 q.s.n, .int .i64 q.s.seed, .sl false 20 0 4 (outL q.s.L z.1).length ((outL q.s.L z.1).length + z.2), .sl false 2 0 1 q.s.st.length (q.s.st.length + q.b)]), (2, .arr 3 Kd.int (q.s.st.set (q.s.L.getD z.1 e0).node.toNat 3) q.b)], 21, 30, TQR⟩
def firstNode (L : List Ent) (k : Int) (i : Nat) : Prop := i < L.length ∧ (L.getD i e0).node = k ∧ ∀ j, j < i → (L.getD j e0).node ≠ k
structure PRE extends PRF where
  hn : ∀ e ∈ s.L, 0 ≤ e.node ∧ e.node < (s.st.length : Int)
def EVL : LoopS V := trimLoop (trimSt [0, 1, 4, 5, 6] [0, 1, 2, 4]) (loopG 20 (fun q : PRE => EVI q.toPRF 0) (fun q (_ : Unit) => ∀ j, j < q.s.L.length → (q.s.L.getD j e0).node ≠ q.k) (fun q _ => EVI q.toPRF q.s.L.length) (fun q (z : Nat × Nat) => firstNode q.s.L q.k z.1) (fun q z => EVR q.toPRF z))
noncomputable def cfgRE : Cfg Try.prog V := ⟨tab, kinds, fnsR, hooksR, fun f id => match f, id with | 43, 0 => some EVL | _, _ => none⟩
def WGL : LoopS V := trimLoop (trimSt [0, 3, 4] [0, 1, 2]) (loopH 20 (fun q : PRF => WGI q (0, 0)) (fun q (_ : Unit) => True) (fun q _ => WGI q (q.s.L.length, IntKind.wrap .i64 (wsum q.s.L))))
noncomputable def cfgRW : Cfg Try.prog V := ⟨tab, kinds, fnsR, hooksR, fun f id => match f, id with | 27, 0 => some WGL | _, _ => none⟩
theorem trf0 (q : PRF) (i : Nat) : runCode cfgRA 60 59 (loopOf Try.f59 0) (RFI0 q i) (stopT (trimSt [0, 1, 4, 5] [0, 1, 2, 4])) = Out.ite (decide ((↑i : Int) < (↑q.s.L.length : Int))) (Out.need ((0 : Int) ≤ (↑i : Int) ∧ (↑i : Int) < (↑q.s.L.length : Int)) (Out.need ((0 : Nat) + i < q.s.L.length) (Out.ite ((q.s.L.getD ((0 : Nat) + i) (V.enc Kd.ent).dflt).key == q.k) (Out.stop EX.rt {env := [((0 : Nat), .ptr (0 : Nat) (0 : Nat)), ((1 : Nat), .int .i64 q.k), ((4 : Nat), .int .i64 (↑i : Int)), ((5 : Nat), .int .i64 (↑i : Int))], heap := [((4 : Nat), .cells (28 : Nat) [.lit .i64 (0 : Int), .lit .i64 (0 : Int), .lit .i64 (0 : Int), .lit .i64 (0 : Int)]), ((0 : Nat), .cells (48 : Nat) [.int .i64 q.s.n, .int .i64 q.s.seed, .sl false (1 : Nat) (0 : Nat) (4 : Nat) q.s.L.length (q.s.L.length + q.2), .sl false (2 : Nat) (0 : Nat) (1 : Nat) q.s.st.length (q.s.st.length + q.3)]), ((1 : Nat), .arr (28 : Nat) Kd.ent q.s.L q.2), ((2 : Nat), .arr (3 : Nat) Kd.int q.s.st q.3)], nx := (20 : Nat), nt := (26 : Nat), tl := [(0 : Nat), (1 : Nat), (2 : Nat), (3 : Nat), (4 : Nat), (5 : Nat), (6 : Nat), (7 : Nat), (8 : Nat), (9 : Nat), (10 : Nat), (11 : Nat), (12 : Nat), (13 : Nat), (14 : Nat), (15 : Nat), (16 : Nat), (20 : Nat), (21 : Nat), (22 : Nat), (23 : Nat), (24 : Nat), (25 : Nat), (26 : Nat), (27 : Nat), (28 : Nat), (29 : Nat), (30 : Nat), (31 : Nat), (32 : Nat), (33 : Nat), (34 : Nat), (35 : Nat), (36 : Nat), (37 : Nat), (38 : Nat), (39 : Nat), (40 : Nat)] : St V }) (Out.stop EX.nx {env := [((0 : Nat), .ptr (0 : Nat) (0 : Nat)), ((1 : Nat), .int .i64 q.k), ((4 : Nat), .und), ((5 : Nat), .int .i64 (IntKind.i64.wrap ((↑i : Int) + (1 : Int))))], heap := [((4 : Nat), .cells (28 : Nat) [.lit .i64 (0 : Int), .lit .i64 (0 : Int), .lit .i64 (0 : Int), .lit .i64 (0 : Int)]), ((0 : Nat), .cells (48 : Nat) [.int .i64 q.s.n, .int .i64 q.s.seed, .sl false (1 : Nat) (0 : Nat) (4 : Nat) q.s.L.length (q.s.L.length + q.2), .sl false (2 : Nat) (0 : Nat) (1 : Nat) q.s.st.length (q.s.st.length + q.3)]), ((1 : Nat), .arr (28 : Nat) Kd.ent q.s.L q.2), ((2 : Nat), .arr (3 : Nat) Kd.int q.s.st q.3)], nx := (20 : Nat), nt := (26 : Nat), tl := [(0 : Nat), (1 : Nat), (2 : Nat), (3 : Nat), (4 : Nat), (5 : Nat), (6 : Nat), (7 : Nat), (8 : Nat), (9 : Nat), (10 : Nat), (11 : Nat), (12 : Nat), (13 : Nat), (14 : Nat), (15 : Nat), (16 : Nat), (20 : Nat), (21 : Nat), (22 : Nat), (23 : Nat), (24 : Nat), (25 : Nat), (26 : Nat), (27 : Nat), (28 : Nat), (29 : Nat), (30 : Nat), (31 : Nat), (32 : Nat), (33 : Nat), (34 : Nat), (35 : Nat), (36 : Nat), (37 : Nat), (38 : Nat), (39 : Nat), (40 : Nat)] : St V })))) (Out.stop (EX.ex (0 : Nat)) {env := [((0 : Nat), .ptr (0 : Nat) (0 : Nat)), ((1 : Nat), .int .i64 q.k), ((4 : Nat), .und), ((5 : Nat), .int .i64 (↑i : Int))], heap := [((4 : Nat), .cells (28 : Nat) [.lit .i64 (0 : Int), .lit .i64 (0 : Int), .lit .i64 (0 : Int), .lit .i64 (0 : Int)]), ((0 : Nat), .cells (48 : Nat) [.int .i64 q.s.n, .int .i64 q.s.seed, .sl false (1 : Nat) (0 : Nat) (4 : Nat) q.s.L.length (q.s.L.length + q.2), .sl false (2 : Nat) (0 : Nat) (1 : Nat) q.s.st.length (q.s.st.length + q.3)]), ((1 : Nat), .arr (28 : Nat) Kd.ent q.s.L q.2), ((2 : Nat), .arr (3 : Nat) Kd.int q.s.st q.3)], nx := (20 : Nat), nt := (26 : Nat), tl := [(0 : Nat), (1 : Nat), (2 : Nat), (3 : Nat), (4 : Nat), (5 : Nat), (6 : Nat), (7 : Nat), (8 : Nat), (9 : Nat), (10 : Nat), (11 : Nat), (12 : Nat), (13 : Nat), (14 : Nat), (15 : Nat), (16 : Nat), (20 : Nat), (21 : Nat), (22 : Nat), (23 : Nat), (24 : Nat), (25 : Nat), (26 : Nat), (27 : Nat), (28 : Nat), (29 : Nat), (30 : Nat), (31 : Nat), (32 : Nat), (33 : Nat), (34 : Nat), (35 : Nat), (36 : Nat), (37 : Nat), (38 : Nat), (39 : Nat), (40 : Nat)] : St V }) := by kernel_rfl

theorem trf1 (q : PRF) (i : Nat) : runCode cfgRA 60 59 (loopOf Try.f59 0) (RFI1 q i) (stopT (trimSt [0, 1, 4, 5] [0, 1, 2, 6, 7])) = Out.ite (decide ((↑i : Int) < (↑q.s.L.length : Int))) (Out.need ((0 : Int) ≤ (↑i : Int) ∧ (↑i : Int) < (↑q.s.L.length : Int)) (Out.need ((0 : Nat) + i < q.s.L.length) (Out.ite ((q.s.L.getD ((0 : Nat) + i) (V.enc Kd.ent).dflt).key == q.k) (Out.stop EX.rt {env := [((0 : Nat), .ptr (0 : Nat) (0 : Nat)), ((1 : Nat), .int .i64 q.k), ((4 : Nat), .int .i64 (↑i : Int)), ((5 : Nat), .int .i64 (↑i : Int))], heap := [((7 : Nat), .cells (28 : Nat) [.int .i64 q.k, .int .i64 q.v, .int .i64 (wR q.w), .lit .i64 (0 : Int)]), ((6 : Nat), .cells (28 : Nat) [.lit .i64 (0 : Int), .lit .i64 (0 : Int), .lit .i64 (0 : Int), .lit .i64 (0 : Int)]), ((0 : Nat), .cells (48 : Nat) [.int .i64 q.s.n, .int .i64 q.s.seed, .sl false (1 : Nat) (0 : Nat) (4 : Nat) q.s.L.length (q.s.L.length + q.2), .sl false (2 : Nat) (0 : Nat) (1 : Nat) q.s.st.length (q.s.st.length + q.3)]), ((1 : Nat), .arr (28 : Nat) Kd.ent q.s.L q.2), ((2 : Nat), .arr (3 : Nat) Kd.int q.s.st q.3)], nx := (20 : Nat), nt := (26 : Nat), tl := [(0 : Nat), (1 : Nat), (2 : Nat), (3 : Nat), (4 : Nat), (5 : Nat), (6 : Nat), (7 : Nat), (8 : Nat), (9 : Nat), (10 : Nat), (11 : Nat), (12 : Nat), (13 : Nat), (14 : Nat), (15 : Nat), (16 : Nat), (20 : Nat), (21 : Nat), (22 : Nat), (23 : Nat), (24 : Nat), (25 : Nat), (26 : Nat), (27 : Nat), (28 : Nat), (29 : Nat), (30 : Nat), (31 : Nat), (32 : Nat), (33 : Nat), (34 : Nat), (35 : Nat), (36 : Nat), (37 : Nat), (38 : Nat), (39 : Nat), (40 : Nat)] : St V }) (Out.stop EX.nx {env := [((0 : Nat), .ptr (0 : Nat) (0 : Nat)), ((1 : Nat), .int .i64 q.k), ((4 : Nat), .und), ((5 : Nat), .int .i64 (IntKind.i64.wrap ((↑i : Int) + (1 : Int))))], heap := [((7 : Nat), .cells (28 : Nat) [.int .i64 q.k, .int .i64 q.v, .int .i64 (wR q.w), .lit .i64 (0 : Int)]), ((6 : Nat), .cells (28 : Nat) [.lit .i64 (0 : Int), .lit .i64 (0 : Int), .lit .i64 (0 : Int), .lit .i64 (0 : Int)]), ((0 : Nat), .cells (48 : Nat) [.int .i64 q.s.n, .int .i64 q.s.seed, .sl false (1 : Nat) (0 : Nat) (4 : Nat) q.s.L.length (q.s.L.length + q.2), .sl false (2 : Nat) (0 : Nat) (1 : Nat) q.s.st.length (q.s.st.length + q.3)]), ((1 : Nat), .arr (28 : Nat) Kd.ent q.s.L q.2), ((2 : Nat), .arr (3 : Nat) Kd.int q.s.st q.3)], nx := (20 : Nat), nt := (26 : Nat), tl := [(0 : Nat), (1 : Nat), (2 : Nat), (3 : Nat), (4 : Nat), (5 : Nat), (6 : Nat), (7 : Nat), (8 : Nat), (9 : Nat), (10 : Nat), (11 : Nat), (12 : Nat), (13 : Nat), (14 : Nat), (15 : Nat), (16 : Nat), (20 : Nat), (21 : Nat), (22 : Nat), (23 : Nat), (24 : Nat), (25 : Nat), (26 : Nat), (27 : Nat), (28 : Nat), (29 : Nat), (30 : Nat), (31 : Nat), (32 : Nat), (33 : Nat), (34 : Nat), (35 : Nat), (36 : Nat), (37 : Nat), (38 : Nat), (39 : Nat), (40 : Nat)] : St V })))) (Out.stop (EX.ex (0 : Nat)) {env := [((0 : Nat), .ptr (0 : Nat) (0 : Nat)), ((1 : Nat), .int .i64 q.k), ((4 : Nat), .und), ((5 : Nat), .int .i64 (↑i : Int))], heap := [((7 : Nat), .cells (28 : Nat) [.int .i64 q.k, .int .i64 q.v, .int .i64 (wR q.w), .lit .i64 (0 : Int)]), ((6 : Nat), .cells (28 : Nat) [.lit .i64 (0 : Int), .lit .i64 (0 : Int), .lit .i64 (0 : Int), .lit .i64 (0 : Int)]), ((0 : Nat), .cells (48 : Nat) [.int .i64 q.s.n, .int .i64 q.s.seed, .sl false (1 : Nat) (0 : Nat) (4 : Nat) q.s.L.length (q.s.L.length + q.2), .sl false (2 : Nat) (0 : Nat) (1 : Nat) q.s.st.length (q.s.st.length + q.3)]), ((1 : Nat), .arr (28 : Nat) Kd.ent q.s.L q.2), ((2 : Nat), .arr (3 : Nat) Kd.int q.s.st q.3)], nx := (20 : Nat), nt := (26 : Nat), tl := [(0 : Nat), (1 : Nat), (2 : Nat), (3 : Nat), (4 : Nat), (5 : Nat), (6 : Nat), (7 : Nat), (8 : Nat), (9 : Nat), (10 : Nat), (11 : Nat), (12 : Nat), (13 : Nat), (14 : Nat), (15 : Nat), (16 : Nat), (20 : Nat), (21 : Nat), (22 : Nat), (23 : Nat), (24 : Nat), (25 : Nat), (26 : Nat), (27 : Nat), (28 : Nat), (29 : Nat), (30 : Nat), (31 : Nat), (32 : Nat), (33 : Nat), (34 : Nat), (35 : Nat), (36 : Nat), (37 : Nat), (38 : Nat), (39 : Nat), (40 : Nat)] : St V }) := by kernel_rfl

theorem trget (s : RM) (a b : Nat) (k : Int) : runF cfgRF0 60 45 Try.f45 [.ptr 0 0, .int .i64 k] (rUp s a b) 4 = Out.need (LoopFor Try.prog (59 : Nat) (0 : Nat) (loopOf Try.f59 (0 : Nat)) RFL0) (Out.ex (PRF → Prop) fun y => Out.need ((5 : Nat) ≤ (20 : Nat) ∧ SImp (20 : Nat) {env := [((0 : Nat), .ptr (0 : Nat) (0 : Nat)), ((1 : Nat), .int .i64 k), ((4 : Nat), .lit .i64 (0 : Int)), ((5 : Nat), .lit .i64 (0 : Int))], heap := [((4 : Nat), .cells (28 : Nat) [.lit .i64 (0 : Int), .lit .i64 (0 : Int), .lit .i64 (0 : Int), .lit .i64 (0 : Int)]), ((0 : Nat), .cells (48 : Nat) [.int .i64 s.n, .int .i64 s.seed, .sl false (1 : Nat) (0 : Nat) (4 : Nat) s.L.length (s.L.length + a), .sl false (2 : Nat) (0 : Nat) (1 : Nat) s.st.length (s.st.length + b)]), ((1 : Nat), .arr (28 : Nat) Kd.ent s.L a), ((2 : Nat), .arr (3 : Nat) Kd.int s.st b)], nx := (5 : Nat), nt := (26 : Nat), tl := [] : St V } (fun q => RFI0 q (0 : Nat)) y) (Out.all PRF fun y_1 => Out.asm (y y_1) ((Out.all Unit fun y => Out.asm ((fun q x => noneAt q.s.L q.k q.s.L.length) y_1 y) (Out.fin (.tup [.agg [.lit .i64 (0 : Int), .lit .i64 (0 : Int), .lit .i64 (0 : Int), .lit .i64 (0 : Int)], .ff]) [((4 : Nat), .cells (28 : Nat) [.lit .i64 (0 : Int), .lit .i64 (0 : Int), .lit .i64 (0 : Int), .lit .i64 (0 : Int)]), ((0 : Nat), .cells (48 : Nat) [.int .i64 y_1.s.n, .int .i64 y_1.s.seed, .sl false (1 : Nat) (0 : Nat) (4 : Nat) y_1.s.L.length (y_1.s.L.length + y_1.2), .sl false (2 : Nat) (0 : Nat) (1 : Nat) y_1.s.st.length (y_1.s.st.length + y_1.3)]), ((1 : Nat), .arr (28 : Nat) Kd.ent y_1.s.L y_1.2), ((2 : Nat), .arr (3 : Nat) Kd.int y_1.s.st y_1.3)] (21 : Nat))).both (Out.all Nat fun y => Out.asm ((fun q i => firstAt q.s.L q.k i) y_1 y) (Out.ite (decide ((↑y : Int) < (0 : Int))) (Out.fin (.tup [.agg [.lit .i64 (0 : Int), .lit .i64 (0 : Int), .lit .i64 (0 : Int), .lit .i64 (0 : Int)], .ff]) [((4 : Nat), .cells (28 : Nat) [.lit .i64 (0 : Int), .lit .i64 (0 : Int), .lit .i64 (0 : Int), .lit .i64 (0 : Int)]), ((0 : Nat), .cells (48 : Nat) [.int .i64 y_1.s.n, .int .i64 y_1.s.seed, .sl false (1 : Nat) (0 : Nat) (4 : Nat) y_1.s.L.length (y_1.s.L.length + y_1.2), .sl false (2 : Nat) (0 : Nat) (1 : Nat) y_1.s.st.length (y_1.s.st.length + y_1.3)]), ((1 : Nat), .arr (28 : Nat) Kd.ent y_1.s.L y_1.2), ((2 : Nat), .arr (3 : Nat) Kd.int y_1.s.st y_1.3)] (21 : Nat)) (Out.need ((0 : Int) ≤ (↑y : Int) ∧ (↑y : Int) < (↑y_1.s.L.length : Int)) (Out.need ((0 : Nat) + y < y_1.s.L.length) (Out.fin (.tup [.agg [.int .i64 (y_1.s.L.getD ((0 : Nat) + y) (V.enc Kd.ent).dflt).key, .int .i64 (y_1.s.L.getD ((0 : Nat) + y) (V.enc Kd.ent).dflt).value, .int .i64 (y_1.s.L.getD ((0 : Nat) + y) (V.enc Kd.ent).dflt).weight, .int .i64 (y_1.s.L.getD ((0 : Nat) + y) (V.enc Kd.ent).dflt).node], .tt]) [((4 : Nat), .cells (28 : Nat) [.int .i64 (y_1.s.L.getD ((0 : Nat) + y) (V.enc Kd.ent).dflt).key, .int .i64 (y_1.s.L.getD ((0 : Nat) + y) (V.enc Kd.ent).dflt).value, .int .i64 (y_1.s.L.getD ((0 : Nat) + y) (V.enc Kd.ent).dflt).weight, .int .i64 (y_1.s.L.getD ((0 : Nat) + y) (V.enc Kd.ent).dflt).node]), ((0 : Nat), .cells (48 : Nat) [.int .i64 y_1.s.n, .int .i64 y_1.s.seed, .sl false (1 : Nat) (0 : Nat) (4 : Nat) y_1.s.L.length (y_1.s.L.length + y_1.2), .sl false (2 : Nat) (0 : Nat) (1 : Nat) y_1.s.st.length (y_1.s.st.length + y_1.3)]), ((1 : Nat), .arr (28 : Nat) Kd.ent y_1.s.L y_1.2), ((2 : Nat), .arr (3 : Nat) Kd.int y_1.s.st y_1.3)] (21 : Nat))))))))) := by kernel_rfl

theorem trrem (s : RM) (a b : Nat) (k : Int) : runF cfgRF0 60 42 Try.f42 [.ptr 0 0, .int .i64 k] (rUp s a b) 4 = Out.need (LoopFor Try.prog (59 : Nat) (0 : Nat) (loopOf Try.f59 (0 : Nat)) RFL0) (Out.ex (PRF → Prop) fun y => Out.need ((5 : Nat) ≤ (20 : Nat) ∧ SImp (20 : Nat) {env := [((0 : Nat), .ptr (0 : Nat) (0 : Nat)), ((1 : Nat), .int .i64 k), ((4 : Nat), .lit .i64 (0 : Int)), ((5 : Nat), .lit .i64 (0 : Int))], heap := [((4 : Nat), .cells (28 : Nat) [.lit .i64 (0 : Int), .lit .i64 (0 : Int), .lit .i64 (0 : Int), .lit .i64 (0 : Int)]), ((0 : Nat), .cells (48 : Nat) [.int .i64 s.n, .int .i64 s.seed, .sl false (1 : Nat) (0 : Nat) (4 : Nat) s.L.length (s.L.length + a), .sl false (2 : Nat) (0 : Nat) (1 : Nat) s.st.length (s.st.length + b)]), ((1 : Nat), .arr (28 : Nat) Kd.ent s.L a), ((2 : Nat), .arr (3 : Nat) Kd.int s.st b)], nx := (5 : Nat), nt := (26 : Nat), tl := [] : St V } (fun q => RFI0 q (0 : Nat)) y) (Out.all PRF fun y_1 => Out.asm (y y_1) ((Out.all Unit fun y => Out.asm ((fun q x => noneAt q.s.L q.k q.s.L.length) y_1 y) (Out.fin (.tup [.agg [.lit .i64 (0 : Int), .lit .i64 (0 : Int), .lit .i64 (0 : Int), .lit .i64 (0 : Int)], .ff]) [((4 : Nat), .cells (28 : Nat) [.lit .i64 (0 : Int), .lit .i64 (0 : Int), .lit .i64 (0 : Int), .lit .i64 (0 : Int)]), ((0 : Nat), .cells (48 : Nat) [.int .i64 y_1.s.n, .int .i64 y_1.s.seed, .sl false (1 : Nat) (0 : Nat) (4 : Nat) y_1.s.L.length (y_1.s.L.length + y_1.2), .sl false (2 : Nat) (0 : Nat) (1 : Nat) y_1.s.st.length (y_1.s.st.length + y_1.3)]), ((1 : Nat), .arr (28 : Nat) Kd.ent y_1.s.L y_1.2), ((2 : Nat), .arr (3 : Nat) Kd.int y_1.s.st y_1.3)] (21 : Nat))).both (Out.all Nat fun y => Out.asm ((fun q i => firstAt q.s.L q.k i) y_1 y) (Out.ite (decide ((↑y : Int) < (0 : Int))) (Out.fin (.tup [.agg [.lit .i64 (0 : Int), .lit .i64 (0 : Int), .lit .i64 (0 : Int), .lit .i64 (0 : Int)], .ff]) [((4 : Nat), .cells (28 : Nat) [.lit .i64 (0 : Int), .lit .i64 (0 : Int), .lit .i64 (0 : Int), .lit .i64 (0 : Int)]), ((0 : Nat), .cells (48 : Nat) [.int .i64 y_1.s.n, .int .i64 y_1.s.seed, .sl false (1 : Nat) (0 : Nat) (4 : Nat) y_1.s.L.length (y_1.s.L.length + y_1.2), .sl false (2 : Nat) (0 : Nat) (1 : Nat) y_1.s.st.length (y_1.s.st.length + y_1.3)]), ((1 : Nat), .arr (28 : Nat) Kd.ent y_1.s.L y_1.2), ((2 : Nat), .arr (3 : Nat) Kd.int y_1.s.st y_1.3)] (21 : Nat)) (Out.need ((0 : Int) ≤ (↑y : Int) ∧ (↑y : Int) < (↑y_1.s.L.length : Int)) (Out.need ((0 : Nat) + y < y_1.s.L.length) (Out.need ((0 : Int) ≤ (y_1.s.L.getD ((0 : Nat) + y) (V.enc Kd.ent).dflt).node ∧ (y_1.s.L.getD ((0 : Nat) + y) (V.enc Kd.ent).dflt).node < (↑y_1.s.st.length : Int)) (Out.need ((0 : Nat) + (y_1.s.L.getD ((0 : Nat) + y) (V.enc Kd.ent).dflt).node.toNat < y_1.s.st.length) (Out.need ((0 : Int) ≤ (↑y : Int) ∧ (↑y : Int) ≤ (↑(y_1.s.L.length + y_1.2) : Int)) (Out.need ((0 : Int) ≤ IntKind.i64.wrap ((↑y : Int) + (1 : Int)) ∧ IntKind.i64.wrap ((↑y : Int) + (1 : Int)) ≤ (↑y_1.s.L.length : Int)) (Out.need ((0 : Nat) + y ≤ y_1.s.L.length) (Out.need ((List.take y (List.drop (0 : Nat) y_1.s.L)).length * (32 : Nat) ≤ (140737488355328 : Nat)) (Out.all Nat fun y_2 => Out.need ((0 : Nat) + (IntKind.i64.wrap ((↑y : Int) + (1 : Int))).toNat + (y_1.s.L.length - (IntKind.i64.wrap ((↑y : Int) + (1 : Int))).toNat) ≤ y_1.s.L.length) (Out.need ((0 : Nat) = (0 : Nat) ∧ (List.take y (List.drop (0 : Nat) y_1.s.L)).length = (List.take y (List.drop (0 : Nat) y_1.s.L)).length ∧ (List.take y (List.drop (0 : Nat) y_1.s.L)).length + y_2 = (List.take y (List.drop (0 : Nat) y_1.s.L)).length + y_2 ∧ ((List.take y (List.drop (0 : Nat) y_1.s.L)).length + (List.take (y_1.s.L.length - (IntKind.i64.wrap ((↑y : Int) + (1 : Int))).toNat) (List.drop ((0 : Nat) + (IntKind.i64.wrap ((↑y : Int) + (1 : Int))).toNat) y_1.s.L)).length) * (32 : Nat) ≤ (140737488355328 : Nat)) (Out.all Nat fun y_3 => Out.fin (.tup [.agg [.int .i64 (y_1.s.L.getD ((0 : Nat) + y) (V.enc Kd.ent).dflt).key, .int .i64 (y_1.s.L.getD ((0 : Nat) + y) (V.enc Kd.ent).dflt).value, .int .i64 (y_1.s.L.getD ((0 : Nat) + y) (V.enc Kd.ent).dflt).weight, .int .i64 (y_1.s.L.getD ((0 : Nat) + y) (V.enc Kd.ent).dflt).node], .tt]) [((26 : Nat), .arr (28 : Nat) Kd.ent (List.take y (List.drop (0 : Nat) y_1.s.L) ++ List.take (y_1.s.L.length - (IntKind.i64.wrap ((↑y : Int) + (1 : Int))).toNat) (List.drop ((0 : Nat) + (IntKind.i64.wrap ((↑y : Int) + (1 : Int))).toNat) y_1.s.L)) y_3), ((24 : Nat), .cells (28 : Nat) []), ((21 : Nat), .cells (28 : Nat) [.int .i64 (y_1.s.L.getD ((0 : Nat) + y) (V.enc Kd.ent).dflt).key, .int .i64 (y_1.s.L.getD ((0 : Nat) + y) (V.enc Kd.ent).dflt).value, .int .i64 (y_1.s.L.getD ((0 : Nat) + y) (V.enc Kd.ent).dflt).weight, .int .i64 (y_1.s.L.getD ((0 : Nat) + y) (V.enc Kd.ent).dflt).node]), ((20 : Nat), .cells (28 : Nat) [.int .i64 (y_1.s.L.getD ((0 : Nat) + y) (V.enc Kd.ent).dflt).key, .int .i64 (y_1.s.L.getD ((0 : Nat) + y) (V.enc Kd.ent).dflt).value, .int .i64 (y_1.s.L.getD ((0 : Nat) + y) (V.enc Kd.ent).dflt).weight, .int .i64 (y_1.s.L.getD ((0 : Nat) + y) (V.enc Kd.ent).dflt).node]), ((4 : Nat), .cells (28 : Nat) [.int .i64 (y_1.s.L.getD ((0 : Nat) + y) (V.enc Kd.ent).dflt).key, .int .i64 (y_1.s.L.getD ((0 : Nat) + y) (V.enc Kd.ent).dflt).value, .int .i64 (y_1.s.L.getD ((0 : Nat) + y) (V.enc Kd.ent).dflt).weight, .int .i64 (y_1.s.L.getD ((0 : Nat) + y) (V.enc Kd.ent).dflt).node]), ((0 : Nat), .cells (48 : Nat) [.int .i64 y_1.s.n, .int .i64 y_1.s.seed, .sl false (26 : Nat) (0 : Nat) (4 : Nat) ((List.take y (List.drop (0 : Nat) y_1.s.L)).length + (List.take (y_1.s.L.length - (IntKind.i64.wrap ((↑y : Int) + (1 : Int))).toNat) (List.drop ((0 : Nat) + (IntKind.i64.wrap ((↑y : Int) + (1 : Int))).toNat) y_1.s.L)).length) ((List.take y (List.drop (0 : Nat) y_1.s.L)).length + (List.take (y_1.s.L.length - (IntKind.i64.wrap ((↑y : Int) + (1 : Int))).toNat) (List.drop ((0 : Nat) + (IntKind.i64.wrap ((↑y : Int) + (1 : Int))).toNat) y_1.s.L)).length + y_3), .sl false (2 : Nat) (0 : Nat) (1 : Nat) y_1.s.st.length (y_1.s.st.length + y_1.3)]), ((1 : Nat), .arr (28 : Nat) Kd.ent y_1.s.L y_1.2), ((2 : Nat), .arr (3 : Nat) Kd.int (y_1.s.st.set ((0 : Nat) + (y_1.s.L.getD ((0 : Nat) + y) (V.enc Kd.ent).dflt).node.toNat) (2 : Int)) y_1.3)] (30 : Nat))))))))))))))))) := by kernel_rfl

theorem trstate (s : RM) (a b : Nat) (k : Int) : runF cfgRF0 60 26 Try.f26 [.ptr 0 0, .int .i64 k] (rUp s a b) 4 = Out.ite (decide (k < (1 : Int))) (Out.fin (.lit .i64 (0 : Int)) [((0 : Nat), .cells (48 : Nat) [.int .i64 s.n, .int .i64 s.seed, .sl false (1 : Nat) (0 : Nat) (4 : Nat) s.L.length (s.L.length + a), .sl false (2 : Nat) (0 : Nat) (1 : Nat) s.st.length (s.st.length + b)]), ((1 : Nat), .arr (28 : Nat) Kd.ent s.L a), ((2 : Nat), .arr (3 : Nat) Kd.int s.st b)] (4 : Nat)) (Out.ite (decide (k ≥ (↑s.st.length : Int))) (Out.fin (.lit .i64 (0 : Int)) [((0 : Nat), .cells (48 : Nat) [.int .i64 s.n, .int .i64 s.seed, .sl false (1 : Nat) (0 : Nat) (4 : Nat) s.L.length (s.L.length + a), .sl false (2 : Nat) (0 : Nat) (1 : Nat) s.st.length (s.st.length + b)]), ((1 : Nat), .arr (28 : Nat) Kd.ent s.L a), ((2 : Nat), .arr (3 : Nat) Kd.int s.st b)] (4 : Nat)) (Out.need ((0 : Int) ≤ k ∧ k < (↑s.st.length : Int)) (Out.need ((0 : Nat) + k.toNat < s.st.length) (Out.fin (.int .i64 (s.st.getD ((0 : Nat) + k.toNat) (V.enc Kd.int).dflt)) [((0 : Nat), .cells (48 : Nat) [.int .i64 s.n, .int .i64 s.seed, .sl false (1 : Nat) (0 : Nat) (4 : Nat) s.L.length (s.L.length + a), .sl false (2 : Nat) (0 : Nat) (1 : Nat) s.st.length (s.st.length + b)]), ((1 : Nat), .arr (28 : Nat) Kd.ent s.L a), ((2 : Nat), .arr (3 : Nat) Kd.int s.st b)] (4 : Nat))))) := by kernel_rfl

theorem trshard (s : RM) (a b : Nat) (k : Int) : runF cfgRF0 60 25 Try.f25 [.ptr 0 0, .int .i64 k] (rUp s a b) 4 = Out.need ((2 : Int) = (2 : Int) ∧ (0 : Int) ≤ mixF s.seed k ∧ mixF s.seed k < (18446744073709551616 : Int) ∧ (1 : Int) ≤ s.n ∧ s.n ≤ (64 : Int)) (Out.fin (.int .i64 (idxF (mixF s.seed k) (2 : Int) s.n)) [((0 : Nat), .cells (48 : Nat) [.int .i64 s.n, .int .i64 s.seed, .sl false (1 : Nat) (0 : Nat) (4 : Nat) s.L.length (s.L.length + a), .sl false (2 : Nat) (0 : Nat) (1 : Nat) s.st.length (s.st.length + b)]), ((1 : Nat), .arr (28 : Nat) Kd.ent s.L a), ((2 : Nat), .arr (3 : Nat) Kd.int s.st b)] (4 : Nat)) := by kernel_rfl

theorem trbury (s : RM) (a b : Nat) (k : Int) : runF cfgRF0 60 44 Try.f44 [.ptr 0 0, .int .i64 k] (rUp s a b) 4 = Out.ite (decide (k < (1 : Int))) (Out.fin (.lit .i64 (3 : Int)) [((0 : Nat), .cells (48 : Nat) [.int .i64 s.n, .int .i64 s.seed, .sl false (1 : Nat) (0 : Nat) (4 : Nat) s.L.length (s.L.length + a), .sl false (2 : Nat) (0 : Nat) (1 : Nat) s.st.length (s.st.length + b)]), ((1 : Nat), .arr (28 : Nat) Kd.ent s.L a), ((2 : Nat), .arr (3 : Nat) Kd.int s.st b)] (4 : Nat)) (Out.ite (decide (k ≥ (↑s.st.length : Int))) (Out.fin (.lit .i64 (3 : Int)) [((0 : Nat), .cells (48 : Nat) [.int .i64 s.n, .int .i64 s.seed, .sl false (1 : Nat) (0 : Nat) (4 : Nat) s.L.length (s.L.length + a), .sl false (2 : Nat) (0 : Nat) (1 : Nat) s.st.length (s.st.length + b)]), ((1 : Nat), .arr (28 : Nat) Kd.ent s.L a), ((2 : Nat), .arr (3 : Nat) Kd.int s.st b)] (4 : Nat)) (Out.need ((0 : Int) ≤ k ∧ k < (↑s.st.length : Int)) (Out.need ((0 : Nat) + k.toNat < s.st.length) (Out.ite (decide (s.st.getD ((0 : Nat) + k.toNat) (V.enc Kd.int).dflt < (2 : Int))) (Out.fin (.lit .i64 (3 : Int)) [((0 : Nat), .cells (48 : Nat) [.int .i64 s.n, .int .i64 s.seed, .sl false (1 : Nat) (0 : Nat) (4 : Nat) s.L.length (s.L.length + a), .sl false (2 : Nat) (0 : Nat) (1 : Nat) s.st.length (s.st.length + b)]), ((1 : Nat), .arr (28 : Nat) Kd.ent s.L a), ((2 : Nat), .arr (3 : Nat) Kd.int s.st b)] (4 : Nat)) (Out.ite (s.st.getD ((0 : Nat) + k.toNat) (V.enc Kd.int).dflt == (3 : Int)) (Out.fin (.lit .i64 (8 : Int)) [((0 : Nat), .cells (48 : Nat) [.int .i64 s.n, .int .i64 s.seed, .sl false (1 : Nat) (0 : Nat) (4 : Nat) s.L.length (s.L.length + a), .sl false (2 : Nat) (0 : Nat) (1 : Nat) s.st.length (s.st.length + b)]), ((1 : Nat), .arr (28 : Nat) Kd.ent s.L a), ((2 : Nat), .arr (3 : Nat) Kd.int s.st b)] (4 : Nat)) (Out.need ((0 : Int) ≤ k ∧ k < (↑s.st.length : Int)) (Out.need ((0 : Nat) + k.toNat < s.st.length) (Out.fin (.lit .i64 (0 : Int)) [((0 : Nat), .cells (48 : Nat) [.int .i64 s.n, .int .i64 s.seed, .sl false (1 : Nat) (0 : Nat) (4 : Nat) s.L.length (s.L.length + a), .sl false (2 : Nat) (0 : Nat) (1 : Nat) s.st.length (s.st.length + b)]), ((1 : Nat), .arr (28 : Nat) Kd.ent s.L a), ((2 : Nat), .arr (3 : Nat) Kd.int (s.st.set ((0 : Nat) + k.toNat) (3 : Int)) b)] (5 : Nat))))))))) := by kernel_rfl

theorem trpi (p : PRI) (i : Nat) : runCode cfgRA 60 41 (loopOf Try.f41 0) (PII p i) (stopT (trimSt [0, 1, 8, 9, 10, 13] [0, 1, 6, 7, 22])) = Out.ite (decide ((↑i : Int) < (↑p.q.s.L.length : Int))) (Out.need ((0 : Int) ≤ (↑i : Int) ∧ (↑i : Int) < (↑p.q.s.L.length : Int)) (Out.need ((0 : Nat) + i < p.q.s.L.length) (Out.ite (decide ((p.q.s.L.getD ((0 : Nat) + i) (V.enc Kd.ent).dflt).key < p.q.k)) (Out.stop EX.nx {env := [((0 : Nat), .ptr (0 : Nat) (0 : Nat)), ((1 : Nat), .int .i64 p.q.k), ((8 : Nat), .ptr (6 : Nat) (0 : Nat)), ((9 : Nat), .ff), ((10 : Nat), .ptr (7 : Nat) (0 : Nat)), ((13 : Nat), .int .i64 (IntKind.i64.wrap ((↑i : Int) + (1 : Int))))], heap := [((22 : Nat), .arr (3 : Nat) Kd.int (p.q.s.st ++ [(1 : Int)]) p.2), ((7 : Nat), .cells (28 : Nat) [.int .i64 p.q.k, .int .i64 p.q.v, .int .i64 (wR p.q.w), .int .i64 (↑p.q.s.st.length : Int)]), ((6 : Nat), .cells (28 : Nat) [.lit .i64 (0 : Int), .lit .i64 (0 : Int), .lit .i64 (0 : Int), .lit .i64 (0 : Int)]), ((0 : Nat), .cells (48 : Nat) [.int .i64 p.q.s.n, .int .i64 p.q.s.seed, .sl false (1 : Nat) (0 : Nat) (4 : Nat) p.q.s.L.length (p.q.s.L.length + p.q.2), .sl false (22 : Nat) (0 : Nat) (1 : Nat) (p.q.s.st.length + (1 : Nat)) (p.q.s.st.length + (1 : Nat) + p.2)]), ((1 : Nat), .arr (28 : Nat) Kd.ent p.q.s.L p.q.2)], nx := (26 : Nat), nt := (101 : Nat), tl := [(0 : Nat), (1 : Nat), (2 : Nat), (3 : Nat), (4 : Nat), (5 : Nat), (6 : Nat), (7 : Nat), (8 : Nat), (9 : Nat), (10 : Nat), (11 : Nat), (12 : Nat), (13 : Nat), (14 : Nat), (15 : Nat), (16 : Nat), (20 : Nat), (21 : Nat), (22 : Nat), (23 : Nat), (24 : Nat), (25 : Nat), (26 : Nat), (27 : Nat), (28 : Nat), (29 : Nat), (30 : Nat), (31 : Nat), (32 : Nat), (33 : Nat), (34 : Nat), (35 : Nat), (36 : Nat), (37 : Nat), (38 : Nat), (39 : Nat), (40 : Nat)] : St V }) (Out.stop (EX.ex (0 : Nat)) {env := [((0 : Nat), .ptr (0 : Nat) (0 : Nat)), ((1 : Nat), .int .i64 p.q.k), ((8 : Nat), .ptr (6 : Nat) (0 : Nat)), ((9 : Nat), .ff), ((10 : Nat), .ptr (7 : Nat) (0 : Nat)), ((13 : Nat), .int .i64 (↑i : Int))], heap := [((22 : Nat), .arr (3 : Nat) Kd.int (p.q.s.st ++ [(1 : Int)]) p.2), ((7 : Nat), .cells (28 : Nat) [.int .i64 p.q.k, .int .i64 p.q.v, .int .i64 (wR p.q.w), .int .i64 (↑p.q.s.st.length : Int)]), ((6 : Nat), .cells (28 : Nat) [.lit .i64 (0 : Int), .lit .i64 (0 : Int), .lit .i64 (0 : Int), .lit .i64 (0 : Int)]), ((0 : Nat), .cells (48 : Nat) [.int .i64 p.q.s.n, .int .i64 p.q.s.seed, .sl false (1 : Nat) (0 : Nat) (4 : Nat) p.q.s.L.length (p.q.s.L.length + p.q.2), .sl false (22 : Nat) (0 : Nat) (1 : Nat) (p.q.s.st.length + (1 : Nat)) (p.q.s.st.length + (1 : Nat) + p.2)]), ((1 : Nat), .arr (28 : Nat) Kd.ent p.q.s.L p.q.2)], nx := (26 : Nat), nt := (101 : Nat), tl := [(0 : Nat), (1 : Nat), (2 : Nat), (3 : Nat), (4 : Nat), (5 : Nat), (6 : Nat), (7 : Nat), (8 : Nat), (9 : Nat), (10 : Nat), (11 : Nat), (12 : Nat), (13 : Nat), (14 : Nat), (15 : Nat), (16 : Nat), (20 : Nat), (21 : Nat), (22 : Nat), (23 : Nat), (24 : Nat), (25 : Nat), (26 : Nat), (27 : Nat), (28 : Nat), (29 : Nat), (30 : Nat), (31 : Nat), (32 : Nat), (33 : Nat), (34 : Nat), (35 : Nat), (36 : Nat), (37 : Nat), (38 : Nat), (39 : Nat), (40 : Nat)] : St V })))) (Out.stop (EX.ex (0 : Nat)) {env := [((0 : Nat), .ptr (0 : Nat) (0 : Nat)), ((1 : Nat), .int .i64 p.q.k), ((8 : Nat), .ptr (6 : Nat) (0 : Nat)), ((9 : Nat), .ff), ((10 : Nat), .ptr (7 : Nat) (0 : Nat)), ((13 : Nat), .int .i64 (↑i : Int))], heap := [((22 : Nat), .arr (3 : Nat) Kd.int (p.q.s.st ++ [(1 : Int)]) p.2), ((7 : Nat), .cells (28 : Nat) [.int .i64 p.q.k, .int .i64 p.q.v, .int .i64 (wR p.q.w), .int .i64 (↑p.q.s.st.length : Int)]), ((6 : Nat), .cells (28 : Nat) [.lit .i64 (0 : Int), .lit .i64 (0 : Int), .lit .i64 (0 : Int), .lit .i64 (0 : Int)]), ((0 : Nat), .cells (48 : Nat) [.int .i64 p.q.s.n, .int .i64 p.q.s.seed, .sl false (1 : Nat) (0 : Nat) (4 : Nat) p.q.s.L.length (p.q.s.L.length + p.q.2), .sl false (22 : Nat) (0 : Nat) (1 : Nat) (p.q.s.st.length + (1 : Nat)) (p.q.s.st.length + (1 : Nat) + p.2)]), ((1 : Nat), .arr (28 : Nat) Kd.ent p.q.s.L p.q.2)], nx := (26 : Nat), nt := (101 : Nat), tl := [(0 : Nat), (1 : Nat), (2 : Nat), (3 : Nat), (4 : Nat), (5 : Nat), (6 : Nat), (7 : Nat), (8 : Nat), (9 : Nat), (10 : Nat), (11 : Nat), (12 : Nat), (13 : Nat), (14 : Nat), (15 : Nat), (16 : Nat), (20 : Nat), (21 : Nat), (22 : Nat), (23 : Nat), (24 : Nat), (25 : Nat), (26 : Nat), (27 : Nat), (28 : Nat), (29 : Nat), (30 : Nat), (31 : Nat), (32 : Nat), (33 : Nat), (34 : Nat), (35 : Nat), (36 : Nat), (37 : Nat), (38 : Nat), (39 : Nat), (40 : Nat)] : St V }) := by kernel_rfl

theorem trput (s : RM) (a b : Nat) (k v w : Int) : runF cfgRP 60 41 Try.f41 [.ptr 0 0, .int .i64 k, .int .i64 v, .int .i64 w] (rUp s a b) 6 = Out.need (LoopFor Try.prog (59 : Nat) (0 : Nat) (loopOf Try.f59 (0 : Nat)) RFL1) (Out.ex (PRF → Prop) fun y => Out.need ((9 : Nat) ≤ (20 : Nat) ∧ SImp (20 : Nat) {env := [((0 : Nat), .ptr (0 : Nat) (0 : Nat)), ((1 : Nat), .int .i64 k), ((4 : Nat), .lit .i64 (0 : Int)), ((5 : Nat), .lit .i64 (0 : Int))], heap := [((7 : Nat), .cells (28 : Nat) [.int .i64 k, .int .i64 v, .int .i64 (if (2147483648 : Int) < if (0 : Int) > w then (0 : Int) else w then (2147483648 : Int) else if (0 : Int) > w then (0 : Int) else w), .lit .i64 (0 : Int)]), ((6 : Nat), .cells (28 : Nat) [.lit .i64 (0 : Int), .lit .i64 (0 : Int), .lit .i64 (0 : Int), .lit .i64 (0 : Int)]), ((0 : Nat), .cells (48 : Nat) [.int .i64 s.n, .int .i64 s.seed, .sl false (1 : Nat) (0 : Nat) (4 : Nat) s.L.length (s.L.length + a), .sl false (2 : Nat) (0 : Nat) (1 : Nat) s.st.length (s.st.length + b)]), ((1 : Nat), .arr (28 : Nat) Kd.ent s.L a), ((2 : Nat), .arr (3 : Nat) Kd.int s.st b)], nx := (9 : Nat), nt := (26 : Nat), tl := [] : St V } (fun q => RFI1 q (0 : Nat)) y) (Out.all PRF fun y_1 => Out.asm (y y_1) ((Out.all Unit fun y => Out.asm ((fun q x => noneAt q.s.L q.k q.s.L.length) y_1 y) (Out.need ((0 : Nat) = (0 : Nat) ∧ y_1.s.st.length = y_1.s.st.length ∧ y_1.s.st.length + y_1.3 = y_1.s.st.length + y_1.3 ∧ (y_1.s.st.length + (1 : Nat)) * (8 : Nat) ≤ (140737488355328 : Nat)) (Out.all Nat fun y => Out.need (LoopFor Try.prog (41 : Nat) (0 : Nat) (loopOf Try.f41 (0 : Nat)) PIL) (Out.ex (PRI → Prop) fun y_2 => Out.need ((24 : Nat) ≤ (26 : Nat) ∧ SImp (26 : Nat) {env := [((0 : Nat), .ptr (0 : Nat) (0 : Nat)), ((1 : Nat), .int .i64 k), ((8 : Nat), .ptr (6 : Nat) (0 : Nat)), ((9 : Nat), .ff), ((10 : Nat), .ptr (7 : Nat) (0 : Nat)), ((13 : Nat), .lit .i64 (0 : Int))], heap := [((22 : Nat), .arr (3 : Nat) Kd.int (y_1.s.st ++ [(1 : Int)]) y), ((7 : Nat), .cells (28 : Nat) [.int .i64 y_1.k, .int .i64 y_1.v, .int .i64 (wR y_1.w), .int .i64 (↑y_1.s.st.length : Int)]), ((6 : Nat), .cells (28 : Nat) [.lit .i64 (0 : Int), .lit .i64 (0 : Int), .lit .i64 (0 : Int), .lit .i64 (0 : Int)]), ((0 : Nat), .cells (48 : Nat) [.int .i64 y_1.s.n, .int .i64 y_1.s.seed, .sl false (1 : Nat) (0 : Nat) (4 : Nat) y_1.s.L.length (y_1.s.L.length + y_1.2), .sl false (22 : Nat) (0 : Nat) (1 : Nat) (y_1.s.st.length + (1 : Nat)) (y_1.s.st.length + (1 : Nat) + y)]), ((1 : Nat), .arr (28 : Nat) Kd.ent y_1.s.L y_1.2)], nx := (24 : Nat), nt := (101 : Nat), tl := [(21 : Nat), (0 : Nat), (2 : Nat), (7 : Nat), (0 : Nat), (1 : Nat), (2 : Nat), (3 : Nat), (4 : Nat), (5 : Nat), (6 : Nat), (7 : Nat), (8 : Nat), (9 : Nat), (10 : Nat), (11 : Nat), (12 : Nat), (13 : Nat), (14 : Nat), (15 : Nat), (16 : Nat), (20 : Nat), (21 : Nat), (22 : Nat), (23 : Nat), (24 : Nat), (25 : Nat), (26 : Nat), (27 : Nat), (28 : Nat), (29 : Nat), (30 : Nat), (31 : Nat), (32 : Nat), (33 : Nat), (34 : Nat), (35 : Nat), (36 : Nat), (37 : Nat), (38 : Nat), (39 : Nat), (40 : Nat), (7 : Nat)] : St V } (fun p => PII p (0 : Nat)) y_2) (Out.all PRI fun y => Out.asm (y_2 y) (Out.all Nat fun y_3 => Out.asm ((fun p i => insP p.q.s.L p.q.k i) y y_3) (Out.need ((0 : Int) ≤ (↑y_3 : Int) ∧ (↑y_3 : Int) ≤ (↑(y.q.s.L.length + y.q.2) : Int)) (Out.need ((0 : Int) ≤ (↑y_3 : Int) ∧ (↑y_3 : Int) ≤ (↑y.q.s.L.length : Int)) (((Out.need ((0 : Nat) + y_3 ≤ y.q.s.L.length) (Out.need ((List.take y_3 (List.drop (0 : Nat) y.q.s.L)).length * (32 : Nat) ≤ (140737488355328 : Nat)) (Out.all Nat fun y_4 => Out.need ((0 : Nat) = (0 : Nat) ∧ (List.take y_3 (List.drop (0 : Nat) y.q.s.L)).length = (List.take y_3 (List.drop (0 : Nat) y.q.s.L)).length ∧ (List.take y_3 (List.drop (0 : Nat) y.q.s.L)).length + y_4 = (List.take y_3 (List.drop (0 : Nat) y.q.s.L)).length + y_4 ∧ ((List.take y_3 (List.drop (0 : Nat) y.q.s.L)).length + (1 : Nat)) * (32 : Nat) ≤ (140737488355328 : Nat)) (Out.all Nat fun y_5 => Out.need ((0 : Nat) + y_3 + (y.q.s.L.length - y_3) ≤ y.q.s.L.length) (Out.need ((0 : Nat) = (0 : Nat) ∧ (List.take y_3 (List.drop (0 : Nat) y.q.s.L)).length + (1 : Nat) = (List.take y_3 (List.drop (0 : Nat) y.q.s.L) ++ [{key := y.q.k, value := y.q.v, weight := wR y.q.w, node := (↑y.q.s.st.length : Int) : Ent }]).length ∧ (List.take y_3 (List.drop (0 : Nat) y.q.s.L)).length + (1 : Nat) + y_5 = (List.take y_3 (List.drop (0 : Nat) y.q.s.L) ++ [{key := y.q.k, value := y.q.v, weight := wR y.q.w, node := (↑y.q.s.st.length : Int) : Ent }]).length + y_5 ∧ ((List.take y_3 (List.drop (0 : Nat) y.q.s.L) ++ [{key := y.q.k, value := y.q.v, weight := wR y.q.w, node := (↑y.q.s.st.length : Int) : Ent }]).length + (List.take (y.q.s.L.length - y_3) (List.drop ((0 : Nat) + y_3) y.q.s.L)).length) * (32 : Nat) ≤ (140737488355328 : Nat)) (Out.all Nat fun y_6 => Out.fin (.tup [.agg [.int .i64 y.q.k, .int .i64 y.q.v, .int .i64 (wR y.q.w), .int .i64 (↑y.q.s.st.length : Int)], .ff]) [((30 : Nat), .arr (28 : Nat) Kd.ent (List.take y_3 (List.drop (0 : Nat) y.q.s.L) ++ [{key := y.q.k, value := y.q.v, weight := wR y.q.w, node := (↑y.q.s.st.length : Int) : Ent }] ++ List.take (y.q.s.L.length - y_3) (List.drop ((0 : Nat) + y_3) y.q.s.L)) y_6), ((28 : Nat), .cells (28 : Nat) [.int .i64 y.q.k, .int .i64 y.q.v, .int .i64 (wR y.q.w), .int .i64 (↑y.q.s.st.length : Int)]), ((26 : Nat), .cells (28 : Nat) []), ((22 : Nat), .arr (3 : Nat) Kd.int (y.q.s.st ++ [(1 : Int)]) y.2), ((7 : Nat), .cells (28 : Nat) [.int .i64 y.q.k, .int .i64 y.q.v, .int .i64 (wR y.q.w), .int .i64 (↑y.q.s.st.length : Int)]), ((6 : Nat), .cells (28 : Nat) [.int .i64 y.q.k, .int .i64 y.q.v, .int .i64 (wR y.q.w), .int .i64 (↑y.q.s.st.length : Int)]), ((0 : Nat), .cells (48 : Nat) [.int .i64 y.q.s.n, .int .i64 y.q.s.seed, .sl false (30 : Nat) (0 : Nat) (4 : Nat) ((List.take y_3 (List.drop (0 : Nat) y.q.s.L) ++ [{key := y.q.k, value := y.q.v, weight := wR y.q.w, node := (↑y.q.s.st.length : Int) : Ent }]).length + (List.take (y.q.s.L.length - y_3) (List.drop ((0 : Nat) + y_3) y.q.s.L)).length) ((List.take y_3 (List.drop (0 : Nat) y.q.s.L) ++ [{key := y.q.k, value := y.q.v, weight := wR y.q.w, node := (↑y.q.s.st.length : Int) : Ent }]).length + (List.take (y.q.s.L.length - y_3) (List.drop ((0 : Nat) + y_3) y.q.s.L)).length + y_6), .sl false (22 : Nat) (0 : Nat) (1 : Nat) (y.q.s.st.length + (1 : Nat)) (y.q.s.st.length + (1 : Nat) + y.2)]), ((1 : Nat), .arr (28 : Nat) Kd.ent y.q.s.L y.q.2)] (33 : Nat))))))).both (Out.need ((0 : Nat) + y_3 ≤ y.q.s.L.length) (Out.need ((List.take y_3 (List.drop (0 : Nat) y.q.s.L)).length * (32 : Nat) ≤ (140737488355328 : Nat)) (Out.all Nat fun y_4 => Out.need ((0 : Nat) = (0 : Nat) ∧ (List.take y_3 (List.drop (0 : Nat) y.q.s.L)).length = (List.take y_3 (List.drop (0 : Nat) y.q.s.L)).length ∧ (List.take y_3 (List.drop (0 : Nat) y.q.s.L)).length + y_4 = (List.take y_3 (List.drop (0 : Nat) y.q.s.L)).length + y_4 ∧ ((List.take y_3 (List.drop (0 : Nat) y.q.s.L)).length + (1 : Nat)) * (32 : Nat) ≤ (140737488355328 : Nat)) (Out.all Nat fun y_5 => Out.need ((0 : Nat) + y_3 + (y.q.s.L.length - y_3) ≤ y.q.s.L.length) (Out.need ((0 : Nat) = (0 : Nat) ∧ (List.take y_3 (List.drop (0 : Nat) y.q.s.L)).length + (1 : Nat) = (List.take y_3 (List.drop (0 : Nat) y.q.s.L) ++ [{key := y.q.k, value := y.q.v, weight := wR y.q.w, node := (↑y.q.s.st.length : Int) : Ent }]).length ∧ (List.take y_3 (List.drop (0 : Nat) y.q.s.L)).length + (1 : Nat) + y_5 = (List.take y_3 (List.drop (0 : Nat) y.q.s.L) ++ [{key := y.q.k, value := y.q.v, weight := wR y.q.w, node := (↑y.q.s.st.length : Int) : Ent }]).length + y_5 ∧ ((List.take y_3 (List.drop (0 : Nat) y.q.s.L) ++ [{key := y.q.k, value := y.q.v, weight := wR y.q.w, node := (↑y.q.s.st.length : Int) : Ent }]).length + (List.take (y.q.s.L.length - y_3) (List.drop ((0 : Nat) + y_3) y.q.s.L)).length) * (32 : Nat) ≤ (140737488355328 : Nat)) (Out.all Nat fun y_6 => Out.fin (.tup [.agg [.int .i64 y.q.k, .int .i64 y.q.v, .int .i64 (wR y.q.w), .int .i64 (↑y.q.s.st.length : Int)], .ff]) [((30 : Nat), .arr (28 : Nat) Kd.ent (List.take y_3 (List.drop (0 : Nat) y.q.s.L) ++ [{key := y.q.k, value := y.q.v, weight := wR y.q.w, node := (↑y.q.s.st.length : Int) : Ent }] ++ List.take (y.q.s.L.length - y_3) (List.drop ((0 : Nat) + y_3) y.q.s.L)) y_6), ((27 : Nat), .cells (28 : Nat) [.int .i64 y.q.k, .int .i64 y.q.v, .int .i64 (wR y.q.w), .int .i64 (↑y.q.s.st.length : Int)]), ((26 : Nat), .cells (28 : Nat) []), ((22 : Nat), .arr (3 : Nat) Kd.int (y.q.s.st ++ [(1 : Int)]) y.2), ((7 : Nat), .cells (28 : Nat) [.int .i64 y.q.k, .int .i64 y.q.v, .int .i64 (wR y.q.w), .int .i64 (↑y.q.s.st.length : Int)]), ((6 : Nat), .cells (28 : Nat) [.int .i64 y.q.k, .int .i64 y.q.v, .int .i64 (wR y.q.w), .int .i64 (↑y.q.s.st.length : Int)]), ((0 : Nat), .cells (48 : Nat) [.int .i64 y.q.s.n, .int .i64 y.q.s.seed, .sl false (30 : Nat) (0 : Nat) (4 : Nat) ((List.take y_3 (List.drop (0 : Nat) y.q.s.L) ++ [{key := y.q.k, value := y.q.v, weight := wR y.q.w, node := (↑y.q.s.st.length : Int) : Ent }]).length + (List.take (y.q.s.L.length - y_3) (List.drop ((0 : Nat) + y_3) y.q.s.L)).length) ((List.take y_3 (List.drop (0 : Nat) y.q.s.L) ++ [{key := y.q.k, value := y.q.v, weight := wR y.q.w, node := (↑y.q.s.st.length : Int) : Ent }]).length + (List.take (y.q.s.L.length - y_3) (List.drop ((0 : Nat) + y_3) y.q.s.L)).length + y_6), .sl false (22 : Nat) (0 : Nat) (1 : Nat) (y.q.s.st.length + (1 : Nat)) (y.q.s.st.length + (1 : Nat) + y.2)]), ((1 : Nat), .arr (28 : Nat) Kd.ent y.q.s.L y.q.2)] (33 : Nat)))))))).both (Out.need ((0 : Nat) + y_3 ≤ y.q.s.L.length) (Out.need ((List.take y_3 (List.drop (0 : Nat) y.q.s.L)).length * (32 : Nat) ≤ (140737488355328 : Nat)) (Out.all Nat fun y_4 => Out.need ((0 : Nat) = (0 : Nat) ∧ (List.take y_3 (List.drop (0 : Nat) y.q.s.L)).length = (List.take y_3 (List.drop (0 : Nat) y.q.s.L)).length ∧ (List.take y_3 (List.drop (0 : Nat) y.q.s.L)).length + y_4 = (List.take y_3 (List.drop (0 : Nat) y.q.s.L)).length + y_4 ∧ ((List.take y_3 (List.drop (0 : Nat) y.q.s.L)).length + (1 : Nat)) * (32 : Nat) ≤ (140737488355328 : Nat)) (Out.all Nat fun y_5 => Out.need ((0 : Nat) + y_3 + (y.q.s.L.length - y_3) ≤ y.q.s.L.length) (Out.need ((0 : Nat) = (0 : Nat) ∧ (List.take y_3 (List.drop (0 : Nat) y.q.s.L)).length + (1 : Nat) = (List.take y_3 (List.drop (0 : Nat) y.q.s.L) ++ [{key := y.q.k, value := y.q.v, weight := wR y.q.w, node := (↑y.q.s.st.length : Int) : Ent }]).length ∧ (List.take y_3 (List.drop (0 : Nat) y.q.s.L)).length + (1 : Nat) + y_5 = (List.take y_3 (List.drop (0 : Nat) y.q.s.L) ++ [{key := y.q.k, value := y.q.v, weight := wR y.q.w, node := (↑y.q.s.st.length : Int) : Ent }]).length + y_5 ∧ ((List.take y_3 (List.drop (0 : Nat) y.q.s.L) ++ [{key := y.q.k, value := y.q.v, weight := wR y.q.w, node := (↑y.q.s.st.length : Int) : Ent }]).length + (List.take (y.q.s.L.length - y_3) (List.drop ((0 : Nat) + y_3) y.q.s.L)).length) * (32 : Nat) ≤ (140737488355328 : Nat)) (Out.all Nat fun y_6 => Out.fin (.tup [.agg [.int .i64 y.q.k, .int .i64 y.q.v, .int .i64 (wR y.q.w), .int .i64 (↑y.q.s.st.length : Int)], .ff]) [((30 : Nat), .arr (28 : Nat) Kd.ent (List.take y_3 (List.drop (0 : Nat) y.q.s.L) ++ [{key := y.q.k, value := y.q.v, weight := wR y.q.w, node := (↑y.q.s.st.length : Int) : Ent }] ++ List.take (y.q.s.L.length - y_3) (List.drop ((0 : Nat) + y_3) y.q.s.L)) y_6), ((27 : Nat), .cells (28 : Nat) []), ((26 : Nat), .cells (28 : Nat) [.int .i64 y.q.k, .int .i64 y.q.v, .int .i64 (wR y.q.w), .int .i64 (↑y.q.s.st.length : Int)]), ((22 : Nat), .arr (3 : Nat) Kd.int (y.q.s.st ++ [(1 : Int)]) y.2), ((7 : Nat), .cells (28 : Nat) [.int .i64 y.q.k, .int .i64 y.q.v, .int .i64 (wR y.q.w), .int .i64 (↑y.q.s.st.length : Int)]), ((6 : Nat), .cells (28 : Nat) [.int .i64 y.q.k, .int .i64 y.q.v, .int .i64 (wR y.q.w), .int .i64 (↑y.q.s.st.length : Int)]), ((0 : Nat), .cells (48 : Nat) [.int .i64 y.q.s.n, .int .i64 y.q.s.seed, .sl false (30 : Nat) (0 : Nat) (4 : Nat) ((List.take y_3 (List.drop (0 : Nat) y.q.s.L) ++ [{key := y.q.k, value := y.q.v, weight := wR y.q.w, node := (↑y.q.s.st.length : Int) : Ent }]).length + (List.take (y.q.s.L.length - y_3) (List.drop ((0 : Nat) + y_3) y.q.s.L)).length) ((List.take y_3 (List.drop (0 : Nat) y.q.s.L) ++ [{key := y.q.k, value := y.q.v, weight := wR y.q.w, node := (↑y.q.s.st.length : Int) : Ent }]).length + (List.take (y.q.s.L.length - y_3) (List.drop ((0 : Nat) + y_3) y.q.s.L)).length + y_6), .sl false (22 : Nat) (0 : Nat) (1 : Nat) (y.q.s.st.length + (1 : Nat)) (y.q.s.st.length + (1 : Nat) + y.2)]), ((1 : Nat), .arr (28 : Nat) Kd.ent y.q.s.L y.q.2)] (33 : Nat)))))))))))))))).both (Out.all Nat fun y => Out.asm ((fun q i => firstAt q.s.L q.k i) y_1 y) (Out.ite (decide ((↑y : Int) ≥ (0 : Int))) (Out.need ((0 : Int) ≤ (↑y : Int) ∧ (↑y : Int) < (↑y_1.s.L.length : Int)) (Out.need ((0 : Nat) + y < y_1.s.L.length) (Out.need ((0 : Int) ≤ (↑y : Int) ∧ (↑y : Int) < (↑y_1.s.L.length : Int)) (Out.need ((0 : Nat) + y < y_1.s.L.length) (Out.fin (.tup [.agg [.int .i64 (y_1.s.L.getD ((0 : Nat) + y) (V.enc Kd.ent).dflt).key, .int .i64 (y_1.s.L.getD ((0 : Nat) + y) (V.enc Kd.ent).dflt).value, .int .i64 (y_1.s.L.getD ((0 : Nat) + y) (V.enc Kd.ent).dflt).weight, .int .i64 (y_1.s.L.getD ((0 : Nat) + y) (V.enc Kd.ent).dflt).node], .tt]) [((20 : Nat), .cells (28 : Nat) [.int .i64 (y_1.s.L.getD ((0 : Nat) + y) (V.enc Kd.ent).dflt).key, .int .i64 (y_1.s.L.getD ((0 : Nat) + y) (V.enc Kd.ent).dflt).value, .int .i64 (y_1.s.L.getD ((0 : Nat) + y) (V.enc Kd.ent).dflt).weight, .int .i64 (y_1.s.L.getD ((0 : Nat) + y) (V.enc Kd.ent).dflt).node]), ((7 : Nat), .cells (28 : Nat) [.int .i64 y_1.k, .int .i64 y_1.v, .int .i64 (wR y_1.w), .int .i64 (y_1.s.L.getD ((0 : Nat) + y) (V.enc Kd.ent).dflt).node]), ((6 : Nat), .cells (28 : Nat) [.int .i64 (y_1.s.L.getD ((0 : Nat) + y) (V.enc Kd.ent).dflt).key, .int .i64 (y_1.s.L.getD ((0 : Nat) + y) (V.enc Kd.ent).dflt).value, .int .i64 (y_1.s.L.getD ((0 : Nat) + y) (V.enc Kd.ent).dflt).weight, .int .i64 (y_1.s.L.getD ((0 : Nat) + y) (V.enc Kd.ent).dflt).node]), ((0 : Nat), .cells (48 : Nat) [.int .i64 y_1.s.n, .int .i64 y_1.s.seed, .sl false (1 : Nat) (0 : Nat) (4 : Nat) y_1.s.L.length (y_1.s.L.length + y_1.2), .sl false (2 : Nat) (0 : Nat) (1 : Nat) y_1.s.st.length (y_1.s.st.length + y_1.3)]), ((1 : Nat), .arr (28 : Nat) Kd.ent (y_1.s.L.set ((0 : Nat) + y) {key := y_1.k, value := y_1.v, weight := wR y_1.w, node := (y_1.s.L.getD ((0 : Nat) + y) (V.enc Kd.ent).dflt).node : Ent }) y_1.2), ((2 : Nat), .arr (3 : Nat) Kd.int y_1.s.st y_1.3)] (25 : Nat)))))) (Out.need ((0 : Nat) = (0 : Nat) ∧ y_1.s.st.length = y_1.s.st.length ∧ y_1.s.st.length + y_1.3 = y_1.s.st.length + y_1.3 ∧ (y_1.s.st.length + (1 : Nat)) * (8 : Nat) ≤ (140737488355328 : Nat)) (Out.all Nat fun y => Out.need (LoopFor Try.prog (41 : Nat) (0 : Nat) (loopOf Try.f41 (0 : Nat)) PIL) (Out.ex (PRI → Prop) fun y_2 => Out.need ((24 : Nat) ≤ (26 : Nat) ∧ SImp (26 : Nat) {env := [((0 : Nat), .ptr (0 : Nat) (0 : Nat)), ((1 : Nat), .int .i64 k), ((8 : Nat), .ptr (6 : Nat) (0 : Nat)), ((9 : Nat), .ff), ((10 : Nat), .ptr (7 : Nat) (0 : Nat)), ((13 : Nat), .lit .i64 (0 : Int))], heap := [((22 : Nat), .arr (3 : Nat) Kd.int (y_1.s.st ++ [(1 : Int)]) y), ((7 : Nat), .cells (28 : Nat) [.int .i64 y_1.k, .int .i64 y_1.v, .int .i64 (wR y_1.w), .int .i64 (↑y_1.s.st.length : Int)]), ((6 : Nat), .cells (28 : Nat) [.lit .i64 (0 : Int), .lit .i64 (0 : Int), .lit .i64 (0 : Int), .lit .i64 (0 : Int)]), ((0 : Nat), .cells (48 : Nat) [.int .i64 y_1.s.n, .int .i64 y_1.s.seed, .sl false (1 : Nat) (0 : Nat) (4 : Nat) y_1.s.L.length (y_1.s.L.length + y_1.2), .sl false (22 : Nat) (0 : Nat) (1 : Nat) (y_1.s.st.length + (1 : Nat)) (y_1.s.st.length + (1 : Nat) + y)]), ((1 : Nat), .arr (28 : Nat) Kd.ent y_1.s.L y_1.2)], nx := (24 : Nat), nt := (101 : Nat), tl := [(21 : Nat), (0 : Nat), (2 : Nat), (7 : Nat), (0 : Nat), (1 : Nat), (2 : Nat), (3 : Nat), (4 : Nat), (5 : Nat), (6 : Nat), (7 : Nat), (8 : Nat), (9 : Nat), (10 : Nat), (11 : Nat), (12 : Nat), (13 : Nat), (14 : Nat), (15 : Nat), (16 : Nat), (20 : Nat), (21 : Nat), (22 : Nat), (23 : Nat), (24 : Nat), (25 : Nat), (26 : Nat), (27 : Nat), (28 : Nat), (29 : Nat), (30 : Nat), (31 : Nat), (32 : Nat), (33 : Nat), (34 : Nat), (35 : Nat), (36 : Nat), (37 : Nat), (38 : Nat), (39 : Nat), (40 : Nat), (7 : Nat)] : St V } (fun p => PII p (0 : Nat)) y_2) (Out.all PRI fun y => Out.asm (y_2 y) (Out.all Nat fun y_3 => Out.asm ((fun p i => insP p.q.s.L p.q.k i) y y_3) (Out.need ((0 : Int) ≤ (↑y_3 : Int) ∧ (↑y_3 : Int) ≤ (↑(y.q.s.L.length + y.q.2) : Int)) (Out.need ((0 : Int) ≤ (↑y_3 : Int) ∧ (↑y_3 : Int) ≤ (↑y.q.s.L.length : Int)) (((Out.need ((0 : Nat) + y_3 ≤ y.q.s.L.length) (Out.need ((List.take y_3 (List.drop (0 : Nat) y.q.s.L)).length * (32 : Nat) ≤ (140737488355328 : Nat)) (Out.all Nat fun y_4 => Out.need ((0 : Nat) = (0 : Nat) ∧ (List.take y_3 (List.drop (0 : Nat) y.q.s.L)).length = (List.take y_3 (List.drop (0 : Nat) y.q.s.L)).length ∧ (List.take y_3 (List.drop (0 : Nat) y.q.s.L)).length + y_4 = (List.take y_3 (List.drop (0 : Nat) y.q.s.L)).length + y_4 ∧ ((List.take y_3 (List.drop (0 : Nat) y.q.s.L)).length + (1 : Nat)) * (32 : Nat) ≤ (140737488355328 : Nat)) (Out.all Nat fun y_5 => Out.need ((0 : Nat) + y_3 + (y.q.s.L.length - y_3) ≤ y.q.s.L.length) (Out.need ((0 : Nat) = (0 : Nat) ∧ (List.take y_3 (List.drop (0 : Nat) y.q.s.L)).length + (1 : Nat) = (List.take y_3 (List.drop (0 : Nat) y.q.s.L) ++ [{key := y.q.k, value := y.q.v, weight := wR y.q.w, node := (↑y.q.s.st.length : Int) : Ent }]).length ∧ (List.take y_3 (List.drop (0 : Nat) y.q.s.L)).length + (1 : Nat) + y_5 = (List.take y_3 (List.drop (0 : Nat) y.q.s.L) ++ [{key := y.q.k, value := y.q.v, weight := wR y.q.w, node := (↑y.q.s.st.length : Int) : Ent }]).length + y_5 ∧ ((List.take y_3 (List.drop (0 : Nat) y.q.s.L) ++ [{key := y.q.k, value := y.q.v, weight := wR y.q.w, node := (↑y.q.s.st.length : Int) : Ent }]).length + (List.take (y.q.s.L.length - y_3) (List.drop ((0 : Nat) + y_3) y.q.s.L)).length) * (32 : Nat) ≤ (140737488355328 : Nat)) (Out.all Nat fun y_6 => Out.fin (.tup [.agg [.int .i64 y.q.k, .int .i64 y.q.v, .int .i64 (wR y.q.w), .int .i64 (↑y.q.s.st.length : Int)], .ff]) [((30 : Nat), .arr (28 : Nat) Kd.ent (List.take y_3 (List.drop (0 : Nat) y.q.s.L) ++ [{key := y.q.k, value := y.q.v, weight := wR y.q.w, node := (↑y.q.s.st.length : Int) : Ent }] ++ List.take (y.q.s.L.length - y_3) (List.drop ((0 : Nat) + y_3) y.q.s.L)) y_6), ((28 : Nat), .cells (28 : Nat) [.int .i64 y.q.k, .int .i64 y.q.v, .int .i64 (wR y.q.w), .int .i64 (↑y.q.s.st.length : Int)]), ((26 : Nat), .cells (28 : Nat) []), ((22 : Nat), .arr (3 : Nat) Kd.int (y.q.s.st ++ [(1 : Int)]) y.2), ((7 : Nat), .cells (28 : Nat) [.int .i64 y.q.k, .int .i64 y.q.v, .int .i64 (wR y.q.w), .int .i64 (↑y.q.s.st.length : Int)]), ((6 : Nat), .cells (28 : Nat) [.int .i64 y.q.k, .int .i64 y.q.v, .int .i64 (wR y.q.w), .int .i64 (↑y.q.s.st.length : Int)]), ((0 : Nat), .cells (48 : Nat) [.int .i64 y.q.s.n, .int .i64 y.q.s.seed, .sl false (30 : Nat) (0 : Nat) (4 : Nat) ((List.take y_3 (List.drop (0 : Nat) y.q.s.L) ++ [{key := y.q.k, value := y.q.v, weight := wR y.q.w, node := (↑y.q.s.st.length : Int) : Ent }]).length + (List.take (y.q.s.L.length - y_3) (List.drop ((0 : Nat) + y_3) y.q.s.L)).length) ((List.take y_3 (List.drop (0 : Nat) y.q.s.L) ++ [{key := y.q.k, value := y.q.v, weight := wR y.q.w, node := (↑y.q.s.st.length : Int) : Ent }]).length + (List.take (y.q.s.L.length - y_3) (List.drop ((0 : Nat) + y_3) y.q.s.L)).length + y_6), .sl false (22 : Nat) (0 : Nat) (1 : Nat) (y.q.s.st.length + (1 : Nat)) (y.q.s.st.length + (1 : Nat) + y.2)]), ((1 : Nat), .arr (28 : Nat) Kd.ent y.q.s.L y.q.2)] (33 : Nat))))))).both (Out.need ((0 : Nat) + y_3 ≤ y.q.s.L.length) (Out.need ((List.take y_3 (List.drop (0 : Nat) y.q.s.L)).length * (32 : Nat) ≤ (140737488355328 : Nat)) (Out.all Nat fun y_4 => Out.need ((0 : Nat) = (0 : Nat) ∧ (List.take y_3 (List.drop (0 : Nat) y.q.s.L)).length = (List.take y_3 (List.drop (0 : Nat) y.q.s.L)).length ∧ (List.take y_3 (List.drop (0 : Nat) y.q.s.L)).length + y_4 = (List.take y_3 (List.drop (0 : Nat) y.q.s.L)).length + y_4 ∧ ((List.take y_3 (List.drop (0 : Nat) y.q.s.L)).length + (1 : Nat)) * (32 : Nat) ≤ (140737488355328 : Nat)) (Out.all Nat fun y_5 => Out.need ((0 : Nat) + y_3 + (y.q.s.L.length - y_3) ≤ y.q.s.L.length) (Out.need ((0 : Nat) = (0 : Nat) ∧ (List.take y_3 (List.drop (0 : Nat) y.q.s.L)).length + (1 : Nat) = (List.take y_3 (List.drop (0 : Nat) y.q.s.L) ++ [{key := y.q.k, value := y.q.v, weight := wR y.q.w, node := (↑y.q.s.st.length : Int) : Ent }]).length ∧ (List.take y_3 (List.drop (0 : Nat) y.q.s.L)).length + (1 : Nat) + y_5 = (List.take y_3 (List.drop (0 : Nat) y.q.s.L) ++ [{key := y.q.k, value := y.q.v, weight := wR y.q.w, node := (↑y.q.s.st.length : Int) : Ent }]).length + y_5 ∧ ((List.take y_3 (List.drop (0 : Nat) y.q.s.L) ++ [{key := y.q.k, value := y.q.v, weight := wR y.q.w, node := (↑y.q.s.st.length : Int) : Ent }]).length + (List.take (y.q.s.L.length - y_3) (List.drop ((0 : Nat) + y_3) y.q.s.L)).length) * (32 : Nat) ≤ (140737488355328 : Nat)) (Out.all Nat fun y_6 => Out.fin (.tup [.agg [.int .i64 y.q.k, .int .i64 y.q.v, .int .i64 (wR y.q.w), .int .i64 (↑y.q.s.st.length : Int)], .ff]) [((30 : Nat), .arr (28 : Nat) Kd.ent (List.take y_3 (List.drop (0 : Nat) y.q.s.L) ++ [{key := y.q.k, value := y.q.v, weight := wR y.q.w, node := (↑y.q.s.st.length : Int) : Ent }] ++ List.take (y.q.s.L.length - y_3) (List.drop ((0 : Nat) + y_3) y.q.s.L)) y_6), ((27 : Nat), .cells (28 : Nat) [.int .i64 y.q.k, .int .i64 y.q.v, .int .i64 (wR y.q.w), .int .i64 (↑y.q.s.st.length : Int)]), ((26 : Nat), .cells (28 : Nat) []), ((22 : Nat), .arr (3 : Nat) Kd.int (y.q.s.st ++ [(1 : Int)]) y.2), ((7 : Nat), .cells (28 : Nat) [.int .i64 y.q.k, .int .i64 y.q.v, .int .i64 (wR y.q.w), .int .i64 (↑y.q.s.st.length : Int)]), ((6 : Nat), .cells (28 : Nat) [.int .i64 y.q.k, .int .i64 y.q.v, .int .i64 (wR y.q.w), .int .i64 (↑y.q.s.st.length : Int)]), ((0 : Nat), .cells (48 : Nat) [.int .i64 y.q.s.n, .int .i64 y.q.s.seed, .sl false (30 : Nat) (0 : Nat) (4 : Nat) ((List.take y_3 (List.drop (0 : Nat) y.q.s.L) ++ [{key := y.q.k, value := y.q.v, weight := wR y.q.w, node := (↑y.q.s.st.length : Int) : Ent }]).length + (List.take (y.q.s.L.length - y_3) (List.drop ((0 : Nat) + y_3) y.q.s.L)).length) ((List.take y_3 (List.drop (0 : Nat) y.q.s.L) ++ [{key := y.q.k, value := y.q.v, weight := wR y.q.w, node := (↑y.q.s.st.length : Int) : Ent }]).length + (List.take (y.q.s.L.length - y_3) (List.drop ((0 : Nat) + y_3) y.q.s.L)).length + y_6), .sl false (22 : Nat) (0 : Nat) (1 : Nat) (y.q.s.st.length + (1 : Nat)) (y.q.s.st.length + (1 : Nat) + y.2)]), ((1 : Nat), .arr (28 : Nat) Kd.ent y.q.s.L y.q.2)] (33 : Nat)))))))).both (Out.need ((0 : Nat) + y_3 ≤ y.q.s.L.length) (Out.need ((List.take y_3 (List.drop (0 : Nat) y.q.s.L)).length * (32 : Nat) ≤ (140737488355328 : Nat)) (Out.all Nat fun y_4 => Out.need ((0 : Nat) = (0 : Nat) ∧ (List.take y_3 (List.drop (0 : Nat) y.q.s.L)).length = (List.take y_3 (List.drop (0 : Nat) y.q.s.L)).length ∧ (List.take y_3 (List.drop (0 : Nat) y.q.s.L)).length + y_4 = (List.take y_3 (List.drop (0 : Nat) y.q.s.L)).length + y_4 ∧ ((List.take y_3 (List.drop (0 : Nat) y.q.s.L)).length + (1 : Nat)) * (32 : Nat) ≤ (140737488355328 : Nat)) (Out.all Nat fun y_5 => Out.need ((0 : Nat) + y_3 + (y.q.s.L.length - y_3) ≤ y.q.s.L.length) (Out.need ((0 : Nat) = (0 : Nat) ∧ (List.take y_3 (List.drop (0 : Nat) y.q.s.L)).length + (1 : Nat) = (List.take y_3 (List.drop (0 : Nat) y.q.s.L) ++ [{key := y.q.k, value := y.q.v, weight := wR y.q.w, node := (↑y.q.s.st.length : Int) : Ent }]).length ∧ (List.take y_3 (List.drop (0 : Nat) y.q.s.L)).length + (1 : Nat) + y_5 = (List.take y_3 (List.drop (0 : Nat) y.q.s.L) ++ [{key := y.q.k, value := y.q.v, weight := wR y.q.w, node := (↑y.q.s.st.length : Int) : Ent }]).length + y_5 ∧ ((List.take y_3 (List.drop (0 : Nat) y.q.s.L) ++ [{key := y.q.k, value := y.q.v, weight := wR y.q.w, node := (↑y.q.s.st.length : Int) : Ent }]).length + (List.take (y.q.s.L.length - y_3) (List.drop ((0 : Nat) + y_3) y.q.s.L)).length) * (32 : Nat) ≤ (140737488355328 : Nat)) (Out.all Nat fun y_6 => Out.fin (.tup [.agg [.int .i64 y.q.k, .int .i64 y.q.v, .int .i64 (wR y.q.w), .int .i64 (↑y.q.s.st.length : Int)], .ff]) [((30 : Nat), .arr (28 : Nat) Kd.ent (List.take y_3 (List.drop (0 : Nat) y.q.s.L) ++ [{key := y.q.k, value := y.q.v, weight := wR y.q.w, node := (↑y.q.s.st.length : Int) : Ent }] ++ List.take (y.q.s.L.length - y_3) (List.drop ((0 : Nat) + y_3) y.q.s.L)) y_6), ((27 : Nat), .cells (28 : Nat) []), ((26 : Nat), .cells (28 : Nat) [.int .i64 y.q.k, .int .i64 y.q.v, .int .i64 (wR y.q.w), .int .i64 (↑y.q.s.st.length : Int)]), ((22 : Nat), .arr (3 : Nat) Kd.int (y.q.s.st ++ [(1 : Int)]) y.2), ((7 : Nat), .cells (28 : Nat) [.int .i64 y.q.k, .int .i64 y.q.v, .int .i64 (wR y.q.w), .int .i64 (↑y.q.s.st.length : Int)]), ((6 : Nat), .cells (28 : Nat) [.int .i64 y.q.k, .int .i64 y.q.v, .int .i64 (wR y.q.w), .int .i64 (↑y.q.s.st.length : Int)]), ((0 : Nat), .cells (48 : Nat) [.int .i64 y.q.s.n, .int .i64 y.q.s.seed, .sl false (30 : Nat) (0 : Nat) (4 : Nat) ((List.take y_3 (List.drop (0 : Nat) y.q.s.L) ++ [{key := y.q.k, value := y.q.v, weight := wR y.q.w, node := (↑y.q.s.st.length : Int) : Ent }]).length + (List.take (y.q.s.L.length - y_3) (List.drop ((0 : Nat) + y_3) y.q.s.L)).length) ((List.take y_3 (List.drop (0 : Nat) y.q.s.L) ++ [{key := y.q.k, value := y.q.v, weight := wR y.q.w, node := (↑y.q.s.st.length : Int) : Ent }]).length + (List.take (y.q.s.L.length - y_3) (List.drop ((0 : Nat) + y_3) y.q.s.L)).length + y_6), .sl false (22 : Nat) (0 : Nat) (1 : Nat) (y.q.s.st.length + (1 : Nat)) (y.q.s.st.length + (1 : Nat) + y.2)]), ((1 : Nat), .arr (28 : Nat) Kd.ent y.q.s.L y.q.2)] (33 : Nat)))))))))))))))))))) := by kernel_rfl

theorem trev (q : PRF) (i : Nat) : runCode cfgRA 60 43 (loopOf Try.f43 0) (EVI q i) (stopT (trimSt [0, 1, 4, 5, 6] [0, 1, 2, 4, 26])) = Out.ite (decide ((↑i : Int) < (↑q.s.L.length : Int))) (Out.need ((0 : Int) ≤ (↑i : Int) ∧ (↑i : Int) < (↑q.s.L.length : Int)) (Out.need ((0 : Nat) + i < q.s.L.length) (Out.ite ((q.s.L.getD ((0 : Nat) + i) (V.enc Kd.ent).dflt).node == q.k) (Out.need ((0 : Int) ≤ (↑i : Int) ∧ (↑i : Int) < (↑q.s.L.length : Int)) (Out.need ((0 : Nat) + i < q.s.L.length) (Out.need ((0 : Int) ≤ (q.s.L.getD ((0 : Nat) + i) (V.enc Kd.ent).dflt).node ∧ (q.s.L.getD ((0 : Nat) + i) (V.enc Kd.ent).dflt).node < (↑q.s.st.length : Int)) (Out.need ((0 : Nat) + (q.s.L.getD ((0 : Nat) + i) (V.enc Kd.ent).dflt).node.toNat < q.s.st.length) (Out.need ((0 : Int) ≤ (↑i : Int) ∧ (↑i : Int) ≤ (↑(q.s.L.length + q.2) : Int)) (Out.need ((0 : Int) ≤ IntKind.i64.wrap ((↑i : Int) + (1 : Int)) ∧ IntKind.i64.wrap ((↑i : Int) + (1 : Int)) ≤ (↑q.s.L.length : Int)) (Out.need ((0 : Nat) + i ≤ q.s.L.length) (Out.need ((List.take i (List.drop (0 : Nat) q.s.L)).length * (32 : Nat) ≤ (140737488355328 : Nat)) (Out.all Nat fun y => Out.need ((0 : Nat) + (IntKind.i64.wrap ((↑i : Int) + (1 : Int))).toNat + (q.s.L.length - (IntKind.i64.wrap ((↑i : Int) + (1 : Int))).toNat) ≤ q.s.L.length) (Out.need ((0 : Nat) = (0 : Nat) ∧ (List.take i (List.drop (0 : Nat) q.s.L)).length = (List.take i (List.drop (0 : Nat) q.s.L)).length ∧ (List.take i (List.drop (0 : Nat) q.s.L)).length + y = (List.take i (List.drop (0 : Nat) q.s.L)).length + y ∧ ((List.take i (List.drop (0 : Nat) q.s.L)).length + (List.take (q.s.L.length - (IntKind.i64.wrap ((↑i : Int) + (1 : Int))).toNat) (List.drop ((0 : Nat) + (IntKind.i64.wrap ((↑i : Int) + (1 : Int))).toNat) q.s.L)).length) * (32 : Nat) ≤ (140737488355328 : Nat)) (Out.all Nat fun y => Out.stop EX.rt {env := [((0 : Nat), .ptr (0 : Nat) (0 : Nat)), ((1 : Nat), .int .i64 q.k), ((4 : Nat), .ptr (4 : Nat) (0 : Nat)), ((5 : Nat), .tt), ((6 : Nat), .int .i64 (↑i : Int))], heap := [((26 : Nat), .arr (28 : Nat) Kd.ent (List.take i (List.drop (0 : Nat) q.s.L) ++ List.take (q.s.L.length - (IntKind.i64.wrap ((↑i : Int) + (1 : Int))).toNat) (List.drop ((0 : Nat) + (IntKind.i64.wrap ((↑i : Int) + (1 : Int))).toNat) q.s.L)) y), ((4 : Nat), .cells (28 : Nat) [.int .i64 (q.s.L.getD ((0 : Nat) + i) (V.enc Kd.ent).dflt).key, .int .i64 (q.s.L.getD ((0 : Nat) + i) (V.enc Kd.ent).dflt).value, .int .i64 (q.s.L.getD ((0 : Nat) + i) (V.enc Kd.ent).dflt).weight, .int .i64 (q.s.L.getD ((0 : Nat) + i) (V.enc Kd.ent).dflt).node]), ((0 : Nat), .cells (48 : Nat) [.int .i64 q.s.n, .int .i64 q.s.seed, .sl false (26 : Nat) (0 : Nat) (4 : Nat) ((List.take i (List.drop (0 : Nat) q.s.L)).length + (List.take (q.s.L.length - (IntKind.i64.wrap ((↑i : Int) + (1 : Int))).toNat) (List.drop ((0 : Nat) + (IntKind.i64.wrap ((↑i : Int) + (1 : Int))).toNat) q.s.L)).length) ((List.take i (List.drop (0 : Nat) q.s.L)).length + (List.take (q.s.L.length - (IntKind.i64.wrap ((↑i : Int) + (1 : Int))).toNat) (List.drop ((0 : Nat) + (IntKind.i64.wrap ((↑i : Int) + (1 : Int))).toNat) q.s.L)).length + y), .sl false (2 : Nat) (0 : Nat) (1 : Nat) q.s.st.length (q.s.st.length + q.3)]), ((1 : Nat), .arr (28 : Nat) Kd.ent q.s.L q.2), ((2 : Nat), .arr (3 : Nat) Kd.int (q.s.st.set ((0 : Nat) + (q.s.L.getD ((0 : Nat) + i) (V.enc Kd.ent).dflt).node.toNat) (3 : Int)) q.3)], nx := (30 : Nat), nt := (30 : Nat), tl := [(24 : Nat), (21 : Nat), (20 : Nat), (4 : Nat), (20 : Nat), (0 : Nat), (25 : Nat), (2 : Nat), (21 : Nat), (0 : Nat), (1 : Nat), (2 : Nat), (3 : Nat), (4 : Nat), (5 : Nat), (6 : Nat), (7 : Nat), (8 : Nat), (9 : Nat), (10 : Nat), (11 : Nat), (12 : Nat), (13 : Nat), (14 : Nat), (15 : Nat), (16 : Nat), (20 : Nat), (21 : Nat), (22 : Nat), (23 : Nat), (24 : Nat), (25 : Nat), (26 : Nat), (27 : Nat), (28 : Nat), (29 : Nat), (30 : Nat), (31 : Nat), (32 : Nat), (33 : Nat), (34 : Nat), (35 : Nat), (36 : Nat), (37 : Nat), (38 : Nat), (39 : Nat), (40 : Nat)] : St V }))))))))))) (Out.stop EX.nx {env := [((0 : Nat), .ptr (0 : Nat) (0 : Nat)), ((1 : Nat), .int .i64 q.k), ((4 : Nat), .ptr (4 : Nat) (0 : Nat)), ((5 : Nat), .ff), ((6 : Nat), .int .i64 (IntKind.i64.wrap ((↑i : Int) + (1 : Int))))], heap := [((4 : Nat), .cells (28 : Nat) [.lit .i64 (0 : Int), .lit .i64 (0 : Int), .lit .i64 (0 : Int), .lit .i64 (0 : Int)]), ((0 : Nat), .cells (48 : Nat) [.int .i64 q.s.n, .int .i64 q.s.seed, .sl false (1 : Nat) (0 : Nat) (4 : Nat) q.s.L.length (q.s.L.length + q.2), .sl false (2 : Nat) (0 : Nat) (1 : Nat) q.s.st.length (q.s.st.length + q.3)]), ((1 : Nat), .arr (28 : Nat) Kd.ent q.s.L q.2), ((2 : Nat), .arr (3 : Nat) Kd.int q.s.st q.3)], nx := (20 : Nat), nt := (30 : Nat), tl := [(0 : Nat), (1 : Nat), (2 : Nat), (3 : Nat), (4 : Nat), (5 : Nat), (6 : Nat), (7 : Nat), (8 : Nat), (9 : Nat), (10 : Nat), (11 : Nat), (12 : Nat), (13 : Nat), (14 : Nat), (15 : Nat), (16 : Nat), (20 : Nat), (21 : Nat), (22 : Nat), (23 : Nat), (24 : Nat), (25 : Nat), (26 : Nat), (27 : Nat), (28 : Nat), (29 : Nat), (30 : Nat), (31 : Nat), (32 : Nat), (33 : Nat), (34 : Nat), (35 : Nat), (36 : Nat), (37 : Nat), (38 : Nat), (39 : Nat), (40 : Nat)] : St V })))) (Out.stop (EX.ex (0 : Nat)) {env := [((0 : Nat), .ptr (0 : Nat) (0 : Nat)), ((1 : Nat), .int .i64 q.k), ((4 : Nat), .ptr (4 : Nat) (0 : Nat)), ((5 : Nat), .ff), ((6 : Nat), .int .i64 (↑i : Int))], heap := [((4 : Nat), .cells (28 : Nat) [.lit .i64 (0 : Int), .lit .i64 (0 : Int), .lit .i64 (0 : Int), .lit .i64 (0 : Int)]), ((0 : Nat), .cells (48 : Nat) [.int .i64 q.s.n, .int .i64 q.s.seed, .sl false (1 : Nat) (0 : Nat) (4 : Nat) q.s.L.length (q.s.L.length + q.2), .sl false (2 : Nat) (0 : Nat) (1 : Nat) q.s.st.length (q.s.st.length + q.3)]), ((1 : Nat), .arr (28 : Nat) Kd.ent q.s.L q.2), ((2 : Nat), .arr (3 : Nat) Kd.int q.s.st q.3)], nx := (20 : Nat), nt := (30 : Nat), tl := [(0 : Nat), (1 : Nat), (2 : Nat), (3 : Nat), (4 : Nat), (5 : Nat), (6 : Nat), (7 : Nat), (8 : Nat), (9 : Nat), (10 : Nat), (11 : Nat), (12 : Nat), (13 : Nat), (14 : Nat), (15 : Nat), (16 : Nat), (20 : Nat), (21 : Nat), (22 : Nat), (23 : Nat), (24 : Nat), (25 : Nat), (26 : Nat), (27 : Nat), (28 : Nat), (29 : Nat), (30 : Nat), (31 : Nat), (32 : Nat), (33 : Nat), (34 : Nat), (35 : Nat), (36 : Nat), (37 : Nat), (38 : Nat), (39 : Nat), (40 : Nat)] : St V }) := by kernel_rfl

theorem trwg (q : PRF) (z : Nat × Int) : runCode cfgRA 60 27 (loopOf Try.f27 0) (WGI q z) (stopT (trimSt [0, 3, 4] [0, 1, 2])) = Out.ite (decide ((↑z.1 : Int) < (↑q.s.L.length : Int))) (Out.need ((0 : Int) ≤ (↑z.1 : Int) ∧ (↑z.1 : Int) < (↑q.s.L.length : Int)) (Out.need ((0 : Nat) + z.1 < q.s.L.length) (Out.stop EX.nx {env := [((0 : Nat), .ptr (0 : Nat) (0 : Nat)), ((3 : Nat), .int .i64 (IntKind.i64.wrap (z.snd + (q.s.L.getD ((0 : Nat) + z.1) (V.enc Kd.ent).dflt).weight))), ((4 : Nat), .int .i64 (IntKind.i64.wrap ((↑z.1 : Int) + (1 : Int))))], heap := [((0 : Nat), .cells (48 : Nat) [.int .i64 q.s.n, .int .i64 q.s.seed, .sl false (1 : Nat) (0 : Nat) (4 : Nat) q.s.L.length (q.s.L.length + q.2), .sl false (2 : Nat) (0 : Nat) (1 : Nat) q.s.st.length (q.s.st.length + q.3)]), ((1 : Nat), .arr (28 : Nat) Kd.ent q.s.L q.2), ((2 : Nat), .arr (3 : Nat) Kd.int q.s.st q.3)], nx := (20 : Nat), nt := (25 : Nat), tl := [(0 : Nat), (1 : Nat), (2 : Nat), (3 : Nat), (4 : Nat), (5 : Nat), (6 : Nat), (7 : Nat), (8 : Nat), (9 : Nat), (10 : Nat), (11 : Nat), (12 : Nat), (13 : Nat), (14 : Nat), (15 : Nat), (16 : Nat), (20 : Nat), (21 : Nat), (22 : Nat), (23 : Nat), (24 : Nat), (25 : Nat), (26 : Nat), (27 : Nat), (28 : Nat), (29 : Nat), (30 : Nat), (31 : Nat), (32 : Nat), (33 : Nat), (34 : Nat), (35 : Nat), (36 : Nat), (37 : Nat), (38 : Nat), (39 : Nat), (40 : Nat)] : St V }))) (Out.stop (EX.ex (0 : Nat)) {env := [((0 : Nat), .ptr (0 : Nat) (0 : Nat)), ((3 : Nat), .int .i64 z.snd), ((4 : Nat), .int .i64 (↑z.1 : Int))], heap := [((0 : Nat), .cells (48 : Nat) [.int .i64 q.s.n, .int .i64 q.s.seed, .sl false (1 : Nat) (0 : Nat) (4 : Nat) q.s.L.length (q.s.L.length + q.2), .sl false (2 : Nat) (0 : Nat) (1 : Nat) q.s.st.length (q.s.st.length + q.3)]), ((1 : Nat), .arr (28 : Nat) Kd.ent q.s.L q.2), ((2 : Nat), .arr (3 : Nat) Kd.int q.s.st q.3)], nx := (20 : Nat), nt := (25 : Nat), tl := [(0 : Nat), (1 : Nat), (2 : Nat), (3 : Nat), (4 : Nat), (5 : Nat), (6 : Nat), (7 : Nat), (8 : Nat), (9 : Nat), (10 : Nat), (11 : Nat), (12 : Nat), (13 : Nat), (14 : Nat), (15 : Nat), (16 : Nat), (20 : Nat), (21 : Nat), (22 : Nat), (23 : Nat), (24 : Nat), (25 : Nat), (26 : Nat), (27 : Nat), (28 : Nat), (29 : Nat), (30 : Nat), (31 : Nat), (32 : Nat), (33 : Nat), (34 : Nat), (35 : Nat), (36 : Nat), (37 : Nat), (38 : Nat), (39 : Nat), (40 : Nat)] : St V }) := by kernel_rfl

theorem trevict (s : RM) (a b : Nat) (k : Int) : runF cfgRE 60 43 Try.f43 [.ptr 0 0, .int .i64 k] (rUp s a b) 4 = Out.need (LoopFor Try.prog (43 : Nat) (0 : Nat) (loopOf Try.f43 (0 : Nat)) EVL) (Out.ex (PRE → Prop) fun y => Out.need ((5 : Nat) ≤ (20 : Nat) ∧ SImp (20 : Nat) {env := [((0 : Nat), .ptr (0 : Nat) (0 : Nat)), ((1 : Nat), .int .i64 k), ((4 : Nat), .ptr (4 : Nat) (0 : Nat)), ((5 : Nat), .ff), ((6 : Nat), .lit .i64 (0 : Int))], heap := [((4 : Nat), .cells (28 : Nat) [.lit .i64 (0 : Int), .lit .i64 (0 : Int), .lit .i64 (0 : Int), .lit .i64 (0 : Int)]), ((0 : Nat), .cells (48 : Nat) [.int .i64 s.n, .int .i64 s.seed, .sl false (1 : Nat) (0 : Nat) (4 : Nat) s.L.length (s.L.length + a), .sl false (2 : Nat) (0 : Nat) (1 : Nat) s.st.length (s.st.length + b)]), ((1 : Nat), .arr (28 : Nat) Kd.ent s.L a), ((2 : Nat), .arr (3 : Nat) Kd.int s.st b)], nx := (5 : Nat), nt := (30 : Nat), tl := [] : St V } (fun q => EVI q.toPRF (0 : Nat)) y) (Out.all PRE fun y_1 => Out.asm (y y_1) ((Out.all Unit fun y => Out.asm ((fun q x => ∀ (j : Nat), j < q.s.L.length → (q.s.L.getD j e0).node ≠ q.k) y_1 y) (Out.fin (.tup [.agg [.lit .i64 (0 : Int), .lit .i64 (0 : Int), .lit .i64 (0 : Int), .lit .i64 (0 : Int)], .ff]) [((4 : Nat), .cells (28 : Nat) [.lit .i64 (0 : Int), .lit .i64 (0 : Int), .lit .i64 (0 : Int), .lit .i64 (0 : Int)]), ((0 : Nat), .cells (48 : Nat) [.int .i64 y_1.s.n, .int .i64 y_1.s.seed, .sl false (1 : Nat) (0 : Nat) (4 : Nat) y_1.s.L.length (y_1.s.L.length + y_1.toPRF.2), .sl false (2 : Nat) (0 : Nat) (1 : Nat) y_1.s.st.length (y_1.s.st.length + y_1.toPRF.3)]), ((1 : Nat), .arr (28 : Nat) Kd.ent y_1.s.L y_1.toPRF.2), ((2 : Nat), .arr (3 : Nat) Kd.int y_1.s.st y_1.toPRF.3)] (21 : Nat))).both (Out.all (Nat × Nat) fun y => Out.asm ((fun q z => firstNode q.s.L q.k z.1) y_1 y) (Out.fin (.tup [.agg [.int .i64 (y_1.s.L.getD y.1 e0).key, .int .i64 (y_1.s.L.getD y.1 e0).value, .int .i64 (y_1.s.L.getD y.1 e0).weight, .int .i64 (y_1.s.L.getD y.1 e0).node], .tt]) [((20 : Nat), .arr (28 : Nat) Kd.ent (outL y_1.s.L y.1) y.2), ((4 : Nat), .cells (28 : Nat) [.int .i64 (y_1.s.L.getD y.1 e0).key, .int .i64 (y_1.s.L.getD y.1 e0).value, .int .i64 (y_1.s.L.getD y.1 e0).weight, .int .i64 (y_1.s.L.getD y.1 e0).node]), ((0 : Nat), .cells (48 : Nat) [.int .i64 y_1.s.n, .int .i64 y_1.s.seed, .sl false (20 : Nat) (0 : Nat) (4 : Nat) (outL y_1.s.L y.1).length ((outL y_1.s.L y.1).length + y.2), .sl false (2 : Nat) (0 : Nat) (1 : Nat) y_1.s.st.length (y_1.s.st.length + y_1.toPRF.3)]), ((2 : Nat), .arr (3 : Nat) Kd.int (y_1.s.st.set (y_1.s.L.getD y.1 e0).node.toNat (3 : Int)) y_1.toPRF.3)] (21 : Nat)))))) := by kernel_rfl

theorem trweight (s : RM) (a b : Nat)  : runF cfgRW 60 27 Try.f27 [.ptr 0 0] (rUp s a b) 3 = Out.need (LoopFor Try.prog (27 : Nat) (0 : Nat) (loopOf Try.f27 (0 : Nat)) WGL) (Out.ex (PRF → Prop) fun y => Out.need ((3 : Nat) ≤ (20 : Nat) ∧ SImp (20 : Nat) {env := [((0 : Nat), .ptr (0 : Nat) (0 : Nat)), ((3 : Nat), .lit .i64 (0 : Int)), ((4 : Nat), .lit .i64 (0 : Int))], heap := [((0 : Nat), .cells (48 : Nat) [.int .i64 s.n, .int .i64 s.seed, .sl false (1 : Nat) (0 : Nat) (4 : Nat) s.L.length (s.L.length + a), .sl false (2 : Nat) (0 : Nat) (1 : Nat) s.st.length (s.st.length + b)]), ((1 : Nat), .arr (28 : Nat) Kd.ent s.L a), ((2 : Nat), .arr (3 : Nat) Kd.int s.st b)], nx := (3 : Nat), nt := (25 : Nat), tl := [] : St V } (fun q => WGI q ((0 : Nat), (0 : Int))) y) (Out.all PRF fun y_1 => Out.asm (y y_1) (Out.all Unit fun y => Out.asm ((fun q x => True) y_1 y) (Out.fin (.int .i64 (y_1.s.L.length, IntKind.i64.wrap (wsum y_1.s.L)).snd) [((0 : Nat), .cells (48 : Nat) [.int .i64 y_1.s.n, .int .i64 y_1.s.seed, .sl false (1 : Nat) (0 : Nat) (4 : Nat) y_1.s.L.length (y_1.s.L.length + y_1.2), .sl false (2 : Nat) (0 : Nat) (1 : Nat) y_1.s.st.length (y_1.s.st.length + y_1.3)]), ((1 : Nat), .arr (28 : Nat) Kd.ent y_1.s.L y_1.2), ((2 : Nat), .arr (3 : Nat) Kd.int y_1.s.st y_1.3)] (20 : Nat))))) := by kernel_rfl

theorem trnew (n s : Int) : runF cfgRN 60 23 Try.f23 [.int .i64 n, .int .i64 s] [] 2 = (Out.ite (decide ((1 : Int) < n)) (Out.ite (decide ((2 : Int) < n)) (Out.ite (decide ((4 : Int) < n)) (Out.ite (decide ((8 : Int) < n)) (Out.ite (decide ((16 : Int) < n)) (Out.ite (decide ((32 : Int) < n)) (Out.ite (decide ((64 : Int) < n)) (Out.need ((0 : Int) ≤ (1 : Int) ∧ (1 : Int) ≤ (1 : Int) ∧ (8 : Int) ≤ (281474976710656 : Int)) (Out.fin (.ptr (3 : Nat) (0 : Nat)) [((3 : Nat), .cells (48 : Nat) [.lit .i64 (64 : Int), .int .i64 s, .nilS, .sl true (2 : Nat) (0 : Nat) (1 : Nat) (1 : Nat) (1 : Nat)]), ((2 : Nat), .arr (3 : Nat) Kd.int (List.replicate (1 : Nat) (V.enc Kd.int).dflt) (0 : Nat))] (4 : Nat))) (Out.need ((0 : Int) ≤ (1 : Int) ∧ (1 : Int) ≤ (1 : Int) ∧ (8 : Int) ≤ (281474976710656 : Int)) (Out.fin (.ptr (3 : Nat) (0 : Nat)) [((3 : Nat), .cells (48 : Nat) [.lit .i64 (64 : Int), .int .i64 s, .nilS, .sl true (2 : Nat) (0 : Nat) (1 : Nat) (1 : Nat) (1 : Nat)]), ((2 : Nat), .arr (3 : Nat) Kd.int (List.replicate (1 : Nat) (V.enc Kd.int).dflt) (0 : Nat))] (4 : Nat)))) (Out.need ((0 : Int) ≤ (1 : Int) ∧ (1 : Int) ≤ (1 : Int) ∧ (8 : Int) ≤ (281474976710656 : Int)) (Out.fin (.ptr (3 : Nat) (0 : Nat)) [((3 : Nat), .cells (48 : Nat) [.lit .i64 (32 : Int), .int .i64 s, .nilS, .sl true (2 : Nat) (0 : Nat) (1 : Nat) (1 : Nat) (1 : Nat)]), ((2 : Nat), .arr (3 : Nat) Kd.int (List.replicate (1 : Nat) (V.enc Kd.int).dflt) (0 : Nat))] (4 : Nat)))) (Out.need ((0 : Int) ≤ (1 : Int) ∧ (1 : Int) ≤ (1 : Int) ∧ (8 : Int) ≤ (281474976710656 : Int)) (Out.fin (.ptr (3 : Nat) (0 : Nat)) [((3 : Nat), .cells (48 : Nat) [.lit .i64 (16 : Int), .int .i64 s, .nilS, .sl true (2 : Nat) (0 : Nat) (1 : Nat) (1 : Nat) (1 : Nat)]), ((2 : Nat), .arr (3 : Nat) Kd.int (List.replicate (1 : Nat) (V.enc Kd.int).dflt) (0 : Nat))] (4 : Nat)))) (Out.need ((0 : Int) ≤ (1 : Int) ∧ (1 : Int) ≤ (1 : Int) ∧ (8 : Int) ≤ (281474976710656 : Int)) (Out.fin (.ptr (3 : Nat) (0 : Nat)) [((3 : Nat), .cells (48 : Nat) [.lit .i64 (8 : Int), .int .i64 s, .nilS, .sl true (2 : Nat) (0 : Nat) (1 : Nat) (1 : Nat) (1 : Nat)]), ((2 : Nat), .arr (3 : Nat) Kd.int (List.replicate (1 : Nat) (V.enc Kd.int).dflt) (0 : Nat))] (4 : Nat)))) (Out.need ((0 : Int) ≤ (1 : Int) ∧ (1 : Int) ≤ (1 : Int) ∧ (8 : Int) ≤ (281474976710656 : Int)) (Out.fin (.ptr (3 : Nat) (0 : Nat)) [((3 : Nat), .cells (48 : Nat) [.lit .i64 (4 : Int), .int .i64 s, .nilS, .sl true (2 : Nat) (0 : Nat) (1 : Nat) (1 : Nat) (1 : Nat)]), ((2 : Nat), .arr (3 : Nat) Kd.int (List.replicate (1 : Nat) (V.enc Kd.int).dflt) (0 : Nat))] (4 : Nat)))) (Out.need ((0 : Int) ≤ (1 : Int) ∧ (1 : Int) ≤ (1 : Int) ∧ (8 : Int) ≤ (281474976710656 : Int)) (Out.fin (.ptr (3 : Nat) (0 : Nat)) [((3 : Nat), .cells (48 : Nat) [.lit .i64 (2 : Int), .int .i64 s, .nilS, .sl true (2 : Nat) (0 : Nat) (1 : Nat) (1 : Nat) (1 : Nat)]), ((2 : Nat), .arr (3 : Nat) Kd.int (List.replicate (1 : Nat) (V.enc Kd.int).dflt) (0 : Nat))] (4 : Nat)))) (Out.need ((0 : Int) ≤ (1 : Int) ∧ (1 : Int) ≤ (1 : Int) ∧ (8 : Int) ≤ (281474976710656 : Int)) (Out.fin (.ptr (3 : Nat) (0 : Nat)) [((3 : Nat), .cells (48 : Nat) [.lit .i64 (1 : Int), .int .i64 s, .nilS, .sl true (2 : Nat) (0 : Nat) (1 : Nat) (1 : Nat) (1 : Nat)]), ((2 : Nat), .arr (3 : Nat) Kd.int (List.replicate (1 : Nat) (V.enc Kd.int).dflt) (0 : Nat))] (4 : Nat)))).both (Out.need ((0 : Int) ≤ (1 : Int) ∧ (1 : Int) ≤ (1 : Int) ∧ (8 : Int) ≤ (281474976710656 : Int)) (Out.ite (decide ((1 : Int) < n)) (Out.ite (decide ((2 : Int) < n)) (Out.ite (decide ((4 : Int) < n)) (Out.ite (decide ((8 : Int) < n)) (Out.ite (decide ((16 : Int) < n)) (Out.ite (decide ((32 : Int) < n)) (Out.ite (decide ((64 : Int) < n)) (Out.fin (.ptr (3 : Nat) (0 : Nat)) [((3 : Nat), .cells (48 : Nat) [.lit .i64 (64 : Int), .int .i64 s, .nilS, .sl true (2 : Nat) (0 : Nat) (1 : Nat) (1 : Nat) (1 : Nat)]), ((2 : Nat), .arr (3 : Nat) Kd.int (List.replicate (1 : Nat) (V.enc Kd.int).dflt) (0 : Nat))] (4 : Nat)) (Out.fin (.ptr (3 : Nat) (0 : Nat)) [((3 : Nat), .cells (48 : Nat) [.lit .i64 (64 : Int), .int .i64 s, .nilS, .sl true (2 : Nat) (0 : Nat) (1 : Nat) (1 : Nat) (1 : Nat)]), ((2 : Nat), .arr (3 : Nat) Kd.int (List.replicate (1 : Nat) (V.enc Kd.int).dflt) (0 : Nat))] (4 : Nat))) (Out.fin (.ptr (3 : Nat) (0 : Nat)) [((3 : Nat), .cells (48 : Nat) [.lit .i64 (32 : Int), .int .i64 s, .nilS, .sl true (2 : Nat) (0 : Nat) (1 : Nat) (1 : Nat) (1 : Nat)]), ((2 : Nat), .arr (3 : Nat) Kd.int (List.replicate (1 : Nat) (V.enc Kd.int).dflt) (0 : Nat))] (4 : Nat))) (Out.fin (.ptr (3 : Nat) (0 : Nat)) [((3 : Nat), .cells (48 : Nat) [.lit .i64 (16 : Int), .int .i64 s, .nilS, .sl true (2 : Nat) (0 : Nat) (1 : Nat) (1 : Nat) (1 : Nat)]), ((2 : Nat), .arr (3 : Nat) Kd.int (List.replicate (1 : Nat) (V.enc Kd.int).dflt) (0 : Nat))] (4 : Nat))) (Out.fin (.ptr (3 : Nat) (0 : Nat)) [((3 : Nat), .cells (48 : Nat) [.lit .i64 (8 : Int), .int .i64 s, .nilS, .sl true (2 : Nat) (0 : Nat) (1 : Nat) (1 : Nat) (1 : Nat)]), ((2 : Nat), .arr (3 : Nat) Kd.int (List.replicate (1 : Nat) (V.enc Kd.int).dflt) (0 : Nat))] (4 : Nat))) (Out.fin (.ptr (3 : Nat) (0 : Nat)) [((3 : Nat), .cells (48 : Nat) [.lit .i64 (4 : Int), .int .i64 s, .nilS, .sl true (2 : Nat) (0 : Nat) (1 : Nat) (1 : Nat) (1 : Nat)]), ((2 : Nat), .arr (3 : Nat) Kd.int (List.replicate (1 : Nat) (V.enc Kd.int).dflt) (0 : Nat))] (4 : Nat))) (Out.fin (.ptr (3 : Nat) (0 : Nat)) [((3 : Nat), .cells (48 : Nat) [.lit .i64 (2 : Int), .int .i64 s, .nilS, .sl true (2 : Nat) (0 : Nat) (1 : Nat) (1 : Nat) (1 : Nat)]), ((2 : Nat), .arr (3 : Nat) Kd.int (List.replicate (1 : Nat) (V.enc Kd.int).dflt) (0 : Nat))] (4 : Nat))) (Out.fin (.ptr (3 : Nat) (0 : Nat)) [((3 : Nat), .cells (48 : Nat) [.lit .i64 (1 : Int), .int .i64 s, .nilS, .sl true (2 : Nat) (0 : Nat) (1 : Nat) (1 : Nat) (1 : Nat)]), ((2 : Nat), .arr (3 : Nat) Kd.int (List.replicate (1 : Nat) (V.enc Kd.int).dflt) (0 : Nat))] (4 : Nat)))) := by kernel_rfl

end Sx
end Go.Proofs.Ytohckjjbephohaa

/-
  The document's map: what its functions do.
-/
namespace Go.Proofs.Ytohckjjbephohaa
namespace Sx
open Go
set_option linter.unusedSimpArgs false
set_option linter.unusedVariables false

theorem hooksR_ok : ∀ g H, hooksR g = some H → HookOk Try.prog g H := by
  intro g H h
  unfold hooksR at h
  split at h
  · cases h; exact hRMix
  · cases h; exact hRIndex
  · cases h
theorem fnsR_ok : ∀ g fn, fnsR g = some fn → Try.prog.funcs[g]? = some fn ∧ (fn.name == "runtime.NumGoroutine") = false := by
  intro g fn h
  unfold fnsR at h
  split at h <;> cases h <;> exact ⟨by kernel_rfl, by kernel_rfl⟩
theorem cfgRA_ok : cfgRA.ok := ⟨tab_met, kinds_met, mixed_met, fnsR_ok, hooksR_ok⟩
theorem cfgRF0_ok : cfgRF0.ok := ⟨tab_met, kinds_met, mixed_met, fnsR_ok, hooksR_ok⟩
theorem cfgRP_ok : cfgRP.ok := ⟨tab_met, kinds_met, mixed_met, fnsR_ok, hooksR_ok⟩
theorem cfgRE_ok : cfgRE.ok := ⟨tab_met, kinds_met, mixed_met, fnsR_ok, hooksR_ok⟩
theorem cfgRW_ok : cfgRW.ok := ⟨tab_met, kinds_met, mixed_met, fnsR_ok, hooksR_ok⟩

/-! ## objects -/
theorem tmV_ref {s : RM} {hp : Heap V} {n : Nat} (h : tmV (.inl (.inr s)) hp n) : n = 3 ∧ ∃ a b, hp = rUp s a b := by
  obtain ⟨h0, rfl, h1, rfl, hn, sp, rfl⟩ := h
  exact ⟨hn, sp.1, sp.2, rfl⟩
theorem endR {n' : Nat} {h' : Heap V} {v0 v : AV} {s' : RM} {a b n1 c1 n2 c2 : Nat} (ia ib : Nat) (hne : ia ≠ 0 ∧ ib ≠ 0 ∧ ia ≠ ib)
    (h0 : h'.get 0 = some (.cells 48 [.int .i64 s'.n, .int .i64 s'.seed, .sl false ia 0 4 n1 c1, .sl false ib 0 1 n2 c2])) (e1 : n1 = s'.L.length) (e2 : c1 = s'.L.length + a) (e3 : n2 = s'.st.length) (e4 : c2 = s'.st.length + b)
    (h1 : h'.get ia = some (.arr 28 Kd.ent s'.L a)) (h2 : h'.get ib = some (.arr 3 Kd.int s'.st b))
    (hv : v0.sub v) (hn : v.on noName = true) : EndObj 3 n' v0 h' v (oR s') [] := by
  subst e1; subst e2; subst e3; subst e4
  refine ⟨_, pack (ren := [(0, 0), (1, ia), (2, ib)]) laid_V (x := oR s') (n := 3) (m := 0) (h := h') (hp := [(1, .arr 28 Kd.ent s'.L a), (2, .arr 3 Kd.int s'.st b)]) ⟨Heap.up (rBlk s' (a, b)), rfl, rBlk s' (a, b), rfl, rfl, (a, b), rfl⟩ rfl rfl ⟨?_, ?_, ?_, trivial⟩ rfl, rfl, .plain hv hn⟩
  · show BSub (h'.get 0) _
    rw [h0]; exact .same _
  · show BSub ((h'.del 0).get ia) _
    rw [Heap.get_del_ne hne.1, h1]; exact .same _
  · show BSub (((h'.del 0).del ia).get ib) _
    rw [Heap.get_del_ne hne.2.2.symm, Heap.get_del_ne hne.2.1, h2]; exact .same _
theorem ref_hook {C : Cfg Try.prog V} (hC : C.ok) {f n : Nat} {fn : Func} {sgn : List (Sg V)} {run : RunR} (hg : Try.prog.funcs[f]? = some fn ∧ (fn.name == "runtime.NumGoroutine") = false) (hb : fn.body.isSome = true)
    (H : ∀ (M : Goal V) (s : RM) (ar : List (Arg V)) (K0 : AV → RM → List (Blk V) → Out V), (run s ar K0).holds M → ar.length + 1 ≤ fn.ntmps ∧ ∀ a b,
      (runF C n f fn (.ptr 0 0 :: argAV 3 ar) (rUp s a b ++ argHeap 3 ar) (3 + ar.length)).holds ⟨fun _ _ => False, fun v0 h' n' => ∃ v s' E, (K0 v s' E).holds M ∧ EndObj 3 n' v0 h' v (oR s') E⟩) :
    HookOk Try.prog f (hookObj 3 sgn (onR run)) := by
  refine hookObj_ok laid_V ⟨fn, hg.1, hg.2, by cases hb' : fn.body <;> simp [hb'] at hb ⊢⟩ ?_
  intro M x ar K0 h hp m ht
  unfold onR at h
  split at h
  · rename_i s
    obtain ⟨rfl, a, b, rfl⟩ := tmV_ref ht
    obtain ⟨hl, h⟩ := H M s ar _ h
    refine ⟨rfl, calls_runF (R := fun v0 h' n' _ => ∃ v x' E, (K0 v x' E).holds M ∧ EndObj 3 n' v0 h' v x' E) hC (n := n) hg hb ?_ ?_⟩
    · have : ∀ (j : Nat) (l : List (Arg V)), (argAV j l).length = l.length := by
        intro j l; induction l generalizing j with
        | nil => rfl
        | cons a l ih => simp [argAV, ih]
      simp only [List.length_cons, this]; exact hl
    · exact Out.weak (h a b) (fun _ _ h => h) (fun v0 h' n' ⟨v, s', E, h1, h2⟩ => ⟨v, _, E, h1, h2⟩)
  · exact h.elim

/-! ## looking for an entry -/
def rGet (L : List Ent) (k : Int) : Option Ent := L.find? fun e => decide (e.key = k)
def rNode (L : List Ent) (k : Int) : Option Ent := L.find? fun e => decide (e.node = k)
theorem get_first {L : List Ent} {k : Int} {i : Nat} (h : firstAt L k i) : rGet L k = some (L.getD i e0) := by
  obtain ⟨h1, h2, h3⟩ := h
  refine List.find?_eq_some_iff_getElem.2 ⟨decide_eq_true h2, i, h1, (getD_of h1).symm, fun j hj => ?_⟩
  have := h3 j hj
  rw [getD_of (by omega)] at this
  simp [this]
theorem get_none {L : List Ent} {k : Int} (h : noneAt L k L.length) : rGet L k = none := by
  refine List.find?_eq_none.2 fun e he => ?_
  obtain ⟨j, hj, rfl⟩ := List.mem_iff_getElem.1 he
  have := h j hj
  rw [getD_of hj] at this
  simp [this]
theorem node_first {L : List Ent} {k : Int} {i : Nat} (h : firstNode L k i) : rNode L k = some (L.getD i e0) := by
  obtain ⟨h1, h2, h3⟩ := h
  refine List.find?_eq_some_iff_getElem.2 ⟨decide_eq_true h2, i, h1, (getD_of h1).symm, fun j hj => ?_⟩
  have := h3 j hj
  rw [getD_of (by omega)] at this
  simp [this]
theorem node_none {L : List Ent} {k : Int} (h : ∀ j, j < L.length → (L.getD j e0).node ≠ k) : rNode L k = none := by
  refine List.find?_eq_none.2 fun e he => ?_
  obtain ⟨j, hj, rfl⟩ := List.mem_iff_getElem.1 he
  have := h j hj
  rw [getD_of hj] at this
  simp [this]

/-! ## the loops -/
theorem rfbody0 (q : PRF) (i : Nat) (h : i ≤ q.s.L.length ∧ noneAt q.s.L q.k i) (Q : EX → St V → Prop) (F : AV → Heap V → Nat → Prop)
    (hnx : ∀ ST : St V, i < q.s.L.length → noneAt q.s.L q.k (i + 1) → Wk 20 [] ST (RFI0 q (i + 1)) → Q .nx ST) (hrt : ∀ ST : St V, firstAt q.s.L q.k i → Wk 20 [] ST (RFR0 q i) → Q .rt ST) (hex : ∀ ST : St V, i = q.s.L.length → Wk 20 [] ST (RFI0 q i) → Q (.ex 0) ST) :
    (runCode cfgRA 60 59 (loopOf Try.f59 0) (RFI0 q i) (stopT (trimSt [0, 1, 4, 5] [0, 1, 2, 4]))).holds ⟨Q, F⟩ := by
  rw [trf0]
  have hl := q.hl
  obtain ⟨h1, h2⟩ := h
  rw [show (V.enc Kd.ent).dflt = e0 from rfl, Nat.zero_add]
  simp only [Out.holds, decide_eq_true_eq, decide_eq_false_iff_not, beq_iff_eq, beq_eq_false_iff_ne, bne_iff_ne, ne_eq, bne_eq_false_iff_eq, Bool.true_and, Bool.and_true, Bool.not_eq_true', Bool.not_eq_false', Bool.and_eq_true, Bool.or_eq_true, Bool.and_eq_false_imp, true_implies, true_and, Bool.not_true, Bool.not_false, Bool.false_eq_true, Bool.true_eq_false, false_implies, and_true, beq_self_eq_true, Decidable.not_not, not_true_eq_false, not_false_eq_true]
  refine ⟨fun hlt => ?_, fun hge => hex _ (by omega) (by (refine ⟨?_, ?_, rfl, tl_ok rfl, ?_, ⟨Nat.le_of_ble_eq_true rfl, rfl⟩⟩ <;> (repeat' first | with_reducible exact trivial | exact AV.sub_same _ | exact .same _ | exact .inr rfl | exact .inl (in_ok rfl) | exact AV.sub_lit' | exact AV.sub_nilS | exact .none _ _ | exact trivial | refine ⟨?_, ?_⟩)))⟩
  have hlt' : i < q.s.L.length := by omega
  have hw : IntKind.wrap .i64 ((i : Int) + 1) = ((i + 1 : Nat) : Int) := wrap_nat (by omega)
  refine ⟨⟨by omega, by omega⟩, by omega, fun he => hrt _ ⟨hlt', he, h2⟩ (by (refine ⟨?_, ?_, rfl, tl_ok rfl, ?_, ⟨Nat.le_of_ble_eq_true rfl, rfl⟩⟩ <;> (repeat' first | with_reducible exact trivial | exact AV.sub_same _ | exact .same _ | exact .inr rfl | exact .inl (in_ok rfl) | exact AV.sub_lit' | exact AV.sub_nilS | exact .none _ _ | exact trivial | refine ⟨?_, ?_⟩))), fun he => hnx _ hlt' (fun j hj => ?_) (by (refine ⟨?_, ?_, rfl, tl_ok rfl, ?_, ⟨Nat.le_of_ble_eq_true rfl, rfl⟩⟩ <;> (repeat' first | with_reducible exact trivial | (exact AV.sub_int hw) | exact AV.sub_same _ | exact .same _ | exact .inr rfl | exact .inl (in_ok rfl) | exact AV.sub_lit' | exact AV.sub_nilS | exact .none _ _ | exact trivial | refine ⟨?_, ?_⟩)))⟩
  by_cases e : j = i
  · rw [e]; exact he
  · exact h2 j (by omega)
theorem rfl0_ok : LoopOk Try.prog 0 (loopOf Try.f59 0) RFL0 := by
  refine trimLoop_ok (trim_ok _ _) (loopT_ok (C := cfgRA) cfgRA_ok (f := 59) (n := 60) (trim_ok [0, 1, 4, 5] [0, 1, 2, 4]) 20 RFI0 (fun q i => i ≤ q.s.L.length ∧ noneAt q.s.L q.k i) (fun _ => 0) (fun q i => q.s.L.length - i) (fun q (_ : Unit) => noneAt q.s.L q.k q.s.L.length) (fun q _ => RFI0 q q.s.L.length) (fun q i => firstAt q.s.L q.k i) (fun q i => RFR0 q i) (fun q => ⟨Nat.zero_le _, fun j hj => absurd hj (Nat.not_lt_zero _)⟩) ?_)
  intro q i h
  refine rfbody0 q i h _ _ (fun ST hlt hn hw => SImp.of_wk (i + 1) hw ⟨⟨hlt, hn⟩, ?_⟩) (fun ST hf hw => SImp.of_wk (ren := []) i hw hf) (fun ST he hw => ⟨rfl, SImp.of_wk (ren := []) () ?_ ?_⟩)
  · show q.s.L.length - (i + 1) < q.s.L.length - i; omega
  · subst he; exact hw
  · rw [← he]; exact h.2
theorem rfbody1 (q : PRF) (i : Nat) (h : i ≤ q.s.L.length ∧ noneAt q.s.L q.k i) (Q : EX → St V → Prop) (F : AV → Heap V → Nat → Prop)
    (hnx : ∀ ST : St V, i < q.s.L.length → noneAt q.s.L q.k (i + 1) → Wk 20 [] ST (RFI1 q (i + 1)) → Q .nx ST) (hrt : ∀ ST : St V, firstAt q.s.L q.k i → Wk 20 [] ST (RFR1 q i) → Q .rt ST) (hex : ∀ ST : St V, i = q.s.L.length → Wk 20 [] ST (RFI1 q i) → Q (.ex 0) ST) :
    (runCode cfgRA 60 59 (loopOf Try.f59 0) (RFI1 q i) (stopT (trimSt [0, 1, 4, 5] [0, 1, 2, 6, 7]))).holds ⟨Q, F⟩ := by
  rw [trf1]
  have hl := q.hl
  obtain ⟨h1, h2⟩ := h
  rw [show (V.enc Kd.ent).dflt = e0 from rfl, Nat.zero_add]
  simp only [Out.holds, decide_eq_true_eq, decide_eq_false_iff_not, beq_iff_eq, beq_eq_false_iff_ne, bne_iff_ne, ne_eq, bne_eq_false_iff_eq, Bool.true_and, Bool.and_true, Bool.not_eq_true', Bool.not_eq_false', Bool.and_eq_true, Bool.or_eq_true, Bool.and_eq_false_imp, true_implies, true_and, Bool.not_true, Bool.not_false, Bool.false_eq_true, Bool.true_eq_false, false_implies, and_true, beq_self_eq_true, Decidable.not_not, not_true_eq_false, not_false_eq_true]
  refine ⟨fun hlt => ?_, fun hge => hex _ (by omega) (by (refine ⟨?_, ?_, rfl, tl_ok rfl, ?_, ⟨Nat.le_of_ble_eq_true rfl, rfl⟩⟩ <;> (repeat' first | with_reducible exact trivial | exact AV.sub_same _ | exact .same _ | exact .inr rfl | exact .inl (in_ok rfl) | exact AV.sub_lit' | exact AV.sub_nilS | exact .none _ _ | exact trivial | refine ⟨?_, ?_⟩)))⟩
  have hlt' : i < q.s.L.length := by omega
  have hw : IntKind.wrap .i64 ((i : Int) + 1) = ((i + 1 : Nat) : Int) := wrap_nat (by omega)
  refine ⟨⟨by omega, by omega⟩, by omega, fun he => hrt _ ⟨hlt', he, h2⟩ (by (refine ⟨?_, ?_, rfl, tl_ok rfl, ?_, ⟨Nat.le_of_ble_eq_true rfl, rfl⟩⟩ <;> (repeat' first | with_reducible exact trivial | exact AV.sub_same _ | exact .same _ | exact .inr rfl | exact .inl (in_ok rfl) | exact AV.sub_lit' | exact AV.sub_nilS | exact .none _ _ | exact trivial | refine ⟨?_, ?_⟩))), fun he => hnx _ hlt' (fun j hj => ?_) (by (refine ⟨?_, ?_, rfl, tl_ok rfl, ?_, ⟨Nat.le_of_ble_eq_true rfl, rfl⟩⟩ <;> (repeat' first | with_reducible exact trivial | (exact AV.sub_int hw) | exact AV.sub_same _ | exact .same _ | exact .inr rfl | exact .inl (in_ok rfl) | exact AV.sub_lit' | exact AV.sub_nilS | exact .none _ _ | exact trivial | refine ⟨?_, ?_⟩)))⟩
  by_cases e : j = i
  · rw [e]; exact he
  · exact h2 j (by omega)
theorem rfl1_ok : LoopOk Try.prog 0 (loopOf Try.f59 0) RFL1 := by
  refine trimLoop_ok (trim_ok _ _) (loopT_ok (C := cfgRA) cfgRA_ok (f := 59) (n := 60) (trim_ok [0, 1, 4, 5] [0, 1, 2, 6, 7]) 20 RFI1 (fun q i => i ≤ q.s.L.length ∧ noneAt q.s.L q.k i) (fun _ => 0) (fun q i => q.s.L.length - i) (fun q (_ : Unit) => noneAt q.s.L q.k q.s.L.length) (fun q _ => RFI1 q q.s.L.length) (fun q i => firstAt q.s.L q.k i) (fun q i => RFR1 q i) (fun q => ⟨Nat.zero_le _, fun j hj => absurd hj (Nat.not_lt_zero _)⟩) ?_)
  intro q i h
  refine rfbody1 q i h _ _ (fun ST hlt hn hw => SImp.of_wk (i + 1) hw ⟨⟨hlt, hn⟩, ?_⟩) (fun ST hf hw => SImp.of_wk (ren := []) i hw hf) (fun ST he hw => ⟨rfl, SImp.of_wk (ren := []) () ?_ ?_⟩)
  · show q.s.L.length - (i + 1) < q.s.L.length - i; omega
  · subst he; exact hw
  · rw [← he]; exact h.2

theorem pibody (p : PRI) (i : Nat) (h : i ≤ p.q.s.L.length ∧ ∀ j, j < i → (p.q.s.L.getD j e0).key < p.q.k) (Q : EX → St V → Prop) (F : AV → Heap V → Nat → Prop)
    (hnx : ∀ ST : St V, i < p.q.s.L.length → (p.q.s.L.getD i e0).key < p.q.k → Wk 26 [] ST (PII p (i + 1)) → Q .nx ST) (hex : ∀ ST : St V, insP p.q.s.L p.q.k i → Wk 26 [] ST (PII p i) → Q (.ex 0) ST) :
    (runCode cfgRA 60 41 (loopOf Try.f41 0) (PII p i) (stopT (trimSt [0, 1, 8, 9, 10, 13] [0, 1, 6, 7, 22]))).holds ⟨Q, F⟩ := by
  rw [trpi]
  have hl := p.q.hl
  obtain ⟨h1, h2⟩ := h
  rw [show (V.enc Kd.ent).dflt = e0 from rfl, Nat.zero_add]
  simp only [Out.holds, decide_eq_true_eq, decide_eq_false_iff_not, beq_iff_eq, beq_eq_false_iff_ne, bne_iff_ne, ne_eq, bne_eq_false_iff_eq, Bool.true_and, Bool.and_true, Bool.not_eq_true', Bool.not_eq_false', Bool.and_eq_true, Bool.or_eq_true, Bool.and_eq_false_imp, true_implies, true_and, Bool.not_true, Bool.not_false, Bool.false_eq_true, Bool.true_eq_false, false_implies, and_true, beq_self_eq_true, Decidable.not_not, not_true_eq_false, not_false_eq_true]
  refine ⟨fun hlt => ?_, fun hge => hex _ ⟨h1, h2, fun hh => absurd hh (by omega)⟩ (by (refine ⟨?_, ?_, rfl, tl_ok rfl, ?_, ⟨Nat.le_of_ble_eq_true rfl, rfl⟩⟩ <;> (repeat' first | with_reducible exact trivial | exact AV.sub_same _ | exact .same _ | exact .inr rfl | exact .inl (in_ok rfl) | exact AV.sub_lit' | exact AV.sub_nilS | exact .none _ _ | exact trivial | refine ⟨?_, ?_⟩)))⟩
  have hlt' : i < p.q.s.L.length := by omega
  have hw : IntKind.wrap .i64 ((i : Int) + 1) = ((i + 1 : Nat) : Int) := wrap_nat (by omega)
  exact ⟨⟨by omega, by omega⟩, by omega, fun he => hnx _ hlt' he (by (refine ⟨?_, ?_, rfl, tl_ok rfl, ?_, ⟨Nat.le_of_ble_eq_true rfl, rfl⟩⟩ <;> (repeat' first | with_reducible exact trivial | (exact AV.sub_int hw) | exact AV.sub_same _ | exact .same _ | exact .inr rfl | exact .inl (in_ok rfl) | exact AV.sub_lit' | exact AV.sub_nilS | exact .none _ _ | exact trivial | refine ⟨?_, ?_⟩))), fun he => hex _ ⟨h1, h2, fun _ => he⟩ (by (refine ⟨?_, ?_, rfl, tl_ok rfl, ?_, ⟨Nat.le_of_ble_eq_true rfl, rfl⟩⟩ <;> (repeat' first | with_reducible exact trivial | exact AV.sub_same _ | exact .same _ | exact .inr rfl | exact .inl (in_ok rfl) | exact AV.sub_lit' | exact AV.sub_nilS | exact .none _ _ | exact trivial | refine ⟨?_, ?_⟩)))⟩
theorem pil_ok : LoopOk Try.prog 0 (loopOf Try.f41 0) PIL := by
  refine trimLoop_ok (trim_ok _ _) (loopTH_ok (C := cfgRA) cfgRA_ok (f := 41) (n := 60) (trim_ok [0, 1, 8, 9, 10, 13] [0, 1, 6, 7, 22]) 26 PII (fun p i => i ≤ p.q.s.L.length ∧ ∀ j, j < i → (p.q.s.L.getD j e0).key < p.q.k) (fun _ => 0) (fun p i => p.q.s.L.length - i) (fun p (i : Nat) => insP p.q.s.L p.q.k i) (fun p i => PII p i) (fun p => ⟨Nat.zero_le _, fun j hj => absurd hj (Nat.not_lt_zero _)⟩) ?_)
  intro p i h
  refine pibody p i h _ _ (fun ST hlt hk hw => SImp.of_wk (i + 1) hw ⟨⟨hlt, fun j hj => ?_⟩, ?_⟩) (fun ST he hw => ⟨rfl, SImp.of_wk (ren := []) i hw he⟩)
  · by_cases e : j = i
    · rw [e]; exact hk
    · exact h.2 j (by omega)
  · show p.q.s.L.length - (i + 1) < p.q.s.L.length - i; omega

theorem evbody (q : PRE) (i : Nat) (h : i ≤ q.s.L.length ∧ ∀ j, j < i → (q.s.L.getD j e0).node ≠ q.k) (Q : EX → St V → Prop) (F : AV → Heap V → Nat → Prop)
    (hnx : ∀ ST : St V, i < q.s.L.length → (q.s.L.getD i e0).node ≠ q.k → Wk 20 [] ST (EVI q.toPRF (i + 1)) → Q .nx ST) (hrt : ∀ (ST : St V) sp, firstNode q.s.L q.k i → Wk 20 [(20, 26)] ST (EVR q.toPRF (i, sp)) → Q .rt ST) (hex : ∀ ST : St V, i = q.s.L.length → Wk 20 [] ST (EVI q.toPRF i) → Q (.ex 0) ST) :
    (runCode cfgRA 60 43 (loopOf Try.f43 0) (EVI q.toPRF i) (stopT (trimSt [0, 1, 4, 5, 6] [0, 1, 2, 4, 26]))).holds ⟨Q, F⟩ := by
  rw [trev]
  have hl := q.hl
  obtain ⟨h1, h2⟩ := h
  rw [show (V.enc Kd.ent).dflt = e0 from rfl]
  simp only [Nat.zero_add, Out.holds, decide_eq_true_eq, decide_eq_false_iff_not, beq_iff_eq, beq_eq_false_iff_ne, bne_iff_ne, ne_eq, bne_eq_false_iff_eq, Bool.true_and, Bool.and_true, Bool.not_eq_true', Bool.not_eq_false', Bool.and_eq_true, Bool.or_eq_true, Bool.and_eq_false_imp, true_implies, true_and, Bool.not_true, Bool.not_false, Bool.false_eq_true, Bool.true_eq_false, false_implies, and_true, beq_self_eq_true, Decidable.not_not, not_true_eq_false, not_false_eq_true]
  refine ⟨fun hlt => ?_, fun hge => hex _ (by omega) (by (refine ⟨?_, ?_, rfl, tl_ok rfl, ?_, ⟨Nat.le_of_ble_eq_true rfl, rfl⟩⟩ <;> (repeat' first | with_reducible exact trivial | exact AV.sub_same _ | exact .same _ | exact .inr rfl | exact .inl (in_ok rfl) | exact AV.sub_lit' | exact AV.sub_nilS | exact .none _ _ | exact trivial | refine ⟨?_, ?_⟩)))⟩
  have hlt' : i < q.s.L.length := by omega
  have hw : IntKind.wrap .i64 ((i : Int) + 1) = ((i + 1 : Nat) : Int) := wrap_nat (by omega)
  refine ⟨⟨by omega, by omega⟩, by omega, fun he => ?_, fun he => hnx _ hlt' he (by (refine ⟨?_, ?_, rfl, tl_ok rfl, ?_, ⟨Nat.le_of_ble_eq_true rfl, rfl⟩⟩ <;> (repeat' first | with_reducible exact trivial | (exact AV.sub_int hw) | exact AV.sub_same _ | exact .same _ | exact .inr rfl | exact .inl (in_ok rfl) | exact AV.sub_lit' | exact AV.sub_nilS | exact .none _ _ | exact trivial | refine ⟨?_, ?_⟩)))⟩
  have hm : (q.s.L.getD i e0) ∈ q.s.L := by rw [getD_of hlt']; exact List.getElem_mem hlt'
  obtain ⟨n1, n2⟩ := q.hn _ hm
  rw [hw]
  simp only [Int.toNat_natCast, List.drop_zero]
  have b1 : (List.take i q.s.L).length ≤ 1000000 := by rw [List.length_take]; omega
  have b2 : (List.take (q.s.L.length - (i + 1)) (List.drop (i + 1) q.s.L)).length ≤ 1000000 := by rw [List.length_take]; omega
  have e1 : (List.take i q.s.L).length + (List.take (q.s.L.length - (i + 1)) (List.drop (i + 1) q.s.L)).length = (outL q.s.L i).length := List.length_append.symm
  refine ⟨⟨by omega, by omega⟩, by omega, ⟨n1, n2⟩, by omega, ⟨by omega, by omega⟩, ⟨by omega, by omega⟩, by omega, by omega, fun _ => ⟨by omega, by omega, fun sp => ?_⟩⟩
  rw [e1]
  exact hrt _ sp ⟨hlt', he, h2⟩ (by (refine ⟨?_, ?_, rfl, tl_ok rfl, ?_, ⟨Nat.le_of_ble_eq_true rfl, rfl⟩⟩ <;> (repeat' first | with_reducible exact trivial | exact AV.sub_same _ | exact .same _ | exact .inr rfl | exact .inl (in_ok rfl) | exact AV.sub_lit' | exact AV.sub_nilS | exact .none _ _ | exact trivial | refine ⟨?_, ?_⟩)))
theorem evl_ok : LoopOk Try.prog 0 (loopOf Try.f43 0) EVL := by
  refine trimLoop_ok (trim_ok _ _) (loopT_ok (C := cfgRA) cfgRA_ok (f := 43) (n := 60) (trim_ok [0, 1, 4, 5, 6] [0, 1, 2, 4, 26]) 20 (fun q : PRE => EVI q.toPRF) (fun q i => i ≤ q.s.L.length ∧ ∀ j, j < i → (q.s.L.getD j e0).node ≠ q.k) (fun _ => 0) (fun q i => q.s.L.length - i) (fun q (_ : Unit) => ∀ j, j < q.s.L.length → (q.s.L.getD j e0).node ≠ q.k) (fun q _ => EVI q.toPRF q.s.L.length) (fun q (z : Nat × Nat) => firstNode q.s.L q.k z.1) (fun q z => EVR q.toPRF z) (fun q => ⟨Nat.zero_le _, fun j hj => absurd hj (Nat.not_lt_zero _)⟩) ?_)
  intro q i h
  refine evbody q i h _ _ (fun ST hlt hn hw => SImp.of_wk (i + 1) hw ⟨⟨hlt, fun j hj => ?_⟩, ?_⟩) (fun ST sp hf hw => SImp.of_wk (i, sp) hw hf) (fun ST he hw => ⟨rfl, SImp.of_wk (ren := []) () ?_ ?_⟩)
  · by_cases e : j = i
    · rw [e]; exact hn
    · exact h.2 j (by omega)
  · show q.s.L.length - (i + 1) < q.s.L.length - i; omega
  · subst he; exact hw
  · rw [← he]; exact h.2

theorem wgbody (q : PRF) (z : Nat × Int) (h : z.1 ≤ q.s.L.length ∧ z.2 = IntKind.wrap .i64 (wsum (q.s.L.take z.1))) (Q : EX → St V → Prop) (F : AV → Heap V → Nat → Prop)
    (hnx : ∀ ST : St V, z.1 < q.s.L.length → Wk 20 [] ST (WGI q (z.1 + 1, IntKind.wrap .i64 (wsum (q.s.L.take (z.1 + 1))))) → Q .nx ST) (hex : ∀ ST : St V, z.1 = q.s.L.length → Wk 20 [] ST (WGI q z) → Q (.ex 0) ST) :
    (runCode cfgRA 60 27 (loopOf Try.f27 0) (WGI q z) (stopT (trimSt [0, 3, 4] [0, 1, 2]))).holds ⟨Q, F⟩ := by
  rw [trwg]
  have hl := q.hl
  obtain ⟨h1, h2⟩ := h
  rw [show (V.enc Kd.ent).dflt = e0 from rfl]
  simp only [Nat.zero_add, Out.holds, decide_eq_true_eq, decide_eq_false_iff_not, beq_iff_eq, beq_eq_false_iff_ne, bne_iff_ne, ne_eq, bne_eq_false_iff_eq, Bool.true_and, Bool.and_true, Bool.not_eq_true', Bool.not_eq_false', Bool.and_eq_true, Bool.or_eq_true, Bool.and_eq_false_imp, true_implies, true_and, Bool.not_true, Bool.not_false, Bool.false_eq_true, Bool.true_eq_false, false_implies, and_true, beq_self_eq_true, Decidable.not_not, not_true_eq_false, not_false_eq_true]
  refine ⟨fun hlt => ?_, fun hge => hex _ (by omega) (by (refine ⟨?_, ?_, rfl, tl_ok rfl, ?_, ⟨Nat.le_of_ble_eq_true rfl, rfl⟩⟩ <;> (repeat' first | with_reducible exact trivial | exact AV.sub_same _ | exact .same _ | exact .inr rfl | exact .inl (in_ok rfl) | exact AV.sub_lit' | exact AV.sub_nilS | exact .none _ _ | exact trivial | refine ⟨?_, ?_⟩)))⟩
  have hlt' : z.1 < q.s.L.length := by omega
  have hw : IntKind.wrap .i64 ((z.1 : Int) + 1) = ((z.1 + 1 : Nat) : Int) := wrap_nat (by omega)
  have hsum : IntKind.wrap .i64 (z.2 + (q.s.L.getD z.1 e0).weight) = IntKind.wrap .i64 (wsum (q.s.L.take (z.1 + 1))) := by rw [wsum_take hlt', h2, wrap_sumR]
  exact ⟨⟨by omega, by omega⟩, by omega, hnx _ hlt' (by (refine ⟨?_, ?_, rfl, tl_ok rfl, ?_, ⟨Nat.le_of_ble_eq_true rfl, rfl⟩⟩ <;> (repeat' first | with_reducible exact trivial | (exact AV.sub_int hw) | (exact AV.sub_int hsum) | exact AV.sub_same _ | exact .same _ | exact .inr rfl | exact .inl (in_ok rfl) | exact AV.sub_lit' | exact AV.sub_nilS | exact .none _ _ | exact trivial | refine ⟨?_, ?_⟩)))⟩
theorem wgl_ok : LoopOk Try.prog 0 (loopOf Try.f27 0) WGL := by
  refine trimLoop_ok (trim_ok _ _) (loopTH_ok (C := cfgRA) cfgRA_ok (f := 27) (n := 60) (trim_ok [0, 3, 4] [0, 1, 2]) 20 WGI (fun q z => z.1 ≤ q.s.L.length ∧ z.2 = IntKind.wrap .i64 (wsum (q.s.L.take z.1))) (fun _ => (0, 0)) (fun q z => q.s.L.length - z.1) (fun q (_ : Unit) => True) (fun q _ => WGI q (q.s.L.length, IntKind.wrap .i64 (wsum q.s.L))) (fun q => ⟨Nat.zero_le _, rfl⟩) ?_)
  intro q z h
  refine wgbody q z h _ _ (fun ST hlt hw => SImp.of_wk (z.1 + 1, IntKind.wrap .i64 (wsum (q.s.L.take (z.1 + 1)))) hw ⟨⟨hlt, rfl⟩, ?_⟩) (fun ST he hw => ⟨rfl, SImp.of_wk (ren := []) () ?_ trivial⟩)
  · show q.s.L.length - (z.1 + 1) < q.s.L.length - z.1; omega
  · obtain ⟨k, s⟩ := z
    obtain ⟨a, b⟩ := h
    simp only at he b
    subst he
    rw [List.take_length] at b
    subst b
    exact hw

end Sx
end Go.Proofs.Ytohckjjbephohaa

/-
  The document's map: the contracts.
-/
namespace Go.Proofs.Ytohckjjbephohaa
namespace Sx
open Go
set_option linter.unusedSimpArgs false
set_option linter.unusedVariables false
set_option maxHeartbeats 1000000

def runRShard : RunR := fun s ar K => match ar with
  | [.int .i64 k] => .need (1 ≤ s.n ∧ s.n ≤ 64) (K (.int .i64 (idxF (mixF s.seed k) 2 s.n)) s [])
  | _ => .bad 500
theorem hRShard : HookOk Try.prog 25 (hookObj 3 [.int .i64] (onR runRShard)) := by
  refine ref_hook cfgRF0_ok (n := 60) (fn := Try.f25) ⟨by kernel_rfl, by kernel_rfl⟩ (by kernel_rfl) ?_
  intro M s ar K0 H
  unfold runRShard at H
  split at H
  · rename_i k
    obtain ⟨⟨h1, h2⟩, H⟩ := H
    refine ⟨show 2 ≤ _ by decide +kernel, fun a b => ?_⟩
    show (runF cfgRF0 60 25 Try.f25 [.ptr 0 0, .int .i64 k] (rUp s a b) 4).holds _
    rw [trshard]
    obtain ⟨m1, m2⟩ := mixF_range s.seed k
    exact ⟨⟨rfl, m1, m2, h1, h2⟩, _, _, _, H, endR 1 2 (by decide) rfl rfl rfl rfl rfl rfl rfl (AV.sub_same _) rfl⟩
  · exact H.elim
def stR (s : RM) (k : Int) : Int := if k < 1 ∨ k ≥ (s.st.length : Int) then 0 else s.st.getD k.toNat 0
def runRState : RunR := fun s ar K => match ar with
  | [.int .i64 k] => K (.int .i64 (stR s k)) s []
  | _ => .bad 500
theorem hRState : HookOk Try.prog 26 (hookObj 3 [.int .i64] (onR runRState)) := by
  refine ref_hook cfgRF0_ok (n := 60) (fn := Try.f26) ⟨by kernel_rfl, by kernel_rfl⟩ (by kernel_rfl) ?_
  intro M s ar K0 H
  unfold runRState at H
  split at H
  · rename_i k
    refine ⟨show 2 ≤ _ by decide +kernel, fun a b => ?_⟩
    show (runF cfgRF0 60 26 Try.f26 [.ptr 0 0, .int .i64 k] (rUp s a b) 4).holds _
    rw [trstate]
    unfold stR at H
    rw [show (V.enc Kd.int).dflt = (0 : Int) from rfl, Nat.zero_add]
    simp only [Out.holds, decide_eq_true_eq, decide_eq_false_iff_not, beq_iff_eq, beq_eq_false_iff_ne, bne_iff_ne, ne_eq, bne_eq_false_iff_eq, Bool.true_and, Bool.and_true, Bool.not_eq_true', Bool.not_eq_false', Bool.and_eq_true, Bool.or_eq_true, Bool.and_eq_false_imp, true_implies, true_and, Bool.not_true, Bool.not_false, Bool.false_eq_true, Bool.true_eq_false, false_implies, and_true, beq_self_eq_true, Decidable.not_not, not_true_eq_false, not_false_eq_true]
    refine ⟨fun h1 => ?_, fun h1 => ⟨fun h2 => ?_, fun h2 => ⟨⟨by omega, by omega⟩, by omega, ?_⟩⟩⟩
    · rw [if_pos (.inl h1)] at H
      exact ⟨_, _, _, H, endR 1 2 (by decide) rfl rfl rfl rfl rfl rfl rfl (AV.sub_lit rfl) rfl⟩
    · rw [if_pos (.inr h2)] at H
      exact ⟨_, _, _, H, endR 1 2 (by decide) rfl rfl rfl rfl rfl rfl rfl (AV.sub_lit rfl) rfl⟩
    · rw [if_neg (by omega)] at H
      exact ⟨_, _, _, H, endR 1 2 (by decide) rfl rfl rfl rfl rfl rfl rfl (AV.sub_same _) rfl⟩
  · exact H.elim
def buryR (s : RM) (k : Int) : RM := if stR s k < 2 then s else if stR s k = 3 then s else { s with st := s.st.set k.toNat 3 }
def runRBury : RunR := fun s ar K => match ar with
  | [.int .i64 k] => .all RM fun s' => .asm (s' = buryR s k) (K (.int .i64 (if stR s k < 2 then 3 else if stR s k = 3 then 8 else 0)) s' [])
  | _ => .bad 500
theorem hRBury : HookOk Try.prog 44 (hookObj 3 [.int .i64] (onR runRBury)) := by
  refine ref_hook cfgRF0_ok (n := 60) (fn := Try.f44) ⟨by kernel_rfl, by kernel_rfl⟩ (by kernel_rfl) ?_
  intro M s ar K0 H
  unfold runRBury at H
  split at H
  · rename_i k
    refine ⟨show 2 ≤ _ by decide +kernel, fun a b => ?_⟩
    show (runF cfgRF0 60 44 Try.f44 [.ptr 0 0, .int .i64 k] (rUp s a b) 4).holds _
    rw [trbury]
    have H := H _ rfl
    rw [show (V.enc Kd.int).dflt = (0 : Int) from rfl, Nat.zero_add]
    simp only [Out.holds, decide_eq_true_eq, decide_eq_false_iff_not, beq_iff_eq, beq_eq_false_iff_ne, bne_iff_ne, ne_eq, bne_eq_false_iff_eq, Bool.true_and, Bool.and_true, Bool.not_eq_true', Bool.not_eq_false', Bool.and_eq_true, Bool.or_eq_true, Bool.and_eq_false_imp, true_implies, true_and, Bool.not_true, Bool.not_false, Bool.false_eq_true, Bool.true_eq_false, false_implies, and_true, beq_self_eq_true, Decidable.not_not, not_true_eq_false, not_false_eq_true]
    refine ⟨fun h1 => ?_, fun h1 => ⟨fun h2 => ?_, fun h2 => ⟨⟨by omega, by omega⟩, by omega, ?_⟩⟩⟩
    · have hs : stR s k = 0 := by unfold stR; rw [if_pos (.inl h1)]
      unfold buryR at H
      rw [hs] at H
      exact ⟨_, _, _, H, endR 1 2 (by decide) rfl rfl rfl rfl rfl rfl rfl (AV.sub_lit rfl) rfl⟩
    · have hs : stR s k = 0 := by unfold stR; rw [if_pos (.inr h2)]
      unfold buryR at H
      rw [hs] at H
      exact ⟨_, _, _, H, endR 1 2 (by decide) rfl rfl rfl rfl rfl rfl rfl (AV.sub_lit rfl) rfl⟩
    · have hs : stR s k = s.st.getD k.toNat 0 := by unfold stR; rw [if_neg (by omega)]
      unfold buryR at H
      rw [hs] at H
      refine ⟨fun h3 => ?_, fun h3 => ⟨fun h4 => ?_, fun h4 => ⟨⟨by omega, by omega⟩, by omega, ?_⟩⟩⟩
      · rw [if_pos h3, if_pos h3] at H
        exact ⟨_, _, _, H, endR 1 2 (by decide) rfl rfl rfl rfl rfl rfl rfl (AV.sub_lit rfl) rfl⟩
      · rw [if_neg h3, if_neg h3, if_pos h4, if_pos h4] at H
        exact ⟨_, _, _, H, endR 1 2 (by decide) rfl rfl rfl rfl rfl rfl rfl (AV.sub_lit rfl) rfl⟩
      · rw [if_neg h3, if_neg h3, if_neg h4, if_neg h4] at H
        exact ⟨_, _, _, H, endR 1 2 (by decide) rfl rfl rfl (by simp) (by simp) rfl rfl (AV.sub_lit rfl) rfl⟩
  · exact H.elim
def runRWeight : RunR := fun s ar K => match ar with
  | [] => .need (s.L.length ≤ 1000000) (K (.int .i64 (IntKind.wrap .i64 (wsum s.L))) s [])
  | _ => .bad 500
theorem hRWeight : HookOk Try.prog 27 (hookObj 3 [] (onR runRWeight)) := by
  refine ref_hook cfgRW_ok (n := 60) (fn := Try.f27) ⟨by kernel_rfl, by kernel_rfl⟩ (by kernel_rfl) ?_
  intro M s ar K0 H
  unfold runRWeight at H
  split at H
  · obtain ⟨hl, H⟩ := H
    refine ⟨show 1 ≤ _ by decide +kernel, fun a b => ?_⟩
    show (runF cfgRW 60 27 Try.f27 [.ptr 0 0] (rUp s a b) 3).holds _
    rw [trweight]
    refine ⟨wgl_ok, fun q => q = ⟨s, a, b, 0, 0, 0, hl⟩, ⟨by decide, SImp.of_wk (ren := []) ⟨s, a, b, 0, 0, 0, hl⟩ (by (refine ⟨?_, ?_, rfl, tl_ok rfl, ?_, ⟨Nat.le_of_ble_eq_true rfl, rfl⟩⟩ <;> (repeat' first | with_reducible exact trivial | exact AV.sub_same _ | exact .same _ | exact .inr rfl | exact .inl (in_ok rfl) | exact AV.sub_lit' | exact AV.sub_nilS | exact .none _ _ | exact trivial | refine ⟨?_, ?_⟩))) rfl⟩, ?_⟩
    rintro _ rfl _ _
    exact ⟨_, _, _, H, endR 1 2 (by decide) rfl rfl rfl rfl rfl rfl rfl (AV.sub_same _) rfl⟩
  · exact H.elim
def runRGet : RunR := fun s ar K => match ar with
  | [.int .i64 k] => .need (s.L.length ≤ 1000000) (K (foundAV (rGet s.L k)) s [])
  | _ => .bad 500
theorem hRGet : HookOk Try.prog 45 (hookObj 3 [.int .i64] (onR runRGet)) := by
  refine ref_hook cfgRF0_ok (n := 60) (fn := Try.f45) ⟨by kernel_rfl, by kernel_rfl⟩ (by kernel_rfl) ?_
  intro M s ar K0 H
  unfold runRGet at H
  split at H
  · rename_i k
    obtain ⟨hl, H⟩ := H
    refine ⟨show 2 ≤ _ by decide +kernel, fun a b => ?_⟩
    show (runF cfgRF0 60 45 Try.f45 [.ptr 0 0, .int .i64 k] (rUp s a b) 4).holds _
    rw [trget]
    refine ⟨rfl0_ok, fun q => q = ⟨s, a, b, k, 0, 0, hl⟩, ⟨by decide, SImp.of_wk (ren := []) ⟨s, a, b, k, 0, 0, hl⟩ (by (refine ⟨?_, ?_, rfl, tl_ok rfl, ?_, ⟨Nat.le_of_ble_eq_true rfl, rfl⟩⟩ <;> (repeat' first | with_reducible exact trivial | exact AV.sub_same _ | exact .same _ | exact .inr rfl | exact .inl (in_ok rfl) | exact AV.sub_lit' | exact AV.sub_nilS | exact .none _ _ | exact trivial | refine ⟨?_, ?_⟩))) rfl⟩, ?_⟩
    rintro _ rfl
    refine ⟨fun _ hn => ?_, fun i hf => ?_⟩
    · rw [get_none hn] at H
      exact ⟨_, _, _, H, endR 1 2 (by decide) rfl rfl rfl rfl rfl rfl rfl (AV.sub_two (fun r v hv => hv) (AV.sub_ff rfl)) rfl⟩
    · have hfi := hf.1
      rw [get_first hf] at H
      rw [show (V.enc Kd.ent).dflt = e0 from rfl, Nat.zero_add]
      simp only [Out.holds, decide_eq_true_eq, decide_eq_false_iff_not, beq_iff_eq, beq_eq_false_iff_ne, bne_iff_ne, ne_eq, bne_eq_false_iff_eq, Bool.true_and, Bool.and_true, Bool.not_eq_true', Bool.not_eq_false', Bool.and_eq_true, Bool.or_eq_true, Bool.and_eq_false_imp, true_implies, true_and, Bool.not_true, Bool.not_false, Bool.false_eq_true, Bool.true_eq_false, false_implies, and_true, beq_self_eq_true, Decidable.not_not, not_true_eq_false, not_false_eq_true]
      refine ⟨fun hh => absurd hh (by omega), fun _ => ⟨⟨by omega, by dsimp only at hfi ⊢; omega⟩, hfi, _, _, _, H, endR 1 2 (by decide) rfl rfl rfl rfl rfl rfl rfl (AV.sub_two (AV.sub_of_eq rfl) (AV.sub_tt rfl)) rfl⟩⟩
  · exact H.elim
theorem outL_len (L : List Ent) (i : Nat) : (List.take i L).length + (List.take (L.length - (i + 1)) (List.drop (i + 1) L)).length = (outL L i).length := List.length_append.symm
structure RemR (s s' : RM) (k v : Int) : Prop where
  hit : ∀ i, firstAt s.L k i → s' = { s with L := outL s.L i, st := s.st.set (s.L.getD i e0).node.toNat v }
  miss : noneAt s.L k s.L.length → s' = s
def runRRem : RunR := fun s ar K => match ar with
  | [.int .i64 k] => .need (s.L.length ≤ 1000000 ∧ ∀ e ∈ s.L, 0 ≤ e.node ∧ e.node < (s.st.length : Int)) (.all RM fun s' => .asm (RemR s s' k 2) (K (foundAV (rGet s.L k)) s' []))
  | _ => .bad 500
theorem first_uniq {L : List Ent} {k : Int} {i j : Nat} (h : firstAt L k i) (g : firstAt L k j) : i = j := by
  rcases Nat.lt_trichotomy i j with hh | hh | hh
  · exact absurd h.2.1 (g.2.2 i hh)
  · exact hh
  · exact absurd g.2.1 (h.2.2 j hh)
theorem first_none {L : List Ent} {k : Int} {i : Nat} (h : firstAt L k i) (g : noneAt L k L.length) : False := g i h.1 h.2.1
theorem hRRem : HookOk Try.prog 42 (hookObj 3 [.int .i64] (onR runRRem)) := by
  refine ref_hook cfgRF0_ok (n := 60) (fn := Try.f42) ⟨by kernel_rfl, by kernel_rfl⟩ (by kernel_rfl) ?_
  intro M s ar K0 H
  unfold runRRem at H
  split at H
  · rename_i k
    obtain ⟨⟨hl, hn⟩, H⟩ := H
    refine ⟨show 2 ≤ _ by decide +kernel, fun a b => ?_⟩
    show (runF cfgRF0 60 42 Try.f42 [.ptr 0 0, .int .i64 k] (rUp s a b) 4).holds _
    rw [trrem]
    refine ⟨rfl0_ok, fun q => q = ⟨s, a, b, k, 0, 0, hl⟩, ⟨by decide, SImp.of_wk (ren := []) ⟨s, a, b, k, 0, 0, hl⟩ (by (refine ⟨?_, ?_, rfl, tl_ok rfl, ?_, ⟨Nat.le_of_ble_eq_true rfl, rfl⟩⟩ <;> (repeat' first | with_reducible exact trivial | exact AV.sub_same _ | exact .same _ | exact .inr rfl | exact .inl (in_ok rfl) | exact AV.sub_lit' | exact AV.sub_nilS | exact .none _ _ | exact trivial | refine ⟨?_, ?_⟩))) rfl⟩, ?_⟩
    rintro _ rfl
    refine ⟨fun _ hno => ?_, fun i hf => ?_⟩
    · have H := H s ⟨fun i hf => (first_none hf hno).elim, fun _ => rfl⟩
      rw [get_none hno] at H
      exact ⟨_, _, _, H, endR 1 2 (by decide) rfl rfl rfl rfl rfl rfl rfl (AV.sub_two (fun r v hv => hv) (AV.sub_ff rfl)) rfl⟩
    · have hfi : i < s.L.length := hf.1
      have hf : firstAt s.L k i := hf
      have H := H { s with L := outL s.L i, st := s.st.set (s.L.getD i e0).node.toNat 2 } ⟨fun j hj => by rw [first_uniq hj hf], fun hno => (first_none hf hno).elim⟩
      rw [get_first hf] at H
      have hm : (s.L.getD i e0) ∈ s.L := by rw [getD_of hfi]; exact List.getElem_mem hfi
      obtain ⟨n1, n2⟩ := hn _ hm
      have hw : IntKind.wrap .i64 ((i : Int) + 1) = ((i + 1 : Nat) : Int) := wrap_nat (by omega)
      rw [show (V.enc Kd.ent).dflt = e0 from rfl]
      dsimp only
      rw [hw]
      simp only [Int.toNat_natCast, Nat.zero_add, List.drop_zero, outL_len, Out.holds, decide_eq_true_eq, decide_eq_false_iff_not, beq_iff_eq, beq_eq_false_iff_ne, bne_iff_ne, ne_eq, bne_eq_false_iff_eq, Bool.true_and, Bool.and_true, Bool.not_eq_true', Bool.not_eq_false', Bool.and_eq_true, Bool.or_eq_true, Bool.and_eq_false_imp, true_implies, true_and, Bool.not_true, Bool.not_false, Bool.false_eq_true, Bool.true_eq_false, false_implies, and_true, beq_self_eq_true, Decidable.not_not, not_true_eq_false, not_false_eq_true]
      have b1 : (List.take i s.L).length ≤ 1000000 := by rw [List.length_take]; omega
      have b2 : (outL s.L i).length ≤ 2000000 := by
        rw [← outL_len]
        have : (List.take (s.L.length - (i + 1)) (List.drop (i + 1) s.L)).length ≤ 1000000 := by rw [List.length_take]; omega
        omega
      refine ⟨fun hh => absurd hh (by omega), fun _ => ⟨⟨by omega, by omega⟩, hfi, ⟨n1, n2⟩, by omega, ⟨by omega, by omega⟩, ⟨by omega, by omega⟩, by omega, by omega, fun _ => ⟨by omega, by omega, fun sp => ⟨_, _, _, H, ?_⟩⟩⟩⟩
      exact endR (a := sp) (b := b) 26 2 (by decide) rfl rfl rfl (by simp) (by simp) rfl rfl (AV.sub_two (AV.sub_of_eq rfl) (AV.sub_tt rfl)) rfl
  · exact H.elim
structure EvR (s s' : RM) (k : Int) : Prop where
  hit : ∀ i, firstNode s.L k i → s' = { s with L := outL s.L i, st := s.st.set (s.L.getD i e0).node.toNat 3 }
  miss : (∀ j, j < s.L.length → (s.L.getD j e0).node ≠ k) → s' = s
theorem node_uniq {L : List Ent} {k : Int} {i j : Nat} (h : firstNode L k i) (g : firstNode L k j) : i = j := by
  rcases Nat.lt_trichotomy i j with hh | hh | hh
  · exact absurd h.2.1 (g.2.2 i hh)
  · exact hh
  · exact absurd g.2.1 (h.2.2 j hh)
def runREv : RunR := fun s ar K => match ar with
  | [.int .i64 k] => .need (s.L.length ≤ 1000000 ∧ ∀ e ∈ s.L, 0 ≤ e.node ∧ e.node < (s.st.length : Int)) (.all RM fun s' => .asm (EvR s s' k) (K (foundAV (rNode s.L k)) s' []))
  | _ => .bad 500
theorem hREv : HookOk Try.prog 43 (hookObj 3 [.int .i64] (onR runREv)) := by
  refine ref_hook cfgRE_ok (n := 60) (fn := Try.f43) ⟨by kernel_rfl, by kernel_rfl⟩ (by kernel_rfl) ?_
  intro M s ar K0 H
  unfold runREv at H
  split at H
  · rename_i k
    obtain ⟨⟨hl, hn⟩, H⟩ := H
    refine ⟨show 2 ≤ _ by decide +kernel, fun a b => ?_⟩
    show (runF cfgRE 60 43 Try.f43 [.ptr 0 0, .int .i64 k] (rUp s a b) 4).holds _
    rw [trevict]
    refine ⟨evl_ok, fun q => q = ⟨⟨s, a, b, k, 0, 0, hl⟩, hn⟩, ⟨by decide, SImp.of_wk (ren := []) ⟨⟨s, a, b, k, 0, 0, hl⟩, hn⟩ (by (refine ⟨?_, ?_, rfl, tl_ok rfl, ?_, ⟨Nat.le_of_ble_eq_true rfl, rfl⟩⟩ <;> (repeat' first | with_reducible exact trivial | exact AV.sub_same _ | exact .same _ | exact .inr rfl | exact .inl (in_ok rfl) | exact AV.sub_lit' | exact AV.sub_nilS | exact .none _ _ | exact trivial | refine ⟨?_, ?_⟩))) rfl⟩, ?_⟩
    rintro _ rfl
    refine ⟨fun _ hno => ?_, fun z hf => ?_⟩
    · have H := H s ⟨fun i hf => absurd hf.2.1 (hno i hf.1), fun _ => rfl⟩
      rw [node_none hno] at H
      exact ⟨_, _, _, H, endR 1 2 (by decide) rfl rfl rfl rfl rfl rfl rfl (AV.sub_two (fun r v hv => hv) (AV.sub_ff rfl)) rfl⟩
    · have hf : firstNode s.L k z.1 := hf
      have H := H { s with L := outL s.L z.1, st := s.st.set (s.L.getD z.1 e0).node.toNat 3 } ⟨fun j hj => by rw [node_uniq hj hf], fun hno => absurd hf.2.1 (hno z.1 hf.1)⟩
      rw [node_first hf] at H
      exact ⟨_, _, _, H, endR (a := z.2) (b := b) 20 2 (by decide) rfl rfl rfl (by simp) (by simp) rfl rfl (AV.sub_two (AV.sub_of_eq rfl) (AV.sub_tt rfl)) rfl⟩
  · exact H.elim
theorem wR_cw (w : Int) : wR w = cw w := by unfold wR cw; repeat' split <;> omega

end Sx
end Go.Proofs.Ytohckjjbephohaa

/-
  The document's map: Put and New.
-/
namespace Go.Proofs.Ytohckjjbephohaa
namespace Sx
open Go
set_option linter.unusedSimpArgs false
set_option linter.unusedVariables false
set_option maxHeartbeats 1000000

structure PutR (s s' : RM) (k v w : Int) : Prop where
  hit : ∀ i, firstAt s.L k i → s' = { s with L := s.L.set i ⟨k, v, wR w, (s.L.getD i e0).node⟩ }
  miss : noneAt s.L k s.L.length → ∃ p, insP s.L k p ∧ s' = { s with L := s.L.take p ++ [⟨k, v, wR w, (s.st.length : Int)⟩] ++ s.L.drop p, st := s.st ++ [1] }
def runRPut : RunR := fun s ar K => match ar with
  | [.int .i64 k, .int .i64 v, .int .i64 w] => .need (s.L.length ≤ 1000000 ∧ s.st.length ≤ 1000000) (.all RM fun s' => .asm (PutR s s' k v w) (K (.tup [.agg (Ent.enc ((rGet s.L k).getD ⟨k, v, wR w, (s.st.length : Int)⟩)), .bool (rGet s.L k).isSome]) s' []))
  | _ => .bad 500
theorem hRPut : HookOk Try.prog 41 (hookObj 3 [.int .i64, .int .i64, .int .i64] (onR runRPut)) := by
  refine ref_hook cfgRP_ok (n := 60) (fn := Try.f41) ⟨by kernel_rfl, by kernel_rfl⟩ (by kernel_rfl) ?_
  intro M s ar K0 H
  unfold runRPut at H
  split at H
  · rename_i k v w
    obtain ⟨⟨hl, hst⟩, H⟩ := H
    refine ⟨show 4 ≤ _ by decide +kernel, fun a b => ?_⟩
    show (runF cfgRP 60 41 Try.f41 [.ptr 0 0, .int .i64 k, .int .i64 v, .int .i64 w] (rUp s a b) 6).holds _
    rw [trput]
    refine ⟨rfl1_ok, fun q => q = ⟨s, a, b, k, v, w, hl⟩, ⟨by decide, SImp.of_wk (ren := []) ⟨s, a, b, k, v, w, hl⟩ (by (refine ⟨?_, ?_, rfl, tl_ok rfl, ?_, ⟨Nat.le_of_ble_eq_true rfl, rfl⟩⟩ <;> (repeat' first | with_reducible exact trivial | exact AV.sub_same _ | exact .same _ | exact .inr rfl | exact .inl (in_ok rfl) | exact AV.sub_lit' | exact AV.sub_nilS | exact .none _ _ | exact trivial | refine ⟨?_, ?_⟩))) rfl⟩, ?_⟩
    rintro _ rfl
    refine ⟨fun _ hno => ?_, fun i hf => ?_⟩
    · have hno : noneAt s.L k s.L.length := hno
      dsimp only
      simp only [Out.holds, decide_eq_true_eq, decide_eq_false_iff_not, beq_iff_eq, beq_eq_false_iff_ne, bne_iff_ne, ne_eq, bne_eq_false_iff_eq, Bool.true_and, Bool.and_true, Bool.not_eq_true', Bool.not_eq_false', Bool.and_eq_true, Bool.or_eq_true, Bool.and_eq_false_imp, true_implies, true_and, Bool.not_true, Bool.not_false, Bool.false_eq_true, Bool.true_eq_false, false_implies, and_true, beq_self_eq_true, Decidable.not_not, not_true_eq_false, not_false_eq_true]
      refine ⟨by omega, fun sp => ⟨pil_ok, fun p => p = ⟨⟨s, a, b, k, v, w, hl⟩, sp⟩, ⟨by decide, SImp.of_wk (ren := []) ⟨⟨s, a, b, k, v, w, hl⟩, sp⟩ (by (refine ⟨?_, ?_, rfl, tl_ok rfl, ?_, ⟨Nat.le_of_ble_eq_true rfl, rfl⟩⟩ <;> (repeat' first | with_reducible exact trivial | exact AV.sub_same _ | exact .same _ | exact .inr rfl | exact .inl (in_ok rfl) | exact AV.sub_lit' | exact AV.sub_nilS | exact .none _ _ | exact trivial | refine ⟨?_, ?_⟩))) rfl⟩, ?_⟩⟩
      rintro _ rfl i hi
      have hi : insP s.L k i := hi
      have hil := hi.1
      have H := H { s with L := s.L.take i ++ [⟨k, v, wR w, (s.st.length : Int)⟩] ++ s.L.drop i, st := s.st ++ [1] } ⟨fun j hj => (first_none hj hno).elim, fun _ => ⟨i, hi, rfl⟩⟩
      rw [get_none hno] at H
      have ed : List.take (s.L.length - i) (List.drop i s.L) = List.drop i s.L := List.take_of_length_le (by rw [List.length_drop]; omega)
      have b1 : (List.take i s.L).length ≤ 1000000 := by rw [List.length_take]; omega
      have b2 : (List.drop i s.L).length ≤ 1000000 := by rw [List.length_drop]; omega
      have b3 : (List.take i s.L ++ [(⟨k, v, wR w, (s.st.length : Int)⟩ : Ent)]).length ≤ 1000001 := by rw [List.length_append, List.length_singleton]; omega
      have e3 : (List.take i s.L ++ [(⟨k, v, wR w, (s.st.length : Int)⟩ : Ent)]).length + (List.drop i s.L).length = (List.take i s.L ++ [(⟨k, v, wR w, (s.st.length : Int)⟩ : Ent)] ++ List.drop i s.L).length := List.length_append.symm
      have e4 : (List.take i s.L).length + 1 = (List.take i s.L ++ [(⟨k, v, wR w, (s.st.length : Int)⟩ : Ent)]).length := by rw [List.length_append, List.length_singleton]
      simp only [Nat.zero_add, List.drop_zero, ed]
      refine ⟨⟨by omega, by omega⟩, ⟨by omega, by omega⟩, ⟨?_, ?_⟩, ?_⟩
      all_goals
        refine ⟨by omega, by omega, fun _ => ⟨by omega, fun _ => ⟨by omega, by omega, fun sp2 => ⟨_, _, _, H, ?_⟩⟩⟩⟩
        exact endR (a := sp2) (b := sp) 30 22 (by decide) rfl e3 (by rw [← e3]) (by simp) (by simp) rfl rfl (AV.sub_two (AV.sub_of_eq rfl) (AV.sub_ff rfl)) rfl
    · have hf : firstAt s.L k i := hf
      have hfi : i < s.L.length := hf.1
      have H := H { s with L := s.L.set i ⟨k, v, wR w, (s.L.getD i e0).node⟩ } ⟨fun j hj => by rw [first_uniq hj hf], fun hno => (first_none hf hno).elim⟩
      rw [get_first hf] at H
      rw [show (V.enc Kd.ent).dflt = e0 from rfl]
      dsimp only
      simp only [Nat.zero_add, Out.holds, decide_eq_true_eq, decide_eq_false_iff_not, beq_iff_eq, beq_eq_false_iff_ne, bne_iff_ne, ne_eq, bne_eq_false_iff_eq, Bool.true_and, Bool.and_true, Bool.not_eq_true', Bool.not_eq_false', Bool.and_eq_true, Bool.or_eq_true, Bool.and_eq_false_imp, true_implies, true_and, Bool.not_true, Bool.not_false, Bool.false_eq_true, Bool.true_eq_false, false_implies, and_true, beq_self_eq_true, Decidable.not_not, not_true_eq_false, not_false_eq_true]
      refine ⟨fun _ => ⟨⟨by omega, by omega⟩, hfi, ⟨by omega, by omega⟩, hfi, _, _, _, H, ?_⟩, fun hh => absurd (by omega) hh⟩
      exact endR (a := a) (b := b) 1 2 (by decide) rfl (by simp) (by simp) rfl rfl rfl rfl (AV.sub_two (AV.sub_of_eq rfl) (AV.sub_tt rfl)) rfl
  · exact H.elim

/-! ## a new one -/
theorem cnt_if (n : Int) : ((cntN n : Nat) : Int) = if 1 < n then if 2 < n then if 4 < n then if 8 < n then if 16 < n then if 32 < n then 64 else 32 else 16 else 8 else 4 else 2 else 1 := by
  have h64 := ceil64 n
  have hc : ((cntN n : Nat) : Int) = ceilR 64 1 n 64 := by unfold cntN; omega
  have hs : ∀ i, ceilR i 64 n 64 = 64 := fun i => ceilR_stop (by omega)
  have s : ∀ (i : Nat) (a : Int), ceilR (i + 1) a n 64 = if a < n ∧ a < 64 then ceilR i (2 * a) n 64 else a := fun i a => rfl
  rw [hc, s, s, s, s, s, s]
  have e : ceilR 58 (2 * (2 * (2 * (2 * (2 * (2 * 1)))))) n 64 = 64 := hs 58
  rw [e]
  repeat' split <;> omega
def runRNew : RunFree V := fun ar K => match ar with
  | [.int .i64 n, .int .i64 s] => K (.ptr 0 0) [.obj (oR ⟨(cntN n : Int), s, [], [0]⟩)]
  | _ => .bad 500
theorem endRNew {n' : Nat} {h' : Heap V} {s c d : Int} (he : c = d)
    (h0 : h'.get 3 = some (.cells 48 [.lit .i64 c, .int .i64 s, .nilS, .sl true 2 0 1 1 1])) (h1 : h'.get 9 = none) (h2 : h'.get 2 = some (.arr 3 Kd.int [0] 0)) :
    EndFree n' (.ptr 3 0) h' (.ptr 0 0) [.obj (oR ⟨d, s, [], [0]⟩)] := by
  subst he
  refine ⟨_, pack (ren := [(0, 3), (1, 9), (2, 2)]) laid_V (x := oR ⟨c, s, [], [0]⟩) (n := 3) (m := 3) (h := h') (hp := [(1, .arr 28 Kd.ent [] 0), (2, .arr 3 Kd.int [0] 0)]) ⟨Heap.up (rBlk ⟨c, s, [], [0]⟩ (0, 0)), rfl, rBlk ⟨c, s, [], [0]⟩ (0, 0), rfl, rfl, (0, 0), rfl⟩ rfl rfl ⟨?_, ?_, ?_, trivial⟩ rfl, ⟨⟨fun _ => 3, ⟨?_, trivial⟩, AV.sub_same _⟩, rfl, rfl⟩⟩
  · show BSub (h'.get 3) _
    rw [h0]
    exact BSub.cells _ _ _ (AV.subL_cons AV.sub_lit' (AV.subL_cons (AV.sub_same _) (AV.subL_cons AV.sub_nilS (AV.subL_cons (AV.sub_sl rfl rfl) AV.subL_nil))))
  · show BSub ((h'.del 3).get 9) _
    rw [Heap.get_del_ne (by decide), h1]; exact .none _ _
  · show BSub (((h'.del 3).del 9).get 2) _
    rw [Heap.get_del_ne (by decide), Heap.get_del_ne (by decide), h2]; exact .same _
  · exact BSub.of_eq rfl
theorem hRNew : HookOk Try.prog 23 (hookFree [.int .i64, .int .i64] runRNew) := by
  refine free_hook (C := cfgRN) ⟨tab_met, kinds_met, mixed_met, fun g fn h => ?_, fun g H h => (by cases h)⟩ (n := 60) (fn := Try.f23) ⟨by kernel_rfl, by kernel_rfl⟩ (by kernel_rfl) ?_
  · unfold cfgRN at h
    dsimp only at h
    split at h <;> cases h <;> exact ⟨by kernel_rfl, by kernel_rfl⟩
  intro M ar K0 H
  unfold runRNew at H
  split at H
  · rename_i n s
    refine ⟨show 2 ≤ _ by decide +kernel, ?_⟩
    show (runF cfgRN 60 23 Try.f23 [.int .i64 n, .int .i64 s] [] 2).holds _
    rw [trnew]
    rw [cnt_if] at H
    simp only [Out.holds, decide_eq_true_eq, decide_eq_false_iff_not, beq_iff_eq, beq_eq_false_iff_ne, bne_iff_ne, ne_eq, bne_eq_false_iff_eq, Bool.true_and, Bool.and_true, Bool.not_eq_true', Bool.not_eq_false', Bool.and_eq_true, Bool.or_eq_true, Bool.and_eq_false_imp, true_implies, true_and, Bool.not_true, Bool.not_false, Bool.false_eq_true, Bool.true_eq_false, false_implies, and_true, beq_self_eq_true, Decidable.not_not, not_true_eq_false, not_false_eq_true]
    refine ⟨?_, ?_⟩
    all_goals
      repeat' first | apply And.intro | intro _
    all_goals first
      | decide
      | omega
      | (refine ⟨_, _, H, endRNew ?_ rfl rfl rfl⟩
         simp only [*, if_true, if_false, reduceIte])
  · exact H.elim

end Sx
end Go.Proofs.Ytohckjjbephohaa

/-
  The document's map unpacked, where a law looks into it itself; and packed again.
-/
namespace Go.Proofs.Ytohckjjbephohaa
namespace Sx
open Go
set_option linter.unusedSimpArgs false
set_option linter.unusedVariables false

def rOpen (s : RM) (id nx : Nat) (q : Nat × Nat) : Heap V :=
  [(id, .cells 48 [.int .i64 s.n, .int .i64 s.seed, .sl false (nx + 1) 0 4 s.L.length (s.L.length + q.1), .sl false (nx + 2) 0 1 s.st.length (s.st.length + q.2)]),
   (nx + 1, .arr 28 Kd.ent s.L q.1), (nx + 2, .arr 3 Kd.int s.st q.2)]
def openY (id : Nat) : GhostS V := fun h nx K => match h.get id with
  | some (.obj (.inl (.inr s))) => bif Nat.blt id nx then .all (Nat × Nat) fun q => K (h.del id ++ rOpen s id nx q) (nx + 3) [id] else .bad 470
  | _ => K h nx []
theorem openY_ok (id : Nat) : GhostOk (openY id) := by
  intro M h nx K H β r w hs hf
  unfold openY at H
  split at H
  · rename_i s hg
    rw [holds_bif] at H
    split at H
    · rename_i hid
      rw [Nat.blt_eq] at hid
      obtain ⟨hp, n, r', ht, g1, g2, g3⟩ := unpack_ghost laid_V hg hid hs hf
      obtain ⟨rfl, a, b, rfl⟩ := tmV_ref ht
      refine ⟨_, _, _, r', H (a, b), g1, g2, g3, Kept.of fun i B e hn => ?_⟩
      have hne : i ≠ id := fun hh => hn (by simp [hh])
      have hdel : (h.del id).get i = some B := by rw [Heap.get_del_ne hne]; exact e
      have app : ∀ (a b : Heap V), a.get i = some B → Heap.get (a ++ b) i = some B := by
        intro a b
        induction a with
        | nil => intro e; cases e
        | cons q a ih =>
          obtain ⟨j, C⟩ := q
          intro e
          show (bif Nat.beq j i then some C else Heap.get (a ++ b) i) = some B
          change (bif Nat.beq j i then some C else Heap.get a i) = some B at e
          cases hh : Nat.beq j i with
          | true => rw [hh] at e; exact e
          | false => rw [hh] at e; exact ih e
      exact app _ _ hdel
    · exact H.elim
  · exact ⟨h, nx, [], r, H, Nm.le.refl r, hf, hs, Kept.refl _ _⟩

def packY (id : Nat) : GhostS V := fun h nx K => match h.get id with
  | some (.obj _) => K h nx []
  | some (.cells T [.int .i64 n, .int .i64 sd, .sl _ a 0 4 n1 c1, .sl _ b 0 1 n2 c2]) =>
    (match h.get a, h.get b with
      | some (.arr T1 Kd.ent L s1), some (.arr T2 Kd.int st s2) =>
        bif decide (T = 48 ∧ T1 = 28 ∧ T2 = 3) && decide (a ≠ id ∧ b ≠ id ∧ a ≠ b) then
          .need ((n1 = L.length ∧ c1 = L.length + s1) ∧ (n2 = st.length ∧ c2 = st.length + s2))
            (K ((id, .obj (oR ⟨n, sd, L, st⟩)) :: ((h.del id).del a).del b) nx [id, a, b])
        else .bad 472
      | _, _ => .bad 473)
  | _ => .bad 474
theorem packY_ok (id : Nat) : GhostOk (packY id) := by
  intro M h nx K H β r w hs hf
  unfold packY at H
  split at H
  · exact ⟨h, nx, [], r, H, Nm.le.refl r, hf, hs, Kept.refl _ _⟩
  · rename_i T n sd k1 a n1 c1 k2 b n2 c2 hg
    split at H
    · rename_i T1 L s1 T2 st s2 g1 g2
      rw [holds_bif] at H
      split at H
      · rename_i hc
        simp only [Bool.and_eq_true, decide_eq_true_eq] at hc
        obtain ⟨⟨rfl, rfl, rfl⟩, hne⟩ := hc
        obtain ⟨⟨⟨rfl, rfl⟩, rfl, rfl⟩, H⟩ := H
        have hp : HImp nx h _ := pack (ren := [(0, id), (1, a), (2, b)]) laid_V (x := oR ⟨n, sd, L, st⟩) (n := 3) (m := id) (h := h) (n' := nx) (hp := [(1, .arr 28 Kd.ent L s1), (2, .arr 3 Kd.int st s2)]) ⟨Heap.up (rBlk ⟨n, sd, L, st⟩ (s1, s2)), rfl, rBlk ⟨n, sd, L, st⟩ (s1, s2), rfl, rfl, (s1, s2), rfl⟩ rfl rfl ?_ rfl
        · obtain ⟨hm, A, hd, hap, hin⟩ := hs
          obtain ⟨B1, B2, p1, p2, rfl⟩ := hp _ _ _ hf hd
          refine ⟨_, _, _, r, H, Nm.le.refl r, hf, ⟨hm, B1, p1, (Hp.join_apart.1 hap).1, ((Hp.inW_join p2).1 hin).1⟩, Kept.of fun i B e hn => ?_⟩
          simp only [List.mem_cons, List.not_mem_nil, or_false, not_or] at hn
          rw [Heap.get_cons_ne hn.1, Heap.get_del_ne hn.2.2, Heap.get_del_ne hn.2.1, Heap.get_del_ne hn.1]
          exact e
        · refine ⟨?_, ?_, ?_, trivial⟩
          · show BSub (h.get id) _
            rw [hg]
            exact BSub.cells 48 _ _ (AV.subL_cons (AV.sub_same _) (AV.subL_cons (AV.sub_same _) (AV.subL_cons (AV.sub_sl rfl rfl) (AV.subL_cons (AV.sub_sl rfl rfl) AV.subL_nil))))
          · show BSub ((h.del id).get a) _
            rw [Heap.get_del_ne hne.1, g1]; exact BSub.same _
          · show BSub (((h.del id).del a).get b) _
            rw [Heap.get_del_ne hne.2.2.symm, Heap.get_del_ne hne.2.1, g2]; exact BSub.same _
      · exact H.elim
    · exact H.elim
  · exact H.elim

end Sx
end Go.Proofs.Ytohckjjbephohaa

