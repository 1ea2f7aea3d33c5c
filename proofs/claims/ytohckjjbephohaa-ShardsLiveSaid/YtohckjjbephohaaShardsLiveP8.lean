/-
  Entries sorted by their keys: what the library's function does, told for all callers.
-/
import Derived.Test.YtohckjjbephohaaShardsLiveP7
import Derived.Shelf.SlSortCmp.NoneTotal
namespace Go.Proofs.Ytohckjjbephohaa
open Go.RowKit Go.Sort Go.Shelf
namespace Sx
open Go
set_option linter.unusedSimpArgs false
set_option linter.unusedVariables false

def encE (e : Ent) : List Value := [.int .i64 e.key, .int .i64 e.value, .int .i64 e.weight, .int .i64 e.node]
instance : Inhabited Ent := ⟨e0⟩
def cmpE (x y : Ent) : Int := Lib.compareInt x.key y.key

set_option maxHeartbeats 1000000 in
theorem closure_map (x y : Ent) (W : World) : Calls Try.prog 38 #[.agg (encE x).toArray, .agg (encE y).toArray] W fun e w' => e = .returned (.int .i64 (cmpE x y)) ∧ ∃ q os', w' = grow (W.drewN q) os' := by
  have hcon := fun W' => AnyG.cmp_Compare_int Try.cmpL x.key y.key W'
  change ∀ W', Calls Try.prog 39 _ _ _ at hcon
  unfold cmpE
  generalize Lib.compareInt x.key y.key = r at hcon ⊢
  show Calls Try.prog 38 #[.agg #[.int .i64 x.key, .int .i64 x.value, .int .i64 x.weight, .int .i64 x.node], .agg #[.int .i64 y.key, .int .i64 y.value, .int .i64 y.weight, .int .i64 y.node]] W _
  go_enter Try.func38, Try.ntmps38
  go_wp2_with (go_at_call 39; refine (hcon _).mono ?_; rintro e w' ⟨rfl, rfl⟩)
  go_ret
  exact ⟨rfl, 0, _, by rw [alloc_eq_grow, alloc_eq_grow, grow_grow]; rfl⟩
set_option maxHeartbeats 1000000 in
theorem closure_tab (x y : Ent) (W : World) : Calls Try.prog 54 #[.agg (encE x).toArray, .agg (encE y).toArray] W fun e w' => e = .returned (.int .i64 (cmpE x y)) ∧ ∃ q os', w' = grow (W.drewN q) os' := by
  have hcon := fun W' => AnyG.cmp_Compare_int Try.cmpL x.key y.key W'
  change ∀ W', Calls Try.prog 39 _ _ _ at hcon
  unfold cmpE
  generalize Lib.compareInt x.key y.key = r at hcon ⊢
  show Calls Try.prog 54 #[.agg #[.int .i64 x.key, .int .i64 x.value, .int .i64 x.weight, .int .i64 x.node], .agg #[.int .i64 y.key, .int .i64 y.value, .int .i64 y.weight, .int .i64 y.node]] W _
  go_enter Try.func54, Try.ntmps54
  go_wp2_with (go_at_call 39; refine (hcon _).mono ?_; rintro e w' ⟨rfl, rfl⟩)
  go_ret
  exact ⟨rfl, 0, _, by rw [alloc_eq_grow, alloc_eq_grow, grow_grow]; rfl⟩

theorem cmp_lt (x y : Ent) : ltOf cmpE x y = decide (x.key < y.key) := by
  unfold ltOf cmpE Lib.compareInt
  by_cases h1 : x.key < y.key
  · simp [h1]
  · by_cases h2 : x.key > y.key <;> simp [h1, h2]
theorem swo_key : SWO (ltOf cmpE) := by
  refine ⟨fun x => ?_, fun x y z h k => ?_, fun x y z h k => ?_⟩
  · rw [cmp_lt]; simp
  · rw [cmp_lt] at *; simp at *; omega
  · rw [cmp_lt] at *; simp at *; omega

/-! ## rows of entries in memory -/
theorem relL_ent {r : Nm} {e : Ent} {vs : List Value} (h : relL r (Ent.enc e) vs) : vs = encE e := by
  simp only [Ent.enc, relL, rel] at h
  obtain ⟨v, us, rfl, rfl, v2, us2, rfl, rfl, v3, us3, rfl, rfl, v4, us4, rfl, rfl, rfl⟩ := h
  rfl
theorem ent_relL (r : Nm) (e : Ent) : relL r (Ent.enc e) (encE e) := relL_cons.2 ⟨rfl, relL_cons.2 ⟨rfl, relL_cons.2 ⟨rfl, relL_cons.2 ⟨rfl, relL_nil⟩⟩⟩⟩
theorem encE_get (e : Ent) {j : Nat} (h : j < 4) : (encE e)[j]? = some ((encE e)[j]!) := by
  have : j < (encE e).length := h
  rw [List.getElem?_eq_getElem this, getElem!_pos _ j this]
theorem getA {xs : List Ent} {i : Nat} (h : i < xs.length) : xs.toArray[i]! = xs[i] := by rw [getElem!_pos _ i (by simpa using h)]; simp

theorem holds_row {w : World} {b T : Nat} {c : Array Value} {r : Nm} {xs : List Ent} (hb : w.heap[b]? = some (.cells c T (0, 0))) (hrow : rowAt Ent.lay r xs c 0) : HoldsK encE 4 w b 0 xs.toArray := by
  intro j hj
  rw [size_flatK] at hj
  have hj : j < xs.length * 4 := by simpa using hj
  rw [get_flatK _ _ _ _ (by simpa using hj)]
  have hi : j / 4 < xs.length := by omega
  have h1 := relL_ent (hrow (j / 4) xs[j / 4] (List.getElem?_eq_getElem hi))
  have h2 : (encE xs[j / 4])[j % 4]? = c[j]? := by
    rw [← h1]
    rw [List.getElem?_take, if_pos (show j % 4 < Ent.lay.w by show j % 4 < 4; omega), List.getElem?_drop]
    rw [show 0 + j / 4 * Ent.lay.w + j % 4 = j by show 0 + j / 4 * 4 + j % 4 = j; omega]
    simp
  refine ⟨?_, ?_⟩
  · rw [cell_of_row w b (0 + j) c T (0, 0) hb, Nat.zero_add, ← h2, encE_get _ (by omega), getA hi]; rfl
  · simp [World.frozen?, hb]

theorem heap_sort {w : World} {b T : Nat} {c : Array Value} (hb : w.heap[b]? = some (.cells c T (0, 0))) (d : Array Ent) (n : Nat) (os : Array Obj) :
    (sortWorldK encE 4 w b 0 n d os).heap[b]? = some (.cells (putCells id 0 (flatK encE 4 d) c) T (0, 0)) ∧ (∀ x, x ≠ b → x < w.heap.size → (sortWorldK encE 4 w b 0 n d os).heap[x]? = w.heap[x]?) ∧
    (sortWorldK encE 4 w b 0 n d os).os = w.os ∧ (sortWorldK encE 4 w b 0 n d os).output = w.output ∧ (sortWorldK encE 4 w b 0 n d os).tape = w.tape := by
  have hlt : b < w.heap.size := (Array.getElem?_eq_some_iff.1 hb).1
  have hsz : (putRowK encE 4 (Sort.ahead w n) b 0 d).heap.size = w.heap.size := size_putRowK ..
  refine ⟨?_, fun x hx hl => ?_, rfl, rfl, rfl⟩
  · unfold sortWorldK
    rw [heap_grow_old _ _ (by rw [hsz]; exact hlt)]
    show (w.heap.modify b (onCells (putCells id 0 (flatK encE 4 d))))[b]? = _
    rw [Array.getElem?_modify, if_pos rfl, hb]; rfl
  · unfold sortWorldK
    rw [heap_grow_old _ _ (by rw [hsz]; exact hl)]
    show (w.heap.modify b (onCells (putCells id 0 (flatK encE 4 d))))[x]? = _
    rw [Array.getElem?_modify, if_neg (Ne.symm hx)]

theorem row_sorted {c : Array Value} {d : Array Ent} {r : Nm} (hs : d.size * 4 ≤ c.size) : rowAt Ent.lay r d.toList (putCells id 0 (flatK encE 4 d) c) 0 ∧ (putCells id 0 (flatK encE 4 d) c).size = c.size := by
  refine ⟨fun i x hx => ?_, by simp [putCells]⟩
  have hi : i < d.toList.length := (List.getElem?_eq_some_iff.1 hx).1
  have hi' : i < d.size := by simpa using hi
  have hxe : d[i]! = x := by
    rw [getElem!_pos d i hi']
    have := (List.getElem?_eq_some_iff.1 hx).2
    simpa using this
  have : ((putCells id 0 (flatK encE 4 d) c).toList.drop (0 + i * Ent.lay.w)).take Ent.lay.w = encE x := by
    apply List.ext_getElem?
    intro j
    show (List.take 4 (List.drop (0 + i * 4) (putCells id 0 (flatK encE 4 d) c).toList))[j]? = _
    rw [List.getElem?_take]
    by_cases hj : j < 4
    · rw [if_pos hj, List.getElem?_drop, encE_get _ hj]
      have hk : i * 4 + j < d.size * 4 := by omega
      have e1 : (putCells id 0 (flatK encE 4 d) c).toList[0 + i * 4 + j]? = (putCells id 0 (flatK encE 4 d) c)[i * 4 + j]? := by simp
      rw [e1]
      unfold putCells
      rw [Array.getElem?_mapIdx, Array.getElem?_eq_getElem (show i * 4 + j < c.size by omega)]
      simp only [Option.map_some, id, Nat.zero_le, true_and, Nat.zero_add, size_flatK, hk, if_true, Nat.sub_zero]
      rw [get_flatK _ _ _ _ hk, show (i * 4 + j) / 4 = i by omega, show (i * 4 + j) % 4 = j by omega, hxe]
    · rw [if_neg hj, List.getElem?_eq_none (by show 4 ≤ j; omega)]
  rw [this]; exact ent_relL r x

def isCmp (g : Nat) : Bool := Nat.beq g 38 || Nat.beq g 54
def sortGo (id w st len : Nat) (h : Heap V) (nx : Nat) (K : AV → Heap V → Nat → List Nat → Out V) : Option (Blk V) → Out V
  | some (.arr T .ent xs sp) => bif Nat.beq w 4 then .need (st = 0 ∧ len = xs.length ∧ xs.length ≤ 1099511627776) (.all (List Ent) fun ys => .asm (ys.Perm xs ∧ ys.Pairwise (fun a b => a.key ≤ b.key)) (K (.tup []) (h.set id (.arr T .ent ys sp)) nx [id])) else .bad 551
  | _ => .bad 552
def hookSort : HookS V := fun args h nx K => match args with
  | [.sl _ id st w len _, .fn g [] []] => bif isCmp g then sortGo id w st len h nx K (h.get id) else .bad 553
  | _ => .bad 554

/-- One block of ours written anew, and new blocks that are none's. -/
theorem Sat.writeNew {β : Base} {r : Nm} {hp : Heap V} {w w' : World} (k : Sat β r hp w) {id : Nat} {B B' : Blk V} (hg : hp.get id = some B)
    {b : Nat} (o' : Obj) (hone : ∀ H1, B.den β.G r id H1 → ∃ o, H1 = Hp.one b o)
    (hB : B'.den β.G r id (Hp.one b o')) (hw : w'.heap[b]? = some o') (hs : ∀ x, x ≠ b → x < w.heap.size → w'.heap[x]? = w.heap[x]?)
    (h1 : w'.os = w.os) (h2 : w'.output = w.output) (h3 : w'.tape = w.tape) : Sat β r (hp.set id B') w' := by
  obtain ⟨a, H, p, c, d⟩ := k
  obtain ⟨H1, H2, q1, q2, q3, _, q5⟩ := Heap.focus p hg
  obtain ⟨o, rfl⟩ := hone H1 q1
  subst q3
  have c' := Hp.join_apart.1 c
  have ap : (Hp.one b o').apart H2 := Hp.one_apart.2 (Hp.one_apart.1 q2)
  have apG : (Hp.one b o').apart β.G := Hp.one_apart.2 (Hp.one_apart.1 c'.1)
  have d' := (Hp.inW_join q2).1 d
  have keep : ∀ {A : Hp}, A.inW w → A b = none → A.inW w' := fun {A} hA hb x o e => by
    rw [hs x (fun hx => by rw [hx, hb] at e; cases e) (Hp.lt hA e)]; exact hA x o e
  exact ⟨⟨h1.trans a.os, h2.trans a.output, h3.trans a.tape, keep a.G (Hp.one_apart.1 c'.1)⟩, (Hp.one b o').join H2, q5 r B' _ (Nm.le.refl r) hB ap, Hp.join_apart.2 ⟨apG, c'.2⟩, (Hp.inW_join ap).2 ⟨Hp.inW_one.2 hw, keep d'.2 (Hp.one_apart.1 q2)⟩⟩

theorem Sat.setSame {β : Base} {r : Nm} {hp : Heap V} {w : World} (k : Sat β r hp w) {id : Nat} {B : Blk V} (hg : hp.get id = some B) : Sat β r (hp.set id B) w := by
  obtain ⟨a, H, p, c, d⟩ := k
  obtain ⟨H1, H2, q1, q2, q3, _, q5⟩ := Heap.focus p hg
  subst q3
  exact ⟨a, _, q5 r B H1 (Nm.le.refl r) q1 q2, c, d⟩

theorem hSort : HookOk Try.prog 37 hookSort := by
  intro M args h nx K H
  unfold hookSort at H
  split at H
  · rename_i kn id st wd len cap g
    rw [holds_bif] at H
    split at H
    · rename_i hg
      unfold sortGo at H
      split at H
      · rename_i T xs sp hB
        rw [holds_bif] at H
        split at H
        · rename_i hw
          have hw := Nat.eq_of_beq_eq_true hw
          subst hw
          obtain ⟨⟨h0, hl, h2⟩, H⟩ := H
          subst h0; subst hl
          refine ⟨⟨Try.f37, by kernel_rfl, by kernel_rfl, by kernel_rfl⟩, fun β r vs w hr hs hfresh => ?_⟩
          simp only [relL] at hr
          obtain ⟨v0, us, rfl, ⟨a, rfl, hlc, ha⟩, v1, us1, rfl, ⟨u1, u2, hu1, hu2, rfl⟩, rfl⟩ := hr
          have hu1 : u1 = [] := hu1
          have hu2 : u2 = [] := hu2
          subst hu1; subst hu2
          rcases Nat.eq_zero_or_pos xs.length with hz | h1
          · have hx : xs = [] := List.length_eq_zero_iff.1 hz
            have hS := AnyF.slices_SortFunc_none Try.sortFL a cap (.func (.func g) #[] #[]) w
            rw [← hz] at hS
            refine Calls.mono (show Calls Try.prog 37 _ w _ from hS) fun e w' hh => ?_
            obtain ⟨rfl, rfl⟩ := hh
            exact ⟨_, _, _, _, _, r, rfl, H xs ⟨List.Perm.refl _, by rw [hx]; exact List.Pairwise.nil⟩, Nm.le.refl r, hfresh, ⟨[], relL_nil, rfl⟩, Sat.setSame hs hB, Kept.of fun i B hi hn => by rw [Heap.get_set_ne (by simpa using hn)]; exact hi⟩
          obtain ⟨H1, hden, hinw, _⟩ := hs.at hB
          rcases hden with ⟨hz, _⟩ | ⟨b, c, hb, hrow, hsz, hmx, rfl⟩
          · omega
          have hblk := Hp.inW_one.1 hinw
          have hlt : b < w.heap.size := (Array.getElem?_eq_some_iff.1 hblk).1
          have haddr : a = some ⟨b, 0, none⟩ := by
            rcases ha with h0 | ⟨y, hy, e⟩
            · omega
            · rw [hb] at hy; cases hy; rw [e]
          subst haddr
          have hcl : (∀ x y W, Calls Try.prog g #[.agg (encE x).toArray, .agg (encE y).toArray] W fun e w' => e = .returned (.int .i64 (cmpE x y)) ∧ ∃ q os', w' = grow (W.drewN q) os') ∧ ∀ args w, (callFunc g args).run Try.prog w = .ok (.enter g args) w := by
            unfold isCmp at hg
            simp only [Bool.or_eq_true] at hg
            rcases hg with hg | hg
            · have := Nat.eq_of_beq_eq_true hg; subst this
              exact ⟨closure_map, enters_of Try.func38 (by kernel_rfl) rfl⟩
            · have := Nat.eq_of_beq_eq_true hg; subst this
              exact ⟨closure_tab, enters_of Try.func54 (by kernel_rfl) rfl⟩
          have hS := AnyQ.slices_SortFunc Try.sortFL 4 Try.isAgg28 Try.sizeOf28 encE (fun _ => rfl) (fun x v hv => by simp [encE] at hv; rcases hv with rfl | rfl | rfl | rfl <;> rfl) cmpE swo_key g #[] b 0 cap xs.toArray w hcl.2 (fun _ _ _ _ x y => hcl.1 x y _) (holds_row hblk hrow) hlt (by simp; omega)
          have hsize : xs.toArray.size = xs.length := by simp
          rw [hsize] at hS
          refine Calls.mono (show Calls Try.prog 37 _ w _ from hS) fun e w' hh => ?_
          obtain ⟨rfl, d', n, os, hp, hso, rfl⟩ := hh
          obtain ⟨hd1, _, hd3⟩ := hp
          have hds : d'.size = xs.length := by rw [hd1]; simp
          have hperm : d'.toList.Perm xs := by
            have e1 : d'.extract 0 xs.length = d' := by rw [← hds]; simp
            have e2 : xs.toArray.extract 0 xs.length = xs.toArray := by rw [← hsize]; simp
            rw [e1, e2] at hd3; simpa using hd3
          have hpw : d'.toList.Pairwise (fun a b => a.key ≤ b.key) := by
            rw [List.pairwise_iff_getElem]
            intro i j hi hj hij
            have hi' : i < d'.size := by simpa using hi
            have hj' : j < d'.size := by simpa using hj
            have := hso i j (Nat.zero_le _) hij (by omega)
            rw [cmp_lt, getElem!_pos d' i hi', getElem!_pos d' j hj'] at this
            simp at this ⊢
            exact this
          obtain ⟨s1, s2, s3, s4, s5⟩ := heap_sort hblk d' n os
          have hcs : d'.size * 4 ≤ c.size := by rw [hsz, hds]; show _ ≤ (xs.length + sp) * 4; omega
          obtain ⟨t1, t2⟩ := row_sorted (r := r) hcs
          have hln : d'.toList.length = xs.length := by simpa using hds
          refine ⟨_, _, _, _, _, r, rfl, H d'.toList ⟨hperm, hpw⟩, Nm.le.refl r, hfresh, ⟨[], relL_nil, rfl⟩, ?_, Kept.of fun i B hi hn => by rw [Heap.get_set_ne (by simpa using hn)]; exact hi⟩
          refine Sat.writeNew hs hB (b := b) (.cells (putCells (fun x => x) 0 (flatK encE 4 d') c) T (0, 0)) ?_ (.inr ⟨b, _, hb, t1, ?_, ?_, rfl⟩) s1 s2 s3 s4 s5
          · rintro Hx (⟨hz, _⟩ | ⟨b', c', hb', _, _, _, rfl⟩)
            · omega
            · rw [hb] at hb'; cases hb'; exact ⟨_, rfl⟩
          · rw [t2, hln]; exact hsz
          · rw [hln]; exact hmx
        · exact H.elim
      · exact H.elim
    · exact H.elim
  · exact H.elim

end Sx
end Go.Proofs.Ytohckjjbephohaa

/-
  Tables: the runs of the machine.
-/
namespace Go.Proofs.Ytohckjjbephohaa
namespace Sx
open Go
set_option maxRecDepth 100000
set_option linter.unusedVariables false

noncomputable def hooksAll : Nat → Option (HookS V) := fun g => match g with | 37 => some hookSort | _ => none
noncomputable def cfgAll : Cfg Try.prog V := ⟨tab, kinds, fun _ => none, hooksAll, fun _ _ => none⟩
structure PAll where
  p : Pool
  j : Int
  a0 : Option (Nat × Nat)
  n0 : Nat
  c0 : Nat
  a1 : Option (Nat × Nat)
  n1 : Nat
  c1 : Nat
  row : Option (Nat × Nat)
  n : Nat
  c : Nat
  i : Int
structure XAll where
  x : Option (Nat × Nat)
  ys : List Ent
  sp : Nat
def AI4 (q : PAll) (z : XAll) : St V := ⟨[(22, .lit .i64 2), (21, .sl true 2 0 1 2 2), (23, .lit .i64 q.j), (27, .rs q.row q.n q.c), (28, .int .i64 (q.n : Int)), (29, .int .i64 q.i), (3, .sl false 8 0 4 z.ys.length (z.ys.length + z.sp)), (7, .rp z.x)],
  [(8, .arr 28 .ent z.ys z.sp), (2, .cells 69 [.rs q.a0 q.n0 q.c0, .rs q.a1 q.n1 q.c1]), (0, .pool q.p)], 9, 51, TQ⟩
theorem tball4 (q : PAll) (z : XAll) : runCode cfgAll 60 36 (loopOf Try.f36 4) (AI4 q z) (stopT (trimSt [3, 7, 21, 22, 23, 27, 28, 29] [0, 2, 8, 9, 10])) = Out.ite (!z.x.isNone) (Out.need (z.x.isSome = true) (Out.need (z.x.isSome = true) (Out.ex Int fun y => Out.ex Int fun y_1 => Out.ex Int fun y_2 => Out.ex Int fun y_3 => Out.need (q.p.at (shiftA z.x (0 : Nat)) [PD.int .i64 y, PD.int .i64 y_1, PD.int .i64 y_2, PD.int .i64 y_3]) (Out.need ((0 : Nat) = (0 : Nat) ∧ z.ys.length = z.ys.length ∧ z.ys.length + z.3 = z.ys.length + z.3 ∧ (z.ys.length + (1 : Nat)) * (32 : Nat) ≤ (140737488355328 : Nat)) (Out.all Nat fun y_4 => Out.need (z.x.isSome = true) (Out.need (z.x.isSome = true) (Out.ex (Option (Nat × Nat)) fun y_5 => Out.need (q.p.at (shiftA z.x (4 : Nat)) [PD.ptr y_5]) (Out.stop EX.nx {env := [((3 : Nat), .sl false (10 : Nat) (0 : Nat) (4 : Nat) (z.ys.length + (1 : Nat)) (z.ys.length + (1 : Nat) + y_4)), ((7 : Nat), AV.rp y_5), ((21 : Nat), .sl true (2 : Nat) (0 : Nat) (1 : Nat) (2 : Nat) (2 : Nat)), ((22 : Nat), .lit .i64 (2 : Int)), ((23 : Nat), .lit .i64 q.j), ((27 : Nat), AV.rs q.row q.10 q.11), ((28 : Nat), .int .i64 (↑q.10 : Int)), ((29 : Nat), .int .i64 q.i)], heap := [((10 : Nat), .arr (28 : Nat) Kd.ent (z.ys ++ [{key := y, value := y_1, weight := y_2, node := y_3 : Ent }]) y_4), ((9 : Nat), .cells (28 : Nat) [.int .i64 y, .int .i64 y_1, .int .i64 y_2, .int .i64 y_3]), ((2 : Nat), .cells (69 : Nat) [AV.rs q.a0 q.4 q.5, AV.rs q.a1 q.7 q.8]), ((0 : Nat), Blk.pool q.p)], nx := (11 : Nat), nt := (51 : Nat), tl := [(8 : Nat), (0 : Nat), (1 : Nat), (2 : Nat), (3 : Nat), (4 : Nat), (5 : Nat), (6 : Nat), (7 : Nat), (8 : Nat), (9 : Nat), (10 : Nat), (11 : Nat), (12 : Nat), (13 : Nat), (14 : Nat), (15 : Nat), (16 : Nat)] : St V })))))))) (Out.stop (EX.ex (4 : Nat)) {env := [((3 : Nat), .sl false (8 : Nat) (0 : Nat) (4 : Nat) z.ys.length (z.ys.length + z.3)), ((7 : Nat), AV.rp z.x), ((21 : Nat), .sl true (2 : Nat) (0 : Nat) (1 : Nat) (2 : Nat) (2 : Nat)), ((22 : Nat), .lit .i64 (2 : Int)), ((23 : Nat), .lit .i64 q.j), ((27 : Nat), AV.rs q.row q.10 q.11), ((28 : Nat), .int .i64 (↑q.10 : Int)), ((29 : Nat), .int .i64 q.i)], heap := [((8 : Nat), .arr (28 : Nat) Kd.ent z.ys z.3), ((2 : Nat), .cells (69 : Nat) [AV.rs q.a0 q.4 q.5, AV.rs q.a1 q.7 q.8]), ((0 : Nat), Blk.pool q.p)], nx := (9 : Nat), nt := (51 : Nat), tl := [(0 : Nat), (1 : Nat), (2 : Nat), (3 : Nat), (4 : Nat), (5 : Nat), (6 : Nat), (7 : Nat), (8 : Nat), (9 : Nat), (10 : Nat), (11 : Nat), (12 : Nat), (13 : Nat), (14 : Nat), (15 : Nat), (16 : Nat)] : St V }) := by kernel_rfl

end Sx
end Go.Proofs.Ytohckjjbephohaa

/-
  All entries of a table: what the function does.
-/
namespace Go.Proofs.Ytohckjjbephohaa
namespace Sx
open Go
set_option linter.unusedSimpArgs false
set_option linter.unusedVariables false

theorem hooksAll_ok : ∀ g H, hooksAll g = some H → HookOk Try.prog g H := by
  intro g H h
  unfold hooksAll at h
  split at h
  · cases h; exact hSort
  · cases h
theorem cfgAll_ok : cfgAll.ok := ⟨tab_met, kinds_met, mixed_met, fun g fn h => (by cases h), hooksAll_ok⟩

theorem tbody4 (q : PAll) (r : Chn) (z : XAll) (hs : Seg q.p z.x r) (hn : z.ys.length + r.length ≤ 1099511627776) (Q : EX → St V → Prop) (F : AV → Heap V → Nat → Prop)
    (hnx : ∀ (ST : St V) a e c' o' sp', r = (a, e) :: c' → Seg q.p o' c' → Wk 8 [(8, 10)] ST (AI4 q ⟨o', z.ys ++ [e], sp'⟩) → Q .nx ST)
    (hex : ∀ ST : St V, r = [] → Wk 8 [(8, 8)] ST (AI4 q z) → Q (.ex 4) ST) :
    (runCode cfgAll 60 36 (loopOf Try.f36 4) (AI4 q z) (stopT (trimSt [3, 7, 21, 22, 23, 27, 28, 29] [0, 2, 8, 9, 10]))).holds ⟨Q, F⟩ := by
  rw [tball4]
  obtain ⟨x, ys, sp⟩ := z
  simp only [Out.holds, decide_eq_true_eq, decide_eq_false_iff_not, beq_iff_eq, beq_eq_false_iff_ne, bne_iff_ne, ne_eq, bne_eq_false_iff_eq, Bool.true_and, Bool.and_true, Bool.not_eq_true', Bool.not_eq_false', Bool.and_eq_true, Bool.or_eq_true, Bool.and_eq_false_imp, true_implies, true_and, Bool.not_true, Bool.not_false, Bool.false_eq_true, Bool.true_eq_false, false_implies, and_true, beq_self_eq_true, Decidable.not_not, not_true_eq_false, not_false_eq_true]
  cases r with
  | nil =>
    have hx : x = none := hs
    subst hx
    exact ⟨fun h => by simp at h, fun _ => hex _ rfl (by (refine ⟨?_, ?_, rfl, tl_ok rfl, ?_, ⟨Nat.le_of_ble_eq_true rfl, rfl⟩⟩ <;> (repeat' first | with_reducible exact trivial | exact AV.sub_same _ | exact .same _ | exact .inr rfl | exact .inl (in_ok rfl) | exact AV.sub_lit' | exact AV.sub_nilS | exact .none _ _ | exact trivial | refine ⟨?_, ?_⟩)))⟩
  | cons y c' =>
    obtain ⟨a, e⟩ := y
    obtain ⟨hx, o', h1, h2⟩ := hs
    have hx : x = some (a, 0) := hx
    subst hx
    simp only [show ys.length + 1 = (ys ++ [e]).length by simp]
    have hb : (ys ++ [e]).length * 32 ≤ 140737488355328 := by simp only [List.length_cons, List.length_append, List.length_nil] at hn ⊢; omega
    refine ⟨fun _ => ⟨rfl, rfl, e.key, e.value, e.weight, e.node, at_whole h1 0 _ rfl (by simp [linkPD]), hb, fun sp' => ⟨rfl, rfl, o', at_whole h1 4 _ rfl (by simp [linkPD]), hnx _ a e c' o' sp' rfl h2 (by (refine ⟨?_, ?_, rfl, tl_ok rfl, ?_, ⟨Nat.le_of_ble_eq_true rfl, rfl⟩⟩ <;> (repeat' first | with_reducible exact trivial | exact AV.sub_same _ | exact .same _ | exact .inr rfl | exact .inl (in_ok rfl) | exact AV.sub_lit' | exact AV.sub_nilS | exact .none _ _ | exact trivial | refine ⟨?_, ?_⟩)))⟩⟩, fun h => by simp at h⟩

structure PC4 where
  q : PAll
  ch : Chn
  z0 : XAll
  hS : Seg q.p z0.x ch
  hn : z0.ys.length + ch.length ≤ 1099511627776
structure J4a (p : PC4) (x : Chn × XAll) : Prop where
  s : Seg p.q.p x.2.x x.1
  e : x.2.ys ++ ents x.1 = p.z0.ys ++ ents p.ch
  n : x.2.ys.length + x.1.length ≤ 1099511627776
def AL4 : LoopS V := trimLoop (trimSt [3, 7, 21, 22, 23, 27, 28, 29] [0, 1, 2, 3, 4, 5, 6, 7, 8]) (loopH 8 (fun p : PC4 => AI4 p.q p.z0) (fun p (_ : Nat) => True) (fun p sp => AI4 p.q ⟨none, p.z0.ys ++ ents p.ch, sp⟩))
theorem al4_ok : LoopOk Try.prog 4 (loopOf Try.f36 4) AL4 := by
  refine trimLoop_ok (trim_ok _ _) (loopTH_ok (C := cfgAll) cfgAll_ok (f := 36) (n := 60) (trim_ok [3, 7, 21, 22, 23, 27, 28, 29] [0, 2, 8, 9, 10]) 8 (fun (p : PC4) (x : Chn × XAll) => AI4 p.q x.2) J4a (fun p => (p.ch, p.z0)) (fun p x => x.1.length) (fun _ (_ : Nat) => True) (fun p sp => AI4 p.q ⟨none, p.z0.ys ++ ents p.ch, sp⟩) (fun p => ⟨p.hS, rfl, p.hn⟩) ?_)
  intro p x hx
  obtain ⟨r, z⟩ := x
  obtain ⟨h1, h2, h3⟩ := hx
  refine tbody4 p.q r z h1 h3 _ _ (fun ST a e c' o' sp' hr hs hw => SImp.of_wk (c', ⟨o', z.ys ++ [e], sp'⟩) hw ⟨⟨hs, ?_, ?_⟩, ?_⟩) (fun ST hr hw => ⟨rfl, ?_⟩)
  · subst hr; rw [← h2]; simp [ents]
  · subst hr; simp only [List.length_cons, List.length_append, List.length_nil] at h3 ⊢; omega
  · subst hr; simp
  · subst hr
    obtain ⟨x, ys, sp⟩ := z
    have hx : x = none := h1
    subst hx
    have hy : ys = p.z0.ys ++ ents p.ch := by rw [← h2]; simp [ents]
    subst hy
    exact SImp.of_wk sp hw trivial

end Sx
end Go.Proofs.Ytohckjjbephohaa

/-
  Tables: the runs of the machine.
-/
namespace Go.Proofs.Ytohckjjbephohaa
namespace Sx
open Go
set_option maxRecDepth 100000
set_option linter.unusedVariables false

noncomputable def cfgAll4 : Cfg Try.prog V := ⟨tab, kinds, fun _ => none, hooksAll, fun f id => match f, id with | 36, 4 => some AL4 | _, _ => none⟩
structure X2 where
  i : Nat
  ys : List Ent
  sp : Nat
def AI2 (k : Nat) (j : Int) (q : PAll) (z : X2) : St V := ⟨[(22, .lit .i64 2), (21, .sl true 2 0 1 2 2), (23, .lit .i64 j), (27, .rs q.row q.n q.c), (28, .int .i64 (q.n : Int)), (29, .int .i64 (z.i : Int)), (3, .sl false k 0 4 z.ys.length (z.ys.length + z.sp))],
  [(k, .arr 28 .ent z.ys z.sp), (2, .cells 69 [.rs q.a0 q.n0 q.c0, .rs q.a1 q.n1 q.c1]), (0, .pool q.p)], k + 1, 51, TQ⟩
theorem tball2a (q : PAll) (z : X2) : runCode cfgAll4 60 36 (loopOf Try.f36 2) (AI2 3 0 q z) (stopT (trimSt [3, 21, 22, 23, 27, 28, 29] [0, 2, 3, 5, 8])) = Out.ite (decide ((↑z.1 : Int) < (↑q.10 : Int))) (Out.need ((0 : Int) ≤ (↑z.1 : Int) ∧ (↑z.1 : Int) < (↑q.10 : Int) ∧ q.row.isSome = true) (Out.ex (Option (Nat × Nat)) fun y => Out.need (q.p.at (shiftA q.row (z.1 * (1 : Nat))) [PD.ptr y]) (Out.need (LoopFor Try.prog (36 : Nat) (4 : Nat) (loopOf Try.f36 (4 : Nat)) AL4) (Out.ex (PC4 → Prop) fun y_1 => Out.need ((4 : Nat) ≤ (8 : Nat) ∧ SImp (8 : Nat) {env := [((3 : Nat), .sl false (3 : Nat) (0 : Nat) (4 : Nat) z.ys.length (z.ys.length + z.3)), ((7 : Nat), AV.rp y), ((21 : Nat), .sl true (2 : Nat) (0 : Nat) (1 : Nat) (2 : Nat) (2 : Nat)), ((22 : Nat), .lit .i64 (2 : Int)), ((23 : Nat), .lit .i64 (0 : Int)), ((27 : Nat), AV.rs q.row q.10 q.11), ((28 : Nat), .int .i64 (↑q.10 : Int)), ((29 : Nat), .int .i64 (↑z.1 : Int))], heap := [((3 : Nat), .arr (28 : Nat) Kd.ent z.ys z.3), ((2 : Nat), .cells (69 : Nat) [AV.rs q.a0 q.4 q.5, AV.rs q.a1 q.7 q.8]), ((0 : Nat), Blk.pool q.p)], nx := (4 : Nat), nt := (51 : Nat), tl := [(0 : Nat), (1 : Nat), (2 : Nat), (3 : Nat), (4 : Nat), (5 : Nat), (6 : Nat), (7 : Nat), (8 : Nat), (9 : Nat), (10 : Nat), (11 : Nat), (12 : Nat), (13 : Nat), (14 : Nat), (15 : Nat), (16 : Nat)] : St V } (fun p => AI4 p.q p.z0) y_1) (Out.all PC4 fun y => Out.asm (y_1 y) (Out.all Nat fun y_2 => Out.asm ((fun p x => True) y y_2) (Out.stop EX.nx {env := [((3 : Nat), .sl false (8 : Nat) (0 : Nat) (4 : Nat) {x := none, ys := y.z0.ys ++ ents y.ch, sp := y_2 : XAll }.ys.length ({x := none, ys := y.z0.ys ++ ents y.ch, sp := y_2 : XAll }.ys.length + y_2)), ((21 : Nat), .sl true (2 : Nat) (0 : Nat) (1 : Nat) (2 : Nat) (2 : Nat)), ((22 : Nat), .lit .i64 (2 : Int)), ((23 : Nat), .lit .i64 y.q.j), ((27 : Nat), AV.rs y.q.row y.q.10 y.q.11), ((28 : Nat), .int .i64 (↑y.q.10 : Int)), ((29 : Nat), .int .i64 (IntKind.i64.wrap (y.q.i + (1 : Int))))], heap := [((8 : Nat), .arr (28 : Nat) Kd.ent {x := none, ys := y.z0.ys ++ ents y.ch, sp := y_2 : XAll }.ys y_2), ((2 : Nat), .cells (69 : Nat) [AV.rs y.q.a0 y.q.4 y.q.5, AV.rs y.q.a1 y.q.7 y.q.8]), ((0 : Nat), Blk.pool y.q.p)], nx := (9 : Nat), nt := (51 : Nat), tl := [(0 : Nat), (1 : Nat), (2 : Nat), (3 : Nat), (4 : Nat), (5 : Nat), (6 : Nat), (7 : Nat), (8 : Nat), (9 : Nat), (10 : Nat), (11 : Nat), (12 : Nat), (13 : Nat), (14 : Nat), (15 : Nat), (16 : Nat)] : St V }))))))) (Out.stop (EX.ex (2 : Nat)) {env := [((3 : Nat), .sl false (3 : Nat) (0 : Nat) (4 : Nat) z.ys.length (z.ys.length + z.3)), ((21 : Nat), .sl true (2 : Nat) (0 : Nat) (1 : Nat) (2 : Nat) (2 : Nat)), ((22 : Nat), .lit .i64 (2 : Int)), ((23 : Nat), .lit .i64 (0 : Int)), ((27 : Nat), AV.rs q.row q.10 q.11), ((28 : Nat), .int .i64 (↑q.10 : Int)), ((29 : Nat), .int .i64 (↑z.1 : Int))], heap := [((3 : Nat), .arr (28 : Nat) Kd.ent z.ys z.3), ((2 : Nat), .cells (69 : Nat) [AV.rs q.a0 q.4 q.5, AV.rs q.a1 q.7 q.8]), ((0 : Nat), Blk.pool q.p)], nx := (4 : Nat), nt := (51 : Nat), tl := [(0 : Nat), (1 : Nat), (2 : Nat), (3 : Nat), (4 : Nat), (5 : Nat), (6 : Nat), (7 : Nat), (8 : Nat), (9 : Nat), (10 : Nat), (11 : Nat), (12 : Nat), (13 : Nat), (14 : Nat), (15 : Nat), (16 : Nat)] : St V }) := by kernel_rfl

theorem tball2b (q : PAll) (z : X2) : runCode cfgAll4 60 36 (loopOf Try.f36 2) (AI2 5 1 q z) (stopT (trimSt [3, 21, 22, 23, 27, 28, 29] [0, 2, 3, 5, 8])) = Out.ite (decide ((↑z.1 : Int) < (↑q.10 : Int))) (Out.need ((0 : Int) ≤ (↑z.1 : Int) ∧ (↑z.1 : Int) < (↑q.10 : Int) ∧ q.row.isSome = true) (Out.ex (Option (Nat × Nat)) fun y => Out.need (q.p.at (shiftA q.row (z.1 * (1 : Nat))) [PD.ptr y]) (Out.need (LoopFor Try.prog (36 : Nat) (4 : Nat) (loopOf Try.f36 (4 : Nat)) AL4) (Out.ex (PC4 → Prop) fun y_1 => Out.need ((6 : Nat) ≤ (8 : Nat) ∧ SImp (8 : Nat) {env := [((3 : Nat), .sl false (5 : Nat) (0 : Nat) (4 : Nat) z.ys.length (z.ys.length + z.3)), ((7 : Nat), AV.rp y), ((21 : Nat), .sl true (2 : Nat) (0 : Nat) (1 : Nat) (2 : Nat) (2 : Nat)), ((22 : Nat), .lit .i64 (2 : Int)), ((23 : Nat), .lit .i64 (1 : Int)), ((27 : Nat), AV.rs q.row q.10 q.11), ((28 : Nat), .int .i64 (↑q.10 : Int)), ((29 : Nat), .int .i64 (↑z.1 : Int))], heap := [((5 : Nat), .arr (28 : Nat) Kd.ent z.ys z.3), ((2 : Nat), .cells (69 : Nat) [AV.rs q.a0 q.4 q.5, AV.rs q.a1 q.7 q.8]), ((0 : Nat), Blk.pool q.p)], nx := (6 : Nat), nt := (51 : Nat), tl := [(0 : Nat), (1 : Nat), (2 : Nat), (3 : Nat), (4 : Nat), (5 : Nat), (6 : Nat), (7 : Nat), (8 : Nat), (9 : Nat), (10 : Nat), (11 : Nat), (12 : Nat), (13 : Nat), (14 : Nat), (15 : Nat), (16 : Nat)] : St V } (fun p => AI4 p.q p.z0) y_1) (Out.all PC4 fun y => Out.asm (y_1 y) (Out.all Nat fun y_2 => Out.asm ((fun p x => True) y y_2) (Out.stop EX.nx {env := [((3 : Nat), .sl false (8 : Nat) (0 : Nat) (4 : Nat) {x := none, ys := y.z0.ys ++ ents y.ch, sp := y_2 : XAll }.ys.length ({x := none, ys := y.z0.ys ++ ents y.ch, sp := y_2 : XAll }.ys.length + y_2)), ((21 : Nat), .sl true (2 : Nat) (0 : Nat) (1 : Nat) (2 : Nat) (2 : Nat)), ((22 : Nat), .lit .i64 (2 : Int)), ((23 : Nat), .lit .i64 y.q.j), ((27 : Nat), AV.rs y.q.row y.q.10 y.q.11), ((28 : Nat), .int .i64 (↑y.q.10 : Int)), ((29 : Nat), .int .i64 (IntKind.i64.wrap (y.q.i + (1 : Int))))], heap := [((8 : Nat), .arr (28 : Nat) Kd.ent {x := none, ys := y.z0.ys ++ ents y.ch, sp := y_2 : XAll }.ys y_2), ((2 : Nat), .cells (69 : Nat) [AV.rs y.q.a0 y.q.4 y.q.5, AV.rs y.q.a1 y.q.7 y.q.8]), ((0 : Nat), Blk.pool y.q.p)], nx := (9 : Nat), nt := (51 : Nat), tl := [(0 : Nat), (1 : Nat), (2 : Nat), (3 : Nat), (4 : Nat), (5 : Nat), (6 : Nat), (7 : Nat), (8 : Nat), (9 : Nat), (10 : Nat), (11 : Nat), (12 : Nat), (13 : Nat), (14 : Nat), (15 : Nat), (16 : Nat)] : St V }))))))) (Out.stop (EX.ex (2 : Nat)) {env := [((3 : Nat), .sl false (5 : Nat) (0 : Nat) (4 : Nat) z.ys.length (z.ys.length + z.3)), ((21 : Nat), .sl true (2 : Nat) (0 : Nat) (1 : Nat) (2 : Nat) (2 : Nat)), ((22 : Nat), .lit .i64 (2 : Int)), ((23 : Nat), .lit .i64 (1 : Int)), ((27 : Nat), AV.rs q.row q.10 q.11), ((28 : Nat), .int .i64 (↑q.10 : Int)), ((29 : Nat), .int .i64 (↑z.1 : Int))], heap := [((5 : Nat), .arr (28 : Nat) Kd.ent z.ys z.3), ((2 : Nat), .cells (69 : Nat) [AV.rs q.a0 q.4 q.5, AV.rs q.a1 q.7 q.8]), ((0 : Nat), Blk.pool q.p)], nx := (6 : Nat), nt := (51 : Nat), tl := [(0 : Nat), (1 : Nat), (2 : Nat), (3 : Nat), (4 : Nat), (5 : Nat), (6 : Nat), (7 : Nat), (8 : Nat), (9 : Nat), (10 : Nat), (11 : Nat), (12 : Nat), (13 : Nat), (14 : Nat), (15 : Nat), (16 : Nat)] : St V }) := by kernel_rfl

end Sx
end Go.Proofs.Ytohckjjbephohaa

/-
  All entries of a table: the loop over a row of chains.
-/
namespace Go.Proofs.Ytohckjjbephohaa
namespace Sx
open Go
set_option linter.unusedSimpArgs false
set_option linter.unusedVariables false

theorem cfgAll4_ok : cfgAll4.ok := ⟨tab_met, kinds_met, mixed_met, fun g fn h => (by cases h), hooksAll_ok⟩

structure PC2 where
  q : PAll
  chs : List Chn
  z0 : X2
  h0 : z0.i = 0
  hl : q.n = chs.length
  hn : q.n ≤ 2147483648
  hs : ∀ i, i < chs.length → q.row.isSome = true ∧ ∃ o, q.p.at (shiftA q.row (i * 1)) [.ptr o] ∧ Seg q.p o (chs.getD i [])
  hy : z0.ys.length + (chs.flatMap ents).length ≤ 1099511627776
structure J2 (p : PC2) (z : X2) : Prop where
  i : z.i ≤ p.chs.length
  e : z.ys = p.z0.ys ++ (p.chs.take z.i).flatMap ents
theorem flat_take_le : ∀ (l : List Chn) (i : Nat), ((l.take i).flatMap ents).length + (l.getD i []).length ≤ (l.flatMap ents).length
  | [], i => by simp
  | x :: l, 0 => by simp [ents]
  | x :: l, i + 1 => by have := flat_take_le l i; simp only [List.take_succ_cons, List.flatMap_cons, List.length_append, List.getD_cons_succ]; omega
theorem flat_take_succ : ∀ (l : List Chn) (i : Nat), i < l.length → (l.take (i + 1)).flatMap ents = (l.take i).flatMap ents ++ ents (l.getD i [])
  | [], i, h => by simp at h
  | x :: l, 0, h => by simp
  | x :: l, i + 1, h => by
    have := flat_take_succ l i (by simpa using h)
    rw [List.take_succ_cons, List.take_succ_cons, List.flatMap_cons, List.flatMap_cons, this, List.append_assoc, List.getD_cons_succ]

theorem tbody2a (q : PAll) (z : X2) (c : Chn) (hi : z.i ≤ q.n) (hn : q.n ≤ 2147483648) (hs : z.i < q.n → q.row.isSome = true ∧ ∃ o, q.p.at (shiftA q.row (z.i * 1)) [.ptr o] ∧ Seg q.p o c) (hy : z.ys.length + c.length ≤ 1099511627776) (Q : EX → St V → Prop) (F : AV → Heap V → Nat → Prop)
    (hnx : ∀ (ST : St V) sp', z.i < q.n → Wk 3 [(3, 8)] ST (AI2 3 0 q ⟨z.i + 1, z.ys ++ ents c, sp'⟩) → Q .nx ST)
    (hex : ∀ ST : St V, z.i = q.n → Wk 3 [(3, 3)] ST (AI2 3 0 q z) → Q (.ex 2) ST) :
    (runCode cfgAll4 60 36 (loopOf Try.f36 2) (AI2 3 0 q z) (stopT (trimSt [3, 21, 22, 23, 27, 28, 29] [0, 2, 3, 5, 8]))).holds ⟨Q, F⟩ := by
  rw [tball2a]
  obtain ⟨i, ys, sp⟩ := z
  simp only at hi hs hy hnx hex
  simp only [Out.holds, decide_eq_true_eq, decide_eq_false_iff_not, beq_iff_eq, beq_eq_false_iff_ne, bne_iff_ne, ne_eq, bne_eq_false_iff_eq, Bool.true_and, Bool.and_true, Bool.not_eq_true', Bool.not_eq_false', Bool.and_eq_true, Bool.or_eq_true, Bool.and_eq_false_imp, true_implies, true_and, Bool.not_true, Bool.not_false, Bool.false_eq_true, Bool.true_eq_false, false_implies, and_true, beq_self_eq_true, Decidable.not_not, not_true_eq_false, not_false_eq_true]
  refine ⟨fun hlt => ?_, fun hge => hex _ (by omega) (by (refine ⟨?_, ?_, rfl, tl_ok rfl, ?_, ⟨Nat.le_of_ble_eq_true rfl, rfl⟩⟩ <;> (repeat' first | with_reducible exact trivial | exact AV.sub_same _ | exact .same _ | exact .inr rfl | exact .inl (in_ok rfl) | exact AV.sub_lit' | exact AV.sub_nilS | exact .none _ _ | exact trivial | refine ⟨?_, ?_⟩)))⟩
  have hlt' : i < q.n := by omega
  obtain ⟨h1, o, h2, h3⟩ := hs hlt'
  have hw : IntKind.wrap .i64 ((i : Int) + 1) = ((i + 1 : Nat) : Int) := wrap_nat (by omega)
  refine ⟨⟨by omega, by omega, h1⟩, o, h2, al4_ok, fun p => p = ⟨{ q with i := (i : Int), j := 0 }, c, ⟨o, ys, sp⟩, h3, hy⟩, ⟨by decide, SImp.of_wk (ren := [(8, 3)]) ⟨{ q with i := (i : Int), j := 0 }, c, ⟨o, ys, sp⟩, h3, hy⟩ (by (refine ⟨?_, ?_, rfl, tl_ok rfl, ?_, ⟨Nat.le_of_ble_eq_true rfl, rfl⟩⟩ <;> (repeat' first | with_reducible exact trivial | exact AV.sub_same _ | exact .same _ | exact .inr rfl | exact .inl (in_ok rfl) | exact AV.sub_lit' | exact AV.sub_nilS | exact .none _ _ | exact trivial | refine ⟨?_, ?_⟩))) rfl⟩, ?_⟩
  rintro _ rfl sp'
  exact hnx _ sp' hlt' (by (refine ⟨?_, ?_, rfl, tl_ok rfl, ?_, ⟨Nat.le_of_ble_eq_true rfl, rfl⟩⟩ <;> (repeat' first | with_reducible exact trivial | (exact AV.sub_int hw) | exact AV.sub_same _ | exact .same _ | exact .inr rfl | exact .inl (in_ok rfl) | exact AV.sub_lit' | exact AV.sub_nilS | exact .none _ _ | exact trivial | refine ⟨?_, ?_⟩)))

def AL2a : LoopS V := trimLoop (trimSt [3, 21, 22, 23, 27, 28, 29] [0, 1, 2, 3, 4, 5, 6, 7, 8]) (loopH 3 (fun p : PC2 => AI2 3 0 p.q p.z0) (fun p (_ : Nat) => True) (fun p sp => AI2 3 0 p.q ⟨p.chs.length, p.z0.ys ++ p.chs.flatMap ents, sp⟩))
theorem al2a_ok : LoopOk Try.prog 2 (loopOf Try.f36 2) AL2a := by
  refine trimLoop_ok (trim_ok _ _) (loopTH_ok (C := cfgAll4) cfgAll4_ok (f := 36) (n := 60) (trim_ok [3, 21, 22, 23, 27, 28, 29] [0, 2, 3, 5, 8]) 3 (fun (p : PC2) (x : X2) => AI2 3 0 p.q x) J2 (fun p => p.z0) (fun p x => p.chs.length - x.i) (fun _ (_ : Nat) => True) (fun p sp => AI2 3 0 p.q ⟨p.chs.length, p.z0.ys ++ p.chs.flatMap ents, sp⟩) (fun p => ⟨by rw [p.h0]; exact Nat.zero_le _, by rw [p.h0]; simp⟩) ?_)
  intro p z hz
  obtain ⟨h1, h2⟩ := hz
  have hl := p.hl
  have hy := p.hy
  have hf := flat_take_le p.chs z.i
  refine tbody2a p.q z (p.chs.getD z.i []) (by omega) p.hn (fun h => p.hs z.i (by omega)) ?_ _ _ (fun ST sp' hlt hw => SImp.of_wk ⟨z.i + 1, z.ys ++ ents (p.chs.getD z.i []), sp'⟩ hw ⟨⟨?_, ?_⟩, ?_⟩) (fun ST he hw => ⟨rfl, ?_⟩)
  · rw [h2, List.length_append]; omega
  · show z.i + 1 ≤ _; omega
  · show z.ys ++ _ = _
    rw [flat_take_succ p.chs z.i (by omega), h2, List.append_assoc]
  · show p.chs.length - (z.i + 1) < p.chs.length - z.i; omega
  · obtain ⟨i, ys, sp⟩ := z
    simp only at he h2
    rw [hl] at he; subst he
    rw [List.take_length] at h2; subst h2
    exact SImp.of_wk sp hw trivial

theorem tbody2b (q : PAll) (z : X2) (c : Chn) (hi : z.i ≤ q.n) (hn : q.n ≤ 2147483648) (hs : z.i < q.n → q.row.isSome = true ∧ ∃ o, q.p.at (shiftA q.row (z.i * 1)) [.ptr o] ∧ Seg q.p o c) (hy : z.ys.length + c.length ≤ 1099511627776) (Q : EX → St V → Prop) (F : AV → Heap V → Nat → Prop)
    (hnx : ∀ (ST : St V) sp', z.i < q.n → Wk 5 [(5, 8)] ST (AI2 5 1 q ⟨z.i + 1, z.ys ++ ents c, sp'⟩) → Q .nx ST)
    (hex : ∀ ST : St V, z.i = q.n → Wk 5 [(5, 5)] ST (AI2 5 1 q z) → Q (.ex 2) ST) :
    (runCode cfgAll4 60 36 (loopOf Try.f36 2) (AI2 5 1 q z) (stopT (trimSt [3, 21, 22, 23, 27, 28, 29] [0, 2, 3, 5, 8]))).holds ⟨Q, F⟩ := by
  rw [tball2b]
  obtain ⟨i, ys, sp⟩ := z
  simp only at hi hs hy hnx hex
  simp only [Out.holds, decide_eq_true_eq, decide_eq_false_iff_not, beq_iff_eq, beq_eq_false_iff_ne, bne_iff_ne, ne_eq, bne_eq_false_iff_eq, Bool.true_and, Bool.and_true, Bool.not_eq_true', Bool.not_eq_false', Bool.and_eq_true, Bool.or_eq_true, Bool.and_eq_false_imp, true_implies, true_and, Bool.not_true, Bool.not_false, Bool.false_eq_true, Bool.true_eq_false, false_implies, and_true, beq_self_eq_true, Decidable.not_not, not_true_eq_false, not_false_eq_true]
  refine ⟨fun hlt => ?_, fun hge => hex _ (by omega) (by (refine ⟨?_, ?_, rfl, tl_ok rfl, ?_, ⟨Nat.le_of_ble_eq_true rfl, rfl⟩⟩ <;> (repeat' first | with_reducible exact trivial | exact AV.sub_same _ | exact .same _ | exact .inr rfl | exact .inl (in_ok rfl) | exact AV.sub_lit' | exact AV.sub_nilS | exact .none _ _ | exact trivial | refine ⟨?_, ?_⟩)))⟩
  have hlt' : i < q.n := by omega
  obtain ⟨h1, o, h2, h3⟩ := hs hlt'
  have hw : IntKind.wrap .i64 ((i : Int) + 1) = ((i + 1 : Nat) : Int) := wrap_nat (by omega)
  refine ⟨⟨by omega, by omega, h1⟩, o, h2, al4_ok, fun p => p = ⟨{ q with i := (i : Int), j := 1 }, c, ⟨o, ys, sp⟩, h3, hy⟩, ⟨by decide, SImp.of_wk (ren := [(8, 5)]) ⟨{ q with i := (i : Int), j := 1 }, c, ⟨o, ys, sp⟩, h3, hy⟩ (by (refine ⟨?_, ?_, rfl, tl_ok rfl, ?_, ⟨Nat.le_of_ble_eq_true rfl, rfl⟩⟩ <;> (repeat' first | with_reducible exact trivial | exact AV.sub_same _ | exact .same _ | exact .inr rfl | exact .inl (in_ok rfl) | exact AV.sub_lit' | exact AV.sub_nilS | exact .none _ _ | exact trivial | refine ⟨?_, ?_⟩))) rfl⟩, ?_⟩
  rintro _ rfl sp'
  exact hnx _ sp' hlt' (by (refine ⟨?_, ?_, rfl, tl_ok rfl, ?_, ⟨Nat.le_of_ble_eq_true rfl, rfl⟩⟩ <;> (repeat' first | with_reducible exact trivial | (exact AV.sub_int hw) | exact AV.sub_same _ | exact .same _ | exact .inr rfl | exact .inl (in_ok rfl) | exact AV.sub_lit' | exact AV.sub_nilS | exact .none _ _ | exact trivial | refine ⟨?_, ?_⟩)))

def AL2b : LoopS V := trimLoop (trimSt [3, 21, 22, 23, 27, 28, 29] [0, 1, 2, 3, 4, 5, 6, 7, 8]) (loopH 5 (fun p : PC2 => AI2 5 1 p.q p.z0) (fun p (_ : Nat) => True) (fun p sp => AI2 5 1 p.q ⟨p.chs.length, p.z0.ys ++ p.chs.flatMap ents, sp⟩))
theorem al2b_ok : LoopOk Try.prog 2 (loopOf Try.f36 2) AL2b := by
  refine trimLoop_ok (trim_ok _ _) (loopTH_ok (C := cfgAll4) cfgAll4_ok (f := 36) (n := 60) (trim_ok [3, 21, 22, 23, 27, 28, 29] [0, 2, 3, 5, 8]) 5 (fun (p : PC2) (x : X2) => AI2 5 1 p.q x) J2 (fun p => p.z0) (fun p x => p.chs.length - x.i) (fun _ (_ : Nat) => True) (fun p sp => AI2 5 1 p.q ⟨p.chs.length, p.z0.ys ++ p.chs.flatMap ents, sp⟩) (fun p => ⟨by rw [p.h0]; exact Nat.zero_le _, by rw [p.h0]; simp⟩) ?_)
  intro p z hz
  obtain ⟨h1, h2⟩ := hz
  have hl := p.hl
  have hy := p.hy
  have hf := flat_take_le p.chs z.i
  refine tbody2b p.q z (p.chs.getD z.i []) (by omega) p.hn (fun h => p.hs z.i (by omega)) ?_ _ _ (fun ST sp' hlt hw => SImp.of_wk ⟨z.i + 1, z.ys ++ ents (p.chs.getD z.i []), sp'⟩ hw ⟨⟨?_, ?_⟩, ?_⟩) (fun ST he hw => ⟨rfl, ?_⟩)
  · rw [h2, List.length_append]; omega
  · show z.i + 1 ≤ _; omega
  · show z.ys ++ _ = _
    rw [flat_take_succ p.chs z.i (by omega), h2, List.append_assoc]
  · show p.chs.length - (z.i + 1) < p.chs.length - z.i; omega
  · obtain ⟨i, ys, sp⟩ := z
    simp only at he h2
    rw [hl] at he; subst he
    rw [List.take_length] at h2; subst h2
    exact SImp.of_wk sp hw trivial

end Sx
end Go.Proofs.Ytohckjjbephohaa

/-
  Tables: the runs of the machine.
-/
namespace Go.Proofs.Ytohckjjbephohaa
namespace Sx
open Go
set_option maxRecDepth 100000
set_option linter.unusedVariables false

def AL2 : LoopS V := fun s K => bif Nat.ble s.nx 3 then AL2a s K else AL2b s K
noncomputable def cfgAll2 : Cfg Try.prog V := ⟨tab, kinds, fun _ => none, hooksAll, fun f id => match f, id with | 36, 2 => some AL2 | _, _ => none⟩
theorem tall (p : Pool) (b : Nat) : runF cfgAll2 60 36 Try.f36 [.rp (some (b, 0))] [(0, .pool p)] 2 = Out.need ((some (b, (0 : Nat))).isSome = true) (Out.need ((some (b, (0 : Nat))).isSome = true) (Out.ex (Option (Nat × Nat)) fun y => Out.ex Nat fun y_1 => Out.ex Nat fun y_2 => Out.need (p.at (shiftA (some (b, (0 : Nat))) (1 : Nat)) [PD.sl y y_1 y_2]) (Out.need ((some (b, (0 : Nat))).isSome = true) (Out.need ((some (b, (0 : Nat))).isSome = true) (Out.ex (Option (Nat × Nat)) fun y_3 => Out.ex Nat fun y_4 => Out.ex Nat fun y_5 => Out.need (p.at (shiftA (some (b, (0 : Nat))) (2 : Nat)) [PD.sl y_3 y_4 y_5]) (Out.need ((some (b, (0 : Nat))).isSome = true) (Out.need ((some (b, (0 : Nat))).isSome = true) (Out.ex Int fun y_6 => Out.need (p.at (shiftA (some (b, (0 : Nat))) (3 : Nat)) [PD.int .i64 y_6]) (Out.need ((0 : Int) ≤ y_6 ∧ y_6 ≤ (↑y_4 : Int) ∧ y_4 ≤ y_5) (Out.need ((0 : Int) ≤ (0 : Int) ∧ (0 : Int) < (2 : Int)) (Out.need (LoopFor Try.prog (36 : Nat) (2 : Nat) (loopOf Try.f36 (2 : Nat)) AL2) (Out.ex (PC2 → Prop) fun y_7 => Out.need ((3 : Nat) ≤ (3 : Nat) ∧ SImp (3 : Nat) {env := [((3 : Nat), .nilS), ((21 : Nat), .sl true (2 : Nat) (0 : Nat) (1 : Nat) (2 : Nat) (2 : Nat)), ((22 : Nat), .lit .i64 (2 : Int)), ((23 : Nat), .lit .i64 (0 : Int)), ((27 : Nat), AV.rs y y_1 y_2), ((28 : Nat), .int .i64 (↑y_1 : Int)), ((29 : Nat), .lit .i64 (0 : Int))], heap := [((2 : Nat), .cells (69 : Nat) [AV.rs y y_1 y_2, AV.rs (if y_5 = y_6.toNat then y_3 else shiftA y_3 (y_6.toNat * (1 : Nat))) (y_4 - y_6.toNat) (y_5 - y_6.toNat)]), ((0 : Nat), Blk.pool p)], nx := (3 : Nat), nt := (51 : Nat), tl := [] : St V } (fun p => AI2 (3 : Nat) (0 : Int) p.q p.z0) y_7) (Out.all PC2 fun y => Out.asm (y_7 y) (Out.all Nat fun y_8 => Out.asm ((fun p x => True) y y_8) (Out.need ((0 : Int) ≤ (1 : Int) ∧ (1 : Int) < (2 : Int)) (Out.need (LoopFor Try.prog (36 : Nat) (2 : Nat) (loopOf Try.f36 (2 : Nat)) AL2) (Out.ex (PC2 → Prop) fun y_9 => Out.need ((4 : Nat) ≤ (5 : Nat) ∧ SImp (5 : Nat) {env := [((3 : Nat), .sl false (3 : Nat) (0 : Nat) (4 : Nat) {i := y.chs.length, ys := y.z0.ys ++ List.flatMap ents y.chs, sp := y_8 : X2 }.ys.length ({i := y.chs.length, ys := y.z0.ys ++ List.flatMap ents y.chs, sp := y_8 : X2 }.ys.length + y_8)), ((21 : Nat), .sl true (2 : Nat) (0 : Nat) (1 : Nat) (2 : Nat) (2 : Nat)), ((22 : Nat), .lit .i64 (2 : Int)), ((23 : Nat), .lit .i64 (1 : Int)), ((27 : Nat), AV.rs y.q.a1 y.q.7 y.q.8), ((28 : Nat), .int .i64 (↑y.q.7 : Int)), ((29 : Nat), .lit .i64 (0 : Int))], heap := [((3 : Nat), .arr (28 : Nat) Kd.ent {i := y.chs.length, ys := y.z0.ys ++ List.flatMap ents y.chs, sp := y_8 : X2 }.ys y_8), ((2 : Nat), .cells (69 : Nat) [AV.rs y.q.a0 y.q.4 y.q.5, AV.rs y.q.a1 y.q.7 y.q.8]), ((0 : Nat), Blk.pool y.q.p)], nx := (4 : Nat), nt := (51 : Nat), tl := [(0 : Nat), (1 : Nat), (2 : Nat), (3 : Nat), (4 : Nat), (5 : Nat), (6 : Nat), (7 : Nat), (8 : Nat), (9 : Nat), (10 : Nat), (11 : Nat), (12 : Nat), (13 : Nat), (14 : Nat), (15 : Nat), (16 : Nat)] : St V } (fun p => AI2 (5 : Nat) (1 : Int) p.q p.z0) y_9) (Out.all PC2 fun y => Out.asm (y_9 y) (Out.all Nat fun y_10 => Out.asm ((fun p x => True) y y_10) (Out.need ((0 : Nat) = (0 : Nat) ∧ {i := y.chs.length, ys := y.z0.ys ++ List.flatMap ents y.chs, sp := y_10 : X2 }.ys.length = {i := y.chs.length, ys := y.z0.ys ++ List.flatMap ents y.chs, sp := y_10 : X2 }.ys.length ∧ {i := y.chs.length, ys := y.z0.ys ++ List.flatMap ents y.chs, sp := y_10 : X2 }.ys.length ≤ (1099511627776 : Nat)) (Out.all (List Ent) fun y_11 => Out.asm (y_11.Perm {i := y.chs.length, ys := y.z0.ys ++ List.flatMap ents y.chs, sp := y_10 : X2 }.ys ∧ List.Pairwise (fun a b => a.key ≤ b.key) y_11) (Out.fin (.sl false (5 : Nat) (0 : Nat) (4 : Nat) {i := y.chs.length, ys := y.z0.ys ++ List.flatMap ents y.chs, sp := y_10 : X2 }.ys.length ({i := y.chs.length, ys := y.z0.ys ++ List.flatMap ents y.chs, sp := y_10 : X2 }.ys.length + y_10)) [((5 : Nat), .arr (28 : Nat) Kd.ent y_11 y_10), ((2 : Nat), .cells (69 : Nat) [AV.rs y.q.a0 y.q.4 y.q.5, AV.rs y.q.a1 y.q.7 y.q.8]), ((0 : Nat), Blk.pool y.q.p)] (6 : Nat))))))))))))))))))))))) := by kernel_rfl

end Sx
end Go.Proofs.Ytohckjjbephohaa

/-
  All entries of a table: the contract.
-/
namespace Go.Proofs.Ytohckjjbephohaa
namespace Sx
open Go
set_option linter.unusedSimpArgs false
set_option linter.unusedVariables false

theorem al2_ok : LoopOk Try.prog 2 (loopOf Try.f36 2) AL2 := by
  intro M s K h
  unfold AL2 at h
  cases hb : Nat.ble s.nx 3 <;> rw [hb] at h
  · exact al2b_ok M s K h
  · exact al2a_ok M s K h

/-- A row's chains from a place on, as the loop wants them. -/
theorem Arr.rows {p : Pool} {lab : Nat → Lab} {old : Bool} {blk : Nat} {cs : List Chn} {m : Nat} (h : Arr p lab old blk cs m) (hm : m ≤ cs.length) :
    ∀ i, i < (cs.drop m).length → (some (blk, m) : Adr).isSome = true ∧ ∃ o, p.at (shiftA (some (blk, m)) (i * 1)) [.ptr o] ∧ Seg p o ((cs.drop m).getD i []) := by
  intro i hi
  obtain ⟨hs, a1, a2, a3, a4⟩ := h
  rw [List.length_drop] at hi
  refine ⟨rfl, hs.getD (m + i) none, ?_, ?_⟩
  · rw [show shiftA (some (blk, m)) (i * 1) = some (blk, m + i) by simp [shiftA]]
    exact at_arr a1 (by omega)
  · have := (a4 (m + i) (by omega) (by omega)).1
    rwa [show (cs.drop m).getD i [] = cs.getD (m + i) [] by simp [List.getD_eq_getElem?_getD, List.getElem?_drop]]

def rowsAll (L : TL) : List Ent := L.B.flatMap ents ++ (L.O.drop L.moved).flatMap ents
def runAll : RunPool V := fun p ar K => match ar with
  | [.val (.rp a)] => .ex Nat fun b => .need (a = some (b, 0)) <| .ex TL fun L => .need (TabAt p b L ∧ L.fits ∧ (rowsAll L).length ≤ 1099511627776) (.all (List Ent) fun ys => .all Nat fun sp => .asm (ys.Perm (rowsAll L) ∧ ys.Pairwise (fun a b => a.key ≤ b.key)) (K (.sl false 1 0 4 (rowsAll L).length ((rowsAll L).length + sp)) p [.arr 28 .ent ys sp]))
  | _ => .bad 500
theorem hAll : HookOk Try.prog 36 (hookPool [.val] runAll) := by
  refine pool_hook (C := cfgAll2) ⟨tab_met, kinds_met, mixed_met, fun g fn h => (by cases h), hooksAll_ok⟩ (n := 60) (fn := Try.f36) ⟨by kernel_rfl, by kernel_rfl⟩ (by kernel_rfl) ?_
  intro M p ar K0 H
  unfold runAll at H
  split at H
  · rename_i a
    obtain ⟨b, rfl, L, ⟨hT, hF, hN⟩, H⟩ := H
    refine ⟨show 1 ≤ _ by decide +kernel, ?_⟩
    show (runF cfgAll2 60 36 Try.f36 [.rp (some (b, 0))] [(0, .pool p)] 2).holds _
    rw [tall]
    have f1 := hT.f1; have f2 := hT.f2; have f3 := hT.f3
    have hmv := hT.2.2.2.2.1
    simp only [Out.holds, decide_eq_true_eq, decide_eq_false_iff_not, beq_iff_eq, beq_eq_false_iff_ne, bne_iff_ne, ne_eq, bne_eq_false_iff_eq, Bool.true_and, Bool.and_true, Bool.not_eq_true', Bool.not_eq_false', Bool.and_eq_true, Bool.or_eq_true, Bool.and_eq_false_imp, true_implies, true_and, Bool.not_true, Bool.not_false, Bool.false_eq_true, Bool.true_eq_false, false_implies, and_true, beq_self_eq_true, Decidable.not_not, not_true_eq_false, not_false_eq_true]
    refine ⟨rfl, rfl, _, _, _, f1, rfl, rfl, _, _, _, f2, rfl, rfl, _, f3, ⟨by omega, by omega, by omega⟩, ⟨by omega, by omega⟩, al2_ok, ?_⟩
    obtain ⟨g1, g2, g3, g4⟩ := hF
    have hnn : (L.moved : Int).toNat = L.moved := Int.toNat_natCast _
    simp only [hnn]
    generalize ha : (if L.O.length = L.moved then L.oo else shiftA L.oo (L.moved * 1)) = a1
    have hlen : (rowsAll L).length = (L.B.flatMap ents).length + ((L.O.drop L.moved).flatMap ents).length := by simp [rowsAll]
    have hs0 : ∀ i, i < L.B.length → (some (L.bb, 0) : Adr).isSome = true ∧ ∃ o, p.at (shiftA (some (L.bb, 0)) (i * 1)) [.ptr o] ∧ Seg p o (L.B.getD i []) := Arr.rows hT.2.2.1 (Nat.zero_le _)
    have hs1 : ∀ i, i < (L.O.drop L.moved).length → a1.isSome = true ∧ ∃ o, p.at (shiftA a1 (i * 1)) [.ptr o] ∧ Seg p o ((L.O.drop L.moved).getD i []) := by
      intro i hi
      have hi' := hi
      rw [List.length_drop] at hi'
      have hO : L.O ≠ [] := fun e => by rw [e] at hi'; simp at hi'
      have ea : a1 = some (L.ob, L.moved) := by
        rw [← ha, if_neg (by omega)]; unfold TL.oo; rw [if_neg hO]; simp [shiftA]
      rw [ea]; exact Arr.rows (hT.2.2.2.1 hO) hmv i hi
    refine ⟨fun q => q = ⟨⟨p, 0, some (L.bb, 0), L.B.length, L.B.length, a1, L.O.length - L.moved, L.O.length - L.moved, some (L.bb, 0), L.B.length, L.B.length, 0⟩, L.B, ⟨0, [], 0⟩, rfl, rfl, (by show L.B.length ≤ _; omega), hs0, (by show 0 + _ ≤ _; omega)⟩, ⟨by decide, SImp.of_wk (ren := [(3, 99)]) _ ?_ rfl⟩, ?_⟩
    · exact ⟨⟨AV.sub_same _, AV.sub_same _, AV.sub_same _, AV.sub_same _, AV.sub_same _, AV.sub_lit', AV.sub_nilS, trivial⟩, ⟨.none _ _, .same _, .same _, trivial⟩, rfl, tl_ok rfl, ⟨.inr rfl, .inr rfl, trivial⟩, ⟨Nat.le_of_ble_eq_true rfl, rfl⟩⟩
    · rintro _ rfl sp1
      refine ⟨⟨by omega, by omega⟩, al2_ok, fun q => q = ⟨⟨p, 1, some (L.bb, 0), L.B.length, L.B.length, a1, L.O.length - L.moved, L.O.length - L.moved, a1, L.O.length - L.moved, L.O.length - L.moved, 0⟩, L.O.drop L.moved, ⟨0, [] ++ L.B.flatMap ents, sp1⟩, rfl, (by simp), (by show L.O.length - L.moved ≤ _; omega), hs1, (by show ([] ++ L.B.flatMap ents).length + _ ≤ _; rw [List.nil_append]; omega)⟩, ⟨by decide, SImp.of_wk (ren := [(5, 3)]) _ ?_ rfl⟩, ?_⟩
      · (refine ⟨?_, ?_, rfl, tl_ok rfl, ?_, ⟨Nat.le_of_ble_eq_true rfl, rfl⟩⟩ <;> (repeat' first | with_reducible exact trivial | (exact AV.sub_lit') | exact AV.sub_same _ | exact .same _ | exact .inr rfl | exact .inl (in_ok rfl) | exact AV.sub_lit' | exact AV.sub_nilS | exact .none _ _ | exact trivial | refine ⟨?_, ?_⟩))
      · rintro _ rfl sp2
        exact ⟨hN, fun ys hys => ⟨_, p, _, H ys sp2 hys, ⟨_, HImp.refl _ _, rfl, ⟨⟨fun _ => 5, ⟨.same _, trivial⟩, AV.sub_same _⟩, rfl, rfl⟩⟩⟩⟩
  · exact H.elim

end Sx
end Go.Proofs.Ytohckjjbephohaa

/-
  Plain tables: the row of all entries; no program in sight.
-/
namespace Go.Proofs.Ytohckjjbephohaa
namespace Sx
open Go
set_option linter.unusedSimpArgs false
set_option linter.unusedVariables false

def TM.all (t : TM) : List Ent := t.B.flatten ++ (t.O.drop t.moved).flatten
theorem rows_all (L : TL) : rowsAll L = L.tm.all := by
  unfold rowsAll TM.all TL.tm
  dsimp only
  rw [List.flatMap_def, List.flatMap_def, List.map_drop]
theorem TM.all_length (t : TM) : t.all.length = t.total := by
  unfold TM.all TM.total
  rw [List.length_append, List.length_flatten, List.length_flatten]
theorem getD_of {α : Type} {l : List α} {d : α} {i : Nat} (h : i < l.length) : l.getD i d = l[i] := by rw [List.getD_eq_getElem?_getD, List.getElem?_eq_getElem h]; rfl
theorem TM.mem_all {t : TM} (h : t.Core) (e : Ent) : e ∈ t.all ↔ t.get e.key = some e := by
  unfold TM.all
  rw [List.mem_append]
  constructor
  · rintro (hm | hm)
    · obtain ⟨l, hl, he⟩ := List.mem_flatten.1 hm
      obtain ⟨i, hi, rfl⟩ := List.mem_iff_getElem.1 hl
      have hq : t.live (false, i) := by unfold TM.live; simpa using hi
      refine TM.get_mem h hq ?_
      show e ∈ t.B.getD i []
      rw [getD_of hi]; exact he
    · obtain ⟨l, hl, he⟩ := List.mem_flatten.1 hm
      obtain ⟨i, hi, rfl⟩ := List.mem_iff_getElem.1 hl
      rw [List.length_drop] at hi
      have hq : t.live (true, t.moved + i) := by unfold TM.live; simp only [if_true]; omega
      refine TM.get_mem h hq ?_
      show e ∈ t.O.getD (t.moved + i) []
      rw [getD_of (by omega)]
      rwa [List.getElem_drop] at he
  · intro hg
    obtain ⟨_, h2, h3⟩ := TM.get_some h hg
    generalize t.pl e.key = q at h2 h3
    obtain ⟨o, i⟩ := q
    unfold TM.live at h2
    unfold TM.row at h3
    cases o
    · left
      have hi : i < t.B.length := by simpa using h2
      have h3 : e ∈ t.B.getD i [] := h3
      rw [getD_of hi] at h3
      exact List.mem_flatten.2 ⟨_, List.getElem_mem hi, h3⟩
    · right
      simp only [if_true] at h2
      have h3 : e ∈ t.O.getD i [] := h3
      rw [getD_of h2.2] at h3
      refine List.mem_flatten.2 ⟨t.O[i], ?_, h3⟩
      have : i - t.moved < (t.O.drop t.moved).length := by rw [List.length_drop]; omega
      have e1 : (t.O.drop t.moved)[i - t.moved] = t.O[i] := by rw [List.getElem_drop]; congr 1; omega
      rw [← e1]; exact List.getElem_mem this
theorem flat_nodup (pl : Int → Plc) : ∀ (ls : List (List Ent)) (P : Nat → Plc), (∀ i j, P i = P j → i = j) → (∀ i, i < ls.length → ∀ e ∈ ls.getD i [], pl e.key = P i) → (∀ i, i < ls.length → ((ls.getD i []).map (·.key)).Nodup) → (ls.flatten.map (·.key)).Nodup
  | [], _, _, _, _ => List.nodup_nil
  | l :: ls, P, hP, h1, h2 => by
    rw [List.flatten_cons, List.map_append, List.nodup_append]
    refine ⟨h2 0 (Nat.zero_lt_succ _), flat_nodup pl ls (fun i => P (i + 1)) (fun i j e => Nat.succ.inj (hP _ _ e)) (fun i hi e he => h1 (i + 1) (Nat.succ_lt_succ hi) e he) (fun i hi => h2 (i + 1) (Nat.succ_lt_succ hi)), ?_⟩
    intro a ha b hb e
    obtain ⟨x, hx, rfl⟩ := List.mem_map.1 ha
    obtain ⟨y, hy, rfl⟩ := List.mem_map.1 hb
    obtain ⟨m, hm, hy⟩ := List.mem_flatten.1 hy
    obtain ⟨i, hi, rfl⟩ := List.mem_iff_getElem.1 hm
    have a1 := h1 0 (Nat.zero_lt_succ _) x hx
    have a2 := h1 (i + 1) (Nat.succ_lt_succ hi) y (by rw [List.getD_cons_succ, getD_of hi]; exact hy)
    rw [← e, a1] at a2
    have := hP _ _ a2; omega
theorem TM.all_nodup {t : TM} (h : t.Core) : (t.all.map (·.key)).Nodup := by
  unfold TM.all
  rw [List.map_append, List.nodup_append]
  have hl1 : ∀ i, i < t.B.length → t.live (false, i) := fun i hi => by unfold TM.live; simpa using hi
  have hl2 : ∀ i, i < (t.O.drop t.moved).length → t.live (true, t.moved + i) ∧ (t.O.drop t.moved).getD i [] = t.row (true, t.moved + i) := fun i hi => by
    rw [List.length_drop] at hi
    refine ⟨by unfold TM.live; simp only [if_true]; omega, ?_⟩
    show _ = t.O.getD (t.moved + i) []
    simp only [List.getD, List.getElem?_drop]
  refine ⟨flat_nodup t.pl t.B (fun i => (false, i)) (fun i j e => congrArg Prod.snd e) (fun i hi e he => h.home _ (hl1 i hi) e he) (fun i hi => h.nd _ (hl1 i hi)),
    flat_nodup t.pl (t.O.drop t.moved) (fun i => (true, t.moved + i)) (fun i j e => Nat.add_left_cancel (congrArg Prod.snd e)) (fun i hi e he => by obtain ⟨a, b⟩ := hl2 i hi; rw [b] at he; exact h.home _ a e he) (fun i hi => by obtain ⟨a, b⟩ := hl2 i hi; rw [b]; exact h.nd _ a), ?_⟩
  intro a ha b hb e
  obtain ⟨x, hx, rfl⟩ := List.mem_map.1 ha
  obtain ⟨y, hy, rfl⟩ := List.mem_map.1 hb
  obtain ⟨m, hm, hx⟩ := List.mem_flatten.1 hx
  obtain ⟨i, hi, rfl⟩ := List.mem_iff_getElem.1 hm
  obtain ⟨m, hm, hy⟩ := List.mem_flatten.1 hy
  obtain ⟨j, hj, rfl⟩ := List.mem_iff_getElem.1 hm
  have a1 := h.home _ (hl1 i hi) x (by show x ∈ t.B.getD i []; rw [getD_of hi]; exact hx)
  obtain ⟨b1, b2⟩ := hl2 j hj
  have a2 := h.home _ b1 y (by rw [← b2, getD_of hj]; exact hy)
  rw [← e, a1] at a2
  cases a2

/-- The row of all entries of what is held: ascending by key, each that is held once. -/
structure AllRow (f : Int → Option Ent) (ys : List Ent) : Prop where
  asc : ys.Pairwise (fun a b => a.key < b.key)
  mem : ∀ e, e ∈ ys ↔ f e.key = some e
theorem AllRow.of {f : Int → Option Ent} {xs ys : List Ent} (hp : ys.Perm xs) (ha : ys.Pairwise (fun a b => a.key ≤ b.key)) (hn : (xs.map (·.key)).Nodup) (hm : ∀ e, e ∈ xs ↔ f e.key = some e) : AllRow f ys := by
  have hn' : (ys.map (·.key)).Nodup := (hp.map (·.key)).nodup_iff.2 hn
  refine ⟨?_, fun e => hp.mem_iff.trans (hm e)⟩
  have h2 : ys.Pairwise (fun a b => a.key ≠ b.key) := List.pairwise_map.1 hn'
  exact (ha.and h2).imp fun ⟨a, b⟩ => by omega
theorem AllRow.uniq {f : Int → Option Ent} : ∀ {xs ys : List Ent}, AllRow f xs → AllRow f ys → xs = ys := by
  have key : ∀ (xs ys : List Ent), xs.Pairwise (fun a b => a.key < b.key) → ys.Pairwise (fun a b => a.key < b.key) → (∀ e, e ∈ xs ↔ e ∈ ys) → xs = ys := by
    intro xs
    induction xs with
    | nil =>
      intro ys _ _ h
      cases ys with
      | nil => rfl
      | cons y ys => exact absurd ((h y).2 (List.mem_cons_self ..)) (by simp)
    | cons x xs ih =>
      intro ys h1 h2 h
      cases ys with
      | nil => exact absurd ((h x).1 (List.mem_cons_self ..)) (by simp)
      | cons y ys =>
        rw [List.pairwise_cons] at h1 h2
        have e : x = y := by
          rcases List.mem_cons.1 ((h x).1 (List.mem_cons_self ..)) with e | hx
          · exact e
          · rcases List.mem_cons.1 ((h y).2 (List.mem_cons_self ..)) with e | hy
            · exact e.symm
            · have a := h2.1 x hx; have b := h1.1 y hy; omega
        subst e
        rw [ih ys h1.2 h2.2 fun z => ?_]
        constructor
        · intro hz
          rcases List.mem_cons.1 ((h z).1 (List.mem_cons_of_mem _ hz)) with e | hh
          · subst e; have := h1.1 z hz; omega
          · exact hh
        · intro hz
          rcases List.mem_cons.1 ((h z).2 (List.mem_cons_of_mem _ hz)) with e | hh
          · subst e; have := h2.1 z hz; omega
          · exact hh
  intro xs ys hx hy
  exact key xs ys hx.asc hy.asc fun e => (hx.mem e).trans (hy.mem e).symm

end Sx
end Go.Proofs.Ytohckjjbephohaa

/-
  All entries of a map: the runs of the machine.
-/
namespace Go.Proofs.Ytohckjjbephohaa
namespace Sx
open Go
set_option maxRecDepth 100000
set_option linter.unusedVariables false

noncomputable def hooksMA : Nat → Option (HookS V) := fun g => match g with | 36 => some (hookPool [.val] runAll) | 37 => some hookSort | _ => none
noncomputable def cfgMA : Cfg Try.prog V := ⟨tab, kinds, fun _ => none, hooksMA, fun _ _ => none⟩
structure PMA where
  s : MO
  sp : Nat
  b : Nat → Nat
  L : Nat → TL
  hn : s.tabs.length ≤ 64
  ht : ∀ i, i < s.tabs.length → s.tabs.getD i none = some (b i, 0) ∧ TabAt s.pool (b i) (L i) ∧ (L i).fits ∧ (rowsAll (L i)).length ≤ 1073741824
structure XMA where
  i : Nat
  ys : List Ent
  sp : Nat
def IMA (q : PMA) (z : XMA) : St V := ⟨[(11, .int .i64 (z.i : Int)), (10, .int .i64 (q.s.tabs.length : Int)), (9, .sl false 1 0 1 q.s.tabs.length (q.s.tabs.length + q.sp)), (3, .sl false 5 0 4 z.ys.length (z.ys.length + z.sp))],
  [(5, .arr 28 .ent z.ys z.sp), (0, .cells 54 [.int .i64 q.s.seed, .sl false 1 0 1 q.s.tabs.length (q.s.tabs.length + q.sp), .int .i64 q.s.given, .mp 2, .mp 3, .int .i64 q.s.weight]), (1, .arr 56 Kd.ptr q.s.tabs q.sp), (2, .mp .i64 Kd.int q.s.keys), (3, .mp .i64 Kd.bool q.s.gone), (4, .pool q.s.pool)], 6, 23, TQ⟩
structure JMA (q : PMA) (z : XMA) : Prop where
  le : z.i ≤ q.s.tabs.length
  perm : z.ys.Perm ((List.range z.i).flatMap fun i => rowsAll (q.L i))
def LMA : LoopS V := trimLoop (trimSt [3, 9, 10, 11] [0, 1, 2, 3, 4, 5]) (loopH 5 (fun q : PMA => IMA q ⟨0, [], 0⟩) (fun q (z : XMA) => JMA q z ∧ z.i = q.s.tabs.length) (fun q z => IMA q z))
noncomputable def cfgMA1 : Cfg Try.prog V := ⟨tab, kinds, fun _ => none, hooksMA, fun f id => match f, id with | 19, 0 => some LMA | _, _ => none⟩
theorem tbma (q : PMA) (z : XMA) : runCode cfgMA 60 19 (loopOf Try.f19 0) (IMA q z) (stopT (trimSt [3, 9, 10, 11] [0, 1, 2, 3, 4, 5, 6, 7, 8, 9, 10])) = Out.ite (decide ((↑z.1 : Int) < (↑q.s.tabs.length : Int))) (Out.need ((0 : Int) ≤ (↑z.1 : Int) ∧ (↑z.1 : Int) < (↑q.s.tabs.length : Int)) (Out.need ((0 : Nat) + z.1 < q.s.tabs.length) (Out.ex Nat fun y => Out.need (q.s.tabs.getD ((0 : Nat) + z.1) (V.enc Kd.ptr).dflt = some (y, (0 : Nat))) (Out.ex TL fun y_1 => Out.need (TabAt q.s.pool y y_1 ∧ y_1.fits ∧ (rowsAll y_1).length ≤ (1099511627776 : Nat)) (Out.all (List Ent) fun y => Out.all Nat fun y_2 => Out.asm (y.Perm (rowsAll y_1) ∧ List.Pairwise (fun a b => a.key ≤ b.key) y) (Out.need ((0 : Nat) + (rowsAll y_1).length ≤ y.length) (Out.need ((0 : Nat) = (0 : Nat) ∧ z.ys.length = z.ys.length ∧ z.ys.length + z.3 = z.ys.length + z.3 ∧ (z.ys.length + (List.take (rowsAll y_1).length (List.drop (0 : Nat) y)).length) * (32 : Nat) ≤ (140737488355328 : Nat)) (Out.all Nat fun y_3 => Out.stop EX.nx {env := [((3 : Nat), .sl false (7 : Nat) (0 : Nat) (4 : Nat) (z.ys.length + (List.take (rowsAll y_1).length (List.drop (0 : Nat) y)).length) (z.ys.length + (List.take (rowsAll y_1).length (List.drop (0 : Nat) y)).length + y_3)), ((9 : Nat), .sl false (1 : Nat) (0 : Nat) (1 : Nat) q.s.tabs.length (q.s.tabs.length + q.2)), ((10 : Nat), .int .i64 (↑q.s.tabs.length : Int)), ((11 : Nat), .int .i64 (IntKind.i64.wrap ((↑z.1 : Int) + (1 : Int))))], heap := [((7 : Nat), .arr (28 : Nat) Kd.ent (z.ys ++ List.take (rowsAll y_1).length (List.drop (0 : Nat) y)) y_3), ((6 : Nat), .arr (28 : Nat) Kd.ent y y_2), ((0 : Nat), .cells (54 : Nat) [.int .i64 q.s.seed, .sl false (1 : Nat) (0 : Nat) (1 : Nat) q.s.tabs.length (q.s.tabs.length + q.2), .int .i64 q.s.given, .mp (2 : Nat), .mp (3 : Nat), .int .i64 q.s.weight]), ((1 : Nat), .arr (56 : Nat) Kd.ptr q.s.tabs q.2), ((2 : Nat), .mp .i64 Kd.int q.s.keys), ((3 : Nat), .mp .i64 Kd.bool q.s.gone), ((4 : Nat), Blk.pool q.s.pool)], nx := (8 : Nat), nt := (23 : Nat), tl := [(5 : Nat), (4 : Nat), (0 : Nat), (1 : Nat), (2 : Nat), (3 : Nat), (4 : Nat), (5 : Nat), (6 : Nat), (7 : Nat), (8 : Nat), (9 : Nat), (10 : Nat), (11 : Nat), (12 : Nat), (13 : Nat), (14 : Nat), (15 : Nat), (16 : Nat)] : St V })))))))) (Out.stop (EX.ex (0 : Nat)) {env := [((3 : Nat), .sl false (5 : Nat) (0 : Nat) (4 : Nat) z.ys.length (z.ys.length + z.3)), ((9 : Nat), .sl false (1 : Nat) (0 : Nat) (1 : Nat) q.s.tabs.length (q.s.tabs.length + q.2)), ((10 : Nat), .int .i64 (↑q.s.tabs.length : Int)), ((11 : Nat), .int .i64 (↑z.1 : Int))], heap := [((5 : Nat), .arr (28 : Nat) Kd.ent z.ys z.3), ((0 : Nat), .cells (54 : Nat) [.int .i64 q.s.seed, .sl false (1 : Nat) (0 : Nat) (1 : Nat) q.s.tabs.length (q.s.tabs.length + q.2), .int .i64 q.s.given, .mp (2 : Nat), .mp (3 : Nat), .int .i64 q.s.weight]), ((1 : Nat), .arr (56 : Nat) Kd.ptr q.s.tabs q.2), ((2 : Nat), .mp .i64 Kd.int q.s.keys), ((3 : Nat), .mp .i64 Kd.bool q.s.gone), ((4 : Nat), Blk.pool q.s.pool)], nx := (6 : Nat), nt := (23 : Nat), tl := [(0 : Nat), (1 : Nat), (2 : Nat), (3 : Nat), (4 : Nat), (5 : Nat), (6 : Nat), (7 : Nat), (8 : Nat), (9 : Nat), (10 : Nat), (11 : Nat), (12 : Nat), (13 : Nat), (14 : Nat), (15 : Nat), (16 : Nat)] : St V }) := by kernel_rfl

theorem tma (s : MO) (sp : Nat) : runF cfgMA1 60 19 Try.f19 [.ptr 0 0] (mUp s sp) 5 = Out.need (LoopFor Try.prog (19 : Nat) (0 : Nat) (loopOf Try.f19 (0 : Nat)) LMA) (Out.ex (PMA → Prop) fun y => Out.need ((5 : Nat) ≤ (5 : Nat) ∧ SImp (5 : Nat) {env := [((3 : Nat), .nilS), ((9 : Nat), .sl false (1 : Nat) (0 : Nat) (1 : Nat) s.tabs.length (s.tabs.length + sp)), ((10 : Nat), .int .i64 (↑s.tabs.length : Int)), ((11 : Nat), .lit .i64 (0 : Int))], heap := [((0 : Nat), .cells (54 : Nat) [.int .i64 s.seed, .sl false (1 : Nat) (0 : Nat) (1 : Nat) s.tabs.length (s.tabs.length + sp), .int .i64 s.given, .mp (2 : Nat), .mp (3 : Nat), .int .i64 s.weight]), ((1 : Nat), .arr (56 : Nat) Kd.ptr s.tabs sp), ((2 : Nat), .mp .i64 Kd.int s.keys), ((3 : Nat), .mp .i64 Kd.bool s.gone), ((4 : Nat), Blk.pool s.pool)], nx := (5 : Nat), nt := (23 : Nat), tl := [] : St V } (fun q => IMA q {i := (0 : Nat), ys := [], sp := (0 : Nat) : XMA }) y) (Out.all PMA fun y_1 => Out.asm (y y_1) (Out.all XMA fun y => Out.asm ((fun q z => JMA q z ∧ z.1 = q.s.tabs.length) y_1 y) (Out.need ((0 : Nat) = (0 : Nat) ∧ y.ys.length = y.ys.length ∧ y.ys.length ≤ (1099511627776 : Nat)) (Out.all (List Ent) fun y_2 => Out.asm (y_2.Perm y.ys ∧ List.Pairwise (fun a b => a.key ≤ b.key) y_2) (Out.fin (.sl false (5 : Nat) (0 : Nat) (4 : Nat) y.ys.length (y.ys.length + y.3)) [((5 : Nat), .arr (28 : Nat) Kd.ent y_2 y.3), ((0 : Nat), .cells (54 : Nat) [.int .i64 y_1.s.seed, .sl false (1 : Nat) (0 : Nat) (1 : Nat) y_1.s.tabs.length (y_1.s.tabs.length + y_1.2), .int .i64 y_1.s.given, .mp (2 : Nat), .mp (3 : Nat), .int .i64 y_1.s.weight]), ((1 : Nat), .arr (56 : Nat) Kd.ptr y_1.s.tabs y_1.2), ((2 : Nat), .mp .i64 Kd.int y_1.s.keys), ((3 : Nat), .mp .i64 Kd.bool y_1.s.gone), ((4 : Nat), Blk.pool y_1.s.pool)] (6 : Nat))))))) := by kernel_rfl

end Sx
end Go.Proofs.Ytohckjjbephohaa

/-
  All entries of a map of shards: the contract.
-/
namespace Go.Proofs.Ytohckjjbephohaa
namespace Sx
open Go
set_option linter.unusedSimpArgs false
set_option linter.unusedVariables false

theorem hooksMA_ok : ∀ g H, hooksMA g = some H → HookOk Try.prog g H := by
  intro g H h
  unfold hooksMA at h
  split at h
  · cases h; exact hAll
  · cases h; exact hSort
  · cases h
theorem cfgMA_ok : cfgMA.ok := ⟨tab_met, kinds_met, mixed_met, fun g fn h => (by cases h), hooksMA_ok⟩
theorem cfgMA1_ok : cfgMA1.ok := ⟨tab_met, kinds_met, mixed_met, fun g fn h => (by cases h), hooksMA_ok⟩

theorem flat_len {α : Type} (f : Nat → List α) (M : Nat) : ∀ n, (∀ i, i < n → (f i).length ≤ M) → ((List.range n).flatMap f).length ≤ n * M
  | 0, _ => by simp
  | n + 1, h => by
    have h1 := flat_len f M n fun i hi => h i (by omega)
    have h2 := h n (by omega)
    rw [List.range_succ, List.flatMap_append, List.length_append]
    have : ([n].flatMap f).length = (f n).length := by simp
    rw [this, Nat.succ_mul]; omega
theorem range_flat {α : Type} (f : Nat → List α) (n : Nat) : (List.range (n + 1)).flatMap f = (List.range n).flatMap f ++ f n := by
  rw [List.range_succ, List.flatMap_append]; simp

theorem mabody (q : PMA) (z : XMA) (h : JMA q z) (Q : EX → St V → Prop) (F : AV → Heap V → Nat → Prop)
    (hnx : ∀ (ST : St V) (y : List Ent) sp', z.i < q.s.tabs.length → y.Perm (rowsAll (q.L z.i)) → Wk 5 [(5, 7)] ST (IMA q ⟨z.i + 1, z.ys ++ y, sp'⟩) → Q .nx ST)
    (hex : ∀ ST : St V, z.i = q.s.tabs.length → Wk 5 [(5, 5)] ST (IMA q z) → Q (.ex 0) ST) :
    (runCode cfgMA 60 19 (loopOf Try.f19 0) (IMA q z) (stopT (trimSt [3, 9, 10, 11] [0, 1, 2, 3, 4, 5, 6, 7, 8, 9, 10]))).holds ⟨Q, F⟩ := by
  rw [tbma]
  have hle := h.le
  have hn := q.hn
  have hl := h.perm.length_eq
  have hb := flat_len (fun i => rowsAll (q.L i)) 1073741824 z.i (fun i hi => (q.ht i (by omega)).2.2.2)
  simp only [Out.holds, decide_eq_true_eq, decide_eq_false_iff_not, beq_iff_eq, beq_eq_false_iff_ne, bne_iff_ne, ne_eq, bne_eq_false_iff_eq, Bool.true_and, Bool.and_true, Bool.not_eq_true', Bool.not_eq_false', Bool.and_eq_true, Bool.or_eq_true, Bool.and_eq_false_imp, true_implies, true_and, Bool.not_true, Bool.not_false, Bool.false_eq_true, Bool.true_eq_false, false_implies, and_true, beq_self_eq_true, Decidable.not_not, not_true_eq_false, not_false_eq_true]
  refine ⟨fun hlt => ?_, fun hge => hex _ (by omega) (by (refine ⟨?_, ?_, rfl, tl_ok rfl, ?_, ⟨Nat.le_of_ble_eq_true rfl, rfl⟩⟩ <;> (repeat' first | with_reducible exact trivial | exact AV.sub_same _ | exact .same _ | exact .inr rfl | exact .inl (in_ok rfl) | exact AV.sub_lit' | exact AV.sub_nilS | exact .none _ _ | exact trivial | refine ⟨?_, ?_⟩)))⟩
  have hlt' : z.i < q.s.tabs.length := by omega
  obtain ⟨h1, h2, h3, h4⟩ := q.ht z.i hlt'
  have hw : IntKind.wrap .i64 ((z.i : Int) + 1) = ((z.i + 1 : Nat) : Int) := wrap_nat (by omega)
  refine ⟨by omega, by omega, q.b z.i, by rw [Nat.zero_add]; exact h1, q.L z.i, ⟨h2, h3, by omega⟩, fun y sp1 hy => ?_⟩
  have hyl := hy.1.length_eq
  have et : List.take (rowsAll (q.L z.i)).length (List.drop 0 y) = y := by rw [List.drop_zero]; exact List.take_of_length_le (by omega)
  rw [et]
  refine ⟨by omega, ?_, fun sp' => ?_⟩
  · have : z.i * 1073741824 ≤ 64 * 1073741824 := Nat.mul_le_mul_right _ (by omega)
    omega
  · have el : z.ys.length + y.length = (z.ys ++ y).length := by rw [List.length_append]
    rw [el]
    exact hnx _ y sp' hlt' hy.1 (by (refine ⟨?_, ?_, rfl, tl_ok rfl, ?_, ⟨Nat.le_of_ble_eq_true rfl, rfl⟩⟩ <;> (repeat' first | with_reducible exact trivial | (exact AV.sub_int hw) | exact AV.sub_same _ | exact .same _ | exact .inr rfl | exact .inl (in_ok rfl) | exact AV.sub_lit' | exact AV.sub_nilS | exact .none _ _ | exact trivial | refine ⟨?_, ?_⟩)))
theorem lma_ok : LoopOk Try.prog 0 (loopOf Try.f19 0) LMA := by
  refine trimLoop_ok (trim_ok _ _) (loopTH_ok (C := cfgMA) cfgMA_ok (f := 19) (n := 60) (trim_ok [3, 9, 10, 11] [0, 1, 2, 3, 4, 5, 6, 7, 8, 9, 10]) 5 IMA JMA (fun _ => ⟨0, [], 0⟩) (fun q z => q.s.tabs.length - z.i) (fun q (z : XMA) => JMA q z ∧ z.i = q.s.tabs.length) (fun q z => IMA q z) (fun q => ⟨Nat.zero_le _, List.Perm.refl _⟩) ?_)
  intro q z h
  refine mabody q z h _ _ (fun ST y sp' hlt hy hw => SImp.of_wk ⟨z.i + 1, z.ys ++ y, sp'⟩ hw ⟨⟨hlt, ?_⟩, ?_⟩) (fun ST he hw => ⟨rfl, SImp.of_wk z hw ⟨h, he⟩⟩)
  · show (z.ys ++ y).Perm ((List.range (z.i + 1)).flatMap _)
    rw [range_flat]; exact h.perm.append hy
  · show q.s.tabs.length - (z.i + 1) < q.s.tabs.length - z.i; omega

/-- What a map holds, as one row. -/
theorem MapOk.rows {s : MO} {f : Int → Option Ent} (h : MapOk s f) : ∃ (b : Nat → Nat) (L : Nat → TL), (∀ i, i < s.tabs.length → s.tabs.getD i none = some (b i, 0) ∧ TabAt s.pool (b i) (L i) ∧ (L i).fits ∧ (rowsAll (L i)).length ≤ 1073741824) ∧
    (((List.range s.tabs.length).flatMap fun i => rowsAll (L i)).map (·.key)).Nodup ∧ ∀ e, e ∈ ((List.range s.tabs.length).flatMap fun i => rowsAll (L i)) ↔ f e.key = some e := by
  obtain ⟨b, L, h1, h2, h3, h4⟩ := h.ex
  have hgv := h.giv
  have mem : ∀ i, i < s.tabs.length → ∀ e, e ∈ rowsAll (L i) ↔ (L i).tm.get e.key = some e := fun i hi e => by rw [rows_all]; exact TM.mem_all (h1 i hi).2.2.1.core e
  have hsh : ∀ i, i < s.tabs.length → ∀ e, e ∈ rowsAll (L i) → shN s e.key = i := fun i hi e he => h4 i hi _ _ ((mem i hi e).1 he)
  refine ⟨b, L, fun i hi => ?_, ?_, fun e => ?_⟩
  · obtain ⟨a1, a2, a3, a4⟩ := h1 i hi
    refine ⟨a1, a2, good_fits a3 (by omega), ?_⟩
    rw [rows_all, TM.all_length, ← a3.len]
    show (L i).len ≤ _; omega
  · have key : ∀ n, n ≤ s.tabs.length → (((List.range n).flatMap fun i => rowsAll (L i)).map (·.key)).Nodup := by
      intro n
      induction n with
      | zero => intro _; exact List.nodup_nil
      | succ n ih =>
        intro hn
        rw [range_flat, List.map_append, List.nodup_append]
        refine ⟨ih (by omega), by rw [rows_all]; exact TM.all_nodup (h1 n (by omega)).2.2.1.core, fun a ha c hc e => ?_⟩
        obtain ⟨x, hx, rfl⟩ := List.mem_map.1 ha
        obtain ⟨y, hy, rfl⟩ := List.mem_map.1 hc
        obtain ⟨j, hj, hx⟩ := List.mem_flatMap.1 hx
        have hj := List.mem_range.1 hj
        have e1 := hsh j (by omega) x hx
        have e2 := hsh n (by omega) y hy
        rw [e, e2] at e1; omega
    exact key _ (Nat.le_refl _)
  · rw [List.mem_flatMap]
    constructor
    · rintro ⟨i, hi, he⟩
      have hi := List.mem_range.1 hi
      have e1 := hsh i hi e he
      rw [h3, e1]; exact (mem i hi e).1 he
    · intro he
      obtain ⟨_, _, hk⟩ := h.sh e.key
      exact ⟨_, List.mem_range.2 hk, (mem _ hk e).2 (by rw [← h3]; exact he)⟩

theorem endMRow {n' : Nat} {h' : Heap V} {v0 v : AV} {s' : MO} {sp : Nat} {ys : List Ent} {spx : Nat}
    (h0 : h'.get 0 = some (.cells 54 [.int .i64 s'.seed, .sl false 1 0 1 s'.tabs.length (s'.tabs.length + sp), .int .i64 s'.given, .mp 2, .mp 3, .int .i64 s'.weight]))
    (h1 : h'.get 1 = some (.arr 56 Kd.ptr s'.tabs sp)) (h2 : h'.get 2 = some (.mp .i64 Kd.int s'.keys)) (h3 : h'.get 3 = some (.mp .i64 Kd.bool s'.gone)) (h4 : h'.get 4 = some (.pool s'.pool))
    (h5 : h'.get 5 = some (.arr 28 Kd.ent ys spx)) (hv : v0.sub (v.ren fun _ => 5)) (hn : v.on (fun i => Nat.ble 5 i && Nat.blt i 6) = true) : EndObj 5 n' v0 h' v (oM s') [.arr 28 .ent ys spx] := by
  refine ⟨_, pack (ren := [(0, 0), (1, 1), (2, 2), (3, 3), (4, 4)]) laid_V (x := oM s') (n := 5) (m := 0) (h := h') ⟨mBlk s' sp, rfl, rfl, sp, rfl⟩ rfl rfl ⟨?_, ?_, ?_, ?_, ?_, trivial⟩ rfl, rfl, ⟨⟨fun _ => 5, ⟨?_, trivial⟩, hv⟩, rfl, hn⟩⟩
  · show BSub (h'.get 0) _
    rw [h0]; exact .same _
  · show BSub ((h'.del 0).get 1) _
    rw [Heap.get_del_ne (by decide), h1]; exact .same _
  · show BSub (((h'.del 0).del 1).get 2) _
    rw [Heap.get_del_ne (by decide), Heap.get_del_ne (by decide), h2]; exact .same _
  · show BSub ((((h'.del 0).del 1).del 2).get 3) _
    rw [Heap.get_del_ne (by decide), Heap.get_del_ne (by decide), Heap.get_del_ne (by decide), h3]; exact .same _
  · show BSub (((((h'.del 0).del 1).del 2).del 3).get 4) _
    rw [Heap.get_del_ne (by decide), Heap.get_del_ne (by decide), Heap.get_del_ne (by decide), Heap.get_del_ne (by decide), h4]; exact .same _
  · show BSub ((((((h'.del 0).del 1).del 2).del 3).del 4).get 5) _
    rw [Heap.get_del_ne (by decide), Heap.get_del_ne (by decide), Heap.get_del_ne (by decide), Heap.get_del_ne (by decide), Heap.get_del_ne (by decide), h5]; exact .same _

def runMAll : RunM := fun s ar K => match ar with
  | [] => .ex (Int → Option Ent) fun f => .need (MapOk s f) (.all (List Ent) fun ys => .all Nat fun sp => .asm (AllRow f ys ∧ ys.length ≤ 68719476736) (K (.sl false 5 0 4 ys.length (ys.length + sp)) s [.arr 28 .ent ys sp]))
  | _ => .bad 500
theorem hMAll : HookOk Try.prog 19 (hookObj 5 [] (onM runMAll)) := by
  refine map_hook cfgMA1_ok (n := 60) (fn := Try.f19) ⟨by kernel_rfl, by kernel_rfl⟩ (by kernel_rfl) ?_
  intro M s ar K0 H
  unfold runMAll at H
  split at H
  · obtain ⟨f, hM, H⟩ := H
    refine ⟨show 1 ≤ _ by decide +kernel, fun sp => ?_⟩
    show (runF cfgMA1 60 19 Try.f19 [.ptr 0 0] (mUp s sp) 5).holds _
    rw [tma]
    obtain ⟨b, L, h1, h2, h3⟩ := hM.rows
    have hn2 := hM.n2
    refine ⟨lma_ok, fun q => q = ⟨s, sp, b, L, hn2, h1⟩, ⟨Nat.le_refl _, SImp.of_wk (ren := [(5, 99)]) ⟨s, sp, b, L, hn2, h1⟩ (by (refine ⟨?_, ?_, rfl, tl_ok rfl, ?_, ⟨Nat.le_of_ble_eq_true rfl, rfl⟩⟩ <;> (repeat' first | with_reducible exact trivial | exact AV.sub_same _ | exact .same _ | exact .inr rfl | exact .inl (in_ok rfl) | exact AV.sub_lit' | exact AV.sub_nilS | exact .none _ _ | exact trivial | refine ⟨?_, ?_⟩))) rfl⟩, ?_⟩
    rintro _ rfl z ⟨hz, hzi⟩
    have hl := hz.perm.length_eq
    have hb := flat_len (fun i => rowsAll (L i)) 1073741824 z.i (fun i hi => (h1 i (by have := hz.le; have := hzi; dsimp only at *; omega)).2.2.2)
    have hi64 : z.i ≤ 64 := by have := hz.le; dsimp only at this; omega
    have hm : z.i * 1073741824 ≤ 64 * 1073741824 := Nat.mul_le_mul_right _ hi64
    refine ⟨⟨rfl, rfl, by dsimp only at hl; omega⟩, fun ys hys => ?_⟩
    have hp : ys.Perm ((List.range s.tabs.length).flatMap fun i => rowsAll (L i)) := by
      have := hys.1.trans hz.perm
      rwa [hzi] at this
    have hyl : ys.length = z.ys.length := hys.1.length_eq
    refine ⟨_, _, _, H ys z.sp ⟨AllRow.of hp hys.2 h2 h3, by dsimp only at hl; omega⟩, endMRow (sp := sp) rfl rfl rfl rfl rfl rfl (by rw [hyl]; exact AV.sub_same _) rfl⟩
  · exact H.elim

end Sx
end Go.Proofs.Ytohckjjbephohaa

/-
  What a map of shards holds, as a row: nodes, states, weights; no program in sight.
-/
namespace Go.Proofs.Ytohckjjbephohaa
namespace Sx
open Go
set_option linter.unusedSimpArgs false
set_option linter.unusedVariables false

/-! ## rows of pairs -/
theorem mget_put_ne {α : Type} : ∀ (m : List (Int × α)) (k j : Int) (a : α), j ≠ k → mget (mput m k a) j = mget m j
  | [], k, j, a, h => by simp [mput, mget, h]
  | (i, b) :: m, k, j, a, h => by
    unfold mput
    by_cases e : k = i
    · subst e; simp [mget, h]
    · simp only [e, if_false, mget]; rw [mget_put_ne m k j a h]
theorem mput_new {α : Type} : ∀ (m : List (Int × α)) (k : Int) (a : α), mget m k = none → mput m k a = m ++ [(k, a)]
  | [], k, a, _ => rfl
  | (i, b) :: m, k, a, h => by
    unfold mget at h
    unfold mput
    by_cases e : k = i
    · rw [if_pos e] at h; cases h
    · rw [if_neg e] at h ⊢; rw [mput_new m k a h]; rfl
theorem mget_mem {α : Type} : ∀ (m : List (Int × α)), (m.map (·.1)).Nodup → ∀ k a, mget m k = some a ↔ (k, a) ∈ m
  | [], _, k, a => by simp [mget]
  | (i, b) :: m, h, k, a => by
    rw [List.map_cons, List.nodup_cons] at h
    unfold mget
    by_cases e : k = i
    · subst e
      rw [if_pos rfl, List.mem_cons]
      constructor
      · intro hh; cases hh; exact .inl rfl
      · rintro (hh | hh)
        · cases hh; rfl
        · exact absurd (List.mem_map.2 ⟨_, hh, rfl⟩) h.1
    · rw [if_neg e, mget_mem m h.2 k a, List.mem_cons]
      constructor
      · exact .inr
      · rintro (hh | hh)
        · cases hh; exact absurd rfl e
        · exact hh
theorem mdel_perm {α : Type} : ∀ (m : List (Int × α)), (m.map (·.1)).Nodup → ∀ k a, (k, a) ∈ m → m.Perm ((k, a) :: mdel m k)
  | [], _, k, a, h => by cases h
  | (i, b) :: m, h, k, a, hm => by
    rw [List.map_cons, List.nodup_cons] at h
    unfold mdel
    by_cases e : k = i
    · subst e
      rw [if_pos rfl]
      rcases List.mem_cons.1 hm with hh | hh
      · cases hh; exact List.Perm.refl _
      · exact absurd (List.mem_map.2 ⟨_, hh, rfl⟩) h.1
    · rw [if_neg e]
      rcases List.mem_cons.1 hm with hh | hh
      · cases hh; exact absurd rfl e
      · exact ((mdel_perm m h.2 k a hh).cons (i, b)).trans (List.Perm.swap ..)

/-! ## what is held, as a row -/
structure Holds (f : Int → Option Ent) (xs : List Ent) : Prop where
  nd : (xs.map (·.key)).Nodup
  mem : ∀ e, e ∈ xs ↔ f e.key = some e
theorem nodup_of_map {α β : Type} {g : α → β} {xs : List α} (h : (xs.map g).Nodup) : xs.Nodup := (List.pairwise_map.1 h).imp fun h e => h (by rw [e])
theorem AllRow.holds {f : Int → Option Ent} {ys : List Ent} (h : AllRow f ys) : Holds f ys := ⟨List.pairwise_map.2 (h.asc.imp fun h => by omega), h.mem⟩
theorem Holds.uniq {f : Int → Option Ent} {xs ys : List Ent} (h : Holds f xs) (k : Holds f ys) : xs.Perm ys :=
  (List.perm_ext_iff_of_nodup (nodup_of_map h.nd) (nodup_of_map k.nd)).2 fun e => (h.mem e).trans (k.mem e).symm
theorem Holds.perm {f : Int → Option Ent} {xs ys : List Ent} (h : Holds f xs) (p : xs.Perm ys) : Holds f ys := ⟨(p.map _).nodup_iff.1 h.nd, fun e => p.mem_iff.symm.trans (h.mem e)⟩
theorem Holds.new {f : Int → Option Ent} {xs : List Ent} (h : Holds f xs) {e : Ent} (hf : f e.key = none) : Holds (updF f e.key (some e)) (e :: xs) := by
  refine ⟨?_, fun x => ?_⟩
  · rw [List.map_cons, List.nodup_cons]
    refine ⟨fun hm => ?_, h.nd⟩
    obtain ⟨x, hx, e1⟩ := List.mem_map.1 hm
    have := (h.mem x).1 hx
    rw [e1, hf] at this; cases this
  · unfold updF
    rw [List.mem_cons]
    by_cases hk : x.key = e.key
    · rw [if_pos hk]
      constructor
      · rintro (hh | hh)
        · rw [hh]
        · have := (h.mem x).1 hh; rw [hk, hf] at this; cases this
      · intro hh; cases hh; exact .inl rfl
    · rw [if_neg hk]
      constructor
      · rintro (hh | hh)
        · rw [hh] at hk; exact absurd rfl hk
        · exact (h.mem x).1 hh
      · intro hh; exact .inr ((h.mem x).2 hh)
theorem Holds.gone {f : Int → Option Ent} {xs : List Ent} {o : Ent} (h : Holds f (o :: xs)) : Holds (updF f o.key none) xs := by
  have hn := h.nd
  rw [List.map_cons, List.nodup_cons] at hn
  refine ⟨hn.2, fun x => ?_⟩
  unfold updF
  by_cases hk : x.key = o.key
  · rw [if_pos hk]
    constructor
    · intro hh; exact absurd (List.mem_map.2 ⟨x, hh, hk⟩) hn.1
    · intro hh; cases hh
  · rw [if_neg hk, ← h.mem x, List.mem_cons]
    constructor
    · exact .inr
    · rintro (hh | hh)
      · rw [hh] at hk; exact absurd rfl hk
      · exact hh
theorem updF_updF (f : Int → Option Ent) (k : Int) (a b : Option Ent) : updF (updF f k a) k b = updF f k b := by
  funext j; unfold updF; split <;> rfl
theorem updF_none {f : Int → Option Ent} {k : Int} (h : f k = none) : updF f k none = f := by
  funext j; unfold updF; split
  · rename_i e; rw [e, h]
  · rfl

theorem MapOk.key {s : MO} {f : Int → Option Ent} (h : MapOk s f) {k : Int} {e : Ent} (hf : f k = some e) : e.key = k := by
  obtain ⟨b, L, h1, h2, h3, h4⟩ := h.ex
  obtain ⟨_, _, hk⟩ := h.sh k
  rw [h3] at hf
  exact (TM.get_some (h1 _ hk).2.2.1.core hf).1

def wsum (xs : List Ent) : Int := (xs.map (·.weight)).sum
structure MK (s : MO) (f : Int → Option Ent) (xs : List Ent) : Prop where
  m : MapOk s f
  h : Holds f xs
  keys : s.keys.Perm (xs.map fun e => (e.node, e.key))
  nn : (xs.map (·.node)).Nodup
  nr : ∀ e ∈ xs, 1 ≤ e.node ∧ e.node ≤ s.given
  al : ∀ n, 1 ≤ n → n ≤ s.given → (mget s.gone n = none ↔ ∃ e ∈ xs, e.node = n)
  gr : ∀ n, mget s.gone n ≠ none → 1 ≤ n ∧ n ≤ s.given
  wt : s.weight = IntKind.wrap .i64 (wsum xs)
theorem sum_perm {xs ys : List Int} (p : xs.Perm ys) : xs.sum = ys.sum := by
  induction p with
  | nil => rfl
  | cons x p ih => simp only [List.sum_cons, ih]
  | swap x y l => simp only [List.sum_cons]; omega
  | trans p q a b => exact a.trans b
theorem wsum_perm {xs ys : List Ent} (p : xs.Perm ys) : wsum xs = wsum ys := sum_perm (p.map _)
theorem MK.perm {s : MO} {f : Int → Option Ent} {xs ys : List Ent} (h : MK s f xs) (p : xs.Perm ys) : MK s f ys :=
  ⟨h.m, h.h.perm p, h.keys.trans (p.map _), (p.map _).nodup_iff.1 h.nn, fun e he => h.nr e (p.mem_iff.2 he), fun n a b => (h.al n a b).trans ⟨fun ⟨e, he, hn⟩ => ⟨e, p.mem_iff.1 he, hn⟩, fun ⟨e, he, hn⟩ => ⟨e, p.mem_iff.2 he, hn⟩⟩, h.gr, by rw [h.wt, wsum_perm p]⟩
theorem MK.kn {s : MO} {f : Int → Option Ent} {xs : List Ent} (h : MK s f xs) : (s.keys.map (·.1)).Nodup := by
  refine (h.keys.map (·.1)).nodup_iff.2 ?_
  rw [List.map_map]; exact h.nn
theorem MK.node {s : MO} {f : Int → Option Ent} {xs : List Ent} (h : MK s f xs) (n k : Int) : mget s.keys n = some k ↔ ∃ e ∈ xs, e.node = n ∧ e.key = k := by
  rw [mget_mem _ h.kn, h.keys.mem_iff, List.mem_map]
  constructor
  · rintro ⟨e, he, e1⟩; cases e1; exact ⟨e, he, rfl, rfl⟩
  · rintro ⟨e, he, rfl, rfl⟩; exact ⟨e, he, rfl⟩
theorem MK.out {s : MO} {f : Int → Option Ent} {xs : List Ent} (h : MK s f xs) {k : Int} {o : Ent} (hf : f k = some o) : ∃ xs0, MK s f (o :: xs0) := by
  have hk := h.m.key hf
  have hm : o ∈ xs := (h.h.mem o).2 (by rw [hk]; exact hf)
  obtain ⟨a, b, rfl⟩ := List.append_of_mem hm
  exact ⟨a ++ b, h.perm List.perm_middle⟩
theorem wrap_sum {a b : Int} : IntKind.wrap .i64 (IntKind.wrap .i64 a + IntKind.wrap .i64 b) = IntKind.wrap .i64 (a + b) := by
  simp [IntKind.wrap, IntKind.bits, IntKind.signed]; omega
theorem wrap_sumR {a b : Int} : IntKind.wrap .i64 (IntKind.wrap .i64 a + b) = IntKind.wrap .i64 (a + b) := by
  simp [IntKind.wrap, IntKind.bits, IntKind.signed]; omega
theorem wrap_subR {a b : Int} : IntKind.wrap .i64 (IntKind.wrap .i64 a - b) = IntKind.wrap .i64 (a - b) := by
  simp [IntKind.wrap, IntKind.bits, IntKind.signed]; omega

theorem MK.new (n s : Int) (y : MO) (e : y = newS s y.tabs y.pool) (m : MapOk y fun _ => none) : MK y (fun _ => none) [] := by
  have e1 : y.keys = [] := by rw [e]; rfl
  have e2 : y.gone = [] := by rw [e]; rfl
  have e3 : y.given = 0 := by rw [e]; rfl
  have e4 : y.weight = 0 := by rw [e]; rfl
  refine ⟨m, ⟨List.nodup_nil, fun e => by simp⟩, by rw [e1]; exact List.Perm.refl _, List.nodup_nil, fun e he => (by cases he), fun n a b => (by rw [e3] at b; omega), fun n hn => (by rw [e2] at hn; exact absurd rfl hn), (by rw [e4]; rfl)⟩
theorem MK.put {s y : MO} {f : Int → Option Ent} {xs : List Ent} (h : MK s f xs) (hg : s.given < 536870912) {k v w : Int} (e : y = putS s (f k) k w y.pool) (m : MapOk y (updF f k (some (putE s (f k) k v w)))) :
    ∃ xs', MK y (updF f k (some (putE s (f k) k v w))) xs' ∧ y.gone = s.gone ∧ y.given = s.given + (if (f k).isSome then 0 else 1) := by
  have hgv := h.m.giv
  have hw1 : IntKind.wrap .i64 (s.given + 1) = s.given + 1 := wrap_low (by omega) (by omega)
  cases hf : f k with
  | none =>
    rw [hf] at e m
    have e1 : y.given = s.given + 1 := by rw [e]; exact hw1
    have e2 : y.gone = s.gone := by rw [e]; rfl
    have e3 : y.keys = s.keys ++ [(s.given + 1, k)] := by
      rw [e]
      show mput s.keys (IntKind.wrap .i64 (s.given + 1)) k = _
      rw [hw1]
      refine mput_new _ _ _ ?_
      cases hh : mget s.keys (s.given + 1) with
      | none => rfl
      | some j =>
        obtain ⟨x, hx, hn, _⟩ := (h.node _ _).1 hh
        have := (h.nr x hx).2; omega
    have e4 : y.weight = IntKind.wrap .i64 (cw w + wsum xs) := by
      rw [e]
      show IntKind.wrap .i64 (s.weight + IntKind.wrap .i64 (cw w - 0)) = _
      rw [h.wt, wrap_sum]; congr 1; omega
    have en : putE s none k v w = ⟨k, v, cw w, s.given + 1⟩ := by unfold putE; rw [hw1]
    rw [en] at m ⊢
    refine ⟨⟨k, v, cw w, s.given + 1⟩ :: xs, ⟨m, h.h.new (e := ⟨k, v, cw w, s.given + 1⟩) hf, ?_, ?_, fun x hx => ?_, fun n a b => ?_, fun n hn => ?_, ?_⟩, e2, by rw [e1]; simp⟩
    · rw [e3]; exact (List.perm_append_comm).trans ((h.keys).cons _)
    · rw [List.map_cons, List.nodup_cons]
      refine ⟨fun hm => ?_, h.nn⟩
      obtain ⟨x, hx, hn⟩ := List.mem_map.1 hm
      have := (h.nr x hx).2
      have hn : x.node = s.given + 1 := hn
      omega
    · rw [e1]
      rcases List.mem_cons.1 hx with rfl | hx
      · dsimp only; omega
      · have := h.nr x hx; omega
    · rw [e1] at b
      rw [e2]
      by_cases hn : n = s.given + 1
      · constructor
        · intro _; exact ⟨_, List.mem_cons_self .., hn.symm⟩
        · intro _
          cases hh : mget s.gone n with
          | none => rfl
          | some _ => have := h.gr n (by rw [hh]; simp); omega
      · rw [h.al n a (by omega)]
        constructor
        · rintro ⟨x, hx, hh⟩; exact ⟨x, List.mem_cons_of_mem _ hx, hh⟩
        · rintro ⟨x, hx, hh⟩
          rcases List.mem_cons.1 hx with rfl | hx
          · exact absurd hh.symm hn
          · exact ⟨x, hx, hh⟩
    · rw [e2] at hn; have := h.gr n hn; rw [e1]; omega
    · rw [e4]; simp [wsum]
  | some o =>
    rw [hf] at e m
    obtain ⟨xs0, h⟩ := h.out hf
    have hk := h.m.key hf
    have e1 : y.given = s.given := by rw [e]; rfl
    have e2 : y.gone = s.gone := by rw [e]; rfl
    have e3 : y.keys = s.keys := by rw [e]; rfl
    have e4 : y.weight = IntKind.wrap .i64 (cw w + wsum xs0) := by
      rw [e]
      show IntKind.wrap .i64 (s.weight + IntKind.wrap .i64 (cw w - o.weight)) = _
      rw [h.wt, wrap_sum]
      show IntKind.wrap .i64 ((o.weight + (xs0.map (·.weight)).sum) + _) = _
      congr 1; unfold wsum; omega
    have en : putE s (some o) k v w = ⟨k, v, cw w, o.node⟩ := rfl
    rw [en] at m ⊢
    subst hk
    have h0 := h.h.gone
    have h1 : Holds (updF f o.key (some ⟨o.key, v, cw w, o.node⟩)) (⟨o.key, v, cw w, o.node⟩ :: xs0) := by
      have := h0.new (e := ⟨o.key, v, cw w, o.node⟩) (if_pos rfl)
      rwa [updF_updF] at this
    refine ⟨⟨o.key, v, cw w, o.node⟩ :: xs0, ⟨m, h1, by rw [e3]; exact h.keys, h.nn, fun x hx => ?_, fun n a b => ?_, fun n hn => by rw [e1]; rw [e2] at hn; exact h.gr n hn, by rw [e4]; simp [wsum]⟩, e2, by rw [e1]; simp⟩
    · rw [e1]
      rcases List.mem_cons.1 hx with rfl | hx
      · exact h.nr o (List.mem_cons_self ..)
      · exact h.nr x (List.mem_cons_of_mem _ hx)
    · rw [e1] at b
      rw [e2, h.al n a b]
      constructor
      · rintro ⟨x, hx, hh⟩
        rcases List.mem_cons.1 hx with rfl | hx
        · exact ⟨_, List.mem_cons_self .., hh⟩
        · exact ⟨x, List.mem_cons_of_mem _ hx, hh⟩
      · rintro ⟨x, hx, hh⟩
        rcases List.mem_cons.1 hx with rfl | hx
        · exact ⟨_, List.mem_cons_self .., hh⟩
        · exact ⟨x, List.mem_cons_of_mem _ hx, hh⟩
theorem MK.rem {s y : MO} {f : Int → Option Ent} {xs : List Ent} (h : MK s f xs) {j : Int} {dead : Bool} (e : y = remS s (f j) dead y.pool) (m : MapOk y (updF f j none)) :
    ∃ xs', MK y (updF f j none) xs' ∧ y.given = s.given := by
  have e1 : y.given = s.given := by rw [e]; rfl
  cases hf : f j with
  | none =>
    rw [hf] at e
    rw [updF_none hf] at m ⊢
    have e2 : y.gone = s.gone := by rw [e]; rfl
    have e3 : y.keys = s.keys := by rw [e]; rfl
    have e4 : y.weight = s.weight := by rw [e]; rfl
    exact ⟨xs, ⟨m, h.h, by rw [e3]; exact h.keys, h.nn, by rw [e1]; exact h.nr, by rw [e1, e2]; exact h.al, by rw [e1, e2]; exact h.gr, by rw [e4]; exact h.wt⟩, e1⟩
  | some o =>
    rw [hf] at e
    obtain ⟨xs0, h⟩ := h.out hf
    have hk := h.m.key hf
    have hnr := h.nr o (List.mem_cons_self ..)
    have e2 : y.gone = mput s.gone o.node dead := by rw [e]; rfl
    have e3 : y.keys = mdel s.keys o.node := by rw [e]; rfl
    have e4 : y.weight = IntKind.wrap .i64 (wsum xs0) := by
      rw [e]
      show IntKind.wrap .i64 (s.weight - o.weight) = _
      rw [h.wt, wrap_subR]; congr 1; simp only [wsum, List.map_cons, List.sum_cons]; omega
    have hnn := h.nn
    rw [List.map_cons, List.nodup_cons] at hnn
    subst hk
    refine ⟨xs0, ⟨m, h.h.gone, ?_, hnn.2, fun x hx => by rw [e1]; exact h.nr x (List.mem_cons_of_mem _ hx), fun n a b => ?_, fun n hn => ?_, e4⟩, e1⟩
    · have hm : (o.node, o.key) ∈ s.keys := h.keys.mem_iff.2 (List.mem_map.2 ⟨o, List.mem_cons_self .., rfl⟩)
      have := (mdel_perm _ h.kn _ _ hm).symm.trans h.keys
      rw [e3]
      exact (List.perm_cons _).1 this
    · rw [e1] at b
      rw [e2]
      by_cases hn : n = o.node
      · subst hn
        rw [mget_put]
        constructor
        · intro hh; cases hh
        · rintro ⟨x, hx, hh⟩; exact absurd (List.mem_map.2 ⟨x, hx, hh⟩) hnn.1
      · rw [mget_put_ne _ _ _ _ hn, h.al n a b]
        constructor
        · rintro ⟨x, hx, hh⟩
          rcases List.mem_cons.1 hx with rfl | hx
          · exact absurd hh.symm hn
          · exact ⟨x, hx, hh⟩
        · rintro ⟨x, hx, hh⟩; exact ⟨x, List.mem_cons_of_mem _ hx, hh⟩
    · rw [e1]
      rw [e2] at hn
      by_cases hh : n = o.node
      · subst hh; exact hnr
      · rw [mget_put_ne _ _ _ _ hh] at hn; exact h.gr n hn
theorem MK.bury {s : MO} {f : Int → Option Ent} {xs : List Ent} (h : MK s f xs) (n : Int) : MK (buryS s n) f xs ∧ (buryS s n).given = s.given := by
  unfold buryS
  split
  · rename_i hs
    have hst := hs
    unfold stateOf at hst
    split at hst
    · cases hst
    · rename_i hr
      cases hg : mget s.gone n with
      | none => rw [hg] at hst; cases hst
      | some b =>
        refine ⟨⟨h.m.same _ rfl rfl rfl rfl, h.h, h.keys, h.nn, h.nr, fun i a c => ?_, fun i hi => ?_, h.wt⟩, rfl⟩
        · rw [← h.al i a c]
          show mget (mput s.gone n true) i = none ↔ _
          by_cases hh : i = n
          · subst hh; rw [mget_put, hg]; simp
          · rw [mget_put_ne _ _ _ _ hh]
        · by_cases hh : i = n
          · subst hh; show 1 ≤ i ∧ i ≤ s.given; omega
          · exact h.gr i (by have : mget (mput s.gone n true) i ≠ none := hi; rwa [mget_put_ne _ _ _ _ hh] at this)
  · exact ⟨h, rfl⟩
theorem MK.alive {s : MO} {f : Int → Option Ent} {xs : List Ent} (h : MK s f xs) (n : Int) : stateOf s n = 1 ↔ ∃ e ∈ xs, e.node = n := by
  unfold stateOf
  by_cases hr : n < 1 ∨ n > s.given
  · rw [if_pos hr]
    constructor
    · intro hh; cases hh
    · rintro ⟨e, he, rfl⟩; have := h.nr e he; omega
  · rw [if_neg hr, ← h.al n (by omega) (by omega)]
    cases mget s.gone n with
    | none => simp
    | some b => cases b <;> simp

end Sx
end Go.Proofs.Ytohckjjbephohaa

/-
  The laws on what is held: the runs of the machine.
-/
namespace Go.Proofs.Ytohckjjbephohaa
namespace Sx
open Go
set_option maxRecDepth 100000
set_option linter.unusedVariables false

noncomputable def hooksX : Nat → Option (HookS V) := fun g => match g with | 9 => some (hookFree [] runSmall) | 19 => some (hookObj 5 [] (onM runMAll)) | 22 => some (hookFree [.rows Kd.ent, .rows Kd.ent] runSame) | g => hooksL g
noncomputable def cfgX : Cfg Try.prog V := ⟨tab, kinds, fun _ => none, hooksX, fun _ _ => none⟩
structure P8 where
  l : List Int
  c : Nat
  k : Int
  hl : l.length ≤ 100
structure X8 where
  i : Nat
  x : MO
  y : MO
def LI8 (q : P8) (x : X8) : St V := ⟨[(2, .sl false 0 0 1 q.l.length q.c), (3, .int .i64 q.k), (9, .tt), (10, .ptr 1 0), (11, .ptr 2 0), (12, .int .i64 (x.i : Int))],
  [(2, .obj (oM x.y)), (1, .obj (oM x.x)), (0, .ro Kd.int q.l)], 3, 157, TQ⟩
structure J8 (q : P8) (x : X8) : Prop where
  le : x.i ≤ q.l.length
  m : ∃ f xs ys, MK x.x f xs ∧ MK x.y f ys
  giv : x.x.given = x.y.given ∧ x.x.given ≤ x.i
structure P8s where
  q : P8
  x0 : MO
  y0 : MO
  h : J8 q ⟨0, x0, y0⟩
def LL8 : LoopS V := trimLoop (trimSt [2, 3, 9, 10, 11, 12] [0, 1, 2]) (loopH 3 (fun p : P8s => LI8 p.q ⟨0, p.x0, p.y0⟩) (fun p (z : MO × MO) => J8 p.q ⟨p.q.l.length, z.1, z.2⟩) (fun p z => LI8 p.q ⟨p.q.l.length, z.1, z.2⟩))
noncomputable def cfgX8 : Cfg Try.prog V := ⟨tab, kinds, fun _ => none, hooksX, fun f id => match f, id with | 8, 0 => some LL8 | _, _ => none⟩
structure P6 where
  l : List Four
  c : Nat
  hl : l.length ≤ 200
def LI6 (q : P6) (x : X8) : St V := ⟨[(2, .sl false 0 0 4 q.l.length q.c), (7, .tt), (8, .ptr 3 0), (9, .ptr 4 0), (10, .int .i64 (x.i : Int))],
  [(4, .obj (oM x.y)), (3, .obj (oM x.x)), (0, .ro Kd.four q.l)], 5, 132, TQ⟩
structure J6 (q : P6) (x : X8) : Prop where
  le : x.i ≤ q.l.length
  m : ∃ f xs ys, MK x.x f xs ∧ MK x.y f ys
  giv : x.x.given = x.y.given ∧ x.x.given ≤ x.i
structure P6s where
  q : P6
  x0 : MO
  y0 : MO
  h : J6 q ⟨0, x0, y0⟩
def LL6 : LoopS V := trimLoop (trimSt [2, 7, 8, 9, 10] [0, 3, 4]) (loopH 5 (fun p : P6s => LI6 p.q ⟨0, p.x0, p.y0⟩) (fun p (z : MO × MO) => J6 p.q ⟨p.q.l.length, z.1, z.2⟩) (fun p z => LI6 p.q ⟨p.q.l.length, z.1, z.2⟩))
noncomputable def cfgX6 : Cfg Try.prog V := ⟨tab, kinds, fun _ => none, hooksX, fun f id => match f, id with | 6, 0 => some LL6 | _, _ => none⟩
theorem t6 (n s n2 s2 : Int) (l : List Four) (c : Nat) : runL cfgX6 60 6 Try.f6 [.agg [.int .i64 n, .int .i64 s], .agg [.int .i64 n2, .int .i64 s2], .sl false 0 0 4 l.length c] [(0, .ro Kd.four l)] 1 = Out.all MO fun y => Out.asm (y = newS s y.tabs y.pool ∧ (MapOk y fun x => none) ∧ y.tabs.length = cntN n) (Out.all MO fun y_1 => Out.asm (y_1 = newS s2 y_1.tabs y_1.pool ∧ (MapOk y_1 fun x => none) ∧ y_1.tabs.length = cntN n2) (Out.ite (decide ((↑l.length : Int) > (200 : Int))) (Out.fin .tt [] (0 : Nat)) (Out.need (LoopFor Try.prog (6 : Nat) (0 : Nat) (loopOf Try.f6 (0 : Nat)) LL6) (Out.ex (P6s → Prop) fun y_2 => Out.need ((5 : Nat) ≤ (5 : Nat) ∧ SImp (5 : Nat) {env := [((2 : Nat), .sl false (0 : Nat) (0 : Nat) (4 : Nat) l.length c), ((7 : Nat), .tt), ((8 : Nat), .ptr (3 : Nat) (0 : Nat)), ((9 : Nat), .ptr (4 : Nat) (0 : Nat)), ((10 : Nat), .lit .i64 (0 : Int))], heap := [((4 : Nat), .obj (oM y_1)), ((3 : Nat), .obj (oM y)), ((0 : Nat), .ro Kd.four l)], nx := (5 : Nat), nt := (132 : Nat), tl := [(2 : Nat), (1 : Nat)] : St V } (fun p => LI6 p.q {i := (0 : Nat), x := p.x0, y := p.y0 : X8 }) y_2) (Out.all P6s fun y => Out.asm (y_2 y) (Out.all (MO × MO) fun y_3 => Out.asm ((fun p z => J6 p.q {i := p.q.l.length, x := z.fst, y := z.snd : X8 }) y y_3) (Out.ex (Int → Option Ent) fun y_4 => Out.need (MapOk {i := y.q.l.length, x := y_3.fst, y := y_3.snd : X8 }.x y_4) (Out.all (List Ent) fun y_5 => Out.all Nat fun y_6 => Out.asm (AllRow y_4 y_5 ∧ y_5.length ≤ (68719476736 : Nat)) (Out.ex (Int → Option Ent) fun y_7 => Out.need (MapOk {i := y.q.l.length, x := y_3.fst, y := y_3.snd : X8 }.y y_7) (Out.all (List Ent) fun y_8 => Out.all Nat fun y_9 => Out.asm (AllRow y_7 y_8 ∧ y_8.length ≤ (68719476736 : Nat)) (Out.need ((0 : Nat) + y_5.length ≤ y_5.length) (Out.need ((0 : Nat) + y_8.length ≤ y_8.length) (Out.need ((List.take y_5.length (List.drop (0 : Nat) y_5)).length ≤ (1099511627776 : Nat)) (Out.ite (decide (List.take y_5.length (List.drop (0 : Nat) y_5) = List.take y_8.length (List.drop (0 : Nat) y_8))) (Out.fin (.bool ({i := y.q.l.length, x := y_3.fst, y := y_3.snd : X8 }.x.weight == {i := y.q.l.length, x := y_3.fst, y := y_3.snd : X8 }.y.weight)) [] (0 : Nat)) (Out.fin .ff [] (0 : Nat)))))))))))))))) := by kernel_rfl

end Sx
end Go.Proofs.Ytohckjjbephohaa

/-
  How many shards, and which seed: no matter to what is held: the law.
-/
namespace Go.Proofs.Ytohckjjbephohaa
namespace Sx
open Go
set_option linter.unusedSimpArgs false
set_option linter.unusedVariables false

theorem hooksX_ok : ∀ g H, hooksX g = some H → HookOk Try.prog g H := by
  intro g H h
  unfold hooksX at h
  split at h
  · cases h; exact hSmall
  · cases h; exact hMAll
  · cases h; exact hSame
  · exact hooksL_ok _ _ h
theorem cfgX_ok : cfgX.ok := ⟨tab_met, kinds_met, mixed_met, fun g fn h => (by cases h), hooksX_ok⟩
end Sx
end Go.Proofs.Ytohckjjbephohaa

/-
  An eviction leaves what a removal does, but for the node's state: the law.
-/
namespace Go.Proofs.Ytohckjjbephohaa
namespace Sx
open Go
set_option linter.unusedSimpArgs false
set_option linter.unusedVariables false

theorem rem_state {s y : MO} {o : Ent} {dead : Bool} (e : y = remS s (some o) dead y.pool) (h1 : 1 ≤ o.node) (h2 : o.node ≤ s.given) : stateOf y o.node = if dead then 3 else 2 := by
  have eg : y.given = s.given := by rw [e]; rfl
  have eo : y.gone = mput s.gone o.node dead := by rw [e]; rfl
  unfold stateOf
  rw [if_neg (by rw [eg]; omega), eo, mget_put]
  cases dead <;> rfl
end Sx
end Go.Proofs.Ytohckjjbephohaa

/-
  States of nodes go on alone; how many are alive; no program in sight.
-/
namespace Go.Proofs.Ytohckjjbephohaa
namespace Sx
open Go
set_option linter.unusedSimpArgs false
set_option linter.unusedVariables false

def Goes (a b : Int) : Prop := b = a ∨ (a = 0 ∧ b = 1) ∨ (a = 1 ∧ b = 2) ∨ (a = 1 ∧ b = 3) ∨ (a = 2 ∧ b = 3)
theorem state_of {s y : MO} (h1 : y.given = s.given) {n : Int} (h2 : mget y.gone n = mget s.gone n) : stateOf y n = stateOf s n := by
  unfold stateOf; rw [h1, h2]
theorem put_goes {s y : MO} {f : Int → Option Ent} {xs : List Ent} (h : MK s f xs) (h1 : y.gone = s.gone) (h2 : y.given = s.given ∨ y.given = s.given + 1) (n : Int) : Goes (stateOf s n) (stateOf y n) := by
  rcases h2 with h2 | h2
  · exact .inl (state_of h2 (by rw [h1]))
  · by_cases hn : n = s.given + 1
    · have hz : stateOf s n = 0 := by unfold stateOf; rw [if_pos (.inr (by omega))]
      have hg : mget s.gone n = none := by
        cases hh : mget s.gone n with
        | none => rfl
        | some _ => have := h.gr n (by rw [hh]; simp); omega
      have h1' : stateOf y n = 1 := by
        have := h.m.giv
        unfold stateOf; rw [if_neg (by omega), h1, hg]
      exact .inr (.inl ⟨hz, h1'⟩)
    · refine .inl ?_
      unfold stateOf
      rw [h1, h2]
      by_cases hr : n < 1 ∨ n > s.given
      · rw [if_pos hr, if_pos (by omega)]
      · rw [if_neg hr, if_neg (by omega)]
theorem rem_goes {s y : MO} {f : Int → Option Ent} {xs : List Ent} (h : MK s f xs) {j : Int} {dead : Bool} (e : y = remS s (f j) dead y.pool) (n : Int) : Goes (stateOf s n) (stateOf y n) := by
  have e1 : y.given = s.given := by rw [e]; rfl
  cases hf : f j with
  | none =>
    rw [hf] at e
    have e2 : y.gone = s.gone := by rw [e]; rfl
    exact .inl (state_of e1 (by rw [e2]))
  | some o =>
    rw [hf] at e
    obtain ⟨xs0, h⟩ := h.out hf
    have hnr := h.nr o (List.mem_cons_self ..)
    have e2 : y.gone = mput s.gone o.node dead := by rw [e]; rfl
    by_cases hn : n = o.node
    · subst hn
      have a1 : stateOf s o.node = 1 := (h.alive _).2 ⟨o, List.mem_cons_self .., rfl⟩
      have a2 := rem_state e hnr.1 hnr.2
      cases dead
      · exact .inr (.inr (.inl ⟨a1, a2⟩))
      · exact .inr (.inr (.inr (.inl ⟨a1, a2⟩)))
    · exact .inl (state_of e1 (by rw [e2, mget_put_ne _ _ _ _ hn]))
theorem bury_goes (s : MO) (k n : Int) : Goes (stateOf s n) (stateOf (buryS s k) n) := by
  unfold buryS
  split
  · rename_i hs
    by_cases hn : n = k
    · subst hn
      refine .inr (.inr (.inr (.inr ⟨hs, ?_⟩)))
      have hr : ¬ (n < 1 ∨ n > s.given) := by
        intro hr
        unfold stateOf at hs
        rw [if_pos hr] at hs; cases hs
      unfold stateOf
      rw [if_neg (by exact hr)]
      show (match mget (mput s.gone n true) n with | none => (1 : Int) | some true => 3 | some false => 2) = 3
      rw [mget_put]
    · refine .inl (state_of (s := s) (y := { s with gone := mput s.gone k true }) rfl ?_)
      show mget (mput s.gone k true) n = _
      rw [mget_put_ne _ _ _ _ hn]
  · exact .inl rfl

def aliveN (s : MO) (n : Nat) : Nat := ((List.range n).filter fun (j : Nat) => decide (1 ≤ j ∧ stateOf s (j : Int) = 1)).length
theorem alive_succ (s : MO) (n : Nat) (h : 1 ≤ n) : aliveN s (n + 1) = aliveN s n + if stateOf s (n : Int) = 1 then 1 else 0 := by
  unfold aliveN
  rw [List.range_succ, List.filter_append, List.length_append]
  congr 1
  by_cases hs : stateOf s (n : Int) = 1
  · rw [if_pos hs, List.filter_cons_of_pos (by simp [hs]; omega)]; rfl
  · rw [if_neg hs, List.filter_cons_of_neg (by simp [hs])]; rfl
theorem MK.count {s : MO} {f : Int → Option Ent} {xs : List Ent} (h : MK s f xs) (hg : s.given < 200) : aliveN s 200 = xs.length := by
  have hp : ((List.range 200).filter fun (j : Nat) => decide (1 ≤ j ∧ stateOf s (j : Int) = 1)).Perm (xs.map fun e => e.node.toNat) := by
    refine (List.perm_ext_iff_of_nodup (List.Pairwise.filter _ List.nodup_range) ?_).2 fun j => ?_
    · refine List.pairwise_map.2 ?_
      have hn := List.pairwise_map.1 h.nn
      refine hn.imp_of_mem fun {a b} ha hb hab e => hab ?_
      have := h.nr a ha; have := h.nr b hb; omega
    · rw [List.mem_filter, List.mem_map, List.mem_range]
      simp only [decide_eq_true_eq]
      rw [h.alive]
      constructor
      · rintro ⟨_, _, e, he, hn⟩; exact ⟨e, he, by omega⟩
      · rintro ⟨e, he, hn⟩; have := h.nr e he; exact ⟨by omega, by omega, e, he, by omega⟩
  have := hp.length_eq
  simp only [List.length_map] at this
  exact this
theorem wsum_take {ys : List Ent} {k : Nat} (h : k < ys.length) : wsum (ys.take (k + 1)) = wsum (ys.take k) + (ys.getD k e0).weight := by
  unfold wsum
  rw [List.take_succ_eq_append_getElem h, List.map_append, List.sum_append]
  rw [List.getD_eq_getElem?_getD, List.getElem?_eq_getElem h]
  simp

end Sx
end Go.Proofs.Ytohckjjbephohaa

/-
  States go on alone: the runs of the machine.
-/
namespace Go.Proofs.Ytohckjjbephohaa
namespace Sx
open Go
set_option maxRecDepth 100000
set_option linter.unusedVariables false

structure P0 where
  l : List Four
  c : Nat
  hl : l.length ≤ 150
structure X0 where
  i : Nat
  x : MO
  was : List Int
def LI0 (q : P0) (x : X0) : St V := ⟨[(2, .sl false 0 0 4 q.l.length q.c), (7, .tt), (8, .ptr 1 0), (9, .sl true 2 0 1 200 200), (10, .int .i64 (x.i : Int))],
  [(2, .arr 3 Kd.int x.was 0), (1, .obj (oM x.x)), (0, .ro Kd.four q.l)], 3, 194, TQ⟩
structure PA where
  q : P0
  i : Nat
  s : MO
  w0 : List Int
  hw : w0.length = 200
  hg : ∀ j : Nat, 1 ≤ j → j < 200 → Goes (w0.getD j 0) (stateOf s (j : Int))
structure XA where
  n : Nat
  al : Nat
  was : List Int
structure JA (p : PA) (z : XA) : Prop where
  n1 : 1 ≤ z.n
  n2 : z.n ≤ 200
  wl : z.was.length = 200
  old : ∀ j, z.n ≤ j → z.was.getD j 0 = p.w0.getD j 0
  new : ∀ j : Nat, 1 ≤ j → j < z.n → z.was.getD j 0 = stateOf p.s (j : Int)
  al : z.al = aliveN p.s z.n
def IA (p : PA) (z : XA) : St V := ⟨[(2, .sl false 0 0 4 p.q.l.length p.q.c), (7, .tt), (8, .ptr 1 0), (9, .sl true 2 0 1 200 200), (10, .int .i64 (p.i : Int)), (12, .int .i64 (z.al : Int)), (13, .int .i64 (z.n : Int))],
  [(2, .arr 3 Kd.int z.was 0), (1, .obj (oM p.s)), (0, .ro Kd.four p.q.l)], 9, 194, TQ⟩
def LA : LoopS V := trimLoop (trimSt [2, 7, 8, 9, 10, 12, 13] [0, 1, 2]) (loopH 9 (fun p : PA => IA p ⟨1, 0, p.w0⟩) (fun p (z : XA) => JA p z ∧ z.n = 200) (fun p z => IA p z))
structure PB where
  p : PA
  z : XA
  ys : List Ent
  sp : Nat
  hl : ys.length ≤ 1099511627776
  asc : ys.Pairwise (fun a b => a.key < b.key)
  al : ∀ e ∈ ys, stateOf p.s e.node = 1
def IB (p : PB) (z : Nat × Int) : St V := ⟨[(2, .sl false 0 0 4 p.p.q.l.length p.p.q.c), (7, .tt), (8, .ptr 1 0), (9, .sl true 2 0 1 200 200), (10, .int .i64 (p.p.i : Int)), (12, .int .i64 (p.z.al : Int)), (15, .sl false 9 0 4 p.ys.length (p.ys.length + p.sp)), (16, .int .i64 z.2), (17, .int .i64 (z.1 : Int))],
  [(9, .arr 28 .ent p.ys p.sp), (2, .arr 3 Kd.int p.z.was 0), (1, .obj (oM p.p.s)), (0, .ro Kd.four p.p.q.l)], 12, 194, TQ⟩
structure JB (p : PB) (z : Nat × Int) : Prop where
  le : z.1 ≤ p.ys.length
  sum : z.2 = IntKind.wrap .i64 (wsum (p.ys.take z.1))
def LB : LoopS V := trimLoop (trimSt [2, 7, 8, 9, 10, 12, 15, 16, 17] [0, 1, 2, 9]) (loopH 12 (fun p : PB => IB p (0, 0)) (fun p (_ : Unit) => True) (fun p _ => IB p (p.ys.length, IntKind.wrap .i64 (wsum p.ys))))
noncomputable def cfgX5a : Cfg Try.prog V := ⟨tab, kinds, fun _ => none, hooksX, fun f id => match f, id with | 5, 3 => some LA | 5, 5 => some LB | _, _ => none⟩
structure J0 (q : P0) (x : X0) : Prop where
  le : x.i ≤ q.l.length
  m : ∃ f xs, MK x.x f xs
  giv : x.x.given ≤ x.i
  wl : x.was.length = 200
  w : ∀ j : Nat, 1 ≤ j → j < 200 → x.was.getD j 0 = stateOf x.x (j : Int)
structure P0s where
  q : P0
  x0 : MO
  w0 : List Int
  h : J0 q ⟨0, x0, w0⟩
def LL0 : LoopS V := trimLoop (trimSt [2, 7, 8, 9, 10] [0, 1, 2]) (loopH 3 (fun p : P0s => LI0 p.q ⟨0, p.x0, p.w0⟩) (fun p (z : MO × List Int) => J0 p.q ⟨p.q.l.length, z.1, z.2⟩) (fun p z => LI0 p.q ⟨p.q.l.length, z.1, z.2⟩))
noncomputable def cfgX5b : Cfg Try.prog V := ⟨tab, kinds, fun _ => none, hooksX, fun f id => match f, id with | 5, 0 => some LL0 | 5, 3 => some LA | 5, 5 => some LB | _, _ => none⟩
theorem tba (p : PA) (z : XA) : runCode cfgX 60 5 (loopOf Try.f5 3) (IA p z) (stopT (trimSt [2, 7, 8, 9, 10, 12, 13] [0, 1, 2])) = Out.ite (decide ((↑z.1 : Int) < (200 : Int))) (Out.need ((0 : Int) ≤ (↑z.1 : Int) ∧ (↑z.1 : Int) < (200 : Int)) (Out.need ((0 : Nat) + z.1 < z.was.length) (Out.ite (decide (stateOf p.s (↑z.1 : Int) < z.was.getD ((0 : Nat) + z.1) (V.enc Kd.int).dflt)) (Out.stop EX.rt {env := [((2 : Nat), .sl false (0 : Nat) (0 : Nat) (4 : Nat) p.q.l.length p.q.2), ((7 : Nat), .tt), ((8 : Nat), .ptr (1 : Nat) (0 : Nat)), ((9 : Nat), .sl true (2 : Nat) (0 : Nat) (1 : Nat) (200 : Nat) (200 : Nat)), ((10 : Nat), .int .i64 (↑p.2 : Int)), ((12 : Nat), .int .i64 (↑z.2 : Int)), ((13 : Nat), .int .i64 (↑z.1 : Int))], heap := [((2 : Nat), .arr (3 : Nat) Kd.int z.was (0 : Nat)), ((1 : Nat), .obj (oM p.s)), ((0 : Nat), .ro Kd.four p.q.l)], nx := (9 : Nat), nt := (194 : Nat), tl := [(1 : Nat), (0 : Nat), (1 : Nat), (2 : Nat), (3 : Nat), (4 : Nat), (5 : Nat), (6 : Nat), (7 : Nat), (8 : Nat), (9 : Nat), (10 : Nat), (11 : Nat), (12 : Nat), (13 : Nat), (14 : Nat), (15 : Nat), (16 : Nat)] : St V }) (Out.need ((0 : Int) ≤ (↑z.1 : Int) ∧ (↑z.1 : Int) < (200 : Int)) (Out.need ((0 : Nat) + z.1 < z.was.length) (Out.ite (decide (stateOf p.s (↑z.1 : Int) > z.was.getD ((0 : Nat) + z.1) (V.enc Kd.int).dflt)) (Out.ite (stateOf p.s (↑z.1 : Int) == (2 : Int)) (Out.need ((0 : Int) ≤ (↑z.1 : Int) ∧ (↑z.1 : Int) < (200 : Int)) (Out.need ((0 : Nat) + z.1 < z.was.length) (Out.ite (z.was.getD ((0 : Nat) + z.1) (V.enc Kd.int).dflt != (1 : Int)) (Out.stop EX.rt {env := [((2 : Nat), .sl false (0 : Nat) (0 : Nat) (4 : Nat) p.q.l.length p.q.2), ((7 : Nat), .tt), ((8 : Nat), .ptr (1 : Nat) (0 : Nat)), ((9 : Nat), .sl true (2 : Nat) (0 : Nat) (1 : Nat) (200 : Nat) (200 : Nat)), ((10 : Nat), .int .i64 (↑p.2 : Int)), ((12 : Nat), .int .i64 (↑z.2 : Int)), ((13 : Nat), .int .i64 (↑z.1 : Int))], heap := [((2 : Nat), .arr (3 : Nat) Kd.int z.was (0 : Nat)), ((1 : Nat), .obj (oM p.s)), ((0 : Nat), .ro Kd.four p.q.l)], nx := (9 : Nat), nt := (194 : Nat), tl := [(1 : Nat), (0 : Nat), (1 : Nat), (2 : Nat), (3 : Nat), (4 : Nat), (5 : Nat), (6 : Nat), (7 : Nat), (8 : Nat), (9 : Nat), (10 : Nat), (11 : Nat), (12 : Nat), (13 : Nat), (14 : Nat), (15 : Nat), (16 : Nat)] : St V }) (Out.need ((0 : Int) ≤ (↑z.1 : Int) ∧ (↑z.1 : Int) < (200 : Int)) (Out.need ((0 : Nat) + z.1 < z.was.length) (Out.ite (decide (stateOf p.s (↑z.1 : Int) > z.was.getD ((0 : Nat) + z.1) (V.enc Kd.int).dflt)) (Out.ite (stateOf p.s (↑z.1 : Int) == (3 : Int)) (Out.need ((0 : Int) ≤ (↑z.1 : Int) ∧ (↑z.1 : Int) < (200 : Int)) (Out.need ((0 : Nat) + z.1 < z.was.length) (Out.ite (z.was.getD ((0 : Nat) + z.1) (V.enc Kd.int).dflt == (0 : Int)) (Out.stop EX.rt {env := [((2 : Nat), .sl false (0 : Nat) (0 : Nat) (4 : Nat) p.q.l.length p.q.2), ((7 : Nat), .tt), ((8 : Nat), .ptr (1 : Nat) (0 : Nat)), ((9 : Nat), .sl true (2 : Nat) (0 : Nat) (1 : Nat) (200 : Nat) (200 : Nat)), ((10 : Nat), .int .i64 (↑p.2 : Int)), ((12 : Nat), .int .i64 (↑z.2 : Int)), ((13 : Nat), .int .i64 (↑z.1 : Int))], heap := [((2 : Nat), .arr (3 : Nat) Kd.int z.was (0 : Nat)), ((1 : Nat), .obj (oM p.s)), ((0 : Nat), .ro Kd.four p.q.l)], nx := (9 : Nat), nt := (194 : Nat), tl := [(1 : Nat), (0 : Nat), (1 : Nat), (2 : Nat), (3 : Nat), (4 : Nat), (5 : Nat), (6 : Nat), (7 : Nat), (8 : Nat), (9 : Nat), (10 : Nat), (11 : Nat), (12 : Nat), (13 : Nat), (14 : Nat), (15 : Nat), (16 : Nat)] : St V }) (Out.ite (stateOf p.s (↑z.1 : Int) == (1 : Int)) (Out.need ((0 : Int) ≤ (↑z.1 : Int) ∧ (↑z.1 : Int) < (200 : Int)) (Out.need ((0 : Nat) + z.1 < z.was.length) (Out.stop EX.nx {env := [((2 : Nat), .sl false (0 : Nat) (0 : Nat) (4 : Nat) p.q.l.length p.q.2), ((7 : Nat), .tt), ((8 : Nat), .ptr (1 : Nat) (0 : Nat)), ((9 : Nat), .sl true (2 : Nat) (0 : Nat) (1 : Nat) (200 : Nat) (200 : Nat)), ((10 : Nat), .int .i64 (↑p.2 : Int)), ((12 : Nat), .int .i64 (IntKind.i64.wrap ((↑z.2 : Int) + (1 : Int)))), ((13 : Nat), .int .i64 (IntKind.i64.wrap ((↑z.1 : Int) + (1 : Int))))], heap := [((2 : Nat), .arr (3 : Nat) Kd.int (z.was.set ((0 : Nat) + z.1) (stateOf p.s (↑z.1 : Int))) (0 : Nat)), ((1 : Nat), .obj (oM p.s)), ((0 : Nat), .ro Kd.four p.q.l)], nx := (10 : Nat), nt := (194 : Nat), tl := [(2 : Nat), (1 : Nat), (0 : Nat), (1 : Nat), (2 : Nat), (3 : Nat), (4 : Nat), (5 : Nat), (6 : Nat), (7 : Nat), (8 : Nat), (9 : Nat), (10 : Nat), (11 : Nat), (12 : Nat), (13 : Nat), (14 : Nat), (15 : Nat), (16 : Nat)] : St V }))) (Out.need ((0 : Int) ≤ (↑z.1 : Int) ∧ (↑z.1 : Int) < (200 : Int)) (Out.need ((0 : Nat) + z.1 < z.was.length) (Out.stop EX.nx {env := [((2 : Nat), .sl false (0 : Nat) (0 : Nat) (4 : Nat) p.q.l.length p.q.2), ((7 : Nat), .tt), ((8 : Nat), .ptr (1 : Nat) (0 : Nat)), ((9 : Nat), .sl true (2 : Nat) (0 : Nat) (1 : Nat) (200 : Nat) (200 : Nat)), ((10 : Nat), .int .i64 (↑p.2 : Int)), ((12 : Nat), .int .i64 (↑z.2 : Int)), ((13 : Nat), .int .i64 (IntKind.i64.wrap ((↑z.1 : Int) + (1 : Int))))], heap := [((2 : Nat), .arr (3 : Nat) Kd.int (z.was.set ((0 : Nat) + z.1) (stateOf p.s (↑z.1 : Int))) (0 : Nat)), ((1 : Nat), .obj (oM p.s)), ((0 : Nat), .ro Kd.four p.q.l)], nx := (10 : Nat), nt := (194 : Nat), tl := [(2 : Nat), (1 : Nat), (0 : Nat), (1 : Nat), (2 : Nat), (3 : Nat), (4 : Nat), (5 : Nat), (6 : Nat), (7 : Nat), (8 : Nat), (9 : Nat), (10 : Nat), (11 : Nat), (12 : Nat), (13 : Nat), (14 : Nat), (15 : Nat), (16 : Nat)] : St V }))))))) (Out.ite (stateOf p.s (↑z.1 : Int) == (1 : Int)) (Out.need ((0 : Int) ≤ (↑z.1 : Int) ∧ (↑z.1 : Int) < (200 : Int)) (Out.need ((0 : Nat) + z.1 < z.was.length) (Out.stop EX.nx {env := [((2 : Nat), .sl false (0 : Nat) (0 : Nat) (4 : Nat) p.q.l.length p.q.2), ((7 : Nat), .tt), ((8 : Nat), .ptr (1 : Nat) (0 : Nat)), ((9 : Nat), .sl true (2 : Nat) (0 : Nat) (1 : Nat) (200 : Nat) (200 : Nat)), ((10 : Nat), .int .i64 (↑p.2 : Int)), ((12 : Nat), .int .i64 (IntKind.i64.wrap ((↑z.2 : Int) + (1 : Int)))), ((13 : Nat), .int .i64 (IntKind.i64.wrap ((↑z.1 : Int) + (1 : Int))))], heap := [((2 : Nat), .arr (3 : Nat) Kd.int (z.was.set ((0 : Nat) + z.1) (stateOf p.s (↑z.1 : Int))) (0 : Nat)), ((1 : Nat), .obj (oM p.s)), ((0 : Nat), .ro Kd.four p.q.l)], nx := (10 : Nat), nt := (194 : Nat), tl := [(2 : Nat), (1 : Nat), (0 : Nat), (1 : Nat), (2 : Nat), (3 : Nat), (4 : Nat), (5 : Nat), (6 : Nat), (7 : Nat), (8 : Nat), (9 : Nat), (10 : Nat), (11 : Nat), (12 : Nat), (13 : Nat), (14 : Nat), (15 : Nat), (16 : Nat)] : St V }))) (Out.need ((0 : Int) ≤ (↑z.1 : Int) ∧ (↑z.1 : Int) < (200 : Int)) (Out.need ((0 : Nat) + z.1 < z.was.length) (Out.stop EX.nx {env := [((2 : Nat), .sl false (0 : Nat) (0 : Nat) (4 : Nat) p.q.l.length p.q.2), ((7 : Nat), .tt), ((8 : Nat), .ptr (1 : Nat) (0 : Nat)), ((9 : Nat), .sl true (2 : Nat) (0 : Nat) (1 : Nat) (200 : Nat) (200 : Nat)), ((10 : Nat), .int .i64 (↑p.2 : Int)), ((12 : Nat), .int .i64 (↑z.2 : Int)), ((13 : Nat), .int .i64 (IntKind.i64.wrap ((↑z.1 : Int) + (1 : Int))))], heap := [((2 : Nat), .arr (3 : Nat) Kd.int (z.was.set ((0 : Nat) + z.1) (stateOf p.s (↑z.1 : Int))) (0 : Nat)), ((1 : Nat), .obj (oM p.s)), ((0 : Nat), .ro Kd.four p.q.l)], nx := (10 : Nat), nt := (194 : Nat), tl := [(2 : Nat), (1 : Nat), (0 : Nat), (1 : Nat), (2 : Nat), (3 : Nat), (4 : Nat), (5 : Nat), (6 : Nat), (7 : Nat), (8 : Nat), (9 : Nat), (10 : Nat), (11 : Nat), (12 : Nat), (13 : Nat), (14 : Nat), (15 : Nat), (16 : Nat)] : St V }))))) (Out.ite (stateOf p.s (↑z.1 : Int) == (1 : Int)) (Out.need ((0 : Int) ≤ (↑z.1 : Int) ∧ (↑z.1 : Int) < (200 : Int)) (Out.need ((0 : Nat) + z.1 < z.was.length) (Out.stop EX.nx {env := [((2 : Nat), .sl false (0 : Nat) (0 : Nat) (4 : Nat) p.q.l.length p.q.2), ((7 : Nat), .tt), ((8 : Nat), .ptr (1 : Nat) (0 : Nat)), ((9 : Nat), .sl true (2 : Nat) (0 : Nat) (1 : Nat) (200 : Nat) (200 : Nat)), ((10 : Nat), .int .i64 (↑p.2 : Int)), ((12 : Nat), .int .i64 (IntKind.i64.wrap ((↑z.2 : Int) + (1 : Int)))), ((13 : Nat), .int .i64 (IntKind.i64.wrap ((↑z.1 : Int) + (1 : Int))))], heap := [((2 : Nat), .arr (3 : Nat) Kd.int (z.was.set ((0 : Nat) + z.1) (stateOf p.s (↑z.1 : Int))) (0 : Nat)), ((1 : Nat), .obj (oM p.s)), ((0 : Nat), .ro Kd.four p.q.l)], nx := (10 : Nat), nt := (194 : Nat), tl := [(2 : Nat), (1 : Nat), (0 : Nat), (1 : Nat), (2 : Nat), (3 : Nat), (4 : Nat), (5 : Nat), (6 : Nat), (7 : Nat), (8 : Nat), (9 : Nat), (10 : Nat), (11 : Nat), (12 : Nat), (13 : Nat), (14 : Nat), (15 : Nat), (16 : Nat)] : St V }))) (Out.need ((0 : Int) ≤ (↑z.1 : Int) ∧ (↑z.1 : Int) < (200 : Int)) (Out.need ((0 : Nat) + z.1 < z.was.length) (Out.stop EX.nx {env := [((2 : Nat), .sl false (0 : Nat) (0 : Nat) (4 : Nat) p.q.l.length p.q.2), ((7 : Nat), .tt), ((8 : Nat), .ptr (1 : Nat) (0 : Nat)), ((9 : Nat), .sl true (2 : Nat) (0 : Nat) (1 : Nat) (200 : Nat) (200 : Nat)), ((10 : Nat), .int .i64 (↑p.2 : Int)), ((12 : Nat), .int .i64 (↑z.2 : Int)), ((13 : Nat), .int .i64 (IntKind.i64.wrap ((↑z.1 : Int) + (1 : Int))))], heap := [((2 : Nat), .arr (3 : Nat) Kd.int (z.was.set ((0 : Nat) + z.1) (stateOf p.s (↑z.1 : Int))) (0 : Nat)), ((1 : Nat), .obj (oM p.s)), ((0 : Nat), .ro Kd.four p.q.l)], nx := (10 : Nat), nt := (194 : Nat), tl := [(2 : Nat), (1 : Nat), (0 : Nat), (1 : Nat), (2 : Nat), (3 : Nat), (4 : Nat), (5 : Nat), (6 : Nat), (7 : Nat), (8 : Nat), (9 : Nat), (10 : Nat), (11 : Nat), (12 : Nat), (13 : Nat), (14 : Nat), (15 : Nat), (16 : Nat)] : St V })))))))))) (Out.need ((0 : Int) ≤ (↑z.1 : Int) ∧ (↑z.1 : Int) < (200 : Int)) (Out.need ((0 : Nat) + z.1 < z.was.length) (Out.ite (decide (stateOf p.s (↑z.1 : Int) > z.was.getD ((0 : Nat) + z.1) (V.enc Kd.int).dflt)) (Out.ite (stateOf p.s (↑z.1 : Int) == (3 : Int)) (Out.need ((0 : Int) ≤ (↑z.1 : Int) ∧ (↑z.1 : Int) < (200 : Int)) (Out.need ((0 : Nat) + z.1 < z.was.length) (Out.ite (z.was.getD ((0 : Nat) + z.1) (V.enc Kd.int).dflt == (0 : Int)) (Out.stop EX.rt {env := [((2 : Nat), .sl false (0 : Nat) (0 : Nat) (4 : Nat) p.q.l.length p.q.2), ((7 : Nat), .tt), ((8 : Nat), .ptr (1 : Nat) (0 : Nat)), ((9 : Nat), .sl true (2 : Nat) (0 : Nat) (1 : Nat) (200 : Nat) (200 : Nat)), ((10 : Nat), .int .i64 (↑p.2 : Int)), ((12 : Nat), .int .i64 (↑z.2 : Int)), ((13 : Nat), .int .i64 (↑z.1 : Int))], heap := [((2 : Nat), .arr (3 : Nat) Kd.int z.was (0 : Nat)), ((1 : Nat), .obj (oM p.s)), ((0 : Nat), .ro Kd.four p.q.l)], nx := (9 : Nat), nt := (194 : Nat), tl := [(1 : Nat), (0 : Nat), (1 : Nat), (2 : Nat), (3 : Nat), (4 : Nat), (5 : Nat), (6 : Nat), (7 : Nat), (8 : Nat), (9 : Nat), (10 : Nat), (11 : Nat), (12 : Nat), (13 : Nat), (14 : Nat), (15 : Nat), (16 : Nat)] : St V }) (Out.ite (stateOf p.s (↑z.1 : Int) == (1 : Int)) (Out.need ((0 : Int) ≤ (↑z.1 : Int) ∧ (↑z.1 : Int) < (200 : Int)) (Out.need ((0 : Nat) + z.1 < z.was.length) (Out.stop EX.nx {env := [((2 : Nat), .sl false (0 : Nat) (0 : Nat) (4 : Nat) p.q.l.length p.q.2), ((7 : Nat), .tt), ((8 : Nat), .ptr (1 : Nat) (0 : Nat)), ((9 : Nat), .sl true (2 : Nat) (0 : Nat) (1 : Nat) (200 : Nat) (200 : Nat)), ((10 : Nat), .int .i64 (↑p.2 : Int)), ((12 : Nat), .int .i64 (IntKind.i64.wrap ((↑z.2 : Int) + (1 : Int)))), ((13 : Nat), .int .i64 (IntKind.i64.wrap ((↑z.1 : Int) + (1 : Int))))], heap := [((2 : Nat), .arr (3 : Nat) Kd.int (z.was.set ((0 : Nat) + z.1) (stateOf p.s (↑z.1 : Int))) (0 : Nat)), ((1 : Nat), .obj (oM p.s)), ((0 : Nat), .ro Kd.four p.q.l)], nx := (10 : Nat), nt := (194 : Nat), tl := [(2 : Nat), (1 : Nat), (0 : Nat), (1 : Nat), (2 : Nat), (3 : Nat), (4 : Nat), (5 : Nat), (6 : Nat), (7 : Nat), (8 : Nat), (9 : Nat), (10 : Nat), (11 : Nat), (12 : Nat), (13 : Nat), (14 : Nat), (15 : Nat), (16 : Nat)] : St V }))) (Out.need ((0 : Int) ≤ (↑z.1 : Int) ∧ (↑z.1 : Int) < (200 : Int)) (Out.need ((0 : Nat) + z.1 < z.was.length) (Out.stop EX.nx {env := [((2 : Nat), .sl false (0 : Nat) (0 : Nat) (4 : Nat) p.q.l.length p.q.2), ((7 : Nat), .tt), ((8 : Nat), .ptr (1 : Nat) (0 : Nat)), ((9 : Nat), .sl true (2 : Nat) (0 : Nat) (1 : Nat) (200 : Nat) (200 : Nat)), ((10 : Nat), .int .i64 (↑p.2 : Int)), ((12 : Nat), .int .i64 (↑z.2 : Int)), ((13 : Nat), .int .i64 (IntKind.i64.wrap ((↑z.1 : Int) + (1 : Int))))], heap := [((2 : Nat), .arr (3 : Nat) Kd.int (z.was.set ((0 : Nat) + z.1) (stateOf p.s (↑z.1 : Int))) (0 : Nat)), ((1 : Nat), .obj (oM p.s)), ((0 : Nat), .ro Kd.four p.q.l)], nx := (10 : Nat), nt := (194 : Nat), tl := [(2 : Nat), (1 : Nat), (0 : Nat), (1 : Nat), (2 : Nat), (3 : Nat), (4 : Nat), (5 : Nat), (6 : Nat), (7 : Nat), (8 : Nat), (9 : Nat), (10 : Nat), (11 : Nat), (12 : Nat), (13 : Nat), (14 : Nat), (15 : Nat), (16 : Nat)] : St V }))))))) (Out.ite (stateOf p.s (↑z.1 : Int) == (1 : Int)) (Out.need ((0 : Int) ≤ (↑z.1 : Int) ∧ (↑z.1 : Int) < (200 : Int)) (Out.need ((0 : Nat) + z.1 < z.was.length) (Out.stop EX.nx {env := [((2 : Nat), .sl false (0 : Nat) (0 : Nat) (4 : Nat) p.q.l.length p.q.2), ((7 : Nat), .tt), ((8 : Nat), .ptr (1 : Nat) (0 : Nat)), ((9 : Nat), .sl true (2 : Nat) (0 : Nat) (1 : Nat) (200 : Nat) (200 : Nat)), ((10 : Nat), .int .i64 (↑p.2 : Int)), ((12 : Nat), .int .i64 (IntKind.i64.wrap ((↑z.2 : Int) + (1 : Int)))), ((13 : Nat), .int .i64 (IntKind.i64.wrap ((↑z.1 : Int) + (1 : Int))))], heap := [((2 : Nat), .arr (3 : Nat) Kd.int (z.was.set ((0 : Nat) + z.1) (stateOf p.s (↑z.1 : Int))) (0 : Nat)), ((1 : Nat), .obj (oM p.s)), ((0 : Nat), .ro Kd.four p.q.l)], nx := (10 : Nat), nt := (194 : Nat), tl := [(2 : Nat), (1 : Nat), (0 : Nat), (1 : Nat), (2 : Nat), (3 : Nat), (4 : Nat), (5 : Nat), (6 : Nat), (7 : Nat), (8 : Nat), (9 : Nat), (10 : Nat), (11 : Nat), (12 : Nat), (13 : Nat), (14 : Nat), (15 : Nat), (16 : Nat)] : St V }))) (Out.need ((0 : Int) ≤ (↑z.1 : Int) ∧ (↑z.1 : Int) < (200 : Int)) (Out.need ((0 : Nat) + z.1 < z.was.length) (Out.stop EX.nx {env := [((2 : Nat), .sl false (0 : Nat) (0 : Nat) (4 : Nat) p.q.l.length p.q.2), ((7 : Nat), .tt), ((8 : Nat), .ptr (1 : Nat) (0 : Nat)), ((9 : Nat), .sl true (2 : Nat) (0 : Nat) (1 : Nat) (200 : Nat) (200 : Nat)), ((10 : Nat), .int .i64 (↑p.2 : Int)), ((12 : Nat), .int .i64 (↑z.2 : Int)), ((13 : Nat), .int .i64 (IntKind.i64.wrap ((↑z.1 : Int) + (1 : Int))))], heap := [((2 : Nat), .arr (3 : Nat) Kd.int (z.was.set ((0 : Nat) + z.1) (stateOf p.s (↑z.1 : Int))) (0 : Nat)), ((1 : Nat), .obj (oM p.s)), ((0 : Nat), .ro Kd.four p.q.l)], nx := (10 : Nat), nt := (194 : Nat), tl := [(2 : Nat), (1 : Nat), (0 : Nat), (1 : Nat), (2 : Nat), (3 : Nat), (4 : Nat), (5 : Nat), (6 : Nat), (7 : Nat), (8 : Nat), (9 : Nat), (10 : Nat), (11 : Nat), (12 : Nat), (13 : Nat), (14 : Nat), (15 : Nat), (16 : Nat)] : St V }))))) (Out.ite (stateOf p.s (↑z.1 : Int) == (1 : Int)) (Out.need ((0 : Int) ≤ (↑z.1 : Int) ∧ (↑z.1 : Int) < (200 : Int)) (Out.need ((0 : Nat) + z.1 < z.was.length) (Out.stop EX.nx {env := [((2 : Nat), .sl false (0 : Nat) (0 : Nat) (4 : Nat) p.q.l.length p.q.2), ((7 : Nat), .tt), ((8 : Nat), .ptr (1 : Nat) (0 : Nat)), ((9 : Nat), .sl true (2 : Nat) (0 : Nat) (1 : Nat) (200 : Nat) (200 : Nat)), ((10 : Nat), .int .i64 (↑p.2 : Int)), ((12 : Nat), .int .i64 (IntKind.i64.wrap ((↑z.2 : Int) + (1 : Int)))), ((13 : Nat), .int .i64 (IntKind.i64.wrap ((↑z.1 : Int) + (1 : Int))))], heap := [((2 : Nat), .arr (3 : Nat) Kd.int (z.was.set ((0 : Nat) + z.1) (stateOf p.s (↑z.1 : Int))) (0 : Nat)), ((1 : Nat), .obj (oM p.s)), ((0 : Nat), .ro Kd.four p.q.l)], nx := (10 : Nat), nt := (194 : Nat), tl := [(2 : Nat), (1 : Nat), (0 : Nat), (1 : Nat), (2 : Nat), (3 : Nat), (4 : Nat), (5 : Nat), (6 : Nat), (7 : Nat), (8 : Nat), (9 : Nat), (10 : Nat), (11 : Nat), (12 : Nat), (13 : Nat), (14 : Nat), (15 : Nat), (16 : Nat)] : St V }))) (Out.need ((0 : Int) ≤ (↑z.1 : Int) ∧ (↑z.1 : Int) < (200 : Int)) (Out.need ((0 : Nat) + z.1 < z.was.length) (Out.stop EX.nx {env := [((2 : Nat), .sl false (0 : Nat) (0 : Nat) (4 : Nat) p.q.l.length p.q.2), ((7 : Nat), .tt), ((8 : Nat), .ptr (1 : Nat) (0 : Nat)), ((9 : Nat), .sl true (2 : Nat) (0 : Nat) (1 : Nat) (200 : Nat) (200 : Nat)), ((10 : Nat), .int .i64 (↑p.2 : Int)), ((12 : Nat), .int .i64 (↑z.2 : Int)), ((13 : Nat), .int .i64 (IntKind.i64.wrap ((↑z.1 : Int) + (1 : Int))))], heap := [((2 : Nat), .arr (3 : Nat) Kd.int (z.was.set ((0 : Nat) + z.1) (stateOf p.s (↑z.1 : Int))) (0 : Nat)), ((1 : Nat), .obj (oM p.s)), ((0 : Nat), .ro Kd.four p.q.l)], nx := (10 : Nat), nt := (194 : Nat), tl := [(2 : Nat), (1 : Nat), (0 : Nat), (1 : Nat), (2 : Nat), (3 : Nat), (4 : Nat), (5 : Nat), (6 : Nat), (7 : Nat), (8 : Nat), (9 : Nat), (10 : Nat), (11 : Nat), (12 : Nat), (13 : Nat), (14 : Nat), (15 : Nat), (16 : Nat)] : St V })))))))) (Out.need ((0 : Int) ≤ (↑z.1 : Int) ∧ (↑z.1 : Int) < (200 : Int)) (Out.need ((0 : Nat) + z.1 < z.was.length) (Out.ite (decide (stateOf p.s (↑z.1 : Int) > z.was.getD ((0 : Nat) + z.1) (V.enc Kd.int).dflt)) (Out.ite (stateOf p.s (↑z.1 : Int) == (3 : Int)) (Out.need ((0 : Int) ≤ (↑z.1 : Int) ∧ (↑z.1 : Int) < (200 : Int)) (Out.need ((0 : Nat) + z.1 < z.was.length) (Out.ite (z.was.getD ((0 : Nat) + z.1) (V.enc Kd.int).dflt == (0 : Int)) (Out.stop EX.rt {env := [((2 : Nat), .sl false (0 : Nat) (0 : Nat) (4 : Nat) p.q.l.length p.q.2), ((7 : Nat), .tt), ((8 : Nat), .ptr (1 : Nat) (0 : Nat)), ((9 : Nat), .sl true (2 : Nat) (0 : Nat) (1 : Nat) (200 : Nat) (200 : Nat)), ((10 : Nat), .int .i64 (↑p.2 : Int)), ((12 : Nat), .int .i64 (↑z.2 : Int)), ((13 : Nat), .int .i64 (↑z.1 : Int))], heap := [((2 : Nat), .arr (3 : Nat) Kd.int z.was (0 : Nat)), ((1 : Nat), .obj (oM p.s)), ((0 : Nat), .ro Kd.four p.q.l)], nx := (9 : Nat), nt := (194 : Nat), tl := [(1 : Nat), (0 : Nat), (1 : Nat), (2 : Nat), (3 : Nat), (4 : Nat), (5 : Nat), (6 : Nat), (7 : Nat), (8 : Nat), (9 : Nat), (10 : Nat), (11 : Nat), (12 : Nat), (13 : Nat), (14 : Nat), (15 : Nat), (16 : Nat)] : St V }) (Out.ite (stateOf p.s (↑z.1 : Int) == (1 : Int)) (Out.need ((0 : Int) ≤ (↑z.1 : Int) ∧ (↑z.1 : Int) < (200 : Int)) (Out.need ((0 : Nat) + z.1 < z.was.length) (Out.stop EX.nx {env := [((2 : Nat), .sl false (0 : Nat) (0 : Nat) (4 : Nat) p.q.l.length p.q.2), ((7 : Nat), .tt), ((8 : Nat), .ptr (1 : Nat) (0 : Nat)), ((9 : Nat), .sl true (2 : Nat) (0 : Nat) (1 : Nat) (200 : Nat) (200 : Nat)), ((10 : Nat), .int .i64 (↑p.2 : Int)), ((12 : Nat), .int .i64 (IntKind.i64.wrap ((↑z.2 : Int) + (1 : Int)))), ((13 : Nat), .int .i64 (IntKind.i64.wrap ((↑z.1 : Int) + (1 : Int))))], heap := [((2 : Nat), .arr (3 : Nat) Kd.int (z.was.set ((0 : Nat) + z.1) (stateOf p.s (↑z.1 : Int))) (0 : Nat)), ((1 : Nat), .obj (oM p.s)), ((0 : Nat), .ro Kd.four p.q.l)], nx := (10 : Nat), nt := (194 : Nat), tl := [(2 : Nat), (1 : Nat), (0 : Nat), (1 : Nat), (2 : Nat), (3 : Nat), (4 : Nat), (5 : Nat), (6 : Nat), (7 : Nat), (8 : Nat), (9 : Nat), (10 : Nat), (11 : Nat), (12 : Nat), (13 : Nat), (14 : Nat), (15 : Nat), (16 : Nat)] : St V }))) (Out.need ((0 : Int) ≤ (↑z.1 : Int) ∧ (↑z.1 : Int) < (200 : Int)) (Out.need ((0 : Nat) + z.1 < z.was.length) (Out.stop EX.nx {env := [((2 : Nat), .sl false (0 : Nat) (0 : Nat) (4 : Nat) p.q.l.length p.q.2), ((7 : Nat), .tt), ((8 : Nat), .ptr (1 : Nat) (0 : Nat)), ((9 : Nat), .sl true (2 : Nat) (0 : Nat) (1 : Nat) (200 : Nat) (200 : Nat)), ((10 : Nat), .int .i64 (↑p.2 : Int)), ((12 : Nat), .int .i64 (↑z.2 : Int)), ((13 : Nat), .int .i64 (IntKind.i64.wrap ((↑z.1 : Int) + (1 : Int))))], heap := [((2 : Nat), .arr (3 : Nat) Kd.int (z.was.set ((0 : Nat) + z.1) (stateOf p.s (↑z.1 : Int))) (0 : Nat)), ((1 : Nat), .obj (oM p.s)), ((0 : Nat), .ro Kd.four p.q.l)], nx := (10 : Nat), nt := (194 : Nat), tl := [(2 : Nat), (1 : Nat), (0 : Nat), (1 : Nat), (2 : Nat), (3 : Nat), (4 : Nat), (5 : Nat), (6 : Nat), (7 : Nat), (8 : Nat), (9 : Nat), (10 : Nat), (11 : Nat), (12 : Nat), (13 : Nat), (14 : Nat), (15 : Nat), (16 : Nat)] : St V }))))))) (Out.ite (stateOf p.s (↑z.1 : Int) == (1 : Int)) (Out.need ((0 : Int) ≤ (↑z.1 : Int) ∧ (↑z.1 : Int) < (200 : Int)) (Out.need ((0 : Nat) + z.1 < z.was.length) (Out.stop EX.nx {env := [((2 : Nat), .sl false (0 : Nat) (0 : Nat) (4 : Nat) p.q.l.length p.q.2), ((7 : Nat), .tt), ((8 : Nat), .ptr (1 : Nat) (0 : Nat)), ((9 : Nat), .sl true (2 : Nat) (0 : Nat) (1 : Nat) (200 : Nat) (200 : Nat)), ((10 : Nat), .int .i64 (↑p.2 : Int)), ((12 : Nat), .int .i64 (IntKind.i64.wrap ((↑z.2 : Int) + (1 : Int)))), ((13 : Nat), .int .i64 (IntKind.i64.wrap ((↑z.1 : Int) + (1 : Int))))], heap := [((2 : Nat), .arr (3 : Nat) Kd.int (z.was.set ((0 : Nat) + z.1) (stateOf p.s (↑z.1 : Int))) (0 : Nat)), ((1 : Nat), .obj (oM p.s)), ((0 : Nat), .ro Kd.four p.q.l)], nx := (10 : Nat), nt := (194 : Nat), tl := [(2 : Nat), (1 : Nat), (0 : Nat), (1 : Nat), (2 : Nat), (3 : Nat), (4 : Nat), (5 : Nat), (6 : Nat), (7 : Nat), (8 : Nat), (9 : Nat), (10 : Nat), (11 : Nat), (12 : Nat), (13 : Nat), (14 : Nat), (15 : Nat), (16 : Nat)] : St V }))) (Out.need ((0 : Int) ≤ (↑z.1 : Int) ∧ (↑z.1 : Int) < (200 : Int)) (Out.need ((0 : Nat) + z.1 < z.was.length) (Out.stop EX.nx {env := [((2 : Nat), .sl false (0 : Nat) (0 : Nat) (4 : Nat) p.q.l.length p.q.2), ((7 : Nat), .tt), ((8 : Nat), .ptr (1 : Nat) (0 : Nat)), ((9 : Nat), .sl true (2 : Nat) (0 : Nat) (1 : Nat) (200 : Nat) (200 : Nat)), ((10 : Nat), .int .i64 (↑p.2 : Int)), ((12 : Nat), .int .i64 (↑z.2 : Int)), ((13 : Nat), .int .i64 (IntKind.i64.wrap ((↑z.1 : Int) + (1 : Int))))], heap := [((2 : Nat), .arr (3 : Nat) Kd.int (z.was.set ((0 : Nat) + z.1) (stateOf p.s (↑z.1 : Int))) (0 : Nat)), ((1 : Nat), .obj (oM p.s)), ((0 : Nat), .ro Kd.four p.q.l)], nx := (10 : Nat), nt := (194 : Nat), tl := [(2 : Nat), (1 : Nat), (0 : Nat), (1 : Nat), (2 : Nat), (3 : Nat), (4 : Nat), (5 : Nat), (6 : Nat), (7 : Nat), (8 : Nat), (9 : Nat), (10 : Nat), (11 : Nat), (12 : Nat), (13 : Nat), (14 : Nat), (15 : Nat), (16 : Nat)] : St V }))))) (Out.ite (stateOf p.s (↑z.1 : Int) == (1 : Int)) (Out.need ((0 : Int) ≤ (↑z.1 : Int) ∧ (↑z.1 : Int) < (200 : Int)) (Out.need ((0 : Nat) + z.1 < z.was.length) (Out.stop EX.nx {env := [((2 : Nat), .sl false (0 : Nat) (0 : Nat) (4 : Nat) p.q.l.length p.q.2), ((7 : Nat), .tt), ((8 : Nat), .ptr (1 : Nat) (0 : Nat)), ((9 : Nat), .sl true (2 : Nat) (0 : Nat) (1 : Nat) (200 : Nat) (200 : Nat)), ((10 : Nat), .int .i64 (↑p.2 : Int)), ((12 : Nat), .int .i64 (IntKind.i64.wrap ((↑z.2 : Int) + (1 : Int)))), ((13 : Nat), .int .i64 (IntKind.i64.wrap ((↑z.1 : Int) + (1 : Int))))], heap := [((2 : Nat), .arr (3 : Nat) Kd.int (z.was.set ((0 : Nat) + z.1) (stateOf p.s (↑z.1 : Int))) (0 : Nat)), ((1 : Nat), .obj (oM p.s)), ((0 : Nat), .ro Kd.four p.q.l)], nx := (10 : Nat), nt := (194 : Nat), tl := [(2 : Nat), (1 : Nat), (0 : Nat), (1 : Nat), (2 : Nat), (3 : Nat), (4 : Nat), (5 : Nat), (6 : Nat), (7 : Nat), (8 : Nat), (9 : Nat), (10 : Nat), (11 : Nat), (12 : Nat), (13 : Nat), (14 : Nat), (15 : Nat), (16 : Nat)] : St V }))) (Out.need ((0 : Int) ≤ (↑z.1 : Int) ∧ (↑z.1 : Int) < (200 : Int)) (Out.need ((0 : Nat) + z.1 < z.was.length) (Out.stop EX.nx {env := [((2 : Nat), .sl false (0 : Nat) (0 : Nat) (4 : Nat) p.q.l.length p.q.2), ((7 : Nat), .tt), ((8 : Nat), .ptr (1 : Nat) (0 : Nat)), ((9 : Nat), .sl true (2 : Nat) (0 : Nat) (1 : Nat) (200 : Nat) (200 : Nat)), ((10 : Nat), .int .i64 (↑p.2 : Int)), ((12 : Nat), .int .i64 (↑z.2 : Int)), ((13 : Nat), .int .i64 (IntKind.i64.wrap ((↑z.1 : Int) + (1 : Int))))], heap := [((2 : Nat), .arr (3 : Nat) Kd.int (z.was.set ((0 : Nat) + z.1) (stateOf p.s (↑z.1 : Int))) (0 : Nat)), ((1 : Nat), .obj (oM p.s)), ((0 : Nat), .ro Kd.four p.q.l)], nx := (10 : Nat), nt := (194 : Nat), tl := [(2 : Nat), (1 : Nat), (0 : Nat), (1 : Nat), (2 : Nat), (3 : Nat), (4 : Nat), (5 : Nat), (6 : Nat), (7 : Nat), (8 : Nat), (9 : Nat), (10 : Nat), (11 : Nat), (12 : Nat), (13 : Nat), (14 : Nat), (15 : Nat), (16 : Nat)] : St V }))))))))))))) (Out.stop (EX.ex (3 : Nat)) {env := [((2 : Nat), .sl false (0 : Nat) (0 : Nat) (4 : Nat) p.q.l.length p.q.2), ((7 : Nat), .tt), ((8 : Nat), .ptr (1 : Nat) (0 : Nat)), ((9 : Nat), .sl true (2 : Nat) (0 : Nat) (1 : Nat) (200 : Nat) (200 : Nat)), ((10 : Nat), .int .i64 (↑p.2 : Int)), ((12 : Nat), .int .i64 (↑z.2 : Int)), ((13 : Nat), .int .i64 (↑z.1 : Int))], heap := [((2 : Nat), .arr (3 : Nat) Kd.int z.was (0 : Nat)), ((1 : Nat), .obj (oM p.s)), ((0 : Nat), .ro Kd.four p.q.l)], nx := (9 : Nat), nt := (194 : Nat), tl := [(0 : Nat), (1 : Nat), (2 : Nat), (3 : Nat), (4 : Nat), (5 : Nat), (6 : Nat), (7 : Nat), (8 : Nat), (9 : Nat), (10 : Nat), (11 : Nat), (12 : Nat), (13 : Nat), (14 : Nat), (15 : Nat), (16 : Nat)] : St V }) := by kernel_rfl

theorem tbb (p : PB) (z : Nat × Int) : runCode cfgX 60 5 (loopOf Try.f5 5) (IB p z) (stopT (trimSt [2, 7, 8, 9, 10, 12, 15, 16, 17] [0, 1, 2, 9])) = Out.ite (decide ((↑z.1 : Int) < (↑p.ys.length : Int))) (Out.need ((0 : Int) ≤ (↑z.1 : Int) ∧ (↑z.1 : Int) < (↑p.ys.length : Int)) (Out.need ((0 : Nat) + z.1 < p.ys.length) (Out.need ((0 : Int) ≤ (↑z.1 : Int) ∧ (↑z.1 : Int) < (↑p.ys.length : Int)) (Out.need ((0 : Nat) + z.1 < p.ys.length) (Out.ite (stateOf p.p.s (p.ys.getD ((0 : Nat) + z.1) (V.enc Kd.ent).dflt).node != (1 : Int)) (Out.stop EX.rt {env := [((2 : Nat), .sl false (0 : Nat) (0 : Nat) (4 : Nat) p.p.q.l.length p.p.q.2), ((7 : Nat), .tt), ((8 : Nat), .ptr (1 : Nat) (0 : Nat)), ((9 : Nat), .sl true (2 : Nat) (0 : Nat) (1 : Nat) (200 : Nat) (200 : Nat)), ((10 : Nat), .int .i64 (↑p.p.2 : Int)), ((12 : Nat), .int .i64 (↑p.z.2 : Int)), ((15 : Nat), .sl false (9 : Nat) (0 : Nat) (4 : Nat) p.ys.length (p.ys.length + p.4)), ((16 : Nat), .int .i64 (IntKind.i64.wrap (z.snd + (p.ys.getD ((0 : Nat) + z.1) (V.enc Kd.ent).dflt).weight))), ((17 : Nat), .int .i64 (↑z.1 : Int))], heap := [((9 : Nat), .arr (28 : Nat) Kd.ent p.ys p.4), ((2 : Nat), .arr (3 : Nat) Kd.int p.z.was (0 : Nat)), ((1 : Nat), .obj (oM p.p.s)), ((0 : Nat), .ro Kd.four p.p.q.l)], nx := (12 : Nat), nt := (194 : Nat), tl := [(1 : Nat), (0 : Nat), (1 : Nat), (2 : Nat), (3 : Nat), (4 : Nat), (5 : Nat), (6 : Nat), (7 : Nat), (8 : Nat), (9 : Nat), (10 : Nat), (11 : Nat), (12 : Nat), (13 : Nat), (14 : Nat), (15 : Nat), (16 : Nat)] : St V }) (Out.ite (decide ((↑z.1 : Int) > (0 : Int))) (Out.need ((0 : Int) ≤ (↑z.1 : Int) ∧ (↑z.1 : Int) < (↑p.ys.length : Int)) (Out.need ((0 : Nat) + z.1 < p.ys.length) (Out.need ((0 : Int) ≤ IntKind.i64.wrap ((↑z.1 : Int) - (1 : Int)) ∧ IntKind.i64.wrap ((↑z.1 : Int) - (1 : Int)) < (↑p.ys.length : Int)) (Out.need ((0 : Nat) + (IntKind.i64.wrap ((↑z.1 : Int) - (1 : Int))).toNat < p.ys.length) (Out.ite (decide ((p.ys.getD ((0 : Nat) + z.1) (V.enc Kd.ent).dflt).key ≤ (p.ys.getD ((0 : Nat) + (IntKind.i64.wrap ((↑z.1 : Int) - (1 : Int))).toNat) (V.enc Kd.ent).dflt).key)) (Out.stop EX.rt {env := [((2 : Nat), .sl false (0 : Nat) (0 : Nat) (4 : Nat) p.p.q.l.length p.p.q.2), ((7 : Nat), .tt), ((8 : Nat), .ptr (1 : Nat) (0 : Nat)), ((9 : Nat), .sl true (2 : Nat) (0 : Nat) (1 : Nat) (200 : Nat) (200 : Nat)), ((10 : Nat), .int .i64 (↑p.p.2 : Int)), ((12 : Nat), .int .i64 (↑p.z.2 : Int)), ((15 : Nat), .sl false (9 : Nat) (0 : Nat) (4 : Nat) p.ys.length (p.ys.length + p.4)), ((16 : Nat), .int .i64 (IntKind.i64.wrap (z.snd + (p.ys.getD ((0 : Nat) + z.1) (V.enc Kd.ent).dflt).weight))), ((17 : Nat), .int .i64 (↑z.1 : Int))], heap := [((9 : Nat), .arr (28 : Nat) Kd.ent p.ys p.4), ((2 : Nat), .arr (3 : Nat) Kd.int p.z.was (0 : Nat)), ((1 : Nat), .obj (oM p.p.s)), ((0 : Nat), .ro Kd.four p.p.q.l)], nx := (12 : Nat), nt := (194 : Nat), tl := [(1 : Nat), (0 : Nat), (1 : Nat), (2 : Nat), (3 : Nat), (4 : Nat), (5 : Nat), (6 : Nat), (7 : Nat), (8 : Nat), (9 : Nat), (10 : Nat), (11 : Nat), (12 : Nat), (13 : Nat), (14 : Nat), (15 : Nat), (16 : Nat)] : St V }) (Out.stop EX.nx {env := [((2 : Nat), .sl false (0 : Nat) (0 : Nat) (4 : Nat) p.p.q.l.length p.p.q.2), ((7 : Nat), .tt), ((8 : Nat), .ptr (1 : Nat) (0 : Nat)), ((9 : Nat), .sl true (2 : Nat) (0 : Nat) (1 : Nat) (200 : Nat) (200 : Nat)), ((10 : Nat), .int .i64 (↑p.p.2 : Int)), ((12 : Nat), .int .i64 (↑p.z.2 : Int)), ((15 : Nat), .sl false (9 : Nat) (0 : Nat) (4 : Nat) p.ys.length (p.ys.length + p.4)), ((16 : Nat), .int .i64 (IntKind.i64.wrap (z.snd + (p.ys.getD ((0 : Nat) + z.1) (V.enc Kd.ent).dflt).weight))), ((17 : Nat), .int .i64 (IntKind.i64.wrap ((↑z.1 : Int) + (1 : Int))))], heap := [((9 : Nat), .arr (28 : Nat) Kd.ent p.ys p.4), ((2 : Nat), .arr (3 : Nat) Kd.int p.z.was (0 : Nat)), ((1 : Nat), .obj (oM p.p.s)), ((0 : Nat), .ro Kd.four p.p.q.l)], nx := (12 : Nat), nt := (194 : Nat), tl := [(1 : Nat), (0 : Nat), (1 : Nat), (2 : Nat), (3 : Nat), (4 : Nat), (5 : Nat), (6 : Nat), (7 : Nat), (8 : Nat), (9 : Nat), (10 : Nat), (11 : Nat), (12 : Nat), (13 : Nat), (14 : Nat), (15 : Nat), (16 : Nat)] : St V })))))) (Out.stop EX.nx {env := [((2 : Nat), .sl false (0 : Nat) (0 : Nat) (4 : Nat) p.p.q.l.length p.p.q.2), ((7 : Nat), .tt), ((8 : Nat), .ptr (1 : Nat) (0 : Nat)), ((9 : Nat), .sl true (2 : Nat) (0 : Nat) (1 : Nat) (200 : Nat) (200 : Nat)), ((10 : Nat), .int .i64 (↑p.p.2 : Int)), ((12 : Nat), .int .i64 (↑p.z.2 : Int)), ((15 : Nat), .sl false (9 : Nat) (0 : Nat) (4 : Nat) p.ys.length (p.ys.length + p.4)), ((16 : Nat), .int .i64 (IntKind.i64.wrap (z.snd + (p.ys.getD ((0 : Nat) + z.1) (V.enc Kd.ent).dflt).weight))), ((17 : Nat), .int .i64 (IntKind.i64.wrap ((↑z.1 : Int) + (1 : Int))))], heap := [((9 : Nat), .arr (28 : Nat) Kd.ent p.ys p.4), ((2 : Nat), .arr (3 : Nat) Kd.int p.z.was (0 : Nat)), ((1 : Nat), .obj (oM p.p.s)), ((0 : Nat), .ro Kd.four p.p.q.l)], nx := (12 : Nat), nt := (194 : Nat), tl := [(1 : Nat), (0 : Nat), (1 : Nat), (2 : Nat), (3 : Nat), (4 : Nat), (5 : Nat), (6 : Nat), (7 : Nat), (8 : Nat), (9 : Nat), (10 : Nat), (11 : Nat), (12 : Nat), (13 : Nat), (14 : Nat), (15 : Nat), (16 : Nat)] : St V }))))))) (Out.stop (EX.ex (5 : Nat)) {env := [((2 : Nat), .sl false (0 : Nat) (0 : Nat) (4 : Nat) p.p.q.l.length p.p.q.2), ((7 : Nat), .tt), ((8 : Nat), .ptr (1 : Nat) (0 : Nat)), ((9 : Nat), .sl true (2 : Nat) (0 : Nat) (1 : Nat) (200 : Nat) (200 : Nat)), ((10 : Nat), .int .i64 (↑p.p.2 : Int)), ((12 : Nat), .int .i64 (↑p.z.2 : Int)), ((15 : Nat), .sl false (9 : Nat) (0 : Nat) (4 : Nat) p.ys.length (p.ys.length + p.4)), ((16 : Nat), .int .i64 z.snd), ((17 : Nat), .int .i64 (↑z.1 : Int))], heap := [((9 : Nat), .arr (28 : Nat) Kd.ent p.ys p.4), ((2 : Nat), .arr (3 : Nat) Kd.int p.z.was (0 : Nat)), ((1 : Nat), .obj (oM p.p.s)), ((0 : Nat), .ro Kd.four p.p.q.l)], nx := (12 : Nat), nt := (194 : Nat), tl := [(0 : Nat), (1 : Nat), (2 : Nat), (3 : Nat), (4 : Nat), (5 : Nat), (6 : Nat), (7 : Nat), (8 : Nat), (9 : Nat), (10 : Nat), (11 : Nat), (12 : Nat), (13 : Nat), (14 : Nat), (15 : Nat), (16 : Nat)] : St V }) := by kernel_rfl

theorem tb50 (q : P0) (x : X0) : runCode cfgX5a 60 5 (loopOf Try.f5 0) (LI0 q x) (stopT (trimSt [2, 7, 8, 9, 10] [0, 1, 2])) = Out.ite (decide ((↑x.1 : Int) < (↑q.l.length : Int))) (Out.need ((0 : Int) ≤ (↑x.1 : Int) ∧ (↑x.1 : Int) < (↑q.l.length : Int)) (Out.need ((0 : Nat) + x.1 < q.l.length) (Out.ite (bitsOp BinOp.and .i64 (q.l.getD ((0 : Nat) + x.1) (V.enc Kd.four).dflt).a (3 : Int) == (0 : Int)) (Out.ex (Int → Option Ent) fun y => Out.need (MapOk x.x y ∧ x.x.given < (536870912 : Int)) (Out.all MO fun y_1 => Out.asm (y_1 = putS x.x (y (q.l.getD ((0 : Nat) + x.1) (V.enc Kd.four).dflt).b) (q.l.getD ((0 : Nat) + x.1) (V.enc Kd.four).dflt).b (q.l.getD ((0 : Nat) + x.1) (V.enc Kd.four).dflt).d y_1.pool ∧ MapOk y_1 (updF y (q.l.getD ((0 : Nat) + x.1) (V.enc Kd.four).dflt).b (some (putE x.x (y (q.l.getD ((0 : Nat) + x.1) (V.enc Kd.four).dflt).b) (q.l.getD ((0 : Nat) + x.1) (V.enc Kd.four).dflt).b (q.l.getD ((0 : Nat) + x.1) (V.enc Kd.four).dflt).c (q.l.getD ((0 : Nat) + x.1) (V.enc Kd.four).dflt).d)))) (Out.need (LoopFor Try.prog (5 : Nat) (3 : Nat) (loopOf Try.f5 (3 : Nat)) LA) (Out.ex (PA → Prop) fun y => Out.need ((5 : Nat) ≤ (9 : Nat) ∧ SImp (9 : Nat) {env := [((2 : Nat), .sl false (0 : Nat) (0 : Nat) (4 : Nat) q.l.length q.2), ((7 : Nat), .tt), ((8 : Nat), .ptr (1 : Nat) (0 : Nat)), ((9 : Nat), .sl true (2 : Nat) (0 : Nat) (1 : Nat) (200 : Nat) (200 : Nat)), ((10 : Nat), .int .i64 (↑x.1 : Int)), ((12 : Nat), .lit .i64 (0 : Int)), ((13 : Nat), .lit .i64 (1 : Int))], heap := [((2 : Nat), .arr (3 : Nat) Kd.int x.was (0 : Nat)), ((1 : Nat), .obj (oM y_1)), ((0 : Nat), .ro Kd.four q.l)], nx := (5 : Nat), nt := (194 : Nat), tl := [(3 : Nat), (1 : Nat), (3 : Nat), (0 : Nat), (1 : Nat), (2 : Nat), (3 : Nat), (4 : Nat), (5 : Nat), (6 : Nat), (7 : Nat), (8 : Nat), (9 : Nat), (10 : Nat), (11 : Nat), (12 : Nat), (13 : Nat), (14 : Nat), (15 : Nat), (16 : Nat)] : St V } (fun p => IA p {n := (1 : Nat), al := (0 : Nat), was := p.w0 : XA }) y) (Out.all PA fun y_2 => Out.asm (y y_2) (Out.all XA fun y => Out.asm ((fun p z => JA p z ∧ z.1 = (200 : Nat)) y_2 y) (Out.ex (Int → Option Ent) fun y_3 => Out.need (MapOk y_2.s y_3) (Out.all (List Ent) fun y_4 => Out.all Nat fun y_5 => Out.asm (AllRow y_3 y_4 ∧ y_4.length ≤ (68719476736 : Nat)) (Out.need (LoopFor Try.prog (5 : Nat) (5 : Nat) (loopOf Try.f5 (5 : Nat)) LB) (Out.ex (PB → Prop) fun y_6 => Out.need ((10 : Nat) ≤ (12 : Nat) ∧ SImp (12 : Nat) {env := [((2 : Nat), .sl false (0 : Nat) (0 : Nat) (4 : Nat) y_2.q.l.length y_2.q.2), ((7 : Nat), .tt), ((8 : Nat), .ptr (1 : Nat) (0 : Nat)), ((9 : Nat), .sl true (2 : Nat) (0 : Nat) (1 : Nat) (200 : Nat) (200 : Nat)), ((10 : Nat), .int .i64 (↑y_2.2 : Int)), ((12 : Nat), .int .i64 (↑y.2 : Int)), ((15 : Nat), .sl false (9 : Nat) (0 : Nat) (4 : Nat) y_4.length (y_4.length + y_5)), ((16 : Nat), .lit .i64 (0 : Int)), ((17 : Nat), .lit .i64 (0 : Int))], heap := [((9 : Nat), .arr (28 : Nat) Kd.ent y_4 y_5), ((2 : Nat), .arr (3 : Nat) Kd.int y.was (0 : Nat)), ((1 : Nat), .obj (oM y_2.s)), ((0 : Nat), .ro Kd.four y_2.q.l)], nx := (10 : Nat), nt := (194 : Nat), tl := [(1 : Nat), (0 : Nat), (1 : Nat), (2 : Nat), (3 : Nat), (4 : Nat), (5 : Nat), (6 : Nat), (7 : Nat), (8 : Nat), (9 : Nat), (10 : Nat), (11 : Nat), (12 : Nat), (13 : Nat), (14 : Nat), (15 : Nat), (16 : Nat)] : St V } (fun p => IB p ((0 : Nat), (0 : Int))) y_6) (Out.all PB fun y => Out.asm (y_6 y) (Out.all Unit fun y_7 => Out.asm ((fun p x => True) y y_7) (Out.ite ((↑y.z.2 : Int) != (↑y.ys.length : Int)) (Out.stop EX.rt {env := [((2 : Nat), .sl false (0 : Nat) (0 : Nat) (4 : Nat) y.p.q.l.length y.p.q.2), ((7 : Nat), .tt), ((8 : Nat), .ptr (1 : Nat) (0 : Nat)), ((9 : Nat), .sl true (2 : Nat) (0 : Nat) (1 : Nat) (200 : Nat) (200 : Nat)), ((10 : Nat), .int .i64 (↑y.p.2 : Int))], heap := [((2 : Nat), .arr (3 : Nat) Kd.int y.z.was (0 : Nat)), ((1 : Nat), .obj (oM y.p.s)), ((0 : Nat), .ro Kd.four y.p.q.l)], nx := (12 : Nat), nt := (194 : Nat), tl := [(9 : Nat), (0 : Nat), (1 : Nat), (2 : Nat), (3 : Nat), (4 : Nat), (5 : Nat), (6 : Nat), (7 : Nat), (8 : Nat), (9 : Nat), (10 : Nat), (11 : Nat), (12 : Nat), (13 : Nat), (14 : Nat), (15 : Nat), (16 : Nat)] : St V }) (Out.ite ((↑y.ys.length : Int) != (↑y.p.s.keys.length : Int)) (Out.stop EX.rt {env := [((2 : Nat), .sl false (0 : Nat) (0 : Nat) (4 : Nat) y.p.q.l.length y.p.q.2), ((7 : Nat), .tt), ((8 : Nat), .ptr (1 : Nat) (0 : Nat)), ((9 : Nat), .sl true (2 : Nat) (0 : Nat) (1 : Nat) (200 : Nat) (200 : Nat)), ((10 : Nat), .int .i64 (↑y.p.2 : Int))], heap := [((2 : Nat), .arr (3 : Nat) Kd.int y.z.was (0 : Nat)), ((1 : Nat), .obj (oM y.p.s)), ((0 : Nat), .ro Kd.four y.p.q.l)], nx := (12 : Nat), nt := (194 : Nat), tl := [(9 : Nat), (1 : Nat), (0 : Nat), (1 : Nat), (2 : Nat), (3 : Nat), (4 : Nat), (5 : Nat), (6 : Nat), (7 : Nat), (8 : Nat), (9 : Nat), (10 : Nat), (11 : Nat), (12 : Nat), (13 : Nat), (14 : Nat), (15 : Nat), (16 : Nat)] : St V }) (Out.ite ((y.ys.length, IntKind.i64.wrap (wsum y.ys)).snd != y.p.s.weight) (Out.stop EX.rt {env := [((2 : Nat), .sl false (0 : Nat) (0 : Nat) (4 : Nat) y.p.q.l.length y.p.q.2), ((7 : Nat), .tt), ((8 : Nat), .ptr (1 : Nat) (0 : Nat)), ((9 : Nat), .sl true (2 : Nat) (0 : Nat) (1 : Nat) (200 : Nat) (200 : Nat)), ((10 : Nat), .int .i64 (↑y.p.2 : Int))], heap := [((2 : Nat), .arr (3 : Nat) Kd.int y.z.was (0 : Nat)), ((1 : Nat), .obj (oM y.p.s)), ((0 : Nat), .ro Kd.four y.p.q.l)], nx := (12 : Nat), nt := (194 : Nat), tl := [(9 : Nat), (1 : Nat), (1 : Nat), (0 : Nat), (1 : Nat), (2 : Nat), (3 : Nat), (4 : Nat), (5 : Nat), (6 : Nat), (7 : Nat), (8 : Nat), (9 : Nat), (10 : Nat), (11 : Nat), (12 : Nat), (13 : Nat), (14 : Nat), (15 : Nat), (16 : Nat)] : St V }) (Out.stop EX.nx {env := [((2 : Nat), .sl false (0 : Nat) (0 : Nat) (4 : Nat) y.p.q.l.length y.p.q.2), ((7 : Nat), .tt), ((8 : Nat), .ptr (1 : Nat) (0 : Nat)), ((9 : Nat), .sl true (2 : Nat) (0 : Nat) (1 : Nat) (200 : Nat) (200 : Nat)), ((10 : Nat), .int .i64 (IntKind.i64.wrap ((↑y.p.2 : Int) + (1 : Int))))], heap := [((2 : Nat), .arr (3 : Nat) Kd.int y.z.was (0 : Nat)), ((1 : Nat), .obj (oM y.p.s)), ((0 : Nat), .ro Kd.four y.p.q.l)], nx := (12 : Nat), nt := (194 : Nat), tl := [(9 : Nat), (1 : Nat), (1 : Nat), (0 : Nat), (1 : Nat), (2 : Nat), (3 : Nat), (4 : Nat), (5 : Nat), (6 : Nat), (7 : Nat), (8 : Nat), (9 : Nat), (10 : Nat), (11 : Nat), (12 : Nat), (13 : Nat), (14 : Nat), (15 : Nat), (16 : Nat)] : St V })))))))))))))))) (Out.ite (bitsOp BinOp.and .i64 (q.l.getD ((0 : Nat) + x.1) (V.enc Kd.four).dflt).a (3 : Int) == (1 : Int)) (Out.ex (Int → Option Ent) fun y => Out.need (MapOk x.x y) (Out.all MO fun y_1 => Out.asm (y_1 = remS x.x (y (q.l.getD ((0 : Nat) + x.1) (V.enc Kd.four).dflt).b) false y_1.pool ∧ MapOk y_1 (updF y (q.l.getD ((0 : Nat) + x.1) (V.enc Kd.four).dflt).b none)) (Out.need (LoopFor Try.prog (5 : Nat) (3 : Nat) (loopOf Try.f5 (3 : Nat)) LA) (Out.ex (PA → Prop) fun y => Out.need ((5 : Nat) ≤ (9 : Nat) ∧ SImp (9 : Nat) {env := [((2 : Nat), .sl false (0 : Nat) (0 : Nat) (4 : Nat) q.l.length q.2), ((7 : Nat), .tt), ((8 : Nat), .ptr (1 : Nat) (0 : Nat)), ((9 : Nat), .sl true (2 : Nat) (0 : Nat) (1 : Nat) (200 : Nat) (200 : Nat)), ((10 : Nat), .int .i64 (↑x.1 : Int)), ((12 : Nat), .lit .i64 (0 : Int)), ((13 : Nat), .lit .i64 (1 : Int))], heap := [((2 : Nat), .arr (3 : Nat) Kd.int x.was (0 : Nat)), ((1 : Nat), .obj (oM y_1)), ((0 : Nat), .ro Kd.four q.l)], nx := (5 : Nat), nt := (194 : Nat), tl := [(3 : Nat), (1 : Nat), (3 : Nat), (0 : Nat), (1 : Nat), (2 : Nat), (3 : Nat), (4 : Nat), (5 : Nat), (6 : Nat), (7 : Nat), (8 : Nat), (9 : Nat), (10 : Nat), (11 : Nat), (12 : Nat), (13 : Nat), (14 : Nat), (15 : Nat), (16 : Nat)] : St V } (fun p => IA p {n := (1 : Nat), al := (0 : Nat), was := p.w0 : XA }) y) (Out.all PA fun y_2 => Out.asm (y y_2) (Out.all XA fun y => Out.asm ((fun p z => JA p z ∧ z.1 = (200 : Nat)) y_2 y) (Out.ex (Int → Option Ent) fun y_3 => Out.need (MapOk y_2.s y_3) (Out.all (List Ent) fun y_4 => Out.all Nat fun y_5 => Out.asm (AllRow y_3 y_4 ∧ y_4.length ≤ (68719476736 : Nat)) (Out.need (LoopFor Try.prog (5 : Nat) (5 : Nat) (loopOf Try.f5 (5 : Nat)) LB) (Out.ex (PB → Prop) fun y_6 => Out.need ((10 : Nat) ≤ (12 : Nat) ∧ SImp (12 : Nat) {env := [((2 : Nat), .sl false (0 : Nat) (0 : Nat) (4 : Nat) y_2.q.l.length y_2.q.2), ((7 : Nat), .tt), ((8 : Nat), .ptr (1 : Nat) (0 : Nat)), ((9 : Nat), .sl true (2 : Nat) (0 : Nat) (1 : Nat) (200 : Nat) (200 : Nat)), ((10 : Nat), .int .i64 (↑y_2.2 : Int)), ((12 : Nat), .int .i64 (↑y.2 : Int)), ((15 : Nat), .sl false (9 : Nat) (0 : Nat) (4 : Nat) y_4.length (y_4.length + y_5)), ((16 : Nat), .lit .i64 (0 : Int)), ((17 : Nat), .lit .i64 (0 : Int))], heap := [((9 : Nat), .arr (28 : Nat) Kd.ent y_4 y_5), ((2 : Nat), .arr (3 : Nat) Kd.int y.was (0 : Nat)), ((1 : Nat), .obj (oM y_2.s)), ((0 : Nat), .ro Kd.four y_2.q.l)], nx := (10 : Nat), nt := (194 : Nat), tl := [(1 : Nat), (0 : Nat), (1 : Nat), (2 : Nat), (3 : Nat), (4 : Nat), (5 : Nat), (6 : Nat), (7 : Nat), (8 : Nat), (9 : Nat), (10 : Nat), (11 : Nat), (12 : Nat), (13 : Nat), (14 : Nat), (15 : Nat), (16 : Nat)] : St V } (fun p => IB p ((0 : Nat), (0 : Int))) y_6) (Out.all PB fun y => Out.asm (y_6 y) (Out.all Unit fun y_7 => Out.asm ((fun p x => True) y y_7) (Out.ite ((↑y.z.2 : Int) != (↑y.ys.length : Int)) (Out.stop EX.rt {env := [((2 : Nat), .sl false (0 : Nat) (0 : Nat) (4 : Nat) y.p.q.l.length y.p.q.2), ((7 : Nat), .tt), ((8 : Nat), .ptr (1 : Nat) (0 : Nat)), ((9 : Nat), .sl true (2 : Nat) (0 : Nat) (1 : Nat) (200 : Nat) (200 : Nat)), ((10 : Nat), .int .i64 (↑y.p.2 : Int))], heap := [((2 : Nat), .arr (3 : Nat) Kd.int y.z.was (0 : Nat)), ((1 : Nat), .obj (oM y.p.s)), ((0 : Nat), .ro Kd.four y.p.q.l)], nx := (12 : Nat), nt := (194 : Nat), tl := [(9 : Nat), (0 : Nat), (1 : Nat), (2 : Nat), (3 : Nat), (4 : Nat), (5 : Nat), (6 : Nat), (7 : Nat), (8 : Nat), (9 : Nat), (10 : Nat), (11 : Nat), (12 : Nat), (13 : Nat), (14 : Nat), (15 : Nat), (16 : Nat)] : St V }) (Out.ite ((↑y.ys.length : Int) != (↑y.p.s.keys.length : Int)) (Out.stop EX.rt {env := [((2 : Nat), .sl false (0 : Nat) (0 : Nat) (4 : Nat) y.p.q.l.length y.p.q.2), ((7 : Nat), .tt), ((8 : Nat), .ptr (1 : Nat) (0 : Nat)), ((9 : Nat), .sl true (2 : Nat) (0 : Nat) (1 : Nat) (200 : Nat) (200 : Nat)), ((10 : Nat), .int .i64 (↑y.p.2 : Int))], heap := [((2 : Nat), .arr (3 : Nat) Kd.int y.z.was (0 : Nat)), ((1 : Nat), .obj (oM y.p.s)), ((0 : Nat), .ro Kd.four y.p.q.l)], nx := (12 : Nat), nt := (194 : Nat), tl := [(9 : Nat), (1 : Nat), (0 : Nat), (1 : Nat), (2 : Nat), (3 : Nat), (4 : Nat), (5 : Nat), (6 : Nat), (7 : Nat), (8 : Nat), (9 : Nat), (10 : Nat), (11 : Nat), (12 : Nat), (13 : Nat), (14 : Nat), (15 : Nat), (16 : Nat)] : St V }) (Out.ite ((y.ys.length, IntKind.i64.wrap (wsum y.ys)).snd != y.p.s.weight) (Out.stop EX.rt {env := [((2 : Nat), .sl false (0 : Nat) (0 : Nat) (4 : Nat) y.p.q.l.length y.p.q.2), ((7 : Nat), .tt), ((8 : Nat), .ptr (1 : Nat) (0 : Nat)), ((9 : Nat), .sl true (2 : Nat) (0 : Nat) (1 : Nat) (200 : Nat) (200 : Nat)), ((10 : Nat), .int .i64 (↑y.p.2 : Int))], heap := [((2 : Nat), .arr (3 : Nat) Kd.int y.z.was (0 : Nat)), ((1 : Nat), .obj (oM y.p.s)), ((0 : Nat), .ro Kd.four y.p.q.l)], nx := (12 : Nat), nt := (194 : Nat), tl := [(9 : Nat), (1 : Nat), (1 : Nat), (0 : Nat), (1 : Nat), (2 : Nat), (3 : Nat), (4 : Nat), (5 : Nat), (6 : Nat), (7 : Nat), (8 : Nat), (9 : Nat), (10 : Nat), (11 : Nat), (12 : Nat), (13 : Nat), (14 : Nat), (15 : Nat), (16 : Nat)] : St V }) (Out.stop EX.nx {env := [((2 : Nat), .sl false (0 : Nat) (0 : Nat) (4 : Nat) y.p.q.l.length y.p.q.2), ((7 : Nat), .tt), ((8 : Nat), .ptr (1 : Nat) (0 : Nat)), ((9 : Nat), .sl true (2 : Nat) (0 : Nat) (1 : Nat) (200 : Nat) (200 : Nat)), ((10 : Nat), .int .i64 (IntKind.i64.wrap ((↑y.p.2 : Int) + (1 : Int))))], heap := [((2 : Nat), .arr (3 : Nat) Kd.int y.z.was (0 : Nat)), ((1 : Nat), .obj (oM y.p.s)), ((0 : Nat), .ro Kd.four y.p.q.l)], nx := (12 : Nat), nt := (194 : Nat), tl := [(9 : Nat), (1 : Nat), (1 : Nat), (0 : Nat), (1 : Nat), (2 : Nat), (3 : Nat), (4 : Nat), (5 : Nat), (6 : Nat), (7 : Nat), (8 : Nat), (9 : Nat), (10 : Nat), (11 : Nat), (12 : Nat), (13 : Nat), (14 : Nat), (15 : Nat), (16 : Nat)] : St V })))))))))))))))) (Out.ite (bitsOp BinOp.and .i64 (q.l.getD ((0 : Nat) + x.1) (V.enc Kd.four).dflt).a (3 : Int) == (2 : Int)) (Out.ite (mget x.x.keys (q.l.getD ((0 : Nat) + x.1) (V.enc Kd.four).dflt).b).isSome (Out.ex (Int → Option Ent) fun y => Out.need (MapOk x.x y) (Out.all MO fun y_1 => Out.asm (y_1 = remS x.x (y ((mget x.x.keys (q.l.getD ((0 : Nat) + x.1) (V.enc Kd.four).dflt).b).getD (0 : Int))) true y_1.pool ∧ MapOk y_1 (updF y ((mget x.x.keys (q.l.getD ((0 : Nat) + x.1) (V.enc Kd.four).dflt).b).getD (0 : Int)) none)) (Out.need (LoopFor Try.prog (5 : Nat) (3 : Nat) (loopOf Try.f5 (3 : Nat)) LA) (Out.ex (PA → Prop) fun y => Out.need ((5 : Nat) ≤ (9 : Nat) ∧ SImp (9 : Nat) {env := [((2 : Nat), .sl false (0 : Nat) (0 : Nat) (4 : Nat) q.l.length q.2), ((7 : Nat), .tt), ((8 : Nat), .ptr (1 : Nat) (0 : Nat)), ((9 : Nat), .sl true (2 : Nat) (0 : Nat) (1 : Nat) (200 : Nat) (200 : Nat)), ((10 : Nat), .int .i64 (↑x.1 : Int)), ((12 : Nat), .lit .i64 (0 : Int)), ((13 : Nat), .lit .i64 (1 : Int))], heap := [((2 : Nat), .arr (3 : Nat) Kd.int x.was (0 : Nat)), ((1 : Nat), .obj (oM y_1)), ((0 : Nat), .ro Kd.four q.l)], nx := (5 : Nat), nt := (194 : Nat), tl := [(3 : Nat), (1 : Nat), (3 : Nat), (0 : Nat), (1 : Nat), (2 : Nat), (3 : Nat), (4 : Nat), (5 : Nat), (6 : Nat), (7 : Nat), (8 : Nat), (9 : Nat), (10 : Nat), (11 : Nat), (12 : Nat), (13 : Nat), (14 : Nat), (15 : Nat), (16 : Nat)] : St V } (fun p => IA p {n := (1 : Nat), al := (0 : Nat), was := p.w0 : XA }) y) (Out.all PA fun y_2 => Out.asm (y y_2) (Out.all XA fun y => Out.asm ((fun p z => JA p z ∧ z.1 = (200 : Nat)) y_2 y) (Out.ex (Int → Option Ent) fun y_3 => Out.need (MapOk y_2.s y_3) (Out.all (List Ent) fun y_4 => Out.all Nat fun y_5 => Out.asm (AllRow y_3 y_4 ∧ y_4.length ≤ (68719476736 : Nat)) (Out.need (LoopFor Try.prog (5 : Nat) (5 : Nat) (loopOf Try.f5 (5 : Nat)) LB) (Out.ex (PB → Prop) fun y_6 => Out.need ((10 : Nat) ≤ (12 : Nat) ∧ SImp (12 : Nat) {env := [((2 : Nat), .sl false (0 : Nat) (0 : Nat) (4 : Nat) y_2.q.l.length y_2.q.2), ((7 : Nat), .tt), ((8 : Nat), .ptr (1 : Nat) (0 : Nat)), ((9 : Nat), .sl true (2 : Nat) (0 : Nat) (1 : Nat) (200 : Nat) (200 : Nat)), ((10 : Nat), .int .i64 (↑y_2.2 : Int)), ((12 : Nat), .int .i64 (↑y.2 : Int)), ((15 : Nat), .sl false (9 : Nat) (0 : Nat) (4 : Nat) y_4.length (y_4.length + y_5)), ((16 : Nat), .lit .i64 (0 : Int)), ((17 : Nat), .lit .i64 (0 : Int))], heap := [((9 : Nat), .arr (28 : Nat) Kd.ent y_4 y_5), ((2 : Nat), .arr (3 : Nat) Kd.int y.was (0 : Nat)), ((1 : Nat), .obj (oM y_2.s)), ((0 : Nat), .ro Kd.four y_2.q.l)], nx := (10 : Nat), nt := (194 : Nat), tl := [(1 : Nat), (0 : Nat), (1 : Nat), (2 : Nat), (3 : Nat), (4 : Nat), (5 : Nat), (6 : Nat), (7 : Nat), (8 : Nat), (9 : Nat), (10 : Nat), (11 : Nat), (12 : Nat), (13 : Nat), (14 : Nat), (15 : Nat), (16 : Nat)] : St V } (fun p => IB p ((0 : Nat), (0 : Int))) y_6) (Out.all PB fun y => Out.asm (y_6 y) (Out.all Unit fun y_7 => Out.asm ((fun p x => True) y y_7) (Out.ite ((↑y.z.2 : Int) != (↑y.ys.length : Int)) (Out.stop EX.rt {env := [((2 : Nat), .sl false (0 : Nat) (0 : Nat) (4 : Nat) y.p.q.l.length y.p.q.2), ((7 : Nat), .tt), ((8 : Nat), .ptr (1 : Nat) (0 : Nat)), ((9 : Nat), .sl true (2 : Nat) (0 : Nat) (1 : Nat) (200 : Nat) (200 : Nat)), ((10 : Nat), .int .i64 (↑y.p.2 : Int))], heap := [((2 : Nat), .arr (3 : Nat) Kd.int y.z.was (0 : Nat)), ((1 : Nat), .obj (oM y.p.s)), ((0 : Nat), .ro Kd.four y.p.q.l)], nx := (12 : Nat), nt := (194 : Nat), tl := [(9 : Nat), (0 : Nat), (1 : Nat), (2 : Nat), (3 : Nat), (4 : Nat), (5 : Nat), (6 : Nat), (7 : Nat), (8 : Nat), (9 : Nat), (10 : Nat), (11 : Nat), (12 : Nat), (13 : Nat), (14 : Nat), (15 : Nat), (16 : Nat)] : St V }) (Out.ite ((↑y.ys.length : Int) != (↑y.p.s.keys.length : Int)) (Out.stop EX.rt {env := [((2 : Nat), .sl false (0 : Nat) (0 : Nat) (4 : Nat) y.p.q.l.length y.p.q.2), ((7 : Nat), .tt), ((8 : Nat), .ptr (1 : Nat) (0 : Nat)), ((9 : Nat), .sl true (2 : Nat) (0 : Nat) (1 : Nat) (200 : Nat) (200 : Nat)), ((10 : Nat), .int .i64 (↑y.p.2 : Int))], heap := [((2 : Nat), .arr (3 : Nat) Kd.int y.z.was (0 : Nat)), ((1 : Nat), .obj (oM y.p.s)), ((0 : Nat), .ro Kd.four y.p.q.l)], nx := (12 : Nat), nt := (194 : Nat), tl := [(9 : Nat), (1 : Nat), (0 : Nat), (1 : Nat), (2 : Nat), (3 : Nat), (4 : Nat), (5 : Nat), (6 : Nat), (7 : Nat), (8 : Nat), (9 : Nat), (10 : Nat), (11 : Nat), (12 : Nat), (13 : Nat), (14 : Nat), (15 : Nat), (16 : Nat)] : St V }) (Out.ite ((y.ys.length, IntKind.i64.wrap (wsum y.ys)).snd != y.p.s.weight) (Out.stop EX.rt {env := [((2 : Nat), .sl false (0 : Nat) (0 : Nat) (4 : Nat) y.p.q.l.length y.p.q.2), ((7 : Nat), .tt), ((8 : Nat), .ptr (1 : Nat) (0 : Nat)), ((9 : Nat), .sl true (2 : Nat) (0 : Nat) (1 : Nat) (200 : Nat) (200 : Nat)), ((10 : Nat), .int .i64 (↑y.p.2 : Int))], heap := [((2 : Nat), .arr (3 : Nat) Kd.int y.z.was (0 : Nat)), ((1 : Nat), .obj (oM y.p.s)), ((0 : Nat), .ro Kd.four y.p.q.l)], nx := (12 : Nat), nt := (194 : Nat), tl := [(9 : Nat), (1 : Nat), (1 : Nat), (0 : Nat), (1 : Nat), (2 : Nat), (3 : Nat), (4 : Nat), (5 : Nat), (6 : Nat), (7 : Nat), (8 : Nat), (9 : Nat), (10 : Nat), (11 : Nat), (12 : Nat), (13 : Nat), (14 : Nat), (15 : Nat), (16 : Nat)] : St V }) (Out.stop EX.nx {env := [((2 : Nat), .sl false (0 : Nat) (0 : Nat) (4 : Nat) y.p.q.l.length y.p.q.2), ((7 : Nat), .tt), ((8 : Nat), .ptr (1 : Nat) (0 : Nat)), ((9 : Nat), .sl true (2 : Nat) (0 : Nat) (1 : Nat) (200 : Nat) (200 : Nat)), ((10 : Nat), .int .i64 (IntKind.i64.wrap ((↑y.p.2 : Int) + (1 : Int))))], heap := [((2 : Nat), .arr (3 : Nat) Kd.int y.z.was (0 : Nat)), ((1 : Nat), .obj (oM y.p.s)), ((0 : Nat), .ro Kd.four y.p.q.l)], nx := (12 : Nat), nt := (194 : Nat), tl := [(9 : Nat), (1 : Nat), (1 : Nat), (0 : Nat), (1 : Nat), (2 : Nat), (3 : Nat), (4 : Nat), (5 : Nat), (6 : Nat), (7 : Nat), (8 : Nat), (9 : Nat), (10 : Nat), (11 : Nat), (12 : Nat), (13 : Nat), (14 : Nat), (15 : Nat), (16 : Nat)] : St V })))))))))))))))) (Out.need (LoopFor Try.prog (5 : Nat) (3 : Nat) (loopOf Try.f5 (3 : Nat)) LA) (Out.ex (PA → Prop) fun y => Out.need ((5 : Nat) ≤ (9 : Nat) ∧ SImp (9 : Nat) {env := [((2 : Nat), .sl false (0 : Nat) (0 : Nat) (4 : Nat) q.l.length q.2), ((7 : Nat), .tt), ((8 : Nat), .ptr (1 : Nat) (0 : Nat)), ((9 : Nat), .sl true (2 : Nat) (0 : Nat) (1 : Nat) (200 : Nat) (200 : Nat)), ((10 : Nat), .int .i64 (↑x.1 : Int)), ((12 : Nat), .lit .i64 (0 : Int)), ((13 : Nat), .lit .i64 (1 : Int))], heap := [((2 : Nat), .arr (3 : Nat) Kd.int x.was (0 : Nat)), ((1 : Nat), .obj (oM x.x)), ((0 : Nat), .ro Kd.four q.l)], nx := (5 : Nat), nt := (194 : Nat), tl := [(3 : Nat), (1 : Nat), (3 : Nat), (0 : Nat), (1 : Nat), (2 : Nat), (3 : Nat), (4 : Nat), (5 : Nat), (6 : Nat), (7 : Nat), (8 : Nat), (9 : Nat), (10 : Nat), (11 : Nat), (12 : Nat), (13 : Nat), (14 : Nat), (15 : Nat), (16 : Nat)] : St V } (fun p => IA p {n := (1 : Nat), al := (0 : Nat), was := p.w0 : XA }) y) (Out.all PA fun y_1 => Out.asm (y y_1) (Out.all XA fun y => Out.asm ((fun p z => JA p z ∧ z.1 = (200 : Nat)) y_1 y) (Out.ex (Int → Option Ent) fun y_2 => Out.need (MapOk y_1.s y_2) (Out.all (List Ent) fun y_3 => Out.all Nat fun y_4 => Out.asm (AllRow y_2 y_3 ∧ y_3.length ≤ (68719476736 : Nat)) (Out.need (LoopFor Try.prog (5 : Nat) (5 : Nat) (loopOf Try.f5 (5 : Nat)) LB) (Out.ex (PB → Prop) fun y_5 => Out.need ((10 : Nat) ≤ (12 : Nat) ∧ SImp (12 : Nat) {env := [((2 : Nat), .sl false (0 : Nat) (0 : Nat) (4 : Nat) y_1.q.l.length y_1.q.2), ((7 : Nat), .tt), ((8 : Nat), .ptr (1 : Nat) (0 : Nat)), ((9 : Nat), .sl true (2 : Nat) (0 : Nat) (1 : Nat) (200 : Nat) (200 : Nat)), ((10 : Nat), .int .i64 (↑y_1.2 : Int)), ((12 : Nat), .int .i64 (↑y.2 : Int)), ((15 : Nat), .sl false (9 : Nat) (0 : Nat) (4 : Nat) y_3.length (y_3.length + y_4)), ((16 : Nat), .lit .i64 (0 : Int)), ((17 : Nat), .lit .i64 (0 : Int))], heap := [((9 : Nat), .arr (28 : Nat) Kd.ent y_3 y_4), ((2 : Nat), .arr (3 : Nat) Kd.int y.was (0 : Nat)), ((1 : Nat), .obj (oM y_1.s)), ((0 : Nat), .ro Kd.four y_1.q.l)], nx := (10 : Nat), nt := (194 : Nat), tl := [(1 : Nat), (0 : Nat), (1 : Nat), (2 : Nat), (3 : Nat), (4 : Nat), (5 : Nat), (6 : Nat), (7 : Nat), (8 : Nat), (9 : Nat), (10 : Nat), (11 : Nat), (12 : Nat), (13 : Nat), (14 : Nat), (15 : Nat), (16 : Nat)] : St V } (fun p => IB p ((0 : Nat), (0 : Int))) y_5) (Out.all PB fun y => Out.asm (y_5 y) (Out.all Unit fun y_6 => Out.asm ((fun p x => True) y y_6) (Out.ite ((↑y.z.2 : Int) != (↑y.ys.length : Int)) (Out.stop EX.rt {env := [((2 : Nat), .sl false (0 : Nat) (0 : Nat) (4 : Nat) y.p.q.l.length y.p.q.2), ((7 : Nat), .tt), ((8 : Nat), .ptr (1 : Nat) (0 : Nat)), ((9 : Nat), .sl true (2 : Nat) (0 : Nat) (1 : Nat) (200 : Nat) (200 : Nat)), ((10 : Nat), .int .i64 (↑y.p.2 : Int))], heap := [((2 : Nat), .arr (3 : Nat) Kd.int y.z.was (0 : Nat)), ((1 : Nat), .obj (oM y.p.s)), ((0 : Nat), .ro Kd.four y.p.q.l)], nx := (12 : Nat), nt := (194 : Nat), tl := [(9 : Nat), (0 : Nat), (1 : Nat), (2 : Nat), (3 : Nat), (4 : Nat), (5 : Nat), (6 : Nat), (7 : Nat), (8 : Nat), (9 : Nat), (10 : Nat), (11 : Nat), (12 : Nat), (13 : Nat), (14 : Nat), (15 : Nat), (16 : Nat)] : St V }) (Out.ite ((↑y.ys.length : Int) != (↑y.p.s.keys.length : Int)) (Out.stop EX.rt {env := [((2 : Nat), .sl false (0 : Nat) (0 : Nat) (4 : Nat) y.p.q.l.length y.p.q.2), ((7 : Nat), .tt), ((8 : Nat), .ptr (1 : Nat) (0 : Nat)), ((9 : Nat), .sl true (2 : Nat) (0 : Nat) (1 : Nat) (200 : Nat) (200 : Nat)), ((10 : Nat), .int .i64 (↑y.p.2 : Int))], heap := [((2 : Nat), .arr (3 : Nat) Kd.int y.z.was (0 : Nat)), ((1 : Nat), .obj (oM y.p.s)), ((0 : Nat), .ro Kd.four y.p.q.l)], nx := (12 : Nat), nt := (194 : Nat), tl := [(9 : Nat), (1 : Nat), (0 : Nat), (1 : Nat), (2 : Nat), (3 : Nat), (4 : Nat), (5 : Nat), (6 : Nat), (7 : Nat), (8 : Nat), (9 : Nat), (10 : Nat), (11 : Nat), (12 : Nat), (13 : Nat), (14 : Nat), (15 : Nat), (16 : Nat)] : St V }) (Out.ite ((y.ys.length, IntKind.i64.wrap (wsum y.ys)).snd != y.p.s.weight) (Out.stop EX.rt {env := [((2 : Nat), .sl false (0 : Nat) (0 : Nat) (4 : Nat) y.p.q.l.length y.p.q.2), ((7 : Nat), .tt), ((8 : Nat), .ptr (1 : Nat) (0 : Nat)), ((9 : Nat), .sl true (2 : Nat) (0 : Nat) (1 : Nat) (200 : Nat) (200 : Nat)), ((10 : Nat), .int .i64 (↑y.p.2 : Int))], heap := [((2 : Nat), .arr (3 : Nat) Kd.int y.z.was (0 : Nat)), ((1 : Nat), .obj (oM y.p.s)), ((0 : Nat), .ro Kd.four y.p.q.l)], nx := (12 : Nat), nt := (194 : Nat), tl := [(9 : Nat), (1 : Nat), (1 : Nat), (0 : Nat), (1 : Nat), (2 : Nat), (3 : Nat), (4 : Nat), (5 : Nat), (6 : Nat), (7 : Nat), (8 : Nat), (9 : Nat), (10 : Nat), (11 : Nat), (12 : Nat), (13 : Nat), (14 : Nat), (15 : Nat), (16 : Nat)] : St V }) (Out.stop EX.nx {env := [((2 : Nat), .sl false (0 : Nat) (0 : Nat) (4 : Nat) y.p.q.l.length y.p.q.2), ((7 : Nat), .tt), ((8 : Nat), .ptr (1 : Nat) (0 : Nat)), ((9 : Nat), .sl true (2 : Nat) (0 : Nat) (1 : Nat) (200 : Nat) (200 : Nat)), ((10 : Nat), .int .i64 (IntKind.i64.wrap ((↑y.p.2 : Int) + (1 : Int))))], heap := [((2 : Nat), .arr (3 : Nat) Kd.int y.z.was (0 : Nat)), ((1 : Nat), .obj (oM y.p.s)), ((0 : Nat), .ro Kd.four y.p.q.l)], nx := (12 : Nat), nt := (194 : Nat), tl := [(9 : Nat), (1 : Nat), (1 : Nat), (0 : Nat), (1 : Nat), (2 : Nat), (3 : Nat), (4 : Nat), (5 : Nat), (6 : Nat), (7 : Nat), (8 : Nat), (9 : Nat), (10 : Nat), (11 : Nat), (12 : Nat), (13 : Nat), (14 : Nat), (15 : Nat), (16 : Nat)] : St V }))))))))))))))) (Out.ite (bitsOp BinOp.and .i64 (q.l.getD ((0 : Nat) + x.1) (V.enc Kd.four).dflt).a (3 : Int) == (3 : Int)) (Out.all MO fun y => Out.asm (y = buryS x.x (q.l.getD ((0 : Nat) + x.1) (V.enc Kd.four).dflt).b) (Out.need (LoopFor Try.prog (5 : Nat) (3 : Nat) (loopOf Try.f5 (3 : Nat)) LA) (Out.ex (PA → Prop) fun y_1 => Out.need ((5 : Nat) ≤ (9 : Nat) ∧ SImp (9 : Nat) {env := [((2 : Nat), .sl false (0 : Nat) (0 : Nat) (4 : Nat) q.l.length q.2), ((7 : Nat), .tt), ((8 : Nat), .ptr (1 : Nat) (0 : Nat)), ((9 : Nat), .sl true (2 : Nat) (0 : Nat) (1 : Nat) (200 : Nat) (200 : Nat)), ((10 : Nat), .int .i64 (↑x.1 : Int)), ((12 : Nat), .lit .i64 (0 : Int)), ((13 : Nat), .lit .i64 (1 : Int))], heap := [((2 : Nat), .arr (3 : Nat) Kd.int x.was (0 : Nat)), ((1 : Nat), .obj (oM y)), ((0 : Nat), .ro Kd.four q.l)], nx := (5 : Nat), nt := (194 : Nat), tl := [(3 : Nat), (1 : Nat), (3 : Nat), (0 : Nat), (1 : Nat), (2 : Nat), (3 : Nat), (4 : Nat), (5 : Nat), (6 : Nat), (7 : Nat), (8 : Nat), (9 : Nat), (10 : Nat), (11 : Nat), (12 : Nat), (13 : Nat), (14 : Nat), (15 : Nat), (16 : Nat)] : St V } (fun p => IA p {n := (1 : Nat), al := (0 : Nat), was := p.w0 : XA }) y_1) (Out.all PA fun y => Out.asm (y_1 y) (Out.all XA fun y_2 => Out.asm ((fun p z => JA p z ∧ z.1 = (200 : Nat)) y y_2) (Out.ex (Int → Option Ent) fun y_3 => Out.need (MapOk y.s y_3) (Out.all (List Ent) fun y_4 => Out.all Nat fun y_5 => Out.asm (AllRow y_3 y_4 ∧ y_4.length ≤ (68719476736 : Nat)) (Out.need (LoopFor Try.prog (5 : Nat) (5 : Nat) (loopOf Try.f5 (5 : Nat)) LB) (Out.ex (PB → Prop) fun y_6 => Out.need ((10 : Nat) ≤ (12 : Nat) ∧ SImp (12 : Nat) {env := [((2 : Nat), .sl false (0 : Nat) (0 : Nat) (4 : Nat) y.q.l.length y.q.2), ((7 : Nat), .tt), ((8 : Nat), .ptr (1 : Nat) (0 : Nat)), ((9 : Nat), .sl true (2 : Nat) (0 : Nat) (1 : Nat) (200 : Nat) (200 : Nat)), ((10 : Nat), .int .i64 (↑y.2 : Int)), ((12 : Nat), .int .i64 (↑y_2.2 : Int)), ((15 : Nat), .sl false (9 : Nat) (0 : Nat) (4 : Nat) y_4.length (y_4.length + y_5)), ((16 : Nat), .lit .i64 (0 : Int)), ((17 : Nat), .lit .i64 (0 : Int))], heap := [((9 : Nat), .arr (28 : Nat) Kd.ent y_4 y_5), ((2 : Nat), .arr (3 : Nat) Kd.int y_2.was (0 : Nat)), ((1 : Nat), .obj (oM y.s)), ((0 : Nat), .ro Kd.four y.q.l)], nx := (10 : Nat), nt := (194 : Nat), tl := [(1 : Nat), (0 : Nat), (1 : Nat), (2 : Nat), (3 : Nat), (4 : Nat), (5 : Nat), (6 : Nat), (7 : Nat), (8 : Nat), (9 : Nat), (10 : Nat), (11 : Nat), (12 : Nat), (13 : Nat), (14 : Nat), (15 : Nat), (16 : Nat)] : St V } (fun p => IB p ((0 : Nat), (0 : Int))) y_6) (Out.all PB fun y => Out.asm (y_6 y) (Out.all Unit fun y_7 => Out.asm ((fun p x => True) y y_7) (Out.ite ((↑y.z.2 : Int) != (↑y.ys.length : Int)) (Out.stop EX.rt {env := [((2 : Nat), .sl false (0 : Nat) (0 : Nat) (4 : Nat) y.p.q.l.length y.p.q.2), ((7 : Nat), .tt), ((8 : Nat), .ptr (1 : Nat) (0 : Nat)), ((9 : Nat), .sl true (2 : Nat) (0 : Nat) (1 : Nat) (200 : Nat) (200 : Nat)), ((10 : Nat), .int .i64 (↑y.p.2 : Int))], heap := [((2 : Nat), .arr (3 : Nat) Kd.int y.z.was (0 : Nat)), ((1 : Nat), .obj (oM y.p.s)), ((0 : Nat), .ro Kd.four y.p.q.l)], nx := (12 : Nat), nt := (194 : Nat), tl := [(9 : Nat), (0 : Nat), (1 : Nat), (2 : Nat), (3 : Nat), (4 : Nat), (5 : Nat), (6 : Nat), (7 : Nat), (8 : Nat), (9 : Nat), (10 : Nat), (11 : Nat), (12 : Nat), (13 : Nat), (14 : Nat), (15 : Nat), (16 : Nat)] : St V }) (Out.ite ((↑y.ys.length : Int) != (↑y.p.s.keys.length : Int)) (Out.stop EX.rt {env := [((2 : Nat), .sl false (0 : Nat) (0 : Nat) (4 : Nat) y.p.q.l.length y.p.q.2), ((7 : Nat), .tt), ((8 : Nat), .ptr (1 : Nat) (0 : Nat)), ((9 : Nat), .sl true (2 : Nat) (0 : Nat) (1 : Nat) (200 : Nat) (200 : Nat)), ((10 : Nat), .int .i64 (↑y.p.2 : Int))], heap := [((2 : Nat), .arr (3 : Nat) Kd.int y.z.was (0 : Nat)), ((1 : Nat), .obj (oM y.p.s)), ((0 : Nat), .ro Kd.four y.p.q.l)], nx := (12 : Nat), nt := (194 : Nat), tl := [(9 : Nat), (1 : Nat), (0 : Nat), (1 : Nat), (2 : Nat), (3 : Nat), (4 : Nat), (5 : Nat), (6 : Nat), (7 : Nat), (8 : Nat), (9 : Nat), (10 : Nat), (11 : Nat), (12 : Nat), (13 : Nat), (14 : Nat), (15 : Nat), (16 : Nat)] : St V }) (Out.ite ((y.ys.length, IntKind.i64.wrap (wsum y.ys)).snd != y.p.s.weight) (Out.stop EX.rt {env := [((2 : Nat), .sl false (0 : Nat) (0 : Nat) (4 : Nat) y.p.q.l.length y.p.q.2), ((7 : Nat), .tt), ((8 : Nat), .ptr (1 : Nat) (0 : Nat)), ((9 : Nat), .sl true (2 : Nat) (0 : Nat) (1 : Nat) (200 : Nat) (200 : Nat)), ((10 : Nat), .int .i64 (↑y.p.2 : Int))], heap := [((2 : Nat), .arr (3 : Nat) Kd.int y.z.was (0 : Nat)), ((1 : Nat), .obj (oM y.p.s)), ((0 : Nat), .ro Kd.four y.p.q.l)], nx := (12 : Nat), nt := (194 : Nat), tl := [(9 : Nat), (1 : Nat), (1 : Nat), (0 : Nat), (1 : Nat), (2 : Nat), (3 : Nat), (4 : Nat), (5 : Nat), (6 : Nat), (7 : Nat), (8 : Nat), (9 : Nat), (10 : Nat), (11 : Nat), (12 : Nat), (13 : Nat), (14 : Nat), (15 : Nat), (16 : Nat)] : St V }) (Out.stop EX.nx {env := [((2 : Nat), .sl false (0 : Nat) (0 : Nat) (4 : Nat) y.p.q.l.length y.p.q.2), ((7 : Nat), .tt), ((8 : Nat), .ptr (1 : Nat) (0 : Nat)), ((9 : Nat), .sl true (2 : Nat) (0 : Nat) (1 : Nat) (200 : Nat) (200 : Nat)), ((10 : Nat), .int .i64 (IntKind.i64.wrap ((↑y.p.2 : Int) + (1 : Int))))], heap := [((2 : Nat), .arr (3 : Nat) Kd.int y.z.was (0 : Nat)), ((1 : Nat), .obj (oM y.p.s)), ((0 : Nat), .ro Kd.four y.p.q.l)], nx := (12 : Nat), nt := (194 : Nat), tl := [(9 : Nat), (1 : Nat), (1 : Nat), (0 : Nat), (1 : Nat), (2 : Nat), (3 : Nat), (4 : Nat), (5 : Nat), (6 : Nat), (7 : Nat), (8 : Nat), (9 : Nat), (10 : Nat), (11 : Nat), (12 : Nat), (13 : Nat), (14 : Nat), (15 : Nat), (16 : Nat)] : St V }))))))))))))))) (Out.need (LoopFor Try.prog (5 : Nat) (3 : Nat) (loopOf Try.f5 (3 : Nat)) LA) (Out.ex (PA → Prop) fun y => Out.need ((5 : Nat) ≤ (9 : Nat) ∧ SImp (9 : Nat) {env := [((2 : Nat), .sl false (0 : Nat) (0 : Nat) (4 : Nat) q.l.length q.2), ((7 : Nat), .tt), ((8 : Nat), .ptr (1 : Nat) (0 : Nat)), ((9 : Nat), .sl true (2 : Nat) (0 : Nat) (1 : Nat) (200 : Nat) (200 : Nat)), ((10 : Nat), .int .i64 (↑x.1 : Int)), ((12 : Nat), .lit .i64 (0 : Int)), ((13 : Nat), .lit .i64 (1 : Int))], heap := [((2 : Nat), .arr (3 : Nat) Kd.int x.was (0 : Nat)), ((1 : Nat), .obj (oM x.x)), ((0 : Nat), .ro Kd.four q.l)], nx := (5 : Nat), nt := (194 : Nat), tl := [(3 : Nat), (3 : Nat), (0 : Nat), (1 : Nat), (2 : Nat), (3 : Nat), (4 : Nat), (5 : Nat), (6 : Nat), (7 : Nat), (8 : Nat), (9 : Nat), (10 : Nat), (11 : Nat), (12 : Nat), (13 : Nat), (14 : Nat), (15 : Nat), (16 : Nat)] : St V } (fun p => IA p {n := (1 : Nat), al := (0 : Nat), was := p.w0 : XA }) y) (Out.all PA fun y_1 => Out.asm (y y_1) (Out.all XA fun y => Out.asm ((fun p z => JA p z ∧ z.1 = (200 : Nat)) y_1 y) (Out.ex (Int → Option Ent) fun y_2 => Out.need (MapOk y_1.s y_2) (Out.all (List Ent) fun y_3 => Out.all Nat fun y_4 => Out.asm (AllRow y_2 y_3 ∧ y_3.length ≤ (68719476736 : Nat)) (Out.need (LoopFor Try.prog (5 : Nat) (5 : Nat) (loopOf Try.f5 (5 : Nat)) LB) (Out.ex (PB → Prop) fun y_5 => Out.need ((10 : Nat) ≤ (12 : Nat) ∧ SImp (12 : Nat) {env := [((2 : Nat), .sl false (0 : Nat) (0 : Nat) (4 : Nat) y_1.q.l.length y_1.q.2), ((7 : Nat), .tt), ((8 : Nat), .ptr (1 : Nat) (0 : Nat)), ((9 : Nat), .sl true (2 : Nat) (0 : Nat) (1 : Nat) (200 : Nat) (200 : Nat)), ((10 : Nat), .int .i64 (↑y_1.2 : Int)), ((12 : Nat), .int .i64 (↑y.2 : Int)), ((15 : Nat), .sl false (9 : Nat) (0 : Nat) (4 : Nat) y_3.length (y_3.length + y_4)), ((16 : Nat), .lit .i64 (0 : Int)), ((17 : Nat), .lit .i64 (0 : Int))], heap := [((9 : Nat), .arr (28 : Nat) Kd.ent y_3 y_4), ((2 : Nat), .arr (3 : Nat) Kd.int y.was (0 : Nat)), ((1 : Nat), .obj (oM y_1.s)), ((0 : Nat), .ro Kd.four y_1.q.l)], nx := (10 : Nat), nt := (194 : Nat), tl := [(1 : Nat), (0 : Nat), (1 : Nat), (2 : Nat), (3 : Nat), (4 : Nat), (5 : Nat), (6 : Nat), (7 : Nat), (8 : Nat), (9 : Nat), (10 : Nat), (11 : Nat), (12 : Nat), (13 : Nat), (14 : Nat), (15 : Nat), (16 : Nat)] : St V } (fun p => IB p ((0 : Nat), (0 : Int))) y_5) (Out.all PB fun y => Out.asm (y_5 y) (Out.all Unit fun y_6 => Out.asm ((fun p x => True) y y_6) (Out.ite ((↑y.z.2 : Int) != (↑y.ys.length : Int)) (Out.stop EX.rt {env := [((2 : Nat), .sl false (0 : Nat) (0 : Nat) (4 : Nat) y.p.q.l.length y.p.q.2), ((7 : Nat), .tt), ((8 : Nat), .ptr (1 : Nat) (0 : Nat)), ((9 : Nat), .sl true (2 : Nat) (0 : Nat) (1 : Nat) (200 : Nat) (200 : Nat)), ((10 : Nat), .int .i64 (↑y.p.2 : Int))], heap := [((2 : Nat), .arr (3 : Nat) Kd.int y.z.was (0 : Nat)), ((1 : Nat), .obj (oM y.p.s)), ((0 : Nat), .ro Kd.four y.p.q.l)], nx := (12 : Nat), nt := (194 : Nat), tl := [(9 : Nat), (0 : Nat), (1 : Nat), (2 : Nat), (3 : Nat), (4 : Nat), (5 : Nat), (6 : Nat), (7 : Nat), (8 : Nat), (9 : Nat), (10 : Nat), (11 : Nat), (12 : Nat), (13 : Nat), (14 : Nat), (15 : Nat), (16 : Nat)] : St V }) (Out.ite ((↑y.ys.length : Int) != (↑y.p.s.keys.length : Int)) (Out.stop EX.rt {env := [((2 : Nat), .sl false (0 : Nat) (0 : Nat) (4 : Nat) y.p.q.l.length y.p.q.2), ((7 : Nat), .tt), ((8 : Nat), .ptr (1 : Nat) (0 : Nat)), ((9 : Nat), .sl true (2 : Nat) (0 : Nat) (1 : Nat) (200 : Nat) (200 : Nat)), ((10 : Nat), .int .i64 (↑y.p.2 : Int))], heap := [((2 : Nat), .arr (3 : Nat) Kd.int y.z.was (0 : Nat)), ((1 : Nat), .obj (oM y.p.s)), ((0 : Nat), .ro Kd.four y.p.q.l)], nx := (12 : Nat), nt := (194 : Nat), tl := [(9 : Nat), (1 : Nat), (0 : Nat), (1 : Nat), (2 : Nat), (3 : Nat), (4 : Nat), (5 : Nat), (6 : Nat), (7 : Nat), (8 : Nat), (9 : Nat), (10 : Nat), (11 : Nat), (12 : Nat), (13 : Nat), (14 : Nat), (15 : Nat), (16 : Nat)] : St V }) (Out.ite ((y.ys.length, IntKind.i64.wrap (wsum y.ys)).snd != y.p.s.weight) (Out.stop EX.rt {env := [((2 : Nat), .sl false (0 : Nat) (0 : Nat) (4 : Nat) y.p.q.l.length y.p.q.2), ((7 : Nat), .tt), ((8 : Nat), .ptr (1 : Nat) (0 : Nat)), ((9 : Nat), .sl true (2 : Nat) (0 : Nat) (1 : Nat) (200 : Nat) (200 : Nat)), ((10 : Nat), .int .i64 (↑y.p.2 : Int))], heap := [((2 : Nat), .arr (3 : Nat) Kd.int y.z.was (0 : Nat)), ((1 : Nat), .obj (oM y.p.s)), ((0 : Nat), .ro Kd.four y.p.q.l)], nx := (12 : Nat), nt := (194 : Nat), tl := [(9 : Nat), (1 : Nat), (1 : Nat), (0 : Nat), (1 : Nat), (2 : Nat), (3 : Nat), (4 : Nat), (5 : Nat), (6 : Nat), (7 : Nat), (8 : Nat), (9 : Nat), (10 : Nat), (11 : Nat), (12 : Nat), (13 : Nat), (14 : Nat), (15 : Nat), (16 : Nat)] : St V }) (Out.stop EX.nx {env := [((2 : Nat), .sl false (0 : Nat) (0 : Nat) (4 : Nat) y.p.q.l.length y.p.q.2), ((7 : Nat), .tt), ((8 : Nat), .ptr (1 : Nat) (0 : Nat)), ((9 : Nat), .sl true (2 : Nat) (0 : Nat) (1 : Nat) (200 : Nat) (200 : Nat)), ((10 : Nat), .int .i64 (IntKind.i64.wrap ((↑y.p.2 : Int) + (1 : Int))))], heap := [((2 : Nat), .arr (3 : Nat) Kd.int y.z.was (0 : Nat)), ((1 : Nat), .obj (oM y.p.s)), ((0 : Nat), .ro Kd.four y.p.q.l)], nx := (12 : Nat), nt := (194 : Nat), tl := [(9 : Nat), (1 : Nat), (1 : Nat), (0 : Nat), (1 : Nat), (2 : Nat), (3 : Nat), (4 : Nat), (5 : Nat), (6 : Nat), (7 : Nat), (8 : Nat), (9 : Nat), (10 : Nat), (11 : Nat), (12 : Nat), (13 : Nat), (14 : Nat), (15 : Nat), (16 : Nat)] : St V })))))))))))))))))))) (Out.stop (EX.ex (0 : Nat)) {env := [((2 : Nat), .sl false (0 : Nat) (0 : Nat) (4 : Nat) q.l.length q.2), ((7 : Nat), .tt), ((8 : Nat), .ptr (1 : Nat) (0 : Nat)), ((9 : Nat), .sl true (2 : Nat) (0 : Nat) (1 : Nat) (200 : Nat) (200 : Nat)), ((10 : Nat), .int .i64 (↑x.1 : Int))], heap := [((2 : Nat), .arr (3 : Nat) Kd.int x.was (0 : Nat)), ((1 : Nat), .obj (oM x.x)), ((0 : Nat), .ro Kd.four q.l)], nx := (3 : Nat), nt := (194 : Nat), tl := [(0 : Nat), (1 : Nat), (2 : Nat), (3 : Nat), (4 : Nat), (5 : Nat), (6 : Nat), (7 : Nat), (8 : Nat), (9 : Nat), (10 : Nat), (11 : Nat), (12 : Nat), (13 : Nat), (14 : Nat), (15 : Nat), (16 : Nat)] : St V }) := by kernel_rfl

theorem t50 (n s : Int) (l : List Four) (c : Nat) : runL cfgX5b 60 5 Try.f5 [.int .i64 n, .int .i64 s, .sl false 0 0 4 l.length c] [(0, .ro Kd.four l)] 1 = Out.all MO fun y => Out.asm (y = newS s y.tabs y.pool ∧ (MapOk y fun x => none) ∧ y.tabs.length = cntN n) (Out.ite (decide ((↑l.length : Int) > (150 : Int))) (Out.fin .tt [] (0 : Nat)) (Out.need ((0 : Int) ≤ (200 : Int) ∧ (200 : Int) ≤ (200 : Int) ∧ (1600 : Int) ≤ (281474976710656 : Int)) (Out.need (LoopFor Try.prog (5 : Nat) (0 : Nat) (loopOf Try.f5 (0 : Nat)) LL0) (Out.ex (P0s → Prop) fun y_1 => Out.need ((3 : Nat) ≤ (3 : Nat) ∧ SImp (3 : Nat) {env := [((2 : Nat), .sl false (0 : Nat) (0 : Nat) (4 : Nat) l.length c), ((7 : Nat), .tt), ((8 : Nat), .ptr (1 : Nat) (0 : Nat)), ((9 : Nat), .sl true (2 : Nat) (0 : Nat) (1 : Nat) (200 : Nat) (200 : Nat)), ((10 : Nat), .lit .i64 (0 : Int))], heap := [((2 : Nat), .arr (3 : Nat) Kd.int (List.replicate (200 : Nat) (V.enc Kd.int).dflt) (0 : Nat)), ((1 : Nat), .obj (oM y)), ((0 : Nat), .ro Kd.four l)], nx := (3 : Nat), nt := (194 : Nat), tl := [] : St V } (fun p => LI0 p.q {i := (0 : Nat), x := p.x0, was := p.w0 : X0 }) y_1) (Out.all P0s fun y => Out.asm (y_1 y) (Out.all (MO × List Int) fun y_2 => Out.asm ((fun p z => J0 p.q {i := p.q.l.length, x := z.fst, was := z.snd : X0 }) y y_2) (Out.fin .tt [] (0 : Nat)))))))) := by kernel_rfl

end Sx
end Go.Proofs.Ytohckjjbephohaa

/-
  States go on alone, each key has one node that is alive at most, weights are those of all entries: the law.
-/
namespace Go.Proofs.Ytohckjjbephohaa
namespace Sx
open Go
set_option linter.unusedSimpArgs false
set_option linter.unusedVariables false
set_option maxHeartbeats 1000000

theorem aliveN_le (s : MO) (n : Nat) : aliveN s n ≤ n := by
  unfold aliveN
  have := List.length_filter_le (fun (j : Nat) => decide (1 ≤ j ∧ stateOf s (j : Int) = 1)) (List.range n)
  rwa [List.length_range] at this
theorem abody (p : PA) (z : XA) (h : JA p z) (Q : EX → St V → Prop) (F : AV → Heap V → Nat → Prop)
    (hnx : ∀ (ST : St V) (al : Nat), z.n < 200 → al = z.al + (if stateOf p.s (z.n : Int) = 1 then 1 else 0) → Wk 9 [] ST (IA p ⟨z.n + 1, al, z.was.set z.n (stateOf p.s (z.n : Int))⟩) → Q .nx ST)
    (hex : ∀ ST : St V, z.n = 200 → Wk 9 [] ST (IA p z) → Q (.ex 3) ST) :
    (runCode cfgX 60 5 (loopOf Try.f5 3) (IA p z) (stopT (trimSt [2, 7, 8, 9, 10, 12, 13] [0, 1, 2]))).holds ⟨Q, F⟩ := by
  rw [tba]
  obtain ⟨h1, h2, h3, h4, h5, h6⟩ := h
  have hal := aliveN_le p.s z.n
  have hgo : z.n < 200 → Goes (z.was.getD (0 + z.n) 0) (stateOf p.s (z.n : Int)) := fun hl => by rw [Nat.zero_add, h4 z.n (Nat.le_refl _)]; exact p.hg z.n h1 hl
  rw [show (V.enc Kd.int).dflt = (0 : Int) from rfl, show 0 + z.n = z.n from Nat.zero_add _]
  rw [show 0 + z.n = z.n from Nat.zero_add _] at hgo
  generalize z.was.getD z.n 0 = w at hgo ⊢
  generalize stateOf p.s (z.n : Int) = st at hgo hnx ⊢
  simp only [Out.holds, decide_eq_true_eq, decide_eq_false_iff_not, beq_iff_eq, beq_eq_false_iff_ne, bne_iff_ne, ne_eq, bne_eq_false_iff_eq, Bool.true_and, Bool.and_true, Bool.not_eq_true', Bool.not_eq_false', Bool.and_eq_true, Bool.or_eq_true, Bool.and_eq_false_imp, true_implies, true_and, Bool.not_true, Bool.not_false, Bool.false_eq_true, Bool.true_eq_false, false_implies, and_true, beq_self_eq_true, Decidable.not_not, not_true_eq_false, not_false_eq_true]
  refine ⟨fun hlt => ?_, fun hge => hex _ (by omega) (by (refine ⟨?_, ?_, rfl, tl_ok rfl, ?_, ⟨Nat.le_of_ble_eq_true rfl, rfl⟩⟩ <;> (repeat' first | with_reducible exact trivial | exact AV.sub_same _ | exact .same _ | exact .inr rfl | exact .inl (in_ok rfl) | exact AV.sub_lit' | exact AV.sub_nilS | exact .none _ _ | exact trivial | refine ⟨?_, ?_⟩)))⟩
  have hlt' : z.n < 200 := by omega
  have hgo := hgo hlt'
  unfold Goes at hgo
  have hw : IntKind.wrap .i64 ((z.n : Int) + 1) = ((z.n + 1 : Nat) : Int) := wrap_nat (by omega)
  have hwa : IntKind.wrap .i64 ((z.al : Int) + 1) = ((z.al + 1 : Nat) : Int) := wrap_nat (by omega)
  repeat' first | apply And.intro | intro _
  all_goals first
    | omega
    | (have h1 : st = 1 := ‹st = 1›
       refine hnx _ (z.al + 1) hlt' (by rw [if_pos h1]) ?_
       (refine ⟨?_, ?_, rfl, tl_ok rfl, ?_, ⟨Nat.le_of_ble_eq_true rfl, rfl⟩⟩ <;> (repeat' first | with_reducible exact trivial | (exact AV.sub_int hw) | (exact AV.sub_int hwa) | exact AV.sub_same _ | exact .same _ | exact .inr rfl | exact .inl (in_ok rfl) | exact AV.sub_lit' | exact AV.sub_nilS | exact .none _ _ | exact trivial | refine ⟨?_, ?_⟩)))
    | (refine hnx _ z.al hlt' (by rw [if_neg ‹¬ st = 1›]; rfl) ?_
       (refine ⟨?_, ?_, rfl, tl_ok rfl, ?_, ⟨Nat.le_of_ble_eq_true rfl, rfl⟩⟩ <;> (repeat' first | with_reducible exact trivial | (exact AV.sub_int hw) | exact AV.sub_same _ | exact .same _ | exact .inr rfl | exact .inl (in_ok rfl) | exact AV.sub_lit' | exact AV.sub_nilS | exact .none _ _ | exact trivial | refine ⟨?_, ?_⟩)))
theorem la_ok : LoopOk Try.prog 3 (loopOf Try.f5 3) LA := by
  refine trimLoop_ok (trim_ok _ _) (loopTH_ok (C := cfgX) cfgX_ok (f := 5) (n := 60) (trim_ok [2, 7, 8, 9, 10, 12, 13] [0, 1, 2]) 9 IA JA (fun p => ⟨1, 0, p.w0⟩) (fun p z => 200 - z.n) (fun p (z : XA) => JA p z ∧ z.n = 200) (fun p z => IA p z) (fun p => ⟨Nat.le_refl _, (by decide : 1 ≤ 200), p.hw, fun j _ => rfl, fun j a b => (by have b : j < 1 := b; omega), rfl⟩) ?_)
  intro p z h
  refine abody p z h _ _ (fun ST al hlt ha hw => SImp.of_wk ⟨z.n + 1, al, z.was.set z.n (stateOf p.s (z.n : Int))⟩ hw ⟨⟨?_, ?_, ?_, ?_, ?_, ?_⟩, ?_⟩) (fun ST he hw => ⟨rfl, SImp.of_wk z hw ⟨h, he⟩⟩)
  · show 1 ≤ z.n + 1; omega
  · show z.n + 1 ≤ 200; omega
  · show (z.was.set _ _).length = 200; rw [List.length_set]; exact h.wl
  · intro j hj
    have hj : z.n + 1 ≤ j := hj
    show (z.was.set _ _).getD j 0 = _
    rw [← h.old j (by omega)]
    simp only [List.getD_eq_getElem?_getD, List.getElem?_set]
    rw [if_neg (by omega)]
  · intro j a b
    have b : j < z.n + 1 := b
    show (z.was.set _ _).getD j 0 = _
    have hwl := h.wl
    by_cases hj : j = z.n
    · subst hj
      simp only [List.getD_eq_getElem?_getD, List.getElem?_set]
      simp [hwl, hlt]
    · rw [← h.new j a (by omega)]
      simp only [List.getD_eq_getElem?_getD, List.getElem?_set]
      rw [if_neg (by omega)]
  · show al = aliveN p.s (z.n + 1)
    rw [alive_succ _ _ h.n1, ha, h.al]
  · show 200 - (z.n + 1) < 200 - z.n; omega

theorem bbody (p : PB) (z : Nat × Int) (h : JB p z) (Q : EX → St V → Prop) (F : AV → Heap V → Nat → Prop)
    (hnx : ∀ (ST : St V), z.1 < p.ys.length → Wk 12 [] ST (IB p (z.1 + 1, IntKind.wrap .i64 (wsum (p.ys.take (z.1 + 1))))) → Q .nx ST)
    (hex : ∀ ST : St V, z.1 = p.ys.length → Wk 12 [] ST (IB p z) → Q (.ex 5) ST) :
    (runCode cfgX 60 5 (loopOf Try.f5 5) (IB p z) (stopT (trimSt [2, 7, 8, 9, 10, 12, 15, 16, 17] [0, 1, 2, 9]))).holds ⟨Q, F⟩ := by
  rw [tbb]
  obtain ⟨h1, h2⟩ := h
  have hl := p.hl
  simp only [Out.holds, decide_eq_true_eq, decide_eq_false_iff_not, beq_iff_eq, beq_eq_false_iff_ne, bne_iff_ne, ne_eq, bne_eq_false_iff_eq, Bool.true_and, Bool.and_true, Bool.not_eq_true', Bool.not_eq_false', Bool.and_eq_true, Bool.or_eq_true, Bool.and_eq_false_imp, true_implies, true_and, Bool.not_true, Bool.not_false, Bool.false_eq_true, Bool.true_eq_false, false_implies, and_true, beq_self_eq_true, Decidable.not_not, not_true_eq_false, not_false_eq_true]
  refine ⟨fun hlt => ?_, fun hge => hex _ (by omega) (by (refine ⟨?_, ?_, rfl, tl_ok rfl, ?_, ⟨Nat.le_of_ble_eq_true rfl, rfl⟩⟩ <;> (repeat' first | with_reducible exact trivial | exact AV.sub_same _ | exact .same _ | exact .inr rfl | exact .inl (in_ok rfl) | exact AV.sub_lit' | exact AV.sub_nilS | exact .none _ _ | exact trivial | refine ⟨?_, ?_⟩)))⟩
  have hlt' : z.1 < p.ys.length := by omega
  have hw : IntKind.wrap .i64 ((z.1 : Int) + 1) = ((z.1 + 1 : Nat) : Int) := wrap_nat (by omega)
  have hm : (p.ys.getD (0 + z.1) (V.enc Kd.ent).dflt) ∈ p.ys := by
    rw [Nat.zero_add, List.getD_eq_getElem?_getD, List.getElem?_eq_getElem hlt']; exact List.getElem_mem hlt'
  have hst := p.al _ hm
  have hsum : IntKind.wrap .i64 (z.2 + (p.ys.getD (0 + z.1) (V.enc Kd.ent).dflt).weight) = IntKind.wrap .i64 (wsum (p.ys.take (z.1 + 1))) := by
    rw [wsum_take hlt', h2, wrap_sumR, Nat.zero_add]; rfl
  have hlow : 0 < z.1 → IntKind.wrap .i64 ((z.1 : Int) - 1) = ((z.1 - 1 : Nat) : Int) := fun h0 => by rw [wrap_low (by omega) (by omega)]; omega
  have hasc : 0 < z.1 → (p.ys.getD (0 + (IntKind.wrap .i64 ((z.1 : Int) - 1)).toNat) (V.enc Kd.ent).dflt).key < (p.ys.getD (0 + z.1) (V.enc Kd.ent).dflt).key := fun h0 => by
    rw [hlow h0, Nat.zero_add, Nat.zero_add, Int.toNat_natCast, List.getD_eq_getElem?_getD, List.getD_eq_getElem?_getD, List.getElem?_eq_getElem hlt', List.getElem?_eq_getElem (show z.1 - 1 < p.ys.length by omega)]
    exact List.pairwise_iff_getElem.1 p.asc (z.1 - 1) z.1 (by omega) hlt' (by omega)
  have fin : ∀ ST, Wk 12 [] ST (IB p (z.1 + 1, IntKind.wrap .i64 (wsum (p.ys.take (z.1 + 1))))) → Q .nx ST := fun ST hw => hnx ST hlt' hw
  refine ⟨⟨by omega, by omega⟩, by omega, ⟨by omega, by omega⟩, by omega, fun hh => absurd hst hh, fun _ => ⟨fun h0 => ?_, fun h0 => ?_⟩⟩
  · have h0' : 0 < z.1 := by omega
    have a1 := hlow h0'
    have a2 := hasc h0'
    refine ⟨⟨by omega, by omega⟩, by omega, ⟨by omega, by omega⟩, by omega, fun hh => absurd a2 (Int.not_lt.2 hh), fun _ => ?_⟩
    exact fin _ (by (refine ⟨?_, ?_, rfl, tl_ok rfl, ?_, ⟨Nat.le_of_ble_eq_true rfl, rfl⟩⟩ <;> (repeat' first | with_reducible exact trivial | (exact AV.sub_int hw) | (exact AV.sub_int hsum) | exact AV.sub_same _ | exact .same _ | exact .inr rfl | exact .inl (in_ok rfl) | exact AV.sub_lit' | exact AV.sub_nilS | exact .none _ _ | exact trivial | refine ⟨?_, ?_⟩)))
  · exact fin _ (by (refine ⟨?_, ?_, rfl, tl_ok rfl, ?_, ⟨Nat.le_of_ble_eq_true rfl, rfl⟩⟩ <;> (repeat' first | with_reducible exact trivial | (exact AV.sub_int hw) | (exact AV.sub_int hsum) | exact AV.sub_same _ | exact .same _ | exact .inr rfl | exact .inl (in_ok rfl) | exact AV.sub_lit' | exact AV.sub_nilS | exact .none _ _ | exact trivial | refine ⟨?_, ?_⟩)))
theorem lb_ok : LoopOk Try.prog 5 (loopOf Try.f5 5) LB := by
  refine trimLoop_ok (trim_ok _ _) (loopTH_ok (C := cfgX) cfgX_ok (f := 5) (n := 60) (trim_ok [2, 7, 8, 9, 10, 12, 15, 16, 17] [0, 1, 2, 9]) 12 IB JB (fun p => (0, 0)) (fun p z => p.ys.length - z.1) (fun p (_ : Unit) => True) (fun p _ => IB p (p.ys.length, IntKind.wrap .i64 (wsum p.ys))) (fun p => ⟨Nat.zero_le _, rfl⟩) ?_)
  intro p z h
  refine bbody p z h _ _ (fun ST hlt hw => SImp.of_wk (z.1 + 1, IntKind.wrap .i64 (wsum (p.ys.take (z.1 + 1)))) hw ⟨⟨hlt, rfl⟩, ?_⟩) (fun ST he hw => ⟨rfl, SImp.of_wk (ren := []) () ?_ trivial⟩)
  · show p.ys.length - (z.1 + 1) < p.ys.length - z.1; omega
  · obtain ⟨k, s⟩ := z
    obtain ⟨a, b⟩ := h
    simp only at he b
    subst he
    rw [List.take_length] at b
    subst b
    exact hw

theorem cfgX5a_ok : cfgX5a.ok := ⟨tab_met, kinds_met, mixed_met, fun g fn h => (by cases h), hooksX_ok⟩
theorem cfgX5b_ok : cfgX5b.ok := ⟨tab_met, kinds_met, mixed_met, fun g fn h => (by cases h), hooksX_ok⟩
theorem body50 (q : P0) (x : X0) (h : J0 q x) (Q : EX → St V → Prop) (F : AV → Heap V → Nat → Prop)
    (hnx : ∀ (ST : St V) (y : X0), x.i < q.l.length → J0 q y → y.i = x.i + 1 → Wk 3 [] ST (LI0 q y) → Q .nx ST) (hex : ∀ ST : St V, x.i = q.l.length → Wk 3 [] ST (LI0 q x) → Q (.ex 0) ST) :
    (runCode cfgX5a 60 5 (loopOf Try.f5 0) (LI0 q x) (stopT (trimSt [2, 7, 8, 9, 10] [0, 1, 2]))).holds ⟨Q, F⟩ := by
  rw [tb50]
  obtain ⟨hle, ⟨f, xs, hx⟩, hgi, hwl, hww⟩ := h
  have hl := q.hl
  generalize q.l.getD (0 + x.i) (V.enc Kd.four).dflt = r
  simp only [Out.holds, decide_eq_true_eq, decide_eq_false_iff_not, beq_iff_eq, beq_eq_false_iff_ne, bne_iff_ne, ne_eq, bne_eq_false_iff_eq, Bool.true_and, Bool.and_true, Bool.not_eq_true', Bool.not_eq_false', Bool.and_eq_true, Bool.or_eq_true, Bool.and_eq_false_imp, true_implies, true_and, Bool.not_true, Bool.not_false, Bool.false_eq_true, Bool.true_eq_false, false_implies, and_true, beq_self_eq_true, Decidable.not_not, not_true_eq_false, not_false_eq_true]
  refine ⟨fun hlt => ?_, fun hge => hex _ (by omega) (by (refine ⟨?_, ?_, rfl, tl_ok rfl, ?_, ⟨Nat.le_of_ble_eq_true rfl, rfl⟩⟩ <;> (repeat' first | with_reducible exact trivial | exact AV.sub_same _ | exact .same _ | exact .inr rfl | exact .inl (in_ok rfl) | exact AV.sub_lit' | exact AV.sub_nilS | exact .none _ _ | exact trivial | refine ⟨?_, ?_⟩)))⟩
  have hlt' : x.i < q.l.length := by omega
  have hw : IntKind.wrap .i64 ((x.i : Int) + 1) = ((x.i + 1 : Nat) : Int) := wrap_nat (by omega)
  refine ⟨⟨by omega, by omega⟩, by omega, fun hb => ⟨f, ⟨hx.m, by omega⟩, fun s1 hs1 => ?_⟩, fun hb => ⟨fun hb2 => ⟨f, hx.m, fun s1 hs1 => ?_⟩, fun hb2 => ⟨fun hb3 => ⟨fun hk1 => ⟨f, hx.m, fun s1 hs1 => ?_⟩, fun hk1 => ?_⟩, fun hb3 => ⟨fun hb4 => fun s1 hs1 => ?_, fun hb4 => ?_⟩⟩⟩⟩
  · obtain ⟨xs1, hk, a2, a3⟩ := hx.put (by omega) hs1.1 hs1.2
    have hgo := put_goes hx a2 (by rw [a3]; split <;> simp)
    have hgv : s1.given ≤ x.i + 1 := by rw [a3]; split <;> omega
    have hPA : ∀ j : Nat, 1 ≤ j → j < 200 → Goes (x.was.getD j 0) (stateOf s1 (j : Int)) := fun j a b => by rw [hww j a b]; exact hgo _
    refine ⟨la_ok, fun p => p = ⟨q, x.i, s1, x.was, hwl, hPA⟩, ⟨by decide, SImp.of_wk (ren := []) ⟨q, x.i, s1, x.was, hwl, hPA⟩ (by (refine ⟨?_, ?_, rfl, tl_ok rfl, ?_, ⟨Nat.le_of_ble_eq_true rfl, rfl⟩⟩ <;> (repeat' first | with_reducible exact trivial | exact AV.sub_same _ | exact .same _ | exact .inr rfl | exact .inl (in_ok rfl) | exact AV.sub_lit' | exact AV.sub_nilS | exact .none _ _ | exact trivial | refine ⟨?_, ?_⟩))) rfl⟩, ?_⟩
    rintro _ rfl z ⟨hz, hz2⟩
    refine ⟨_, hk.m, fun ys sp hys => ?_⟩
    have hal : ∀ e ∈ ys, stateOf s1 e.node = 1 := fun e he => (hk.alive _).2 ⟨e, (hk.h.mem e).2 ((hys.1.mem e).1 he), rfl⟩
    have hyl : ys.length ≤ 1099511627776 := by have := hys.2; omega
    refine ⟨lb_ok, fun p => p = ⟨⟨q, x.i, s1, x.was, hwl, hPA⟩, z, ys, sp, hyl, hys.1.asc, hal⟩, ⟨by decide, SImp.of_wk (ren := []) ⟨⟨q, x.i, s1, x.was, hwl, hPA⟩, z, ys, sp, hyl, hys.1.asc, hal⟩ (by (refine ⟨?_, ?_, rfl, tl_ok rfl, ?_, ⟨Nat.le_of_ble_eq_true rfl, rfl⟩⟩ <;> (repeat' first | with_reducible exact trivial | exact AV.sub_same _ | exact .same _ | exact .inr rfl | exact .inl (in_ok rfl) | exact AV.sub_lit' | exact AV.sub_nilS | exact .none _ _ | exact trivial | refine ⟨?_, ?_⟩))) rfl⟩, ?_⟩
    rintro _ rfl _
    have hperm : ys.Perm xs1 := hys.1.holds.uniq hk.h
    have c1 : (z.al : Int) = (ys.length : Int) := by
      have a1 := hz.al
      rw [hz2] at a1
      have a2 := hk.count (by omega)
      have a3 := hperm.length_eq
      have a1 : z.al = aliveN s1 200 := a1
      omega
    have c2 : (ys.length : Int) = (MO.keys s1).length := by
      have a3 := hperm.length_eq
      have a4 := hk.keys.length_eq
      simp only [List.length_map] at a4
      omega
    have c3 : IntKind.wrap .i64 (wsum ys) = MO.weight s1 := by rw [hk.wt, wsum_perm hperm]
    have hJ : J0 q ⟨x.i + 1, s1, z.was⟩ := ⟨hlt', ⟨_, _, hk⟩, by show MO.given s1 ≤ ((x.i + 1 : Nat) : Int); omega, hz.wl, fun j a b => hz.new j a (by rw [hz2]; exact b)⟩
    refine ⟨fun hh => absurd c1 hh, fun _ => ⟨fun hh => absurd c2 hh, fun _ => ⟨fun hh => absurd c3 hh, fun _ => ?_⟩⟩⟩
    exact hnx _ ⟨x.i + 1, s1, z.was⟩ hlt' hJ rfl (by (refine ⟨?_, ?_, rfl, tl_ok rfl, ?_, ⟨Nat.le_of_ble_eq_true rfl, rfl⟩⟩ <;> (repeat' first | with_reducible exact trivial | (exact AV.sub_int hw) | exact AV.sub_same _ | exact .same _ | exact .inr rfl | exact .inl (in_ok rfl) | exact AV.sub_lit' | exact AV.sub_nilS | exact .none _ _ | exact trivial | refine ⟨?_, ?_⟩)))
  · obtain ⟨xs1, hk, a3⟩ := hx.rem hs1.1 hs1.2
    have hgo := rem_goes hx hs1.1
    have hgv : s1.given ≤ x.i + 1 := by omega
    have hPA : ∀ j : Nat, 1 ≤ j → j < 200 → Goes (x.was.getD j 0) (stateOf s1 (j : Int)) := fun j a b => by rw [hww j a b]; exact hgo _
    refine ⟨la_ok, fun p => p = ⟨q, x.i, s1, x.was, hwl, hPA⟩, ⟨by decide, SImp.of_wk (ren := []) ⟨q, x.i, s1, x.was, hwl, hPA⟩ (by (refine ⟨?_, ?_, rfl, tl_ok rfl, ?_, ⟨Nat.le_of_ble_eq_true rfl, rfl⟩⟩ <;> (repeat' first | with_reducible exact trivial | exact AV.sub_same _ | exact .same _ | exact .inr rfl | exact .inl (in_ok rfl) | exact AV.sub_lit' | exact AV.sub_nilS | exact .none _ _ | exact trivial | refine ⟨?_, ?_⟩))) rfl⟩, ?_⟩
    rintro _ rfl z ⟨hz, hz2⟩
    refine ⟨_, hk.m, fun ys sp hys => ?_⟩
    have hal : ∀ e ∈ ys, stateOf s1 e.node = 1 := fun e he => (hk.alive _).2 ⟨e, (hk.h.mem e).2 ((hys.1.mem e).1 he), rfl⟩
    have hyl : ys.length ≤ 1099511627776 := by have := hys.2; omega
    refine ⟨lb_ok, fun p => p = ⟨⟨q, x.i, s1, x.was, hwl, hPA⟩, z, ys, sp, hyl, hys.1.asc, hal⟩, ⟨by decide, SImp.of_wk (ren := []) ⟨⟨q, x.i, s1, x.was, hwl, hPA⟩, z, ys, sp, hyl, hys.1.asc, hal⟩ (by (refine ⟨?_, ?_, rfl, tl_ok rfl, ?_, ⟨Nat.le_of_ble_eq_true rfl, rfl⟩⟩ <;> (repeat' first | with_reducible exact trivial | exact AV.sub_same _ | exact .same _ | exact .inr rfl | exact .inl (in_ok rfl) | exact AV.sub_lit' | exact AV.sub_nilS | exact .none _ _ | exact trivial | refine ⟨?_, ?_⟩))) rfl⟩, ?_⟩
    rintro _ rfl _
    have hperm : ys.Perm xs1 := hys.1.holds.uniq hk.h
    have c1 : (z.al : Int) = (ys.length : Int) := by
      have a1 := hz.al
      rw [hz2] at a1
      have a2 := hk.count (by omega)
      have a3 := hperm.length_eq
      have a1 : z.al = aliveN s1 200 := a1
      omega
    have c2 : (ys.length : Int) = (MO.keys s1).length := by
      have a3 := hperm.length_eq
      have a4 := hk.keys.length_eq
      simp only [List.length_map] at a4
      omega
    have c3 : IntKind.wrap .i64 (wsum ys) = MO.weight s1 := by rw [hk.wt, wsum_perm hperm]
    have hJ : J0 q ⟨x.i + 1, s1, z.was⟩ := ⟨hlt', ⟨_, _, hk⟩, by show MO.given s1 ≤ ((x.i + 1 : Nat) : Int); omega, hz.wl, fun j a b => hz.new j a (by rw [hz2]; exact b)⟩
    refine ⟨fun hh => absurd c1 hh, fun _ => ⟨fun hh => absurd c2 hh, fun _ => ⟨fun hh => absurd c3 hh, fun _ => ?_⟩⟩⟩
    exact hnx _ ⟨x.i + 1, s1, z.was⟩ hlt' hJ rfl (by (refine ⟨?_, ?_, rfl, tl_ok rfl, ?_, ⟨Nat.le_of_ble_eq_true rfl, rfl⟩⟩ <;> (repeat' first | with_reducible exact trivial | (exact AV.sub_int hw) | exact AV.sub_same _ | exact .same _ | exact .inr rfl | exact .inl (in_ok rfl) | exact AV.sub_lit' | exact AV.sub_nilS | exact .none _ _ | exact trivial | refine ⟨?_, ?_⟩)))
  · obtain ⟨xs1, hk, a3⟩ := hx.rem hs1.1 hs1.2
    have hgo := rem_goes hx hs1.1
    have hgv : s1.given ≤ x.i + 1 := by omega
    have hPA : ∀ j : Nat, 1 ≤ j → j < 200 → Goes (x.was.getD j 0) (stateOf s1 (j : Int)) := fun j a b => by rw [hww j a b]; exact hgo _
    refine ⟨la_ok, fun p => p = ⟨q, x.i, s1, x.was, hwl, hPA⟩, ⟨by decide, SImp.of_wk (ren := []) ⟨q, x.i, s1, x.was, hwl, hPA⟩ (by (refine ⟨?_, ?_, rfl, tl_ok rfl, ?_, ⟨Nat.le_of_ble_eq_true rfl, rfl⟩⟩ <;> (repeat' first | with_reducible exact trivial | exact AV.sub_same _ | exact .same _ | exact .inr rfl | exact .inl (in_ok rfl) | exact AV.sub_lit' | exact AV.sub_nilS | exact .none _ _ | exact trivial | refine ⟨?_, ?_⟩))) rfl⟩, ?_⟩
    rintro _ rfl z ⟨hz, hz2⟩
    refine ⟨_, hk.m, fun ys sp hys => ?_⟩
    have hal : ∀ e ∈ ys, stateOf s1 e.node = 1 := fun e he => (hk.alive _).2 ⟨e, (hk.h.mem e).2 ((hys.1.mem e).1 he), rfl⟩
    have hyl : ys.length ≤ 1099511627776 := by have := hys.2; omega
    refine ⟨lb_ok, fun p => p = ⟨⟨q, x.i, s1, x.was, hwl, hPA⟩, z, ys, sp, hyl, hys.1.asc, hal⟩, ⟨by decide, SImp.of_wk (ren := []) ⟨⟨q, x.i, s1, x.was, hwl, hPA⟩, z, ys, sp, hyl, hys.1.asc, hal⟩ (by (refine ⟨?_, ?_, rfl, tl_ok rfl, ?_, ⟨Nat.le_of_ble_eq_true rfl, rfl⟩⟩ <;> (repeat' first | with_reducible exact trivial | exact AV.sub_same _ | exact .same _ | exact .inr rfl | exact .inl (in_ok rfl) | exact AV.sub_lit' | exact AV.sub_nilS | exact .none _ _ | exact trivial | refine ⟨?_, ?_⟩))) rfl⟩, ?_⟩
    rintro _ rfl _
    have hperm : ys.Perm xs1 := hys.1.holds.uniq hk.h
    have c1 : (z.al : Int) = (ys.length : Int) := by
      have a1 := hz.al
      rw [hz2] at a1
      have a2 := hk.count (by omega)
      have a3 := hperm.length_eq
      have a1 : z.al = aliveN s1 200 := a1
      omega
    have c2 : (ys.length : Int) = (MO.keys s1).length := by
      have a3 := hperm.length_eq
      have a4 := hk.keys.length_eq
      simp only [List.length_map] at a4
      omega
    have c3 : IntKind.wrap .i64 (wsum ys) = MO.weight s1 := by rw [hk.wt, wsum_perm hperm]
    have hJ : J0 q ⟨x.i + 1, s1, z.was⟩ := ⟨hlt', ⟨_, _, hk⟩, by show MO.given s1 ≤ ((x.i + 1 : Nat) : Int); omega, hz.wl, fun j a b => hz.new j a (by rw [hz2]; exact b)⟩
    refine ⟨fun hh => absurd c1 hh, fun _ => ⟨fun hh => absurd c2 hh, fun _ => ⟨fun hh => absurd c3 hh, fun _ => ?_⟩⟩⟩
    exact hnx _ ⟨x.i + 1, s1, z.was⟩ hlt' hJ rfl (by (refine ⟨?_, ?_, rfl, tl_ok rfl, ?_, ⟨Nat.le_of_ble_eq_true rfl, rfl⟩⟩ <;> (repeat' first | with_reducible exact trivial | (exact AV.sub_int hw) | exact AV.sub_same _ | exact .same _ | exact .inr rfl | exact .inl (in_ok rfl) | exact AV.sub_lit' | exact AV.sub_nilS | exact .none _ _ | exact trivial | refine ⟨?_, ?_⟩)))
  · have hk := hx
    have hgo : ∀ n, Goes (stateOf x.x n) (stateOf x.x n) := fun n => .inl rfl
    have hgv : x.x.given ≤ x.i + 1 := by omega
    have hPA : ∀ j : Nat, 1 ≤ j → j < 200 → Goes (x.was.getD j 0) (stateOf x.x (j : Int)) := fun j a b => by rw [hww j a b]; exact hgo _
    refine ⟨la_ok, fun p => p = ⟨q, x.i, x.x, x.was, hwl, hPA⟩, ⟨by decide, SImp.of_wk (ren := []) ⟨q, x.i, x.x, x.was, hwl, hPA⟩ (by (refine ⟨?_, ?_, rfl, tl_ok rfl, ?_, ⟨Nat.le_of_ble_eq_true rfl, rfl⟩⟩ <;> (repeat' first | with_reducible exact trivial | exact AV.sub_same _ | exact .same _ | exact .inr rfl | exact .inl (in_ok rfl) | exact AV.sub_lit' | exact AV.sub_nilS | exact .none _ _ | exact trivial | refine ⟨?_, ?_⟩))) rfl⟩, ?_⟩
    rintro _ rfl z ⟨hz, hz2⟩
    refine ⟨_, hk.m, fun ys sp hys => ?_⟩
    have hal : ∀ e ∈ ys, stateOf x.x e.node = 1 := fun e he => (hk.alive _).2 ⟨e, (hk.h.mem e).2 ((hys.1.mem e).1 he), rfl⟩
    have hyl : ys.length ≤ 1099511627776 := by have := hys.2; omega
    refine ⟨lb_ok, fun p => p = ⟨⟨q, x.i, x.x, x.was, hwl, hPA⟩, z, ys, sp, hyl, hys.1.asc, hal⟩, ⟨by decide, SImp.of_wk (ren := []) ⟨⟨q, x.i, x.x, x.was, hwl, hPA⟩, z, ys, sp, hyl, hys.1.asc, hal⟩ (by (refine ⟨?_, ?_, rfl, tl_ok rfl, ?_, ⟨Nat.le_of_ble_eq_true rfl, rfl⟩⟩ <;> (repeat' first | with_reducible exact trivial | exact AV.sub_same _ | exact .same _ | exact .inr rfl | exact .inl (in_ok rfl) | exact AV.sub_lit' | exact AV.sub_nilS | exact .none _ _ | exact trivial | refine ⟨?_, ?_⟩))) rfl⟩, ?_⟩
    rintro _ rfl _
    have hperm : ys.Perm xs := hys.1.holds.uniq hk.h
    have c1 : (z.al : Int) = (ys.length : Int) := by
      have a1 := hz.al
      rw [hz2] at a1
      have a2 := hk.count (by omega)
      have a3 := hperm.length_eq
      have a1 : z.al = aliveN x.x 200 := a1
      omega
    have c2 : (ys.length : Int) = (MO.keys x.x).length := by
      have a3 := hperm.length_eq
      have a4 := hk.keys.length_eq
      simp only [List.length_map] at a4
      omega
    have c3 : IntKind.wrap .i64 (wsum ys) = MO.weight x.x := by rw [hk.wt, wsum_perm hperm]
    have hJ : J0 q ⟨x.i + 1, x.x, z.was⟩ := ⟨hlt', ⟨_, _, hk⟩, by show MO.given x.x ≤ ((x.i + 1 : Nat) : Int); omega, hz.wl, fun j a b => hz.new j a (by rw [hz2]; exact b)⟩
    refine ⟨fun hh => absurd c1 hh, fun _ => ⟨fun hh => absurd c2 hh, fun _ => ⟨fun hh => absurd c3 hh, fun _ => ?_⟩⟩⟩
    exact hnx _ ⟨x.i + 1, x.x, z.was⟩ hlt' hJ rfl (by (refine ⟨?_, ?_, rfl, tl_ok rfl, ?_, ⟨Nat.le_of_ble_eq_true rfl, rfl⟩⟩ <;> (repeat' first | with_reducible exact trivial | (exact AV.sub_int hw) | exact AV.sub_same _ | exact .same _ | exact .inr rfl | exact .inl (in_ok rfl) | exact AV.sub_lit' | exact AV.sub_nilS | exact .none _ _ | exact trivial | refine ⟨?_, ?_⟩)))
  · obtain ⟨hk, a3⟩ := hx.bury r.b
    have hgo := bury_goes x.x r.b
    rw [← hs1] at hk a3 hgo
    have hgv : s1.given ≤ x.i + 1 := by omega
    have hPA : ∀ j : Nat, 1 ≤ j → j < 200 → Goes (x.was.getD j 0) (stateOf s1 (j : Int)) := fun j a b => by rw [hww j a b]; exact hgo _
    refine ⟨la_ok, fun p => p = ⟨q, x.i, s1, x.was, hwl, hPA⟩, ⟨by decide, SImp.of_wk (ren := []) ⟨q, x.i, s1, x.was, hwl, hPA⟩ (by (refine ⟨?_, ?_, rfl, tl_ok rfl, ?_, ⟨Nat.le_of_ble_eq_true rfl, rfl⟩⟩ <;> (repeat' first | with_reducible exact trivial | exact AV.sub_same _ | exact .same _ | exact .inr rfl | exact .inl (in_ok rfl) | exact AV.sub_lit' | exact AV.sub_nilS | exact .none _ _ | exact trivial | refine ⟨?_, ?_⟩))) rfl⟩, ?_⟩
    rintro _ rfl z ⟨hz, hz2⟩
    refine ⟨_, hk.m, fun ys sp hys => ?_⟩
    have hal : ∀ e ∈ ys, stateOf s1 e.node = 1 := fun e he => (hk.alive _).2 ⟨e, (hk.h.mem e).2 ((hys.1.mem e).1 he), rfl⟩
    have hyl : ys.length ≤ 1099511627776 := by have := hys.2; omega
    refine ⟨lb_ok, fun p => p = ⟨⟨q, x.i, s1, x.was, hwl, hPA⟩, z, ys, sp, hyl, hys.1.asc, hal⟩, ⟨by decide, SImp.of_wk (ren := []) ⟨⟨q, x.i, s1, x.was, hwl, hPA⟩, z, ys, sp, hyl, hys.1.asc, hal⟩ (by (refine ⟨?_, ?_, rfl, tl_ok rfl, ?_, ⟨Nat.le_of_ble_eq_true rfl, rfl⟩⟩ <;> (repeat' first | with_reducible exact trivial | exact AV.sub_same _ | exact .same _ | exact .inr rfl | exact .inl (in_ok rfl) | exact AV.sub_lit' | exact AV.sub_nilS | exact .none _ _ | exact trivial | refine ⟨?_, ?_⟩))) rfl⟩, ?_⟩
    rintro _ rfl _
    have hperm : ys.Perm xs := hys.1.holds.uniq hk.h
    have c1 : (z.al : Int) = (ys.length : Int) := by
      have a1 := hz.al
      rw [hz2] at a1
      have a2 := hk.count (by omega)
      have a3 := hperm.length_eq
      have a1 : z.al = aliveN s1 200 := a1
      omega
    have c2 : (ys.length : Int) = (MO.keys s1).length := by
      have a3 := hperm.length_eq
      have a4 := hk.keys.length_eq
      simp only [List.length_map] at a4
      omega
    have c3 : IntKind.wrap .i64 (wsum ys) = MO.weight s1 := by rw [hk.wt, wsum_perm hperm]
    have hJ : J0 q ⟨x.i + 1, s1, z.was⟩ := ⟨hlt', ⟨_, _, hk⟩, by show MO.given s1 ≤ ((x.i + 1 : Nat) : Int); omega, hz.wl, fun j a b => hz.new j a (by rw [hz2]; exact b)⟩
    refine ⟨fun hh => absurd c1 hh, fun _ => ⟨fun hh => absurd c2 hh, fun _ => ⟨fun hh => absurd c3 hh, fun _ => ?_⟩⟩⟩
    exact hnx _ ⟨x.i + 1, s1, z.was⟩ hlt' hJ rfl (by (refine ⟨?_, ?_, rfl, tl_ok rfl, ?_, ⟨Nat.le_of_ble_eq_true rfl, rfl⟩⟩ <;> (repeat' first | with_reducible exact trivial | (exact AV.sub_int hw) | exact AV.sub_same _ | exact .same _ | exact .inr rfl | exact .inl (in_ok rfl) | exact AV.sub_lit' | exact AV.sub_nilS | exact .none _ _ | exact trivial | refine ⟨?_, ?_⟩)))
  · have hk := hx
    have hgo : ∀ n, Goes (stateOf x.x n) (stateOf x.x n) := fun n => .inl rfl
    have hgv : x.x.given ≤ x.i + 1 := by omega
    have hPA : ∀ j : Nat, 1 ≤ j → j < 200 → Goes (x.was.getD j 0) (stateOf x.x (j : Int)) := fun j a b => by rw [hww j a b]; exact hgo _
    refine ⟨la_ok, fun p => p = ⟨q, x.i, x.x, x.was, hwl, hPA⟩, ⟨by decide, SImp.of_wk (ren := []) ⟨q, x.i, x.x, x.was, hwl, hPA⟩ (by (refine ⟨?_, ?_, rfl, tl_ok rfl, ?_, ⟨Nat.le_of_ble_eq_true rfl, rfl⟩⟩ <;> (repeat' first | with_reducible exact trivial | exact AV.sub_same _ | exact .same _ | exact .inr rfl | exact .inl (in_ok rfl) | exact AV.sub_lit' | exact AV.sub_nilS | exact .none _ _ | exact trivial | refine ⟨?_, ?_⟩))) rfl⟩, ?_⟩
    rintro _ rfl z ⟨hz, hz2⟩
    refine ⟨_, hk.m, fun ys sp hys => ?_⟩
    have hal : ∀ e ∈ ys, stateOf x.x e.node = 1 := fun e he => (hk.alive _).2 ⟨e, (hk.h.mem e).2 ((hys.1.mem e).1 he), rfl⟩
    have hyl : ys.length ≤ 1099511627776 := by have := hys.2; omega
    refine ⟨lb_ok, fun p => p = ⟨⟨q, x.i, x.x, x.was, hwl, hPA⟩, z, ys, sp, hyl, hys.1.asc, hal⟩, ⟨by decide, SImp.of_wk (ren := []) ⟨⟨q, x.i, x.x, x.was, hwl, hPA⟩, z, ys, sp, hyl, hys.1.asc, hal⟩ (by (refine ⟨?_, ?_, rfl, tl_ok rfl, ?_, ⟨Nat.le_of_ble_eq_true rfl, rfl⟩⟩ <;> (repeat' first | with_reducible exact trivial | exact AV.sub_same _ | exact .same _ | exact .inr rfl | exact .inl (in_ok rfl) | exact AV.sub_lit' | exact AV.sub_nilS | exact .none _ _ | exact trivial | refine ⟨?_, ?_⟩))) rfl⟩, ?_⟩
    rintro _ rfl _
    have hperm : ys.Perm xs := hys.1.holds.uniq hk.h
    have c1 : (z.al : Int) = (ys.length : Int) := by
      have a1 := hz.al
      rw [hz2] at a1
      have a2 := hk.count (by omega)
      have a3 := hperm.length_eq
      have a1 : z.al = aliveN x.x 200 := a1
      omega
    have c2 : (ys.length : Int) = (MO.keys x.x).length := by
      have a3 := hperm.length_eq
      have a4 := hk.keys.length_eq
      simp only [List.length_map] at a4
      omega
    have c3 : IntKind.wrap .i64 (wsum ys) = MO.weight x.x := by rw [hk.wt, wsum_perm hperm]
    have hJ : J0 q ⟨x.i + 1, x.x, z.was⟩ := ⟨hlt', ⟨_, _, hk⟩, by show MO.given x.x ≤ ((x.i + 1 : Nat) : Int); omega, hz.wl, fun j a b => hz.new j a (by rw [hz2]; exact b)⟩
    refine ⟨fun hh => absurd c1 hh, fun _ => ⟨fun hh => absurd c2 hh, fun _ => ⟨fun hh => absurd c3 hh, fun _ => ?_⟩⟩⟩
    exact hnx _ ⟨x.i + 1, x.x, z.was⟩ hlt' hJ rfl (by (refine ⟨?_, ?_, rfl, tl_ok rfl, ?_, ⟨Nat.le_of_ble_eq_true rfl, rfl⟩⟩ <;> (repeat' first | with_reducible exact trivial | (exact AV.sub_int hw) | exact AV.sub_same _ | exact .same _ | exact .inr rfl | exact .inl (in_ok rfl) | exact AV.sub_lit' | exact AV.sub_nilS | exact .none _ _ | exact trivial | refine ⟨?_, ?_⟩)))
theorem ll0_ok : LoopOk Try.prog 0 (loopOf Try.f5 0) LL0 := by
  refine trimLoop_ok (trim_ok _ _) (loopTH_ok (C := cfgX5a) cfgX5a_ok (f := 5) (n := 60) (trim_ok [2, 7, 8, 9, 10] [0, 1, 2]) 3 (fun p : P0s => LI0 p.q) (fun p x => J0 p.q x) (fun p => ⟨0, p.x0, p.w0⟩) (fun p x => p.q.l.length - x.i) (fun p (z : MO × List Int) => J0 p.q ⟨p.q.l.length, z.1, z.2⟩) (fun p z => LI0 p.q ⟨p.q.l.length, z.1, z.2⟩) (fun p => p.h) ?_)
  intro p x h
  refine body50 p.q x h _ _ (fun ST y hlt hy he hw => SImp.of_wk y hw ⟨hy, ?_⟩) (fun ST he hw => ⟨rfl, SImp.of_wk (ren := []) (x.x, x.was) ?_ ?_⟩)
  · show p.q.l.length - y.i < p.q.l.length - x.i; omega
  · obtain ⟨i, a, b⟩ := x; simp only at he; subst he; exact hw
  · obtain ⟨i, a, b⟩ := x; simp only at he; subst he; exact h
/-- The law, as the machine tells it. -/
theorem law5 (n s : Int) (l : List Four) (c : Nat) : (runL cfgX5b 60 5 Try.f5 [.int .i64 n, .int .i64 s, .sl false 0 0 4 l.length c] [(0, .ro Kd.four l)] 1).holds ⟨fun _ _ => False, fun v _ _ => v.sub .tt⟩ := by
  rw [t50]
  rintro sx ⟨e1, m1, _⟩
  simp only [Out.holds, decide_eq_true_eq, decide_eq_false_iff_not, beq_iff_eq, beq_eq_false_iff_ne, bne_iff_ne, ne_eq, bne_eq_false_iff_eq, Bool.true_and, Bool.and_true, Bool.not_eq_true', Bool.not_eq_false', Bool.and_eq_true, Bool.or_eq_true, Bool.and_eq_false_imp, true_implies, true_and, Bool.not_true, Bool.not_false, Bool.false_eq_true, Bool.true_eq_false, false_implies, and_true, beq_self_eq_true, Decidable.not_not, not_true_eq_false, not_false_eq_true]
  refine ⟨fun _ => AV.sub_same _, fun hl => ?_⟩
  have gx : sx.given = 0 := by rw [e1]; rfl
  have hq : l.length ≤ 150 := by omega
  have hJ : J0 ⟨l, c, hq⟩ ⟨0, sx, List.replicate 200 0⟩ := ⟨Nat.zero_le _, ⟨_, _, MK.new n s sx e1 m1⟩, by show sx.given ≤ _; rw [gx]; exact Int.le_refl _, List.length_replicate .., fun j a b => by
    have hs : stateOf sx (j : Int) = 0 := by unfold stateOf; rw [if_pos (by omega)]
    rw [hs, List.getD_eq_getElem?_getD, List.getElem?_replicate, if_pos b]; rfl⟩
  refine ⟨⟨by decide, by decide, by decide⟩, ll0_ok, fun p => p = ⟨⟨l, c, hq⟩, sx, List.replicate 200 0, hJ⟩, ⟨Nat.le_refl _, SImp.of_wk (ren := []) ⟨⟨l, c, hq⟩, sx, List.replicate 200 0, hJ⟩ (by (refine ⟨?_, ?_, rfl, tl_ok rfl, ?_, ⟨Nat.le_of_ble_eq_true rfl, rfl⟩⟩ <;> (repeat' first | with_reducible exact trivial | exact AV.sub_same _ | exact .same _ | exact .inr rfl | exact .inl (in_ok rfl) | exact AV.sub_lit' | exact AV.sub_nilS | exact .none _ _ | exact trivial | refine ⟨?_, ?_⟩))) rfl⟩, ?_⟩
  rintro _ rfl ⟨zx, zw⟩ hz
  exact AV.sub_same _
theorem law5_calls (n s : Int) (l : List Four) (c : Nat) : CallsSx Try.prog 5 [.int .i64 n, .int .i64 s, .sl false 0 0 4 l.length c] ([(0, .ro Kd.four l)] : Heap V) 1 (fun v _ _ _ => v.sub .tt) :=
  calls_runL cfgX5b_ok (n := 60) (fn := Try.f5) ⟨by kernel_rfl, by kernel_rfl⟩ (by kernel_rfl) (show 3 ≤ _ by decide +kernel) (law5 n s l c)

end Sx
end Go.Proofs.Ytohckjjbephohaa

